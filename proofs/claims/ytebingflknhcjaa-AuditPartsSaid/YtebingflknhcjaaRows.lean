/-
  No cell of these rows narrows 'for every input' (looked for: loops, veiled, ifaces, maps, wideKeys, modest, calm, conditions, laid).
  DERIVED. THE GIVEN ROWS OF THIS SEAT. 4 by the template 'for every input the law returns true; each argument reads behind the call as it read before'; 0 by the template 'total and deterministic' (their statements: YtebingflknhcjaaTotals.lean).
  GIVEN WITH THE SEED: the statements are not yours to turn. If you find one false, say at which input.
  Laid BY PROGRAM, IN A SANDBOX (cutbox-rows.mjs): the forced cells as the released guide's own fill.sh prints them over the translation ac0627dd466e609d… (all of the seat's roots in one cut). By AI agents, Wed Nov 11 2026. No macro, syntax, notation, axiom, sorry.
-/
import Derived.Test.YtebingflknhcjaaChecked
import GoSem.Claim
import GoSem.ClaimJoined
import GoSem.ClaimMapViews
import Derived.JoinedTies
import Derived.KernelRfl
namespace Go.Proofs.Ytebingflknhcjaa
/- THE CELL 'sum', in the pinned program and in every row, IS THE sha256 OF THE DUMP (.gsa) THAT YtebingflknhcjaaProg.lean LOADS. Nothing in Lean hashes anything: it is a label: what it is worth is what the hold of that sum in a sandbox is worth. -/
noncomputable def Try.pinned : Pinned := { name := "ytebingflknhcjaa", sum := "ac0627dd466e609d470253a8e0e8602946eaa5683972ae3caeb821c831a8f77c", checked := Try.checked }
namespace Rows
def none {H : Type} : Left H := { results := [], args := [] }

/-- 'instarlaw21.AuditRight': WHATEVER THE INPUT: true; the input reads as it did. -/
def auditRightSpec : ChangeSpec := { name := "auditRight", fn := fun _ => fun
  | [d1, d2, d3, d4] => { results := [.lit (.bool true)], args := [d1, d2, d3, d4] }
  | _ => none }
def auditRightRow : OpenClaim := { program := "ytebingflknhcjaa", sum := "ac0627dd466e609d470253a8e0e8602946eaa5683972ae3caeb821c831a8f77c", func := "instar/instarlaw21.AuditRight", spec := "auditRight", unfollowed := true, recurses := true, apart := false }
def AuditRightSaid : Prop := auditRightRow.holds Try.pinned (OpenSpec.ofChange auditRightSpec)

/-- ITS FALSE NEIGHBOUR: 'it returns false'. Refute it at one input. -/
def auditRightWrong : ChangeSpec := { name := "auditRight", fn := fun _ => fun
  | [d1, d2, d3, d4] => { results := [.lit (.bool false)], args := [d1, d2, d3, d4] }
  | _ => none }
def AuditRightWrongFalsely : Prop := auditRightRow.holds Try.pinned (OpenSpec.ofChange auditRightWrong)

/-- 'instarlaw21.AuditParts': WHATEVER THE INPUT: true; the input reads as it did. -/
def auditPartsSpec : ChangeSpec := { name := "auditParts", fn := fun _ => fun
  | [d1, d2, d3] => { results := [.lit (.bool true)], args := [d1, d2, d3] }
  | _ => none }
def auditPartsRow : OpenClaim := { program := "ytebingflknhcjaa", sum := "ac0627dd466e609d470253a8e0e8602946eaa5683972ae3caeb821c831a8f77c", func := "instar/instarlaw21.AuditParts", spec := "auditParts", unfollowed := true, recurses := true, apart := false }
def AuditPartsSaid : Prop := auditPartsRow.holds Try.pinned (OpenSpec.ofChange auditPartsSpec)

/-- ITS FALSE NEIGHBOUR: 'it returns false'. Refute it at one input. -/
def auditPartsWrong : ChangeSpec := { name := "auditParts", fn := fun _ => fun
  | [d1, d2, d3] => { results := [.lit (.bool false)], args := [d1, d2, d3] }
  | _ => none }
def AuditPartsWrongFalsely : Prop := auditPartsRow.holds Try.pinned (OpenSpec.ofChange auditPartsWrong)

/-- 'instarlaw21.AuditLives': WHATEVER THE INPUT: true; the input reads as it did. -/
def auditLivesSpec : ChangeSpec := { name := "auditLives", fn := fun _ => fun
  | [d] => { results := [.lit (.bool true)], args := [d] }
  | _ => none }
def auditLivesRow : OpenClaim := { program := "ytebingflknhcjaa", sum := "ac0627dd466e609d470253a8e0e8602946eaa5683972ae3caeb821c831a8f77c", func := "instar/instarlaw21.AuditLives", spec := "auditLives", unfollowed := true, recurses := true, apart := false }
def AuditLivesSaid : Prop := auditLivesRow.holds Try.pinned (OpenSpec.ofChange auditLivesSpec)

/-- ITS FALSE NEIGHBOUR: 'it returns false'. Refute it at one input. -/
def auditLivesWrong : ChangeSpec := { name := "auditLives", fn := fun _ => fun
  | [d] => { results := [.lit (.bool false)], args := [d] }
  | _ => none }
def AuditLivesWrongFalsely : Prop := auditLivesRow.holds Try.pinned (OpenSpec.ofChange auditLivesWrong)

/-- 'instarlaw21.AuditSums': WHATEVER THE INPUT: true; the input reads as it did. -/
def auditSumsSpec : ChangeSpec := { name := "auditSums", fn := fun _ => fun
  | [d1, d2, d3, d4, d5] => { results := [.lit (.bool true)], args := [d1, d2, d3, d4, d5] }
  | _ => none }
def auditSumsRow : OpenClaim := { program := "ytebingflknhcjaa", sum := "ac0627dd466e609d470253a8e0e8602946eaa5683972ae3caeb821c831a8f77c", func := "instar/instarlaw21.AuditSums", spec := "auditSums", unfollowed := true, recurses := true, apart := false }
def AuditSumsSaid : Prop := auditSumsRow.holds Try.pinned (OpenSpec.ofChange auditSumsSpec)

/-- ITS FALSE NEIGHBOUR: 'it returns false'. Refute it at one input. -/
def auditSumsWrong : ChangeSpec := { name := "auditSums", fn := fun _ => fun
  | [d1, d2, d3, d4, d5] => { results := [.lit (.bool false)], args := [d1, d2, d3, d4, d5] }
  | _ => none }
def AuditSumsWrongFalsely : Prop := auditSumsRow.holds Try.pinned (OpenSpec.ofChange auditSumsWrong)

/- THE SECOND FORM. 'bulk': how many values and letters a reading holds, each counted each time it is reached (what is shared counts as often as it is met; a slice's spare places count too). A statement '..UptoSaid' is the law's where the arguments, and the package variables that the reading takes, are together of bulk at most 1048576: NARROWER than '..Said'. Prove '..Said' where nothing that the law and all that it calls make is longer than what came in: it says more and counts as full. Else prove '..UptoSaid'. A law counts once. -/
mutual
def uptoBulk {H : Type} : DataW H → Nat
  | .lit (.string bytes) => bytes.length + 1
  | .lit _ => 1
  | .nil => 1
  | .ptr d => uptoBulk d + 1
  | .slice elems spare => uptoBulkAll elems + uptoBulkAll spare + 1
  | .agg parts => uptoBulkAll parts + 1
  | .iface _ d => uptoBulk d + 1
  | .map entries => uptoBulkEntries entries + 1
  | .held _ => 1
def uptoBulkAll {H : Type} : List (DataW H) → Nat
  | [] => 0
  | d :: r => uptoBulk d + uptoBulkAll r
def uptoBulkEntries {H : Type} : List (Lit × DataW H) → Nat
  | [] => 0
  | x :: r => uptoBulkEntry x + uptoBulkEntries r
def uptoBulkEntry {H : Type} : Lit × DataW H → Nat
  | (.string bytes, d) => bytes.length + uptoBulk d + 1
  | (_, d) => uptoBulk d + 1
 end
def uptoSmall : (H : Type) → List (DataW H) → Bool := fun _ ds => decide (uptoBulkAll ds ≤ 1048576)
def OpenSpec.upto (s : _root_.Go.ChangeSpec) : _root_.Go.OpenSpec := { _root_.Go.OpenSpec.ofChange s with cond := some uptoSmall }

/-- 'instarlaw21.AuditRight', WHERE WHAT IT READS IS OF BULK AT MOST 1048576: true; the input reads as it did. -/
def auditRightUptoRow : OpenClaim := { program := "ytebingflknhcjaa", sum := "ac0627dd466e609d470253a8e0e8602946eaa5683972ae3caeb821c831a8f77c", func := "instar/instarlaw21.AuditRight", spec := "auditRight", unfollowed := true, recurses := true, apart := false, narrowed := true }
def AuditRightUptoSaid : Prop := auditRightUptoRow.holds Try.pinned (OpenSpec.upto auditRightSpec)

/-- 'instarlaw21.AuditParts', WHERE WHAT IT READS IS OF BULK AT MOST 1048576: true; the input reads as it did. -/
def auditPartsUptoRow : OpenClaim := { program := "ytebingflknhcjaa", sum := "ac0627dd466e609d470253a8e0e8602946eaa5683972ae3caeb821c831a8f77c", func := "instar/instarlaw21.AuditParts", spec := "auditParts", unfollowed := true, recurses := true, apart := false, narrowed := true }
def AuditPartsUptoSaid : Prop := auditPartsUptoRow.holds Try.pinned (OpenSpec.upto auditPartsSpec)

/-- 'instarlaw21.AuditLives', WHERE WHAT IT READS IS OF BULK AT MOST 1048576: true; the input reads as it did. -/
def auditLivesUptoRow : OpenClaim := { program := "ytebingflknhcjaa", sum := "ac0627dd466e609d470253a8e0e8602946eaa5683972ae3caeb821c831a8f77c", func := "instar/instarlaw21.AuditLives", spec := "auditLives", unfollowed := true, recurses := true, apart := false, narrowed := true }
def AuditLivesUptoSaid : Prop := auditLivesUptoRow.holds Try.pinned (OpenSpec.upto auditLivesSpec)

/-- 'instarlaw21.AuditSums', WHERE WHAT IT READS IS OF BULK AT MOST 1048576: true; the input reads as it did. -/
def auditSumsUptoRow : OpenClaim := { program := "ytebingflknhcjaa", sum := "ac0627dd466e609d470253a8e0e8602946eaa5683972ae3caeb821c831a8f77c", func := "instar/instarlaw21.AuditSums", spec := "auditSums", unfollowed := true, recurses := true, apart := false, narrowed := true }
def AuditSumsUptoSaid : Prop := auditSumsUptoRow.holds Try.pinned (OpenSpec.upto auditSumsSpec)

end Rows
end Go.Proofs.Ytebingflknhcjaa
