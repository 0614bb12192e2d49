/-
  No cell of these rows narrows 'for every input' (looked for: loops, veiled, ifaces, maps, wideKeys, modest, calm, conditions, laid).
  DERIVED. THE GIVEN ROWS OF THIS SEAT. 2 by the template 'for every input the law returns true; each argument reads behind the call as it read before'; 0 by the template 'total and deterministic' (their statements: YtadjfbmhbfjjaaaTotals.lean).
  GIVEN WITH THE SEED: the statements are not yours to turn. If you find one false, say at which input.
  Laid BY PROGRAM, IN A SANDBOX (cutbox-rows.mjs): the forced cells as the released guide's own fill.sh prints them over the translation 12fba047444fdcb3… (all of the seat's roots in one cut). By AI agents, Wed Nov 11 2026. No macro, syntax, notation, axiom, sorry.
-/
import Derived.Test.YtadjfbmhbfjjaaaChecked
import GoSem.Claim
import GoSem.ClaimJoined
import GoSem.ClaimMapViews
import Derived.JoinedTies
import Derived.KernelRfl
namespace Go.Proofs.Ytadjfbmhbfjjaaa
/- THE CELL 'sum', in the pinned program and in every row, IS THE sha256 OF THE DUMP (.gsa) THAT YtadjfbmhbfjjaaaProg.lean LOADS. Nothing in Lean hashes anything: it is a label: what it is worth is what the hold of that sum in a sandbox is worth. -/
noncomputable def Try.pinned : Pinned := { name := "ytadjfbmhbfjjaaa", sum := "12fba047444fdcb3a1f61f6866e6a49381b47b7377a96ce5e0d9ef2a0518670e", checked := Try.checked }
namespace Rows
def none {H : Type} : Left H := { results := [], args := [] }

/-- 'instarlaw14.AbleRight': WHATEVER THE INPUT: true; the input reads as it did. -/
def ableRightSpec : ChangeSpec := { name := "ableRight", fn := fun _ => fun
  | [d1, d2] => { results := [.lit (.bool true)], args := [d1, d2] }
  | _ => none }
def ableRightRow : OpenClaim := { program := "ytadjfbmhbfjjaaa", sum := "12fba047444fdcb3a1f61f6866e6a49381b47b7377a96ce5e0d9ef2a0518670e", func := "instar/instarlaw14.AbleRight", spec := "ableRight", inPlace := ["internal/bytealg.IndexByteString", "internal/bytealg.IndexString", "internal/abi.NoEscape"], unfollowed := true, recurses := true, named := ["internal/bytealg.MaxLen"], apart := false }
def AbleRightSaid : Prop := ableRightRow.holds Try.pinned (OpenSpec.ofChange ableRightSpec)

/-- ITS FALSE NEIGHBOUR: 'it returns false'. Refute it at one input. -/
def ableRightWrong : ChangeSpec := { name := "ableRight", fn := fun _ => fun
  | [d1, d2] => { results := [.lit (.bool false)], args := [d1, d2] }
  | _ => none }
def AbleRightWrongFalsely : Prop := ableRightRow.holds Try.pinned (OpenSpec.ofChange ableRightWrong)

/-- 'instarlaw14.AbleNone': WHATEVER THE INPUT: true; the input reads as it did. -/
def ableNoneSpec : ChangeSpec := { name := "ableNone", fn := fun _ => fun
  | [d1, d2] => { results := [.lit (.bool true)], args := [d1, d2] }
  | _ => none }
def ableNoneRow : OpenClaim := { program := "ytadjfbmhbfjjaaa", sum := "12fba047444fdcb3a1f61f6866e6a49381b47b7377a96ce5e0d9ef2a0518670e", func := "instar/instarlaw14.AbleNone", spec := "ableNone", inPlace := ["internal/bytealg.IndexByteString", "internal/bytealg.IndexString", "internal/abi.NoEscape"], unfollowed := true, recurses := true, named := ["internal/bytealg.MaxLen"], apart := false }
def AbleNoneSaid : Prop := ableNoneRow.holds Try.pinned (OpenSpec.ofChange ableNoneSpec)

/-- ITS FALSE NEIGHBOUR: 'it returns false'. Refute it at one input. -/
def ableNoneWrong : ChangeSpec := { name := "ableNone", fn := fun _ => fun
  | [d1, d2] => { results := [.lit (.bool false)], args := [d1, d2] }
  | _ => none }
def AbleNoneWrongFalsely : Prop := ableNoneRow.holds Try.pinned (OpenSpec.ofChange ableNoneWrong)

/- THE SECOND FORM. 'bulk': how many values and letters a reading holds, each counted each time it is reached (what is shared counts as often as it is met; a slice's spare places count too). A statement '..UptoSaid' is the law's where the arguments, and the package variables that the reading takes, are together of bulk at most 1048576: NARROWER than '..Said'. Prove '..Said' where nothing that the law and all that it calls make is longer than what came in: it says more and counts as full. Else prove '..UptoSaid'. A law counts once. -/
mutual
def uptoBulk {H : Type} : DataW H → Nat
  | .lit (.string bytes) => bytes.length + 1
  | .lit _ => 1
  | .nil => 1
  | .ptr d => uptoBulk d + 1
  | .slice elems spare => uptoBulkAll elems + uptoBulkAll spare + 1
  | .agg parts => uptoBulkAll parts + 1
  | .iface _ d => uptoBulk d + 1
  | .map entries => uptoBulkEntries entries + 1
  | .held _ => 1
def uptoBulkAll {H : Type} : List (DataW H) → Nat
  | [] => 0
  | d :: r => uptoBulk d + uptoBulkAll r
def uptoBulkEntries {H : Type} : List (Lit × DataW H) → Nat
  | [] => 0
  | x :: r => uptoBulkEntry x + uptoBulkEntries r
def uptoBulkEntry {H : Type} : Lit × DataW H → Nat
  | (.string bytes, d) => bytes.length + uptoBulk d + 1
  | (_, d) => uptoBulk d + 1
 end
def uptoSmall : (H : Type) → List (DataW H) → Bool := fun _ ds => decide (uptoBulkAll ds ≤ 1048576)
def OpenSpec.upto (s : _root_.Go.ChangeSpec) : _root_.Go.OpenSpec := { _root_.Go.OpenSpec.ofChange s with cond := some uptoSmall }

/-- 'instarlaw14.AbleRight', WHERE WHAT IT READS IS OF BULK AT MOST 1048576: true; the input reads as it did. -/
def ableRightUptoRow : OpenClaim := { program := "ytadjfbmhbfjjaaa", sum := "12fba047444fdcb3a1f61f6866e6a49381b47b7377a96ce5e0d9ef2a0518670e", func := "instar/instarlaw14.AbleRight", spec := "ableRight", inPlace := ["internal/bytealg.IndexByteString", "internal/bytealg.IndexString", "internal/abi.NoEscape"], unfollowed := true, recurses := true, named := ["internal/bytealg.MaxLen"], apart := false, narrowed := true }
def AbleRightUptoSaid : Prop := ableRightUptoRow.holds Try.pinned (OpenSpec.upto ableRightSpec)

/-- 'instarlaw14.AbleNone', WHERE WHAT IT READS IS OF BULK AT MOST 1048576: true; the input reads as it did. -/
def ableNoneUptoRow : OpenClaim := { program := "ytadjfbmhbfjjaaa", sum := "12fba047444fdcb3a1f61f6866e6a49381b47b7377a96ce5e0d9ef2a0518670e", func := "instar/instarlaw14.AbleNone", spec := "ableNone", inPlace := ["internal/bytealg.IndexByteString", "internal/bytealg.IndexString", "internal/abi.NoEscape"], unfollowed := true, recurses := true, named := ["internal/bytealg.MaxLen"], apart := false, narrowed := true }
def AbleNoneUptoSaid : Prop := ableNoneUptoRow.holds Try.pinned (OpenSpec.upto ableNoneSpec)

end Rows
end Go.Proofs.Ytadjfbmhbfjjaaa
