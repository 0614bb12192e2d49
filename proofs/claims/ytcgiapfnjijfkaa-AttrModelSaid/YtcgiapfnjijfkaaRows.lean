/-
  No cell of these rows narrows 'for every input' (looked for: loops, veiled, ifaces, maps, wideKeys, modest, calm, conditions, laid).
  DERIVED. THE GIVEN ROWS OF THIS SEAT. 5 by the template 'for every input the law returns true; each argument reads behind the call as it read before'; 0 by the template 'total and deterministic' (their statements: YtcgiapfnjijfkaaTotals.lean).
  GIVEN WITH THE SEED: the statements are not yours to turn. If you find one false, say at which input.
  Laid BY PROGRAM, IN A SANDBOX (cutbox-rows.mjs): the forced cells as the released guide's own fill.sh prints them over the translation df54be674d606051… (all of the seat's roots in one cut). By AI agents, Wed Nov 11 2026. No macro, syntax, notation, axiom, sorry.
-/
import Derived.Test.YtcgiapfnjijfkaaChecked
import GoSem.Claim
import GoSem.ClaimJoined
import GoSem.ClaimMapViews
import Derived.JoinedTies
import Derived.KernelRfl
namespace Go.Proofs.Ytcgiapfnjijfkaa
/- THE CELL 'sum', in the pinned program and in every row, IS THE sha256 OF THE DUMP (.gsa) THAT YtcgiapfnjijfkaaProg.lean LOADS. Nothing in Lean hashes anything: it is a label: what it is worth is what the hold of that sum in a sandbox is worth. -/
noncomputable def Try.pinned : Pinned := { name := "ytcgiapfnjijfkaa", sum := "df54be674d60605198a0fcd140a93cfeaba45995a8e3781fdf4a411c32422d71", checked := Try.checked }
namespace Rows
def none {H : Type} : Left H := { results := [], args := [] }

/-- 'instarlaw02.AttrRight': WHATEVER THE INPUT: true; the input reads as it did. -/
def attrRightSpec : ChangeSpec := { name := "attrRight", fn := fun _ => fun
  | [d1, d2, d3, d4, d5] => { results := [.lit (.bool true)], args := [d1, d2, d3, d4, d5] }
  | _ => none }
def attrRightRow : OpenClaim := { program := "ytcgiapfnjijfkaa", sum := "df54be674d60605198a0fcd140a93cfeaba45995a8e3781fdf4a411c32422d71", func := "instar/instarlaw02.AttrRight", spec := "attrRight", unfollowed := true, recurses := true, apart := false }
def AttrRightSaid : Prop := attrRightRow.holds Try.pinned (OpenSpec.ofChange attrRightSpec)

/-- ITS FALSE NEIGHBOUR: 'it returns false'. Refute it at one input. -/
def attrRightWrong : ChangeSpec := { name := "attrRight", fn := fun _ => fun
  | [d1, d2, d3, d4, d5] => { results := [.lit (.bool false)], args := [d1, d2, d3, d4, d5] }
  | _ => none }
def AttrRightWrongFalsely : Prop := attrRightRow.holds Try.pinned (OpenSpec.ofChange attrRightWrong)

/-- 'instarlaw02.AttrModel': WHATEVER THE INPUT: true; the input reads as it did. -/
def attrModelSpec : ChangeSpec := { name := "attrModel", fn := fun _ => fun
  | [d] => { results := [.lit (.bool true)], args := [d] }
  | _ => none }
def attrModelRow : OpenClaim := { program := "ytcgiapfnjijfkaa", sum := "df54be674d60605198a0fcd140a93cfeaba45995a8e3781fdf4a411c32422d71", func := "instar/instarlaw02.AttrModel", spec := "attrModel", unfollowed := true, recurses := true, apart := false }
def AttrModelSaid : Prop := attrModelRow.holds Try.pinned (OpenSpec.ofChange attrModelSpec)

/-- ITS FALSE NEIGHBOUR: 'it returns false'. Refute it at one input. -/
def attrModelWrong : ChangeSpec := { name := "attrModel", fn := fun _ => fun
  | [d] => { results := [.lit (.bool false)], args := [d] }
  | _ => none }
def AttrModelWrongFalsely : Prop := attrModelRow.holds Try.pinned (OpenSpec.ofChange attrModelWrong)

/-- 'instarlaw02.AttrBack': WHATEVER THE INPUT: true; the input reads as it did. -/
def attrBackSpec : ChangeSpec := { name := "attrBack", fn := fun _ => fun
  | [d1, d2, d3, d4] => { results := [.lit (.bool true)], args := [d1, d2, d3, d4] }
  | _ => none }
def attrBackRow : OpenClaim := { program := "ytcgiapfnjijfkaa", sum := "df54be674d60605198a0fcd140a93cfeaba45995a8e3781fdf4a411c32422d71", func := "instar/instarlaw02.AttrBack", spec := "attrBack", unfollowed := true, recurses := true, apart := false }
def AttrBackSaid : Prop := attrBackRow.holds Try.pinned (OpenSpec.ofChange attrBackSpec)

/-- ITS FALSE NEIGHBOUR: 'it returns false'. Refute it at one input. -/
def attrBackWrong : ChangeSpec := { name := "attrBack", fn := fun _ => fun
  | [d1, d2, d3, d4] => { results := [.lit (.bool false)], args := [d1, d2, d3, d4] }
  | _ => none }
def AttrBackWrongFalsely : Prop := attrBackRow.holds Try.pinned (OpenSpec.ofChange attrBackWrong)

/-- 'instarlaw02.AttrOrder': WHATEVER THE INPUT: true; the input reads as it did. -/
def attrOrderSpec : ChangeSpec := { name := "attrOrder", fn := fun _ => fun
  | [d1, d2, d3, d4, d5] => { results := [.lit (.bool true)], args := [d1, d2, d3, d4, d5] }
  | _ => none }
def attrOrderRow : OpenClaim := { program := "ytcgiapfnjijfkaa", sum := "df54be674d60605198a0fcd140a93cfeaba45995a8e3781fdf4a411c32422d71", func := "instar/instarlaw02.AttrOrder", spec := "attrOrder", unfollowed := true, recurses := true, apart := false }
def AttrOrderSaid : Prop := attrOrderRow.holds Try.pinned (OpenSpec.ofChange attrOrderSpec)

/-- ITS FALSE NEIGHBOUR: 'it returns false'. Refute it at one input. -/
def attrOrderWrong : ChangeSpec := { name := "attrOrder", fn := fun _ => fun
  | [d1, d2, d3, d4, d5] => { results := [.lit (.bool false)], args := [d1, d2, d3, d4, d5] }
  | _ => none }
def AttrOrderWrongFalsely : Prop := attrOrderRow.holds Try.pinned (OpenSpec.ofChange attrOrderWrong)

/-- 'instarlaw02.AttrAlike': WHATEVER THE INPUT: true; the input reads as it did. -/
def attrAlikeSpec : ChangeSpec := { name := "attrAlike", fn := fun _ => fun
  | [d1, d2, d3, d4] => { results := [.lit (.bool true)], args := [d1, d2, d3, d4] }
  | _ => none }
def attrAlikeRow : OpenClaim := { program := "ytcgiapfnjijfkaa", sum := "df54be674d60605198a0fcd140a93cfeaba45995a8e3781fdf4a411c32422d71", func := "instar/instarlaw02.AttrAlike", spec := "attrAlike", unfollowed := true, recurses := true, apart := false }
def AttrAlikeSaid : Prop := attrAlikeRow.holds Try.pinned (OpenSpec.ofChange attrAlikeSpec)

/-- ITS FALSE NEIGHBOUR: 'it returns false'. Refute it at one input. -/
def attrAlikeWrong : ChangeSpec := { name := "attrAlike", fn := fun _ => fun
  | [d1, d2, d3, d4] => { results := [.lit (.bool false)], args := [d1, d2, d3, d4] }
  | _ => none }
def AttrAlikeWrongFalsely : Prop := attrAlikeRow.holds Try.pinned (OpenSpec.ofChange attrAlikeWrong)

/- THE SECOND FORM. 'bulk': how many values and letters a reading holds, each counted each time it is reached (what is shared counts as often as it is met; a slice's spare places count too). A statement '..UptoSaid' is the law's where the arguments, and the package variables that the reading takes, are together of bulk at most 1048576: NARROWER than '..Said'. Prove '..Said' where nothing that the law and all that it calls make is longer than what came in: it says more and counts as full. Else prove '..UptoSaid'. A law counts once. -/
mutual
def uptoBulk {H : Type} : DataW H → Nat
  | .lit (.string bytes) => bytes.length + 1
  | .lit _ => 1
  | .nil => 1
  | .ptr d => uptoBulk d + 1
  | .slice elems spare => uptoBulkAll elems + uptoBulkAll spare + 1
  | .agg parts => uptoBulkAll parts + 1
  | .iface _ d => uptoBulk d + 1
  | .map entries => uptoBulkEntries entries + 1
  | .held _ => 1
def uptoBulkAll {H : Type} : List (DataW H) → Nat
  | [] => 0
  | d :: r => uptoBulk d + uptoBulkAll r
def uptoBulkEntries {H : Type} : List (Lit × DataW H) → Nat
  | [] => 0
  | x :: r => uptoBulkEntry x + uptoBulkEntries r
def uptoBulkEntry {H : Type} : Lit × DataW H → Nat
  | (.string bytes, d) => bytes.length + uptoBulk d + 1
  | (_, d) => uptoBulk d + 1
 end
def uptoSmall : (H : Type) → List (DataW H) → Bool := fun _ ds => decide (uptoBulkAll ds ≤ 1048576)
def OpenSpec.upto (s : _root_.Go.ChangeSpec) : _root_.Go.OpenSpec := { _root_.Go.OpenSpec.ofChange s with cond := some uptoSmall }

/-- 'instarlaw02.AttrRight', WHERE WHAT IT READS IS OF BULK AT MOST 1048576: true; the input reads as it did. -/
def attrRightUptoRow : OpenClaim := { program := "ytcgiapfnjijfkaa", sum := "df54be674d60605198a0fcd140a93cfeaba45995a8e3781fdf4a411c32422d71", func := "instar/instarlaw02.AttrRight", spec := "attrRight", unfollowed := true, recurses := true, apart := false, narrowed := true }
def AttrRightUptoSaid : Prop := attrRightUptoRow.holds Try.pinned (OpenSpec.upto attrRightSpec)

/-- 'instarlaw02.AttrModel', WHERE WHAT IT READS IS OF BULK AT MOST 1048576: true; the input reads as it did. -/
def attrModelUptoRow : OpenClaim := { program := "ytcgiapfnjijfkaa", sum := "df54be674d60605198a0fcd140a93cfeaba45995a8e3781fdf4a411c32422d71", func := "instar/instarlaw02.AttrModel", spec := "attrModel", unfollowed := true, recurses := true, apart := false, narrowed := true }
def AttrModelUptoSaid : Prop := attrModelUptoRow.holds Try.pinned (OpenSpec.upto attrModelSpec)

/-- 'instarlaw02.AttrBack', WHERE WHAT IT READS IS OF BULK AT MOST 1048576: true; the input reads as it did. -/
def attrBackUptoRow : OpenClaim := { program := "ytcgiapfnjijfkaa", sum := "df54be674d60605198a0fcd140a93cfeaba45995a8e3781fdf4a411c32422d71", func := "instar/instarlaw02.AttrBack", spec := "attrBack", unfollowed := true, recurses := true, apart := false, narrowed := true }
def AttrBackUptoSaid : Prop := attrBackUptoRow.holds Try.pinned (OpenSpec.upto attrBackSpec)

/-- 'instarlaw02.AttrOrder', WHERE WHAT IT READS IS OF BULK AT MOST 1048576: true; the input reads as it did. -/
def attrOrderUptoRow : OpenClaim := { program := "ytcgiapfnjijfkaa", sum := "df54be674d60605198a0fcd140a93cfeaba45995a8e3781fdf4a411c32422d71", func := "instar/instarlaw02.AttrOrder", spec := "attrOrder", unfollowed := true, recurses := true, apart := false, narrowed := true }
def AttrOrderUptoSaid : Prop := attrOrderUptoRow.holds Try.pinned (OpenSpec.upto attrOrderSpec)

/-- 'instarlaw02.AttrAlike', WHERE WHAT IT READS IS OF BULK AT MOST 1048576: true; the input reads as it did. -/
def attrAlikeUptoRow : OpenClaim := { program := "ytcgiapfnjijfkaa", sum := "df54be674d60605198a0fcd140a93cfeaba45995a8e3781fdf4a411c32422d71", func := "instar/instarlaw02.AttrAlike", spec := "attrAlike", unfollowed := true, recurses := true, apart := false, narrowed := true }
def AttrAlikeUptoSaid : Prop := attrAlikeUptoRow.holds Try.pinned (OpenSpec.upto attrAlikeSpec)

end Rows
end Go.Proofs.Ytcgiapfnjijfkaa
