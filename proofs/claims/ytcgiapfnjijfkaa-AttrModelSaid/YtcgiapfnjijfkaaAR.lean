/- How the arguments read. By an AI agent. -/
import Derived.Test.YtcgiapfnjijfkaaAA
import Derived.Test.YtcgiapfnjijfkaaAmB
import Derived.Test.YtcgiapfnjijfkaaAM
section
namespace Go.Proofs.Attr
open Go.Am
/-! Own text: how the arguments of this seat's laws read. -/
theorem rStr : Reads Try.prog 9 1 eStr (fun s => s.size ≤ maxLen) := Reads.str Try.underlying9 (by kernel_rfl)
theorem rAttr : Reads Try.prog 41 2 oAttr (fun _ => True) :=
  (Reads.struct (l := [(0, 9), (1, 9)]) Try.underlying41 (by kernel_rfl) rfl (.cons rStr (.cons rStr .nil))).conv
    (fun (a, b, _) => ⟨a, b⟩) (fun t => (t.name, t.value, ())) (fun _ => rfl) (fun _ => rfl) (fun _ _ => trivial)
theorem rAttrs1 : Reads Try.prog 22 1 eAttrs (fun _ => True) := (Reads.slice Try.underlying22 (by kernel_rfl) rAttr (by omega)).conv id id (fun _ => rfl) (fun _ => rfl) (fun _ _ => trivial)
theorem laid : Go.laidOutB Try.prog = true := by kernel_rfl
end Go.Proofs.Attr
end
section
namespace Go.Proofs.Attr
open Go Go.Am
theorem rU8 : Reads Try.prog 5 1 (fun c : UInt8 => .lit (.int .u8 (c.toNat : Int))) (fun _ => True) := by
  have h := Reads.int (P := Try.prog) (t := 5) (k := .u8) Try.underlying5 (by kernel_rfl)
  refine ⟨h.1, fun _ => ⟨rfl, by simp [cells, noRef]⟩, fun hx => ?_⟩
  obtain ⟨hl, a, hw, hr⟩ := h.2.2 hx
  have hk : 0 ≤ a ∧ a < 256 := by
    simp [Lit.wf, IntKind.min, IntKind.max, IntKind.signed, IntKind.bits] at hw
    omega
  refine ⟨hl, UInt8.ofNat a.toNat, trivial, ?_⟩
  have e : ((UInt8.ofNat a.toNat).toNat : Int) = a := by simp; omega
  simp only [e]
  exact hr
theorem rDo : Reads Try.prog 48 3 oDo (fun _ => True) :=
  (Reads.struct (l := [(0, 5), (1, 5), (2, 9)]) Try.underlying48 (by kernel_rfl) rfl (.cons rU8 (.cons rU8 (.cons rStr .nil)))).conv
    (fun (a, b, c, _) => ⟨a, b, c⟩) (fun t => (t.kind, t.name, t.value, ())) (fun _ => rfl) (fun _ => rfl) (fun _ _ => trivial)
theorem rDos : Reads Try.prog 43 1 eDos (fun _ => True) := (Reads.slice Try.underlying43 (by kernel_rfl) rDo (by omega)).conv id id (fun _ => rfl) (fun _ => rfl) (fun _ _ => trivial)
end Go.Proofs.Attr
end
