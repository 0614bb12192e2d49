/- How the arguments of DeskTells read. By an AI agent. -/
import Derived.Test.YtknhlflmhonpfaaDoorEK
import Derived.Test.YtknhlflmhonpfaaDoorER
section
set_option linter.unusedSimpArgs false
set_option linter.unusedVariables false
namespace Go.Proofs.DeskD
open Go Go.Am
theorem rU8 : Reads Tryd.prog 5 1 (fun c : UInt8 => .lit (.int .u8 (c.toNat : Int))) (fun _ => True) := by
  have h := Reads.int (P := Tryd.prog) (t := 5) (k := .u8) Tryd.underlying5 (by kernel_rfl)
  refine ⟨h.1, fun _ => ⟨rfl, by simp [cells, noRef]⟩, fun hx => ?_⟩
  obtain ⟨hl, a, hw, hr⟩ := h.2.2 hx
  have hk : 0 ≤ a ∧ a < 256 := by
    simp [Lit.wf, IntKind.min, IntKind.max, IntKind.signed, IntKind.bits] at hw
    omega
  refine ⟨hl, UInt8.ofNat a.toNat, trivial, ?_⟩
  have e : ((UInt8.ofNat a.toNat).toNat : Int) = a := by simp; omega
  simp only [e]
  exact hr
theorem rTell : Reads Tryd.prog 59 3 oTell (fun _ => True) :=
  (Reads.struct (l := [(0, 5), (1, 5), (2, 5)]) Tryd.underlying59 (by kernel_rfl) rfl (.cons rU8 (.cons rU8 (.cons rU8 .nil)))).conv
    (fun (a, b, c, _) => ⟨a, b, c⟩) (fun t => (t.kind, t.name, t.cls, ())) (fun _ => rfl) (fun _ => rfl) (fun _ _ => trivial)
theorem rTells : Reads Tryd.prog 54 1 eTells (fun _ => True) := (Reads.slice Tryd.underlying54 (by kernel_rfl) rTell (by omega)).conv id id (fun _ => rfl) (fun _ => rfl) (fun _ _ => trivial)
end Go.Proofs.DeskD
end
