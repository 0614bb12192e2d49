/- How the arguments read. By an AI agent. -/
import Derived.Test.YtcgiapfnjijfkaaAA
import Derived.Test.YtcgiapfnjijfkaaAmB
section
namespace Go.Proofs.Attr
open Go.Am
/-! Own text: how the arguments of this seat's laws read. -/
theorem rStr : Reads Try.prog 9 1 eStr (fun s => s.size ≤ maxLen) := Reads.str Try.underlying9 (by kernel_rfl)
theorem rAttr : Reads Try.prog 41 2 oAttr (fun _ => True) :=
  (Reads.struct (l := [(0, 9), (1, 9)]) Try.underlying41 (by kernel_rfl) rfl (.cons rStr (.cons rStr .nil))).conv
    (fun (a, b, _) => ⟨a, b⟩) (fun t => (t.name, t.value, ())) (fun _ => rfl) (fun _ => rfl) (fun _ _ => trivial)
theorem rAttrs1 : Reads Try.prog 22 1 eAttrs (fun _ => True) := (Reads.slice Try.underlying22 (by kernel_rfl) rAttr (by omega)).conv id id (fun _ => rfl) (fun _ => rfl) (fun _ _ => trivial)
theorem laid : Go.laidOutB Try.prog = true := by kernel_rfl
end Go.Proofs.Attr
end
