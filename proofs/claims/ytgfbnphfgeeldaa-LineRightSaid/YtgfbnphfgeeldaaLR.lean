/- Contracts of functions of the given program (what each computes), conditions as stated in each theorem. By an AI agent. -/
import Derived.Test.YtgfbnphfgeeldaaL2p
import Derived.Test.YtgfbnphfgeeldaaAm20
namespace Go.Proofs.Line
open Go.Am
/-! Own text: how the arguments of this seat's laws read. -/
theorem rInt : Reads Try.prog 3 1 eInt (fun _ => True) := (Reads.int Try.underlying3 (by kernel_rfl)).conv id id (fun _ => rfl) (fun _ => rfl) (fun _ _ => trivial)
theorem rInts : Reads Try.prog 24 1 eInts (fun _ => True) := (Reads.slice Try.underlying24 (by kernel_rfl) rInt (by omega)).conv id id (fun _ => rfl) (fun _ => rfl) (fun _ _ => trivial)
theorem rIntss : Reads Try.prog 23 1 eIntss (fun _ => True) := (Reads.slice Try.underlying23 (by kernel_rfl) rInts (by omega)).conv id id (fun _ => rfl) (fun _ => rfl) (fun _ _ => trivial)
theorem rI : Reads Try.prog 3 1 (fun n : Int => .lit (.int .i64 n)) (fun n => (Lit.int .i64 n).wf = true) := Reads.int Try.underlying3 (by kernel_rfl)
theorem rB : Reads Try.prog 4 1 (fun b : Bool => .lit (.bool b)) (fun _ => True) := Reads.bool Try.underlying4 (by kernel_rfl)
theorem rS : Reads Try.prog 9 1 (fun b : ByteArray => .lit (.string b)) (fun s => s.size ≤ maxLen) := Reads.str Try.underlying9 (by kernel_rfl)
theorem rTodo : Reads Try.prog 28 10 eTodo (fun _ => True) :=
  (Reads.struct (l := [(0, 3), (1, 3), (2, 9), (3, 4), (4, 4), (5, 9), (6, 9), (7, 3), (8, 3), (9, 4)]) Try.underlying28 (by kernel_rfl) rfl
    (.cons rI (.cons rI (.cons rS (.cons rB (.cons rB (.cons rS (.cons rS (.cons rI (.cons rI (.cons rB .nil))))))))))).conv
    (fun (a, b, c, d, e, f, g, h, i, j, _) => ⟨a, b, c, d, e, f, g, h, i, j⟩) (fun t => (t.kind, t.dfn, t.name, t.had, t.has, t.old, t.new, t.fr, t.to, t.on, ())) (fun _ => rfl) (fun _ => rfl) (fun _ _ => trivial)
theorem rTodos : Reads Try.prog 39 1 eTodos (fun _ => True) := (Reads.slice Try.underlying39 (by kernel_rfl) rTodo (by omega)).conv id id (fun _ => rfl) (fun _ => rfl) (fun _ _ => trivial)
theorem rTodoss : Reads Try.prog 22 1 eTodoss (fun _ => True) := (Reads.slice Try.underlying22 (by kernel_rfl) rTodos (by omega)).conv id id (fun _ => rfl) (fun _ => rfl) (fun _ _ => trivial)
theorem rLine : Reads Try.prog 26 4 eLine (fun _ => True) :=
  (Reads.struct (l := [(0, 22), (1, 23), (2, 24), (3, 4)]) Try.underlying26 (by kernel_rfl) rfl (.cons rTodoss (.cons rIntss (.cons rInts (.cons rB .nil))))).conv
    (fun (a, b, c, d, _) => ⟨a, b, c, d⟩) (fun l => (l.todos, l.stack, l.back, l.busy, ())) (fun _ => rfl) (fun _ => rfl) (fun _ _ => trivial)
theorem laid : Go.laidOutB Try.prog = true := by kernel_rfl
end Go.Proofs.Line
