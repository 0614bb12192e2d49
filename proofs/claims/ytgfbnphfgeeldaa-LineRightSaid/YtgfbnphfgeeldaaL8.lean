/- Contracts of functions of the given program (what each computes), conditions as stated in each theorem. By an AI agent. -/
import Derived.Test.YtgfbnphfgeeldaaL7
namespace Go.Proofs.Line
open Go.Am
set_option linter.unusedSimpArgs false
set_option maxRecDepth 100000
def smOK (l : LineM) : Bool := decide (l.todos.length ≤ 90000) && (decide (l.stack.length ≤ 90000) && (decide (l.back.length ≤ 90000) && (l.todos.all (fun x => decide (x.length ≤ 90000)) && l.stack.all (fun x => decide (x.length ≤ 90000)))))
theorem Sm.of_ok {l : LineM} (h : smOK l = true) : Sm 90000 l := by
  simp only [smOK, Bool.and_eq_true, decide_eq_true_eq, List.all_eq_true] at h
  exact ⟨h.1, h.2.1, h.2.2.1, h.2.2.2.1, h.2.2.2.2⟩
def emL : LineM := ⟨[], [], [], false⟩
def tk (k : Int) : TodoM := ⟨k, 0, ByteArray.empty, false, false, ByteArray.empty, ByteArray.empty, 0, 0, false⟩
theorem emL_cv {m : Nat → MS} {ρ : Nat → Nat} {D F : Nat → Prop} : Cv m ρ D F (eLine emL) (.agg [.lit (.slice none 0 0), .lit (.slice none 0 0), .lit (.slice none 0 0), .lit (.bool false)]) :=
  .mk_agg (.cons .nil (.cons .nil (.cons .nil (.cons (.same rfl) .nil))))
def a1 : LineM := ⟨[[]], [], [], false⟩
def a2 : LineM := ⟨[[], []], [], [], false⟩
def a3 : LineM := ⟨[[], []], [[]], [], false⟩
def a4 : LineM := ⟨[[], [tk 1]], [[1]], [], false⟩
def a5 : LineM := ⟨[[], [tk 1]], [], [], false⟩
def a6 : LineM := ⟨[[tk 2], [tk 1]], [], [0], true⟩
def a7 : LineM := ⟨[[tk 2], []], [], [0], true⟩
def a8 : LineM := ⟨[[tk 2], []], [], [], true⟩
theorem f7_ok : FnOK Try.prog 7 [] [] [] (.lit (.bool true)) := by
  refine FnOK.start (rvs := [.tmp 0]) Try.func7 rfl Try.ntmps7 rfl (by simp) ?_
  simp only [argsS, objsS, Nat.reduceAdd, Nat.zero_add, List.length_nil]
  refine AWp.seq_k (fun K hK => ?_); refine AWp.regionW G_good ?_; simp (maxSteps := 10000000) only [Ev.down, Nat.reduceBEq, Nat.reduceAdd, Nat.reduceMul, Nat.reduceLT, Nat.reduceLeDiff, Nat.reduceEqDiff, Nat.reduceSub, reduceCtorEq, Int.reduceToNat, Int.reduceLE, Int.reduceLT, Int.reduceNeg, Ty.down]
  (refine hK _ ?_; try clear hK K)
  refine AWp.seq_k (fun K hK => ?_); refine AWp.regionW G_good ?_; simp (maxSteps := 10000000) only [Ev.down, Nat.reduceBEq, Nat.reduceAdd, Nat.reduceMul, Nat.reduceLT, Nat.reduceLeDiff, Nat.reduceEqDiff, Nat.reduceSub, reduceCtorEq, Int.reduceToNat, Int.reduceLE, Int.reduceLT, Int.reduceNeg, Ty.down]
  refine ByHand.callV [] (f22_ok emL (Sm.of_ok rfl)) (.func rfl rfl) c22 (.cons emL_cv .nil) rfl rfl (nr_line _) ?_
  rw [show growL emL = a1 from rfl]
  simp (maxSteps := 10000000) only [Ev.down, Nat.reduceBEq, Nat.reduceAdd, Nat.reduceMul, Nat.reduceLT, Nat.reduceLeDiff, Nat.reduceEqDiff, Nat.reduceSub, reduceCtorEq, Int.reduceToNat, Int.reduceLE, Int.reduceLT, Int.reduceNeg, Ty.down]
  refine ByHand.callP (f22_ok a1 (Sm.of_ok rfl)) (.func rfl rfl) c22 rfl (by simp (maxSteps := 10000000) only [Ev.down, Nat.reduceBEq, Nat.reduceAdd, Nat.reduceMul, Nat.reduceLT, Nat.reduceLeDiff, Nat.reduceEqDiff, Nat.reduceSub, reduceCtorEq, Int.reduceToNat, Int.reduceLE, Int.reduceLT, Int.reduceNeg, Ty.down, noRefL, noRef, Bool.and_self]) rfl (by simp only [noRef, noRefL, nr_line, nr_todo, nr_ints, Bool.and_self]) ?_
  rw [show growL a1 = a2 from rfl]
  simp (maxSteps := 10000000) only [Ev.down, Nat.reduceBEq, Nat.reduceAdd, Nat.reduceMul, Nat.reduceLT, Nat.reduceLeDiff, Nat.reduceEqDiff, Nat.reduceSub, reduceCtorEq, Int.reduceToNat, Int.reduceLE, Int.reduceLT, Int.reduceNeg, Ty.down]
  refine ByHand.callP (f11_ok a2 (Sm.of_ok rfl)) (.func rfl rfl) c11 rfl (by simp (maxSteps := 10000000) only [Ev.down, Nat.reduceBEq, Nat.reduceAdd, Nat.reduceMul, Nat.reduceLT, Nat.reduceLeDiff, Nat.reduceEqDiff, Nat.reduceSub, reduceCtorEq, Int.reduceToNat, Int.reduceLE, Int.reduceLT, Int.reduceNeg, Ty.down, noRefL, noRef, Bool.and_self]) rfl (by simp only [noRef, noRefL, nr_line, nr_todo, nr_ints, Bool.and_self]) ?_
  rw [show openL a2 = a3 from rfl]
  simp (maxSteps := 10000000) only [Ev.down, Nat.reduceBEq, Nat.reduceAdd, Nat.reduceMul, Nat.reduceLT, Nat.reduceLeDiff, Nat.reduceEqDiff, Nat.reduceSub, reduceCtorEq, Int.reduceToNat, Int.reduceLE, Int.reduceLT, Int.reduceNeg, Ty.down]
  (refine hK _ ?_; try clear hK K)
  refine AWp.seq_k (fun K hK => ?_); refine AWp.regionW G_good ?_; simp (maxSteps := 10000000) only [Ev.down, Nat.reduceBEq, Nat.reduceAdd, Nat.reduceMul, Nat.reduceLT, Nat.reduceLeDiff, Nat.reduceEqDiff, Nat.reduceSub, reduceCtorEq, Int.reduceToNat, Int.reduceLE, Int.reduceLT, Int.reduceNeg, Ty.down]
  refine ByHand.callP (f13_ok a3 1 (tk 1) (Sm.of_ok rfl)) (.func rfl rfl) c13 rfl (by simp (maxSteps := 10000000) only [Ev.down, Nat.reduceBEq, Nat.reduceAdd, Nat.reduceMul, Nat.reduceLT, Nat.reduceLeDiff, Nat.reduceEqDiff, Nat.reduceSub, reduceCtorEq, Int.reduceToNat, Int.reduceLE, Int.reduceLT, Int.reduceNeg, Ty.down, noRefL, noRef, Bool.and_self]) rfl (by simp only [noRef, noRefL, nr_line, nr_todo, nr_ints, Bool.and_self]) ?_
  rw [show addL a3 1 (tk 1) = (a4, false, 0) from rfl]
  simp (maxSteps := 10000000) only [Ev.down, Nat.reduceBEq, Nat.reduceAdd, Nat.reduceMul, Nat.reduceLT, Nat.reduceLeDiff, Nat.reduceEqDiff, Nat.reduceSub, reduceCtorEq, Int.reduceToNat, Int.reduceLE, Int.reduceLT, Int.reduceNeg, Ty.down]
  (refine hK _ ?_; try clear hK K)
  refine AWp.seq_k (fun K hK => ?_); refine AWp.regionW G_good ?_; simp (maxSteps := 10000000) only [Ev.down, Nat.reduceBEq, Nat.reduceAdd, Nat.reduceMul, Nat.reduceLT, Nat.reduceLeDiff, Nat.reduceEqDiff, Nat.reduceSub, reduceCtorEq, Int.reduceToNat, Int.reduceLE, Int.reduceLT, Int.reduceNeg, Ty.down]
  refine ByHand.callP (f10_ok a4 (Sm.of_ok rfl)) (.func rfl rfl) c10 rfl (by simp (maxSteps := 10000000) only [Ev.down, Nat.reduceBEq, Nat.reduceAdd, Nat.reduceMul, Nat.reduceLT, Nat.reduceLeDiff, Nat.reduceEqDiff, Nat.reduceSub, reduceCtorEq, Int.reduceToNat, Int.reduceLE, Int.reduceLT, Int.reduceNeg, Ty.down, noRefL, noRef, Bool.and_self]) rfl (by simp only [noRef, noRefL, nr_line, nr_todo, nr_ints, Bool.and_self]) ?_
  rw [show shutL a4 = (a5, [1], 0) from rfl]
  simp (maxSteps := 10000000) only [Ev.down, Nat.reduceBEq, Nat.reduceAdd, Nat.reduceMul, Nat.reduceLT, Nat.reduceLeDiff, Nat.reduceEqDiff, Nat.reduceSub, reduceCtorEq, Int.reduceToNat, Int.reduceLE, Int.reduceLT, Int.reduceNeg, Ty.down]
  (refine hK _ ?_; try clear hK K)
  refine AWp.seq_k (fun K hK => ?_); refine AWp.regionW G_good ?_; simp (maxSteps := 10000000) only [Ev.down, Nat.reduceBEq, Nat.reduceAdd, Nat.reduceMul, Nat.reduceLT, Nat.reduceLeDiff, Nat.reduceEqDiff, Nat.reduceSub, reduceCtorEq, Int.reduceToNat, Int.reduceLE, Int.reduceLT, Int.reduceNeg, Ty.down]
  refine ByHand.callP (f13_ok a5 0 (tk 2) (Sm.of_ok rfl)) (.func rfl rfl) c13 rfl (by simp (maxSteps := 10000000) only [Ev.down, Nat.reduceBEq, Nat.reduceAdd, Nat.reduceMul, Nat.reduceLT, Nat.reduceLeDiff, Nat.reduceEqDiff, Nat.reduceSub, reduceCtorEq, Int.reduceToNat, Int.reduceLE, Int.reduceLT, Int.reduceNeg, Ty.down, noRefL, noRef, Bool.and_self]) rfl (by simp only [noRef, noRefL, nr_line, nr_todo, nr_ints, Bool.and_self]) ?_
  rw [show addL a5 0 (tk 2) = (a6, true, 0) from rfl]
  simp (maxSteps := 10000000) only [Ev.down, Nat.reduceBEq, Nat.reduceAdd, Nat.reduceMul, Nat.reduceLT, Nat.reduceLeDiff, Nat.reduceEqDiff, Nat.reduceSub, reduceCtorEq, Int.reduceToNat, Int.reduceLE, Int.reduceLT, Int.reduceNeg, Ty.down]
  (refine hK _ ?_; try clear hK K)
  refine AWp.seq_k (fun K hK => ?_); refine AWp.regionW G_good ?_; simp (maxSteps := 10000000) only [Ev.down, Nat.reduceBEq, Nat.reduceAdd, Nat.reduceMul, Nat.reduceLT, Nat.reduceLeDiff, Nat.reduceEqDiff, Nat.reduceSub, reduceCtorEq, Int.reduceToNat, Int.reduceLE, Int.reduceLT, Int.reduceNeg, Ty.down]
  refine ByHand.callP (f15_ok a6 1 (Sm.of_ok rfl)) (.func rfl rfl) c15 rfl (by simp (maxSteps := 10000000) only [Ev.down, Nat.reduceBEq, Nat.reduceAdd, Nat.reduceMul, Nat.reduceLT, Nat.reduceLeDiff, Nat.reduceEqDiff, Nat.reduceSub, reduceCtorEq, Int.reduceToNat, Int.reduceLE, Int.reduceLT, Int.reduceNeg, Ty.down, noRefL, noRef, Bool.and_self]) rfl (by simp only [noRef, noRefL, nr_line, nr_todo, nr_ints, Bool.and_self]) ?_
  rw [show takeL a6 1 = (a7, tk 1, true) from rfl]
  simp (maxSteps := 10000000) only [Ev.down, Nat.reduceBEq, Nat.reduceAdd, Nat.reduceMul, Nat.reduceLT, Nat.reduceLeDiff, Nat.reduceEqDiff, Nat.reduceSub, reduceCtorEq, Int.reduceToNat, Int.reduceLE, Int.reduceLT, Int.reduceNeg, Ty.down]
  (refine hK _ ?_; try clear hK K)
  refine AWp.seq_k (fun K hK => ?_); refine AWp.regionW G_good ?_; simp (maxSteps := 10000000) only [Ev.down, Nat.reduceBEq, Nat.reduceAdd, Nat.reduceMul, Nat.reduceLT, Nat.reduceLeDiff, Nat.reduceEqDiff, Nat.reduceSub, reduceCtorEq, Int.reduceToNat, Int.reduceLE, Int.reduceLT, Int.reduceNeg, Ty.down]
  refine ByHand.callP (f19_ok a7 (Sm.of_ok rfl)) (.func rfl rfl) c19 rfl (by simp (maxSteps := 10000000) only [Ev.down, Nat.reduceBEq, Nat.reduceAdd, Nat.reduceMul, Nat.reduceLT, Nat.reduceLeDiff, Nat.reduceEqDiff, Nat.reduceSub, reduceCtorEq, Int.reduceToNat, Int.reduceLE, Int.reduceLT, Int.reduceNeg, Ty.down, noRefL, noRef, Bool.and_self]) rfl (by simp only [noRef, noRefL, nr_line, nr_todo, nr_ints, Bool.and_self]) ?_
  rw [show pullL a7 = (a8, 0, true) from rfl]
  simp (maxSteps := 10000000) only [Ev.down, Nat.reduceBEq, Nat.reduceAdd, Nat.reduceMul, Nat.reduceLT, Nat.reduceLeDiff, Nat.reduceEqDiff, Nat.reduceSub, reduceCtorEq, Int.reduceToNat, Int.reduceLE, Int.reduceLT, Int.reduceNeg, Ty.down]
  (refine hK _ ?_; try clear hK K)
  refine AWp.seq_k (fun K hK => ?_); refine AWp.regionW G_good ?_; simp (maxSteps := 10000000) only [Ev.down, Nat.reduceBEq, Nat.reduceAdd, Nat.reduceMul, Nat.reduceLT, Nat.reduceLeDiff, Nat.reduceEqDiff, Nat.reduceSub, reduceCtorEq, Int.reduceToNat, Int.reduceLE, Int.reduceLT, Int.reduceNeg, Ty.down]
  refine ByHand.callF [620] (f14_ok [1] [1] (by simp)) (.func rfl rfl) c14 (.cons (.same rfl) (.cons (Cv.fz (s := 620) (by simp) rfl (w_ints [1]) rfl rfl) .nil)) rfl rfl ?_
  rw [show decide (([1] : List Int) = [1]) = true from rfl]
  simp (maxSteps := 10000000) only [Ev.down, Nat.reduceBEq, Nat.reduceAdd, Nat.reduceMul, Nat.reduceLT, Nat.reduceLeDiff, Nat.reduceEqDiff, Nat.reduceSub, reduceCtorEq, Int.reduceToNat, Int.reduceLE, Int.reduceLT, Int.reduceNeg, Ty.down]
  rw [show ((tk 1).kind == 1) = true from rfl]
  simp (maxSteps := 10000000) only [Ev.down, Nat.reduceBEq, Nat.reduceAdd, Nat.reduceMul, Nat.reduceLT, Nat.reduceLeDiff, Nat.reduceEqDiff, Nat.reduceSub, reduceCtorEq, Int.reduceToNat, Int.reduceLE, Int.reduceLT, Int.reduceNeg, Ty.down]
  refine ByHand.callP (f9_ok a6 (Sm.of_ok rfl)) (.func rfl rfl) c9 rfl (by simp (maxSteps := 10000000) only [Ev.down, Nat.reduceBEq, Nat.reduceAdd, Nat.reduceMul, Nat.reduceLT, Nat.reduceLeDiff, Nat.reduceEqDiff, Nat.reduceSub, reduceCtorEq, Int.reduceToNat, Int.reduceLE, Int.reduceLT, Int.reduceNeg, Ty.down, noRefL, noRef, Bool.and_self]) rfl rfl ?_
  rw [show rightL a6 = true from rfl]
  simp (maxSteps := 10000000) only [Ev.down, Nat.reduceBEq, Nat.reduceAdd, Nat.reduceMul, Nat.reduceLT, Nat.reduceLeDiff, Nat.reduceEqDiff, Nat.reduceSub, reduceCtorEq, Int.reduceToNat, Int.reduceLE, Int.reduceLT, Int.reduceNeg, Ty.down]
  refine ByHand.callP (f20_ok a6 (Sm.of_ok rfl)) (.func rfl rfl) c20 rfl (by simp (maxSteps := 10000000) only [Ev.down, Nat.reduceBEq, Nat.reduceAdd, Nat.reduceMul, Nat.reduceLT, Nat.reduceLeDiff, Nat.reduceEqDiff, Nat.reduceSub, reduceCtorEq, Int.reduceToNat, Int.reduceLE, Int.reduceLT, Int.reduceNeg, Ty.down, noRefL, noRef, Bool.and_self]) rfl rfl ?_
  rw [show idleL a6 = false from rfl]
  simp (maxSteps := 10000000) only [Ev.down, Nat.reduceBEq, Nat.reduceAdd, Nat.reduceMul, Nat.reduceLT, Nat.reduceLeDiff, Nat.reduceEqDiff, Nat.reduceSub, reduceCtorEq, Int.reduceToNat, Int.reduceLE, Int.reduceLT, Int.reduceNeg, Ty.down]
  refine ByHand.callV [] (f20_ok emL (Sm.of_ok rfl)) (.func rfl rfl) c20 (.cons emL_cv .nil) rfl rfl rfl ?_
  rw [show idleL emL = true from rfl]
  simp (maxSteps := 10000000) only [Ev.down, Nat.reduceBEq, Nat.reduceAdd, Nat.reduceMul, Nat.reduceLT, Nat.reduceLeDiff, Nat.reduceEqDiff, Nat.reduceSub, reduceCtorEq, Int.reduceToNat, Int.reduceLE, Int.reduceLT, Int.reduceNeg, Ty.down]
  (refine hK _ ?_; try clear hK K)
  refine AWp.ret ⟨.inr rfl, RetTo.one ?_ rfl⟩
  rfl
end Go.Proofs.Line
