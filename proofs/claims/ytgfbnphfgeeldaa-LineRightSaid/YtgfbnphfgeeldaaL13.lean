/- Contracts of functions of the given program (what each computes), conditions as stated in each theorem. By an AI agent. -/
import Derived.Test.YtgfbnphfgeeldaaL12
import Derived.Tactics
namespace Go.Proofs.Line
open Go.Am
set_option linter.unusedSimpArgs false
set_option maxRecDepth 100000
theorem f17_ok (l : LineM) (hs : Sm 90000 l) : FnOK Try.prog 17 [] [eLine l] [] (.lit (.bool (rightL l))) := by
  refine FnOK.start (rvs := [.tmp 2]) Try.func17 rfl Try.ntmps17 rfl (by simp) ?_
  simp only [argsS, objsS, Nat.reduceAdd, Nat.zero_add, List.length_nil]
  refine AWp.seq_k (fun K hK => ?_); refine AWp.regionW G_good ?_; simp (maxSteps := 10000000) only [Ev.down, Nat.reduceBEq, Nat.reduceAdd, Nat.reduceMul, Nat.reduceLT, Nat.reduceLeDiff, Nat.reduceEqDiff, Nat.reduceSub, reduceCtorEq, Int.reduceToNat, Int.reduceLE, Int.reduceLT, Int.reduceNeg, Ty.down]
  (refine hK _ ?_; try clear hK K)
  refine AWp.seq_k (fun K hK => ?_)
  refine AWp.seq_k (fun K1 hK1 => ?_); refine AWp.regionW G_good ?_; simp (maxSteps := 10000000) only [Ev.down, Nat.reduceBEq, Nat.reduceAdd, Nat.reduceMul, Nat.reduceLT, Nat.reduceLeDiff, Nat.reduceEqDiff, Nat.reduceSub, reduceCtorEq, Int.reduceToNat, Int.reduceLE, Int.reduceLT, Int.reduceNeg, Ty.down]
  (refine hK1 _ ?_; try clear hK1 K1)
  refine AWp.block ?_
  refine AWp.loopF (ι := Nat) (fun k => St [(1, .ptr 10 0 0), (3, .lit (.int .i64 k))] [(10, .live 4 [eLine l] false)]) (fun k => k ≤ l.stack.length ∧ ∀ j x, j < k → l.stack[j]? = some x → belowL x l.todos.length = true) (fun k => l.stack.length - k) 0 ⟨Nat.zero_le _, by simp⟩ ?_ ?_
  · exact Sits.pick (by simp only [allS, allM, Ev.down, Nat.reduceBEq, Nat.reduceAdd, Nat.reduceMul, Nat.reduceLT, Nat.reduceLeDiff, Nat.reduceEqDiff, Nat.reduceSub, reduceCtorEq, Int.reduceToNat, Int.reduceLE, Int.reduceLT, Int.reduceNeg, Ty.down, refOK, refOKL, refMS, wideMS, noRef, noRefL, List.contains_cons, List.contains_nil, Bool.or_false, Bool.or_true, Bool.true_or, List.nodup_cons, List.nodup_nil, List.mem_cons, List.not_mem_nil, or_false, not_false_eq_true, not_true_eq_false, Bool.or_self, Wide.cons_iff, Wide.nil_iff]) (by simp only [allS, allM, Ev.down, Nat.reduceBEq, Nat.reduceAdd, Nat.reduceMul, Nat.reduceLT, Nat.reduceLeDiff, Nat.reduceEqDiff, Nat.reduceSub, reduceCtorEq, Int.reduceToNat, Int.reduceLE, Int.reduceLT, Int.reduceNeg, Ty.down, refOK, refOKL, refMS, wideMS, noRef, noRefL, List.contains_cons, List.contains_nil, Bool.or_false, Bool.or_true, Bool.true_or, List.nodup_cons, List.nodup_nil, List.mem_cons, List.not_mem_nil, or_false, not_false_eq_true, not_true_eq_false, Bool.or_self, Wide.cons_iff, Wide.nil_iff]) (by simp only [allS, allM, Ev.down, Nat.reduceBEq, Nat.reduceAdd, Nat.reduceMul, Nat.reduceLT, Nat.reduceLeDiff, Nat.reduceEqDiff, Nat.reduceSub, reduceCtorEq, Int.reduceToNat, Int.reduceLE, Int.reduceLT, Int.reduceNeg, Ty.down, refOK, refOKL, refMS, wideMS, noRef, noRefL, List.contains_cons, List.contains_nil, Bool.or_false, Bool.or_true, Bool.true_or, List.nodup_cons, List.nodup_nil, List.mem_cons, List.not_mem_nil, or_false, not_false_eq_true, not_true_eq_false, Bool.or_self, Wide.cons_iff, Wide.nil_iff])
  rintro k ⟨hk, hinv⟩
  refine AWp.seq_k (fun K1 hK1 => ?_)
  refine AWp.seq_k (fun K2 hK2 => ?_); refine AWp.regionW G_good ?_; simp (maxSteps := 10000000) only [Ev.down, Nat.reduceBEq, Nat.reduceAdd, Nat.reduceMul, Nat.reduceLT, Nat.reduceLeDiff, Nat.reduceEqDiff, Nat.reduceSub, reduceCtorEq, Int.reduceToNat, Int.reduceLE, Int.reduceLT, Int.reduceNeg, Ty.down, eIntss]
  (refine hK2 _ ?_; try clear hK2 K2)
  refine AWp.cond (b := decide ((k : Int) < l.stack.length)) rfl (fun h => ?_) (fun h => ?_)
  ·
    refine AWp.skip ?_
    simp (maxSteps := 10000000) only [Ev.down, Nat.reduceBEq, Nat.reduceAdd, Nat.reduceMul, Nat.reduceLT, Nat.reduceLeDiff, Nat.reduceEqDiff, Nat.reduceSub, reduceCtorEq, Int.reduceToNat, Int.reduceLE, Int.reduceLT, Int.reduceNeg, Ty.down]
    have hk' : k < l.stack.length := by simpa using h
    obtain ⟨x, hx⟩ : ∃ x, l.stack[k]? = some x := ⟨_, List.getElem?_eq_getElem hk'⟩
    (refine hK1 _ ?_; try clear hK1 K1)
    refine AWp.seq_k (fun K1 hK1 => ?_)
    refine AWp.block ?_
    refine AWp.seq_k (fun K2 hK2 => ?_); refine AWp.drawsW G_good Try.checked.mixed (by kernel_rfl) ?_; simp (maxSteps := 10000000) only [Ev.down, Nat.reduceBEq, Nat.reduceAdd, Nat.reduceMul, Nat.reduceLT, Nat.reduceLeDiff, Nat.reduceEqDiff, Nat.reduceSub, reduceCtorEq, Int.reduceToNat, Int.reduceLE, Int.reduceLT, Int.reduceNeg, Ty.down, eIntss, eTodoss, hx]
    refine ByHand.callP (f35_ok x l.todos.length (hs.st x (List.mem_of_getElem? hx))) (.func rfl rfl) c35 rfl (by simp (maxSteps := 10000000) only [Ev.down, Nat.reduceBEq, Nat.reduceAdd, Nat.reduceMul, Nat.reduceLT, Nat.reduceLeDiff, Nat.reduceEqDiff, Nat.reduceSub, reduceCtorEq, Int.reduceToNat, Int.reduceLE, Int.reduceLT, Int.reduceNeg, Ty.down, noRefL, noRef, Bool.and_self]) rfl rfl ?_
    simp (maxSteps := 10000000) only [Ev.down, Nat.reduceBEq, Nat.reduceAdd, Nat.reduceMul, Nat.reduceLT, Nat.reduceLeDiff, Nat.reduceEqDiff, Nat.reduceSub, reduceCtorEq, Int.reduceToNat, Int.reduceLE, Int.reduceLT, Int.reduceNeg, Ty.down]
    refine ⟨by kernel_rfl, ?_⟩
    (refine hK2 _ ?_; try clear hK2 K2)
    refine AWp.cond (b := !(belowL x l.todos.length)) rfl (fun h2 => ?_) (fun h2 => ?_)
    ·
      refine AWp.seq_k (fun K2 hK2 => ?_); refine AWp.regionW G_good ?_; simp (maxSteps := 10000000) only [Ev.down, Nat.reduceBEq, Nat.reduceAdd, Nat.reduceMul, Nat.reduceLT, Nat.reduceLeDiff, Nat.reduceEqDiff, Nat.reduceSub, reduceCtorEq, Int.reduceToNat, Int.reduceLE, Int.reduceLT, Int.reduceNeg, Ty.down]
      (refine hK2 _ ?_; try clear hK2 K2)
      refine AWp.ret ⟨.inr rfl, RetTo.one ?_ rfl⟩
      simp at h2
      rw [show rightL l = false from by
        rw [right_below, Bool.and_eq_false_iff]
        left
        rw [List.all_eq_false]
        exact ⟨x, List.mem_of_getElem? hx, by rw [h2]; simp⟩]
      rfl
    ·
      simp at h2
      refine AWp.skip ?_
      simp (maxSteps := 10000000) only [Ev.down, Nat.reduceBEq, Nat.reduceAdd, Nat.reduceMul, Nat.reduceLT, Nat.reduceLeDiff, Nat.reduceEqDiff, Nat.reduceSub, reduceCtorEq, Int.reduceToNat, Int.reduceLE, Int.reduceLT, Int.reduceNeg, Ty.down]
      (refine hK1 _ ?_; try clear hK1 K1)
      refine AWp.regionW G_good ?_; simp (maxSteps := 10000000) only [Ev.down, Nat.reduceBEq, Nat.reduceAdd, Nat.reduceMul, Nat.reduceLT, Nat.reduceLeDiff, Nat.reduceEqDiff, Nat.reduceSub, reduceCtorEq, Int.reduceToNat, Int.reduceLE, Int.reduceLT, Int.reduceNeg, Ty.down, wrap_succ k (by have := hs.stack; omega)]
      refine ⟨k + 1, ⟨by omega, fun j y hj hy => ?_⟩, by omega, Sits.pick (by simp only [allS, allM, Ev.down, Nat.reduceBEq, Nat.reduceAdd, Nat.reduceMul, Nat.reduceLT, Nat.reduceLeDiff, Nat.reduceEqDiff, Nat.reduceSub, reduceCtorEq, Int.reduceToNat, Int.reduceLE, Int.reduceLT, Int.reduceNeg, Ty.down, refOK, refOKL, refMS, wideMS, noRef, noRefL, List.contains_cons, List.contains_nil, Bool.or_false, Bool.or_true, Bool.true_or, List.nodup_cons, List.nodup_nil, List.mem_cons, List.not_mem_nil, or_false, not_false_eq_true, not_true_eq_false, Bool.or_self, Wide.cons_iff, Wide.nil_iff]) (by simp only [allS, allM, Ev.down, Nat.reduceBEq, Nat.reduceAdd, Nat.reduceMul, Nat.reduceLT, Nat.reduceLeDiff, Nat.reduceEqDiff, Nat.reduceSub, reduceCtorEq, Int.reduceToNat, Int.reduceLE, Int.reduceLT, Int.reduceNeg, Ty.down, refOK, refOKL, refMS, wideMS, noRef, noRefL, List.contains_cons, List.contains_nil, Bool.or_false, Bool.or_true, Bool.true_or, List.nodup_cons, List.nodup_nil, List.mem_cons, List.not_mem_nil, or_false, not_false_eq_true, not_true_eq_false, Bool.or_self, Wide.cons_iff, Wide.nil_iff]) (by simp only [allS, allM, Ev.down, Nat.reduceBEq, Nat.reduceAdd, Nat.reduceMul, Nat.reduceLT, Nat.reduceLeDiff, Nat.reduceEqDiff, Nat.reduceSub, reduceCtorEq, Int.reduceToNat, Int.reduceLE, Int.reduceLT, Int.reduceNeg, Ty.down, refOK, refOKL, refMS, wideMS, noRef, noRefL, List.contains_cons, List.contains_nil, Bool.or_false, Bool.or_true, Bool.true_or, List.nodup_cons, List.nodup_nil, List.mem_cons, List.not_mem_nil, or_false, not_false_eq_true, not_true_eq_false, Bool.or_self, Wide.cons_iff, Wide.nil_iff])⟩
      by_cases hjk : j = k
      · subst hjk; rw [hx] at hy; cases hy; exact h2
      · exact hinv j y (by omega) hy
  ·
    refine AWp.exit ?_
    simp (maxSteps := 10000000) only [Ev.down, Nat.reduceBEq, Nat.reduceAdd, Nat.reduceMul, Nat.reduceLT, Nat.reduceLeDiff, Nat.reduceEqDiff, Nat.reduceSub, reduceCtorEq, Int.reduceToNat, Int.reduceLE, Int.reduceLT, Int.reduceNeg, Ty.down]
    have hall : (l.stack.all fun x => belowL x l.todos.length) = true := by
      rw [List.all_eq_true]
      intro x hx
      obtain ⟨j, hj⟩ := List.getElem?_of_mem hx
      exact hinv j x (by have := (List.getElem?_eq_some_iff.1 hj).1; simp at h; omega) hj
    (refine hK _ ?_; try clear hK K)
    refine AWp.seq_k (fun K hK => ?_); refine AWp.regionW G_good ?_; simp (maxSteps := 10000000) only [Ev.down, Nat.reduceBEq, Nat.reduceAdd, Nat.reduceMul, Nat.reduceLT, Nat.reduceLeDiff, Nat.reduceEqDiff, Nat.reduceSub, reduceCtorEq, Int.reduceToNat, Int.reduceLE, Int.reduceLT, Int.reduceNeg, Ty.down, eTodoss]
    refine ByHand.callP (f35_ok l.back l.todos.length hs.back) (.func rfl rfl) c35 rfl (by simp (maxSteps := 10000000) only [Ev.down, Nat.reduceBEq, Nat.reduceAdd, Nat.reduceMul, Nat.reduceLT, Nat.reduceLeDiff, Nat.reduceEqDiff, Nat.reduceSub, reduceCtorEq, Int.reduceToNat, Int.reduceLE, Int.reduceLT, Int.reduceNeg, Ty.down, noRefL, noRef, Bool.and_self]) rfl rfl ?_
    simp (maxSteps := 10000000) only [Ev.down, Nat.reduceBEq, Nat.reduceAdd, Nat.reduceMul, Nat.reduceLT, Nat.reduceLeDiff, Nat.reduceEqDiff, Nat.reduceSub, reduceCtorEq, Int.reduceToNat, Int.reduceLE, Int.reduceLT, Int.reduceNeg, Ty.down]
    (refine hK _ ?_; try clear hK K)
    refine AWp.ret ⟨.inr rfl, RetTo.one ?_ rfl⟩
    rw [right_below, hall]; rfl
theorem f21_ok (l : LineM) (hs : Sm 90000 l) : FnOK Try.prog 21 [] [eLine l] [] (.lit (.bool (idleL l))) := by
  refine FnOK.start (rvs := [.tmp 2]) Try.func21 rfl Try.ntmps21 rfl (by simp) ?_
  simp only [argsS, objsS, Nat.reduceAdd, Nat.zero_add, List.length_nil]
  refine AWp.seq_k (fun K hK => ?_); refine AWp.regionW G_good ?_; simp (maxSteps := 10000000) only [Ev.down, Nat.reduceBEq, Nat.reduceAdd, Nat.reduceMul, Nat.reduceLT, Nat.reduceLeDiff, Nat.reduceEqDiff, Nat.reduceSub, reduceCtorEq, Int.reduceToNat, Int.reduceLE, Int.reduceLT, Int.reduceNeg, Ty.down]
  (refine hK _ ?_; try clear hK K)
  refine AWp.seq_k (fun K hK => ?_)
  refine AWp.seq_k (fun K1 hK1 => ?_); refine AWp.regionW G_good ?_; simp (maxSteps := 10000000) only [Ev.down, Nat.reduceBEq, Nat.reduceAdd, Nat.reduceMul, Nat.reduceLT, Nat.reduceLeDiff, Nat.reduceEqDiff, Nat.reduceSub, reduceCtorEq, Int.reduceToNat, Int.reduceLE, Int.reduceLT, Int.reduceNeg, Ty.down]
  (refine hK1 _ ?_; try clear hK1 K1)
  refine AWp.block ?_
  refine AWp.loopF (ι := Nat) (fun k => St [(1, .ptr 10 0 0), (3, .lit (.int .i64 k))] [(10, .live 4 [eLine l] false)]) (fun k => k ≤ l.todos.length ∧ ∀ j x, j < k → l.todos[j]? = some x → x = []) (fun k => l.todos.length - k) 0 ⟨Nat.zero_le _, by simp⟩ ?_ ?_
  · exact Sits.pick (by simp only [allS, allM, Ev.down, Nat.reduceBEq, Nat.reduceAdd, Nat.reduceMul, Nat.reduceLT, Nat.reduceLeDiff, Nat.reduceEqDiff, Nat.reduceSub, reduceCtorEq, Int.reduceToNat, Int.reduceLE, Int.reduceLT, Int.reduceNeg, Ty.down, refOK, refOKL, refMS, wideMS, noRef, noRefL, List.contains_cons, List.contains_nil, Bool.or_false, Bool.or_true, Bool.true_or, List.nodup_cons, List.nodup_nil, List.mem_cons, List.not_mem_nil, or_false, not_false_eq_true, not_true_eq_false, Bool.or_self, Wide.cons_iff, Wide.nil_iff]) (by simp only [allS, allM, Ev.down, Nat.reduceBEq, Nat.reduceAdd, Nat.reduceMul, Nat.reduceLT, Nat.reduceLeDiff, Nat.reduceEqDiff, Nat.reduceSub, reduceCtorEq, Int.reduceToNat, Int.reduceLE, Int.reduceLT, Int.reduceNeg, Ty.down, refOK, refOKL, refMS, wideMS, noRef, noRefL, List.contains_cons, List.contains_nil, Bool.or_false, Bool.or_true, Bool.true_or, List.nodup_cons, List.nodup_nil, List.mem_cons, List.not_mem_nil, or_false, not_false_eq_true, not_true_eq_false, Bool.or_self, Wide.cons_iff, Wide.nil_iff]) (by simp only [allS, allM, Ev.down, Nat.reduceBEq, Nat.reduceAdd, Nat.reduceMul, Nat.reduceLT, Nat.reduceLeDiff, Nat.reduceEqDiff, Nat.reduceSub, reduceCtorEq, Int.reduceToNat, Int.reduceLE, Int.reduceLT, Int.reduceNeg, Ty.down, refOK, refOKL, refMS, wideMS, noRef, noRefL, List.contains_cons, List.contains_nil, Bool.or_false, Bool.or_true, Bool.true_or, List.nodup_cons, List.nodup_nil, List.mem_cons, List.not_mem_nil, or_false, not_false_eq_true, not_true_eq_false, Bool.or_self, Wide.cons_iff, Wide.nil_iff])
  rintro k ⟨hk, hinv⟩
  refine AWp.seq_k (fun K1 hK1 => ?_)
  refine AWp.seq_k (fun K2 hK2 => ?_); refine AWp.regionW G_good ?_; simp (maxSteps := 10000000) only [Ev.down, Nat.reduceBEq, Nat.reduceAdd, Nat.reduceMul, Nat.reduceLT, Nat.reduceLeDiff, Nat.reduceEqDiff, Nat.reduceSub, reduceCtorEq, Int.reduceToNat, Int.reduceLE, Int.reduceLT, Int.reduceNeg, Ty.down, eTodoss]
  (refine hK2 _ ?_; try clear hK2 K2)
  refine AWp.cond (b := decide ((k : Int) < l.todos.length)) rfl (fun h => ?_) (fun h => ?_)
  ·
    refine AWp.skip ?_
    simp (maxSteps := 10000000) only [Ev.down, Nat.reduceBEq, Nat.reduceAdd, Nat.reduceMul, Nat.reduceLT, Nat.reduceLeDiff, Nat.reduceEqDiff, Nat.reduceSub, reduceCtorEq, Int.reduceToNat, Int.reduceLE, Int.reduceLT, Int.reduceNeg, Ty.down]
    have hk' : k < l.todos.length := by simpa using h
    obtain ⟨x, hx⟩ : ∃ x, l.todos[k]? = some x := ⟨_, List.getElem?_eq_getElem hk'⟩
    (refine hK1 _ ?_; try clear hK1 K1)
    refine AWp.seq_k (fun K1 hK1 => ?_)
    refine AWp.block ?_
    refine AWp.seq_k (fun K2 hK2 => ?_); refine AWp.regionW G_good ?_; simp (maxSteps := 10000000) only [Ev.down, Nat.reduceBEq, Nat.reduceAdd, Nat.reduceMul, Nat.reduceLT, Nat.reduceLeDiff, Nat.reduceEqDiff, Nat.reduceSub, reduceCtorEq, Int.reduceToNat, Int.reduceLE, Int.reduceLT, Int.reduceNeg, Ty.down, eTodoss, eTodos, hx]
    (refine hK2 _ ?_; try clear hK2 K2)
    cases x with
    | cons y r =>
      refine AWp.cond (b := true) (by show AV.lit _ = _; simp; omega) (fun _ => ?_) (fun h => by cases h)
      refine AWp.seq_k (fun K2 hK2 => ?_); refine AWp.regionW G_good ?_; simp (maxSteps := 10000000) only [Ev.down, Nat.reduceBEq, Nat.reduceAdd, Nat.reduceMul, Nat.reduceLT, Nat.reduceLeDiff, Nat.reduceEqDiff, Nat.reduceSub, reduceCtorEq, Int.reduceToNat, Int.reduceLE, Int.reduceLT, Int.reduceNeg, Ty.down]
      (refine hK2 _ ?_; try clear hK2 K2)
      refine AWp.ret ⟨.inr rfl, RetTo.one ?_ rfl⟩
      rw [show idleL l = false from by
        have : (l.todos.any fun x => decide (0 < x.length)) = true := List.any_eq_true.2 ⟨_, List.mem_of_getElem? hx, by simp⟩
        simp [idleL, this]]
      rfl
    | nil =>
      refine AWp.cond (b := false) (by show AV.lit _ = _; simp) (fun h => by cases h) (fun _ => ?_)
      refine AWp.skip ?_
      simp (maxSteps := 10000000) only [Ev.down, Nat.reduceBEq, Nat.reduceAdd, Nat.reduceMul, Nat.reduceLT, Nat.reduceLeDiff, Nat.reduceEqDiff, Nat.reduceSub, reduceCtorEq, Int.reduceToNat, Int.reduceLE, Int.reduceLT, Int.reduceNeg, Ty.down]
      (refine hK1 _ ?_; try clear hK1 K1)
      refine AWp.regionW G_good ?_; simp (maxSteps := 10000000) only [Ev.down, Nat.reduceBEq, Nat.reduceAdd, Nat.reduceMul, Nat.reduceLT, Nat.reduceLeDiff, Nat.reduceEqDiff, Nat.reduceSub, reduceCtorEq, Int.reduceToNat, Int.reduceLE, Int.reduceLT, Int.reduceNeg, Ty.down, wrap_succ k (by have := hs.todos; omega)]
      refine ⟨k + 1, ⟨by omega, fun j y hj hy => ?_⟩, by omega, Sits.pick (by simp only [allS, allM, Ev.down, Nat.reduceBEq, Nat.reduceAdd, Nat.reduceMul, Nat.reduceLT, Nat.reduceLeDiff, Nat.reduceEqDiff, Nat.reduceSub, reduceCtorEq, Int.reduceToNat, Int.reduceLE, Int.reduceLT, Int.reduceNeg, Ty.down, refOK, refOKL, refMS, wideMS, noRef, noRefL, List.contains_cons, List.contains_nil, Bool.or_false, Bool.or_true, Bool.true_or, List.nodup_cons, List.nodup_nil, List.mem_cons, List.not_mem_nil, or_false, not_false_eq_true, not_true_eq_false, Bool.or_self, Wide.cons_iff, Wide.nil_iff]) (by simp only [allS, allM, Ev.down, Nat.reduceBEq, Nat.reduceAdd, Nat.reduceMul, Nat.reduceLT, Nat.reduceLeDiff, Nat.reduceEqDiff, Nat.reduceSub, reduceCtorEq, Int.reduceToNat, Int.reduceLE, Int.reduceLT, Int.reduceNeg, Ty.down, refOK, refOKL, refMS, wideMS, noRef, noRefL, List.contains_cons, List.contains_nil, Bool.or_false, Bool.or_true, Bool.true_or, List.nodup_cons, List.nodup_nil, List.mem_cons, List.not_mem_nil, or_false, not_false_eq_true, not_true_eq_false, Bool.or_self, Wide.cons_iff, Wide.nil_iff]) (by simp only [allS, allM, Ev.down, Nat.reduceBEq, Nat.reduceAdd, Nat.reduceMul, Nat.reduceLT, Nat.reduceLeDiff, Nat.reduceEqDiff, Nat.reduceSub, reduceCtorEq, Int.reduceToNat, Int.reduceLE, Int.reduceLT, Int.reduceNeg, Ty.down, refOK, refOKL, refMS, wideMS, noRef, noRefL, List.contains_cons, List.contains_nil, Bool.or_false, Bool.or_true, Bool.true_or, List.nodup_cons, List.nodup_nil, List.mem_cons, List.not_mem_nil, or_false, not_false_eq_true, not_true_eq_false, Bool.or_self, Wide.cons_iff, Wide.nil_iff])⟩
      by_cases hjk : j = k
      · subst hjk; rw [hx] at hy; cases hy; rfl
      · exact hinv j y (by omega) hy
  ·
    refine AWp.exit ?_
    simp (maxSteps := 10000000) only [Ev.down, Nat.reduceBEq, Nat.reduceAdd, Nat.reduceMul, Nat.reduceLT, Nat.reduceLeDiff, Nat.reduceEqDiff, Nat.reduceSub, reduceCtorEq, Int.reduceToNat, Int.reduceLE, Int.reduceLT, Int.reduceNeg, Ty.down]
    have hall : (l.todos.any fun x => decide (0 < x.length)) = false := by
      rw [List.any_eq_false]
      intro x hx
      obtain ⟨j, hj⟩ := List.getElem?_of_mem hx
      have := hinv j x (by have := (List.getElem?_eq_some_iff.1 hj).1; simp at h; omega) hj
      rw [this]; simp
    (refine hK _ ?_; try clear hK K)
    refine AWp.seq_k (fun K hK => ?_); refine AWp.regionW G_good ?_; simp (maxSteps := 10000000) only [Ev.down, Nat.reduceBEq, Nat.reduceAdd, Nat.reduceMul, Nat.reduceLT, Nat.reduceLeDiff, Nat.reduceEqDiff, Nat.reduceSub, reduceCtorEq, Int.reduceToNat, Int.reduceLE, Int.reduceLT, Int.reduceNeg, Ty.down, eIntss, eInts]
    have fin : ∀ (b : Bool) (sl m), lookS sl 2 = .lit (.bool b) → b = idleL l → K (St sl m) := fun b sl m h h2 => by
      refine hK _ ?_
      refine AWp.ret ⟨.inr rfl, RetTo.one ?_ rfl⟩
      rw [h, h2]
    clear hK
    refine wpGx.split (fun g1 => ?_) (fun g1 => ?_)
    rotate_left
    · simp (maxSteps := 10000000) only [Ev.down, Nat.reduceBEq, Nat.reduceAdd, Nat.reduceMul, Nat.reduceLT, Nat.reduceLeDiff, Nat.reduceEqDiff, Nat.reduceSub, reduceCtorEq, Int.reduceToNat, Int.reduceLE, Int.reduceLT, Int.reduceNeg, Ty.down]; refine fin _ _ _ rfl ?_; simp at g1; simp [idleL, g1]
    simp (maxSteps := 10000000) only [Ev.down, Nat.reduceBEq, Nat.reduceAdd, Nat.reduceMul, Nat.reduceLT, Nat.reduceLeDiff, Nat.reduceEqDiff, Nat.reduceSub, reduceCtorEq, Int.reduceToNat, Int.reduceLE, Int.reduceLT, Int.reduceNeg, Ty.down]
    refine wpGx.split (fun g2 => ?_) (fun g2 => ?_)
    rotate_left
    · simp (maxSteps := 10000000) only [Ev.down, Nat.reduceBEq, Nat.reduceAdd, Nat.reduceMul, Nat.reduceLT, Nat.reduceLeDiff, Nat.reduceEqDiff, Nat.reduceSub, reduceCtorEq, Int.reduceToNat, Int.reduceLE, Int.reduceLT, Int.reduceNeg, Ty.down]; refine fin _ _ _ rfl ?_; simp at g2; simp [idleL, g2]
    simp (maxSteps := 10000000) only [Ev.down, Nat.reduceBEq, Nat.reduceAdd, Nat.reduceMul, Nat.reduceLT, Nat.reduceLeDiff, Nat.reduceEqDiff, Nat.reduceSub, reduceCtorEq, Int.reduceToNat, Int.reduceLE, Int.reduceLT, Int.reduceNeg, Ty.down]
    refine fin _ _ _ rfl ?_
    simp at g1 g2
    simp [idleL, hall, g1, g2]
end Go.Proofs.Line
