/- Contracts of functions of the given program (what each computes), conditions as stated in each theorem. By an AI agent. -/
import Derived.Test.YtgfbnphfgeeldaaL6
namespace Go.Proofs.Line
open Go.Am
set_option linter.unusedSimpArgs false
set_option maxRecDepth 100000
def shortL (l : LineM) : Prop := l.todos.length ≤ 60 ∧ l.stack.length ≤ 30 ∧ l.back.length ≤ 60 ∧ (∀ x ∈ l.todos, x.length ≤ 60) ∧ (∀ x ∈ l.stack, x.length ≤ 60)
instance (l : LineM) : Decidable (shortL l) := by unfold shortL; exact inferInstance
theorem f8_ok (l : LineM) : FnOK Try.prog 8 [] [eLine l] [] (.lit (.bool (decide (shortL l)))) := by
  refine FnOK.start (rvs := [.tmp 2]) Try.func8 rfl Try.ntmps8 rfl (by simp) ?_
  simp only [argsS, objsS, Nat.reduceAdd, Nat.zero_add, List.length_nil]
  simp only [eLine]
  refine AWp.seq_k (fun K hK => ?_); refine AWp.regionW G_good ?_; simp (maxSteps := 10000000) only [Ev.down, Nat.reduceBEq, Nat.reduceAdd, Nat.reduceMul, Nat.reduceLT, Nat.reduceLeDiff, Nat.reduceEqDiff, Nat.reduceSub, reduceCtorEq, Int.reduceToNat, Int.reduceLE, Int.reduceLT, Int.reduceNeg, Ty.down, eTodoss, eIntss, eInts]
  (refine hK _ ?_; try clear hK K)
  refine AWp.seq_k (fun K hK => ?_)
  refine AWp.seq_k (fun K1 hK1 => ?_); refine AWp.regionW G_good ?_; simp (maxSteps := 10000000) only [Ev.down, Nat.reduceBEq, Nat.reduceAdd, Nat.reduceMul, Nat.reduceLT, Nat.reduceLeDiff, Nat.reduceEqDiff, Nat.reduceSub, reduceCtorEq, Int.reduceToNat, Int.reduceLE, Int.reduceLT, Int.reduceNeg, Ty.down]
  have bad : ∀ sl m, lookS sl 20 = .lit (.bool true) → ¬ shortL l → K1 (St sl m) := fun sl m h1 h2 => by
    refine hK1 _ ?_
    refine AWp.cond (b := true) h1 (fun _ => ?_) (fun h => by cases h)
    refine AWp.seq_k (fun K2 hK2 => ?_); refine AWp.regionW G_good ?_; simp (maxSteps := 10000000) only [Ev.down, Nat.reduceBEq, Nat.reduceAdd, Nat.reduceMul, Nat.reduceLT, Nat.reduceLeDiff, Nat.reduceEqDiff, Nat.reduceSub, reduceCtorEq, Int.reduceToNat, Int.reduceLE, Int.reduceLT, Int.reduceNeg, Ty.down]
    (refine hK2 _ ?_; try clear hK2 K2)
    refine AWp.ret ⟨.inr rfl, RetTo.one ?_ rfl⟩
    rw [show decide (shortL l) = false from decide_eq_false h2]; rfl
  refine wpGx.split (fun g1 => ?_) (fun g1 => ?_)
  rotate_left
  · simp at g1; rw [show decide ((60 : Int) < l.todos.length) = true from by simpa using g1]; simp (maxSteps := 10000000) only [Ev.down, Nat.reduceBEq, Nat.reduceAdd, Nat.reduceMul, Nat.reduceLT, Nat.reduceLeDiff, Nat.reduceEqDiff, Nat.reduceSub, reduceCtorEq, Int.reduceToNat, Int.reduceLE, Int.reduceLT, Int.reduceNeg, Ty.down]; exact bad _ _ rfl (fun h => by have := h.1; omega)
  simp at g1
  simp (maxSteps := 10000000) only [Ev.down, Nat.reduceBEq, Nat.reduceAdd, Nat.reduceMul, Nat.reduceLT, Nat.reduceLeDiff, Nat.reduceEqDiff, Nat.reduceSub, reduceCtorEq, Int.reduceToNat, Int.reduceLE, Int.reduceLT, Int.reduceNeg, Ty.down]
  refine wpGx.split (fun g2 => ?_) (fun g2 => ?_)
  rotate_left
  · simp at g2; simp (maxSteps := 10000000) only [Ev.down, Nat.reduceBEq, Nat.reduceAdd, Nat.reduceMul, Nat.reduceLT, Nat.reduceLeDiff, Nat.reduceEqDiff, Nat.reduceSub, reduceCtorEq, Int.reduceToNat, Int.reduceLE, Int.reduceLT, Int.reduceNeg, Ty.down]; exact bad _ _ rfl (fun h => by have := h.2.1; omega)
  simp at g2
  simp (maxSteps := 10000000) only [Ev.down, Nat.reduceBEq, Nat.reduceAdd, Nat.reduceMul, Nat.reduceLT, Nat.reduceLeDiff, Nat.reduceEqDiff, Nat.reduceSub, reduceCtorEq, Int.reduceToNat, Int.reduceLE, Int.reduceLT, Int.reduceNeg, Ty.down]
  by_cases g3 : (60 : Int) < l.back.length
  · rw [show decide ((60 : Int) < l.back.length) = true from by simpa using g3]; exact bad _ _ rfl (fun h => by have := h.2.2.1; omega)
  rw [show decide ((60 : Int) < l.back.length) = false from by simpa using g3]
  (refine hK1 _ ?_; try clear hK1 K1)
  refine AWp.cond (b := false) rfl (fun h => by cases h) (fun _ => ?_)
  refine AWp.skip ?_
  simp (maxSteps := 10000000) only [Ev.down, Nat.reduceBEq, Nat.reduceAdd, Nat.reduceMul, Nat.reduceLT, Nat.reduceLeDiff, Nat.reduceEqDiff, Nat.reduceSub, reduceCtorEq, Int.reduceToNat, Int.reduceLE, Int.reduceLT, Int.reduceNeg, Ty.down]
  clear bad
  (refine hK _ ?_; try clear hK K)
  refine AWp.seq_k (fun K hK => ?_)
  refine AWp.seq_k (fun K1 hK1 => ?_); refine AWp.regionW G_good ?_; simp (maxSteps := 10000000) only [Ev.down, Nat.reduceBEq, Nat.reduceAdd, Nat.reduceMul, Nat.reduceLT, Nat.reduceLeDiff, Nat.reduceEqDiff, Nat.reduceSub, reduceCtorEq, Int.reduceToNat, Int.reduceLE, Int.reduceLT, Int.reduceNeg, Ty.down]
  (refine hK1 _ ?_; try clear hK1 K1)
  refine AWp.block ?_ -- 0
  refine AWp.loopF (ι := Nat) (fun k => St [(1, .ptr 10 0 0), (3, .lit (.int .i64 k))] [(10, .live 4 [.agg [.sl 1 (l.todos.map eTodos), .sl 1 (l.stack.map eInts), .sl 1 (l.back.map eInt), .lit (.bool l.busy)]] false)]) (fun k => k ≤ l.todos.length ∧ ∀ j x, j < k → l.todos[j]? = some x → x.length ≤ 60) (fun k => l.todos.length - k) 0 ⟨Nat.zero_le _, by simp⟩ ?_ ?_
  · exact Sits.pick (by simp only [allS, allM, Ev.down, Nat.reduceBEq, Nat.reduceAdd, Nat.reduceMul, Nat.reduceLT, Nat.reduceLeDiff, Nat.reduceEqDiff, Nat.reduceSub, reduceCtorEq, Int.reduceToNat, Int.reduceLE, Int.reduceLT, Int.reduceNeg, Ty.down, refOK, refOKL, refMS, wideMS, noRef, noRefL, List.contains_cons, List.contains_nil, Bool.or_false, Bool.or_true, Bool.true_or, List.nodup_cons, List.nodup_nil, List.mem_cons, List.not_mem_nil, or_false, not_false_eq_true, not_true_eq_false, Bool.or_self, Wide.cons_iff, Wide.nil_iff]) (by simp only [allS, allM, Ev.down, Nat.reduceBEq, Nat.reduceAdd, Nat.reduceMul, Nat.reduceLT, Nat.reduceLeDiff, Nat.reduceEqDiff, Nat.reduceSub, reduceCtorEq, Int.reduceToNat, Int.reduceLE, Int.reduceLT, Int.reduceNeg, Ty.down, refOK, refOKL, refMS, wideMS, noRef, noRefL, List.contains_cons, List.contains_nil, Bool.or_false, Bool.or_true, Bool.true_or, List.nodup_cons, List.nodup_nil, List.mem_cons, List.not_mem_nil, or_false, not_false_eq_true, not_true_eq_false, Bool.or_self, Wide.cons_iff, Wide.nil_iff]) (by simp only [allS, allM, Ev.down, Nat.reduceBEq, Nat.reduceAdd, Nat.reduceMul, Nat.reduceLT, Nat.reduceLeDiff, Nat.reduceEqDiff, Nat.reduceSub, reduceCtorEq, Int.reduceToNat, Int.reduceLE, Int.reduceLT, Int.reduceNeg, Ty.down, refOK, refOKL, refMS, wideMS, noRef, noRefL, List.contains_cons, List.contains_nil, Bool.or_false, Bool.or_true, Bool.true_or, List.nodup_cons, List.nodup_nil, List.mem_cons, List.not_mem_nil, or_false, not_false_eq_true, not_true_eq_false, Bool.or_self, Wide.cons_iff, Wide.nil_iff])
  rintro k ⟨hk, hinv⟩
  refine AWp.seq_k (fun K1 hK1 => ?_)
  refine AWp.seq_k (fun K2 hK2 => ?_); refine AWp.regionW G_good ?_; simp (maxSteps := 10000000) only [Ev.down, Nat.reduceBEq, Nat.reduceAdd, Nat.reduceMul, Nat.reduceLT, Nat.reduceLeDiff, Nat.reduceEqDiff, Nat.reduceSub, reduceCtorEq, Int.reduceToNat, Int.reduceLE, Int.reduceLT, Int.reduceNeg, Ty.down]
  (refine hK2 _ ?_; try clear hK2 K2)
  refine AWp.cond (b := decide ((k : Int) < l.todos.length)) rfl (fun h => ?_) (fun h => ?_)
  ·
    refine AWp.skip ?_
    simp (maxSteps := 10000000) only [Ev.down, Nat.reduceBEq, Nat.reduceAdd, Nat.reduceMul, Nat.reduceLT, Nat.reduceLeDiff, Nat.reduceEqDiff, Nat.reduceSub, reduceCtorEq, Int.reduceToNat, Int.reduceLE, Int.reduceLT, Int.reduceNeg, Ty.down]
    have hk' : k < l.todos.length := by simpa using h
    obtain ⟨x, hx⟩ : ∃ x, l.todos[k]? = some x := ⟨_, List.getElem?_eq_getElem hk'⟩
    (refine hK1 _ ?_; try clear hK1 K1)
    refine AWp.seq_k (fun K1 hK1 => ?_)
    refine AWp.block ?_ -- 1
    refine AWp.seq_k (fun K2 hK2 => ?_); refine AWp.regionW G_good ?_; simp (maxSteps := 10000000) only [Ev.down, Nat.reduceBEq, Nat.reduceAdd, Nat.reduceMul, Nat.reduceLT, Nat.reduceLeDiff, Nat.reduceEqDiff, Nat.reduceSub, reduceCtorEq, Int.reduceToNat, Int.reduceLE, Int.reduceLT, Int.reduceNeg, Ty.down, hx, eTodos]
    (refine hK2 _ ?_; try clear hK2 K2)
    refine AWp.cond (b := decide ((60 : Int) < x.length)) rfl (fun h2 => ?_) (fun h2 => ?_)
    ·
      refine AWp.seq_k (fun K2 hK2 => ?_); refine AWp.regionW G_good ?_; simp (maxSteps := 10000000) only [Ev.down, Nat.reduceBEq, Nat.reduceAdd, Nat.reduceMul, Nat.reduceLT, Nat.reduceLeDiff, Nat.reduceEqDiff, Nat.reduceSub, reduceCtorEq, Int.reduceToNat, Int.reduceLE, Int.reduceLT, Int.reduceNeg, Ty.down]
      (refine hK2 _ ?_; try clear hK2 K2)
      refine AWp.ret ⟨.inr rfl, RetTo.one ?_ rfl⟩
      rw [show decide (shortL l) = false from decide_eq_false (fun hh => by have := hh.2.2.2.1 x (List.mem_of_getElem? hx); simp at h2; omega)]; rfl
    ·
      refine AWp.skip ?_
      simp (maxSteps := 10000000) only [Ev.down, Nat.reduceBEq, Nat.reduceAdd, Nat.reduceMul, Nat.reduceLT, Nat.reduceLeDiff, Nat.reduceEqDiff, Nat.reduceSub, reduceCtorEq, Int.reduceToNat, Int.reduceLE, Int.reduceLT, Int.reduceNeg, Ty.down]
      (refine hK1 _ ?_; try clear hK1 K1)
      refine AWp.regionW G_good ?_; simp (maxSteps := 10000000) only [Ev.down, Nat.reduceBEq, Nat.reduceAdd, Nat.reduceMul, Nat.reduceLT, Nat.reduceLeDiff, Nat.reduceEqDiff, Nat.reduceSub, reduceCtorEq, Int.reduceToNat, Int.reduceLE, Int.reduceLT, Int.reduceNeg, Ty.down, wrap_succ k (by omega)]
      refine ⟨k + 1, ⟨by omega, fun j y hj hy => ?_⟩, by omega, Sits.pick (by simp only [allS, allM, Ev.down, Nat.reduceBEq, Nat.reduceAdd, Nat.reduceMul, Nat.reduceLT, Nat.reduceLeDiff, Nat.reduceEqDiff, Nat.reduceSub, reduceCtorEq, Int.reduceToNat, Int.reduceLE, Int.reduceLT, Int.reduceNeg, Ty.down, refOK, refOKL, refMS, wideMS, noRef, noRefL, List.contains_cons, List.contains_nil, Bool.or_false, Bool.or_true, Bool.true_or, List.nodup_cons, List.nodup_nil, List.mem_cons, List.not_mem_nil, or_false, not_false_eq_true, not_true_eq_false, Bool.or_self, Wide.cons_iff, Wide.nil_iff]) (by simp only [allS, allM, Ev.down, Nat.reduceBEq, Nat.reduceAdd, Nat.reduceMul, Nat.reduceLT, Nat.reduceLeDiff, Nat.reduceEqDiff, Nat.reduceSub, reduceCtorEq, Int.reduceToNat, Int.reduceLE, Int.reduceLT, Int.reduceNeg, Ty.down, refOK, refOKL, refMS, wideMS, noRef, noRefL, List.contains_cons, List.contains_nil, Bool.or_false, Bool.or_true, Bool.true_or, List.nodup_cons, List.nodup_nil, List.mem_cons, List.not_mem_nil, or_false, not_false_eq_true, not_true_eq_false, Bool.or_self, Wide.cons_iff, Wide.nil_iff]) (by simp only [allS, allM, Ev.down, Nat.reduceBEq, Nat.reduceAdd, Nat.reduceMul, Nat.reduceLT, Nat.reduceLeDiff, Nat.reduceEqDiff, Nat.reduceSub, reduceCtorEq, Int.reduceToNat, Int.reduceLE, Int.reduceLT, Int.reduceNeg, Ty.down, refOK, refOKL, refMS, wideMS, noRef, noRefL, List.contains_cons, List.contains_nil, Bool.or_false, Bool.or_true, Bool.true_or, List.nodup_cons, List.nodup_nil, List.mem_cons, List.not_mem_nil, or_false, not_false_eq_true, not_true_eq_false, Bool.or_self, Wide.cons_iff, Wide.nil_iff])⟩
      by_cases hjk : j = k
      · subst hjk; rw [hx] at hy; cases hy; simp at h2; omega
      · exact hinv j y (by omega) hy
  ·
    refine AWp.exit ?_ -- 0
    simp (maxSteps := 10000000) only [Ev.down, Nat.reduceBEq, Nat.reduceAdd, Nat.reduceMul, Nat.reduceLT, Nat.reduceLeDiff, Nat.reduceEqDiff, Nat.reduceSub, reduceCtorEq, Int.reduceToNat, Int.reduceLE, Int.reduceLT, Int.reduceNeg, Ty.down]
    have hall : ∀ x ∈ l.todos, x.length ≤ 60 := fun x hx => by
      obtain ⟨j, hj⟩ := List.getElem?_of_mem hx
      exact hinv j x (by have := (List.getElem?_eq_some_iff.1 hj).1; simp at h; omega) hj
    clear hinv hk h
    (refine hK _ ?_; try clear hK K)
    refine AWp.seq_k (fun K hK => ?_)
    refine AWp.seq_k (fun K1 hK1 => ?_); refine AWp.regionW G_good ?_; simp (maxSteps := 10000000) only [Ev.down, Nat.reduceBEq, Nat.reduceAdd, Nat.reduceMul, Nat.reduceLT, Nat.reduceLeDiff, Nat.reduceEqDiff, Nat.reduceSub, reduceCtorEq, Int.reduceToNat, Int.reduceLE, Int.reduceLT, Int.reduceNeg, Ty.down]
    (refine hK1 _ ?_; try clear hK1 K1)
    refine AWp.block ?_ -- 2
    refine AWp.loopF (ι := Nat) (fun k => St [(1, .ptr 10 0 0), (4, .lit (.int .i64 k))] [(10, .live 4 [.agg [.sl 1 (l.todos.map eTodos), .sl 1 (l.stack.map eInts), .sl 1 (l.back.map eInt), .lit (.bool l.busy)]] false)]) (fun k => k ≤ l.stack.length ∧ ∀ j x, j < k → l.stack[j]? = some x → x.length ≤ 60) (fun k => l.stack.length - k) 0 ⟨Nat.zero_le _, by simp⟩ ?_ ?_
    · exact Sits.pick (by simp only [allS, allM, Ev.down, Nat.reduceBEq, Nat.reduceAdd, Nat.reduceMul, Nat.reduceLT, Nat.reduceLeDiff, Nat.reduceEqDiff, Nat.reduceSub, reduceCtorEq, Int.reduceToNat, Int.reduceLE, Int.reduceLT, Int.reduceNeg, Ty.down, refOK, refOKL, refMS, wideMS, noRef, noRefL, List.contains_cons, List.contains_nil, Bool.or_false, Bool.or_true, Bool.true_or, List.nodup_cons, List.nodup_nil, List.mem_cons, List.not_mem_nil, or_false, not_false_eq_true, not_true_eq_false, Bool.or_self, Wide.cons_iff, Wide.nil_iff]) (by simp only [allS, allM, Ev.down, Nat.reduceBEq, Nat.reduceAdd, Nat.reduceMul, Nat.reduceLT, Nat.reduceLeDiff, Nat.reduceEqDiff, Nat.reduceSub, reduceCtorEq, Int.reduceToNat, Int.reduceLE, Int.reduceLT, Int.reduceNeg, Ty.down, refOK, refOKL, refMS, wideMS, noRef, noRefL, List.contains_cons, List.contains_nil, Bool.or_false, Bool.or_true, Bool.true_or, List.nodup_cons, List.nodup_nil, List.mem_cons, List.not_mem_nil, or_false, not_false_eq_true, not_true_eq_false, Bool.or_self, Wide.cons_iff, Wide.nil_iff]) (by simp only [allS, allM, Ev.down, Nat.reduceBEq, Nat.reduceAdd, Nat.reduceMul, Nat.reduceLT, Nat.reduceLeDiff, Nat.reduceEqDiff, Nat.reduceSub, reduceCtorEq, Int.reduceToNat, Int.reduceLE, Int.reduceLT, Int.reduceNeg, Ty.down, refOK, refOKL, refMS, wideMS, noRef, noRefL, List.contains_cons, List.contains_nil, Bool.or_false, Bool.or_true, Bool.true_or, List.nodup_cons, List.nodup_nil, List.mem_cons, List.not_mem_nil, or_false, not_false_eq_true, not_true_eq_false, Bool.or_self, Wide.cons_iff, Wide.nil_iff])
    rintro k ⟨hk, hinv⟩
    refine AWp.seq_k (fun K1 hK1 => ?_)
    refine AWp.seq_k (fun K2 hK2 => ?_); refine AWp.regionW G_good ?_; simp (maxSteps := 10000000) only [Ev.down, Nat.reduceBEq, Nat.reduceAdd, Nat.reduceMul, Nat.reduceLT, Nat.reduceLeDiff, Nat.reduceEqDiff, Nat.reduceSub, reduceCtorEq, Int.reduceToNat, Int.reduceLE, Int.reduceLT, Int.reduceNeg, Ty.down]
    (refine hK2 _ ?_; try clear hK2 K2)
    refine AWp.cond (b := decide ((k : Int) < l.stack.length)) rfl (fun h => ?_) (fun h => ?_)
    ·
      refine AWp.skip ?_
      simp (maxSteps := 10000000) only [Ev.down, Nat.reduceBEq, Nat.reduceAdd, Nat.reduceMul, Nat.reduceLT, Nat.reduceLeDiff, Nat.reduceEqDiff, Nat.reduceSub, reduceCtorEq, Int.reduceToNat, Int.reduceLE, Int.reduceLT, Int.reduceNeg, Ty.down]
      have hk' : k < l.stack.length := by simpa using h
      obtain ⟨x, hx⟩ : ∃ x, l.stack[k]? = some x := ⟨_, List.getElem?_eq_getElem hk'⟩
      (refine hK1 _ ?_; try clear hK1 K1)
      refine AWp.seq_k (fun K1 hK1 => ?_)
      refine AWp.block ?_ -- 3
      refine AWp.seq_k (fun K2 hK2 => ?_); refine AWp.regionW G_good ?_; simp (maxSteps := 10000000) only [Ev.down, Nat.reduceBEq, Nat.reduceAdd, Nat.reduceMul, Nat.reduceLT, Nat.reduceLeDiff, Nat.reduceEqDiff, Nat.reduceSub, reduceCtorEq, Int.reduceToNat, Int.reduceLE, Int.reduceLT, Int.reduceNeg, Ty.down, hx, eInts]
      (refine hK2 _ ?_; try clear hK2 K2)
      refine AWp.cond (b := decide ((60 : Int) < x.length)) rfl (fun h2 => ?_) (fun h2 => ?_)
      ·
        refine AWp.seq_k (fun K2 hK2 => ?_); refine AWp.regionW G_good ?_; simp (maxSteps := 10000000) only [Ev.down, Nat.reduceBEq, Nat.reduceAdd, Nat.reduceMul, Nat.reduceLT, Nat.reduceLeDiff, Nat.reduceEqDiff, Nat.reduceSub, reduceCtorEq, Int.reduceToNat, Int.reduceLE, Int.reduceLT, Int.reduceNeg, Ty.down]
        (refine hK2 _ ?_; try clear hK2 K2)
        refine AWp.ret ⟨.inr rfl, RetTo.one ?_ rfl⟩
        rw [show decide (shortL l) = false from decide_eq_false (fun hh => by have := hh.2.2.2.2 x (List.mem_of_getElem? hx); simp at h2; omega)]; rfl
      ·
        refine AWp.skip ?_
        simp (maxSteps := 10000000) only [Ev.down, Nat.reduceBEq, Nat.reduceAdd, Nat.reduceMul, Nat.reduceLT, Nat.reduceLeDiff, Nat.reduceEqDiff, Nat.reduceSub, reduceCtorEq, Int.reduceToNat, Int.reduceLE, Int.reduceLT, Int.reduceNeg, Ty.down]
        (refine hK1 _ ?_; try clear hK1 K1)
        refine AWp.regionW G_good ?_; simp (maxSteps := 10000000) only [Ev.down, Nat.reduceBEq, Nat.reduceAdd, Nat.reduceMul, Nat.reduceLT, Nat.reduceLeDiff, Nat.reduceEqDiff, Nat.reduceSub, reduceCtorEq, Int.reduceToNat, Int.reduceLE, Int.reduceLT, Int.reduceNeg, Ty.down, wrap_succ k (by omega)]
        refine ⟨k + 1, ⟨by omega, fun j y hj hy => ?_⟩, by omega, Sits.pick (by simp only [allS, allM, Ev.down, Nat.reduceBEq, Nat.reduceAdd, Nat.reduceMul, Nat.reduceLT, Nat.reduceLeDiff, Nat.reduceEqDiff, Nat.reduceSub, reduceCtorEq, Int.reduceToNat, Int.reduceLE, Int.reduceLT, Int.reduceNeg, Ty.down, refOK, refOKL, refMS, wideMS, noRef, noRefL, List.contains_cons, List.contains_nil, Bool.or_false, Bool.or_true, Bool.true_or, List.nodup_cons, List.nodup_nil, List.mem_cons, List.not_mem_nil, or_false, not_false_eq_true, not_true_eq_false, Bool.or_self, Wide.cons_iff, Wide.nil_iff]) (by simp only [allS, allM, Ev.down, Nat.reduceBEq, Nat.reduceAdd, Nat.reduceMul, Nat.reduceLT, Nat.reduceLeDiff, Nat.reduceEqDiff, Nat.reduceSub, reduceCtorEq, Int.reduceToNat, Int.reduceLE, Int.reduceLT, Int.reduceNeg, Ty.down, refOK, refOKL, refMS, wideMS, noRef, noRefL, List.contains_cons, List.contains_nil, Bool.or_false, Bool.or_true, Bool.true_or, List.nodup_cons, List.nodup_nil, List.mem_cons, List.not_mem_nil, or_false, not_false_eq_true, not_true_eq_false, Bool.or_self, Wide.cons_iff, Wide.nil_iff]) (by simp only [allS, allM, Ev.down, Nat.reduceBEq, Nat.reduceAdd, Nat.reduceMul, Nat.reduceLT, Nat.reduceLeDiff, Nat.reduceEqDiff, Nat.reduceSub, reduceCtorEq, Int.reduceToNat, Int.reduceLE, Int.reduceLT, Int.reduceNeg, Ty.down, refOK, refOKL, refMS, wideMS, noRef, noRefL, List.contains_cons, List.contains_nil, Bool.or_false, Bool.or_true, Bool.true_or, List.nodup_cons, List.nodup_nil, List.mem_cons, List.not_mem_nil, or_false, not_false_eq_true, not_true_eq_false, Bool.or_self, Wide.cons_iff, Wide.nil_iff])⟩
        by_cases hjk : j = k
        · subst hjk; rw [hx] at hy; cases hy; simp at h2; omega
        · exact hinv j y (by omega) hy
    ·
      refine AWp.exit ?_ -- 2
      simp (maxSteps := 10000000) only [Ev.down, Nat.reduceBEq, Nat.reduceAdd, Nat.reduceMul, Nat.reduceLT, Nat.reduceLeDiff, Nat.reduceEqDiff, Nat.reduceSub, reduceCtorEq, Int.reduceToNat, Int.reduceLE, Int.reduceLT, Int.reduceNeg, Ty.down]
      (refine hK _ ?_; try clear hK K)
      refine AWp.seq_k (fun K hK => ?_); refine AWp.regionW G_good ?_; simp (maxSteps := 10000000) only [Ev.down, Nat.reduceBEq, Nat.reduceAdd, Nat.reduceMul, Nat.reduceLT, Nat.reduceLeDiff, Nat.reduceEqDiff, Nat.reduceSub, reduceCtorEq, Int.reduceToNat, Int.reduceLE, Int.reduceLT, Int.reduceNeg, Ty.down]
      (refine hK _ ?_; try clear hK K)
      refine AWp.ret ⟨.inr rfl, RetTo.one ?_ rfl⟩
      have hall2 : ∀ x ∈ l.stack, x.length ≤ 60 := fun x hx => by
        obtain ⟨j, hj⟩ := List.getElem?_of_mem hx
        exact hinv j x (by have := (List.getElem?_eq_some_iff.1 hj).1; simp at h; omega) hj
      rw [show decide (shortL l) = true from decide_eq_true ⟨by omega, by omega, by omega, hall, hall2⟩]; rfl

theorem f12_ok (a b : LineM) (hs : Sm 90000 a) : FnOK Try.prog 12 [] [eLine a, eLine b] [] (.lit (.bool (decide (a = b)))) := by
  refine FnOK.start (rvs := [.tmp 4]) Try.func12 rfl Try.ntmps12 rfl (by simp) ?_
  simp only [argsS, objsS, Nat.reduceAdd, Nat.zero_add, List.length_nil]
  simp only [eLine]
  refine AWp.seq_k (fun K hK => ?_); refine AWp.regionW G_good ?_; simp (maxSteps := 10000000) only [Ev.down, Nat.reduceBEq, Nat.reduceAdd, Nat.reduceMul, Nat.reduceLT, Nat.reduceLeDiff, Nat.reduceEqDiff, Nat.reduceSub, reduceCtorEq, Int.reduceToNat, Int.reduceLE, Int.reduceLT, Int.reduceNeg, Ty.down, eTodoss, eIntss]
  (refine hK _ ?_; try clear hK K)
  refine AWp.seq_k (fun K hK => ?_)
  refine AWp.seq_k (fun K1 hK1 => ?_); refine AWp.regionW G_good ?_; simp (maxSteps := 10000000) only [Ev.down, Nat.reduceBEq, Nat.reduceAdd, Nat.reduceMul, Nat.reduceLT, Nat.reduceLeDiff, Nat.reduceEqDiff, Nat.reduceSub, reduceCtorEq, Int.reduceToNat, Int.reduceLE, Int.reduceLT, Int.reduceNeg, Ty.down]
  have bad : ∀ sl m, lookS sl 37 = .lit (.bool true) → a ≠ b → K1 (St sl m) := fun sl m h1 h2 => by
    refine hK1 _ ?_
    refine AWp.cond (b := true) h1 (fun _ => ?_) (fun h => by cases h)
    refine AWp.seq_k (fun K2 hK2 => ?_); refine AWp.regionW G_good ?_; simp (maxSteps := 10000000) only [Ev.down, Nat.reduceBEq, Nat.reduceAdd, Nat.reduceMul, Nat.reduceLT, Nat.reduceLeDiff, Nat.reduceEqDiff, Nat.reduceSub, reduceCtorEq, Int.reduceToNat, Int.reduceLE, Int.reduceLT, Int.reduceNeg, Ty.down]
    (refine hK2 _ ?_; try clear hK2 K2)
    refine AWp.ret ⟨.inr rfl, RetTo.one ?_ rfl⟩
    rw [show decide (a = b) = false from decide_eq_false h2]; rfl
  refine wpGx.split (fun g1 => ?_) (fun g1 => ?_)
  rotate_left
  · simp at g1; simp (maxSteps := 10000000) only [Ev.down, Nat.reduceBEq, Nat.reduceAdd, Nat.reduceMul, Nat.reduceLT, Nat.reduceLeDiff, Nat.reduceEqDiff, Nat.reduceSub, reduceCtorEq, Int.reduceToNat, Int.reduceLE, Int.reduceLT, Int.reduceNeg, Ty.down]; exact bad _ _ rfl (fun h => by rw [h] at g1; exact g1 rfl)
  simp at g1
  simp (maxSteps := 10000000) only [Ev.down, Nat.reduceBEq, Nat.reduceAdd, Nat.reduceMul, Nat.reduceLT, Nat.reduceLeDiff, Nat.reduceEqDiff, Nat.reduceSub, reduceCtorEq, Int.reduceToNat, Int.reduceLE, Int.reduceLT, Int.reduceNeg, Ty.down]
  refine wpGx.split (fun g2 => ?_) (fun g2 => ?_)
  rotate_left
  · simp at g2; simp (maxSteps := 10000000) only [Ev.down, Nat.reduceBEq, Nat.reduceAdd, Nat.reduceMul, Nat.reduceLT, Nat.reduceLeDiff, Nat.reduceEqDiff, Nat.reduceSub, reduceCtorEq, Int.reduceToNat, Int.reduceLE, Int.reduceLT, Int.reduceNeg, Ty.down]; exact bad _ _ rfl (fun h => by rw [h] at g2; exact g2 rfl)
  simp at g2
  simp (maxSteps := 10000000) only [Ev.down, Nat.reduceBEq, Nat.reduceAdd, Nat.reduceMul, Nat.reduceLT, Nat.reduceLeDiff, Nat.reduceEqDiff, Nat.reduceSub, reduceCtorEq, Int.reduceToNat, Int.reduceLE, Int.reduceLT, Int.reduceNeg, Ty.down]
  refine ByHand.call 280 (f14_ok a.back b.back (by have := hs.back; omega)) (.func rfl rfl) c14 rfl (by simp (maxSteps := 10000000) only [Ev.down, Nat.reduceBEq, Nat.reduceAdd, Nat.reduceMul, Nat.reduceLT, Nat.reduceLeDiff, Nat.reduceEqDiff, Nat.reduceSub, reduceCtorEq, Int.reduceToNat, Int.reduceLE, Int.reduceLT, Int.reduceNeg, Ty.down, noRefL, noRef, Bool.and_self]) rfl rfl trivial rfl ?_
  simp (maxSteps := 10000000) only [Ev.down, Nat.reduceBEq, Nat.reduceAdd, Nat.reduceMul, Nat.reduceLT, Nat.reduceLeDiff, Nat.reduceEqDiff, Nat.reduceSub, reduceCtorEq, Int.reduceToNat, Int.reduceLE, Int.reduceLT, Int.reduceNeg, Ty.down]
  refine wpGx.split (fun g3 => ?_) (fun g3 => ?_)
  rotate_left
  · simp at g3; simp (maxSteps := 10000000) only [Ev.down, Nat.reduceBEq, Nat.reduceAdd, Nat.reduceMul, Nat.reduceLT, Nat.reduceLeDiff, Nat.reduceEqDiff, Nat.reduceSub, reduceCtorEq, Int.reduceToNat, Int.reduceLE, Int.reduceLT, Int.reduceNeg, Ty.down]; exact bad _ _ rfl (fun h => by rw [h] at g3; exact g3 rfl)
  simp at g3
  simp (maxSteps := 10000000) only [Ev.down, Nat.reduceBEq, Nat.reduceAdd, Nat.reduceMul, Nat.reduceLT, Nat.reduceLeDiff, Nat.reduceEqDiff, Nat.reduceSub, reduceCtorEq, Int.reduceToNat, Int.reduceLE, Int.reduceLT, Int.reduceNeg, Ty.down]
  by_cases g4 : a.busy = b.busy
  · rw [show (!(a.busy == b.busy)) = false from by simp [g4]]
    (refine hK1 _ ?_; try clear hK1 K1)
    refine AWp.cond (b := false) rfl (fun h => by cases h) (fun _ => ?_)
    refine AWp.skip ?_
    simp (maxSteps := 10000000) only [Ev.down, Nat.reduceBEq, Nat.reduceAdd, Nat.reduceMul, Nat.reduceLT, Nat.reduceLeDiff, Nat.reduceEqDiff, Nat.reduceSub, reduceCtorEq, Int.reduceToNat, Int.reduceLE, Int.reduceLT, Int.reduceNeg, Ty.down]
    clear bad
    (refine hK _ ?_; try clear hK K)
    refine AWp.seq_k (fun K hK => ?_)
    refine AWp.seq_k (fun K1 hK1 => ?_); refine AWp.regionW G_good ?_; simp (maxSteps := 10000000) only [Ev.down, Nat.reduceBEq, Nat.reduceAdd, Nat.reduceMul, Nat.reduceLT, Nat.reduceLeDiff, Nat.reduceEqDiff, Nat.reduceSub, reduceCtorEq, Int.reduceToNat, Int.reduceLE, Int.reduceLT, Int.reduceNeg, Ty.down]
    (refine hK1 _ ?_; try clear hK1 K1)
    refine AWp.block ?_
    refine AWp.loopF (ι := Nat) (fun k => St [(2, .ptr 20 0 0), (3, .ptr 30 0 0), (5, .lit (.int .i64 k))] [(20, .live 4 [.agg [.sl 1 (a.todos.map eTodos), .sl 1 (a.stack.map eInts), eInts a.back, .lit (.bool a.busy)]] false), (30, .live 4 [.agg [.sl 1 (b.todos.map eTodos), .sl 1 (b.stack.map eInts), eInts b.back, .lit (.bool b.busy)]] false)]) (fun k => k ≤ a.todos.length ∧ ∀ j, j < k → a.todos[j]? = b.todos[j]?) (fun k => a.todos.length - k) 0 ⟨Nat.zero_le _, by simp⟩ ?_ ?_
    · exact Sits.pick (by simp only [allS, allM, Ev.down, Nat.reduceBEq, Nat.reduceAdd, Nat.reduceMul, Nat.reduceLT, Nat.reduceLeDiff, Nat.reduceEqDiff, Nat.reduceSub, reduceCtorEq, Int.reduceToNat, Int.reduceLE, Int.reduceLT, Int.reduceNeg, Ty.down, refOK, refOKL, refMS, wideMS, noRef, noRefL, List.contains_cons, List.contains_nil, Bool.or_false, Bool.or_true, Bool.true_or, List.nodup_cons, List.nodup_nil, List.mem_cons, List.not_mem_nil, or_false, not_false_eq_true, not_true_eq_false, Bool.or_self, Wide.cons_iff, Wide.nil_iff]) (by simp only [allS, allM, Ev.down, Nat.reduceBEq, Nat.reduceAdd, Nat.reduceMul, Nat.reduceLT, Nat.reduceLeDiff, Nat.reduceEqDiff, Nat.reduceSub, reduceCtorEq, Int.reduceToNat, Int.reduceLE, Int.reduceLT, Int.reduceNeg, Ty.down, refOK, refOKL, refMS, wideMS, noRef, noRefL, List.contains_cons, List.contains_nil, Bool.or_false, Bool.or_true, Bool.true_or, List.nodup_cons, List.nodup_nil, List.mem_cons, List.not_mem_nil, or_false, not_false_eq_true, not_true_eq_false, Bool.or_self, Wide.cons_iff, Wide.nil_iff]) (by simp only [allS, allM, Ev.down, Nat.reduceBEq, Nat.reduceAdd, Nat.reduceMul, Nat.reduceLT, Nat.reduceLeDiff, Nat.reduceEqDiff, Nat.reduceSub, reduceCtorEq, Int.reduceToNat, Int.reduceLE, Int.reduceLT, Int.reduceNeg, Ty.down, refOK, refOKL, refMS, wideMS, noRef, noRefL, List.contains_cons, List.contains_nil, Bool.or_false, Bool.or_true, Bool.true_or, List.nodup_cons, List.nodup_nil, List.mem_cons, List.not_mem_nil, or_false, not_false_eq_true, not_true_eq_false, Bool.or_self, Wide.cons_iff, Wide.nil_iff])
    rintro k ⟨hk, hinv⟩
    refine AWp.seq_k (fun K1 hK1 => ?_)
    refine AWp.seq_k (fun K2 hK2 => ?_); refine AWp.regionW G_good ?_; simp (maxSteps := 10000000) only [Ev.down, Nat.reduceBEq, Nat.reduceAdd, Nat.reduceMul, Nat.reduceLT, Nat.reduceLeDiff, Nat.reduceEqDiff, Nat.reduceSub, reduceCtorEq, Int.reduceToNat, Int.reduceLE, Int.reduceLT, Int.reduceNeg, Ty.down]
    (refine hK2 _ ?_; try clear hK2 K2)
    refine AWp.cond (b := decide ((k : Int) < a.todos.length)) rfl (fun h => ?_) (fun h => ?_)
    ·
      refine AWp.skip ?_
      simp (maxSteps := 10000000) only [Ev.down, Nat.reduceBEq, Nat.reduceAdd, Nat.reduceMul, Nat.reduceLT, Nat.reduceLeDiff, Nat.reduceEqDiff, Nat.reduceSub, reduceCtorEq, Int.reduceToNat, Int.reduceLE, Int.reduceLT, Int.reduceNeg, Ty.down]
      have hk' : k < a.todos.length := by simpa using h
      obtain ⟨x, hx⟩ : ∃ x, a.todos[k]? = some x := ⟨_, List.getElem?_eq_getElem hk'⟩
      obtain ⟨y, hy⟩ : ∃ y, b.todos[k]? = some y := ⟨_, List.getElem?_eq_getElem (by omega)⟩
      have hxl := hs.todo x (List.mem_of_getElem? hx)
      (refine hK1 _ ?_; try clear hK1 K1)
      refine AWp.seq_k (fun K1 hK1 => ?_)
      refine AWp.block ?_
      refine AWp.seq_k (fun K2 hK2 => ?_); refine AWp.drawsW G_good Try.checked.mixed (by kernel_rfl) ?_; simp (maxSteps := 10000000) only [Ev.down, Nat.reduceBEq, Nat.reduceAdd, Nat.reduceMul, Nat.reduceLT, Nat.reduceLeDiff, Nat.reduceEqDiff, Nat.reduceSub, reduceCtorEq, Int.reduceToNat, Int.reduceLE, Int.reduceLT, Int.reduceNeg, Ty.down, hx, hy]
      refine ByHand.call 550 (f16_ok x y (by omega)) (.func rfl rfl) c16 rfl (by simp (maxSteps := 10000000) only [Ev.down, Nat.reduceBEq, Nat.reduceAdd, Nat.reduceMul, Nat.reduceLT, Nat.reduceLeDiff, Nat.reduceEqDiff, Nat.reduceSub, reduceCtorEq, Int.reduceToNat, Int.reduceLE, Int.reduceLT, Int.reduceNeg, Ty.down, noRefL, noRef, Bool.and_self]) rfl rfl trivial rfl ?_
      simp (maxSteps := 10000000) only [Ev.down, Nat.reduceBEq, Nat.reduceAdd, Nat.reduceMul, Nat.reduceLT, Nat.reduceLeDiff, Nat.reduceEqDiff, Nat.reduceSub, reduceCtorEq, Int.reduceToNat, Int.reduceLE, Int.reduceLT, Int.reduceNeg, Ty.down]
      refine ⟨by kernel_rfl, ?_⟩
      (refine hK2 _ ?_; try clear hK2 K2)
      refine AWp.cond (b := !(decide (x = y))) rfl (fun h2 => ?_) (fun h2 => ?_)
      ·
        refine AWp.seq_k (fun K2 hK2 => ?_); refine AWp.regionW G_good ?_; simp (maxSteps := 10000000) only [Ev.down, Nat.reduceBEq, Nat.reduceAdd, Nat.reduceMul, Nat.reduceLT, Nat.reduceLeDiff, Nat.reduceEqDiff, Nat.reduceSub, reduceCtorEq, Int.reduceToNat, Int.reduceLE, Int.reduceLT, Int.reduceNeg, Ty.down]
        (refine hK2 _ ?_; try clear hK2 K2)
        refine AWp.ret ⟨.inr rfl, RetTo.one ?_ rfl⟩
        simp at h2
        rw [show decide (a = b) = false from decide_eq_false (fun hh => by rw [hh] at hx; rw [hx] at hy; cases hy; exact h2 rfl)]; rfl
      ·
        simp at h2
        refine AWp.skip ?_
        simp (maxSteps := 10000000) only [Ev.down, Nat.reduceBEq, Nat.reduceAdd, Nat.reduceMul, Nat.reduceLT, Nat.reduceLeDiff, Nat.reduceEqDiff, Nat.reduceSub, reduceCtorEq, Int.reduceToNat, Int.reduceLE, Int.reduceLT, Int.reduceNeg, Ty.down]
        (refine hK1 _ ?_; try clear hK1 K1)
        refine AWp.regionW G_good ?_; simp (maxSteps := 10000000) only [Ev.down, Nat.reduceBEq, Nat.reduceAdd, Nat.reduceMul, Nat.reduceLT, Nat.reduceLeDiff, Nat.reduceEqDiff, Nat.reduceSub, reduceCtorEq, Int.reduceToNat, Int.reduceLE, Int.reduceLT, Int.reduceNeg, Ty.down, wrap_succ k (by have := hs.todos; have := hs.stack; omega)]
        refine ⟨k + 1, ⟨by omega, fun j hj => ?_⟩, by omega, Sits.pick (by simp only [allS, allM, Ev.down, Nat.reduceBEq, Nat.reduceAdd, Nat.reduceMul, Nat.reduceLT, Nat.reduceLeDiff, Nat.reduceEqDiff, Nat.reduceSub, reduceCtorEq, Int.reduceToNat, Int.reduceLE, Int.reduceLT, Int.reduceNeg, Ty.down, refOK, refOKL, refMS, wideMS, noRef, noRefL, List.contains_cons, List.contains_nil, Bool.or_false, Bool.or_true, Bool.true_or, List.nodup_cons, List.nodup_nil, List.mem_cons, List.not_mem_nil, or_false, not_false_eq_true, not_true_eq_false, Bool.or_self, Wide.cons_iff, Wide.nil_iff]) (by simp only [allS, allM, Ev.down, Nat.reduceBEq, Nat.reduceAdd, Nat.reduceMul, Nat.reduceLT, Nat.reduceLeDiff, Nat.reduceEqDiff, Nat.reduceSub, reduceCtorEq, Int.reduceToNat, Int.reduceLE, Int.reduceLT, Int.reduceNeg, Ty.down, refOK, refOKL, refMS, wideMS, noRef, noRefL, List.contains_cons, List.contains_nil, Bool.or_false, Bool.or_true, Bool.true_or, List.nodup_cons, List.nodup_nil, List.mem_cons, List.not_mem_nil, or_false, not_false_eq_true, not_true_eq_false, Bool.or_self, Wide.cons_iff, Wide.nil_iff]) (by simp only [allS, allM, Ev.down, Nat.reduceBEq, Nat.reduceAdd, Nat.reduceMul, Nat.reduceLT, Nat.reduceLeDiff, Nat.reduceEqDiff, Nat.reduceSub, reduceCtorEq, Int.reduceToNat, Int.reduceLE, Int.reduceLT, Int.reduceNeg, Ty.down, refOK, refOKL, refMS, wideMS, noRef, noRefL, List.contains_cons, List.contains_nil, Bool.or_false, Bool.or_true, Bool.true_or, List.nodup_cons, List.nodup_nil, List.mem_cons, List.not_mem_nil, or_false, not_false_eq_true, not_true_eq_false, Bool.or_self, Wide.cons_iff, Wide.nil_iff])⟩
        by_cases hjk : j = k
        · rw [hjk, hx, hy, h2]
        · exact hinv j (by omega)
    ·
      refine AWp.exit ?_
      simp (maxSteps := 10000000) only [Ev.down, Nat.reduceBEq, Nat.reduceAdd, Nat.reduceMul, Nat.reduceLT, Nat.reduceLeDiff, Nat.reduceEqDiff, Nat.reduceSub, reduceCtorEq, Int.reduceToNat, Int.reduceLE, Int.reduceLT, Int.reduceNeg, Ty.down]
      have e1 : a.todos = b.todos := list_eq_of (by omega) (fun j hj => hinv j (by simp at h; omega))
      clear hinv hk h
      (refine hK _ ?_; try clear hK K)
      refine AWp.seq_k (fun K hK => ?_)
      refine AWp.seq_k (fun K1 hK1 => ?_); refine AWp.regionW G_good ?_; simp (maxSteps := 10000000) only [Ev.down, Nat.reduceBEq, Nat.reduceAdd, Nat.reduceMul, Nat.reduceLT, Nat.reduceLeDiff, Nat.reduceEqDiff, Nat.reduceSub, reduceCtorEq, Int.reduceToNat, Int.reduceLE, Int.reduceLT, Int.reduceNeg, Ty.down]
      (refine hK1 _ ?_; try clear hK1 K1)
      refine AWp.block ?_
      refine AWp.loopF (ι := Nat) (fun k => St [(2, .ptr 20 0 0), (3, .ptr 30 0 0), (6, .lit (.int .i64 k))] [(20, .live 4 [.agg [.sl 1 (a.todos.map eTodos), .sl 1 (a.stack.map eInts), eInts a.back, .lit (.bool a.busy)]] false), (30, .live 4 [.agg [.sl 1 (b.todos.map eTodos), .sl 1 (b.stack.map eInts), eInts b.back, .lit (.bool b.busy)]] false)]) (fun k => k ≤ a.stack.length ∧ ∀ j, j < k → a.stack[j]? = b.stack[j]?) (fun k => a.stack.length - k) 0 ⟨Nat.zero_le _, by simp⟩ ?_ ?_
      · exact Sits.pick (by simp only [allS, allM, Ev.down, Nat.reduceBEq, Nat.reduceAdd, Nat.reduceMul, Nat.reduceLT, Nat.reduceLeDiff, Nat.reduceEqDiff, Nat.reduceSub, reduceCtorEq, Int.reduceToNat, Int.reduceLE, Int.reduceLT, Int.reduceNeg, Ty.down, refOK, refOKL, refMS, wideMS, noRef, noRefL, List.contains_cons, List.contains_nil, Bool.or_false, Bool.or_true, Bool.true_or, List.nodup_cons, List.nodup_nil, List.mem_cons, List.not_mem_nil, or_false, not_false_eq_true, not_true_eq_false, Bool.or_self, Wide.cons_iff, Wide.nil_iff]) (by simp only [allS, allM, Ev.down, Nat.reduceBEq, Nat.reduceAdd, Nat.reduceMul, Nat.reduceLT, Nat.reduceLeDiff, Nat.reduceEqDiff, Nat.reduceSub, reduceCtorEq, Int.reduceToNat, Int.reduceLE, Int.reduceLT, Int.reduceNeg, Ty.down, refOK, refOKL, refMS, wideMS, noRef, noRefL, List.contains_cons, List.contains_nil, Bool.or_false, Bool.or_true, Bool.true_or, List.nodup_cons, List.nodup_nil, List.mem_cons, List.not_mem_nil, or_false, not_false_eq_true, not_true_eq_false, Bool.or_self, Wide.cons_iff, Wide.nil_iff]) (by simp only [allS, allM, Ev.down, Nat.reduceBEq, Nat.reduceAdd, Nat.reduceMul, Nat.reduceLT, Nat.reduceLeDiff, Nat.reduceEqDiff, Nat.reduceSub, reduceCtorEq, Int.reduceToNat, Int.reduceLE, Int.reduceLT, Int.reduceNeg, Ty.down, refOK, refOKL, refMS, wideMS, noRef, noRefL, List.contains_cons, List.contains_nil, Bool.or_false, Bool.or_true, Bool.true_or, List.nodup_cons, List.nodup_nil, List.mem_cons, List.not_mem_nil, or_false, not_false_eq_true, not_true_eq_false, Bool.or_self, Wide.cons_iff, Wide.nil_iff])
      rintro k ⟨hk, hinv⟩
      refine AWp.seq_k (fun K1 hK1 => ?_)
      refine AWp.seq_k (fun K2 hK2 => ?_); refine AWp.regionW G_good ?_; simp (maxSteps := 10000000) only [Ev.down, Nat.reduceBEq, Nat.reduceAdd, Nat.reduceMul, Nat.reduceLT, Nat.reduceLeDiff, Nat.reduceEqDiff, Nat.reduceSub, reduceCtorEq, Int.reduceToNat, Int.reduceLE, Int.reduceLT, Int.reduceNeg, Ty.down]
      (refine hK2 _ ?_; try clear hK2 K2)
      refine AWp.cond (b := decide ((k : Int) < a.stack.length)) rfl (fun h => ?_) (fun h => ?_)
      ·
        refine AWp.skip ?_
        simp (maxSteps := 10000000) only [Ev.down, Nat.reduceBEq, Nat.reduceAdd, Nat.reduceMul, Nat.reduceLT, Nat.reduceLeDiff, Nat.reduceEqDiff, Nat.reduceSub, reduceCtorEq, Int.reduceToNat, Int.reduceLE, Int.reduceLT, Int.reduceNeg, Ty.down]
        have hk' : k < a.stack.length := by simpa using h
        obtain ⟨x, hx⟩ : ∃ x, a.stack[k]? = some x := ⟨_, List.getElem?_eq_getElem hk'⟩
        obtain ⟨y, hy⟩ : ∃ y, b.stack[k]? = some y := ⟨_, List.getElem?_eq_getElem (by omega)⟩
        have hxl := hs.st x (List.mem_of_getElem? hx)
        (refine hK1 _ ?_; try clear hK1 K1)
        refine AWp.seq_k (fun K1 hK1 => ?_)
        refine AWp.block ?_
        refine AWp.seq_k (fun K2 hK2 => ?_); refine AWp.drawsW G_good Try.checked.mixed (by kernel_rfl) ?_; simp (maxSteps := 10000000) only [Ev.down, Nat.reduceBEq, Nat.reduceAdd, Nat.reduceMul, Nat.reduceLT, Nat.reduceLeDiff, Nat.reduceEqDiff, Nat.reduceSub, reduceCtorEq, Int.reduceToNat, Int.reduceLE, Int.reduceLT, Int.reduceNeg, Ty.down, hx, hy]
        refine ByHand.call 740 (f14_ok x y (by omega)) (.func rfl rfl) c14 rfl (by simp (maxSteps := 10000000) only [Ev.down, Nat.reduceBEq, Nat.reduceAdd, Nat.reduceMul, Nat.reduceLT, Nat.reduceLeDiff, Nat.reduceEqDiff, Nat.reduceSub, reduceCtorEq, Int.reduceToNat, Int.reduceLE, Int.reduceLT, Int.reduceNeg, Ty.down, noRefL, noRef, Bool.and_self]) rfl rfl trivial rfl ?_
        simp (maxSteps := 10000000) only [Ev.down, Nat.reduceBEq, Nat.reduceAdd, Nat.reduceMul, Nat.reduceLT, Nat.reduceLeDiff, Nat.reduceEqDiff, Nat.reduceSub, reduceCtorEq, Int.reduceToNat, Int.reduceLE, Int.reduceLT, Int.reduceNeg, Ty.down]
        refine ⟨by kernel_rfl, ?_⟩
        (refine hK2 _ ?_; try clear hK2 K2)
        refine AWp.cond (b := !(decide (x = y))) rfl (fun h2 => ?_) (fun h2 => ?_)
        ·
          refine AWp.seq_k (fun K2 hK2 => ?_); refine AWp.regionW G_good ?_; simp (maxSteps := 10000000) only [Ev.down, Nat.reduceBEq, Nat.reduceAdd, Nat.reduceMul, Nat.reduceLT, Nat.reduceLeDiff, Nat.reduceEqDiff, Nat.reduceSub, reduceCtorEq, Int.reduceToNat, Int.reduceLE, Int.reduceLT, Int.reduceNeg, Ty.down]
          (refine hK2 _ ?_; try clear hK2 K2)
          refine AWp.ret ⟨.inr rfl, RetTo.one ?_ rfl⟩
          simp at h2
          rw [show decide (a = b) = false from decide_eq_false (fun hh => by rw [hh] at hx; rw [hx] at hy; cases hy; exact h2 rfl)]; rfl
        ·
          simp at h2
          refine AWp.skip ?_
          simp (maxSteps := 10000000) only [Ev.down, Nat.reduceBEq, Nat.reduceAdd, Nat.reduceMul, Nat.reduceLT, Nat.reduceLeDiff, Nat.reduceEqDiff, Nat.reduceSub, reduceCtorEq, Int.reduceToNat, Int.reduceLE, Int.reduceLT, Int.reduceNeg, Ty.down]
          (refine hK1 _ ?_; try clear hK1 K1)
          refine AWp.regionW G_good ?_; simp (maxSteps := 10000000) only [Ev.down, Nat.reduceBEq, Nat.reduceAdd, Nat.reduceMul, Nat.reduceLT, Nat.reduceLeDiff, Nat.reduceEqDiff, Nat.reduceSub, reduceCtorEq, Int.reduceToNat, Int.reduceLE, Int.reduceLT, Int.reduceNeg, Ty.down, wrap_succ k (by have := hs.todos; have := hs.stack; omega)]
          refine ⟨k + 1, ⟨by omega, fun j hj => ?_⟩, by omega, Sits.pick (by simp only [allS, allM, Ev.down, Nat.reduceBEq, Nat.reduceAdd, Nat.reduceMul, Nat.reduceLT, Nat.reduceLeDiff, Nat.reduceEqDiff, Nat.reduceSub, reduceCtorEq, Int.reduceToNat, Int.reduceLE, Int.reduceLT, Int.reduceNeg, Ty.down, refOK, refOKL, refMS, wideMS, noRef, noRefL, List.contains_cons, List.contains_nil, Bool.or_false, Bool.or_true, Bool.true_or, List.nodup_cons, List.nodup_nil, List.mem_cons, List.not_mem_nil, or_false, not_false_eq_true, not_true_eq_false, Bool.or_self, Wide.cons_iff, Wide.nil_iff]) (by simp only [allS, allM, Ev.down, Nat.reduceBEq, Nat.reduceAdd, Nat.reduceMul, Nat.reduceLT, Nat.reduceLeDiff, Nat.reduceEqDiff, Nat.reduceSub, reduceCtorEq, Int.reduceToNat, Int.reduceLE, Int.reduceLT, Int.reduceNeg, Ty.down, refOK, refOKL, refMS, wideMS, noRef, noRefL, List.contains_cons, List.contains_nil, Bool.or_false, Bool.or_true, Bool.true_or, List.nodup_cons, List.nodup_nil, List.mem_cons, List.not_mem_nil, or_false, not_false_eq_true, not_true_eq_false, Bool.or_self, Wide.cons_iff, Wide.nil_iff]) (by simp only [allS, allM, Ev.down, Nat.reduceBEq, Nat.reduceAdd, Nat.reduceMul, Nat.reduceLT, Nat.reduceLeDiff, Nat.reduceEqDiff, Nat.reduceSub, reduceCtorEq, Int.reduceToNat, Int.reduceLE, Int.reduceLT, Int.reduceNeg, Ty.down, refOK, refOKL, refMS, wideMS, noRef, noRefL, List.contains_cons, List.contains_nil, Bool.or_false, Bool.or_true, Bool.true_or, List.nodup_cons, List.nodup_nil, List.mem_cons, List.not_mem_nil, or_false, not_false_eq_true, not_true_eq_false, Bool.or_self, Wide.cons_iff, Wide.nil_iff])⟩
          by_cases hjk : j = k
          · rw [hjk, hx, hy, h2]
          · exact hinv j (by omega)
      ·
        refine AWp.exit ?_
        simp (maxSteps := 10000000) only [Ev.down, Nat.reduceBEq, Nat.reduceAdd, Nat.reduceMul, Nat.reduceLT, Nat.reduceLeDiff, Nat.reduceEqDiff, Nat.reduceSub, reduceCtorEq, Int.reduceToNat, Int.reduceLE, Int.reduceLT, Int.reduceNeg, Ty.down]
        have e2 : a.stack = b.stack := list_eq_of (by omega) (fun j hj => hinv j (by simp at h; omega))
        clear hinv hk h
        (refine hK _ ?_; try clear hK K)
        refine AWp.seq_k (fun K hK => ?_); refine AWp.regionW G_good ?_; simp (maxSteps := 10000000) only [Ev.down, Nat.reduceBEq, Nat.reduceAdd, Nat.reduceMul, Nat.reduceLT, Nat.reduceLeDiff, Nat.reduceEqDiff, Nat.reduceSub, reduceCtorEq, Int.reduceToNat, Int.reduceLE, Int.reduceLT, Int.reduceNeg, Ty.down]
        (refine hK _ ?_; try clear hK K)
        refine AWp.ret ⟨.inr rfl, RetTo.one ?_ rfl⟩
        rw [show decide (a = b) = true from decide_eq_true (by cases a; cases b; simp only at *; subst e1; subst e2; subst g3; subst g4; rfl)]; rfl
  · rw [show (!(a.busy == b.busy)) = true from by simp [g4]]
    exact bad _ _ rfl (fun h => by rw [h] at g4; exact g4 rfl)
end Go.Proofs.Line
