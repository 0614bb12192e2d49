/- Contracts of functions of the given program (what each computes), conditions as stated in each theorem. By an AI agent. -/
import Derived.Test.YtgfbnphfgeeldaaL3
namespace Go.Proofs.Line
open Go.Am
set_option linter.unusedSimpArgs false
set_option maxRecDepth 100000
def dropL (l : LineM) (n : Int) : LineM × Int := if rightL l && inL l n then ({ l with todos := l.todos.set n.toNat [] }, 0) else (l, 1)
theorem inL_nat {l : LineM} {n : Int} (h : inL l n = true) : ∃ k : Nat, n = k ∧ k < l.todos.length := by
  simp only [inL, Bool.and_eq_true, decide_eq_true_eq] at h
  exact ⟨n.toNat, by omega, by omega⟩
theorem f18_ok (l : LineM) (n : Int) (hs : Sm 90000 l) : FnOK Try.prog 18 [] [eLine l, .lit (.int .i64 n)] [] (.tup [eLine (dropL l n).1, .lit (.int .i64 (dropL l n).2)]) := by
  refine FnOK.start (rvs := [.cell 4 26, .tmp 5]) Try.func18 rfl Try.ntmps18 rfl (by simp) ?_
  simp only [argsS, objsS, Nat.reduceAdd, Nat.zero_add, List.length_nil]
  refine AWp.seq_k (fun K hK => ?_); refine AWp.regionW G_good ?_; simp (maxSteps := 10000000) only [Ev.down, Nat.reduceBEq, Nat.reduceAdd, Nat.reduceMul, Nat.reduceLT, Nat.reduceLeDiff, Nat.reduceEqDiff, Nat.reduceSub, reduceCtorEq, Int.reduceToNat, Int.reduceLE, Int.reduceLT, Int.reduceNeg, Ty.down]
  (refine hK _ ?_; try clear hK K)
  refine AWp.seq_k (fun K hK => ?_)
  refine AWp.seq_k (fun K1 hK1 => ?_); refine AWp.regionW G_good ?_; simp (maxSteps := 10000000) only [Ev.down, Nat.reduceBEq, Nat.reduceAdd, Nat.reduceMul, Nat.reduceLT, Nat.reduceLeDiff, Nat.reduceEqDiff, Nat.reduceSub, reduceCtorEq, Int.reduceToNat, Int.reduceLE, Int.reduceLT, Int.reduceNeg, Ty.down]
  refine ByHand.call 70 (f9_ok l hs) (.func rfl rfl) c9 rfl (by simp (maxSteps := 10000000) only [Ev.down, Nat.reduceBEq, Nat.reduceAdd, Nat.reduceMul, Nat.reduceLT, Nat.reduceLeDiff, Nat.reduceEqDiff, Nat.reduceSub, reduceCtorEq, Int.reduceToNat, Int.reduceLE, Int.reduceLT, Int.reduceNeg, Ty.down, noRefL, noRef, Bool.and_self]) rfl rfl trivial rfl ?_
  simp (maxSteps := 10000000) only [Ev.down, Nat.reduceBEq, Nat.reduceAdd, Nat.reduceMul, Nat.reduceLT, Nat.reduceLeDiff, Nat.reduceEqDiff, Nat.reduceSub, reduceCtorEq, Int.reduceToNat, Int.reduceLE, Int.reduceLT, Int.reduceNeg, Ty.down]
  refine wpGx.split (fun h1 => ?_) (fun h1 => ?_)
  · simp at h1
    simp (maxSteps := 10000000) only [Ev.down, Nat.reduceBEq, Nat.reduceAdd, Nat.reduceMul, Nat.reduceLT, Nat.reduceLeDiff, Nat.reduceEqDiff, Nat.reduceSub, reduceCtorEq, Int.reduceToNat, Int.reduceLE, Int.reduceLT, Int.reduceNeg, Ty.down]
    refine ByHand.call 120 (f31_ok l n) (.func rfl rfl) c31 rfl (by simp (maxSteps := 10000000) only [Ev.down, Nat.reduceBEq, Nat.reduceAdd, Nat.reduceMul, Nat.reduceLT, Nat.reduceLeDiff, Nat.reduceEqDiff, Nat.reduceSub, reduceCtorEq, Int.reduceToNat, Int.reduceLE, Int.reduceLT, Int.reduceNeg, Ty.down, noRefL, noRef, Bool.and_self]) rfl rfl trivial rfl ?_
    simp (maxSteps := 10000000) only [Ev.down, Nat.reduceBEq, Nat.reduceAdd, Nat.reduceMul, Nat.reduceLT, Nat.reduceLeDiff, Nat.reduceEqDiff, Nat.reduceSub, reduceCtorEq, Int.reduceToNat, Int.reduceLE, Int.reduceLT, Int.reduceNeg, Ty.down]
    cases h2 : inL l n with
    | false =>
      rw [show (decide (0 ≤ n) && decide (n < l.todos.length)) = false from h2]
      simp (maxSteps := 10000000) only [Ev.down, Nat.reduceBEq, Nat.reduceAdd, Nat.reduceMul, Nat.reduceLT, Nat.reduceLeDiff, Nat.reduceEqDiff, Nat.reduceSub, reduceCtorEq, Int.reduceToNat, Int.reduceLE, Int.reduceLT, Int.reduceNeg, Ty.down]
      (refine hK1 _ ?_; try clear hK1 K1)
      refine AWp.cond (b := true) rfl (fun _ => ?_) (fun h => by cases h)
      refine AWp.seq_k (fun K1 hK1 => ?_); refine AWp.regionW G_good ?_; simp (maxSteps := 10000000) only [Ev.down, Nat.reduceBEq, Nat.reduceAdd, Nat.reduceMul, Nat.reduceLT, Nat.reduceLeDiff, Nat.reduceEqDiff, Nat.reduceSub, reduceCtorEq, Int.reduceToNat, Int.reduceLE, Int.reduceLT, Int.reduceNeg, Ty.down]
      (refine hK1 _ ?_; try clear hK1 K1)
      rw [show dropL l n = (l, 1) from by simp [dropL, h2]]
      refine AWp.ret ⟨.inr rfl, RetTo.plain [_, _] ⟨⟨40, 0, 0, 4, _, false, _, rfl, rfl, rfl, .full (g26).1 (g26).2.1 rfl rfl rfl⟩, rfl, trivial⟩ (by simp only [ret1, noRef, noRefL, nr_line]; rfl)⟩
    | true =>
      rw [show (decide (0 ≤ n) && decide (n < l.todos.length)) = true from h2]
      simp (maxSteps := 10000000) only [Ev.down, Nat.reduceBEq, Nat.reduceAdd, Nat.reduceMul, Nat.reduceLT, Nat.reduceLeDiff, Nat.reduceEqDiff, Nat.reduceSub, reduceCtorEq, Int.reduceToNat, Int.reduceLE, Int.reduceLT, Int.reduceNeg, Ty.down]
      obtain ⟨k, rfl, hk⟩ := inL_nat h2
      (refine hK1 _ ?_; try clear hK1 K1)
      refine AWp.cond (b := false) rfl (fun h => by cases h) (fun h => ?_)
      refine AWp.skip ?_
      simp (maxSteps := 10000000) only [Ev.down, Nat.reduceBEq, Nat.reduceAdd, Nat.reduceMul, Nat.reduceLT, Nat.reduceLeDiff, Nat.reduceEqDiff, Nat.reduceSub, reduceCtorEq, Int.reduceToNat, Int.reduceLE, Int.reduceLT, Int.reduceNeg, Ty.down]
      (refine hK _ ?_; try clear hK K)
      refine AWp.seq_k (fun K hK => ?_); refine AWp.regionW G_good ?_; simp (maxSteps := 10000000) only [Ev.down, Nat.reduceBEq, Nat.reduceAdd, Nat.reduceMul, Nat.reduceLT, Nat.reduceLeDiff, Nat.reduceEqDiff, Nat.reduceSub, reduceCtorEq, Int.reduceToNat, Int.reduceLE, Int.reduceLT, Int.reduceNeg, Ty.down]
      refine ByHand.call 170 (own_s l hs) (.func rfl rfl) c32 rfl (by simp (maxSteps := 10000000) only [Ev.down, Nat.reduceBEq, Nat.reduceAdd, Nat.reduceMul, Nat.reduceLT, Nat.reduceLeDiff, Nat.reduceEqDiff, Nat.reduceSub, reduceCtorEq, Int.reduceToNat, Int.reduceLE, Int.reduceLT, Int.reduceNeg, Ty.down, noRefL, noRef, Bool.and_self]) rfl rfl (own_o l) rfl ?_
      simp (maxSteps := 10000000) only [Ev.down, Nat.reduceBEq, Nat.reduceAdd, Nat.reduceMul, Nat.reduceLT, Nat.reduceLeDiff, Nat.reduceEqDiff, Nat.reduceSub, reduceCtorEq, Int.reduceToNat, Int.reduceLE, Int.reduceLT, Int.reduceNeg, Ty.down]
      (refine hK _ ?_; try clear hK K)
      obtain ⟨x, hx⟩ : ∃ x, l.todos[k]? = some x := ⟨_, List.getElem?_eq_getElem hk⟩
      refine AWp.seq_k (fun K hK => ?_); refine AWp.regionW G_good ?_; simp (maxSteps := 10000000) only [Ev.down, Nat.reduceBEq, Nat.reduceAdd, Nat.reduceMul, Nat.reduceLT, Nat.reduceLeDiff, Nat.reduceEqDiff, Nat.reduceSub, reduceCtorEq, Int.reduceToNat, Int.reduceLE, Int.reduceLT, Int.reduceNeg, Ty.down, hx]
      refine ⟨by omega, ?_⟩
      (refine hK _ ?_; try clear hK K)
      refine AWp.seq_k (fun K hK => ?_); refine AWp.regionW G_good ?_; simp (maxSteps := 10000000) only [Ev.down, Nat.reduceBEq, Nat.reduceAdd, Nat.reduceMul, Nat.reduceLT, Nat.reduceLeDiff, Nat.reduceEqDiff, Nat.reduceSub, reduceCtorEq, Int.reduceToNat, Int.reduceLE, Int.reduceLT, Int.reduceNeg, Ty.down]
      (refine hK _ ?_; try clear hK K)
      rw [show dropL l k = ({ l with todos := l.todos.set k [] }, 0) from by simp [dropL, h1, h2]]
      refine AWp.ret ⟨.inr rfl, RetTo.frozenS [_, _] [170, 171, 172] ⟨⟨40, 0, 0, 4, _, false, _, rfl, rfl, rfl, .full (g26).1 (g26).2.1 rfl rfl rfl⟩, rfl, trivial⟩ rfl ?_⟩
      · refine .mk_tup (.cons (.mk_agg (.cons ?_ (.cons ?_ (.cons ?_ (.cons (.same rfl) .nil))))) (.cons (.same rfl) .nil))
        · refine Cv.fzL (s := 170) (by simp) rfl (w_todoss _) ((w_todoss _).set rfl) (by simp) ?_
          simp only [List.map_set]
          exact (CvL.same (nrl_todos _)).set .nil k
        · exact Cv.fz (s := 171) (by simp) rfl (w_intss _) (by simp) (nrl_intss _)
        · exact Cv.fz (s := 172) (by simp) rfl (w_ints _) (by simp) (nrl_ints _)
  · simp at h1
    simp (maxSteps := 10000000) only [Ev.down, Nat.reduceBEq, Nat.reduceAdd, Nat.reduceMul, Nat.reduceLT, Nat.reduceLeDiff, Nat.reduceEqDiff, Nat.reduceSub, reduceCtorEq, Int.reduceToNat, Int.reduceLE, Int.reduceLT, Int.reduceNeg, Ty.down]
    (refine hK1 _ ?_; try clear hK1 K1)
    refine AWp.cond (b := true) rfl (fun _ => ?_) (fun h => by cases h)
    refine AWp.seq_k (fun K1 hK1 => ?_); refine AWp.regionW G_good ?_; simp (maxSteps := 10000000) only [Ev.down, Nat.reduceBEq, Nat.reduceAdd, Nat.reduceMul, Nat.reduceLT, Nat.reduceLeDiff, Nat.reduceEqDiff, Nat.reduceSub, reduceCtorEq, Int.reduceToNat, Int.reduceLE, Int.reduceLT, Int.reduceNeg, Ty.down]
    (refine hK1 _ ?_; try clear hK1 K1)
    rw [show dropL l n = (l, 1) from by simp [dropL, h1]]
    refine AWp.ret ⟨.inr rfl, RetTo.plain [_, _] ⟨⟨40, 0, 0, 4, _, false, _, rfl, rfl, rfl, .full (g26).1 (g26).2.1 rfl rfl rfl⟩, rfl, trivial⟩ (by simp only [ret1, noRef, noRefL, nr_line]; rfl)⟩

def shutL (l : LineM) : LineM × List Int × Int :=
  if rightL l then (if l.stack.length = 0 then (l, [], 7) else ({ l with stack := l.stack.take (l.stack.length - 1) }, l.stack.getD (l.stack.length - 1) [], 0)) else (l, [], 1)
theorem f10_ok (l : LineM) (hs : Sm 90000 l) : FnOK Try.prog 10 [] [eLine l] [] (.tup [eLine (shutL l).1, eInts (shutL l).2.1, .lit (.int .i64 (shutL l).2.2)]) := by
  refine FnOK.start (rvs := [.cell 2 26, .tmp 3, .tmp 4]) Try.func10 rfl Try.ntmps10 rfl (by simp) ?_
  simp only [argsS, objsS, Nat.reduceAdd, Nat.zero_add, List.length_nil]
  refine AWp.seq_k (fun K hK => ?_); refine AWp.regionW G_good ?_; simp (maxSteps := 10000000) only [Ev.down, Nat.reduceBEq, Nat.reduceAdd, Nat.reduceMul, Nat.reduceLT, Nat.reduceLeDiff, Nat.reduceEqDiff, Nat.reduceSub, reduceCtorEq, Int.reduceToNat, Int.reduceLE, Int.reduceLT, Int.reduceNeg, Ty.down]
  (refine hK _ ?_; try clear hK K)
  have hw : IntKind.i64.wrap ((l.stack.length : Int) - 1) = (l.stack.length : Int) - 1 := IntWalk.i64_in _ (by have := hs.stack; omega)
  refine AWp.seq_k (fun K hK => ?_); refine AWp.regionW G_good ?_; simp (maxSteps := 10000000) only [Ev.down, Nat.reduceBEq, Nat.reduceAdd, Nat.reduceMul, Nat.reduceLT, Nat.reduceLeDiff, Nat.reduceEqDiff, Nat.reduceSub, reduceCtorEq, Int.reduceToNat, Int.reduceLE, Int.reduceLT, Int.reduceNeg, Ty.down, hw]
  (refine hK _ ?_; try clear hK K)
  refine AWp.seq_k (fun K hK => ?_)
  refine AWp.block ?_ -- 0
  refine AWp.seq_k (fun K1 hK1 => ?_); refine AWp.regionW G_good ?_; simp (maxSteps := 10000000) only [Ev.down, Nat.reduceBEq, Nat.reduceAdd, Nat.reduceMul, Nat.reduceLT, Nat.reduceLeDiff, Nat.reduceEqDiff, Nat.reduceSub, reduceCtorEq, Int.reduceToNat, Int.reduceLE, Int.reduceLT, Int.reduceNeg, Ty.down]
  refine ByHand.call 130 (f9_ok l hs) (.func rfl rfl) c9 rfl (by simp (maxSteps := 10000000) only [Ev.down, Nat.reduceBEq, Nat.reduceAdd, Nat.reduceMul, Nat.reduceLT, Nat.reduceLeDiff, Nat.reduceEqDiff, Nat.reduceSub, reduceCtorEq, Int.reduceToNat, Int.reduceLE, Int.reduceLT, Int.reduceNeg, Ty.down, noRefL, noRef, Bool.and_self]) rfl rfl trivial rfl ?_
  simp (maxSteps := 10000000) only [Ev.down, Nat.reduceBEq, Nat.reduceAdd, Nat.reduceMul, Nat.reduceLT, Nat.reduceLeDiff, Nat.reduceEqDiff, Nat.reduceSub, reduceCtorEq, Int.reduceToNat, Int.reduceLE, Int.reduceLT, Int.reduceNeg, Ty.down]
  (refine hK1 _ ?_; try clear hK1 K1)
  refine AWp.cond (b := !rightL l) rfl (fun h => ?_) (fun h => ?_)
  ·
    refine AWp.seq_k (fun K1 hK1 => ?_); refine AWp.regionW G_good ?_; simp (maxSteps := 10000000) only [Ev.down, Nat.reduceBEq, Nat.reduceAdd, Nat.reduceMul, Nat.reduceLT, Nat.reduceLeDiff, Nat.reduceEqDiff, Nat.reduceSub, reduceCtorEq, Int.reduceToNat, Int.reduceLE, Int.reduceLT, Int.reduceNeg, Ty.down]
    (refine hK1 _ ?_; try clear hK1 K1)
    rw [show shutL l = (l, [], 1) from by simp at h; simp [shutL, h]]
    refine AWp.ret ⟨.inr rfl, RetTo.frozenS [_, _, _] [] ⟨⟨20, 0, 0, 4, _, false, _, rfl, rfl, rfl, .full (g26).1 (g26).2.1 rfl rfl rfl⟩, rfl, rfl, trivial⟩ rfl ?_⟩
    exact .mk_tup (.cons (.same (nr_line l)) (.cons .nil (.cons (.same rfl) .nil)))
  ·
    simp at h
    refine AWp.seq_k (fun K1 hK1 => ?_); refine AWp.regionW G_good ?_; simp (maxSteps := 10000000) only [Ev.down, Nat.reduceBEq, Nat.reduceAdd, Nat.reduceMul, Nat.reduceLT, Nat.reduceLeDiff, Nat.reduceEqDiff, Nat.reduceSub, reduceCtorEq, Int.reduceToNat, Int.reduceLE, Int.reduceLT, Int.reduceNeg, Ty.down]
    (refine hK1 _ ?_; try clear hK1 K1)
    refine AWp.cond (b := decide ((l.stack.length : Int) - 1 < 0)) rfl (fun h2 => ?_) (fun h2 => ?_)
    ·
      refine AWp.seq_k (fun K1 hK1 => ?_); refine AWp.regionW G_good ?_; simp (maxSteps := 10000000) only [Ev.down, Nat.reduceBEq, Nat.reduceAdd, Nat.reduceMul, Nat.reduceLT, Nat.reduceLeDiff, Nat.reduceEqDiff, Nat.reduceSub, reduceCtorEq, Int.reduceToNat, Int.reduceLE, Int.reduceLT, Int.reduceNeg, Ty.down]
      (refine hK1 _ ?_; try clear hK1 K1)
      rw [show shutL l = (l, [], 7) from by rw [decide_eq_true_eq] at h2; have := List.eq_nil_of_length_eq_zero (l := l.stack) (by omega); simp [shutL, h, this]]
      refine AWp.ret ⟨.inr rfl, RetTo.frozenS [_, _, _] [] ⟨⟨20, 0, 0, 4, _, false, _, rfl, rfl, rfl, .full (g26).1 (g26).2.1 rfl rfl rfl⟩, rfl, rfl, trivial⟩ rfl ?_⟩
      exact .mk_tup (.cons (.same (nr_line l)) (.cons .nil (.cons (.same rfl) .nil)))
    ·
      refine AWp.skip ?_
      obtain ⟨k, hk⟩ : ∃ k, l.stack.length = k + 1 := ⟨l.stack.length - 1, by simp at h2; omega⟩
      obtain ⟨x, hx⟩ : ∃ x, l.stack[k]? = some x := ⟨_, List.getElem?_eq_getElem (by omega)⟩
      have hk2 : (l.stack.length : Int) - 1 = (k : Int) := by omega
      rw [hk2]
      simp (maxSteps := 10000000) only [Ev.down, Nat.reduceBEq, Nat.reduceAdd, Nat.reduceMul, Nat.reduceLT, Nat.reduceLeDiff, Nat.reduceEqDiff, Nat.reduceSub, reduceCtorEq, Int.reduceToNat, Int.reduceLE, Int.reduceLT, Int.reduceNeg, Ty.down]
      (refine hK _ ?_; try clear hK K)
      refine AWp.seq_k (fun K hK => ?_); refine AWp.regionW G_good ?_; simp (maxSteps := 10000000) only [Ev.down, Nat.reduceBEq, Nat.reduceAdd, Nat.reduceMul, Nat.reduceLT, Nat.reduceLeDiff, Nat.reduceEqDiff, Nat.reduceSub, reduceCtorEq, Int.reduceToNat, Int.reduceLE, Int.reduceLT, Int.reduceNeg, Ty.down]
      refine ByHand.call 210 (own_s l hs) (.func rfl rfl) c32 rfl (by simp (maxSteps := 10000000) only [Ev.down, Nat.reduceBEq, Nat.reduceAdd, Nat.reduceMul, Nat.reduceLT, Nat.reduceLeDiff, Nat.reduceEqDiff, Nat.reduceSub, reduceCtorEq, Int.reduceToNat, Int.reduceLE, Int.reduceLT, Int.reduceNeg, Ty.down, noRefL, noRef, Bool.and_self]) rfl rfl (own_o l) rfl ?_
      simp (maxSteps := 10000000) only [Ev.down, Nat.reduceBEq, Nat.reduceAdd, Nat.reduceMul, Nat.reduceLT, Nat.reduceLeDiff, Nat.reduceEqDiff, Nat.reduceSub, reduceCtorEq, Int.reduceToNat, Int.reduceLE, Int.reduceLT, Int.reduceNeg, Ty.down]
      (refine hK _ ?_; try clear hK K)
      refine AWp.seq_k (fun K hK => ?_); refine AWp.regionW G_good ?_; simp (maxSteps := 10000000) only [Ev.down, Nat.reduceBEq, Nat.reduceAdd, Nat.reduceMul, Nat.reduceLT, Nat.reduceLeDiff, Nat.reduceEqDiff, Nat.reduceSub, reduceCtorEq, Int.reduceToNat, Int.reduceLE, Int.reduceLT, Int.reduceNeg, Ty.down, hx]
      refine ⟨by omega, ?_⟩ -- index
      refine ByHand.call 270 (f33_ok x (by have := hs.st x (List.mem_of_getElem? hx); omega)) (.func rfl rfl) c33 rfl (by simp (maxSteps := 10000000) only [Ev.down, Nat.reduceBEq, Nat.reduceAdd, Nat.reduceMul, Nat.reduceLT, Nat.reduceLeDiff, Nat.reduceEqDiff, Nat.reduceSub, reduceCtorEq, Int.reduceToNat, Int.reduceLE, Int.reduceLT, Int.reduceNeg, Ty.down, noRefL, noRef, Bool.and_self]) rfl rfl ⟨w_ints _, nrl_ints _, trivial⟩ rfl ?_
      simp (maxSteps := 10000000) only [Ev.down, Nat.reduceBEq, Nat.reduceAdd, Nat.reduceMul, Nat.reduceLT, Nat.reduceLeDiff, Nat.reduceEqDiff, Nat.reduceSub, reduceCtorEq, Int.reduceToNat, Int.reduceLE, Int.reduceLT, Int.reduceNeg, Ty.down]
      (refine hK _ ?_; try clear hK K)
      refine AWp.seq_k (fun K hK => ?_); refine AWp.regionW G_good ?_; simp (maxSteps := 10000000) only [Ev.down, Nat.reduceBEq, Nat.reduceAdd, Nat.reduceMul, Nat.reduceLT, Nat.reduceLeDiff, Nat.reduceEqDiff, Nat.reduceSub, reduceCtorEq, Int.reduceToNat, Int.reduceLE, Int.reduceLT, Int.reduceNeg, Ty.down]
      refine ⟨by omega, ?_⟩ -- slice
      (refine hK _ ?_; try clear hK K)
      refine AWp.seq_k (fun K hK => ?_); refine AWp.regionW G_good ?_; simp (maxSteps := 10000000) only [Ev.down, Nat.reduceBEq, Nat.reduceAdd, Nat.reduceMul, Nat.reduceLT, Nat.reduceLeDiff, Nat.reduceEqDiff, Nat.reduceSub, reduceCtorEq, Int.reduceToNat, Int.reduceLE, Int.reduceLT, Int.reduceNeg, Ty.down]
      (refine hK _ ?_; try clear hK K)
      rw [show shutL l = ({ l with stack := l.stack.take k }, x, 0) from by have := (List.getElem?_eq_some_iff.1 hx).2; simp [shutL, h, hk, this]]
      refine AWp.ret ⟨.inr rfl, RetTo.frozenS [_, _, _] [210, 211, 212, 270] ⟨⟨20, 0, 0, 4, _, false, _, rfl, rfl, rfl, .full (g26).1 (g26).2.1 rfl rfl rfl⟩, rfl, rfl, trivial⟩ rfl ?_⟩
      refine .mk_tup (.cons (.mk_agg (.cons ?_ (.cons ?_ (.cons ?_ (.cons (.same rfl) .nil))))) (.cons ?_ (.cons (.same rfl) .nil)))
      · exact Cv.fz (s := 210) (by simp) rfl (w_todoss _) (by simp) (nrl_todos _)
      · exact Cv.fzCut (s := 211) (by simp) rfl (w_intss _) (by simp; omega) (nrl_intss _) (by simp [List.map_take])
      · exact Cv.fz (s := 212) (by simp) rfl (w_ints _) (by simp) (nrl_ints _)
      · exact Cv.fz (s := 270) (by simp) rfl (w_ints _) (by simp) (nrl_ints _)

theorem nrl_set {rows : List AV} {x : AV} (h : noRefL rows = true) (hx : noRef x = true) (k : Nat) : noRefL (rows.set k x) = true := noRefL_iff.2 fun r hr => by
  rcases List.mem_or_eq_of_mem_set hr with h' | rfl
  · exact noRefL_iff.1 h r h'
  · exact hx
def zeroT : TodoM := ⟨0, 0, ByteArray.empty, false, false, ByteArray.empty, ByteArray.empty, 0, 0, false⟩
def takeL (l : LineM) (n : Int) : LineM × TodoM × Bool :=
  if rightL l && inL l n then
    match l.todos.getD n.toNat [] with
    | [] => (l, zeroT, false)
    | t :: r => ({ l with todos := l.todos.set n.toNat r }, t, true)
  else (l, zeroT, false)
theorem f15_ok (l : LineM) (n : Int) (hs : Sm 90000 l) : FnOK Try.prog 15 [] [eLine l, .lit (.int .i64 n)] [] (.tup [eLine (takeL l n).1, eTodo (takeL l n).2.1, .lit (.bool (takeL l n).2.2)]) := by
  refine FnOK.start (rvs := [.cell 4 26, .cell 5 28, .tmp 6]) Try.func15 rfl Try.ntmps15 rfl (by simp) ?_
  simp only [argsS, objsS, Nat.reduceAdd, Nat.zero_add, List.length_nil]
  refine AWp.seq_k (fun K hK => ?_); refine AWp.regionW G_good ?_; simp (maxSteps := 10000000) only [Ev.down, Nat.reduceBEq, Nat.reduceAdd, Nat.reduceMul, Nat.reduceLT, Nat.reduceLeDiff, Nat.reduceEqDiff, Nat.reduceSub, reduceCtorEq, Int.reduceToNat, Int.reduceLE, Int.reduceLT, Int.reduceNeg, Ty.down]
  (refine hK _ ?_; try clear hK K)
  refine AWp.seq_k (fun K hK => ?_)
  refine AWp.seq_k (fun K1 hK1 => ?_); refine AWp.regionW G_good ?_; simp (maxSteps := 10000000) only [Ev.down, Nat.reduceBEq, Nat.reduceAdd, Nat.reduceMul, Nat.reduceLT, Nat.reduceLeDiff, Nat.reduceEqDiff, Nat.reduceSub, reduceCtorEq, Int.reduceToNat, Int.reduceLE, Int.reduceLT, Int.reduceNeg, Ty.down]
  refine ByHand.call 90 (f9_ok l hs) (.func rfl rfl) c9 rfl (by simp (maxSteps := 10000000) only [Ev.down, Nat.reduceBEq, Nat.reduceAdd, Nat.reduceMul, Nat.reduceLT, Nat.reduceLeDiff, Nat.reduceEqDiff, Nat.reduceSub, reduceCtorEq, Int.reduceToNat, Int.reduceLE, Int.reduceLT, Int.reduceNeg, Ty.down, noRefL, noRef, Bool.and_self]) rfl rfl trivial rfl ?_
  simp (maxSteps := 10000000) only [Ev.down, Nat.reduceBEq, Nat.reduceAdd, Nat.reduceMul, Nat.reduceLT, Nat.reduceLeDiff, Nat.reduceEqDiff, Nat.reduceSub, reduceCtorEq, Int.reduceToNat, Int.reduceLE, Int.reduceLT, Int.reduceNeg, Ty.down]
  refine wpGx.split (fun h1 => ?_) (fun h1 => ?_)
  · simp at h1
    simp (maxSteps := 10000000) only [Ev.down, Nat.reduceBEq, Nat.reduceAdd, Nat.reduceMul, Nat.reduceLT, Nat.reduceLeDiff, Nat.reduceEqDiff, Nat.reduceSub, reduceCtorEq, Int.reduceToNat, Int.reduceLE, Int.reduceLT, Int.reduceNeg, Ty.down]
    refine ByHand.call 140 (f31_ok l n) (.func rfl rfl) c31 rfl (by simp (maxSteps := 10000000) only [Ev.down, Nat.reduceBEq, Nat.reduceAdd, Nat.reduceMul, Nat.reduceLT, Nat.reduceLeDiff, Nat.reduceEqDiff, Nat.reduceSub, reduceCtorEq, Int.reduceToNat, Int.reduceLE, Int.reduceLT, Int.reduceNeg, Ty.down, noRefL, noRef, Bool.and_self]) rfl rfl trivial rfl ?_
    simp (maxSteps := 10000000) only [Ev.down, Nat.reduceBEq, Nat.reduceAdd, Nat.reduceMul, Nat.reduceLT, Nat.reduceLeDiff, Nat.reduceEqDiff, Nat.reduceSub, reduceCtorEq, Int.reduceToNat, Int.reduceLE, Int.reduceLT, Int.reduceNeg, Ty.down]
    cases h2 : inL l n with
    | false =>
      rw [show (decide (0 ≤ n) && decide (n < l.todos.length)) = false from h2]
      simp (maxSteps := 10000000) only [Ev.down, Nat.reduceBEq, Nat.reduceAdd, Nat.reduceMul, Nat.reduceLT, Nat.reduceLeDiff, Nat.reduceEqDiff, Nat.reduceSub, reduceCtorEq, Int.reduceToNat, Int.reduceLE, Int.reduceLT, Int.reduceNeg, Ty.down]
      (refine hK1 _ ?_; try clear hK1 K1)
      refine AWp.cond (b := true) rfl (fun _ => ?_) (fun h => by cases h)
      refine AWp.seq_k (fun K1 hK1 => ?_); refine AWp.regionW G_good ?_; simp (maxSteps := 10000000) only [Ev.down, Nat.reduceBEq, Nat.reduceAdd, Nat.reduceMul, Nat.reduceLT, Nat.reduceLeDiff, Nat.reduceEqDiff, Nat.reduceSub, reduceCtorEq, Int.reduceToNat, Int.reduceLE, Int.reduceLT, Int.reduceNeg, Ty.down]
      (refine hK1 _ ?_; try clear hK1 K1)
      rw [show takeL l n = (l, zeroT, false) from by simp [takeL, h2]]
      refine AWp.ret ⟨.inr rfl, RetTo.plain [_, _, _] ⟨⟨40, 0, 0, 4, _, false, _, rfl, rfl, rfl, .full (g26).1 (g26).2.1 rfl rfl rfl⟩, ⟨50, 0, 0, 10, _, false, _, rfl, rfl, rfl, .full (g28).1 (g28).2.1 rfl rfl rfl⟩, rfl, trivial⟩ (by simp only [ret1, noRef, noRefL, nr_line, nr_todo]; rfl)⟩
    | true =>
      rw [show (decide (0 ≤ n) && decide (n < l.todos.length)) = true from h2]
      obtain ⟨k, rfl, hk⟩ := inL_nat h2
      obtain ⟨x, hx⟩ : ∃ x, l.todos[k]? = some x := ⟨_, List.getElem?_eq_getElem hk⟩
      have hxl := hs.todo x (List.mem_of_getElem? hx)
      cases x with
      | nil =>
        simp (maxSteps := 10000000) only [Ev.down, Nat.reduceBEq, Nat.reduceAdd, Nat.reduceMul, Nat.reduceLT, Nat.reduceLeDiff, Nat.reduceEqDiff, Nat.reduceSub, reduceCtorEq, Int.reduceToNat, Int.reduceLE, Int.reduceLT, Int.reduceNeg, Ty.down, hx, eTodos]
        (refine hK1 _ ?_; try clear hK1 K1)
        refine AWp.cond (b := true) rfl (fun _ => ?_) (fun h => by cases h)
        refine AWp.seq_k (fun K1 hK1 => ?_); refine AWp.regionW G_good ?_; simp (maxSteps := 10000000) only [Ev.down, Nat.reduceBEq, Nat.reduceAdd, Nat.reduceMul, Nat.reduceLT, Nat.reduceLeDiff, Nat.reduceEqDiff, Nat.reduceSub, reduceCtorEq, Int.reduceToNat, Int.reduceLE, Int.reduceLT, Int.reduceNeg, Ty.down]
        (refine hK1 _ ?_; try clear hK1 K1)
        rw [show takeL l k = (l, zeroT, false) from by simp [takeL, h1, h2, hx]]
        refine AWp.ret ⟨.inr rfl, RetTo.plain [_, _, _] ⟨⟨40, 0, 0, 4, _, false, _, rfl, rfl, rfl, .full (g26).1 (g26).2.1 rfl rfl rfl⟩, ⟨50, 0, 0, 10, _, false, _, rfl, rfl, rfl, .full (g28).1 (g28).2.1 rfl rfl rfl⟩, rfl, trivial⟩ (by simp only [ret1, noRef, noRefL, nr_line, nr_todo]; rfl)⟩
      | cons t r =>
        simp (maxSteps := 10000000) only [Ev.down, Nat.reduceBEq, Nat.reduceAdd, Nat.reduceMul, Nat.reduceLT, Nat.reduceLeDiff, Nat.reduceEqDiff, Nat.reduceSub, reduceCtorEq, Int.reduceToNat, Int.reduceLE, Int.reduceLT, Int.reduceNeg, Ty.down, hx, eTodos]
        (refine hK1 _ ?_; try clear hK1 K1)
        refine AWp.cond (b := false) (by show AV.lit _ = _; simp; omega) (fun h => by cases h) (fun _ => ?_)
        refine AWp.skip ?_
        simp (maxSteps := 10000000) only [Ev.down, Nat.reduceBEq, Nat.reduceAdd, Nat.reduceMul, Nat.reduceLT, Nat.reduceLeDiff, Nat.reduceEqDiff, Nat.reduceSub, reduceCtorEq, Int.reduceToNat, Int.reduceLE, Int.reduceLT, Int.reduceNeg, Ty.down]
        (refine hK _ ?_; try clear hK K)
        refine AWp.seq_k (fun K hK => ?_); refine AWp.regionW G_good ?_; simp (maxSteps := 10000000) only [Ev.down, Nat.reduceBEq, Nat.reduceAdd, Nat.reduceMul, Nat.reduceLT, Nat.reduceLeDiff, Nat.reduceEqDiff, Nat.reduceSub, reduceCtorEq, Int.reduceToNat, Int.reduceLE, Int.reduceLT, Int.reduceNeg, Ty.down]
        refine ByHand.call 290 (own_s l hs) (.func rfl rfl) c32 rfl (by simp (maxSteps := 10000000) only [Ev.down, Nat.reduceBEq, Nat.reduceAdd, Nat.reduceMul, Nat.reduceLT, Nat.reduceLeDiff, Nat.reduceEqDiff, Nat.reduceSub, reduceCtorEq, Int.reduceToNat, Int.reduceLE, Int.reduceLT, Int.reduceNeg, Ty.down, noRefL, noRef, Bool.and_self]) rfl rfl (own_o l) rfl ?_
        simp (maxSteps := 10000000) only [Ev.down, Nat.reduceBEq, Nat.reduceAdd, Nat.reduceMul, Nat.reduceLT, Nat.reduceLeDiff, Nat.reduceEqDiff, Nat.reduceSub, reduceCtorEq, Int.reduceToNat, Int.reduceLE, Int.reduceLT, Int.reduceNeg, Ty.down]
        (refine hK _ ?_; try clear hK K)
        refine AWp.seq_k (fun K hK => ?_); refine AWp.regionW G_good ?_; simp (maxSteps := 10000000) only [Ev.down, Nat.reduceBEq, Nat.reduceAdd, Nat.reduceMul, Nat.reduceLT, Nat.reduceLeDiff, Nat.reduceEqDiff, Nat.reduceSub, reduceCtorEq, Int.reduceToNat, Int.reduceLE, Int.reduceLT, Int.reduceNeg, Ty.down, hx, eTodos]
        refine ⟨by omega, ?_⟩ -- index
        (refine hK _ ?_; try clear hK K)
        refine AWp.seq_k (fun K hK => ?_); refine AWp.drawsW G_good Try.checked.mixed (by kernel_rfl) ?_; simp (maxSteps := 10000000) only [Ev.down, Nat.reduceBEq, Nat.reduceAdd, Nat.reduceMul, Nat.reduceLT, Nat.reduceLeDiff, Nat.reduceEqDiff, Nat.reduceSub, reduceCtorEq, Int.reduceToNat, Int.reduceLE, Int.reduceLT, Int.reduceNeg, Ty.down, hx, eTodos]
        refine ⟨by omega, ?_⟩ -- index
        refine ⟨by simp; omega, ?_⟩ -- slice
        rw [show List.take (r.length + 1 - 1) (List.map eTodo r) = List.map eTodo r from List.take_of_length_le (by simp)]
        refine ByHand.call 460 (f34_ok r (by simp at hxl; omega)) (.func rfl rfl) c34 rfl (by simp (maxSteps := 10000000) only [Ev.down, Nat.reduceBEq, Nat.reduceAdd, Nat.reduceMul, Nat.reduceLT, Nat.reduceLeDiff, Nat.reduceEqDiff, Nat.reduceSub, reduceCtorEq, Int.reduceToNat, Int.reduceLE, Int.reduceLT, Int.reduceNeg, Ty.down, noRefL, noRef, Bool.and_self]) rfl rfl ⟨w_todos _, nrl_todo _, trivial⟩ rfl ?_
        simp (maxSteps := 10000000) only [Ev.down, Nat.reduceBEq, Nat.reduceAdd, Nat.reduceMul, Nat.reduceLT, Nat.reduceLeDiff, Nat.reduceEqDiff, Nat.reduceSub, reduceCtorEq, Int.reduceToNat, Int.reduceLE, Int.reduceLT, Int.reduceNeg, Ty.down, hx]
        refine ⟨by omega, ?_⟩ -- index
        refine ⟨by kernel_rfl, ?_⟩
        (refine hK _ ?_; try clear hK K)
        refine AWp.seq_k (fun K hK => ?_); refine AWp.drawsW G_good Try.checked.mixed (by kernel_rfl) ?_; simp (maxSteps := 10000000) only [Ev.down, Nat.reduceBEq, Nat.reduceAdd, Nat.reduceMul, Nat.reduceLT, Nat.reduceLeDiff, Nat.reduceEqDiff, Nat.reduceSub, reduceCtorEq, Int.reduceToNat, Int.reduceLE, Int.reduceLT, Int.reduceNeg, Ty.down]
        refine ⟨by kernel_rfl, ?_⟩
        (refine hK _ ?_; try clear hK K)
        rw [show takeL l k = ({ l with todos := l.todos.set k r }, t, true) from by simp [takeL, h1, h2, hx]]
        refine AWp.ret ⟨.inr rfl, RetTo.frozenS [_, _, _] [290, 291, 292, 460] ⟨⟨40, 0, 0, 4, _, false, _, rfl, rfl, rfl, .full (g26).1 (g26).2.1 rfl rfl rfl⟩, ⟨50, 0, 0, 10, _, false, _, rfl, rfl, rfl, .full (g28).1 (g28).2.1 rfl rfl rfl⟩, rfl, trivial⟩ rfl ?_⟩
        refine .mk_tup (.cons (.mk_agg (.cons ?_ (.cons ?_ (.cons ?_ (.cons (.same rfl) .nil))))) (.cons (.same rfl) (.cons (.same rfl) .nil)))
        · refine Cv.fzL (s := 290) (by simp) rfl (w_todoss _) ((w_todoss _).set rfl) (by simp) ?_
          simp only [List.map_set]
          refine (CvL.same (nrl_todos _)).set ?_ k
          exact Cv.fz (s := 460) (by simp) rfl (w_todos _) (by simp) (nrl_todo _)
        · exact Cv.fz (s := 291) (by simp) rfl (w_intss _) (by simp) (nrl_intss _)
        · exact Cv.fz (s := 292) (by simp) rfl (w_ints _) (by simp) (nrl_ints _)
  · simp at h1
    simp (maxSteps := 10000000) only [Ev.down, Nat.reduceBEq, Nat.reduceAdd, Nat.reduceMul, Nat.reduceLT, Nat.reduceLeDiff, Nat.reduceEqDiff, Nat.reduceSub, reduceCtorEq, Int.reduceToNat, Int.reduceLE, Int.reduceLT, Int.reduceNeg, Ty.down]
    (refine hK1 _ ?_; try clear hK1 K1)
    refine AWp.cond (b := true) rfl (fun _ => ?_) (fun h => by cases h)
    refine AWp.seq_k (fun K1 hK1 => ?_); refine AWp.regionW G_good ?_; simp (maxSteps := 10000000) only [Ev.down, Nat.reduceBEq, Nat.reduceAdd, Nat.reduceMul, Nat.reduceLT, Nat.reduceLeDiff, Nat.reduceEqDiff, Nat.reduceSub, reduceCtorEq, Int.reduceToNat, Int.reduceLE, Int.reduceLT, Int.reduceNeg, Ty.down]
    (refine hK1 _ ?_; try clear hK1 K1)
    rw [show takeL l n = (l, zeroT, false) from by simp [takeL, h1]]
    refine AWp.ret ⟨.inr rfl, RetTo.plain [_, _, _] ⟨⟨40, 0, 0, 4, _, false, _, rfl, rfl, rfl, .full (g26).1 (g26).2.1 rfl rfl rfl⟩, ⟨50, 0, 0, 10, _, false, _, rfl, rfl, rfl, .full (g28).1 (g28).2.1 rfl rfl rfl⟩, rfl, trivial⟩ (by simp only [ret1, noRef, noRefL, nr_line, nr_todo]; rfl)⟩
end Go.Proofs.Line
