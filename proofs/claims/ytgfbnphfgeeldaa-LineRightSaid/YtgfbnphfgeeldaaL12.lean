/- Contracts of functions of the given program (what each computes), conditions as stated in each theorem. By an AI agent. -/
import Derived.Test.YtgfbnphfgeeldaaL11
import Derived.Tactics
namespace Go.Proofs.Line
open Go.Am
set_option linter.unusedSimpArgs false
set_option maxRecDepth 100000
theorem f38_ok (l : LineM) (k : Nat) (t : List TodoM) (hk : k < l.todos.length) (hs : l.todos.length ≤ 90000) : FnOK Try.prog 38 [] [eLine l, .lit (.int .i64 k), eTodos t] [] (eLine { l with todos := l.todos.set k t }) := by
  refine FnOK.start (rvs := [.cell 6 26]) Try.func38 rfl Try.ntmps38 rfl (by simp) ?_
  simp only [argsS, objsS, Nat.reduceAdd, Nat.zero_add, List.length_nil]
  refine AWp.seq_k (fun K hK => ?_); refine AWp.regionW G_good ?_; simp (maxSteps := 10000000) only [Ev.down, Nat.reduceBEq, Nat.reduceAdd, Nat.reduceMul, Nat.reduceLT, Nat.reduceLeDiff, Nat.reduceEqDiff, Nat.reduceSub, reduceCtorEq, Int.reduceToNat, Int.reduceLE, Int.reduceLT, Int.reduceNeg, Ty.down]
  (refine hK _ ?_; try clear hK K)
  refine AWp.seq_k (fun K hK => ?_); refine AWp.regionW G_good ?_; simp (maxSteps := 10000000) only [Ev.down, Nat.reduceBEq, Nat.reduceAdd, Nat.reduceMul, Nat.reduceLT, Nat.reduceLeDiff, Nat.reduceEqDiff, Nat.reduceSub, reduceCtorEq, Int.reduceToNat, Int.reduceLE, Int.reduceLT, Int.reduceNeg, Ty.down, eTodoss]
  refine ⟨⟨o_todoss _, by omega, by omega⟩, ?_⟩
  (refine hK _ ?_; try clear hK K)
  obtain ⟨x, hx⟩ : ∃ x, l.todos[k]? = some x := ⟨_, List.getElem?_eq_getElem hk⟩
  refine AWp.seq_k (fun K hK => ?_); refine AWp.regionW G_good ?_; simp (maxSteps := 10000000) only [Ev.down, Nat.reduceBEq, Nat.reduceAdd, Nat.reduceMul, Nat.reduceLT, Nat.reduceLeDiff, Nat.reduceEqDiff, Nat.reduceSub, reduceCtorEq, Int.reduceToNat, Int.reduceLE, Int.reduceLT, Int.reduceNeg, Ty.down, hx]
  refine ⟨by omega, ?_⟩ -- index
  (refine hK _ ?_; try clear hK K)
  refine AWp.seq_k (fun K hK => ?_); refine AWp.regionW G_good ?_; simp (maxSteps := 10000000) only [Ev.down, Nat.reduceBEq, Nat.reduceAdd, Nat.reduceMul, Nat.reduceLT, Nat.reduceLeDiff, Nat.reduceEqDiff, Nat.reduceSub, reduceCtorEq, Int.reduceToNat, Int.reduceLE, Int.reduceLT, Int.reduceNeg, Ty.down]
  (refine hK _ ?_; try clear hK K)
  refine AWp.seq_k (fun K hK => ?_); refine AWp.regionW G_good ?_; simp (maxSteps := 10000000) only [Ev.down, Nat.reduceBEq, Nat.reduceAdd, Nat.reduceMul, Nat.reduceLT, Nat.reduceLeDiff, Nat.reduceEqDiff, Nat.reduceSub, reduceCtorEq, Int.reduceToNat, Int.reduceLE, Int.reduceLT, Int.reduceNeg, Ty.down]
  (refine hK _ ?_; try clear hK K)
  refine AWp.ret ⟨.inr rfl, RetTo.frozenS [_] [110] ⟨⟨60, 0, 0, 4, _, false, _, rfl, rfl, rfl, .full (g26).1 (g26).2.1 rfl rfl rfl⟩, trivial⟩ rfl ?_⟩
  refine .mk_agg (.cons ?_ (.cons (.same (nr_intss _)) (.cons (.same (nr_ints _)) (.cons (.same rfl) .nil))))
  refine Cv.fzL (s := 110) (by simp) rfl (w_todoss _) ((w_todoss _).set rfl) (by simp) ?_
  simp only [List.map_set]
  exact (CvL.same (nrl_todos _)).set (.same (nr_todos _)) k
theorem f23_ok (l : LineM) (hs : Sm 90000 l) : FnOK Try.prog 23 [] [eLine l] [] (eLine (growL l)) := by
  refine FnOK.start (rvs := [.cell 2 26]) Try.func23 rfl Try.ntmps23 rfl (by simp) ?_
  simp only [argsS, objsS, Nat.reduceAdd, Nat.zero_add, List.length_nil]
  have h1 := hs.todos
  refine AWp.seq_k (fun K hK => ?_); refine AWp.regionW G_good ?_; simp (maxSteps := 10000000) only [Ev.down, Nat.reduceBEq, Nat.reduceAdd, Nat.reduceMul, Nat.reduceLT, Nat.reduceLeDiff, Nat.reduceEqDiff, Nat.reduceSub, reduceCtorEq, Int.reduceToNat, Int.reduceLE, Int.reduceLT, Int.reduceNeg, Ty.down]
  (refine hK _ ?_; try clear hK K)
  refine AWp.seq_k (fun K hK => ?_); refine AWp.regionW G_good ?_; simp (maxSteps := 10000000) only [Ev.down, Nat.reduceBEq, Nat.reduceAdd, Nat.reduceMul, Nat.reduceLT, Nat.reduceLeDiff, Nat.reduceEqDiff, Nat.reduceSub, reduceCtorEq, Int.reduceToNat, Int.reduceLE, Int.reduceLT, Int.reduceNeg, Ty.down, eTodoss]
  refine ⟨⟨o_todoss _, by omega, by omega⟩, ?_⟩
  refine ⟨⟨rfl, by omega, by omega⟩, ?_⟩
  (refine hK _ ?_; try clear hK K)
  refine AWp.seq_k (fun K hK => ?_); refine AWp.regionW G_good ?_; simp (maxSteps := 10000000) only [Ev.down, Nat.reduceBEq, Nat.reduceAdd, Nat.reduceMul, Nat.reduceLT, Nat.reduceLeDiff, Nat.reduceEqDiff, Nat.reduceSub, reduceCtorEq, Int.reduceToNat, Int.reduceLE, Int.reduceLT, Int.reduceNeg, Ty.down]
  (refine hK _ ?_; try clear hK K)
  refine AWp.ret ⟨.inr rfl, RetTo.frozenS [_] [90, 70] ⟨⟨20, 0, 0, 4, _, false, _, rfl, rfl, rfl, .full (g26).1 (g26).2.1 rfl rfl rfl⟩, trivial⟩ rfl ?_⟩
  refine .mk_agg (.cons ?_ (.cons (.same (nr_intss _)) (.cons (.same (nr_ints _)) (.cons (.same rfl) .nil))))
  exact Cv.fzL (s := 90) (by simp) rfl (w_todoss _) ((w_todoss _).append (.cons rfl (.nil _))) (by simp [growL]) (by
    simp only [growL, List.map_append]
    exact (CvL.same (nrl_todos _)).append (.cons (Cv.fz (s := 70) (rows := []) (by simp) rfl (.nil _) rfl rfl) .nil))
theorem f24_ok (l : LineM) (hs : Sm 90000 l) : FnOK Try.prog 24 [] [eLine l] [] (eLine (openL l)) := by
  refine FnOK.start (rvs := [.cell 2 26]) Try.func24 rfl Try.ntmps24 rfl (by simp) ?_
  simp only [argsS, objsS, Nat.reduceAdd, Nat.zero_add, List.length_nil]
  have h1 := hs.stack
  refine AWp.seq_k (fun K hK => ?_); refine AWp.regionW G_good ?_; simp (maxSteps := 10000000) only [Ev.down, Nat.reduceBEq, Nat.reduceAdd, Nat.reduceMul, Nat.reduceLT, Nat.reduceLeDiff, Nat.reduceEqDiff, Nat.reduceSub, reduceCtorEq, Int.reduceToNat, Int.reduceLE, Int.reduceLT, Int.reduceNeg, Ty.down]
  (refine hK _ ?_; try clear hK K)
  refine AWp.seq_k (fun K hK => ?_); refine AWp.regionW G_good ?_; simp (maxSteps := 10000000) only [Ev.down, Nat.reduceBEq, Nat.reduceAdd, Nat.reduceMul, Nat.reduceLT, Nat.reduceLeDiff, Nat.reduceEqDiff, Nat.reduceSub, reduceCtorEq, Int.reduceToNat, Int.reduceLE, Int.reduceLT, Int.reduceNeg, Ty.down, eIntss]
  refine ⟨⟨o_intss _, by omega, by omega⟩, ?_⟩
  refine ⟨⟨rfl, by omega, by omega⟩, ?_⟩
  (refine hK _ ?_; try clear hK K)
  refine AWp.seq_k (fun K hK => ?_); refine AWp.regionW G_good ?_; simp (maxSteps := 10000000) only [Ev.down, Nat.reduceBEq, Nat.reduceAdd, Nat.reduceMul, Nat.reduceLT, Nat.reduceLeDiff, Nat.reduceEqDiff, Nat.reduceSub, reduceCtorEq, Int.reduceToNat, Int.reduceLE, Int.reduceLT, Int.reduceNeg, Ty.down]
  (refine hK _ ?_; try clear hK K)
  refine AWp.ret ⟨.inr rfl, RetTo.frozenS [_] [90, 70] ⟨⟨20, 0, 0, 4, _, false, _, rfl, rfl, rfl, .full (g26).1 (g26).2.1 rfl rfl rfl⟩, trivial⟩ rfl ?_⟩
  refine .mk_agg (.cons (.same (nr_todoss _)) (.cons ?_ (.cons (.same (nr_ints _)) (.cons (.same rfl) .nil))))
  exact Cv.fzL (s := 90) (by simp) rfl (w_intss _) ((w_intss _).append (.cons rfl (.nil _))) (by simp [openL]) (by
    simp only [openL, List.map_append]
    exact (CvL.same (nrl_intss _)).append (.cons (Cv.fz (s := 70) (rows := []) (by simp) rfl (.nil _) rfl rfl) .nil))
theorem f29_ok (l : LineM) (k : Nat) (hk : k < l.todos.length) (hs : Sm 90000 l) : FnOK Try.prog 29 [] [eLine l, .lit (.int .i64 k)] [] (eLine { l with todos := l.todos.set k [] }) := by
  refine FnOK.start (rvs := [.cell 4 26]) Try.func29 rfl Try.ntmps29 rfl (by simp) ?_
  simp only [argsS, objsS, Nat.reduceAdd, Nat.zero_add, List.length_nil]
  refine AWp.seq_k (fun K hK => ?_); refine AWp.regionW G_good ?_; simp (maxSteps := 10000000) only [Ev.down, Nat.reduceBEq, Nat.reduceAdd, Nat.reduceMul, Nat.reduceLT, Nat.reduceLeDiff, Nat.reduceEqDiff, Nat.reduceSub, reduceCtorEq, Int.reduceToNat, Int.reduceLE, Int.reduceLT, Int.reduceNeg, Ty.down]
  (refine hK _ ?_; try clear hK K)
  refine AWp.seq_k (fun K hK => ?_); refine AWp.regionW G_good ?_; simp (maxSteps := 10000000) only [Ev.down, Nat.reduceBEq, Nat.reduceAdd, Nat.reduceMul, Nat.reduceLT, Nat.reduceLeDiff, Nat.reduceEqDiff, Nat.reduceSub, reduceCtorEq, Int.reduceToNat, Int.reduceLE, Int.reduceLT, Int.reduceNeg, Ty.down]
  refine ByHand.callV [70] (f38_ok l k [] hk hs.todos) (.func rfl rfl) c38 (.cons (.same (nr_line _)) (.cons (.same rfl) (.cons (Cv.fz (s := 70) (rows := []) (by simp) rfl (.nil _) rfl rfl) .nil))) rfl rfl (nr_line _) ?_
  simp (maxSteps := 10000000) only [Ev.down, Nat.reduceBEq, Nat.reduceAdd, Nat.reduceMul, Nat.reduceLT, Nat.reduceLeDiff, Nat.reduceEqDiff, Nat.reduceSub, reduceCtorEq, Int.reduceToNat, Int.reduceLE, Int.reduceLT, Int.reduceNeg, Ty.down]
  (refine hK _ ?_; try clear hK K)
  refine AWp.ret ⟨.inr rfl, RetTo.plain [_] ⟨⟨40, 0, 0, 4, _, false, _, rfl, rfl, rfl, .full (g26).1 (g26).2.1 rfl rfl rfl⟩, trivial⟩ (nr_line _)⟩
theorem f25_ok (l : LineM) (h : rightL l = true) : FnOK Try.prog 25 [] [eLine l] [] (.tup [eLine (pullL l).1, .lit (.int .i64 (pullL l).2.1), .lit (.bool (pullL l).2.2)]) := by
  refine FnOK.start (rvs := [.cell 2 26, .tmp 3, .tmp 4]) Try.func25 rfl Try.ntmps25 rfl (by simp) ?_
  simp only [argsS, objsS, Nat.reduceAdd, Nat.zero_add, List.length_nil]
  refine AWp.seq_k (fun K hK => ?_); refine AWp.regionW G_good ?_; simp (maxSteps := 10000000) only [Ev.down, Nat.reduceBEq, Nat.reduceAdd, Nat.reduceMul, Nat.reduceLT, Nat.reduceLeDiff, Nat.reduceEqDiff, Nat.reduceSub, reduceCtorEq, Int.reduceToNat, Int.reduceLE, Int.reduceLT, Int.reduceNeg, Ty.down]
  (refine hK _ ?_; try clear hK K)
  refine AWp.seq_k (fun K hK => ?_)
  obtain ⟨td, st, bk, bs⟩ := l
  cases bk with
  | nil =>
    refine AWp.seq_k (fun K1 hK1 => ?_); refine AWp.regionW G_good ?_; simp (maxSteps := 10000000) only [Ev.down, Nat.reduceBEq, Nat.reduceAdd, Nat.reduceMul, Nat.reduceLT, Nat.reduceLeDiff, Nat.reduceEqDiff, Nat.reduceSub, reduceCtorEq, Int.reduceToNat, Int.reduceLE, Int.reduceLT, Int.reduceNeg, Ty.down, eInts]
    (refine hK1 _ ?_; try clear hK1 K1)
    refine AWp.cond (b := true) rfl (fun _ => ?_) (fun h2 => by cases h2)
    refine AWp.seq_k (fun K1 hK1 => ?_); refine AWp.regionW G_good ?_; simp (maxSteps := 10000000) only [Ev.down, Nat.reduceBEq, Nat.reduceAdd, Nat.reduceMul, Nat.reduceLT, Nat.reduceLeDiff, Nat.reduceEqDiff, Nat.reduceSub, reduceCtorEq, Int.reduceToNat, Int.reduceLE, Int.reduceLT, Int.reduceNeg, Ty.down]
    (refine hK1 _ ?_; try clear hK1 K1)
    refine AWp.seq_k (fun K1 hK1 => ?_); refine AWp.regionW G_good ?_; simp (maxSteps := 10000000) only [Ev.down, Nat.reduceBEq, Nat.reduceAdd, Nat.reduceMul, Nat.reduceLT, Nat.reduceLeDiff, Nat.reduceEqDiff, Nat.reduceSub, reduceCtorEq, Int.reduceToNat, Int.reduceLE, Int.reduceLT, Int.reduceNeg, Ty.down]
    (refine hK1 _ ?_; try clear hK1 K1)
    rw [show pullL ⟨td, st, [], bs⟩ = (⟨td, st, [], false⟩, -1, false) from by simp [pullL, h]]
    refine AWp.ret ⟨.inr rfl, RetTo.plain [_, _, _] ⟨⟨20, 0, 0, 4, _, false, _, rfl, rfl, rfl, .full (g26).1 (g26).2.1 rfl rfl rfl⟩, rfl, rfl, trivial⟩ (by simp only [ret1, noRef, noRefL, nr_line]; rfl)⟩
  | cons n r =>
    refine AWp.seq_k (fun K1 hK1 => ?_); refine AWp.regionW G_good ?_; simp (maxSteps := 10000000) only [Ev.down, Nat.reduceBEq, Nat.reduceAdd, Nat.reduceMul, Nat.reduceLT, Nat.reduceLeDiff, Nat.reduceEqDiff, Nat.reduceSub, reduceCtorEq, Int.reduceToNat, Int.reduceLE, Int.reduceLT, Int.reduceNeg, Ty.down, eInts]
    (refine hK1 _ ?_; try clear hK1 K1)
    refine AWp.cond (b := false) (by show AV.lit _ = _; simp; omega) (fun h2 => by cases h2) (fun _ => ?_)
    refine AWp.skip ?_
    simp (maxSteps := 10000000) only [Ev.down, Nat.reduceBEq, Nat.reduceAdd, Nat.reduceMul, Nat.reduceLT, Nat.reduceLeDiff, Nat.reduceEqDiff, Nat.reduceSub, reduceCtorEq, Int.reduceToNat, Int.reduceLE, Int.reduceLT, Int.reduceNeg, Ty.down]
    (refine hK _ ?_; try clear hK K)
    refine AWp.seq_k (fun K hK => ?_); refine AWp.regionW G_good ?_; simp (maxSteps := 10000000) only [Ev.down, Nat.reduceBEq, Nat.reduceAdd, Nat.reduceMul, Nat.reduceLT, Nat.reduceLeDiff, Nat.reduceEqDiff, Nat.reduceSub, reduceCtorEq, Int.reduceToNat, Int.reduceLE, Int.reduceLT, Int.reduceNeg, Ty.down, eInt, eInts]
    (refine hK _ ?_; try clear hK K)
    refine AWp.seq_k (fun K hK => ?_); refine AWp.regionW G_good ?_; simp (maxSteps := 10000000) only [Ev.down, Nat.reduceBEq, Nat.reduceAdd, Nat.reduceMul, Nat.reduceLT, Nat.reduceLeDiff, Nat.reduceEqDiff, Nat.reduceSub, reduceCtorEq, Int.reduceToNat, Int.reduceLE, Int.reduceLT, Int.reduceNeg, Ty.down, eInts]
    refine ⟨by simp; omega, ?_⟩ -- slice
    rw [show List.take (r.length + 1 - 1) (List.map eInt r) = List.map eInt r from List.take_of_length_le (by simp)]
    (refine hK _ ?_; try clear hK K)
    refine AWp.seq_k (fun K hK => ?_); refine AWp.regionW G_good ?_; simp (maxSteps := 10000000) only [Ev.down, Nat.reduceBEq, Nat.reduceAdd, Nat.reduceMul, Nat.reduceLT, Nat.reduceLeDiff, Nat.reduceEqDiff, Nat.reduceSub, reduceCtorEq, Int.reduceToNat, Int.reduceLE, Int.reduceLT, Int.reduceNeg, Ty.down]
    (refine hK _ ?_; try clear hK K)
    rw [show pullL ⟨td, st, n :: r, bs⟩ = (⟨td, st, r, bs⟩, n, true) from by simp [pullL, h]]
    refine AWp.ret ⟨.inr rfl, RetTo.plain [_, _, _] ⟨⟨20, 0, 0, 4, _, false, _, rfl, rfl, rfl, .full (g26).1 (g26).2.1 rfl rfl rfl⟩, rfl, rfl, trivial⟩ (by simp only [ret1, noRef, noRefL, nr_line]; rfl)⟩
theorem f26_ok (l : LineM) (h : rightL l = true) (h0 : l.stack.length ≠ 0) (hs : Sm 90000 l) : FnOK Try.prog 26 [] [eLine l] [] (.tup [eLine (shutL l).1, eInts (shutL l).2.1]) := by
  refine FnOK.start (rvs := [.cell 2 26, .tmp 3]) Try.func26 rfl Try.ntmps26 rfl (by simp) ?_
  simp only [argsS, objsS, Nat.reduceAdd, Nat.zero_add, List.length_nil]
  obtain ⟨k, hk⟩ : ∃ k, l.stack.length = k + 1 := ⟨l.stack.length - 1, by omega⟩
  obtain ⟨x, hx⟩ : ∃ x, l.stack[k]? = some x := ⟨_, List.getElem?_eq_getElem (by omega)⟩
  have hw : IntKind.i64.wrap ((l.stack.length : Int) - 1) = (k : Int) := by rw [IntWalk.i64_in _ (by have := hs.stack; omega)]; omega
  refine AWp.seq_k (fun K hK => ?_); refine AWp.regionW G_good ?_; simp (maxSteps := 10000000) only [Ev.down, Nat.reduceBEq, Nat.reduceAdd, Nat.reduceMul, Nat.reduceLT, Nat.reduceLeDiff, Nat.reduceEqDiff, Nat.reduceSub, reduceCtorEq, Int.reduceToNat, Int.reduceLE, Int.reduceLT, Int.reduceNeg, Ty.down]
  (refine hK _ ?_; try clear hK K)
  refine AWp.seq_k (fun K hK => ?_); refine AWp.regionW G_good ?_; simp (maxSteps := 10000000) only [Ev.down, Nat.reduceBEq, Nat.reduceAdd, Nat.reduceMul, Nat.reduceLT, Nat.reduceLeDiff, Nat.reduceEqDiff, Nat.reduceSub, reduceCtorEq, Int.reduceToNat, Int.reduceLE, Int.reduceLT, Int.reduceNeg, Ty.down, hw, eIntss]
  (refine hK _ ?_; try clear hK K)
  refine AWp.seq_k (fun K hK => ?_); refine AWp.regionW G_good ?_; simp (maxSteps := 10000000) only [Ev.down, Nat.reduceBEq, Nat.reduceAdd, Nat.reduceMul, Nat.reduceLT, Nat.reduceLeDiff, Nat.reduceEqDiff, Nat.reduceSub, reduceCtorEq, Int.reduceToNat, Int.reduceLE, Int.reduceLT, Int.reduceNeg, Ty.down, hx, eIntss]
  (refine hK _ ?_; try clear hK K)
  refine AWp.seq_k (fun K hK => ?_); refine AWp.regionW G_good ?_; simp (maxSteps := 10000000) only [Ev.down, Nat.reduceBEq, Nat.reduceAdd, Nat.reduceMul, Nat.reduceLT, Nat.reduceLeDiff, Nat.reduceEqDiff, Nat.reduceSub, reduceCtorEq, Int.reduceToNat, Int.reduceLE, Int.reduceLT, Int.reduceNeg, Ty.down, eIntss]
  refine ⟨by omega, ?_⟩ -- slice
  (refine hK _ ?_; try clear hK K)
  refine AWp.seq_k (fun K hK => ?_); refine AWp.regionW G_good ?_; simp (maxSteps := 10000000) only [Ev.down, Nat.reduceBEq, Nat.reduceAdd, Nat.reduceMul, Nat.reduceLT, Nat.reduceLeDiff, Nat.reduceEqDiff, Nat.reduceSub, reduceCtorEq, Int.reduceToNat, Int.reduceLE, Int.reduceLT, Int.reduceNeg, Ty.down]
  (refine hK _ ?_; try clear hK K)
  rw [show shutL l = ({ l with stack := l.stack.take k }, x, 0) from by have := (List.getElem?_eq_some_iff.1 hx).2; simp [shutL, h, hk, this]]
  refine AWp.ret ⟨.inr rfl, ?_⟩
  have e : eLine { l with stack := l.stack.take k } = .agg [eTodoss l.todos, .sl 1 (List.take k (l.stack.map eInts)), eInts l.back, .lit (.bool l.busy)] := by simp [eLine, eIntss, List.map_take]
  simp only [e]
  refine RetTo.plain [_, _] ⟨⟨20, 0, 0, 4, _, false, _, rfl, rfl, rfl, .full (g26).1 (g26).2.1 rfl rfl rfl⟩, rfl, trivial⟩ ?_
  simp only [ret1, noRef, noRefL, nr_todoss, nr_ints]
  rw [← List.map_take, nrl_intss]
  rfl

theorem f28_ok (l : LineM) (k : Nat) (h : rightL l = true) (hk : k < l.todos.length) (hs : Sm 90000 l) : FnOK Try.prog 28 [] [eLine l, .lit (.int .i64 k)] [] (.tup [eLine (takeL l k).1, eTodo (takeL l k).2.1, .lit (.bool (takeL l k).2.2)]) := by
  refine FnOK.start (rvs := [.cell 4 26, .cell 5 28, .tmp 6]) Try.func28 rfl Try.ntmps28 rfl (by simp) ?_
  simp only [argsS, objsS, Nat.reduceAdd, Nat.zero_add, List.length_nil]
  have hi := inL_of hk
  obtain ⟨x, hx⟩ : ∃ x, l.todos[k]? = some x := ⟨_, List.getElem?_eq_getElem hk⟩
  refine AWp.seq_k (fun K hK => ?_); refine AWp.regionW G_good ?_; simp (maxSteps := 10000000) only [Ev.down, Nat.reduceBEq, Nat.reduceAdd, Nat.reduceMul, Nat.reduceLT, Nat.reduceLeDiff, Nat.reduceEqDiff, Nat.reduceSub, reduceCtorEq, Int.reduceToNat, Int.reduceLE, Int.reduceLT, Int.reduceNeg, Ty.down]
  (refine hK _ ?_; try clear hK K)
  refine AWp.seq_k (fun K hK => ?_)
  cases x with
  | nil =>
    refine AWp.seq_k (fun K1 hK1 => ?_); refine AWp.regionW G_good ?_; simp (maxSteps := 10000000) only [Ev.down, Nat.reduceBEq, Nat.reduceAdd, Nat.reduceMul, Nat.reduceLT, Nat.reduceLeDiff, Nat.reduceEqDiff, Nat.reduceSub, reduceCtorEq, Int.reduceToNat, Int.reduceLE, Int.reduceLT, Int.reduceNeg, Ty.down, eTodoss, eTodos, hx]
    (refine hK1 _ ?_; try clear hK1 K1)
    refine AWp.cond (b := true) rfl (fun _ => ?_) (fun h2 => by cases h2)
    refine AWp.seq_k (fun K1 hK1 => ?_); refine AWp.regionW G_good ?_; simp (maxSteps := 10000000) only [Ev.down, Nat.reduceBEq, Nat.reduceAdd, Nat.reduceMul, Nat.reduceLT, Nat.reduceLeDiff, Nat.reduceEqDiff, Nat.reduceSub, reduceCtorEq, Int.reduceToNat, Int.reduceLE, Int.reduceLT, Int.reduceNeg, Ty.down]
    (refine hK1 _ ?_; try clear hK1 K1)
    rw [show takeL l k = (l, zeroT, false) from by simp [takeL, h, hi, hx]]
    refine AWp.ret ⟨.inr rfl, RetTo.plain [_, _, _] ⟨⟨40, 0, 0, 4, _, false, _, rfl, rfl, rfl, .full (g26).1 (g26).2.1 rfl rfl rfl⟩, ⟨50, 0, 0, 10, _, false, _, rfl, rfl, rfl, .full (g28).1 (g28).2.1 rfl rfl rfl⟩, rfl, trivial⟩ (by simp only [ret1, noRef, noRefL, nr_line, nr_todo]; rfl)⟩
  | cons y r =>
    refine AWp.seq_k (fun K1 hK1 => ?_); refine AWp.regionW G_good ?_; simp (maxSteps := 10000000) only [Ev.down, Nat.reduceBEq, Nat.reduceAdd, Nat.reduceMul, Nat.reduceLT, Nat.reduceLeDiff, Nat.reduceEqDiff, Nat.reduceSub, reduceCtorEq, Int.reduceToNat, Int.reduceLE, Int.reduceLT, Int.reduceNeg, Ty.down, eTodoss, eTodos, hx]
    (refine hK1 _ ?_; try clear hK1 K1)
    refine AWp.cond (b := false) (by show AV.lit _ = _; simp; omega) (fun h2 => by cases h2) (fun _ => ?_)
    refine AWp.skip ?_
    simp (maxSteps := 10000000) only [Ev.down, Nat.reduceBEq, Nat.reduceAdd, Nat.reduceMul, Nat.reduceLT, Nat.reduceLeDiff, Nat.reduceEqDiff, Nat.reduceSub, reduceCtorEq, Int.reduceToNat, Int.reduceLE, Int.reduceLT, Int.reduceNeg, Ty.down]
    (refine hK _ ?_; try clear hK K)
    refine AWp.seq_k (fun K hK => ?_); refine AWp.regionW G_good ?_; simp (maxSteps := 10000000) only [Ev.down, Nat.reduceBEq, Nat.reduceAdd, Nat.reduceMul, Nat.reduceLT, Nat.reduceLeDiff, Nat.reduceEqDiff, Nat.reduceSub, reduceCtorEq, Int.reduceToNat, Int.reduceLE, Int.reduceLT, Int.reduceNeg, Ty.down, eTodoss, eTodos, hx]
    (refine hK _ ?_; try clear hK K)
    refine AWp.seq_k (fun K hK => ?_); refine AWp.drawsW G_good Try.checked.mixed (by kernel_rfl) ?_; simp (maxSteps := 10000000) only [Ev.down, Nat.reduceBEq, Nat.reduceAdd, Nat.reduceMul, Nat.reduceLT, Nat.reduceLeDiff, Nat.reduceEqDiff, Nat.reduceSub, reduceCtorEq, Int.reduceToNat, Int.reduceLE, Int.reduceLT, Int.reduceNeg, Ty.down, eTodoss, eTodos, hx]
    refine ⟨by simp; omega, ?_⟩
    rw [show List.take (r.length + 1 - 1) (List.map eTodo r) = List.map eTodo r from List.take_of_length_le (by simp)]
    refine ByHand.callP (f38_ok l k r hk hs.todos) (.func rfl rfl) c38 rfl (by simp only [noRefL, nr_line, nr_todos, noRef, Bool.and_self]) rfl (nr_line _) ?_
    simp (maxSteps := 10000000) only [Ev.down, Nat.reduceBEq, Nat.reduceAdd, Nat.reduceMul, Nat.reduceLT, Nat.reduceLeDiff, Nat.reduceEqDiff, Nat.reduceSub, reduceCtorEq, Int.reduceToNat, Int.reduceLE, Int.reduceLT, Int.reduceNeg, Ty.down]
    refine ⟨by kernel_rfl, ?_⟩
    (refine hK _ ?_; try clear hK K)
    rw [show takeL l k = ({ l with todos := l.todos.set k r }, y, true) from by simp [takeL, h, hi, hx]]
    refine AWp.ret ⟨.inr rfl, RetTo.plain [_, _, _] ⟨⟨40, 0, 0, 4, _, false, _, rfl, rfl, rfl, .full (g26).1 (g26).2.1 rfl rfl rfl⟩, ⟨50, 0, 0, 10, _, false, _, rfl, rfl, rfl, .full (g28).1 (g28).2.1 rfl rfl rfl⟩, rfl, trivial⟩ (by simp only [ret1, noRef, noRefL, nr_line, nr_todo]; rfl)⟩
def belowL (x : List Int) (many : Nat) : Bool := x.all fun n => decide (0 ≤ n) && decide (n < many)
theorem f35_ok (x : List Int) (many : Nat) (hl : x.length ≤ 90000) : FnOK Try.prog 35 [] [eInts x, .lit (.int .i64 many)] [] (.lit (.bool (belowL x many))) := by
  refine FnOK.start (rvs := [.tmp 4]) Try.func35 rfl Try.ntmps35 rfl (by simp) ?_
  simp only [argsS, objsS, Nat.reduceAdd, Nat.zero_add, List.length_nil]
  simp only [eInts]
  refine AWp.seq_k (fun K hK => ?_); refine AWp.regionW G_good ?_; simp (maxSteps := 10000000) only [Ev.down, Nat.reduceBEq, Nat.reduceAdd, Nat.reduceMul, Nat.reduceLT, Nat.reduceLeDiff, Nat.reduceEqDiff, Nat.reduceSub, reduceCtorEq, Int.reduceToNat, Int.reduceLE, Int.reduceLT, Int.reduceNeg, Ty.down]
  (refine hK _ ?_; try clear hK K)
  refine AWp.seq_k (fun K hK => ?_)
  refine AWp.seq_k (fun K1 hK1 => ?_); refine AWp.regionW G_good ?_; simp (maxSteps := 10000000) only [Ev.down, Nat.reduceBEq, Nat.reduceAdd, Nat.reduceMul, Nat.reduceLT, Nat.reduceLeDiff, Nat.reduceEqDiff, Nat.reduceSub, reduceCtorEq, Int.reduceToNat, Int.reduceLE, Int.reduceLT, Int.reduceNeg, Ty.down]
  (refine hK1 _ ?_; try clear hK1 K1)
  refine AWp.block ?_
  refine AWp.loopF (ι := Nat) (fun k => St [(0, .sl 1 (x.map eInt)), (1, .lit (.int .i64 many)), (5, .lit (.int .i64 k))] []) (fun k => k ≤ x.length ∧ ∀ j n, j < k → x[j]? = some n → (decide (0 ≤ n) && decide (n < many)) = true) (fun k => x.length - k) 0 ⟨Nat.zero_le _, by simp⟩ ?_ ?_
  · exact Sits.pick (by simp only [allS, allM, Ev.down, Nat.reduceBEq, Nat.reduceAdd, Nat.reduceMul, Nat.reduceLT, Nat.reduceLeDiff, Nat.reduceEqDiff, Nat.reduceSub, reduceCtorEq, Int.reduceToNat, Int.reduceLE, Int.reduceLT, Int.reduceNeg, Ty.down, refOK, refOKL, refMS, wideMS, noRef, noRefL, List.contains_cons, List.contains_nil, Bool.or_false, Bool.or_true, Bool.true_or, List.nodup_cons, List.nodup_nil, List.mem_cons, List.not_mem_nil, or_false, not_false_eq_true, not_true_eq_false, Bool.or_self, Wide.cons_iff, Wide.nil_iff]) (by simp only [allS, allM, Ev.down, Nat.reduceBEq, Nat.reduceAdd, Nat.reduceMul, Nat.reduceLT, Nat.reduceLeDiff, Nat.reduceEqDiff, Nat.reduceSub, reduceCtorEq, Int.reduceToNat, Int.reduceLE, Int.reduceLT, Int.reduceNeg, Ty.down, refOK, refOKL, refMS, wideMS, noRef, noRefL, List.contains_cons, List.contains_nil, Bool.or_false, Bool.or_true, Bool.true_or, List.nodup_cons, List.nodup_nil, List.mem_cons, List.not_mem_nil, or_false, not_false_eq_true, not_true_eq_false, Bool.or_self, Wide.cons_iff, Wide.nil_iff]) (by simp only [allS, allM, Ev.down, Nat.reduceBEq, Nat.reduceAdd, Nat.reduceMul, Nat.reduceLT, Nat.reduceLeDiff, Nat.reduceEqDiff, Nat.reduceSub, reduceCtorEq, Int.reduceToNat, Int.reduceLE, Int.reduceLT, Int.reduceNeg, Ty.down, refOK, refOKL, refMS, wideMS, noRef, noRefL, List.contains_cons, List.contains_nil, Bool.or_false, Bool.or_true, Bool.true_or, List.nodup_cons, List.nodup_nil, List.mem_cons, List.not_mem_nil, or_false, not_false_eq_true, not_true_eq_false, Bool.or_self, Wide.cons_iff, Wide.nil_iff])
  rintro k ⟨hk, hinv⟩
  refine AWp.seq_k (fun K1 hK1 => ?_)
  refine AWp.seq_k (fun K2 hK2 => ?_); refine AWp.regionW G_good ?_; simp (maxSteps := 10000000) only [Ev.down, Nat.reduceBEq, Nat.reduceAdd, Nat.reduceMul, Nat.reduceLT, Nat.reduceLeDiff, Nat.reduceEqDiff, Nat.reduceSub, reduceCtorEq, Int.reduceToNat, Int.reduceLE, Int.reduceLT, Int.reduceNeg, Ty.down]
  (refine hK2 _ ?_; try clear hK2 K2)
  refine AWp.cond (b := decide ((k : Int) < x.length)) rfl (fun h => ?_) (fun h => ?_)
  ·
    refine AWp.skip ?_
    simp (maxSteps := 10000000) only [Ev.down, Nat.reduceBEq, Nat.reduceAdd, Nat.reduceMul, Nat.reduceLT, Nat.reduceLeDiff, Nat.reduceEqDiff, Nat.reduceSub, reduceCtorEq, Int.reduceToNat, Int.reduceLE, Int.reduceLT, Int.reduceNeg, Ty.down]
    have hk' : k < x.length := by simpa using h
    obtain ⟨n, hn⟩ : ∃ n, x[k]? = some n := ⟨_, List.getElem?_eq_getElem hk'⟩
    (refine hK1 _ ?_; try clear hK1 K1)
    refine AWp.seq_k (fun K1 hK1 => ?_)
    refine AWp.block ?_
    refine AWp.seq_k (fun K2 hK2 => ?_); refine AWp.regionW G_good ?_; simp (maxSteps := 10000000) only [Ev.down, Nat.reduceBEq, Nat.reduceAdd, Nat.reduceMul, Nat.reduceLT, Nat.reduceLeDiff, Nat.reduceEqDiff, Nat.reduceSub, reduceCtorEq, Int.reduceToNat, Int.reduceLE, Int.reduceLT, Int.reduceNeg, Ty.down, hn, eInt]
    have bad : ∀ sl m, lookS sl 24 = .lit (.bool true) → (decide (0 ≤ n) && decide (n < many)) = false → K2 (St sl m) := fun sl m h1 h2 => by
      refine hK2 _ ?_
      refine AWp.cond (b := true) h1 (fun _ => ?_) (fun h => by cases h)
      refine AWp.seq_k (fun K3 hK3 => ?_); refine AWp.regionW G_good ?_; simp (maxSteps := 10000000) only [Ev.down, Nat.reduceBEq, Nat.reduceAdd, Nat.reduceMul, Nat.reduceLT, Nat.reduceLeDiff, Nat.reduceEqDiff, Nat.reduceSub, reduceCtorEq, Int.reduceToNat, Int.reduceLE, Int.reduceLT, Int.reduceNeg, Ty.down]
      (refine hK3 _ ?_; try clear hK3 K3)
      refine AWp.ret ⟨.inr rfl, RetTo.one ?_ rfl⟩
      rw [show belowL x many = false from by
        unfold belowL
        rw [List.all_eq_false]
        exact ⟨n, List.mem_of_getElem? hn, by rw [h2]; simp⟩]
      rfl
    refine wpGx.split (fun g1 => ?_) (fun g1 => ?_)
    rotate_left
    · simp at g1; simp (maxSteps := 10000000) only [Ev.down, Nat.reduceBEq, Nat.reduceAdd, Nat.reduceMul, Nat.reduceLT, Nat.reduceLeDiff, Nat.reduceEqDiff, Nat.reduceSub, reduceCtorEq, Int.reduceToNat, Int.reduceLE, Int.reduceLT, Int.reduceNeg, Ty.down]; rw [show decide (n < 0) = true from by simpa using g1]; exact bad _ _ rfl (by simp; omega)
    simp at g1
    simp (maxSteps := 10000000) only [Ev.down, Nat.reduceBEq, Nat.reduceAdd, Nat.reduceMul, Nat.reduceLT, Nat.reduceLeDiff, Nat.reduceEqDiff, Nat.reduceSub, reduceCtorEq, Int.reduceToNat, Int.reduceLE, Int.reduceLT, Int.reduceNeg, Ty.down, hn, eInt]
    by_cases g2 : (many : Int) ≤ n
    · rw [show decide ((many : Int) ≤ n) = true from by simpa using g2]; exact bad _ _ rfl (by simp; omega)
    rw [show decide ((many : Int) ≤ n) = false from by simpa using g2]
    (refine hK2 _ ?_; try clear hK2 K2)
    refine AWp.cond (b := false) rfl (fun h => by cases h) (fun _ => ?_)
    refine AWp.skip ?_
    simp (maxSteps := 10000000) only [Ev.down, Nat.reduceBEq, Nat.reduceAdd, Nat.reduceMul, Nat.reduceLT, Nat.reduceLeDiff, Nat.reduceEqDiff, Nat.reduceSub, reduceCtorEq, Int.reduceToNat, Int.reduceLE, Int.reduceLT, Int.reduceNeg, Ty.down]
    (refine hK1 _ ?_; try clear hK1 K1)
    refine AWp.regionW G_good ?_; simp (maxSteps := 10000000) only [Ev.down, Nat.reduceBEq, Nat.reduceAdd, Nat.reduceMul, Nat.reduceLT, Nat.reduceLeDiff, Nat.reduceEqDiff, Nat.reduceSub, reduceCtorEq, Int.reduceToNat, Int.reduceLE, Int.reduceLT, Int.reduceNeg, Ty.down, wrap_succ k (by omega)]
    refine ⟨k + 1, ⟨by omega, fun j m hj hm => ?_⟩, by omega, Sits.pick (by simp only [allS, allM, Ev.down, Nat.reduceBEq, Nat.reduceAdd, Nat.reduceMul, Nat.reduceLT, Nat.reduceLeDiff, Nat.reduceEqDiff, Nat.reduceSub, reduceCtorEq, Int.reduceToNat, Int.reduceLE, Int.reduceLT, Int.reduceNeg, Ty.down, refOK, refOKL, refMS, wideMS, noRef, noRefL, List.contains_cons, List.contains_nil, Bool.or_false, Bool.or_true, Bool.true_or, List.nodup_cons, List.nodup_nil, List.mem_cons, List.not_mem_nil, or_false, not_false_eq_true, not_true_eq_false, Bool.or_self, Wide.cons_iff, Wide.nil_iff]) (by simp only [allS, allM, Ev.down, Nat.reduceBEq, Nat.reduceAdd, Nat.reduceMul, Nat.reduceLT, Nat.reduceLeDiff, Nat.reduceEqDiff, Nat.reduceSub, reduceCtorEq, Int.reduceToNat, Int.reduceLE, Int.reduceLT, Int.reduceNeg, Ty.down, refOK, refOKL, refMS, wideMS, noRef, noRefL, List.contains_cons, List.contains_nil, Bool.or_false, Bool.or_true, Bool.true_or, List.nodup_cons, List.nodup_nil, List.mem_cons, List.not_mem_nil, or_false, not_false_eq_true, not_true_eq_false, Bool.or_self, Wide.cons_iff, Wide.nil_iff]) (by simp only [allS, allM, Ev.down, Nat.reduceBEq, Nat.reduceAdd, Nat.reduceMul, Nat.reduceLT, Nat.reduceLeDiff, Nat.reduceEqDiff, Nat.reduceSub, reduceCtorEq, Int.reduceToNat, Int.reduceLE, Int.reduceLT, Int.reduceNeg, Ty.down, refOK, refOKL, refMS, wideMS, noRef, noRefL, List.contains_cons, List.contains_nil, Bool.or_false, Bool.or_true, Bool.true_or, List.nodup_cons, List.nodup_nil, List.mem_cons, List.not_mem_nil, or_false, not_false_eq_true, not_true_eq_false, Bool.or_self, Wide.cons_iff, Wide.nil_iff])⟩
    by_cases hjk : j = k
    · subst hjk; rw [hn] at hm; cases hm; simp; omega
    · exact hinv j m (by omega) hm
  ·
    refine AWp.exit ?_
    simp (maxSteps := 10000000) only [Ev.down, Nat.reduceBEq, Nat.reduceAdd, Nat.reduceMul, Nat.reduceLT, Nat.reduceLeDiff, Nat.reduceEqDiff, Nat.reduceSub, reduceCtorEq, Int.reduceToNat, Int.reduceLE, Int.reduceLT, Int.reduceNeg, Ty.down]
    (refine hK _ ?_; try clear hK K)
    refine AWp.seq_k (fun K hK => ?_); refine AWp.regionW G_good ?_; simp (maxSteps := 10000000) only [Ev.down, Nat.reduceBEq, Nat.reduceAdd, Nat.reduceMul, Nat.reduceLT, Nat.reduceLeDiff, Nat.reduceEqDiff, Nat.reduceSub, reduceCtorEq, Int.reduceToNat, Int.reduceLE, Int.reduceLT, Int.reduceNeg, Ty.down]
    (refine hK _ ?_; try clear hK K)
    refine AWp.ret ⟨.inr rfl, RetTo.one ?_ rfl⟩
    rw [show belowL x many = true from by
      unfold belowL
      rw [List.all_eq_true]
      intro n hn
      obtain ⟨j, hj⟩ := List.getElem?_of_mem hn
      exact hinv j n (by have := (List.getElem?_eq_some_iff.1 hj).1; simp at h; omega) hj]
    rfl
theorem right_below (l : LineM) : rightL l = ((l.stack.all fun x => belowL x l.todos.length) && belowL l.back l.todos.length) := by
  have : ∀ x, belowL x l.todos.length = x.all (inL l) := fun x => rfl
  simp [rightL, this]
end Go.Proofs.Line
