/- Contracts of functions of the given program (what each computes), conditions as stated in each theorem. By an AI agent. -/
import Derived.Test.YtgfbnphfgeeldaaL13
import Derived.Tactics
namespace Go.Proofs.Line
open Go.Am
set_option linter.unusedSimpArgs false
set_option maxRecDepth 100000
theorem f27_ok (l : LineM) (k : Nat) (t : TodoM) (h : rightL l = true) (hk : k < l.todos.length) (hs : Sm 80000 l) : FnOK Try.prog 27 [] [eLine l, .lit (.int .i64 k), eTodo t] [] (.tup [eLine (addL l k t).1, .lit (.bool (addL l k t).2.1)]) := by
  refine FnOK.start (rvs := [.cell 6 26, .tmp 7]) Try.func27 rfl Try.ntmps27 rfl (by simp) ?_
  simp only [argsS, objsS, Nat.reduceAdd, Nat.zero_add, List.length_nil]
  have hi := inL_of hk
  obtain ⟨x, hx⟩ : ∃ x, l.todos[k]? = some x := ⟨_, List.getElem?_eq_getElem hk⟩
  have hxl := hs.todo x (List.mem_of_getElem? hx)
  have h1 := hs.todos
  have h2 := hs.stack
  have h3 := hs.back
  refine AWp.seq_k (fun K hK => ?_); refine AWp.regionW G_good ?_; simp (maxSteps := 10000000) only [Ev.down, Nat.reduceBEq, Nat.reduceAdd, Nat.reduceMul, Nat.reduceLT, Nat.reduceLeDiff, Nat.reduceEqDiff, Nat.reduceSub, reduceCtorEq, Int.reduceToNat, Int.reduceLE, Int.reduceLT, Int.reduceNeg, Ty.down]
  (refine hK _ ?_; try clear hK K)
  refine AWp.seq_k (fun K hK => ?_); refine AWp.drawsW G_good Try.checked.mixed (by kernel_rfl) ?_; simp (maxSteps := 10000000) only [Ev.down, Nat.reduceBEq, Nat.reduceAdd, Nat.reduceMul, Nat.reduceLT, Nat.reduceLeDiff, Nat.reduceEqDiff, Nat.reduceSub, reduceCtorEq, Int.reduceToNat, Int.reduceLE, Int.reduceLT, Int.reduceNeg, Ty.down, eTodoss, eTodos, hx]
  refine ⟨⟨o_todos _, by omega, by omega⟩, ?_⟩
  refine ⟨⟨rfl, by omega, by omega⟩, ?_⟩
  refine ByHand.callV [220] (f38_ok l k (x ++ [t]) hk (by omega)) (.func rfl rfl) c38 (.cons (.same (nr_line _)) (.cons (.same rfl) (.cons (Cv.fzL (s := 220) (by simp) rfl (w_todos _) ((w_todos x).append (w_todos [t])) (by simp) (by rw [List.map_append]; exact .same (noRefL_append.trans (by rw [nrl_todo]; rfl)))) .nil))) rfl rfl (nr_line _) ?_
  simp (maxSteps := 10000000) only [Ev.down, Nat.reduceBEq, Nat.reduceAdd, Nat.reduceMul, Nat.reduceLT, Nat.reduceLeDiff, Nat.reduceEqDiff, Nat.reduceSub, reduceCtorEq, Int.reduceToNat, Int.reduceLE, Int.reduceLT, Int.reduceNeg, Ty.down]
  refine ⟨by kernel_rfl, ?_⟩
  (refine hK _ ?_; try clear hK K)
  refine AWp.seq_k (fun K hK => ?_)
  refine AWp.seq_k (fun K1 hK1 => ?_); refine AWp.regionW G_good ?_; simp (maxSteps := 10000000) only [Ev.down, Nat.reduceBEq, Nat.reduceAdd, Nat.reduceMul, Nat.reduceLT, Nat.reduceLeDiff, Nat.reduceEqDiff, Nat.reduceSub, reduceCtorEq, Int.reduceToNat, Int.reduceLE, Int.reduceLT, Int.reduceNeg, Ty.down, eIntss]
  (refine hK1 _ ?_; try clear hK1 K1)
  by_cases hst : l.stack.length = 0
  · rw [show ((l.stack.length : Int) == 0) = true from by simpa using hst]
    refine AWp.cond (b := true) rfl (fun _ => ?_) (fun h => by cases h)
    refine AWp.seq_k (fun K1 hK1 => ?_); refine AWp.regionW G_good ?_; simp (maxSteps := 10000000) only [Ev.down, Nat.reduceBEq, Nat.reduceAdd, Nat.reduceMul, Nat.reduceLT, Nat.reduceLeDiff, Nat.reduceEqDiff, Nat.reduceSub, reduceCtorEq, Int.reduceToNat, Int.reduceLE, Int.reduceLT, Int.reduceNeg, Ty.down, eInts]
    refine ⟨⟨o_ints _, by omega, by omega⟩, ?_⟩
    refine ⟨⟨rfl, by omega, by omega⟩, ?_⟩
    (refine hK1 _ ?_; try clear hK1 K1)
    refine AWp.seq_k (fun K1 hK1 => ?_); refine AWp.regionW G_good ?_; simp (maxSteps := 10000000) only [Ev.down, Nat.reduceBEq, Nat.reduceAdd, Nat.reduceMul, Nat.reduceLT, Nat.reduceLeDiff, Nat.reduceEqDiff, Nat.reduceSub, reduceCtorEq, Int.reduceToNat, Int.reduceLE, Int.reduceLT, Int.reduceNeg, Ty.down]
    (refine hK1 _ ?_; try clear hK1 K1)
    refine AWp.seq_k (fun K1 hK1 => ?_); refine AWp.regionW G_good ?_; simp (maxSteps := 10000000) only [Ev.down, Nat.reduceBEq, Nat.reduceAdd, Nat.reduceMul, Nat.reduceLT, Nat.reduceLeDiff, Nat.reduceEqDiff, Nat.reduceSub, reduceCtorEq, Int.reduceToNat, Int.reduceLE, Int.reduceLT, Int.reduceNeg, Ty.down]
    (refine hK1 _ ?_; try clear hK1 K1)
    refine AWp.seq_k (fun K1 hK1 => ?_); refine AWp.regionW G_good ?_; simp (maxSteps := 10000000) only [Ev.down, Nat.reduceBEq, Nat.reduceAdd, Nat.reduceMul, Nat.reduceLT, Nat.reduceLeDiff, Nat.reduceEqDiff, Nat.reduceSub, reduceCtorEq, Int.reduceToNat, Int.reduceLE, Int.reduceLT, Int.reduceNeg, Ty.down]
    (refine hK1 _ ?_; try clear hK1 K1)
    rw [show addL l k t = ({ l with todos := l.todos.set k (x ++ [t]), back := l.back ++ [(k : Int)], busy := true }, !l.busy, 0) from by simp [addL, h, hi, hx, List.eq_nil_of_length_eq_zero hst]]
    refine AWp.ret ⟨.inr rfl, RetTo.frozenS [_, _] [340] ⟨⟨60, 0, 0, 4, _, false, _, rfl, rfl, rfl, .full (g26).1 (g26).2.1 rfl rfl rfl⟩, rfl, trivial⟩ rfl ?_⟩
    refine .mk_tup (.cons (.mk_agg (.cons (.same (nr_todoss _)) (.cons (.same (nr_intss _)) (.cons ?_ (.cons (.same rfl) .nil))))) (.cons (.same rfl) .nil))
    exact Cv.fzL (s := 340) (by simp) rfl (w_ints _) ((w_ints l.back).append (w_ints [(k : Int)])) (by simp) (by rw [List.map_append]; exact .same (noRefL_append.trans (by rw [nrl_ints]; rfl)))
  · rw [show ((l.stack.length : Int) == 0) = false from by simpa using hst]
    refine AWp.cond (b := false) rfl (fun h => by cases h) (fun _ => ?_)
    refine AWp.skip ?_
    simp (maxSteps := 10000000) only [Ev.down, Nat.reduceBEq, Nat.reduceAdd, Nat.reduceMul, Nat.reduceLT, Nat.reduceLeDiff, Nat.reduceEqDiff, Nat.reduceSub, reduceCtorEq, Int.reduceToNat, Int.reduceLE, Int.reduceLT, Int.reduceNeg, Ty.down]
    obtain ⟨j, hj⟩ : ∃ j, l.stack.length = j + 1 := ⟨l.stack.length - 1, by omega⟩
    obtain ⟨y, hy⟩ : ∃ y, l.stack[j]? = some y := ⟨_, List.getElem?_eq_getElem (by omega)⟩
    have hw : IntKind.i64.wrap ((l.stack.length : Int) - 1) = (j : Int) := by rw [IntWalk.i64_in _ (by omega)]; omega
    have hyl := hs.st y (List.mem_of_getElem? hy)
    (refine hK _ ?_; try clear hK K)
    refine AWp.seq_k (fun K hK => ?_); refine AWp.regionW G_good ?_; simp (maxSteps := 10000000) only [Ev.down, Nat.reduceBEq, Nat.reduceAdd, Nat.reduceMul, Nat.reduceLT, Nat.reduceLeDiff, Nat.reduceEqDiff, Nat.reduceSub, reduceCtorEq, Int.reduceToNat, Int.reduceLE, Int.reduceLT, Int.reduceNeg, Ty.down, eIntss]
    refine ⟨⟨o_intss _, by omega, by omega⟩, ?_⟩
    (refine hK _ ?_; try clear hK K)
    refine AWp.seq_k (fun K hK => ?_); refine AWp.regionW G_good ?_; simp (maxSteps := 10000000) only [Ev.down, Nat.reduceBEq, Nat.reduceAdd, Nat.reduceMul, Nat.reduceLT, Nat.reduceLeDiff, Nat.reduceEqDiff, Nat.reduceSub, reduceCtorEq, Int.reduceToNat, Int.reduceLE, Int.reduceLT, Int.reduceNeg, Ty.down, hw]
    (refine hK _ ?_; try clear hK K)
    refine AWp.seq_k (fun K hK => ?_); refine AWp.regionW G_good ?_; simp (maxSteps := 10000000) only [Ev.down, Nat.reduceBEq, Nat.reduceAdd, Nat.reduceMul, Nat.reduceLT, Nat.reduceLeDiff, Nat.reduceEqDiff, Nat.reduceSub, reduceCtorEq, Int.reduceToNat, Int.reduceLE, Int.reduceLT, Int.reduceNeg, Ty.down, hy, eInts]
    refine ⟨by omega, ?_⟩ -- index
    refine ⟨⟨o_ints _, by omega, by omega⟩, ?_⟩
    refine ⟨⟨rfl, by omega, by omega⟩, ?_⟩
    refine ⟨by omega, ?_⟩ -- index
    (refine hK _ ?_; try clear hK K)
    refine AWp.seq_k (fun K hK => ?_); refine AWp.regionW G_good ?_; simp (maxSteps := 10000000) only [Ev.down, Nat.reduceBEq, Nat.reduceAdd, Nat.reduceMul, Nat.reduceLT, Nat.reduceLeDiff, Nat.reduceEqDiff, Nat.reduceSub, reduceCtorEq, Int.reduceToNat, Int.reduceLE, Int.reduceLT, Int.reduceNeg, Ty.down]
    (refine hK _ ?_; try clear hK K)
    refine AWp.seq_k (fun K hK => ?_); refine AWp.regionW G_good ?_; simp (maxSteps := 10000000) only [Ev.down, Nat.reduceBEq, Nat.reduceAdd, Nat.reduceMul, Nat.reduceLT, Nat.reduceLeDiff, Nat.reduceEqDiff, Nat.reduceSub, reduceCtorEq, Int.reduceToNat, Int.reduceLE, Int.reduceLT, Int.reduceNeg, Ty.down]
    (refine hK _ ?_; try clear hK K)
    rw [show addL l k t = ({ l with todos := l.todos.set k (x ++ [t]), stack := l.stack.set j (y ++ [(k : Int)]) }, false, 0) from by have := (List.getElem?_eq_some_iff.1 hy).2; simp [addL, h, hi, hx, hj, this]]
    refine AWp.ret ⟨.inr rfl, RetTo.frozenS [_, _] [450, 590] ⟨⟨60, 0, 0, 4, _, false, _, rfl, rfl, rfl, .full (g26).1 (g26).2.1 rfl rfl rfl⟩, rfl, trivial⟩ rfl ?_⟩
    refine .mk_tup (.cons (.mk_agg (.cons (.same (nr_todoss _)) (.cons ?_ (.cons (.same (nr_ints _)) (.cons (.same rfl) .nil))))) (.cons (.same rfl) .nil))
    refine Cv.fzL (s := 450) (by simp) rfl (w_intss _) ((w_intss _).set rfl) (by simp) ?_
    simp only [List.map_set]
    refine (CvL.same (nrl_intss _)).set ?_ j
    exact Cv.fzL (s := 590) (by simp) rfl (w_ints _) ((w_ints y).append (w_ints [(k : Int)])) (by simp) (by rw [List.map_append]; exact .same (noRefL_append.trans (by rw [nrl_ints]; rfl)))
end Go.Proofs.Line
