/- Contracts of functions of the given program (what each computes), conditions as stated in each theorem. By an AI agent. -/
import Derived.Test.YtgfbnphfgeeldaaL4
namespace Go.Proofs.Line
open Go.Am
set_option linter.unusedSimpArgs false
set_option maxRecDepth 100000

def pullL (l : LineM) : LineM × Int × Bool :=
  if rightL l then
    match l.back with
    | [] => ({ l with busy := false }, -1, false)
    | n :: r => ({ l with back := r }, n, true)
  else (l, -1, false)
theorem f19_ok (l : LineM) (hs : Sm 90000 l) : FnOK Try.prog 19 [] [eLine l] [] (.tup [eLine (pullL l).1, .lit (.int .i64 (pullL l).2.1), .lit (.bool (pullL l).2.2)]) := by
  refine FnOK.start (rvs := [.cell 2 26, .tmp 3, .tmp 4]) Try.func19 rfl Try.ntmps19 rfl (by simp) ?_
  simp only [argsS, objsS, Nat.reduceAdd, Nat.zero_add, List.length_nil]
  refine AWp.seq_k (fun K hK => ?_); refine AWp.regionW G_good ?_; simp (maxSteps := 10000000) only [Ev.down, Nat.reduceBEq, Nat.reduceAdd, Nat.reduceMul, Nat.reduceLT, Nat.reduceLeDiff, Nat.reduceEqDiff, Nat.reduceSub, reduceCtorEq, Int.reduceToNat, Int.reduceLE, Int.reduceLT, Int.reduceNeg, Ty.down]
  (refine hK _ ?_; try clear hK K)
  refine AWp.seq_k (fun K hK => ?_)
  refine AWp.block ?_ -- 0
  refine AWp.seq_k (fun K1 hK1 => ?_); refine AWp.regionW G_good ?_; simp (maxSteps := 10000000) only [Ev.down, Nat.reduceBEq, Nat.reduceAdd, Nat.reduceMul, Nat.reduceLT, Nat.reduceLeDiff, Nat.reduceEqDiff, Nat.reduceSub, reduceCtorEq, Int.reduceToNat, Int.reduceLE, Int.reduceLT, Int.reduceNeg, Ty.down]
  refine ByHand.call 80 (f9_ok l hs) (.func rfl rfl) c9 rfl (by simp (maxSteps := 10000000) only [Ev.down, Nat.reduceBEq, Nat.reduceAdd, Nat.reduceMul, Nat.reduceLT, Nat.reduceLeDiff, Nat.reduceEqDiff, Nat.reduceSub, reduceCtorEq, Int.reduceToNat, Int.reduceLE, Int.reduceLT, Int.reduceNeg, Ty.down, noRefL, noRef, Bool.and_self]) rfl rfl trivial rfl ?_
  simp (maxSteps := 10000000) only [Ev.down, Nat.reduceBEq, Nat.reduceAdd, Nat.reduceMul, Nat.reduceLT, Nat.reduceLeDiff, Nat.reduceEqDiff, Nat.reduceSub, reduceCtorEq, Int.reduceToNat, Int.reduceLE, Int.reduceLT, Int.reduceNeg, Ty.down]
  (refine hK1 _ ?_; try clear hK1 K1)
  refine AWp.cond (b := !rightL l) rfl (fun h => ?_) (fun h => ?_)
  ·
    refine AWp.seq_k (fun K1 hK1 => ?_); refine AWp.regionW G_good ?_; simp (maxSteps := 10000000) only [Ev.down, Nat.reduceBEq, Nat.reduceAdd, Nat.reduceMul, Nat.reduceLT, Nat.reduceLeDiff, Nat.reduceEqDiff, Nat.reduceSub, reduceCtorEq, Int.reduceToNat, Int.reduceLE, Int.reduceLT, Int.reduceNeg, Ty.down]
    (refine hK1 _ ?_; try clear hK1 K1)
    rw [show pullL l = (l, -1, false) from by simp at h; simp [pullL, h]]
    refine AWp.ret ⟨.inr rfl, RetTo.plain [_, _, _] ⟨⟨20, 0, 0, 4, _, false, _, rfl, rfl, rfl, .full (g26).1 (g26).2.1 rfl rfl rfl⟩, rfl, rfl, trivial⟩ (by simp only [ret1, noRef, noRefL, nr_line]; rfl)⟩
  ·
    simp at h
    obtain ⟨td, st, bk, bs⟩ := l
    cases bk with
    | nil =>
      refine AWp.seq_k (fun K1 hK1 => ?_); refine AWp.regionW G_good ?_; simp (maxSteps := 10000000) only [Ev.down, Nat.reduceBEq, Nat.reduceAdd, Nat.reduceMul, Nat.reduceLT, Nat.reduceLeDiff, Nat.reduceEqDiff, Nat.reduceSub, reduceCtorEq, Int.reduceToNat, Int.reduceLE, Int.reduceLT, Int.reduceNeg, Ty.down, eInts]
      (refine hK1 _ ?_; try clear hK1 K1)
      refine AWp.cond (b := true) rfl (fun _ => ?_) (fun h2 => by cases h2)
      refine AWp.seq_k (fun K1 hK1 => ?_); refine AWp.regionW G_good ?_; simp (maxSteps := 10000000) only [Ev.down, Nat.reduceBEq, Nat.reduceAdd, Nat.reduceMul, Nat.reduceLT, Nat.reduceLeDiff, Nat.reduceEqDiff, Nat.reduceSub, reduceCtorEq, Int.reduceToNat, Int.reduceLE, Int.reduceLT, Int.reduceNeg, Ty.down]
      (refine hK1 _ ?_; try clear hK1 K1)
      refine AWp.seq_k (fun K1 hK1 => ?_); refine AWp.regionW G_good ?_; simp (maxSteps := 10000000) only [Ev.down, Nat.reduceBEq, Nat.reduceAdd, Nat.reduceMul, Nat.reduceLT, Nat.reduceLeDiff, Nat.reduceEqDiff, Nat.reduceSub, reduceCtorEq, Int.reduceToNat, Int.reduceLE, Int.reduceLT, Int.reduceNeg, Ty.down]
      (refine hK1 _ ?_; try clear hK1 K1)
      rw [show pullL ⟨td, st, [], bs⟩ = (⟨td, st, [], false⟩, -1, false) from by simp [pullL, h]]
      refine AWp.ret ⟨.inr rfl, RetTo.plain [_, _, _] ⟨⟨20, 0, 0, 4, _, false, _, rfl, rfl, rfl, .full (g26).1 (g26).2.1 rfl rfl rfl⟩, rfl, rfl, trivial⟩ (by simp only [ret1, noRef, noRefL, nr_line]; rfl)⟩
    | cons n r =>
      have hbl := hs.back
      simp only [List.length_cons] at hbl
      refine AWp.seq_k (fun K1 hK1 => ?_); refine AWp.regionW G_good ?_; simp (maxSteps := 10000000) only [Ev.down, Nat.reduceBEq, Nat.reduceAdd, Nat.reduceMul, Nat.reduceLT, Nat.reduceLeDiff, Nat.reduceEqDiff, Nat.reduceSub, reduceCtorEq, Int.reduceToNat, Int.reduceLE, Int.reduceLT, Int.reduceNeg, Ty.down, eInts]
      (refine hK1 _ ?_; try clear hK1 K1)
      refine AWp.cond (b := false) (by show AV.lit _ = _; simp; omega) (fun h2 => by cases h2) (fun _ => ?_)
      refine AWp.skip ?_
      simp (maxSteps := 10000000) only [Ev.down, Nat.reduceBEq, Nat.reduceAdd, Nat.reduceMul, Nat.reduceLT, Nat.reduceLeDiff, Nat.reduceEqDiff, Nat.reduceSub, reduceCtorEq, Int.reduceToNat, Int.reduceLE, Int.reduceLT, Int.reduceNeg, Ty.down]
      (refine hK _ ?_; try clear hK K)
      refine AWp.seq_k (fun K hK => ?_); refine AWp.regionW G_good ?_; simp (maxSteps := 10000000) only [Ev.down, Nat.reduceBEq, Nat.reduceAdd, Nat.reduceMul, Nat.reduceLT, Nat.reduceLeDiff, Nat.reduceEqDiff, Nat.reduceSub, reduceCtorEq, Int.reduceToNat, Int.reduceLE, Int.reduceLT, Int.reduceNeg, Ty.down]
      refine ByHand.call 190 (own_s ⟨td, st, n :: r, bs⟩ hs) (.func rfl rfl) c32 rfl (by simp (maxSteps := 10000000) only [Ev.down, Nat.reduceBEq, Nat.reduceAdd, Nat.reduceMul, Nat.reduceLT, Nat.reduceLeDiff, Nat.reduceEqDiff, Nat.reduceSub, reduceCtorEq, Int.reduceToNat, Int.reduceLE, Int.reduceLT, Int.reduceNeg, Ty.down, noRefL, noRef, Bool.and_self]) rfl rfl (own_o _) rfl ?_
      simp (maxSteps := 10000000) only [Ev.down, Nat.reduceBEq, Nat.reduceAdd, Nat.reduceMul, Nat.reduceLT, Nat.reduceLeDiff, Nat.reduceEqDiff, Nat.reduceSub, reduceCtorEq, Int.reduceToNat, Int.reduceLE, Int.reduceLT, Int.reduceNeg, Ty.down]
      (refine hK _ ?_; try clear hK K)
      refine AWp.seq_k (fun K hK => ?_); refine AWp.regionW G_good ?_; simp (maxSteps := 10000000) only [Ev.down, Nat.reduceBEq, Nat.reduceAdd, Nat.reduceMul, Nat.reduceLT, Nat.reduceLeDiff, Nat.reduceEqDiff, Nat.reduceSub, reduceCtorEq, Int.reduceToNat, Int.reduceLE, Int.reduceLT, Int.reduceNeg, Ty.down, eInt]
      refine ⟨by omega, ?_⟩ -- index
      (refine hK _ ?_; try clear hK K)
      refine AWp.seq_k (fun K hK => ?_); refine AWp.regionW G_good ?_; simp (maxSteps := 10000000) only [Ev.down, Nat.reduceBEq, Nat.reduceAdd, Nat.reduceMul, Nat.reduceLT, Nat.reduceLeDiff, Nat.reduceEqDiff, Nat.reduceSub, reduceCtorEq, Int.reduceToNat, Int.reduceLE, Int.reduceLT, Int.reduceNeg, Ty.down]
      refine ⟨by omega, ?_⟩ -- slice
      (refine hK _ ?_; try clear hK K)
      refine AWp.seq_k (fun K hK => ?_); refine AWp.regionW G_good ?_; simp (maxSteps := 10000000) only [Ev.down, Nat.reduceBEq, Nat.reduceAdd, Nat.reduceMul, Nat.reduceLT, Nat.reduceLeDiff, Nat.reduceEqDiff, Nat.reduceSub, reduceCtorEq, Int.reduceToNat, Int.reduceLE, Int.reduceLT, Int.reduceNeg, Ty.down]
      (refine hK _ ?_; try clear hK K)
      rw [show pullL ⟨td, st, n :: r, bs⟩ = (⟨td, st, r, bs⟩, n, true) from by simp [pullL, h]]
      refine AWp.ret ⟨.inr rfl, RetTo.frozenS [_, _, _] [190, 191, 192] ⟨⟨20, 0, 0, 4, _, false, _, rfl, rfl, rfl, .full (g26).1 (g26).2.1 rfl rfl rfl⟩, rfl, rfl, trivial⟩ rfl ?_⟩
      refine .mk_tup (.cons (.mk_agg (.cons ?_ (.cons ?_ (.cons ?_ (.cons (.same rfl) .nil))))) (.cons (.same rfl) (.cons (.same rfl) .nil)))
      · exact Cv.fz (s := 190) (by simp) rfl (w_todoss _) (by simp) (nrl_todos _)
      · exact Cv.fz (s := 191) (by simp) rfl (w_intss _) (by simp) (nrl_intss _)
      · exact Cv.fzCut (s := 192) (by simp) rfl (w_ints (n :: r)) (by simp; omega) (nrl_ints (n :: r)) (by simp [List.take_of_length_le])
def addL (l : LineM) (n : Int) (t : TodoM) : LineM × Bool × Int :=
  if rightL l && inL l n then
    if l.stack.length = 0 then ({ l with todos := l.todos.set n.toNat (l.todos.getD n.toNat [] ++ [t]), back := l.back ++ [n], busy := true }, !l.busy, 0)
    else ({ l with todos := l.todos.set n.toNat (l.todos.getD n.toNat [] ++ [t]), stack := l.stack.set (l.stack.length - 1) (l.stack.getD (l.stack.length - 1) [] ++ [n]) }, false, 0)
  else (l, false, 1)
theorem f13_ok (l : LineM) (n : Int) (t : TodoM) (hs : Sm 90000 l) : FnOK Try.prog 13 [] [eLine l, .lit (.int .i64 n), eTodo t] [] (.tup [eLine (addL l n t).1, .lit (.bool (addL l n t).2.1), .lit (.int .i64 (addL l n t).2.2)]) := by
  refine FnOK.start (rvs := [.cell 6 26, .tmp 7, .tmp 8]) Try.func13 rfl Try.ntmps13 rfl (by simp) ?_
  simp only [argsS, objsS, Nat.reduceAdd, Nat.zero_add, List.length_nil]
  refine AWp.seq_k (fun K hK => ?_); refine AWp.regionW G_good ?_; simp (maxSteps := 10000000) only [Ev.down, Nat.reduceBEq, Nat.reduceAdd, Nat.reduceMul, Nat.reduceLT, Nat.reduceLeDiff, Nat.reduceEqDiff, Nat.reduceSub, reduceCtorEq, Int.reduceToNat, Int.reduceLE, Int.reduceLT, Int.reduceNeg, Ty.down]
  (refine hK _ ?_; try clear hK K)
  refine AWp.seq_k (fun K hK => ?_)
  refine AWp.seq_k (fun K1 hK1 => ?_); refine AWp.regionW G_good ?_; simp (maxSteps := 10000000) only [Ev.down, Nat.reduceBEq, Nat.reduceAdd, Nat.reduceMul, Nat.reduceLT, Nat.reduceLeDiff, Nat.reduceEqDiff, Nat.reduceSub, reduceCtorEq, Int.reduceToNat, Int.reduceLE, Int.reduceLT, Int.reduceNeg, Ty.down]
  refine ByHand.call 120 (f9_ok l hs) (.func rfl rfl) c9 rfl (by simp (maxSteps := 10000000) only [Ev.down, Nat.reduceBEq, Nat.reduceAdd, Nat.reduceMul, Nat.reduceLT, Nat.reduceLeDiff, Nat.reduceEqDiff, Nat.reduceSub, reduceCtorEq, Int.reduceToNat, Int.reduceLE, Int.reduceLT, Int.reduceNeg, Ty.down, noRefL, noRef, Bool.and_self]) rfl rfl trivial rfl ?_
  simp (maxSteps := 10000000) only [Ev.down, Nat.reduceBEq, Nat.reduceAdd, Nat.reduceMul, Nat.reduceLT, Nat.reduceLeDiff, Nat.reduceEqDiff, Nat.reduceSub, reduceCtorEq, Int.reduceToNat, Int.reduceLE, Int.reduceLT, Int.reduceNeg, Ty.down]
  refine wpGx.split (fun h1 => ?_) (fun h1 => ?_)
  · simp at h1
    simp (maxSteps := 10000000) only [Ev.down, Nat.reduceBEq, Nat.reduceAdd, Nat.reduceMul, Nat.reduceLT, Nat.reduceLeDiff, Nat.reduceEqDiff, Nat.reduceSub, reduceCtorEq, Int.reduceToNat, Int.reduceLE, Int.reduceLT, Int.reduceNeg, Ty.down]
    refine ByHand.call 170 (f31_ok l n) (.func rfl rfl) c31 rfl (by simp (maxSteps := 10000000) only [Ev.down, Nat.reduceBEq, Nat.reduceAdd, Nat.reduceMul, Nat.reduceLT, Nat.reduceLeDiff, Nat.reduceEqDiff, Nat.reduceSub, reduceCtorEq, Int.reduceToNat, Int.reduceLE, Int.reduceLT, Int.reduceNeg, Ty.down, noRefL, noRef, Bool.and_self]) rfl rfl trivial rfl ?_
    simp (maxSteps := 10000000) only [Ev.down, Nat.reduceBEq, Nat.reduceAdd, Nat.reduceMul, Nat.reduceLT, Nat.reduceLeDiff, Nat.reduceEqDiff, Nat.reduceSub, reduceCtorEq, Int.reduceToNat, Int.reduceLE, Int.reduceLT, Int.reduceNeg, Ty.down]
    cases h2 : inL l n with
    | false =>
      rw [show (decide (0 ≤ n) && decide (n < l.todos.length)) = false from h2]
      simp (maxSteps := 10000000) only [Ev.down, Nat.reduceBEq, Nat.reduceAdd, Nat.reduceMul, Nat.reduceLT, Nat.reduceLeDiff, Nat.reduceEqDiff, Nat.reduceSub, reduceCtorEq, Int.reduceToNat, Int.reduceLE, Int.reduceLT, Int.reduceNeg, Ty.down]
      (refine hK1 _ ?_; try clear hK1 K1)
      refine AWp.cond (b := true) rfl (fun _ => ?_) (fun h => by cases h)
      refine AWp.seq_k (fun K1 hK1 => ?_); refine AWp.regionW G_good ?_; simp (maxSteps := 10000000) only [Ev.down, Nat.reduceBEq, Nat.reduceAdd, Nat.reduceMul, Nat.reduceLT, Nat.reduceLeDiff, Nat.reduceEqDiff, Nat.reduceSub, reduceCtorEq, Int.reduceToNat, Int.reduceLE, Int.reduceLT, Int.reduceNeg, Ty.down]
      (refine hK1 _ ?_; try clear hK1 K1)
      rw [show addL l n t = (l, false, 1) from by simp [addL, h2]]
      refine AWp.ret ⟨.inr rfl, RetTo.plain [_, _, _] ⟨⟨60, 0, 0, 4, _, false, _, rfl, rfl, rfl, .full (g26).1 (g26).2.1 rfl rfl rfl⟩, rfl, rfl, trivial⟩ (by simp only [ret1, noRef, noRefL, nr_line]; rfl)⟩
    | true =>
      rw [show (decide (0 ≤ n) && decide (n < l.todos.length)) = true from h2]
      obtain ⟨k, rfl, hk⟩ := inL_nat h2
      obtain ⟨x, hx⟩ : ∃ x, l.todos[k]? = some x := ⟨_, List.getElem?_eq_getElem hk⟩
      have hxl := hs.todo x (List.mem_of_getElem? hx)
      simp (maxSteps := 10000000) only [Ev.down, Nat.reduceBEq, Nat.reduceAdd, Nat.reduceMul, Nat.reduceLT, Nat.reduceLeDiff, Nat.reduceEqDiff, Nat.reduceSub, reduceCtorEq, Int.reduceToNat, Int.reduceLE, Int.reduceLT, Int.reduceNeg, Ty.down]
      (refine hK1 _ ?_; try clear hK1 K1)
      refine AWp.cond (b := false) rfl (fun h => by cases h) (fun _ => ?_)
      refine AWp.skip ?_
      simp (maxSteps := 10000000) only [Ev.down, Nat.reduceBEq, Nat.reduceAdd, Nat.reduceMul, Nat.reduceLT, Nat.reduceLeDiff, Nat.reduceEqDiff, Nat.reduceSub, reduceCtorEq, Int.reduceToNat, Int.reduceLE, Int.reduceLT, Int.reduceNeg, Ty.down]
      (refine hK _ ?_; try clear hK K)
      refine AWp.seq_k (fun K hK => ?_); refine AWp.regionW G_good ?_; simp (maxSteps := 10000000) only [Ev.down, Nat.reduceBEq, Nat.reduceAdd, Nat.reduceMul, Nat.reduceLT, Nat.reduceLeDiff, Nat.reduceEqDiff, Nat.reduceSub, reduceCtorEq, Int.reduceToNat, Int.reduceLE, Int.reduceLT, Int.reduceNeg, Ty.down]
      refine ByHand.call 220 (own_s l hs) (.func rfl rfl) c32 rfl (by simp (maxSteps := 10000000) only [Ev.down, Nat.reduceBEq, Nat.reduceAdd, Nat.reduceMul, Nat.reduceLT, Nat.reduceLeDiff, Nat.reduceEqDiff, Nat.reduceSub, reduceCtorEq, Int.reduceToNat, Int.reduceLE, Int.reduceLT, Int.reduceNeg, Ty.down, noRefL, noRef, Bool.and_self]) rfl rfl (own_o l) rfl ?_
      simp (maxSteps := 10000000) only [Ev.down, Nat.reduceBEq, Nat.reduceAdd, Nat.reduceMul, Nat.reduceLT, Nat.reduceLeDiff, Nat.reduceEqDiff, Nat.reduceSub, reduceCtorEq, Int.reduceToNat, Int.reduceLE, Int.reduceLT, Int.reduceNeg, Ty.down]
      (refine hK _ ?_; try clear hK K)
      refine AWp.seq_k (fun K hK => ?_); refine AWp.drawsW G_good Try.checked.mixed (by kernel_rfl) ?_; simp (maxSteps := 10000000) only [Ev.down, Nat.reduceBEq, Nat.reduceAdd, Nat.reduceMul, Nat.reduceLT, Nat.reduceLeDiff, Nat.reduceEqDiff, Nat.reduceSub, reduceCtorEq, Int.reduceToNat, Int.reduceLE, Int.reduceLT, Int.reduceNeg, Ty.down, hx]
      refine ⟨by omega, ?_⟩ -- index
      refine ByHand.call 310 (f34_ok x (by omega)) (.func rfl rfl) c34 rfl (by simp (maxSteps := 10000000) only [Ev.down, Nat.reduceBEq, Nat.reduceAdd, Nat.reduceMul, Nat.reduceLT, Nat.reduceLeDiff, Nat.reduceEqDiff, Nat.reduceSub, reduceCtorEq, Int.reduceToNat, Int.reduceLE, Int.reduceLT, Int.reduceNeg, Ty.down, noRefL, noRef, Bool.and_self]) rfl rfl ⟨w_todos _, nrl_todo _, trivial⟩ rfl ?_
      simp (maxSteps := 10000000) only [Ev.down, Nat.reduceBEq, Nat.reduceAdd, Nat.reduceMul, Nat.reduceLT, Nat.reduceLeDiff, Nat.reduceEqDiff, Nat.reduceSub, reduceCtorEq, Int.reduceToNat, Int.reduceLE, Int.reduceLT, Int.reduceNeg, Ty.down]
      refine ⟨⟨rfl, by omega, by omega⟩, ?_⟩
      simp (maxSteps := 10000000) only [Ev.down, Nat.reduceBEq, Nat.reduceAdd, Nat.reduceMul, Nat.reduceLT, Nat.reduceLeDiff, Nat.reduceEqDiff, Nat.reduceSub, reduceCtorEq, Int.reduceToNat, Int.reduceLE, Int.reduceLT, Int.reduceNeg, Ty.down, hx]
      refine ⟨by omega, ?_⟩ -- index
      refine ⟨by kernel_rfl, ?_⟩
      (refine hK _ ?_; try clear hK K)
      have hw : IntKind.i64.wrap ((l.stack.length : Int) - 1) = (l.stack.length : Int) - 1 := IntWalk.i64_in _ (by have := hs.stack; omega)
      refine AWp.seq_k (fun K hK => ?_); refine AWp.regionW G_good ?_; simp (maxSteps := 10000000) only [Ev.down, Nat.reduceBEq, Nat.reduceAdd, Nat.reduceMul, Nat.reduceLT, Nat.reduceLeDiff, Nat.reduceEqDiff, Nat.reduceSub, reduceCtorEq, Int.reduceToNat, Int.reduceLE, Int.reduceLT, Int.reduceNeg, Ty.down, hw]
      (refine hK _ ?_; try clear hK K)
      refine AWp.seq_k (fun K hK => ?_)
      refine AWp.seq_k (fun K1 hK1 => ?_); refine AWp.regionW G_good ?_; simp (maxSteps := 10000000) only [Ev.down, Nat.reduceBEq, Nat.reduceAdd, Nat.reduceMul, Nat.reduceLT, Nat.reduceLeDiff, Nat.reduceEqDiff, Nat.reduceSub, reduceCtorEq, Int.reduceToNat, Int.reduceLE, Int.reduceLT, Int.reduceNeg, Ty.down]
      (refine hK1 _ ?_; try clear hK1 K1)
      by_cases hst : l.stack.length = 0
      · refine AWp.cond (b := false) (by show AV.lit _ = _; simp; omega) (fun h => by cases h) (fun _ => ?_)
        refine AWp.skip ?_
        simp (maxSteps := 10000000) only [Ev.down, Nat.reduceBEq, Nat.reduceAdd, Nat.reduceMul, Nat.reduceLT, Nat.reduceLeDiff, Nat.reduceEqDiff, Nat.reduceSub, reduceCtorEq, Int.reduceToNat, Int.reduceLE, Int.reduceLT, Int.reduceNeg, Ty.down]
        (refine hK _ ?_; try clear hK K)
        refine AWp.seq_k (fun K hK => ?_); refine AWp.regionW G_good ?_; simp (maxSteps := 10000000) only [Ev.down, Nat.reduceBEq, Nat.reduceAdd, Nat.reduceMul, Nat.reduceLT, Nat.reduceLeDiff, Nat.reduceEqDiff, Nat.reduceSub, reduceCtorEq, Int.reduceToNat, Int.reduceLE, Int.reduceLT, Int.reduceNeg, Ty.down]
        refine ⟨⟨rfl, by have := hs.back; omega, by have := hs.back; omega⟩, ?_⟩
        (refine hK _ ?_; try clear hK K)
        refine AWp.seq_k (fun K hK => ?_); refine AWp.regionW G_good ?_; simp (maxSteps := 10000000) only [Ev.down, Nat.reduceBEq, Nat.reduceAdd, Nat.reduceMul, Nat.reduceLT, Nat.reduceLeDiff, Nat.reduceEqDiff, Nat.reduceSub, reduceCtorEq, Int.reduceToNat, Int.reduceLE, Int.reduceLT, Int.reduceNeg, Ty.down]
        (refine hK _ ?_; try clear hK K)
        refine AWp.seq_k (fun K hK => ?_); refine AWp.regionW G_good ?_; simp (maxSteps := 10000000) only [Ev.down, Nat.reduceBEq, Nat.reduceAdd, Nat.reduceMul, Nat.reduceLT, Nat.reduceLeDiff, Nat.reduceEqDiff, Nat.reduceSub, reduceCtorEq, Int.reduceToNat, Int.reduceLE, Int.reduceLT, Int.reduceNeg, Ty.down]
        (refine hK _ ?_; try clear hK K)
        refine AWp.seq_k (fun K hK => ?_); refine AWp.regionW G_good ?_; simp (maxSteps := 10000000) only [Ev.down, Nat.reduceBEq, Nat.reduceAdd, Nat.reduceMul, Nat.reduceLT, Nat.reduceLeDiff, Nat.reduceEqDiff, Nat.reduceSub, reduceCtorEq, Int.reduceToNat, Int.reduceLE, Int.reduceLT, Int.reduceNeg, Ty.down]
        (refine hK _ ?_; try clear hK K)
        rw [show addL l k t = ({ l with todos := l.todos.set k (x ++ [t]), back := l.back ++ [(k : Int)], busy := true }, !l.busy, 0) from by simp [addL, h1, h2, hx, List.eq_nil_of_length_eq_zero hst]]
        refine AWp.ret ⟨.inr rfl, RetTo.frozenS [_, _, _] [220, 221, 600, 340] ⟨⟨60, 0, 0, 4, _, false, _, rfl, rfl, rfl, .full (g26).1 (g26).2.1 rfl rfl rfl⟩, rfl, rfl, trivial⟩ rfl ?_⟩
        refine .mk_tup (.cons (.mk_agg (.cons ?_ (.cons ?_ (.cons ?_ (.cons (.same rfl) .nil))))) (.cons (.same rfl) (.cons (.same rfl) .nil)))
        · refine Cv.fzL (s := 220) (by simp) rfl (w_todoss _) ((w_todoss _).set rfl) (by simp) ?_
          simp only [List.map_set]
          refine (CvL.same (nrl_todos _)).set ?_ k
          exact Cv.fzL (s := 340) (by simp) rfl (w_todos _) ((w_todos x).append (w_todos [t])) (by simp) (by rw [List.map_append]; exact .same (noRefL_append.trans (by rw [nrl_todo]; rfl)))
        · exact Cv.fz (s := 221) (by simp) rfl (w_intss _) (by simp) (nrl_intss _)
        · exact Cv.fzL (s := 600) (by simp) rfl (w_ints _) ((w_ints l.back).append (w_ints [(k : Int)])) (by simp) (by rw [List.map_append]; exact .same (noRefL_append.trans (by rw [nrl_ints]; rfl)))
      · obtain ⟨j, hj⟩ : ∃ j, l.stack.length = j + 1 := ⟨l.stack.length - 1, by omega⟩
        obtain ⟨y, hy⟩ : ∃ y, l.stack[j]? = some y := ⟨_, List.getElem?_eq_getElem (by omega)⟩
        have hj2 : (l.stack.length : Int) - 1 = (j : Int) := by omega
        rw [hj2]
        refine AWp.cond (b := true) (by show AV.lit _ = _; simp) (fun _ => ?_) (fun h => by cases h)
        refine AWp.seq_k (fun K1 hK1 => ?_); refine AWp.drawsW G_good Try.checked.mixed (by kernel_rfl) ?_; simp (maxSteps := 10000000) only [Ev.down, Nat.reduceBEq, Nat.reduceAdd, Nat.reduceMul, Nat.reduceLT, Nat.reduceLeDiff, Nat.reduceEqDiff, Nat.reduceSub, reduceCtorEq, Int.reduceToNat, Int.reduceLE, Int.reduceLT, Int.reduceNeg, Ty.down, hy]
        refine ⟨by omega, ?_⟩ -- index
        refine ByHand.call 500 (f33_ok y (by have := hs.st y (List.mem_of_getElem? hy); omega)) (.func rfl rfl) c33 rfl (by simp (maxSteps := 10000000) only [Ev.down, Nat.reduceBEq, Nat.reduceAdd, Nat.reduceMul, Nat.reduceLT, Nat.reduceLeDiff, Nat.reduceEqDiff, Nat.reduceSub, reduceCtorEq, Int.reduceToNat, Int.reduceLE, Int.reduceLT, Int.reduceNeg, Ty.down, noRefL, noRef, Bool.and_self]) rfl rfl ⟨w_ints _, nrl_ints _, trivial⟩ rfl ?_
        simp (maxSteps := 10000000) only [Ev.down, Nat.reduceBEq, Nat.reduceAdd, Nat.reduceMul, Nat.reduceLT, Nat.reduceLeDiff, Nat.reduceEqDiff, Nat.reduceSub, reduceCtorEq, Int.reduceToNat, Int.reduceLE, Int.reduceLT, Int.reduceNeg, Ty.down]
        refine ⟨⟨rfl, by have := hs.st y (List.mem_of_getElem? hy); omega, by have := hs.st y (List.mem_of_getElem? hy); omega⟩, ?_⟩
        simp (maxSteps := 10000000) only [Ev.down, Nat.reduceBEq, Nat.reduceAdd, Nat.reduceMul, Nat.reduceLT, Nat.reduceLeDiff, Nat.reduceEqDiff, Nat.reduceSub, reduceCtorEq, Int.reduceToNat, Int.reduceLE, Int.reduceLT, Int.reduceNeg, Ty.down, hy]
        refine ⟨by omega, ?_⟩ -- index
        refine ⟨by kernel_rfl, ?_⟩
        (refine hK1 _ ?_; try clear hK1 K1)
        refine AWp.seq_k (fun K1 hK1 => ?_); refine AWp.regionW G_good ?_; simp (maxSteps := 10000000) only [Ev.down, Nat.reduceBEq, Nat.reduceAdd, Nat.reduceMul, Nat.reduceLT, Nat.reduceLeDiff, Nat.reduceEqDiff, Nat.reduceSub, reduceCtorEq, Int.reduceToNat, Int.reduceLE, Int.reduceLT, Int.reduceNeg, Ty.down]
        (refine hK1 _ ?_; try clear hK1 K1)
        rw [show addL l k t = ({ l with todos := l.todos.set k (x ++ [t]), stack := l.stack.set j (y ++ [(k : Int)]) }, false, 0) from by have := (List.getElem?_eq_some_iff.1 hy).2; simp [addL, h1, h2, hx, hj, this]]
        refine AWp.ret ⟨.inr rfl, RetTo.frozenS [_, _, _] [220, 221, 222, 340, 530] ⟨⟨60, 0, 0, 4, _, false, _, rfl, rfl, rfl, .full (g26).1 (g26).2.1 rfl rfl rfl⟩, rfl, rfl, trivial⟩ rfl ?_⟩
        refine .mk_tup (.cons (.mk_agg (.cons ?_ (.cons ?_ (.cons ?_ (.cons (.same rfl) .nil))))) (.cons (.same rfl) (.cons (.same rfl) .nil)))
        · refine Cv.fzL (s := 220) (by simp) rfl (w_todoss _) ((w_todoss _).set rfl) (by simp) ?_
          simp only [List.map_set]
          refine (CvL.same (nrl_todos _)).set ?_ k
          exact Cv.fzL (s := 340) (by simp) rfl (w_todos _) ((w_todos x).append (w_todos [t])) (by simp) (by rw [List.map_append]; exact .same (noRefL_append.trans (by rw [nrl_todo]; rfl)))
        · refine Cv.fzL (s := 221) (by simp) rfl (w_intss _) ((w_intss _).set rfl) (by simp) ?_
          simp only [List.map_set]
          refine (CvL.same (nrl_intss _)).set ?_ j
          exact Cv.fzL (s := 530) (by simp) rfl (w_ints _) ((w_ints y).append (w_ints [(k : Int)])) (by simp) (by rw [List.map_append]; exact .same (noRefL_append.trans (by rw [nrl_ints]; rfl)))
        · exact Cv.fz (s := 222) (by simp) rfl (w_ints _) (by simp) (nrl_ints _)
  · simp at h1
    simp (maxSteps := 10000000) only [Ev.down, Nat.reduceBEq, Nat.reduceAdd, Nat.reduceMul, Nat.reduceLT, Nat.reduceLeDiff, Nat.reduceEqDiff, Nat.reduceSub, reduceCtorEq, Int.reduceToNat, Int.reduceLE, Int.reduceLT, Int.reduceNeg, Ty.down]
    (refine hK1 _ ?_; try clear hK1 K1)
    refine AWp.cond (b := true) rfl (fun _ => ?_) (fun h => by cases h)
    refine AWp.seq_k (fun K1 hK1 => ?_); refine AWp.regionW G_good ?_; simp (maxSteps := 10000000) only [Ev.down, Nat.reduceBEq, Nat.reduceAdd, Nat.reduceMul, Nat.reduceLT, Nat.reduceLeDiff, Nat.reduceEqDiff, Nat.reduceSub, reduceCtorEq, Int.reduceToNat, Int.reduceLE, Int.reduceLT, Int.reduceNeg, Ty.down]
    (refine hK1 _ ?_; try clear hK1 K1)
    rw [show addL l n t = (l, false, 1) from by simp [addL, h1]]
    refine AWp.ret ⟨.inr rfl, RetTo.plain [_, _, _] ⟨⟨60, 0, 0, 4, _, false, _, rfl, rfl, rfl, .full (g26).1 (g26).2.1 rfl rfl rfl⟩, rfl, rfl, trivial⟩ (by simp only [ret1, noRef, noRefL, nr_line]; rfl)⟩
end Go.Proofs.Line
