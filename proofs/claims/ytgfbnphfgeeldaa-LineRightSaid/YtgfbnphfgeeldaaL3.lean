/- Contracts of functions of the given program (what each computes), conditions as stated in each theorem. By an AI agent. -/
import Derived.Test.YtgfbnphfgeeldaaL2b
namespace Go.Proofs.Line
open Go.Am
set_option linter.unusedSimpArgs false
set_option maxRecDepth 100000
def ownS (t s b : List AV) : List MS := [.live 1 t false, .live 1 s false, .live 1 b false]
theorem own_s (l : LineM) (hs : Sm 90000 l) : FnOK Try.prog 32 [] [eLine l] [.live 1 (l.todos.map eTodos) false, .live 1 (l.stack.map eInts) false, .live 1 (l.back.map eInt) false] (.agg [.own 0 0 l.todos.length, .own 1 0 l.stack.length, .own 2 0 l.back.length, .lit (.bool l.busy)]) :=
  f32_ok l (by have := hs.todos; omega) (by have := hs.stack; omega) (by have := hs.back; omega)
theorem own_o (l : LineM) : okOuts [.live 1 (l.todos.map eTodos) false, .live 1 (l.stack.map eInts) false, .live 1 (l.back.map eInt) false] := ⟨w_todoss _, nrl_todos _, w_intss _, nrl_intss _, w_ints _, nrl_ints _, trivial⟩

def idleL (l : LineM) : Bool := !l.busy && decide (l.stack.length = 0) && decide (l.back.length = 0) && !(l.todos.any fun x => decide (0 < x.length))
theorem f20_ok (l : LineM) (hs : Sm 90000 l) : FnOK Try.prog 20 [] [eLine l] [] (.lit (.bool (idleL l))) := by
  refine FnOK.start (rvs := [.tmp 2]) Try.func20 rfl Try.ntmps20 rfl (by simp) ?_
  simp only [argsS, objsS, Nat.reduceAdd, Nat.zero_add, List.length_nil]
  refine AWp.seq_k (fun K hK => ?_); refine AWp.regionW G_good ?_; simp (maxSteps := 10000000) only [Ev.down, Nat.reduceBEq, Nat.reduceAdd, Nat.reduceMul, Nat.reduceLT, Nat.reduceLeDiff, Nat.reduceEqDiff, Nat.reduceSub, reduceCtorEq, Int.reduceToNat, Int.reduceLE, Int.reduceLT, Int.reduceNeg, Ty.down]
  (refine hK _ ?_; try clear hK K)
  refine AWp.seq_k (fun K hK => ?_); refine AWp.regionW G_good ?_; simp (maxSteps := 10000000) only [Ev.down, Nat.reduceBEq, Nat.reduceAdd, Nat.reduceMul, Nat.reduceLT, Nat.reduceLeDiff, Nat.reduceEqDiff, Nat.reduceSub, reduceCtorEq, Int.reduceToNat, Int.reduceLE, Int.reduceLT, Int.reduceNeg, Ty.down]
  (refine hK _ ?_; try clear hK K)
  simp only [eLine]
  refine AWp.seq_k (fun K hK => ?_); refine AWp.regionW G_good ?_; simp (maxSteps := 10000000) only [Ev.down, Nat.reduceBEq, Nat.reduceAdd, Nat.reduceMul, Nat.reduceLT, Nat.reduceLeDiff, Nat.reduceEqDiff, Nat.reduceSub, reduceCtorEq, Int.reduceToNat, Int.reduceLE, Int.reduceLT, Int.reduceNeg, Ty.down, eTodoss, eIntss, eInts]
  have fin : ∀ (b : Bool) (sl m), lookS sl 2 = .lit (.bool b) → b = idleL l → K (St sl m) := fun b sl m h h2 => by
    refine hK _ ?_
    refine AWp.ret ⟨.inr rfl, RetTo.one ?_ rfl⟩
    rw [h, h2]
  clear hK
  refine wpGx.split (fun h => ?_) (fun h => ?_)
  · simp (maxSteps := 10000000) only [Ev.down, Nat.reduceBEq, Nat.reduceAdd, Nat.reduceMul, Nat.reduceLT, Nat.reduceLeDiff, Nat.reduceEqDiff, Nat.reduceSub, reduceCtorEq, Int.reduceToNat, Int.reduceLE, Int.reduceLT, Int.reduceNeg, Ty.down]
    refine wpGx.split (fun h => ?_) (fun h => ?_)
    · simp (maxSteps := 10000000) only [Ev.down, Nat.reduceBEq, Nat.reduceAdd, Nat.reduceMul, Nat.reduceLT, Nat.reduceLeDiff, Nat.reduceEqDiff, Nat.reduceSub, reduceCtorEq, Int.reduceToNat, Int.reduceLE, Int.reduceLT, Int.reduceNeg, Ty.down]
      refine wpGx.split (fun h => ?_) (fun h => ?_)
      · simp (maxSteps := 10000000) only [Ev.down, Nat.reduceBEq, Nat.reduceAdd, Nat.reduceMul, Nat.reduceLT, Nat.reduceLeDiff, Nat.reduceEqDiff, Nat.reduceSub, reduceCtorEq, Int.reduceToNat, Int.reduceLE, Int.reduceLT, Int.reduceNeg, Ty.down]
        refine ByHand.call 230 (f37_ok l.todos 36 (fun x => decide (0 < x.length)) (by have := hs.todos; omega) c36 f36_ok) (.func rfl rfl) c37 rfl (by simp only [noRefL, noRef, nrl_todos, eTodoss, Bool.and_self, Bool.true_and]) rfl rfl trivial rfl ?_
        simp (maxSteps := 10000000) only [Ev.down, Nat.reduceBEq, Nat.reduceAdd, Nat.reduceMul, Nat.reduceLT, Nat.reduceLeDiff, Nat.reduceEqDiff, Nat.reduceSub, reduceCtorEq, Int.reduceToNat, Int.reduceLE, Int.reduceLT, Int.reduceNeg, Ty.down]
        refine fin _ _ _ rfl ?_
        simp_all [idleL]
      · simp (maxSteps := 10000000) only [Ev.down, Nat.reduceBEq, Nat.reduceAdd, Nat.reduceMul, Nat.reduceLT, Nat.reduceLeDiff, Nat.reduceEqDiff, Nat.reduceSub, reduceCtorEq, Int.reduceToNat, Int.reduceLE, Int.reduceLT, Int.reduceNeg, Ty.down]
        refine fin _ _ _ rfl ?_
        simp_all [idleL]
    · simp (maxSteps := 10000000) only [Ev.down, Nat.reduceBEq, Nat.reduceAdd, Nat.reduceMul, Nat.reduceLT, Nat.reduceLeDiff, Nat.reduceEqDiff, Nat.reduceSub, reduceCtorEq, Int.reduceToNat, Int.reduceLE, Int.reduceLT, Int.reduceNeg, Ty.down]
      refine fin _ _ _ rfl ?_
      simp_all [idleL]
  · simp (maxSteps := 10000000) only [Ev.down, Nat.reduceBEq, Nat.reduceAdd, Nat.reduceMul, Nat.reduceLT, Nat.reduceLeDiff, Nat.reduceEqDiff, Nat.reduceSub, reduceCtorEq, Int.reduceToNat, Int.reduceLE, Int.reduceLT, Int.reduceNeg, Ty.down]
    refine fin _ _ _ rfl ?_
    simp_all [idleL]

def growL (l : LineM) : LineM := { l with todos := l.todos ++ [[]] }
theorem f22_ok (l : LineM) (hs : Sm 90000 l) : FnOK Try.prog 22 [] [eLine l] [] (eLine (growL l)) := by
  refine FnOK.start (rvs := [.cell 2 26]) Try.func22 rfl Try.ntmps22 rfl (by simp) ?_
  simp only [argsS, objsS, Nat.reduceAdd, Nat.zero_add, List.length_nil]
  refine AWp.seq_k (fun K hK => ?_); refine AWp.regionW G_good ?_; simp (maxSteps := 10000000) only [Ev.down, Nat.reduceBEq, Nat.reduceAdd, Nat.reduceMul, Nat.reduceLT, Nat.reduceLeDiff, Nat.reduceEqDiff, Nat.reduceSub, reduceCtorEq, Int.reduceToNat, Int.reduceLE, Int.reduceLT, Int.reduceNeg, Ty.down]
  (refine hK _ ?_; try clear hK K)
  refine AWp.seq_k (fun K hK => ?_); refine AWp.regionW G_good ?_; simp (maxSteps := 10000000) only [Ev.down, Nat.reduceBEq, Nat.reduceAdd, Nat.reduceMul, Nat.reduceLT, Nat.reduceLeDiff, Nat.reduceEqDiff, Nat.reduceSub, reduceCtorEq, Int.reduceToNat, Int.reduceLE, Int.reduceLT, Int.reduceNeg, Ty.down]
  refine ByHand.call 40 (own_s l hs) (.func rfl rfl) c32 rfl (by simp (maxSteps := 10000000) only [Ev.down, Nat.reduceBEq, Nat.reduceAdd, Nat.reduceMul, Nat.reduceLT, Nat.reduceLeDiff, Nat.reduceEqDiff, Nat.reduceSub, reduceCtorEq, Int.reduceToNat, Int.reduceLE, Int.reduceLT, Int.reduceNeg, Ty.down, noRefL, noRef, Bool.and_self]) rfl rfl (own_o l) rfl ?_
  simp (maxSteps := 10000000) only [Ev.down, Nat.reduceBEq, Nat.reduceAdd, Nat.reduceMul, Nat.reduceLT, Nat.reduceLeDiff, Nat.reduceEqDiff, Nat.reduceSub, reduceCtorEq, Int.reduceToNat, Int.reduceLE, Int.reduceLT, Int.reduceNeg, Ty.down]
  (refine hK _ ?_; try clear hK K)
  refine AWp.seq_k (fun K hK => ?_); refine AWp.regionW G_good ?_; simp (maxSteps := 10000000) only [Ev.down, Nat.reduceBEq, Nat.reduceAdd, Nat.reduceMul, Nat.reduceLT, Nat.reduceLeDiff, Nat.reduceEqDiff, Nat.reduceSub, reduceCtorEq, Int.reduceToNat, Int.reduceLE, Int.reduceLT, Int.reduceNeg, Ty.down]
  refine ⟨⟨rfl, by have := hs.todos; omega, by have := hs.todos; omega⟩, ?_⟩
  (refine hK _ ?_; try clear hK K)
  refine AWp.seq_k (fun K hK => ?_); refine AWp.regionW G_good ?_; simp (maxSteps := 10000000) only [Ev.down, Nat.reduceBEq, Nat.reduceAdd, Nat.reduceMul, Nat.reduceLT, Nat.reduceLeDiff, Nat.reduceEqDiff, Nat.reduceSub, reduceCtorEq, Int.reduceToNat, Int.reduceLE, Int.reduceLT, Int.reduceNeg, Ty.down]
  (refine hK _ ?_; try clear hK K)
  refine AWp.ret ⟨.inr rfl, RetTo.frozen [_] [80, 41, 42] ⟨⟨20, 0, 0, 4, _, false, _, rfl, rfl, rfl, .full (g26).1 (g26).2.1 rfl rfl rfl⟩, trivial⟩ ?_ ?_⟩
  · intro s hs
    simp only [List.mem_cons, List.not_mem_nil, or_false] at hs
    rcases hs with rfl | rfl | rfl <;> exact ⟨_, _, _, rfl⟩
  · refine .mk_agg (.cons ?_ (.cons ?_ (.cons ?_ (.cons (.same rfl) .nil))))
    · exact Cv.fzL (s := 80) (by simp) rfl (w_todoss _) ((w_todoss _).append (.cons rfl (.nil _))) (by simp [growL]) (by
        simp only [growL, List.map_append]
        exact (CvL.same (nrl_todos _)).append (.cons .nil .nil))
    · exact Cv.fz (s := 41) (by simp) rfl (w_intss _) (by simp [growL]) (nrl_intss _)
    · exact Cv.fz (s := 42) (by simp) rfl (w_ints _) (by simp [growL]) (nrl_ints _)

def openL (l : LineM) : LineM := { l with stack := l.stack ++ [[]] }
theorem f11_ok (l : LineM) (hs : Sm 90000 l) : FnOK Try.prog 11 [] [eLine l] [] (eLine (openL l)) := by
  refine FnOK.start (rvs := [.cell 2 26]) Try.func11 rfl Try.ntmps11 rfl (by simp) ?_
  simp only [argsS, objsS, Nat.reduceAdd, Nat.zero_add, List.length_nil]
  refine AWp.seq_k (fun K hK => ?_); refine AWp.regionW G_good ?_; simp (maxSteps := 10000000) only [Ev.down, Nat.reduceBEq, Nat.reduceAdd, Nat.reduceMul, Nat.reduceLT, Nat.reduceLeDiff, Nat.reduceEqDiff, Nat.reduceSub, reduceCtorEq, Int.reduceToNat, Int.reduceLE, Int.reduceLT, Int.reduceNeg, Ty.down]
  (refine hK _ ?_; try clear hK K)
  refine AWp.seq_k (fun K hK => ?_); refine AWp.regionW G_good ?_; simp (maxSteps := 10000000) only [Ev.down, Nat.reduceBEq, Nat.reduceAdd, Nat.reduceMul, Nat.reduceLT, Nat.reduceLeDiff, Nat.reduceEqDiff, Nat.reduceSub, reduceCtorEq, Int.reduceToNat, Int.reduceLE, Int.reduceLT, Int.reduceNeg, Ty.down]
  refine ByHand.call 40 (own_s l hs) (.func rfl rfl) c32 rfl (by simp (maxSteps := 10000000) only [Ev.down, Nat.reduceBEq, Nat.reduceAdd, Nat.reduceMul, Nat.reduceLT, Nat.reduceLeDiff, Nat.reduceEqDiff, Nat.reduceSub, reduceCtorEq, Int.reduceToNat, Int.reduceLE, Int.reduceLT, Int.reduceNeg, Ty.down, noRefL, noRef, Bool.and_self]) rfl rfl (own_o l) rfl ?_
  simp (maxSteps := 10000000) only [Ev.down, Nat.reduceBEq, Nat.reduceAdd, Nat.reduceMul, Nat.reduceLT, Nat.reduceLeDiff, Nat.reduceEqDiff, Nat.reduceSub, reduceCtorEq, Int.reduceToNat, Int.reduceLE, Int.reduceLT, Int.reduceNeg, Ty.down]
  (refine hK _ ?_; try clear hK K)
  refine AWp.seq_k (fun K hK => ?_); refine AWp.regionW G_good ?_; simp (maxSteps := 10000000) only [Ev.down, Nat.reduceBEq, Nat.reduceAdd, Nat.reduceMul, Nat.reduceLT, Nat.reduceLeDiff, Nat.reduceEqDiff, Nat.reduceSub, reduceCtorEq, Int.reduceToNat, Int.reduceLE, Int.reduceLT, Int.reduceNeg, Ty.down]
  refine ⟨⟨rfl, by have := hs.stack; omega, by have := hs.stack; omega⟩, ?_⟩
  (refine hK _ ?_; try clear hK K)
  refine AWp.seq_k (fun K hK => ?_); refine AWp.regionW G_good ?_; simp (maxSteps := 10000000) only [Ev.down, Nat.reduceBEq, Nat.reduceAdd, Nat.reduceMul, Nat.reduceLT, Nat.reduceLeDiff, Nat.reduceEqDiff, Nat.reduceSub, reduceCtorEq, Int.reduceToNat, Int.reduceLE, Int.reduceLT, Int.reduceNeg, Ty.down]
  (refine hK _ ?_; try clear hK K)
  refine AWp.ret ⟨.inr rfl, RetTo.frozen [_] [80, 40, 42] ⟨⟨20, 0, 0, 4, _, false, _, rfl, rfl, rfl, .full (g26).1 (g26).2.1 rfl rfl rfl⟩, trivial⟩ ?_ ?_⟩
  · intro s hs
    simp only [List.mem_cons, List.not_mem_nil, or_false] at hs
    rcases hs with rfl | rfl | rfl <;> exact ⟨_, _, _, rfl⟩
  · refine .mk_agg (.cons ?_ (.cons ?_ (.cons ?_ (.cons (.same rfl) .nil))))
    · exact Cv.fz (s := 40) (by simp) rfl (w_todoss _) (by simp [openL]) (nrl_todos _)
    · exact Cv.fzL (s := 80) (by simp) rfl (w_intss _) ((w_intss _).append (.cons rfl (.nil _))) (by simp [openL]) (by
        simp only [openL, List.map_append]
        exact (CvL.same (nrl_intss _)).append (.cons .nil .nil))
    · exact Cv.fz (s := 42) (by simp) rfl (w_ints _) (by simp [openL]) (nrl_ints _)
end Go.Proofs.Line
