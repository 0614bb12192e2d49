/- Contracts of functions of the given program (what each computes), conditions as stated in each theorem. By an AI agent. -/
import Derived.Test.YtgfbnphfgeeldaaL5
import Derived.Test.YtgfbnphfgeeldaaAm18
namespace Go.Proofs.Line
open Go.Am
set_option linter.unusedSimpArgs false
set_option maxRecDepth 100000
def todoEq (t u : TodoM) : Bool := (t.kind == u.kind) && ((t.dfn == u.dfn) && ((t.name.toList == u.name.toList) && ((t.had == u.had) && ((t.has == u.has) && ((t.old.toList == u.old.toList) && ((t.new.toList == u.new.toList) && ((t.fr == u.fr) && ((t.to == u.to) && (t.on == u.on)))))))))
theorem todo_eq (t u : TodoM) (w : World) : (Op.equalIn 10000 28 (.agg #[.int .i64 t.kind, .int .i64 t.dfn, .string t.name, .bool t.had, .bool t.has, .string t.old, .string t.new, .int .i64 t.fr, .int .i64 t.to, .bool t.on]) (.agg #[.int .i64 u.kind, .int .i64 u.dfn, .string u.name, .bool u.had, .bool u.has, .string u.old, .string u.new, .int .i64 u.fr, .int .i64 u.to, .bool u.on])).run Try.prog w = .ok (todoEq t u) w := by
  have hS : Try.prog.underlying 28 = some (.struct (Try.prog.fieldsOf 28)) := by kernel_rfl
  have hp : Try.prog.stoodInHeld 28 = false := by kernel_rfl
  have u3 := Try.underlying3
  have a3 := Try.isAgg3
  have z3 := Try.sizeOf3
  have u4 := Try.underlying4
  have a4 := Try.isAgg4
  have z4 := Try.sizeOf4
  have u9 := Try.underlying9
  have a9 := Try.isAgg9
  have z9 := Try.sizeOf9
  rw [show (10000 : Nat) = 9999 + 1 from rfl, run_equalIn_agg w 9999 28 _ _ hS hp]
  simp only [Program.fieldsOf, Try.underlying28]
  go_simp
  clear hS hp u3 a3 z3 u4 a4 z4 u9 a9 z9
  unfold todoEq
  by_cases h1 : t.kind = u.kind <;> by_cases h2 : t.dfn = u.dfn <;> by_cases h3 : t.name.toList = u.name.toList <;> simp [h1, h2, h3]
  by_cases h1 : t.had = u.had <;> by_cases h2 : t.has = u.has <;> by_cases h3 : t.old.toList = u.old.toList <;> simp [h1, h2, h3]
  by_cases h1 : t.new.toList = u.new.toList <;> by_cases h2 : t.fr = u.fr <;> by_cases h3 : t.to = u.to <;> simp [h1, h2, h3]
  by_cases h1 : t.on = u.on <;> simp [h1]
theorem bytes_inj {a b : ByteArray} (h : a.toList = b.toList) : a = b := by
  rw [ByteArray.toList_eq, ByteArray.toList_eq] at h
  cases a; cases b
  simp only [ByteArray.mk.injEq]
  exact Array.toList_inj.1 h
theorem todoEq_iff (t u : TodoM) : todoEq t u = decide (t = u) := by
  rw [Bool.eq_iff_iff, decide_eq_true_eq]
  unfold todoEq
  simp only [Bool.and_eq_true, beq_iff_eq]
  constructor
  · rintro ⟨a, b, c, d, e, f, g, h, i, j⟩
    cases t; cases u
    simp only at *
    subst a; subst b; subst d; subst e; subst h; subst i; subst j
    rw [bytes_inj c, bytes_inj f, bytes_inj g]
  · rintro rfl; simp

theorem list_eq_of {α : Type} {a b : List α} (hl : a.length = b.length) (h : ∀ j, j < a.length → a[j]? = b[j]?) : a = b := by
  apply List.ext_getElem?
  intro j
  by_cases hj : j < a.length
  · exact h j hj
  · rw [List.getElem?_eq_none (by omega), List.getElem?_eq_none (by omega)]
theorem todo_neq (t u : TodoM) (w : World) {y z : Operand} : ((do eqGuard .neq 28 y z (.agg #[.int .i64 t.kind, .int .i64 t.dfn, .string t.name, .bool t.had, .bool t.has, .string t.old, .string t.new, .int .i64 t.fr, .int .i64 t.to, .bool t.on]) (.agg #[.int .i64 u.kind, .int .i64 u.dfn, .string u.name, .bool u.had, .bool u.has, .string u.old, .string u.new, .int .i64 u.fr, .int .i64 u.to, .bool u.on]); binOp .neq 28 (.agg #[.int .i64 t.kind, .int .i64 t.dfn, .string t.name, .bool t.had, .bool t.has, .string t.old, .string t.new, .int .i64 t.fr, .int .i64 t.to, .bool t.on]) (.agg #[.int .i64 u.kind, .int .i64 u.dfn, .string u.name, .bool u.had, .bool u.has, .string u.old, .string u.new, .int .i64 u.fr, .int .i64 u.to, .bool u.on]) : Sem Value)).run Try.prog w = .ok (.bool (!(decide (t = u)))) w := by
  rw [Sem.run_bind, run_eqGuard_agg w .neq 28 y z _ _ (by kernel_rfl), Result.andThen_ok, run_neq_struct, todo_eq, todoEq_iff]; rfl
theorem todo_eql (t u : TodoM) (w : World) {y z : Operand} : ((do eqGuard .eql 28 y z (.agg #[.int .i64 t.kind, .int .i64 t.dfn, .string t.name, .bool t.had, .bool t.has, .string t.old, .string t.new, .int .i64 t.fr, .int .i64 t.to, .bool t.on]) (.agg #[.int .i64 u.kind, .int .i64 u.dfn, .string u.name, .bool u.had, .bool u.has, .string u.old, .string u.new, .int .i64 u.fr, .int .i64 u.to, .bool u.on]); binOp .eql 28 (.agg #[.int .i64 t.kind, .int .i64 t.dfn, .string t.name, .bool t.had, .bool t.has, .string t.old, .string t.new, .int .i64 t.fr, .int .i64 t.to, .bool t.on]) (.agg #[.int .i64 u.kind, .int .i64 u.dfn, .string u.name, .bool u.had, .bool u.has, .string u.old, .string u.new, .int .i64 u.fr, .int .i64 u.to, .bool u.on]) : Sem Value)).run Try.prog w = .ok (.bool (decide (t = u))) w := by
  rw [Sem.run_bind, run_eqGuard_agg w .eql 28 y z _ _ (by kernel_rfl), Result.andThen_ok, run_eql_struct, todo_eq, todoEq_iff]; rfl
theorem f14_ok (x y : List Int) (hl : x.length ≤ 100000) : FnOK Try.prog 14 [] [eInts x, eInts y] [] (.lit (.bool (decide (x = y)))) := by
  refine FnOK.start (rvs := [.tmp 4]) Try.func14 rfl Try.ntmps14 rfl (by simp) ?_
  simp only [argsS, objsS, Nat.reduceAdd, Nat.zero_add, List.length_nil]
  refine AWp.seq_k (fun K hK => ?_); refine AWp.regionW G_good ?_; simp (maxSteps := 10000000) only [Ev.down, Nat.reduceBEq, Nat.reduceAdd, Nat.reduceMul, Nat.reduceLT, Nat.reduceLeDiff, Nat.reduceEqDiff, Nat.reduceSub, reduceCtorEq, Int.reduceToNat, Int.reduceLE, Int.reduceLT, Int.reduceNeg, Ty.down]
  (refine hK _ ?_; try clear hK K)
  refine AWp.seq_k (fun K hK => ?_)
  refine AWp.seq_k (fun K1 hK1 => ?_); refine AWp.regionW G_good ?_; simp (maxSteps := 10000000) only [Ev.down, Nat.reduceBEq, Nat.reduceAdd, Nat.reduceMul, Nat.reduceLT, Nat.reduceLeDiff, Nat.reduceEqDiff, Nat.reduceSub, reduceCtorEq, Int.reduceToNat, Int.reduceLE, Int.reduceLT, Int.reduceNeg, Ty.down, eInts]
  (refine hK1 _ ?_; try clear hK1 K1)
  refine AWp.cond (b := !((x.length : Int) == (y.length : Int))) rfl (fun h => ?_) (fun h => ?_)
  ·
    refine AWp.seq_k (fun K1 hK1 => ?_); refine AWp.regionW G_good ?_; simp (maxSteps := 10000000) only [Ev.down, Nat.reduceBEq, Nat.reduceAdd, Nat.reduceMul, Nat.reduceLT, Nat.reduceLeDiff, Nat.reduceEqDiff, Nat.reduceSub, reduceCtorEq, Int.reduceToNat, Int.reduceLE, Int.reduceLT, Int.reduceNeg, Ty.down]
    (refine hK1 _ ?_; try clear hK1 K1)
    refine AWp.ret ⟨.inr rfl, RetTo.one ?_ rfl⟩
    simp at h
    rw [show decide (x = y) = false from decide_eq_false (by rintro rfl; exact h rfl)]; rfl
  ·
    have hxy : x.length = y.length := by simp at h; omega
    refine AWp.skip ?_
    simp (maxSteps := 10000000) only [Ev.down, Nat.reduceBEq, Nat.reduceAdd, Nat.reduceMul, Nat.reduceLT, Nat.reduceLeDiff, Nat.reduceEqDiff, Nat.reduceSub, reduceCtorEq, Int.reduceToNat, Int.reduceLE, Int.reduceLT, Int.reduceNeg, Ty.down]
    (refine hK _ ?_; try clear hK K)
    refine AWp.seq_k (fun K hK => ?_)
    refine AWp.seq_k (fun K1 hK1 => ?_); refine AWp.regionW G_good ?_; simp (maxSteps := 10000000) only [Ev.down, Nat.reduceBEq, Nat.reduceAdd, Nat.reduceMul, Nat.reduceLT, Nat.reduceLeDiff, Nat.reduceEqDiff, Nat.reduceSub, reduceCtorEq, Int.reduceToNat, Int.reduceLE, Int.reduceLT, Int.reduceNeg, Ty.down]
    (refine hK1 _ ?_; try clear hK1 K1)
    refine AWp.block ?_ -- 0
    refine AWp.loopF (ι := Nat) (fun k => St [(0, .sl 1 (x.map eInt)), (1, .sl 1 (y.map eInt)), (5, .lit (.int .i64 k))] []) (fun k => k ≤ x.length ∧ ∀ j, j < k → x[j]? = y[j]?) (fun k => x.length - k) 0 ⟨Nat.zero_le _, by simp⟩ ?_ ?_
    · exact Sits.pick (by simp only [allS, allM, Ev.down, Nat.reduceBEq, Nat.reduceAdd, Nat.reduceMul, Nat.reduceLT, Nat.reduceLeDiff, Nat.reduceEqDiff, Nat.reduceSub, reduceCtorEq, Int.reduceToNat, Int.reduceLE, Int.reduceLT, Int.reduceNeg, Ty.down, refOK, refOKL, refMS, wideMS, noRef, noRefL, List.contains_cons, List.contains_nil, Bool.or_false, Bool.or_true, Bool.true_or, List.nodup_cons, List.nodup_nil, List.mem_cons, List.not_mem_nil, or_false, not_false_eq_true, not_true_eq_false, Bool.or_self, Wide.cons_iff, Wide.nil_iff]) (by simp only [allS, allM, Ev.down, Nat.reduceBEq, Nat.reduceAdd, Nat.reduceMul, Nat.reduceLT, Nat.reduceLeDiff, Nat.reduceEqDiff, Nat.reduceSub, reduceCtorEq, Int.reduceToNat, Int.reduceLE, Int.reduceLT, Int.reduceNeg, Ty.down, refOK, refOKL, refMS, wideMS, noRef, noRefL, List.contains_cons, List.contains_nil, Bool.or_false, Bool.or_true, Bool.true_or, List.nodup_cons, List.nodup_nil, List.mem_cons, List.not_mem_nil, or_false, not_false_eq_true, not_true_eq_false, Bool.or_self, Wide.cons_iff, Wide.nil_iff]) (by simp only [allS, allM, Ev.down, Nat.reduceBEq, Nat.reduceAdd, Nat.reduceMul, Nat.reduceLT, Nat.reduceLeDiff, Nat.reduceEqDiff, Nat.reduceSub, reduceCtorEq, Int.reduceToNat, Int.reduceLE, Int.reduceLT, Int.reduceNeg, Ty.down, refOK, refOKL, refMS, wideMS, noRef, noRefL, List.contains_cons, List.contains_nil, Bool.or_false, Bool.or_true, Bool.true_or, List.nodup_cons, List.nodup_nil, List.mem_cons, List.not_mem_nil, or_false, not_false_eq_true, not_true_eq_false, Bool.or_self, Wide.cons_iff, Wide.nil_iff])
    rintro k ⟨hk, hinv⟩
    refine AWp.seq_k (fun K1 hK1 => ?_)
    refine AWp.seq_k (fun K2 hK2 => ?_); refine AWp.regionW G_good ?_; simp (maxSteps := 10000000) only [Ev.down, Nat.reduceBEq, Nat.reduceAdd, Nat.reduceMul, Nat.reduceLT, Nat.reduceLeDiff, Nat.reduceEqDiff, Nat.reduceSub, reduceCtorEq, Int.reduceToNat, Int.reduceLE, Int.reduceLT, Int.reduceNeg, Ty.down]
    (refine hK2 _ ?_; try clear hK2 K2)
    refine AWp.cond (b := decide ((k : Int) < x.length)) rfl (fun h => ?_) (fun h => ?_)
    ·
      refine AWp.skip ?_
      simp (maxSteps := 10000000) only [Ev.down, Nat.reduceBEq, Nat.reduceAdd, Nat.reduceMul, Nat.reduceLT, Nat.reduceLeDiff, Nat.reduceEqDiff, Nat.reduceSub, reduceCtorEq, Int.reduceToNat, Int.reduceLE, Int.reduceLT, Int.reduceNeg, Ty.down]
      have hk' : k < x.length := by simpa using h
      obtain ⟨n, hn⟩ : ∃ n, x[k]? = some n := ⟨_, List.getElem?_eq_getElem hk'⟩
      obtain ⟨m, hm⟩ : ∃ m, y[k]? = some m := ⟨_, List.getElem?_eq_getElem (by omega)⟩
      (refine hK1 _ ?_; try clear hK1 K1)
      refine AWp.seq_k (fun K1 hK1 => ?_)
      refine AWp.block ?_ -- 1
      refine AWp.seq_k (fun K2 hK2 => ?_); refine AWp.drawsW G_good Try.checked.mixed (by kernel_rfl) ?_; simp (maxSteps := 10000000) only [Ev.down, Nat.reduceBEq, Nat.reduceAdd, Nat.reduceMul, Nat.reduceLT, Nat.reduceLeDiff, Nat.reduceEqDiff, Nat.reduceSub, reduceCtorEq, Int.reduceToNat, Int.reduceLE, Int.reduceLT, Int.reduceNeg, Ty.down, hn, hm, eInt]
      refine ⟨by kernel_rfl, ?_⟩
      (refine hK2 _ ?_; try clear hK2 K2)
      refine AWp.cond (b := !(n == m)) rfl (fun h => ?_) (fun h => ?_)
      ·
        refine AWp.seq_k (fun K2 hK2 => ?_); refine AWp.regionW G_good ?_; simp (maxSteps := 10000000) only [Ev.down, Nat.reduceBEq, Nat.reduceAdd, Nat.reduceMul, Nat.reduceLT, Nat.reduceLeDiff, Nat.reduceEqDiff, Nat.reduceSub, reduceCtorEq, Int.reduceToNat, Int.reduceLE, Int.reduceLT, Int.reduceNeg, Ty.down]
        (refine hK2 _ ?_; try clear hK2 K2)
        refine AWp.ret ⟨.inr rfl, RetTo.one ?_ rfl⟩
        simp at h
        rw [show decide (x = y) = false from decide_eq_false (by rintro rfl; rw [hn] at hm; cases hm; exact h rfl)]; rfl
      ·
        simp at h
        subst h
        refine AWp.skip ?_
        simp (maxSteps := 10000000) only [Ev.down, Nat.reduceBEq, Nat.reduceAdd, Nat.reduceMul, Nat.reduceLT, Nat.reduceLeDiff, Nat.reduceEqDiff, Nat.reduceSub, reduceCtorEq, Int.reduceToNat, Int.reduceLE, Int.reduceLT, Int.reduceNeg, Ty.down]
        (refine hK1 _ ?_; try clear hK1 K1)
        refine AWp.regionW G_good ?_; simp (maxSteps := 10000000) only [Ev.down, Nat.reduceBEq, Nat.reduceAdd, Nat.reduceMul, Nat.reduceLT, Nat.reduceLeDiff, Nat.reduceEqDiff, Nat.reduceSub, reduceCtorEq, Int.reduceToNat, Int.reduceLE, Int.reduceLT, Int.reduceNeg, Ty.down, wrap_succ k (by omega)]
        refine ⟨k + 1, ⟨by omega, fun j hj => ?_⟩, by omega, Sits.pick (by simp only [allS, allM, Ev.down, Nat.reduceBEq, Nat.reduceAdd, Nat.reduceMul, Nat.reduceLT, Nat.reduceLeDiff, Nat.reduceEqDiff, Nat.reduceSub, reduceCtorEq, Int.reduceToNat, Int.reduceLE, Int.reduceLT, Int.reduceNeg, Ty.down, refOK, refOKL, refMS, wideMS, noRef, noRefL, List.contains_cons, List.contains_nil, Bool.or_false, Bool.or_true, Bool.true_or, List.nodup_cons, List.nodup_nil, List.mem_cons, List.not_mem_nil, or_false, not_false_eq_true, not_true_eq_false, Bool.or_self, Wide.cons_iff, Wide.nil_iff]) (by simp only [allS, allM, Ev.down, Nat.reduceBEq, Nat.reduceAdd, Nat.reduceMul, Nat.reduceLT, Nat.reduceLeDiff, Nat.reduceEqDiff, Nat.reduceSub, reduceCtorEq, Int.reduceToNat, Int.reduceLE, Int.reduceLT, Int.reduceNeg, Ty.down, refOK, refOKL, refMS, wideMS, noRef, noRefL, List.contains_cons, List.contains_nil, Bool.or_false, Bool.or_true, Bool.true_or, List.nodup_cons, List.nodup_nil, List.mem_cons, List.not_mem_nil, or_false, not_false_eq_true, not_true_eq_false, Bool.or_self, Wide.cons_iff, Wide.nil_iff]) (by simp only [allS, allM, Ev.down, Nat.reduceBEq, Nat.reduceAdd, Nat.reduceMul, Nat.reduceLT, Nat.reduceLeDiff, Nat.reduceEqDiff, Nat.reduceSub, reduceCtorEq, Int.reduceToNat, Int.reduceLE, Int.reduceLT, Int.reduceNeg, Ty.down, refOK, refOKL, refMS, wideMS, noRef, noRefL, List.contains_cons, List.contains_nil, Bool.or_false, Bool.or_true, Bool.true_or, List.nodup_cons, List.nodup_nil, List.mem_cons, List.not_mem_nil, or_false, not_false_eq_true, not_true_eq_false, Bool.or_self, Wide.cons_iff, Wide.nil_iff])⟩
        by_cases hjk : j = k
        · subst hjk; rw [hn, hm]
        · exact hinv j (by omega)
    ·
      refine AWp.exit ?_ -- 0
      simp (maxSteps := 10000000) only [Ev.down, Nat.reduceBEq, Nat.reduceAdd, Nat.reduceMul, Nat.reduceLT, Nat.reduceLeDiff, Nat.reduceEqDiff, Nat.reduceSub, reduceCtorEq, Int.reduceToNat, Int.reduceLE, Int.reduceLT, Int.reduceNeg, Ty.down]
      (refine hK _ ?_; try clear hK K)
      refine AWp.seq_k (fun K hK => ?_); refine AWp.regionW G_good ?_; simp (maxSteps := 10000000) only [Ev.down, Nat.reduceBEq, Nat.reduceAdd, Nat.reduceMul, Nat.reduceLT, Nat.reduceLeDiff, Nat.reduceEqDiff, Nat.reduceSub, reduceCtorEq, Int.reduceToNat, Int.reduceLE, Int.reduceLT, Int.reduceNeg, Ty.down]
      (refine hK _ ?_; try clear hK K)
      refine AWp.ret ⟨.inr rfl, RetTo.one ?_ rfl⟩
      rw [show decide (x = y) = true from decide_eq_true (list_eq_of hxy (fun j hj => hinv j (by simp at h; omega)))]; rfl

theorem f16_ok (x y : List TodoM) (hl : x.length ≤ 100000) : FnOK Try.prog 16 [] [eTodos x, eTodos y] [] (.lit (.bool (decide (x = y)))) := by
  refine FnOK.start (rvs := [.tmp 4]) Try.func16 rfl Try.ntmps16 rfl (by simp) ?_
  simp only [argsS, objsS, Nat.reduceAdd, Nat.zero_add, List.length_nil]
  refine AWp.seq_k (fun K hK => ?_); refine AWp.regionW G_good ?_; simp (maxSteps := 10000000) only [Ev.down, Nat.reduceBEq, Nat.reduceAdd, Nat.reduceMul, Nat.reduceLT, Nat.reduceLeDiff, Nat.reduceEqDiff, Nat.reduceSub, reduceCtorEq, Int.reduceToNat, Int.reduceLE, Int.reduceLT, Int.reduceNeg, Ty.down]
  (refine hK _ ?_; try clear hK K)
  refine AWp.seq_k (fun K hK => ?_)
  refine AWp.seq_k (fun K1 hK1 => ?_); refine AWp.regionW G_good ?_; simp (maxSteps := 10000000) only [Ev.down, Nat.reduceBEq, Nat.reduceAdd, Nat.reduceMul, Nat.reduceLT, Nat.reduceLeDiff, Nat.reduceEqDiff, Nat.reduceSub, reduceCtorEq, Int.reduceToNat, Int.reduceLE, Int.reduceLT, Int.reduceNeg, Ty.down, eTodos]
  (refine hK1 _ ?_; try clear hK1 K1)
  refine AWp.cond (b := !((x.length : Int) == (y.length : Int))) rfl (fun h => ?_) (fun h => ?_)
  ·
    refine AWp.seq_k (fun K1 hK1 => ?_); refine AWp.regionW G_good ?_; simp (maxSteps := 10000000) only [Ev.down, Nat.reduceBEq, Nat.reduceAdd, Nat.reduceMul, Nat.reduceLT, Nat.reduceLeDiff, Nat.reduceEqDiff, Nat.reduceSub, reduceCtorEq, Int.reduceToNat, Int.reduceLE, Int.reduceLT, Int.reduceNeg, Ty.down]
    (refine hK1 _ ?_; try clear hK1 K1)
    refine AWp.ret ⟨.inr rfl, RetTo.one ?_ rfl⟩
    simp at h
    rw [show decide (x = y) = false from decide_eq_false (by rintro rfl; exact h rfl)]; rfl
  ·
    have hxy : x.length = y.length := by simp at h; omega
    refine AWp.skip ?_
    simp (maxSteps := 10000000) only [Ev.down, Nat.reduceBEq, Nat.reduceAdd, Nat.reduceMul, Nat.reduceLT, Nat.reduceLeDiff, Nat.reduceEqDiff, Nat.reduceSub, reduceCtorEq, Int.reduceToNat, Int.reduceLE, Int.reduceLT, Int.reduceNeg, Ty.down]
    (refine hK _ ?_; try clear hK K)
    refine AWp.seq_k (fun K hK => ?_)
    refine AWp.seq_k (fun K1 hK1 => ?_); refine AWp.regionW G_good ?_; simp (maxSteps := 10000000) only [Ev.down, Nat.reduceBEq, Nat.reduceAdd, Nat.reduceMul, Nat.reduceLT, Nat.reduceLeDiff, Nat.reduceEqDiff, Nat.reduceSub, reduceCtorEq, Int.reduceToNat, Int.reduceLE, Int.reduceLT, Int.reduceNeg, Ty.down]
    (refine hK1 _ ?_; try clear hK1 K1)
    refine AWp.block ?_ -- 0
    refine AWp.loopF (ι := Nat) (fun k => St [(0, .sl 10 (x.map eTodo)), (1, .sl 10 (y.map eTodo)), (5, .lit (.int .i64 k))] []) (fun k => k ≤ x.length ∧ ∀ j, j < k → x[j]? = y[j]?) (fun k => x.length - k) 0 ⟨Nat.zero_le _, by simp⟩ ?_ ?_
    · exact Sits.pick (by simp only [allS, allM, Ev.down, Nat.reduceBEq, Nat.reduceAdd, Nat.reduceMul, Nat.reduceLT, Nat.reduceLeDiff, Nat.reduceEqDiff, Nat.reduceSub, reduceCtorEq, Int.reduceToNat, Int.reduceLE, Int.reduceLT, Int.reduceNeg, Ty.down, refOK, refOKL, refMS, wideMS, noRef, noRefL, List.contains_cons, List.contains_nil, Bool.or_false, Bool.or_true, Bool.true_or, List.nodup_cons, List.nodup_nil, List.mem_cons, List.not_mem_nil, or_false, not_false_eq_true, not_true_eq_false, Bool.or_self, Wide.cons_iff, Wide.nil_iff]) (by simp only [allS, allM, Ev.down, Nat.reduceBEq, Nat.reduceAdd, Nat.reduceMul, Nat.reduceLT, Nat.reduceLeDiff, Nat.reduceEqDiff, Nat.reduceSub, reduceCtorEq, Int.reduceToNat, Int.reduceLE, Int.reduceLT, Int.reduceNeg, Ty.down, refOK, refOKL, refMS, wideMS, noRef, noRefL, List.contains_cons, List.contains_nil, Bool.or_false, Bool.or_true, Bool.true_or, List.nodup_cons, List.nodup_nil, List.mem_cons, List.not_mem_nil, or_false, not_false_eq_true, not_true_eq_false, Bool.or_self, Wide.cons_iff, Wide.nil_iff]) (by simp only [allS, allM, Ev.down, Nat.reduceBEq, Nat.reduceAdd, Nat.reduceMul, Nat.reduceLT, Nat.reduceLeDiff, Nat.reduceEqDiff, Nat.reduceSub, reduceCtorEq, Int.reduceToNat, Int.reduceLE, Int.reduceLT, Int.reduceNeg, Ty.down, refOK, refOKL, refMS, wideMS, noRef, noRefL, List.contains_cons, List.contains_nil, Bool.or_false, Bool.or_true, Bool.true_or, List.nodup_cons, List.nodup_nil, List.mem_cons, List.not_mem_nil, or_false, not_false_eq_true, not_true_eq_false, Bool.or_self, Wide.cons_iff, Wide.nil_iff])
    rintro k ⟨hk, hinv⟩
    refine AWp.seq_k (fun K1 hK1 => ?_)
    refine AWp.seq_k (fun K2 hK2 => ?_); refine AWp.regionW G_good ?_; simp (maxSteps := 10000000) only [Ev.down, Nat.reduceBEq, Nat.reduceAdd, Nat.reduceMul, Nat.reduceLT, Nat.reduceLeDiff, Nat.reduceEqDiff, Nat.reduceSub, reduceCtorEq, Int.reduceToNat, Int.reduceLE, Int.reduceLT, Int.reduceNeg, Ty.down]
    (refine hK2 _ ?_; try clear hK2 K2)
    refine AWp.cond (b := decide ((k : Int) < x.length)) rfl (fun h => ?_) (fun h => ?_)
    ·
      refine AWp.skip ?_
      simp (maxSteps := 10000000) only [Ev.down, Nat.reduceBEq, Nat.reduceAdd, Nat.reduceMul, Nat.reduceLT, Nat.reduceLeDiff, Nat.reduceEqDiff, Nat.reduceSub, reduceCtorEq, Int.reduceToNat, Int.reduceLE, Int.reduceLT, Int.reduceNeg, Ty.down]
      have hk' : k < x.length := by simpa using h
      obtain ⟨n, hn⟩ : ∃ n, x[k]? = some n := ⟨_, List.getElem?_eq_getElem hk'⟩
      obtain ⟨m, hm⟩ : ∃ m, y[k]? = some m := ⟨_, List.getElem?_eq_getElem (by omega)⟩
      (refine hK1 _ ?_; try clear hK1 K1)
      refine AWp.seq_k (fun K1 hK1 => ?_)
      refine AWp.block ?_ -- 1
      refine AWp.seq_k (fun K2 hK2 => ?_); refine AWp.drawsW G_good Try.checked.mixed (by kernel_rfl) ?_; simp (maxSteps := 10000000) only [Ev.down, Nat.reduceBEq, Nat.reduceAdd, Nat.reduceMul, Nat.reduceLT, Nat.reduceLeDiff, Nat.reduceEqDiff, Nat.reduceSub, reduceCtorEq, Int.reduceToNat, Int.reduceLE, Int.reduceLT, Int.reduceNeg, Ty.down, hn, hm]
      refine ByHand.binAgg (b := !(decide (n = m))) rfl rfl rfl rfl rfl (fun w => todo_neq n m w) rfl ?_
      simp (maxSteps := 10000000) only [Ev.down, Nat.reduceBEq, Nat.reduceAdd, Nat.reduceMul, Nat.reduceLT, Nat.reduceLeDiff, Nat.reduceEqDiff, Nat.reduceSub, reduceCtorEq, Int.reduceToNat, Int.reduceLE, Int.reduceLT, Int.reduceNeg, Ty.down]
      refine ⟨by kernel_rfl, ?_⟩
      (refine hK2 _ ?_; try clear hK2 K2)
      refine AWp.cond (b := !(decide (n = m))) rfl (fun h => ?_) (fun h => ?_)
      ·
        refine AWp.seq_k (fun K2 hK2 => ?_); refine AWp.regionW G_good ?_; simp (maxSteps := 10000000) only [Ev.down, Nat.reduceBEq, Nat.reduceAdd, Nat.reduceMul, Nat.reduceLT, Nat.reduceLeDiff, Nat.reduceEqDiff, Nat.reduceSub, reduceCtorEq, Int.reduceToNat, Int.reduceLE, Int.reduceLT, Int.reduceNeg, Ty.down]
        (refine hK2 _ ?_; try clear hK2 K2)
        refine AWp.ret ⟨.inr rfl, RetTo.one ?_ rfl⟩
        simp at h
        rw [show decide (x = y) = false from decide_eq_false (by rintro rfl; rw [hn] at hm; cases hm; exact h rfl)]; rfl
      ·
        simp at h
        subst h
        refine AWp.skip ?_
        simp (maxSteps := 10000000) only [Ev.down, Nat.reduceBEq, Nat.reduceAdd, Nat.reduceMul, Nat.reduceLT, Nat.reduceLeDiff, Nat.reduceEqDiff, Nat.reduceSub, reduceCtorEq, Int.reduceToNat, Int.reduceLE, Int.reduceLT, Int.reduceNeg, Ty.down]
        (refine hK1 _ ?_; try clear hK1 K1)
        refine AWp.regionW G_good ?_; simp (maxSteps := 10000000) only [Ev.down, Nat.reduceBEq, Nat.reduceAdd, Nat.reduceMul, Nat.reduceLT, Nat.reduceLeDiff, Nat.reduceEqDiff, Nat.reduceSub, reduceCtorEq, Int.reduceToNat, Int.reduceLE, Int.reduceLT, Int.reduceNeg, Ty.down, wrap_succ k (by omega)]
        refine ⟨k + 1, ⟨by omega, fun j hj => ?_⟩, by omega, Sits.pick (by simp only [allS, allM, Ev.down, Nat.reduceBEq, Nat.reduceAdd, Nat.reduceMul, Nat.reduceLT, Nat.reduceLeDiff, Nat.reduceEqDiff, Nat.reduceSub, reduceCtorEq, Int.reduceToNat, Int.reduceLE, Int.reduceLT, Int.reduceNeg, Ty.down, refOK, refOKL, refMS, wideMS, noRef, noRefL, List.contains_cons, List.contains_nil, Bool.or_false, Bool.or_true, Bool.true_or, List.nodup_cons, List.nodup_nil, List.mem_cons, List.not_mem_nil, or_false, not_false_eq_true, not_true_eq_false, Bool.or_self, Wide.cons_iff, Wide.nil_iff]) (by simp only [allS, allM, Ev.down, Nat.reduceBEq, Nat.reduceAdd, Nat.reduceMul, Nat.reduceLT, Nat.reduceLeDiff, Nat.reduceEqDiff, Nat.reduceSub, reduceCtorEq, Int.reduceToNat, Int.reduceLE, Int.reduceLT, Int.reduceNeg, Ty.down, refOK, refOKL, refMS, wideMS, noRef, noRefL, List.contains_cons, List.contains_nil, Bool.or_false, Bool.or_true, Bool.true_or, List.nodup_cons, List.nodup_nil, List.mem_cons, List.not_mem_nil, or_false, not_false_eq_true, not_true_eq_false, Bool.or_self, Wide.cons_iff, Wide.nil_iff]) (by simp only [allS, allM, Ev.down, Nat.reduceBEq, Nat.reduceAdd, Nat.reduceMul, Nat.reduceLT, Nat.reduceLeDiff, Nat.reduceEqDiff, Nat.reduceSub, reduceCtorEq, Int.reduceToNat, Int.reduceLE, Int.reduceLT, Int.reduceNeg, Ty.down, refOK, refOKL, refMS, wideMS, noRef, noRefL, List.contains_cons, List.contains_nil, Bool.or_false, Bool.or_true, Bool.true_or, List.nodup_cons, List.nodup_nil, List.mem_cons, List.not_mem_nil, or_false, not_false_eq_true, not_true_eq_false, Bool.or_self, Wide.cons_iff, Wide.nil_iff])⟩
        by_cases hjk : j = k
        · subst hjk; rw [hn, hm]
        · exact hinv j (by omega)
    ·
      refine AWp.exit ?_ -- 0
      simp (maxSteps := 10000000) only [Ev.down, Nat.reduceBEq, Nat.reduceAdd, Nat.reduceMul, Nat.reduceLT, Nat.reduceLeDiff, Nat.reduceEqDiff, Nat.reduceSub, reduceCtorEq, Int.reduceToNat, Int.reduceLE, Int.reduceLT, Int.reduceNeg, Ty.down]
      (refine hK _ ?_; try clear hK K)
      refine AWp.seq_k (fun K hK => ?_); refine AWp.regionW G_good ?_; simp (maxSteps := 10000000) only [Ev.down, Nat.reduceBEq, Nat.reduceAdd, Nat.reduceMul, Nat.reduceLT, Nat.reduceLeDiff, Nat.reduceEqDiff, Nat.reduceSub, reduceCtorEq, Int.reduceToNat, Int.reduceLE, Int.reduceLT, Int.reduceNeg, Ty.down]
      (refine hK _ ?_; try clear hK K)
      refine AWp.ret ⟨.inr rfl, RetTo.one ?_ rfl⟩
      rw [show decide (x = y) = true from decide_eq_true (list_eq_of hxy (fun j hj => hinv j (by simp at h; omega)))]; rfl
end Go.Proofs.Line
