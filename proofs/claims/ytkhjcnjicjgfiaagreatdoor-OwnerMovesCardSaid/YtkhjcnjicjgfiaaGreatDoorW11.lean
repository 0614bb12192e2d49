/- Walks of functions by unfolding over abstract states; runs of functions by an evaluator that is proved. By an AI agent. -/
import Derived.Test.YtkhjcnjicjgfiaaGreatDoorW9
set_option linter.unusedSimpArgs false
set_option linter.unusedVariables false
namespace Go.Am
open Go
section
variable {P : Program}
@[reducible] def AfterR (P : Program) (N nL : Nat) (b : Code) (Q : Exit → SL → ML → Prop) : Exit → SL → ML → Prop := fun e sl m => match e with
  | .normal => LoopK P N nL sl m (c := b) (Q := Q)
  | e => Q e sl m
theorem AfterR.ok {N nL : Nat} {Γ : TEnv} (hΓ : Γ.Good P) {a b : Code} {sl : SL} {m : ML} {Q : Exit → SL → ML → Prop} (h : wpC P N nL Γ a sl m (AfterR P N nL b Q)) : AWp P N nL (.seq a b) (toA Q) (St sl m) := by
  refine AWp.seq ((wpC_ok hΓ _ _ _ _ h).mono ?_)
  rintro e σ ⟨sl', m', rfl, h'⟩
  cases e with
  | normal => exact h'
  | _ => exact ⟨sl', m', rfl, h'⟩
theorem LoopK.run {N nL : Nat} {sl : SL} {m : ML} {c : Code} {Q : Exit → SL → ML → Prop} (Γ : TEnv) (hΓ : Γ.Good P) (h : wpC P N nL Γ c sl m Q) : LoopK P N nL sl m (c := c) (Q := Q) := wpC_ok hΓ _ _ _ _ h
theorem FnOK.startS {f : FuncId} {fn : Func} {a1 b1 : Code} {ins outs : List MS} {args : List AV} {res : AV} {N : Nat} {rvs : List ResultVar} (Γ : TEnv) (hΓ : Γ.Good P) (hf : P.funcs[f]? = some fn) (hb : fn.body = some (.seq a1 b1)) (hN : fn.ntmps = N) (hr : fn.results.toList = rvs)
    (hlen : Nat.ble (lenR args) N = true) (h : wpC P N (lenR ins) Γ a1 (argsR 0 args) (objsR 0 ins) (AfterR P N (lenR ins) b1 (EndR Γ (lenR ins) rvs outs res))) : FnOK P f ins args outs res := by
  subst hN; subst hr
  have hlen : args.length ≤ fn.ntmps := by rw [← lenR_eq]; exact ble_le hlen
  intro w W0 L vs hL hs hr
  have h := AfterR.ok hΓ h
  rw [argsR_eq, objsR_eq, lenR_eq] at h
  have hst : (⟨fun i => args.getD i .any, objsOf ins⟩ : AState) = St (argsS 0 args) (objsS 0 ins) := by
    unfold St
    congr 1
    · funext i; rw [argsS_look]; simp
    · exact (objsS_objsOf ins).symm
  have hsim : Sim P fn.ntmps w W0 L L ⟨fun i => args.getD i .any, objsOf ins⟩ { tmps := vs.toArray ++ Array.replicate (fn.ntmps - vs.toArray.size) undef, defers := [] } w := by
    refine ⟨?_, .nil, hs.os, hs.tape, hs.output, hs.hsize, hs.shp, hs.keep, hs.w0lt, hs.lentμ, hs.free, fun i => ?_, hs.objs, hs.inj, hs.out, hs.tabs⟩
    · simp [hr.1]; omega
    · by_cases hi : i < args.length
      · have h1 : args[i]? = some args[i] := List.getElem?_eq_getElem hi
        have h2 : vs[i]? = some (vs[i]'(by rw [hr.1]; exact hi)) := List.getElem?_eq_getElem _
        have := hr.2 i _ _ h1 h2
        have hv : (vs.toArray ++ Array.replicate (fn.ntmps - vs.toArray.size) undef).getD i undef = vs[i]'(by rw [hr.1]; exact hi) := by
          rw [Array.getD_eq_getD_getElem?, Array.getElem?_append_left (by simp; rw [hr.1]; exact hi)]
          simp [h2]
        simp only [hv, List.getD_eq_getElem?_getD, h1, Option.getD_some]
        exact this
      · simp only [List.getD_eq_getElem?_getD, List.getElem?_eq_none (Nat.le_of_not_lt hi), Option.getD_none]
        exact .any
  rw [hst] at hsim
  refine calls_of_awp hf hb h (fun t ht => hL t (by omega)) hsim (fun e σ' ⟨sl, m, _, hend⟩ => ?_) ?_
  · cases e with
    | normal => exact .inl rfl
    | ret => exact .inr rfl
    | _ => exact hend.elim
  rintro e σ' μ' a' w' ⟨sl, m, rfl, hend⟩ hs' hd
  have key : endG Γ ins.length fn.results.toList outs res (ghAll outs fn.results.toList (resL fn.results.toList res) sl m) → ∃ v, (results fn a'.tmps).run P w' = .ok v w' ∧ ∃ v_1 μ', Ending.returned v = .returned v_1 ∧ Sim P 0 w W0 L μ' (bare outs) noAct w' ∧ Rep (Wr W0 μ' (objsOf outs)) μ' w' res v_1 := by
    intro hend
    obtain ⟨μ2, hs2⟩ := ghAll_sim (outs := outs) fn.results.toList (resL fn.results.toList res) sl m μ' hs'
    generalize ghAll outs fn.results.toList (resL fn.results.toList res) sl m = q at hend hs2
    obtain ⟨sl2, m2⟩ := q
    simp only [endG] at hend
    split at hend
    · rename_i xs hxs
      have hres := (resB_ok hΓ hxs).get
      obtain ⟨v, v1, v2⟩ := results_run hs2 hres.1 hres.2
      rw [ret1R_eq] at hend
      obtain ⟨μ'', h1, h2⟩ := hend.end (fun t ht _ => hL t ht) hs2 v2
      exact ⟨v, v1, v, μ'', rfl, h1, h2⟩
    · exact hend.elim
  cases e with
  | normal => exact key hend
  | ret => exact key hend
  | _ => exact hend.elim
end
end Go.Am
