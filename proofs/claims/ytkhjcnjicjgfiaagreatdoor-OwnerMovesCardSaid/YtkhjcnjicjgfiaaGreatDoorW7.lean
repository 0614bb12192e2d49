/- Walks of functions by unfolding over abstract states; runs of functions by an evaluator that is proved. By an AI agent. -/
import Derived.Test.YtkhjcnjicjgfiaaGreatDoorW3
set_option linter.unusedSimpArgs false
set_option linter.unusedVariables false
namespace Go.Am
open Go
def TurnI (nL : Nat) (sl : SL) (m : ML) (S : SL) (m' : ML) (A : Prop) : Prop := Fit nL sl m S m' ∧ A
theorem TurnI.mk {nL : Nat} {sl : SL} {m : ML} {S : SL} {m' : ML} {A : Prop} (h : Fit nL sl m S m') (ha : A) : TurnI nL sl m S m' A := ⟨h, ha⟩
@[reducible] def FitH (hint : List (Nat × Nat)) (nL : Nat) (sl : SL) (m : ML) (sl' : SL) (m' : ML) : Prop :=
  (nodupR (liveTab m' (tabOf (appR hint (pairS m' m sl sl')) m')) = true ∧ lentB m (tabOf (appR hint (pairS m' m sl sl')) m') nL = true) ∧
    FitS (tabOf (appR hint (pairS m' m sl sl')) m') (notIn (tabOf (appR hint (pairS m' m sl sl')) m')) m sl sl' ∧ FitM (tabOf (appR hint (pairS m' m sl sl')) m') (notIn (tabOf (appR hint (pairS m' m sl sl')) m')) m m'
theorem FitH.sits {P : Program} {nL : Nat} {sl sl' : SL} {m m' : ML} {hint : List (Nat × Nat)} (h : FitH hint nL sl m sl' m') : Sits P nL (St sl m) (St sl' m') := by
  intro N w0 W0 L μ a w hL hs
  obtain ⟨⟨h1, h2⟩, h3, h4⟩ := h
  have hk : ∀ i u, (i, u) ∈ tabOf (appR hint (pairS m' m sl sl')) m' → i ∈ m'.map (·.1) := fun i u h => tabOf_keys h
  have hD : ∀ t u, lkN (tabOf (appR hint (pairS m' m sl sl')) m') t = some u → lookM m' t ≠ .free := by
    intro t u ht e
    rcases FitM_look h4 t with ⟨_, b⟩ | ⟨b, _⟩
    · exact b (hk _ _ (lkN_mem ht))
    · rw [e] at b; exact b
  have hw := FitM.weaker hs h1 h2 hk (fun t h => h) h4 (lookS sl') (fun i => by
    rcases FitS_look h3 i with h | h
    · rw [h]; exact .any
    · rw [← lkS_eq sl]
      exact MF_cv (fun t wd rows ro h _ => wides hs t wd rows ro h) hD (fun t wd rows ro h1 h2 => ⟨⟨wd, rows, ro, h1⟩, h2⟩) 12 _ _ h)
  obtain ⟨μ', hs', _⟩ := hw.sim hL hs (.inl ⟨rfl, rfl⟩)
  exact ⟨μ', hs'⟩
def NextH {ι : Type} (sl : SL) (m : ML) {nL : Nat} {S : ι → SL} {M : ι → ML} {I : ι → Prop} {μ : ι → Nat} {i : ι} : Prop := ∃ j hint, I j ∧ μ j < μ i ∧ FitH hint nL sl m (S j) (M j)
theorem NextH.mk {ι : Type} {sl : SL} {m : ML} {nL : Nat} {S : ι → SL} {M : ι → ML} {I : ι → Prop} {μ : ι → Nat} {i : ι} (j : ι) (hint : List (Nat × Nat)) (h1 : I j) (h2 : μ j < μ i) (h3 : FitH hint nL sl m (S j) (M j)) : NextH sl m (nL := nL) (S := S) (M := M) (I := I) (μ := μ) (i := i) := ⟨j, hint, h1, h2, h3⟩
@[reducible] def RoundH {ι : Type} (nL : Nat) (S : ι → SL) (M : ι → ML) (I : ι → Prop) (μ : ι → Nat) (i : ι) (Q : Exit → SL → ML → Prop) (e : Exit) (sl : SL) (m : ML) : Prop :=
  match e with
  | .normal => NextH sl m (nL := nL) (S := S) (M := M) (I := I) (μ := μ) (i := i)
  | e => Q e sl m
theorem LoopK.useH {P : Program} {N nL : Nat} {sl : SL} {m : ML} {c : Code} {Q : Exit → SL → ML → Prop} {ι : Type} (Γ : TEnv) (hΓ : Γ.Good P) (S : ι → SL) (M : ι → ML) (I : ι → Prop) (μ : ι → Nat) (i0 : ι) (hint0 : List (Nat × Nat)) (hI : I i0) (h0 : FitH hint0 nL sl m (S i0) (M i0))
    (round : ∀ i, I i → wpC P N nL Γ c (S i) (M i) (RoundH nL S M I μ i Q)) : LoopK P N nL sl m (c := .loop c) (Q := Q) := by
  refine AWp.loopF (C := fun i => St (S i) (M i)) I μ i0 hI h0.sits ?_
  intro i hi
  refine (wpC_ok hΓ _ _ _ _ (round i hi)).mono ?_
  rintro e σ ⟨sl', m', rfl, h⟩
  cases e with
  | normal =>
    obtain ⟨j, hint, h1, h2, h3⟩ := h
    exact ⟨j, h1, h2, h3.sits⟩
  | _ => exact ⟨sl', m', rfl, h⟩
section
variable {P : Program} {Γ : TEnv} {sl : SL} {m : ML}
@[reducible] def FitN (hint : List (Nat × Nat)) (nL : Nat) (x : AV) (m : ML) (outs : List MS) (res : AV) : Prop :=
  (nodupR (liveTab (objsR 0 outs) (tabOf (appR hint (appR (pairA (objsR 0 outs) m 6 res x) (pairL (objsR 0 outs) m (takeR nL (objsR 0 outs))))) (objsR 0 outs))) = true ∧ lentB m (tabOf (appR hint (appR (pairA (objsR 0 outs) m 6 res x) (pairL (objsR 0 outs) m (takeR nL (objsR 0 outs))))) (objsR 0 outs)) nL = true) ∧
    MF (tabOf (appR hint (appR (pairA (objsR 0 outs) m 6 res x) (pairL (objsR 0 outs) m (takeR nL (objsR 0 outs))))) (objsR 0 outs)) (notIn (tabOf (appR hint (appR (pairA (objsR 0 outs) m 6 res x) (pairL (objsR 0 outs) m (takeR nL (objsR 0 outs))))) (objsR 0 outs))) m 12 res x ∧
    FitM (tabOf (appR hint (appR (pairA (objsR 0 outs) m 6 res x) (pairL (objsR 0 outs) m (takeR nL (objsR 0 outs))))) (objsR 0 outs)) (notIn (tabOf (appR hint (appR (pairA (objsR 0 outs) m 6 res x) (pairL (objsR 0 outs) m (takeR nL (objsR 0 outs))))) (objsR 0 outs))) m (objsR 0 outs)
@[reducible] def endN (hint : List (Nat × Nat)) (Γ : TEnv) (nL : Nat) (rvs : List ResultVar) (outs : List MS) (res : AV) : SL × ML → Prop
  | (sl, m) => match resB Γ sl m rvs with
    | some xs => FitN hint nL (ret1R xs) m outs res
    | none => False
@[reducible] def EndN (hint : List (Nat × Nat)) (Γ : TEnv) (nL : Nat) (rvs : List ResultVar) (outs : List MS) (res : AV) (e : Exit) (sl : SL) (m : ML) : Prop :=
  match e with
  | .normal => endN hint Γ nL rvs outs res (ghAll outs rvs (resL rvs res) sl m)
  | .ret => endN hint Γ nL rvs outs res (ghAll outs rvs (resL rvs res) sl m)
  | _ => False
theorem FitN.end {hint : List (Nat × Nat)} {nL : Nat} {x : AV} {outs : List MS} {res : AV} (h : FitN hint nL x m outs res) {N : Nat} {w0 : World} {W0 : Nat → Prop} {L μ : Mu} {a : Act} {w : World} {v : Value} (hL : ∀ t, nL ≤ t → t < bigT → L t = none)
    (hs : Sim P N w0 W0 L μ (St sl m) a w) (hv : Rep (Wr W0 μ (lookM m)) μ w x v) : ∃ μ', Sim P 0 w0 W0 L μ' (bare outs) noAct w ∧ Rep (Wr W0 μ' (objsOf outs)) μ' w res v := by
  obtain ⟨⟨h1, h2⟩, h3, h4⟩ := h
  generalize ht : tabOf (appR hint (appR (pairA (objsR 0 outs) m 6 res x) (pairL (objsR 0 outs) m (takeR nL (objsR 0 outs))))) (objsR 0 outs) = tab at h1 h2 h3 h4
  have hk : ∀ i u, (i, u) ∈ tab → i ∈ (objsR 0 outs).map (·.1) := fun i u h => by rw [← ht] at h; exact tabOf_keys h
  have hD : ∀ t u, lkN tab t = some u → lookM (objsR 0 outs) t ≠ .free := by
    intro t u ht e
    rcases FitM_look h4 t with ⟨_, b⟩ | ⟨b, _⟩
    · exact b (hk _ _ (lkN_mem ht))
    · rw [e] at b; exact b
  have hw := FitM.weaker hs h1 h2 hk (fun t h => h) h4 (fun _ => .any) (fun i => .any)
  have hcv := MF_cv (fun t wd rows ro h _ => wides hs t wd rows ro h) hD (F := fun t => (∃ wd rows ro, lkM m t = .live wd rows ro) ∧ notIn tab t = true) (fun t wd rows ro h1 h2 => ⟨⟨wd, rows, ro, h1⟩, h2⟩) 12 _ _ h3
  obtain ⟨μ', hs', hrep⟩ := hw.sim hL hs (N' := 0) (a' := noAct) (.inr ⟨fun _ => rfl, rfl, rfl⟩)
  have e : lookM (objsR 0 outs) = objsOf outs := by rw [objsR_eq, objsS_objsOf]
  rw [e] at hs' hrep hcv
  exact ⟨μ', hs', hrep _ _ _ hcv hv⟩
theorem FnOK.startN (hint : List (Nat × Nat)) {f : FuncId} {fn : Func} {c : Code} {ins outs : List MS} {args : List AV} {res : AV} {N : Nat} {rvs : List ResultVar} (Γ : TEnv) (hΓ : Γ.Good P) (hf : P.funcs[f]? = some fn) (hb : fn.body = some c) (hN : fn.ntmps = N) (hr : fn.results.toList = rvs)
    (hlen : Nat.ble (lenR args) N = true) (h : wpC P N (lenR ins) Γ c (argsR 0 args) (objsR 0 ins) (EndN hint Γ (lenR ins) rvs outs res)) : FnOK P f ins args outs res := by
  subst hN; subst hr
  have hlen : args.length ≤ fn.ntmps := by rw [← lenR_eq]; exact ble_le hlen
  intro w W0 L vs hL hs hr
  have h := wpC_ok hΓ _ _ _ _ h
  rw [argsR_eq, objsR_eq, lenR_eq] at h
  have hst : (⟨fun i => args.getD i .any, objsOf ins⟩ : AState) = St (argsS 0 args) (objsS 0 ins) := by
    unfold St
    congr 1
    · funext i; rw [argsS_look]; simp
    · exact (objsS_objsOf ins).symm
  have hsim : Sim P fn.ntmps w W0 L L ⟨fun i => args.getD i .any, objsOf ins⟩ { tmps := vs.toArray ++ Array.replicate (fn.ntmps - vs.toArray.size) undef, defers := [] } w := by
    refine ⟨?_, .nil, hs.os, hs.tape, hs.output, hs.hsize, hs.shp, hs.keep, hs.w0lt, hs.lentμ, hs.free, fun i => ?_, hs.objs, hs.inj, hs.out, hs.tabs⟩
    · simp [hr.1]; omega
    · by_cases hi : i < args.length
      · have h1 : args[i]? = some args[i] := List.getElem?_eq_getElem hi
        have h2 : vs[i]? = some (vs[i]'(by rw [hr.1]; exact hi)) := List.getElem?_eq_getElem _
        have := hr.2 i _ _ h1 h2
        have hv : (vs.toArray ++ Array.replicate (fn.ntmps - vs.toArray.size) undef).getD i undef = vs[i]'(by rw [hr.1]; exact hi) := by
          rw [Array.getD_eq_getD_getElem?, Array.getElem?_append_left (by simp; rw [hr.1]; exact hi)]
          simp [h2]
        simp only [hv, List.getD_eq_getElem?_getD, h1, Option.getD_some]
        exact this
      · simp only [List.getD_eq_getElem?_getD, List.getElem?_eq_none (Nat.le_of_not_lt hi), Option.getD_none]
        exact .any
  rw [hst] at hsim
  refine calls_of_awp hf hb h (fun t ht => hL t (by omega)) hsim (fun e σ' ⟨sl, m, _, hend⟩ => ?_) ?_
  · cases e with
    | normal => exact .inl rfl
    | ret => exact .inr rfl
    | _ => exact hend.elim
  rintro e σ' μ' a' w' ⟨sl, m, rfl, hend⟩ hs' hd
  have key : endN hint Γ ins.length fn.results.toList outs res (ghAll outs fn.results.toList (resL fn.results.toList res) sl m) → ∃ v, (results fn a'.tmps).run P w' = .ok v w' ∧ ∃ v_1 μ', Ending.returned v = .returned v_1 ∧ Sim P 0 w W0 L μ' (bare outs) noAct w' ∧ Rep (Wr W0 μ' (objsOf outs)) μ' w' res v_1 := by
    intro hend
    obtain ⟨μ2, hs2⟩ := ghAll_sim (outs := outs) fn.results.toList (resL fn.results.toList res) sl m μ' hs'
    generalize ghAll outs fn.results.toList (resL fn.results.toList res) sl m = q at hend hs2
    obtain ⟨sl2, m2⟩ := q
    simp only [endN] at hend
    split at hend
    · rename_i xs hxs
      have hres := (resB_ok hΓ hxs).get
      obtain ⟨v, v1, v2⟩ := results_run hs2 hres.1 hres.2
      rw [ret1R_eq] at hend
      obtain ⟨μ'', h1, h2⟩ := hend.end (fun t ht _ => hL t ht) hs2 v2
      exact ⟨v, v1, v, μ'', rfl, h1, h2⟩
    · exact hend.elim
  cases e with
  | normal => exact key hend
  | ret => exact key hend
  | _ => exact hend.elim
end
end Go.Am
