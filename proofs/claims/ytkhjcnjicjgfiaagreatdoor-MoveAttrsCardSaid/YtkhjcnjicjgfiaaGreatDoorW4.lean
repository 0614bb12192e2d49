/- Walks of functions by unfolding over abstract states; runs of functions by an evaluator that is proved. By an AI agent. -/
import Derived.Test.YtkhjcnjicjgfiaaGreatDoorW3
set_option linter.unusedSimpArgs false
set_option linter.unusedVariables false
namespace Go.Am
open Go
theorem FnOK.thawNew {P : Program} {f : FuncId} {args args' : List AV} {n wd : Nat} {rows : List AV} {ins : List MS} (m : ML) (T : List Nat) (hm : lookM m = objsOf ins) (h : FnOK P f [] args [.live wd rows false] (.own 0 0 n))
    (hplain : ∀ c ∈ flat rows, noMem c = true) (hagg : ∀ r ∈ rows, ∀ cs, r ≠ .agg cs) (hcv : MFL (MF [] (inT T) m 12) args args') : FnOK P f ins args' (ins ++ [.live wd rows false]) (.own ins.length 0 n) := by
  intro w W0 L vs hL hs hargs
  have hmem : (bare ins).mem = objsOf ins := rfl
  have hw : ∀ t wd rows ro, lkM m t = .live wd rows ro → t ∈ T → Wide wd rows := fun t wd rows ro h1 _ => by
    obtain ⟨B, _, h3⟩ := hs.objs t wd rows ro (by rw [hmem, ← hm, ← lkM_eq]; exact h1)
    exact h3.wide
  have hc : CvL (bare ins).mem id (fun _ => False) (· ∈ T) args args' := by
    have := MFL_cv (D := fun _ => False) (F := (· ∈ T)) (ρ := renT []) (mm := lookM m) (fun r x => MF_cv (fun t wd rows ro h1 h2 => hw t wd rows ro h1 (memR_iff.1 h2)) (fun t u h => by cases h) (fun t wd rows ro _ h2 => memR_iff.1 h2) 12 r x) hcv
    rw [hm] at this; exact this
  have hcall := h w _ (fun _ => none) vs (fun _ _ => rfl) (callee_sim hs T) (callee_args hs hc hargs)
  refine Calls.mono hcall ?_
  rintro e w' ⟨v, μ', rfl, hs', hv⟩
  have noLent : ∀ b, ¬ Lent (fun _ => none) b := by rintro b ⟨t, B, h, _⟩; cases h
  have chg : ∀ b, b < w.heap.size → w'.heap[b]? = w.heap[b]? := fun b hb => hs'.keep b hb (noLent b)
  have shape : ∀ b e n, w.shape? b = some (e, n) → w'.shape? b = some (e, n) := fun b e n h => by
    have hb : b < w.heap.size := by
      rcases Nat.lt_or_ge b w.heap.size with h' | h'
      · exact h'
      · simp [World.shape?, Array.getElem?_eq_none h'] at h
    simpa [World.shape?, chg b hb] using h
  obtain ⟨B, hB, hobj⟩ := hs'.objs 0 wd rows false rfl
  have newge : B.virt = false → w.heap.size ≤ B.b := fun hvb => by
    rcases (hs'.out 0 wd rows false B rfl hB hvb).2 rfl with h | h
    · exact h
    · exact absurd h (noLent _)
  have hm2n : objsOf (ins ++ [MS.live wd rows false]) ins.length = .live wd rows false := by simp [objsOf]
  have hm2o : ∀ t, t ≠ ins.length → objsOf (ins ++ [MS.live wd rows false]) t = objsOf ins t := fun t ht => by
    unfold objsOf
    rcases Nat.lt_or_gt_of_ne ht with h | h
    · rw [List.getElem?_append_left h]
    · rw [List.getElem?_eq_none (by simp; omega), List.getElem?_eq_none (by omega)]
  generalize hM : objsOf (ins ++ [MS.live wd rows false]) = m2 at *
  obtain ⟨μ2, hμ⟩ : ∃ μ2 : Mu, μ2 = fun t => if t = ins.length then some B else L t := ⟨_, rfl⟩
  have μn : μ2 ins.length = some B := by rw [hμ]; exact if_pos rfl
  have μo : ∀ t, t ≠ ins.length → μ2 t = L t := fun t ht => by rw [hμ]; exact if_neg ht
  have hLn : L ins.length = none := hL _ (Nat.le_refl _)
  have mu : ∀ t B, L t = some B → μ2 t = some B := fun t B' h => by
    by_cases e : t = ins.length
    · rw [e, hLn] at h; cases h
    · rw [μo t e]; exact h
  have old : ∀ t wd rows ro B, m2 t = .live wd rows ro → μ2 t = some B → B.virt = false → w.heap.size ≤ B.b ∨ ∃ t1 wd1 rows1 ro1 B1, (bare ins).mem t1 = .live wd1 rows1 ro1 ∧ L t1 = some B1 ∧ B1.b = B.b ∧ B1.virt = false ∧ (ro = false → ro1 = false) := by
    intro t wd1 rows1 ro B1 h3 h4 h5
    by_cases e : t = ins.length
    · subst e
      rw [μn] at h4; cases h4
      exact .inl (newge h5)
    · rw [hm2o t e] at h3
      rw [μo t e] at h4
      exact .inr ⟨t, wd1, rows1, ro, B1, h3, h4, rfl, h5, id⟩
  have g := hs.grow (m' := m2) (μ' := μ2) hs'.hsize (fun b hb _ => chg b hb) shape mu (mine_old old)
  have hstep := hs.step (m' := m2) (μ' := μ2) hs'.hsize hs'.os hs'.tape hs'.output (fun b hb _ => chg b hb) shape mu old
    (fun t => by
      by_cases e : t = ins.length
      · subst e; rw [μn, hm2n]; simp
      · rw [μo t e, hm2o t e]; exact hs.free t)
    (fun t wd1 rows1 ro h3 => by
      by_cases e : t = ins.length
      · subst e
        rw [hm2n] at h3; cases h3
        refine ⟨B, μn, hobj.width, hobj.wide, hobj.blk, hobj.virt, fun hmp q c hq => ?_, hobj.vm, fun hmp => ?_⟩
        · obtain ⟨v1, k1, k2⟩ := hobj.cell hmp q c hq
          exact ⟨v1, k1, k2.plain (hplain c (List.mem_of_getElem? hq))⟩
        · obtain ⟨es, cl, k1, k2, k3, k4, k5, k6⟩ := hobj.map hmp
          refine ⟨es, cl, k1, k2, k3, k4, k5, fun i r hr => ?_⟩
          obtain ⟨k, c, e, rfl, _⟩ := k6 i r hr
          exact absurd rfl (hagg _ (List.mem_of_getElem? hr) _)
      · rw [hm2o t e] at h3
        obtain ⟨B1, h4, h5⟩ := hs.objs t wd1 rows1 ro h3
        exact ⟨B1, by rw [μo t e]; exact h4, h5.grow g fun hv' => chg _ (hs.live_lt h3 h4 hv')⟩)
    (by
      intro t t' wd1 rows1 wd1' rows1' ro' B1 B1' hne h3 h4 h5 h6 v1 v2
      by_cases e : t = ins.length
      · subst e
        have e' : t' ≠ ins.length := fun e' => hne e'.symm
        rw [hm2o t' e'] at h4
        rw [μn] at h5; rw [μo t' e'] at h6
        cases h5
        have := newge v1
        have := hs.live_lt h4 h6 v2
        omega
      · by_cases e' : t' = ins.length
        · subst e'
          rw [hm2o t e] at h3
          rw [μn] at h6; rw [μo t e] at h5
          cases h6
          have := newge v2
          have := hs.live_lt h3 h5 v1
          omega
        · rw [hm2o t e] at h3
          rw [hm2o t' e'] at h4
          rw [μo t e] at h5; rw [μo t' e'] at h6
          exact hs.inj t t' _ _ _ _ _ B1 B1' hne h3 h4 h5 h6 v1 v2)
  refine ⟨v, μ2, rfl, ?_, ?_⟩
  · subst hM; exact hstep
  · cases hv with
    | own h1 h2 h3 h4 h5 h6 =>
      rw [hB] at h1; cases h1
      exact .own μn h2 h3 h4 h5 h6
    | ownNil h1 =>
      rw [hB] at h1; cases h1
      exact .ownNil μn
end Go.Am
