/- DutyMovesCard: whatever the input: the law returns true, and each argument reads as it read before. No condition beyond the given statement. By an AI agent. -/
import Derived.Test.YtkhjcnjicjgfiaaGreatDoorWD0
import Derived.Test.YtkhjcnjicjgfiaaGreatDoorWD33
import Derived.Test.YtkhjcnjicjgfiaaGreatDoorCards
import Derived.Test.YtkhjcnjicjgfiaaGreatDoorTie
import Derived.SevenTiedAt
set_option linter.unusedSimpArgs false
set_option linter.unusedVariables false
namespace Go.Proofs.YtkhjcnjicjgfiaaGreatDoor.dutyMoves
open Go.ChangeShapes Go.WideShapes Go.ChangeAt Go.RowKit Go.Am Go.Proofs.Heir
theorem own : ownKnob Tryz.prog.godebug = none := by kernel_rfl
set_option maxRecDepth 100000 in
theorem lifted (os : Os) (started : os.Started) (H : Type) (enc : TypeId × Value → H) :
    ReturnsInHanded {} Tryz.checked os 14 .any (fun w args => (Rows.dutyMovesSpec.pre enc Tryz.prog Tryz.f14 [] false w args ∧ laidMetH Tryz.prog mS w) ∧ sizedMet enc Tryz.prog Tryz.f14 (OpenSpec.ofChange Rows.dutyMovesSpec) false w args) (Rows.dutyMovesSpec.post enc Tryz.prog Tryz.f14 false true false false) := by
  refine returnsInHanded_of_change_and (C := Tryz.checked) (X := fun w _ => laidMetH Tryz.prog mS w) (fun _ _ _ hh h => h.of_heap hh) own started (by kernel_rfl) Tryz.func14
    (ChangeSpec.witness_shaped (enc := enc) (C := Tryz.checked) (os := os) (X := fun w _ => laidMetH Tryz.prog mS w) false (World.doorLaid Tryz.prog 33 os) #[.agg #[.slice none 0 0, .int .i64 0], .slice none 0 0, .agg #[.slice none 0 0, .slice none 0 0, .int .i64 0, .bool false], .slice none 0 0, .int .u8 0] 8 rfl (World.shaped_of_RefB (by kernel_rfl) (by kernel_rfl)) (by kernel_rfl) (by kernel_rfl) (by kernel_rfl) (Gw os _)) ?_
  intro W base args ds gs before hval0 hW _ _ hL _
  have hval : ∀ (j : Nat) t v, Tryz.f14.params[j]? = some t → args[j]? = some v → Value.okWide Tryz.prog W .any base t v := hval0
  have hW' := hW
  obtain ⟨p, q, hA0, hV, rfl, hfz, hnd⟩ := hW
  have hA : DataW.TrodAll enc Tryz.prog W 0 (fun _ => true) true Tryz.f14.params.toList args.toList ds p := hA0
  rw [Tryz.params14] at hA hval
  obtain ⟨v0, vs0, d0, ds0, p0, q0, hargs, rfl, rfl, h0, r0⟩ := trodAll_cons hA
  obtain ⟨v1, vs1, d1, ds1, p1, q1, rfl, rfl, rfl, h1, r1⟩ := trodAll_cons r0
  obtain ⟨v2, vs2, d2, ds2, p2, q2, rfl, rfl, rfl, h2, r2⟩ := trodAll_cons r1
  obtain ⟨v3, vs3, d3, ds3, p3, q3, rfl, rfl, rfl, h3, r3⟩ := trodAll_cons r2
  obtain ⟨v4, vs4, d4, ds4, p4, q4, rfl, rfl, rfl, h4, r4⟩ := trodAll_cons r3
  obtain ⟨rfl, rfl, rfl⟩ := trodAll_nil r4
  obtain rfl : args = #[v0, v1, v2, v3, v4] := by cases args; simp_all
  clear hA0 hval0
  obtain ⟨a0, ok0, rl0⟩ := N4.FP (fun _ => rfl) Tryz.underlying24 (hval 0 24 v0 rfl rfl) h0
  obtain ⟨ad1, len1, cap1, hv1⟩ := okWide_slice Tryz.underlying75 (hval 1 75 v1 rfl rfl)
  obtain ⟨a1, ok1, rl1⟩ := JR.FI (fun _ => rfl) (by rw [hv1]; rfl) h1
  obtain ⟨a2, ok2, rl2⟩ := Np.FP (fun _ => rfl) Tryz.underlying79 (hval 2 79 v2 rfl rfl) h2
  obtain ⟨ad3, len3, cap3, hv3⟩ := okWide_slice Tryz.underlying80 (hval 3 80 v3 rfl rfl)
  obtain ⟨a3, ok3, rl3⟩ := Gm.FI (fun _ => rfl) (by rw [hv3]; rfl) h3
  obtain ⟨a4, rfl, rfl, rfl, wa4⟩ := open_int Tryz.underlying5 (hval 4 5 v4 rfl rfl) h4
  have k4 : 0 ≤ a4 ∧ a4 < 256 := by
    have := wa4
    simp [Lit.wf, IntKind.min, IntKind.max, IntKind.signed, IntKind.bits] at this
    omega
  refine ((Lf a0 a1 a2 a3 a4 k4).law (w := W) (vs := [v0, v1, v2, v3, .int .u8 a4]) (fun U μ hU => (.cons (rl0 U μ hU) (.cons (rl1 U μ hU) (.cons (rl2 U μ hU) (.cons (rl3 U μ hU) (.cons .lit .nil)))))) (w8 hL)).mono fun e W' ⟨he, hk⟩ => ?_
  subst he
  exact ⟨_, rfl, xR (tb := 4) hW' rfl hk laid (fun t ht => by
    rw [Tryz.params14] at ht
    simp only [List.mem_cons, List.not_mem_nil, or_false] at ht
    rcases ht with rfl | rfl | rfl | rfl | rfl <;> exact ⟨by kernel_rfl, of_decide_eq_true (by kernel_rfl)⟩) rfl rfl rfl Tryz.underlying4 rfl⟩
theorem jo1 : Oj Tryz.checked.prog 14 Tryz.f14 Rows.dutyMovesSpec Rows.dutyMovesRow = true := by kernel_rfl
theorem jo2 : O5 Tryz.checked.prog 14 Tryz.f14 Rows.dutyMovesSpec Rows.dutyMovesRow = true := by kernel_rfl
theorem jo3 : OG Tryz.checked.prog 14 Tryz.f14 Rows.dutyMovesSpec Rows.dutyMovesRow = true := by kernel_rfl
theorem jo4 : OV Tryz.checked.prog 14 Tryz.f14 Rows.dutyMovesSpec Rows.dutyMovesRow = true := by kernel_rfl
theorem jo5 : Od Tryz.checked.prog 14 Tryz.f14 Rows.dutyMovesSpec Rows.dutyMovesRow = true := by kernel_rfl
theorem jo6 : OM Tryz.checked.prog 14 Tryz.f14 Rows.dutyMovesSpec Rows.dutyMovesRow = true := by kernel_rfl
theorem jo7 : Ou Tryz.checked.prog 14 Tryz.f14 Rows.dutyMovesSpec Rows.dutyMovesRow = true := by kernel_rfl
theorem jo8 : OP Tryz.checked.prog 14 Tryz.f14 Rows.dutyMovesSpec Rows.dutyMovesRow = true := by kernel_rfl
theorem jo9 : OA Tryz.checked.prog 14 Tryz.f14 Rows.dutyMovesSpec Rows.dutyMovesRow = true := by kernel_rfl
theorem jo10 : Lm Tryz.checked.prog 14 Tryz.f14 Rows.dutyMovesSpec Rows.dutyMovesRow = true := by kernel_rfl
theorem jo11 : Lr Tryz.checked.prog 14 Tryz.f14 Rows.dutyMovesSpec Rows.dutyMovesRow = true := by kernel_rfl
theorem jo12 : L1 Tryz.checked.prog 14 Tryz.f14 Rows.dutyMovesSpec Rows.dutyMovesRow = true := by kernel_rfl
theorem jo13 : LX Tryz.checked.prog 14 Tryz.f14 Rows.dutyMovesSpec Rows.dutyMovesRow = true := by kernel_rfl
theorem jo14 : LH Tryz.checked.prog 14 Tryz.f14 Rows.dutyMovesSpec Rows.dutyMovesRow = true := by kernel_rfl
theorem jo15 : LY Tryz.checked.prog 14 Tryz.f14 Rows.dutyMovesSpec Rows.dutyMovesRow = true := by kernel_rfl
theorem jo16 : K2 Tryz.checked.prog 14 Tryz.f14 Rows.dutyMovesSpec Rows.dutyMovesRow = true := by kernel_rfl
theorem jo17 : Lo Tryz.checked.prog 14 Tryz.f14 Rows.dutyMovesSpec Rows.dutyMovesRow = true := by kernel_rfl
theorem joined : joinedFacts Tryz.checked.prog 14 Tryz.f14 Rows.dutyMovesSpec Rows.dutyMovesRow = true := ED (P := Tryz.checked.prog) (f := 14) (fn := Tryz.f14) (s := Rows.dutyMovesSpec) (c := Rows.dutyMovesRow) jo1 jo2 jo3 jo4 jo5 jo6 jo7 jo8 jo9 jo10 jo11 jo12 jo13 jo14 jo15 jo16 jo17
theorem over : Rows.dutyMovesRow.holds Tryz.pinned (OpenSpec.ofChange Rows.dutyMovesSpec) :=
  OpenClaim.holds_of_wide 14 Tryz.f14 rfl rfl rfl rfl rfl rfl rfl ⟨rfl, rfl, rfl, rfl, rfl⟩ rfl rfl rfl rfl rfl (by kernel_rfl) Tryz.func14 joined
    (of_decide_eq_true (by kernel_rfl)) (by unfold Func.isWrapper; first | (rw [if_pos (by decide +kernel)]; kernel_rfl) | (rw [if_neg (by decide +kernel)]; exact ⟨rfl, rfl⟩))
    (fun os started H enc _ => lifted os started H enc)
theorem pr1 : Rows.dutyMovesRow.wfByText (OpenSpec.ofChange Rows.dutyMovesSpec) = true := by kernel_rfl
theorem pr2 : Tryz.pinned.checked.prog.mainIs = some (true, "0f1997641acc2bca4934c8c1f734450a105ae91ac096fbc992db8dd07149691a".toList) := by kernel_rfl
theorem pr3 : Tryz.prog.funcNamed Rows.dutyMovesRow.func = some 14 := by kernel_rfl
theorem pr4 : true = Tryz.pinned.checked.prog.looks [] := by kernel_rfl
theorem pr5 : ([24, 75, 79, 80, 5].all fun u => !Tryz.prog.wantsStandIn u) = true := by kernel_rfl
theorem pr6 : false = Rows.dutyMovesRow.goesBy Tryz.pinned.checked.prog := by kernel_rfl
theorem proved : Rows.DutyMovesCardSaid :=
  Claim7.holds_tied_plain_at .later [] [.handle, .listed, .data] true (true, "0f1997641acc2bca4934c8c1f734450a105ae91ac096fbc992db8dd07149691a") true
    over (fun _ h => by cases h) pr1 (fun _ h => by cases h) dutyMoves_row_tie rfl ⟨rfl, rfl⟩ pr2 rfl
    (fun f fn hf hfn => by
      obtain rfl : f = 14 := Option.some.inj (pr3.symm.trans hf) |>.symm
      obtain rfl : fn = Tryz.f14 := (Option.some.inj (Tryz.func14.symm.trans hfn)).symm
      exact ⟨pr4, fun j t ht => by
        rw [Tryz.params14] at ht
        have hm : t ∈ [24, 75, 79, 80, 5] := by simpa using Array.mem_of_getElem? ht
        have hall : ([24, 75, 79, 80, 5].all fun u => !Tryz.prog.wantsStandIn u) = true := pr5
        exact (show Tryz.prog.wantsStandIn t = false by simpa using List.all_eq_true.1 hall t hm)⟩)
    pr6
#print axioms proved
end Go.Proofs.YtkhjcnjicjgfiaaGreatDoor.dutyMoves
