/- WorldRightCard: whatever the input: the law returns true, and each argument reads as it read before. No condition beyond the given statement. By an AI agent. -/
import Derived.Test.YtciccajdpmahiaaGreatDoorW0
import Derived.Test.YtciccajdpmahiaaGreatDoorW9
import Derived.Test.YtciccajdpmahiaaGreatDoorCards
import Derived.Test.YtciccajdpmahiaaGreatDoorTie
import Derived.SevenTiedAt
set_option linter.unusedSimpArgs false
set_option linter.unusedVariables false
namespace Go.Proofs.YtciccajdpmahiaaGreatDoor.worldRight
open Go.ChangeShapes Go.WideShapes Go.ChangeAt Go.RowKit Go.Am Go.Proofs.Heir
theorem own : ownKnob Tryz.prog.godebug = none := by kernel_rfl
set_option maxRecDepth 100000 in
theorem lifted (os : Os) (started : os.Started) (H : Type) (enc : TypeId × Value → H) :
    ReturnsInHanded {} Tryz.checked os 3 .any (fun w args => (Rows.worldRightSpec.pre enc Tryz.prog Tryz.f3 [] false w args ∧ laidMetH Tryz.prog oc w) ∧ sizedMet enc Tryz.prog Tryz.f3 (OpenSpec.ofChange Rows.worldRightSpec) false w args) (Rows.worldRightSpec.post enc Tryz.prog Tryz.f3 false true false false) := by
  refine returnsInHanded_of_change_and (C := Tryz.checked) (X := fun w _ => laidMetH Tryz.prog oc w) (fun _ _ _ hh h => h.of_heap hh) own started (by kernel_rfl) Tryz.func3
    (ChangeSpec.witness_shaped (enc := enc) (C := Tryz.checked) (os := os) (X := fun w _ => laidMetH Tryz.prog oc w) false (World.doorLaid Tryz.prog 33 os) #[.agg #[.slice none 0 0, .int .i64 0, .slice none 0 0, .slice none 0 0, .slice none 0 0, .int .i64 0, .bool false, .slice none 0 0, .slice none 0 0, .slice none 0 0, .bool false, .slice none 0 0, .slice none 0 0, .slice none 0 0], .agg #[.slice none 0 0, .int .i64 0], .slice none 0 0, .slice none 0 0, .int .i64 0] 8 rfl (World.shaped_of_RefB (by kernel_rfl) (by kernel_rfl)) (by kernel_rfl) (by kernel_rfl) (by kernel_rfl) (Hs os _)) ?_
  intro W base args ds gs before hval0 hW _ _ hL _
  have hval : ∀ (j : Nat) t v, Tryz.f3.params[j]? = some t → args[j]? = some v → Value.okWide Tryz.prog W .any base t v := hval0
  have hW' := hW
  obtain ⟨p, q, hA0, hV, rfl, hfz, hnd⟩ := hW
  have hA : DataW.TrodAll enc Tryz.prog W 0 (fun _ => true) true Tryz.f3.params.toList args.toList ds p := hA0
  rw [Tryz.params3] at hA hval
  obtain ⟨v0, vs0, d0, ds0, p0, q0, hargs, rfl, rfl, h0, r0⟩ := trodAll_cons hA
  obtain ⟨v1, vs1, d1, ds1, p1, q1, rfl, rfl, rfl, h1, r1⟩ := trodAll_cons r0
  obtain ⟨v2, vs2, d2, ds2, p2, q2, rfl, rfl, rfl, h2, r2⟩ := trodAll_cons r1
  obtain ⟨v3, vs3, d3, ds3, p3, q3, rfl, rfl, rfl, h3, r3⟩ := trodAll_cons r2
  obtain ⟨v4, vs4, d4, ds4, p4, q4, rfl, rfl, rfl, h4, r4⟩ := trodAll_cons r3
  obtain ⟨rfl, rfl, rfl⟩ := trodAll_nil r4
  obtain rfl : args = #[v0, v1, v2, v3, v4] := by cases args; simp_all
  clear hA0 hval0
  obtain ⟨a0, ok0, rl0⟩ := Oy.Hg (fun _ => rfl) Tryz.underlying39 (hval 0 39 v0 rfl rfl) h0
  obtain ⟨a1, ok1, rl1⟩ := PJ.Hg (fun _ => rfl) Tryz.underlying24 (hval 1 24 v1 rfl rfl) h1
  obtain ⟨ad2, len2, cap2, hv2⟩ := okWide_slice Tryz.underlying40 (hval 2 40 v2 rfl rfl)
  obtain ⟨a2, ok2, rl2⟩ := OS.Iv (fun _ => rfl) (by rw [hv2]; rfl) h2
  obtain ⟨ad3, len3, cap3, hv3⟩ := okWide_slice Tryz.underlying41 (hval 3 41 v3 rfl rfl)
  obtain ⟨a3, ok3, rl3⟩ := OG.Iv (fun _ => rfl) (by rw [hv3]; rfl) h3
  obtain ⟨a4, rfl, rfl, rfl, wa4⟩ := open_int Tryz.underlying3 (hval 4 3 v4 rfl rfl) h4
  refine ((Pm a0 a1 a2 _ a4).law (w := W) (vs := [v0, v1, v2, v3, .int .i64 a4]) (fun U μ hU => (.cons (rl0 U μ hU) (.cons (rl1 U μ hU) (.cons (rl2 U μ hU) (.cons (rl3 U μ hU) (.cons .lit .nil)))))) (zQ hL)).mono fun e W' ⟨he, hk⟩ => ?_
  subst he
  exact ⟨_, rfl, zF (tb := 4) hW' rfl hk laid (fun t ht => by
    rw [Tryz.params3] at ht
    simp only [List.mem_cons, List.not_mem_nil, or_false] at ht
    rcases ht with rfl | rfl | rfl | rfl | rfl <;> exact ⟨by kernel_rfl, of_decide_eq_true (by kernel_rfl)⟩) rfl rfl rfl Tryz.underlying4 rfl⟩
theorem jo1 : RF Tryz.checked.prog 3 Tryz.f3 Rows.worldRightSpec Rows.worldRightRow = true := by kernel_rfl
theorem jo2 : Sa Tryz.checked.prog 3 Tryz.f3 Rows.worldRightSpec Rows.worldRightRow = true := by kernel_rfl
theorem jo3 : RN Tryz.checked.prog 3 Tryz.f3 Rows.worldRightSpec Rows.worldRightRow = true := by kernel_rfl
theorem jo4 : QY Tryz.checked.prog 3 Tryz.f3 Rows.worldRightSpec Rows.worldRightRow = true := by kernel_rfl
theorem jo5 : Q6 Tryz.checked.prog 3 Tryz.f3 Rows.worldRightSpec Rows.worldRightRow = true := by kernel_rfl
theorem jo6 : R7 Tryz.checked.prog 3 Tryz.f3 Rows.worldRightSpec Rows.worldRightRow = true := by kernel_rfl
theorem jo7 : Sx Tryz.checked.prog 3 Tryz.f3 Rows.worldRightSpec Rows.worldRightRow = true := by kernel_rfl
theorem jo8 : QN Tryz.checked.prog 3 Tryz.f3 Rows.worldRightSpec Rows.worldRightRow = true := by kernel_rfl
theorem jo9 : Ra Tryz.checked.prog 3 Tryz.f3 Rows.worldRightSpec Rows.worldRightRow = true := by kernel_rfl
theorem jo10 : Ov Tryz.checked.prog 3 Tryz.f3 Rows.worldRightSpec Rows.worldRightRow = true := by kernel_rfl
theorem jo11 : O4 Tryz.checked.prog 3 Tryz.f3 Rows.worldRightSpec Rows.worldRightRow = true := by kernel_rfl
theorem jo12 : NK Tryz.checked.prog 3 Tryz.f3 Rows.worldRightSpec Rows.worldRightRow = true := by kernel_rfl
theorem jo13 : NX Tryz.checked.prog 3 Tryz.f3 Rows.worldRightSpec Rows.worldRightRow = true := by kernel_rfl
theorem jo14 : Ob Tryz.checked.prog 3 Tryz.f3 Rows.worldRightSpec Rows.worldRightRow = true := by kernel_rfl
theorem jo15 : O2 Tryz.checked.prog 3 Tryz.f3 Rows.worldRightSpec Rows.worldRightRow = true := by kernel_rfl
theorem jo16 : NS Tryz.checked.prog 3 Tryz.f3 Rows.worldRightSpec Rows.worldRightRow = true := by kernel_rfl
theorem jo17 : NN Tryz.checked.prog 3 Tryz.f3 Rows.worldRightSpec Rows.worldRightRow = true := by kernel_rfl
theorem joined : joinedFacts Tryz.checked.prog 3 Tryz.f3 Rows.worldRightSpec Rows.worldRightRow = true := Fg (P := Tryz.checked.prog) (f := 3) (fn := Tryz.f3) (s := Rows.worldRightSpec) (c := Rows.worldRightRow) jo1 jo2 jo3 jo4 jo5 jo6 jo7 jo8 jo9 jo10 jo11 jo12 jo13 jo14 jo15 jo16 jo17
theorem over : Rows.worldRightRow.holds Tryz.pinned (OpenSpec.ofChange Rows.worldRightSpec) :=
  OpenClaim.holds_of_wide 3 Tryz.f3 rfl rfl rfl rfl rfl rfl rfl ⟨rfl, rfl, rfl, rfl, rfl⟩ rfl rfl rfl rfl rfl (by kernel_rfl) Tryz.func3 joined
    (of_decide_eq_true (by kernel_rfl)) (by unfold Func.isWrapper; first | (rw [if_pos (by decide +kernel)]; kernel_rfl) | (rw [if_neg (by decide +kernel)]; exact ⟨rfl, rfl⟩))
    (fun os started H enc _ => lifted os started H enc)
theorem pr1 : Rows.worldRightRow.wfByText (OpenSpec.ofChange Rows.worldRightSpec) = true := by kernel_rfl
theorem pr2 : Tryz.pinned.checked.prog.mainIs = some (true, "2716f4a8d3620a06f9ebd558093d77179e52bff9c5827533c0479bd94da66a1d".toList) := by kernel_rfl
theorem pr3 : Tryz.prog.funcNamed Rows.worldRightRow.func = some 3 := by kernel_rfl
theorem pr4 : false = Tryz.pinned.checked.prog.looks [] := by kernel_rfl
theorem pr5 : ([39, 24, 40, 41, 3].all fun u => !Tryz.prog.wantsStandIn u) = true := by kernel_rfl
theorem pr6 : false = Rows.worldRightRow.goesBy Tryz.pinned.checked.prog := by kernel_rfl
theorem proved : Rows.WorldRightCardSaid :=
  Claim7.holds_tied_plain_at .later [] [.listed, .data] true (true, "2716f4a8d3620a06f9ebd558093d77179e52bff9c5827533c0479bd94da66a1d") false
    over (fun _ h => by cases h) pr1 (fun _ h => by cases h) worldRight_row_tie rfl ⟨rfl, rfl⟩ pr2 rfl
    (fun f fn hf hfn => by
      obtain rfl : f = 3 := Option.some.inj (pr3.symm.trans hf) |>.symm
      obtain rfl : fn = Tryz.f3 := (Option.some.inj (Tryz.func3.symm.trans hfn)).symm
      exact ⟨pr4, fun j t ht => by
        rw [Tryz.params3] at ht
        have hm : t ∈ [39, 24, 40, 41, 3] := by simpa using Array.mem_of_getElem? ht
        have hall : ([39, 24, 40, 41, 3].all fun u => !Tryz.prog.wantsStandIn u) = true := pr5
        exact (show Tryz.prog.wantsStandIn t = false by simpa using List.all_eq_true.1 hall t hm)⟩)
    pr6
#print axioms proved
end Go.Proofs.YtciccajdpmahiaaGreatDoor.worldRight
