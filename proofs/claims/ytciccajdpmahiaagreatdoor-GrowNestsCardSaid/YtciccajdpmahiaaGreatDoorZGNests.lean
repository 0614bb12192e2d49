/- GrowNestsCard: whatever the input: the law returns true, and each argument reads as it read before. No condition beyond the given statement. By an AI agent. -/
import Derived.Test.YtciccajdpmahiaaGreatDoorW0
import Derived.Test.YtciccajdpmahiaaGreatDoorW10
import Derived.Test.YtciccajdpmahiaaGreatDoorW11
import Derived.Test.YtciccajdpmahiaaGreatDoorCards
import Derived.Test.YtciccajdpmahiaaGreatDoorTie
import Derived.SevenTiedAt
set_option linter.unusedSimpArgs false
set_option linter.unusedVariables false
namespace Go.Proofs.YtciccajdpmahiaaGreatDoor.growNests
open Go.ChangeShapes Go.WideShapes Go.ChangeAt Go.RowKit Go.Am Go.Proofs.Heir
theorem own : ownKnob Tryz.prog.godebug = none := by kernel_rfl
set_option maxRecDepth 100000 in
theorem lifted (os : Os) (started : os.Started) (H : Type) (enc : TypeId × Value → H) :
    ReturnsInHanded {} Tryz.checked os 10 .any (fun w args => (Rows.growNestsSpec.pre enc Tryz.prog Tryz.f10 [] false w args ∧ laidMetH Tryz.prog eL w) ∧ sizedMet enc Tryz.prog Tryz.f10 (OpenSpec.ofChange Rows.growNestsSpec) false w args) (Rows.growNestsSpec.post enc Tryz.prog Tryz.f10 false true false false) := by
  refine returnsInHanded_of_change_and (C := Tryz.checked) (X := fun w _ => laidMetH Tryz.prog eL w) (fun _ _ _ hh h => h.of_heap hh) own started (by kernel_rfl) Tryz.func10
    (ChangeSpec.witness_shaped (enc := enc) (C := Tryz.checked) (os := os) (X := fun w _ => laidMetH Tryz.prog eL w) false (World.doorLaid Tryz.prog 33 os) #[.agg #[.slice none 0 0, .int .i64 0, .slice none 0 0, .slice none 0 0, .slice none 0 0, .int .i64 0, .bool false, .slice none 0 0, .slice none 0 0, .slice none 0 0, .bool false, .slice none 0 0, .slice none 0 0, .slice none 0 0], .int .u8 0, .slice none 0 0] 8 rfl (World.shaped_of_RefB (by kernel_rfl) (by kernel_rfl)) (by kernel_rfl) (by kernel_rfl) (by kernel_rfl) (tq os _)) ?_
  intro W base args ds gs before hval0 hW _ _ hL _
  have hval : ∀ (j : Nat) t v, Tryz.f10.params[j]? = some t → args[j]? = some v → Value.okWide Tryz.prog W .any base t v := hval0
  have hW' := hW
  obtain ⟨p, q, hA0, hV, rfl, hfz, hnd⟩ := hW
  have hA : DataW.TrodAll enc Tryz.prog W 0 (fun _ => true) true Tryz.f10.params.toList args.toList ds p := hA0
  rw [Tryz.params10] at hA hval
  obtain ⟨v0, vs0, d0, ds0, p0, q0, hargs, rfl, rfl, h0, r0⟩ := trodAll_cons hA
  obtain ⟨v1, vs1, d1, ds1, p1, q1, rfl, rfl, rfl, h1, r1⟩ := trodAll_cons r0
  obtain ⟨v2, vs2, d2, ds2, p2, q2, rfl, rfl, rfl, h2, r2⟩ := trodAll_cons r1
  obtain ⟨rfl, rfl, rfl⟩ := trodAll_nil r2
  obtain rfl : args = #[v0, v1, v2] := by cases args; simp_all
  clear hA0 hval0
  obtain ⟨a0, ok0, rl0⟩ := AT.AA (fun _ => rfl) Tryz.underlying39 (hval 0 39 v0 rfl rfl) h0
  obtain ⟨a1, rfl, rfl, rfl, wa1⟩ := open_int Tryz.underlying5 (hval 1 5 v1 rfl rfl) h1
  have k1 : 0 ≤ a1 ∧ a1 < 256 := by
    have := wa1
    simp [Lit.wf, IntKind.min, IntKind.max, IntKind.signed, IntKind.bits] at this
    omega
  obtain ⟨ad2, len2, cap2, hv2⟩ := okWide_slice Tryz.underlying100 (hval 2 100 v2 rfl rfl)
  obtain ⟨a2, ok2, rl2⟩ := rU8s.topOne (fun _ => rfl) (by rw [hv2]; rfl) h2
  refine ((NT a0 _ k1 a2).law (w := W) (vs := [v0, .int .u8 a1, v2]) (fun U μ hU => (.cons (rl0 U μ hU) (.cons .lit (.cons (rl2 U μ hU) .nil)))) (j2 hL)).mono fun e W' ⟨he, hk⟩ => ?_
  subst he
  exact ⟨_, rfl, kg (tb := 4) hW' rfl hk laid (fun t ht => by
    rw [Tryz.params10] at ht
    simp only [List.mem_cons, List.not_mem_nil, or_false] at ht
    rcases ht with rfl | rfl | rfl <;> exact ⟨by kernel_rfl, of_decide_eq_true (by kernel_rfl)⟩) rfl rfl rfl Tryz.underlying4 rfl⟩
theorem jo1 : OG Tryz.checked.prog 10 Tryz.f10 Rows.growNestsSpec Rows.growNestsRow = true := by kernel_rfl
theorem jo2 : Oy Tryz.checked.prog 10 Tryz.f10 Rows.growNestsSpec Rows.growNestsRow = true := by kernel_rfl
theorem jo3 : OE Tryz.checked.prog 10 Tryz.f10 Rows.growNestsSpec Rows.growNestsRow = true := by kernel_rfl
theorem jo4 : OF Tryz.checked.prog 10 Tryz.f10 Rows.growNestsSpec Rows.growNestsRow = true := by kernel_rfl
theorem jo5 : OC Tryz.checked.prog 10 Tryz.f10 Rows.growNestsSpec Rows.growNestsRow = true := by kernel_rfl
theorem jo6 : OD Tryz.checked.prog 10 Tryz.f10 Rows.growNestsSpec Rows.growNestsRow = true := by kernel_rfl
theorem jo7 : OI Tryz.checked.prog 10 Tryz.f10 Rows.growNestsSpec Rows.growNestsRow = true := by kernel_rfl
theorem jo8 : OJ Tryz.checked.prog 10 Tryz.f10 Rows.growNestsSpec Rows.growNestsRow = true := by kernel_rfl
theorem jo9 : OA Tryz.checked.prog 10 Tryz.f10 Rows.growNestsSpec Rows.growNestsRow = true := by kernel_rfl
theorem jo10 : Gz Tryz.checked.prog 10 Tryz.f10 Rows.growNestsSpec Rows.growNestsRow = true := by kernel_rfl
theorem jo11 : GF Tryz.checked.prog 10 Tryz.f10 Rows.growNestsSpec Rows.growNestsRow = true := by kernel_rfl
theorem jo12 : Gq Tryz.checked.prog 10 Tryz.f10 Rows.growNestsSpec Rows.growNestsRow = true := by kernel_rfl
theorem jo13 : F6 Tryz.checked.prog 10 Tryz.f10 Rows.growNestsSpec Rows.growNestsRow = true := by kernel_rfl
theorem jo14 : Ht Tryz.checked.prog 10 Tryz.f10 Rows.growNestsSpec Rows.growNestsRow = true := by kernel_rfl
theorem jo15 : HC Tryz.checked.prog 10 Tryz.f10 Rows.growNestsSpec Rows.growNestsRow = true := by kernel_rfl
theorem jo16 : Hq Tryz.checked.prog 10 Tryz.f10 Rows.growNestsSpec Rows.growNestsRow = true := by kernel_rfl
theorem jo17 : GG Tryz.checked.prog 10 Tryz.f10 Rows.growNestsSpec Rows.growNestsRow = true := by kernel_rfl
theorem joined : joinedFacts Tryz.checked.prog 10 Tryz.f10 Rows.growNestsSpec Rows.growNestsRow = true := qj (P := Tryz.checked.prog) (f := 10) (fn := Tryz.f10) (s := Rows.growNestsSpec) (c := Rows.growNestsRow) jo1 jo2 jo3 jo4 jo5 jo6 jo7 jo8 jo9 jo10 jo11 jo12 jo13 jo14 jo15 jo16 jo17
theorem over : Rows.growNestsRow.holds Tryz.pinned (OpenSpec.ofChange Rows.growNestsSpec) :=
  OpenClaim.holds_of_wide 10 Tryz.f10 rfl rfl rfl rfl rfl rfl rfl ⟨rfl, rfl, rfl, rfl, rfl⟩ rfl rfl rfl rfl rfl (by kernel_rfl) Tryz.func10 joined
    (of_decide_eq_true (by kernel_rfl)) (by unfold Func.isWrapper; first | (rw [if_pos (by decide +kernel)]; kernel_rfl) | (rw [if_neg (by decide +kernel)]; exact ⟨rfl, rfl⟩))
    (fun os started H enc _ => lifted os started H enc)
theorem pr1 : Rows.growNestsRow.wfByText (OpenSpec.ofChange Rows.growNestsSpec) = true := by kernel_rfl
theorem pr2 : Tryz.pinned.checked.prog.mainIs = some (true, "2716f4a8d3620a06f9ebd558093d77179e52bff9c5827533c0479bd94da66a1d".toList) := by kernel_rfl
theorem pr3 : Tryz.prog.funcNamed Rows.growNestsRow.func = some 10 := by kernel_rfl
theorem pr4 : false = Tryz.pinned.checked.prog.looks [] := by kernel_rfl
theorem pr5 : ([39, 5, 100].all fun u => !Tryz.prog.wantsStandIn u) = true := by kernel_rfl
theorem pr6 : false = Rows.growNestsRow.goesBy Tryz.pinned.checked.prog := by kernel_rfl
theorem proved : Rows.GrowNestsCardSaid :=
  Claim7.holds_tied_plain_at .later [] [.listed, .data] true (true, "2716f4a8d3620a06f9ebd558093d77179e52bff9c5827533c0479bd94da66a1d") false
    over (fun _ h => by cases h) pr1 (fun _ h => by cases h) growNests_row_tie rfl ⟨rfl, rfl⟩ pr2 rfl
    (fun f fn hf hfn => by
      obtain rfl : f = 10 := Option.some.inj (pr3.symm.trans hf) |>.symm
      obtain rfl : fn = Tryz.f10 := (Option.some.inj (Tryz.func10.symm.trans hfn)).symm
      exact ⟨pr4, fun j t ht => by
        rw [Tryz.params10] at ht
        have hm : t ∈ [39, 5, 100] := by simpa using Array.mem_of_getElem? ht
        have hall : ([39, 5, 100].all fun u => !Tryz.prog.wantsStandIn u) = true := pr5
        exact (show Tryz.prog.wantsStandIn t = false by simpa using List.all_eq_true.1 hall t hm)⟩)
    pr6
#print axioms proved
end Go.Proofs.YtciccajdpmahiaaGreatDoor.growNests
