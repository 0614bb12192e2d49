/- WorldEnlistsCard: whatever the input: the law returns true, and each argument reads as it read before. No condition beyond the given statement. By an AI agent. -/
import Derived.Test.YtciccajdpmahiaaGreatDoorW0
import Derived.Test.YtciccajdpmahiaaGreatDoorW10
import Derived.Test.YtciccajdpmahiaaGreatDoorW11
import Derived.Test.YtciccajdpmahiaaGreatDoorCards
import Derived.Test.YtciccajdpmahiaaGreatDoorTie
import Derived.SevenTiedAt
set_option linter.unusedSimpArgs false
set_option linter.unusedVariables false
namespace Go.Proofs.YtciccajdpmahiaaGreatDoor.worldEnlists
open Go.ChangeShapes Go.WideShapes Go.ChangeAt Go.RowKit Go.Am Go.Proofs.Heir
theorem own : ownKnob Tryz.prog.godebug = none := by kernel_rfl
set_option maxRecDepth 100000 in
theorem lifted (os : Os) (started : os.Started) (H : Type) (enc : TypeId × Value → H) :
    ReturnsInHanded {} Tryz.checked os 5 .any (fun w args => (Rows.worldEnlistsSpec.pre enc Tryz.prog Tryz.f5 [] false w args ∧ laidMetH Tryz.prog eL w) ∧ sizedMet enc Tryz.prog Tryz.f5 (OpenSpec.ofChange Rows.worldEnlistsSpec) false w args) (Rows.worldEnlistsSpec.post enc Tryz.prog Tryz.f5 false true false false) := by
  refine returnsInHanded_of_change_and (C := Tryz.checked) (X := fun w _ => laidMetH Tryz.prog eL w) (fun _ _ _ hh h => h.of_heap hh) own started (by kernel_rfl) Tryz.func5
    (ChangeSpec.witness_shaped (enc := enc) (C := Tryz.checked) (os := os) (X := fun w _ => laidMetH Tryz.prog eL w) false (World.doorLaid Tryz.prog 33 os) #[.agg #[.slice none 0 0, .int .i64 0, .slice none 0 0, .slice none 0 0, .slice none 0 0, .int .i64 0, .bool false, .slice none 0 0, .slice none 0 0, .slice none 0 0, .bool false, .slice none 0 0, .slice none 0 0, .slice none 0 0], .slice none 0 0] 8 rfl (World.shaped_of_RefB (by kernel_rfl) (by kernel_rfl)) (by kernel_rfl) (by kernel_rfl) (by kernel_rfl) (tq os _)) ?_
  intro W base args ds gs before hval0 hW _ _ hL _
  have hval : ∀ (j : Nat) t v, Tryz.f5.params[j]? = some t → args[j]? = some v → Value.okWide Tryz.prog W .any base t v := hval0
  have hW' := hW
  obtain ⟨p, q, hA0, hV, rfl, hfz, hnd⟩ := hW
  have hA : DataW.TrodAll enc Tryz.prog W 0 (fun _ => true) true Tryz.f5.params.toList args.toList ds p := hA0
  rw [Tryz.params5] at hA hval
  obtain ⟨v0, vs0, d0, ds0, p0, q0, hargs, rfl, rfl, h0, r0⟩ := trodAll_cons hA
  obtain ⟨v1, vs1, d1, ds1, p1, q1, rfl, rfl, rfl, h1, r1⟩ := trodAll_cons r0
  obtain ⟨rfl, rfl, rfl⟩ := trodAll_nil r1
  obtain rfl : args = #[v0, v1] := by cases args; simp_all
  clear hA0 hval0
  obtain ⟨a0, ok0, rl0⟩ := AT.AA (fun _ => rfl) Tryz.underlying39 (hval 0 39 v0 rfl rfl) h0
  obtain ⟨ad1, len1, cap1, hv1⟩ := okWide_slice Tryz.underlying41 (hval 1 41 v1 rfl rfl)
  obtain ⟨a1, ok1, rl1⟩ := NB.topOne (fun _ => rfl) (by rw [hv1]; rfl) h1
  refine ((f5_ok a0 a1).law (w := W) (vs := [v0, v1]) (fun U μ hU => (.cons (rl0 U μ hU) (.cons (rl1 U μ hU) .nil))) (j2 hL)).mono fun e W' ⟨he, hk⟩ => ?_
  subst he
  exact ⟨_, rfl, kg (tb := 4) hW' rfl hk laid (fun t ht => by
    rw [Tryz.params5] at ht
    simp only [List.mem_cons, List.not_mem_nil, or_false] at ht
    rcases ht with rfl | rfl <;> exact ⟨by kernel_rfl, of_decide_eq_true (by kernel_rfl)⟩) rfl rfl rfl Tryz.underlying4 rfl⟩
theorem jo1 : OG Tryz.checked.prog 5 Tryz.f5 Rows.worldEnlistsSpec Rows.worldEnlistsRow = true := by kernel_rfl
theorem jo2 : Oy Tryz.checked.prog 5 Tryz.f5 Rows.worldEnlistsSpec Rows.worldEnlistsRow = true := by kernel_rfl
theorem jo3 : OE Tryz.checked.prog 5 Tryz.f5 Rows.worldEnlistsSpec Rows.worldEnlistsRow = true := by kernel_rfl
theorem jo4 : OF Tryz.checked.prog 5 Tryz.f5 Rows.worldEnlistsSpec Rows.worldEnlistsRow = true := by kernel_rfl
theorem jo5 : OC Tryz.checked.prog 5 Tryz.f5 Rows.worldEnlistsSpec Rows.worldEnlistsRow = true := by kernel_rfl
theorem jo6 : OD Tryz.checked.prog 5 Tryz.f5 Rows.worldEnlistsSpec Rows.worldEnlistsRow = true := by kernel_rfl
theorem jo7 : OI Tryz.checked.prog 5 Tryz.f5 Rows.worldEnlistsSpec Rows.worldEnlistsRow = true := by kernel_rfl
theorem jo8 : OJ Tryz.checked.prog 5 Tryz.f5 Rows.worldEnlistsSpec Rows.worldEnlistsRow = true := by kernel_rfl
theorem jo9 : OA Tryz.checked.prog 5 Tryz.f5 Rows.worldEnlistsSpec Rows.worldEnlistsRow = true := by kernel_rfl
theorem jo10 : Gz Tryz.checked.prog 5 Tryz.f5 Rows.worldEnlistsSpec Rows.worldEnlistsRow = true := by kernel_rfl
theorem jo11 : GF Tryz.checked.prog 5 Tryz.f5 Rows.worldEnlistsSpec Rows.worldEnlistsRow = true := by kernel_rfl
theorem jo12 : Gq Tryz.checked.prog 5 Tryz.f5 Rows.worldEnlistsSpec Rows.worldEnlistsRow = true := by kernel_rfl
theorem jo13 : F6 Tryz.checked.prog 5 Tryz.f5 Rows.worldEnlistsSpec Rows.worldEnlistsRow = true := by kernel_rfl
theorem jo14 : Ht Tryz.checked.prog 5 Tryz.f5 Rows.worldEnlistsSpec Rows.worldEnlistsRow = true := by kernel_rfl
theorem jo15 : HC Tryz.checked.prog 5 Tryz.f5 Rows.worldEnlistsSpec Rows.worldEnlistsRow = true := by kernel_rfl
theorem jo16 : Hq Tryz.checked.prog 5 Tryz.f5 Rows.worldEnlistsSpec Rows.worldEnlistsRow = true := by kernel_rfl
theorem jo17 : GG Tryz.checked.prog 5 Tryz.f5 Rows.worldEnlistsSpec Rows.worldEnlistsRow = true := by kernel_rfl
theorem joined : joinedFacts Tryz.checked.prog 5 Tryz.f5 Rows.worldEnlistsSpec Rows.worldEnlistsRow = true := qj (P := Tryz.checked.prog) (f := 5) (fn := Tryz.f5) (s := Rows.worldEnlistsSpec) (c := Rows.worldEnlistsRow) jo1 jo2 jo3 jo4 jo5 jo6 jo7 jo8 jo9 jo10 jo11 jo12 jo13 jo14 jo15 jo16 jo17
theorem over : Rows.worldEnlistsRow.holds Tryz.pinned (OpenSpec.ofChange Rows.worldEnlistsSpec) :=
  OpenClaim.holds_of_wide 5 Tryz.f5 rfl rfl rfl rfl rfl rfl rfl ⟨rfl, rfl, rfl, rfl, rfl⟩ rfl rfl rfl rfl rfl (by kernel_rfl) Tryz.func5 joined
    (of_decide_eq_true (by kernel_rfl)) (by unfold Func.isWrapper; first | (rw [if_pos (by decide +kernel)]; kernel_rfl) | (rw [if_neg (by decide +kernel)]; exact ⟨rfl, rfl⟩))
    (fun os started H enc _ => lifted os started H enc)
theorem pr1 : Rows.worldEnlistsRow.wfByText (OpenSpec.ofChange Rows.worldEnlistsSpec) = true := by kernel_rfl
theorem pr2 : Tryz.pinned.checked.prog.mainIs = some (true, "2716f4a8d3620a06f9ebd558093d77179e52bff9c5827533c0479bd94da66a1d".toList) := by kernel_rfl
theorem pr3 : Tryz.prog.funcNamed Rows.worldEnlistsRow.func = some 5 := by kernel_rfl
theorem pr4 : false = Tryz.pinned.checked.prog.looks [] := by kernel_rfl
theorem pr5 : ([39, 41].all fun u => !Tryz.prog.wantsStandIn u) = true := by kernel_rfl
theorem pr6 : false = Rows.worldEnlistsRow.goesBy Tryz.pinned.checked.prog := by kernel_rfl
theorem proved : Rows.WorldEnlistsCardSaid :=
  Claim7.holds_tied_plain_at .later [] [.listed, .data] true (true, "2716f4a8d3620a06f9ebd558093d77179e52bff9c5827533c0479bd94da66a1d") false
    over (fun _ h => by cases h) pr1 (fun _ h => by cases h) worldEnlists_row_tie rfl ⟨rfl, rfl⟩ pr2 rfl
    (fun f fn hf hfn => by
      obtain rfl : f = 5 := Option.some.inj (pr3.symm.trans hf) |>.symm
      obtain rfl : fn = Tryz.f5 := (Option.some.inj (Tryz.func5.symm.trans hfn)).symm
      exact ⟨pr4, fun j t ht => by
        rw [Tryz.params5] at ht
        have hm : t ∈ [39, 41] := by simpa using Array.mem_of_getElem? ht
        have hall : ([39, 41].all fun u => !Tryz.prog.wantsStandIn u) = true := pr5
        exact (show Tryz.prog.wantsStandIn t = false by simpa using List.all_eq_true.1 hall t hm)⟩)
    pr6
#print axioms proved
end Go.Proofs.YtciccajdpmahiaaGreatDoor.worldEnlists
