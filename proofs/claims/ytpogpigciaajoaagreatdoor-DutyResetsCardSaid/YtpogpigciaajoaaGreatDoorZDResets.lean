/- DutyResetsCard: whatever the input: the law returns true, and each argument reads as it read before. No condition beyond the given statement. By an AI agent. -/
import Derived.Test.YtpogpigciaajoaaGreatDoorW6
import Derived.Test.YtpogpigciaajoaaGreatDoorW5
import Derived.Test.YtpogpigciaajoaaGreatDoorCards
import Derived.Test.YtpogpigciaajoaaGreatDoorTie
import Derived.SevenTiedAt
set_option linter.unusedSimpArgs false
set_option linter.unusedVariables false
namespace Go.Proofs.YtpogpigciaajoaaGreatDoor.dutyResets
open Go.ChangeShapes Go.WideShapes Go.ChangeAt Go.RowKit Go.Am Go.Proofs.Heir
theorem own : ownKnob Tryz.prog.godebug = none := by kernel_rfl
set_option maxRecDepth 100000 in
theorem lifted (os : Os) (started : os.Started) (H : Type) (enc : TypeId × Value → H) :
    ReturnsInHanded {} Tryz.checked os 7 .any (fun w args => (Rows.dutyResetsSpec.pre enc Tryz.prog Tryz.f7 [] false w args ∧ laidMetH Tryz.prog laidRows w) ∧ sizedMet enc Tryz.prog Tryz.f7 (OpenSpec.ofChange Rows.dutyResetsSpec) false w args) (Rows.dutyResetsSpec.post enc Tryz.prog Tryz.f7 false true false false) := by
  refine returnsInHanded_of_change_and (C := Tryz.checked) (X := fun w _ => laidMetH Tryz.prog laidRows w) (fun _ _ _ hh h => h.of_heap hh) own started (by kernel_rfl) Tryz.func7
    (ChangeSpec.witness_shaped (enc := enc) (C := Tryz.checked) (os := os) (X := fun w _ => laidMetH Tryz.prog laidRows w) false (World.doorLaid Tryz.prog 33 os) #[.agg #[.slice none 0 0, .int .i64 0], .slice none 0 0, .agg #[.slice none 0 0, .slice none 0 0, .int .i64 0, .bool false], .slice none 0 0] 8 rfl (World.shaped_of_RefB (by kernel_rfl) (by kernel_rfl)) (by kernel_rfl) (by kernel_rfl) (by kernel_rfl) (door_met os _)) ?_
  intro W base args ds gs before hval0 hW _ _ hL _
  have hval : ∀ (j : Nat) t v, Tryz.f7.params[j]? = some t → args[j]? = some v → Value.okWide Tryz.prog W .any base t v := hval0
  have hW' := hW
  obtain ⟨p, q, hA0, hV, rfl, hfz, hnd⟩ := hW
  have hA : DataW.TrodAll enc Tryz.prog W 0 (fun _ => true) true Tryz.f7.params.toList args.toList ds p := hA0
  rw [Tryz.params7] at hA hval
  obtain ⟨v0, vs0, d0, ds0, p0, q0, hargs, rfl, rfl, h0, r0⟩ := trodAll_cons hA
  obtain ⟨v1, vs1, d1, ds1, p1, q1, rfl, rfl, rfl, h1, r1⟩ := trodAll_cons r0
  obtain ⟨v2, vs2, d2, ds2, p2, q2, rfl, rfl, rfl, h2, r2⟩ := trodAll_cons r1
  obtain ⟨v3, vs3, d3, ds3, p3, q3, rfl, rfl, rfl, h3, r3⟩ := trodAll_cons r2
  obtain ⟨rfl, rfl, rfl⟩ := trodAll_nil r3
  obtain rfl : args = #[v0, v1, v2, v3] := by cases args; simp_all
  clear hA0 hval0
  obtain ⟨a0, ok0, rl0⟩ := rFor.topAgg (fun _ => rfl) Tryz.underlying24 (hval 0 24 v0 rfl rfl) h0
  obtain ⟨ad1, len1, cap1, hv1⟩ := okWide_slice Tryz.underlying47 (hval 1 47 v1 rfl rfl)
  obtain ⟨a1, ok1, rl1⟩ := rStates.topOne (fun _ => rfl) (by rw [hv1]; rfl) h1
  obtain ⟨a2, ok2, rl2⟩ := rDesk.topAgg (fun _ => rfl) Tryz.underlying28 (hval 2 28 v2 rfl rfl) h2
  obtain ⟨ad3, len3, cap3, hv3⟩ := okWide_slice Tryz.underlying48 (hval 3 48 v3 rfl rfl)
  obtain ⟨a3, ok3, rl3⟩ := rClasses.topOne (fun _ => rfl) (by rw [hv3]; rfl) h3
  refine ((f7_ok a0 a1 a2 a3).law (w := W) (vs := [v0, v1, v2, v3]) (fun U μ hU => (.cons (rl0 U μ hU) (.cons (rl1 U μ hU) (.cons (rl2 U μ hU) (.cons (rl3 U μ hU) .nil))))) (tabs_of_laid hL)).mono fun e W' ⟨he, hk⟩ => ?_
  subst he
  exact ⟨_, rfl, post_of_kept (tb := 4) hW' rfl hk laid (fun t ht => by
    rw [Tryz.params7] at ht
    simp only [List.mem_cons, List.not_mem_nil, or_false] at ht
    rcases ht with rfl | rfl | rfl | rfl <;> exact ⟨by kernel_rfl, of_decide_eq_true (by kernel_rfl)⟩) rfl rfl rfl Tryz.underlying4 rfl⟩
theorem over : Rows.dutyResetsRow.holds Tryz.pinned (OpenSpec.ofChange Rows.dutyResetsSpec) :=
  OpenClaim.holds_of_wide 7 Tryz.f7 rfl rfl rfl rfl rfl rfl rfl ⟨rfl, rfl, rfl, rfl, rfl⟩ rfl rfl rfl rfl rfl (by kernel_rfl) Tryz.func7 (by kernel_rfl)
    (of_decide_eq_true (by kernel_rfl)) (by unfold Func.isWrapper; first | (rw [if_pos (by decide +kernel)]; kernel_rfl) | (rw [if_neg (by decide +kernel)]; exact ⟨rfl, rfl⟩))
    (fun os started H enc _ => lifted os started H enc)
theorem proved : Rows.DutyResetsCardSaid :=
  Claim7.holds_tied_plain_at .later [] [.listed, .data] true (true, "a272aa6dc0024143dc385abbc62e3b2035de30b7f5d1ae761c7ce7e39482514d") true
    over (fun _ h => by cases h) (by kernel_rfl) (fun _ h => by cases h) dutyResets_row_tie rfl ⟨rfl, rfl⟩ (by kernel_rfl) rfl
    (fun f fn hf hfn => by
      obtain rfl : f = 7 := Option.some.inj ((show Tryz.prog.funcNamed Rows.dutyResetsRow.func = some 7 by kernel_rfl).symm.trans hf) |>.symm
      obtain rfl : fn = Tryz.f7 := (Option.some.inj (Tryz.func7.symm.trans hfn)).symm
      exact ⟨by kernel_rfl, fun j t ht => by
        rw [Tryz.params7] at ht
        have hm : t ∈ [24, 47, 28, 48] := by simpa using Array.mem_of_getElem? ht
        have hall : ([24, 47, 28, 48].all fun u => !Tryz.prog.wantsStandIn u) = true := by kernel_rfl
        exact (show Tryz.prog.wantsStandIn t = false by simpa using List.all_eq_true.1 hall t hm)⟩)
    (by kernel_rfl)
#print axioms proved
end Go.Proofs.YtpogpigciaajoaaGreatDoor.dutyResets
