/- DeskAdds: whatever the input: the law returns true, and each argument reads as it read before. The card ties two library tables to the program's text. No condition beyond the given statement. By an AI agent. -/
import Derived.Test.YtknhlflmhonpfaaDoorEJ
import Derived.Test.YtknhlflmhonpfaaDoorER
import Derived.Test.YtknhlflmhonpfaaDoorCards
import Derived.Test.YtknhlflmhonpfaaDoorTie
import Derived.SevenTiedAt
section
set_option linter.unusedSimpArgs false
set_option linter.unusedVariables false
namespace Go.Proofs.YtknhlflmhonpfaaDoor.deskAdds
open Go.ChangeShapes Go.WideShapes Go.ChangeAt Go.RowKit Go.Am Go.Proofs.DeskD
theorem own : ownKnob Tryd.prog.godebug = none := by kernel_rfl
set_option maxRecDepth 100000 in
theorem lifted (os : Os) (started : os.Started) (H : Type) (enc : TypeId × Value → H) :
    ReturnsInHanded {} Tryd.checked os 5 .any (fun w args => (Rows.deskAddsSpec.pre enc Tryd.prog Tryd.f5 [] false w args ∧ laidMetH Tryd.prog laidRows w) ∧ sizedMet enc Tryd.prog Tryd.f5 (OpenSpec.ofChange Rows.deskAddsSpec) false w args) (Rows.deskAddsSpec.post enc Tryd.prog Tryd.f5 false true false false) := by
  refine returnsInHanded_of_change_and (C := Tryd.checked) (X := fun w _ => laidMetH Tryd.prog laidRows w) (fun _ _ _ hh h => h.of_heap hh) own started (by kernel_rfl) Tryd.func5
    (ChangeSpec.witness_shaped (enc := enc) (C := Tryd.checked) (os := os) (X := fun w _ => laidMetH Tryd.prog laidRows w) false (World.doorLaid Tryd.prog 33 os) #[.agg #[.slice none 0 0, .slice none 0 0, .int .i64 0, .bool false], .int .i64 0, .string ⟨#[]⟩, .string ⟨#[]⟩, .string ⟨#[]⟩, .string ⟨#[]⟩, .int .i64 0] 8 rfl (World.shaped_of_RefB (by kernel_rfl) (by kernel_rfl)) (by kernel_rfl) (by kernel_rfl) (by kernel_rfl) (door_met os _)) ?_
  intro W base args ds gs before hval0 hW _ _ hL _
  have hval : ∀ (j : Nat) t v, Tryd.f5.params[j]? = some t → args[j]? = some v → Value.okWide Tryd.prog W .any base t v := hval0
  have hW' := hW
  obtain ⟨p, q, hA0, hV, rfl, hfz, hnd⟩ := hW
  have hA : DataW.TrodAll enc Tryd.prog W 0 (fun _ => true) true Tryd.f5.params.toList args.toList ds p := hA0
  rw [Tryd.params5] at hA hval
  obtain ⟨v0, vs0, d0, ds0, p0, q0, hargs, rfl, rfl, h0, r0⟩ := trodAll_cons hA
  obtain ⟨v1, vs1, d1, ds1, p1, q1, rfl, rfl, rfl, h1, r1⟩ := trodAll_cons r0
  obtain ⟨v2, vs2, d2, ds2, p2, q2, rfl, rfl, rfl, h2, r2⟩ := trodAll_cons r1
  obtain ⟨v3, vs3, d3, ds3, p3, q3, rfl, rfl, rfl, h3, r3⟩ := trodAll_cons r2
  obtain ⟨v4, vs4, d4, ds4, p4, q4, rfl, rfl, rfl, h4, r4⟩ := trodAll_cons r3
  obtain ⟨v5, vs5, d5, ds5, p5, q5, rfl, rfl, rfl, h5, r5⟩ := trodAll_cons r4
  obtain ⟨v6, vs6, d6, ds6, p6, q6, rfl, rfl, rfl, h6, r6⟩ := trodAll_cons r5
  obtain ⟨rfl, rfl, rfl⟩ := trodAll_nil r6
  obtain rfl : args = #[v0, v1, v2, v3, v4, v5, v6] := by cases args; simp_all
  clear hA0 hval0
  obtain ⟨a0, ok0, rl0⟩ := rDesk.topAgg (fun _ => rfl) Tryd.underlying25 (hval 0 25 v0 rfl rfl) h0
  obtain ⟨a1, rfl, rfl, rfl, wa1⟩ := open_int Tryd.underlying3 (hval 1 3 v1 rfl rfl) h1
  obtain ⟨s2, hv2⟩ := okWide_string Tryd.underlying9 (hval 2 9 v2 rfl rfl)
  obtain ⟨a2, ok2, rl2⟩ := rStr.topOne (fun _ => rfl) (by rw [hv2]; rfl) h2
  obtain ⟨s3, hv3⟩ := okWide_string Tryd.underlying9 (hval 3 9 v3 rfl rfl)
  obtain ⟨a3, ok3, rl3⟩ := rStr.topOne (fun _ => rfl) (by rw [hv3]; rfl) h3
  obtain ⟨s4, hv4⟩ := okWide_string Tryd.underlying9 (hval 4 9 v4 rfl rfl)
  obtain ⟨a4, ok4, rl4⟩ := rStr.topOne (fun _ => rfl) (by rw [hv4]; rfl) h4
  obtain ⟨s5, hv5⟩ := okWide_string Tryd.underlying9 (hval 5 9 v5 rfl rfl)
  obtain ⟨a5, ok5, rl5⟩ := rStr.topOne (fun _ => rfl) (by rw [hv5]; rfl) h5
  obtain ⟨a6, rfl, rfl, rfl, wa6⟩ := open_int Tryd.underlying3 (hval 6 3 v6 rfl rfl) h6
  refine ((f5_ok a0 a1 a2 a3 a4 a5 a6).law (w := W) (vs := [v0, .int .i64 a1, v2, v3, v4, v5, .int .i64 a6]) (fun U μ hU => (.cons (rl0 U μ hU) (.cons .lit (.cons (rl2 U μ hU) (.cons (rl3 U μ hU) (.cons (rl4 U μ hU) (.cons (rl5 U μ hU) (.cons .lit .nil)))))))) (tabs_of_laid hL)).mono fun e W' ⟨he, hk⟩ => ?_
  subst he
  exact ⟨_, rfl, post_of_kept (tb := 4) hW' rfl hk laid (fun t ht => by
    rw [Tryd.params5] at ht
    simp only [List.mem_cons, List.not_mem_nil, or_false] at ht
    rcases ht with rfl | rfl | rfl | rfl | rfl | rfl | rfl <;> exact ⟨by kernel_rfl, of_decide_eq_true (by kernel_rfl)⟩) rfl rfl rfl Tryd.underlying4 rfl⟩
theorem over : Rows.deskAddsRow.holds Tryd.pinned (OpenSpec.ofChange Rows.deskAddsSpec) :=
  OpenClaim.holds_of_wide 5 Tryd.f5 rfl rfl rfl rfl rfl rfl rfl ⟨rfl, rfl, rfl, rfl, rfl⟩ rfl rfl rfl rfl rfl (by kernel_rfl) Tryd.func5 (by kernel_rfl)
    (of_decide_eq_true (by kernel_rfl)) (by unfold Func.isWrapper; first | (rw [if_pos (by decide +kernel)]; kernel_rfl) | (rw [if_neg (by decide +kernel)]; exact ⟨rfl, rfl⟩))
    (fun os started H enc _ => lifted os started H enc)
theorem proved : Rows.DeskAddsCardSaid :=
  Claim7.holds_tied_plain_at .later [] [.listed, .data] true (true, "5505e01d9cb85d883d0ec50aee2eec0a845a9d6a1bfeffec6fd348fd5d3b76df") false
    over (fun _ h => by cases h) (by kernel_rfl) (fun _ h => by cases h) deskAdds_row_tie rfl ⟨rfl, rfl⟩ (by kernel_rfl) rfl
    (fun f fn hf hfn => by
      obtain rfl : f = 5 := Option.some.inj ((show Tryd.prog.funcNamed Rows.deskAddsRow.func = some 5 by kernel_rfl).symm.trans hf) |>.symm
      obtain rfl : fn = Tryd.f5 := (Option.some.inj (Tryd.func5.symm.trans hfn)).symm
      exact ⟨by kernel_rfl, fun j t ht => by
        rw [Tryd.params5] at ht
        have hm : t ∈ [25, 3, 9, 9, 9, 9, 3] := by simpa using Array.mem_of_getElem? ht
        have hall : ([25, 3, 9, 9, 9, 9, 3].all fun u => !Tryd.prog.wantsStandIn u) = true := by kernel_rfl
        exact (show Tryd.prog.wantsStandIn t = false by simpa using List.all_eq_true.1 hall t hm)⟩)
    (by kernel_rfl)
#print axioms proved
end Go.Proofs.YtknhlflmhonpfaaDoor.deskAdds
end
