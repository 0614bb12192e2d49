/- MoveNotesCard: whatever the input: the law returns true, and each argument reads as it read before. No condition beyond the given statement. By an AI agent. -/
import Derived.Test.YtkhjcnjicjgfiaaGreatDoorWN0
import Derived.Test.YtkhjcnjicjgfiaaGreatDoorWN32
import Derived.Test.YtkhjcnjicjgfiaaGreatDoorCards
import Derived.Test.YtkhjcnjicjgfiaaGreatDoorTie
import Derived.SevenTiedAt
set_option linter.unusedSimpArgs false
set_option linter.unusedVariables false
namespace Go.Proofs.YtkhjcnjicjgfiaaGreatDoor.moveNotes
open Go.ChangeShapes Go.WideShapes Go.ChangeAt Go.RowKit Go.Am Go.Proofs.Heir
theorem own : ownKnob Tryz.prog.godebug = none := by kernel_rfl
set_option maxRecDepth 100000 in
theorem lifted (os : Os) (started : os.Started) (H : Type) (enc : TypeId × Value → H) :
    ReturnsInHanded {} Tryz.checked os 10 .any (fun w args => (Rows.moveNotesSpec.pre enc Tryz.prog Tryz.f10 [] false w args ∧ laidMetH Tryz.prog kU w) ∧ sizedMet enc Tryz.prog Tryz.f10 (OpenSpec.ofChange Rows.moveNotesSpec) false w args) (Rows.moveNotesSpec.post enc Tryz.prog Tryz.f10 false true false false) := by
  refine returnsInHanded_of_change_and (C := Tryz.checked) (X := fun w _ => laidMetH Tryz.prog kU w) (fun _ _ _ hh h => h.of_heap hh) own started (by kernel_rfl) Tryz.func10
    (ChangeSpec.witness_shaped (enc := enc) (C := Tryz.checked) (os := os) (X := fun w _ => laidMetH Tryz.prog kU w) false (World.doorLaid Tryz.prog 33 os) #[.agg #[.slice none 0 0, .int .i64 0], .slice none 0 0] 8 rfl (World.shaped_of_RefB (by kernel_rfl) (by kernel_rfl)) (by kernel_rfl) (by kernel_rfl) (by kernel_rfl) (Fz os _)) ?_
  intro W base args ds gs before hval0 hW _ _ hL _
  have hval : ∀ (j : Nat) t v, Tryz.f10.params[j]? = some t → args[j]? = some v → Value.okWide Tryz.prog W .any base t v := hval0
  have hW' := hW
  obtain ⟨p, q, hA0, hV, rfl, hfz, hnd⟩ := hW
  have hA : DataW.TrodAll enc Tryz.prog W 0 (fun _ => true) true Tryz.f10.params.toList args.toList ds p := hA0
  rw [Tryz.params10] at hA hval
  obtain ⟨v0, vs0, d0, ds0, p0, q0, hargs, rfl, rfl, h0, r0⟩ := trodAll_cons hA
  obtain ⟨v1, vs1, d1, ds1, p1, q1, rfl, rfl, rfl, h1, r1⟩ := trodAll_cons r0
  obtain ⟨rfl, rfl, rfl⟩ := trodAll_nil r1
  obtain rfl : args = #[v0, v1] := by cases args; simp_all
  clear hA0 hval0
  obtain ⟨a0, ok0, rl0⟩ := Ln.JF (fun _ => rfl) Tryz.underlying24 (hval 0 24 v0 rfl rfl) h0
  obtain ⟨ad1, len1, cap1, hv1⟩ := okWide_slice Tryz.underlying68 (hval 1 68 v1 rfl rfl)
  obtain ⟨a1, ok1, rl1⟩ := KW.IP (fun _ => rfl) (by rw [hv1]; rfl) h1
  refine ((JI a0 a1).law (w := W) (vs := [v0, v1]) (fun U μ hU => (.cons (rl0 U μ hU) (.cons (rl1 U μ hU) .nil))) (wW hL)).mono fun e W' ⟨he, hk⟩ => ?_
  subst he
  exact ⟨_, rfl, xo (tb := 4) hW' rfl hk laid (fun t ht => by
    rw [Tryz.params10] at ht
    simp only [List.mem_cons, List.not_mem_nil, or_false] at ht
    rcases ht with rfl | rfl <;> exact ⟨by kernel_rfl, of_decide_eq_true (by kernel_rfl)⟩) rfl rfl rfl Tryz.underlying4 rfl⟩
theorem jo1 : Lj Tryz.checked.prog 10 Tryz.f10 Rows.moveNotesSpec Rows.moveNotesRow = true := by kernel_rfl
theorem jo2 : Lu Tryz.checked.prog 10 Tryz.f10 Rows.moveNotesSpec Rows.moveNotesRow = true := by kernel_rfl
theorem jo3 : LR Tryz.checked.prog 10 Tryz.f10 Rows.moveNotesSpec Rows.moveNotesRow = true := by kernel_rfl
theorem jo4 : LQ Tryz.checked.prog 10 Tryz.f10 Rows.moveNotesSpec Rows.moveNotesRow = true := by kernel_rfl
theorem jo5 : LM Tryz.checked.prog 10 Tryz.f10 Rows.moveNotesSpec Rows.moveNotesRow = true := by kernel_rfl
theorem jo6 : Lv Tryz.checked.prog 10 Tryz.f10 Rows.moveNotesSpec Rows.moveNotesRow = true := by kernel_rfl
theorem jo7 : Lw Tryz.checked.prog 10 Tryz.f10 Rows.moveNotesSpec Rows.moveNotesRow = true := by kernel_rfl
theorem jo8 : L9 Tryz.checked.prog 10 Tryz.f10 Rows.moveNotesSpec Rows.moveNotesRow = true := by kernel_rfl
theorem jo9 : L3 Tryz.checked.prog 10 Tryz.f10 Rows.moveNotesSpec Rows.moveNotesRow = true := by kernel_rfl
theorem jo10 : Ji Tryz.checked.prog 10 Tryz.f10 Rows.moveNotesSpec Rows.moveNotesRow = true := by kernel_rfl
theorem jo11 : JL Tryz.checked.prog 10 Tryz.f10 Rows.moveNotesSpec Rows.moveNotesRow = true := by kernel_rfl
theorem jo12 : JA Tryz.checked.prog 10 Tryz.f10 Rows.moveNotesSpec Rows.moveNotesRow = true := by kernel_rfl
theorem jo13 : IJ Tryz.checked.prog 10 Tryz.f10 Rows.moveNotesSpec Rows.moveNotesRow = true := by kernel_rfl
theorem jo14 : JD Tryz.checked.prog 10 Tryz.f10 Rows.moveNotesSpec Rows.moveNotesRow = true := by kernel_rfl
theorem jo15 : I6 Tryz.checked.prog 10 Tryz.f10 Rows.moveNotesSpec Rows.moveNotesRow = true := by kernel_rfl
theorem jo16 : Jm Tryz.checked.prog 10 Tryz.f10 Rows.moveNotesSpec Rows.moveNotesRow = true := by kernel_rfl
theorem jo17 : Ju Tryz.checked.prog 10 Tryz.f10 Rows.moveNotesSpec Rows.moveNotesRow = true := by kernel_rfl
theorem joined : joinedFacts Tryz.checked.prog 10 Tryz.f10 Rows.moveNotesSpec Rows.moveNotesRow = true := CB (P := Tryz.checked.prog) (f := 10) (fn := Tryz.f10) (s := Rows.moveNotesSpec) (c := Rows.moveNotesRow) jo1 jo2 jo3 jo4 jo5 jo6 jo7 jo8 jo9 jo10 jo11 jo12 jo13 jo14 jo15 jo16 jo17
theorem over : Rows.moveNotesRow.holds Tryz.pinned (OpenSpec.ofChange Rows.moveNotesSpec) :=
  OpenClaim.holds_of_wide 10 Tryz.f10 rfl rfl rfl rfl rfl rfl rfl ⟨rfl, rfl, rfl, rfl, rfl⟩ rfl rfl rfl rfl rfl (by kernel_rfl) Tryz.func10 joined
    (of_decide_eq_true (by kernel_rfl)) (by unfold Func.isWrapper; first | (rw [if_pos (by decide +kernel)]; kernel_rfl) | (rw [if_neg (by decide +kernel)]; exact ⟨rfl, rfl⟩))
    (fun os started H enc _ => lifted os started H enc)
theorem pr1 : Rows.moveNotesRow.wfByText (OpenSpec.ofChange Rows.moveNotesSpec) = true := by kernel_rfl
theorem pr2 : Tryz.pinned.checked.prog.mainIs = some (true, "0f1997641acc2bca4934c8c1f734450a105ae91ac096fbc992db8dd07149691a".toList) := by kernel_rfl
theorem pr3 : Tryz.prog.funcNamed Rows.moveNotesRow.func = some 10 := by kernel_rfl
theorem pr4 : true = Tryz.pinned.checked.prog.looks [] := by kernel_rfl
theorem pr5 : ([24, 68].all fun u => !Tryz.prog.wantsStandIn u) = true := by kernel_rfl
theorem pr6 : false = Rows.moveNotesRow.goesBy Tryz.pinned.checked.prog := by kernel_rfl
theorem proved : Rows.MoveNotesCardSaid :=
  Claim7.holds_tied_plain_at .later [] [.handle] true (true, "0f1997641acc2bca4934c8c1f734450a105ae91ac096fbc992db8dd07149691a") true
    over (fun _ h => by cases h) pr1 (fun _ h => by cases h) moveNotes_row_tie rfl ⟨rfl, rfl⟩ pr2 rfl
    (fun f fn hf hfn => by
      obtain rfl : f = 10 := Option.some.inj (pr3.symm.trans hf) |>.symm
      obtain rfl : fn = Tryz.f10 := (Option.some.inj (Tryz.func10.symm.trans hfn)).symm
      exact ⟨pr4, fun j t ht => by
        rw [Tryz.params10] at ht
        have hm : t ∈ [24, 68] := by simpa using Array.mem_of_getElem? ht
        have hall : ([24, 68].all fun u => !Tryz.prog.wantsStandIn u) = true := pr5
        exact (show Tryz.prog.wantsStandIn t = false by simpa using List.all_eq_true.1 hall t hm)⟩)
    pr6
#print axioms proved
end Go.Proofs.YtkhjcnjicjgfiaaGreatDoor.moveNotes
