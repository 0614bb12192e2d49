/- AbleOutCard: whatever the input: the law returns true, and each argument reads as it read before. No condition beyond the given statement. By an AI agent. -/
import Derived.Test.YtkhjcnjicjgfiaaGreatDoorWO0
import Derived.Test.YtkhjcnjicjgfiaaGreatDoorWO33
import Derived.Test.YtkhjcnjicjgfiaaGreatDoorWO34
import Derived.Test.YtkhjcnjicjgfiaaGreatDoorCards
import Derived.Test.YtkhjcnjicjgfiaaGreatDoorTie
import Derived.SevenTiedAt
set_option linter.unusedSimpArgs false
set_option linter.unusedVariables false
namespace Go.Proofs.YtkhjcnjicjgfiaaGreatDoor.ableOut
open Go.ChangeShapes Go.WideShapes Go.ChangeAt Go.RowKit Go.Am Go.Proofs.Heir
theorem own : ownKnob Tryz.prog.godebug = none := by kernel_rfl
set_option maxRecDepth 100000 in
theorem lifted (os : Os) (started : os.Started) (H : Type) (enc : TypeId × Value → H) :
    ReturnsInHanded {} Tryz.checked os 11 .any (fun w args => (Rows.ableOutSpec.pre enc Tryz.prog Tryz.f11 [] false w args ∧ laidMetH Tryz.prog kM w) ∧ sizedMet enc Tryz.prog Tryz.f11 (OpenSpec.ofChange Rows.ableOutSpec) false w args) (Rows.ableOutSpec.post enc Tryz.prog Tryz.f11 false true false false) := by
  refine returnsInHanded_of_change_and (C := Tryz.checked) (X := fun w _ => laidMetH Tryz.prog kM w) (fun _ _ _ hh h => h.of_heap hh) own started (by kernel_rfl) Tryz.func11
    (ChangeSpec.witness_shaped (enc := enc) (C := Tryz.checked) (os := os) (X := fun w _ => laidMetH Tryz.prog kM w) false (World.doorLaid Tryz.prog 33 os) #[.agg #[.slice none 0 0, .int .i64 0], .int .u8 0, .int .u8 0] 8 rfl (World.shaped_of_RefB (by kernel_rfl) (by kernel_rfl)) (by kernel_rfl) (by kernel_rfl) (by kernel_rfl) (E9 os _)) ?_
  intro W base args ds gs before hval0 hW _ _ hL _
  have hval : ∀ (j : Nat) t v, Tryz.f11.params[j]? = some t → args[j]? = some v → Value.okWide Tryz.prog W .any base t v := hval0
  have hW' := hW
  obtain ⟨p, q, hA0, hV, rfl, hfz, hnd⟩ := hW
  have hA : DataW.TrodAll enc Tryz.prog W 0 (fun _ => true) true Tryz.f11.params.toList args.toList ds p := hA0
  rw [Tryz.params11] at hA hval
  obtain ⟨v0, vs0, d0, ds0, p0, q0, hargs, rfl, rfl, h0, r0⟩ := trodAll_cons hA
  obtain ⟨v1, vs1, d1, ds1, p1, q1, rfl, rfl, rfl, h1, r1⟩ := trodAll_cons r0
  obtain ⟨v2, vs2, d2, ds2, p2, q2, rfl, rfl, rfl, h2, r2⟩ := trodAll_cons r1
  obtain ⟨rfl, rfl, rfl⟩ := trodAll_nil r2
  obtain rfl : args = #[v0, v1, v2] := by cases args; simp_all
  clear hA0 hval0
  obtain ⟨a0, ok0, rl0⟩ := Nc.KK (fun _ => rfl) Tryz.underlying24 (hval 0 24 v0 rfl rfl) h0
  obtain ⟨a1, rfl, rfl, rfl, wa1⟩ := open_int Tryz.underlying5 (hval 1 5 v1 rfl rfl) h1
  have k1 : 0 ≤ a1 ∧ a1 < 256 := by
    have := wa1
    simp [Lit.wf, IntKind.min, IntKind.max, IntKind.signed, IntKind.bits] at this
    omega
  obtain ⟨a2, rfl, rfl, rfl, wa2⟩ := open_int Tryz.underlying5 (hval 2 5 v2 rfl rfl) h2
  have k2 : 0 ≤ a2 ∧ a2 < 256 := by
    have := wa2
    simp [Lit.wf, IntKind.min, IntKind.max, IntKind.signed, IntKind.bits] at this
    omega
  refine ((KE a0 a1 a2 k1 k2).law (w := W) (vs := [v0, .int .u8 a1, .int .u8 a2]) (fun U μ hU => (.cons (rl0 U μ hU) (.cons .lit (.cons .lit .nil)))) (xd hL)).mono fun e W' ⟨he, hk⟩ => ?_
  subst he
  exact ⟨_, rfl, xh (tb := 4) hW' rfl hk laid (fun t ht => by
    rw [Tryz.params11] at ht
    simp only [List.mem_cons, List.not_mem_nil, or_false] at ht
    rcases ht with rfl | rfl | rfl <;> exact ⟨by kernel_rfl, of_decide_eq_true (by kernel_rfl)⟩) rfl rfl rfl Tryz.underlying4 rfl⟩
theorem jo1 : NF Tryz.checked.prog 11 Tryz.f11 Rows.ableOutSpec Rows.ableOutRow = true := by kernel_rfl
theorem jo2 : Nl Tryz.checked.prog 11 Tryz.f11 Rows.ableOutSpec Rows.ableOutRow = true := by kernel_rfl
theorem jo3 : NV Tryz.checked.prog 11 Tryz.f11 Rows.ableOutSpec Rows.ableOutRow = true := by kernel_rfl
theorem jo4 : NO Tryz.checked.prog 11 Tryz.f11 Rows.ableOutSpec Rows.ableOutRow = true := by kernel_rfl
theorem jo5 : Nj Tryz.checked.prog 11 Tryz.f11 Rows.ableOutSpec Rows.ableOutRow = true := by kernel_rfl
theorem jo6 : Na Tryz.checked.prog 11 Tryz.f11 Rows.ableOutSpec Rows.ableOutRow = true := by kernel_rfl
theorem jo7 : Ns Tryz.checked.prog 11 Tryz.f11 Rows.ableOutSpec Rows.ableOutRow = true := by kernel_rfl
theorem jo8 : NN Tryz.checked.prog 11 Tryz.f11 Rows.ableOutSpec Rows.ableOutRow = true := by kernel_rfl
theorem jo9 : M5 Tryz.checked.prog 11 Tryz.f11 Rows.ableOutSpec Rows.ableOutRow = true := by kernel_rfl
theorem jo10 : Ly Tryz.checked.prog 11 Tryz.f11 Rows.ableOutSpec Rows.ableOutRow = true := by kernel_rfl
theorem jo11 : K1 Tryz.checked.prog 11 Tryz.f11 Rows.ableOutSpec Rows.ableOutRow = true := by kernel_rfl
theorem jo12 : LN Tryz.checked.prog 11 Tryz.f11 Rows.ableOutSpec Rows.ableOutRow = true := by kernel_rfl
theorem jo13 : Ln Tryz.checked.prog 11 Tryz.f11 Rows.ableOutSpec Rows.ableOutRow = true := by kernel_rfl
theorem jo14 : Lp Tryz.checked.prog 11 Tryz.f11 Rows.ableOutSpec Rows.ableOutRow = true := by kernel_rfl
theorem jo15 : LG Tryz.checked.prog 11 Tryz.f11 Rows.ableOutSpec Rows.ableOutRow = true := by kernel_rfl
theorem jo16 : KN Tryz.checked.prog 11 Tryz.f11 Rows.ableOutSpec Rows.ableOutRow = true := by kernel_rfl
theorem jo17 : Li Tryz.checked.prog 11 Tryz.f11 Rows.ableOutSpec Rows.ableOutRow = true := by kernel_rfl
theorem joined : joinedFacts Tryz.checked.prog 11 Tryz.f11 Rows.ableOutSpec Rows.ableOutRow = true := D5 (P := Tryz.checked.prog) (f := 11) (fn := Tryz.f11) (s := Rows.ableOutSpec) (c := Rows.ableOutRow) jo1 jo2 jo3 jo4 jo5 jo6 jo7 jo8 jo9 jo10 jo11 jo12 jo13 jo14 jo15 jo16 jo17
theorem over : Rows.ableOutRow.holds Tryz.pinned (OpenSpec.ofChange Rows.ableOutSpec) :=
  OpenClaim.holds_of_wide 11 Tryz.f11 rfl rfl rfl rfl rfl rfl rfl ⟨rfl, rfl, rfl, rfl, rfl⟩ rfl rfl rfl rfl rfl (by kernel_rfl) Tryz.func11 joined
    (of_decide_eq_true (by kernel_rfl)) (by unfold Func.isWrapper; first | (rw [if_pos (by decide +kernel)]; kernel_rfl) | (rw [if_neg (by decide +kernel)]; exact ⟨rfl, rfl⟩))
    (fun os started H enc _ => lifted os started H enc)
theorem pr1 : Rows.ableOutRow.wfByText (OpenSpec.ofChange Rows.ableOutSpec) = true := by kernel_rfl
theorem pr2 : Tryz.pinned.checked.prog.mainIs = some (true, "0f1997641acc2bca4934c8c1f734450a105ae91ac096fbc992db8dd07149691a".toList) := by kernel_rfl
theorem pr3 : Tryz.prog.funcNamed Rows.ableOutRow.func = some 11 := by kernel_rfl
theorem pr4 : true = Tryz.pinned.checked.prog.looks [] := by kernel_rfl
theorem pr5 : ([24, 5, 5].all fun u => !Tryz.prog.wantsStandIn u) = true := by kernel_rfl
theorem pr6 : false = Rows.ableOutRow.goesBy Tryz.pinned.checked.prog := by kernel_rfl
theorem proved : Rows.AbleOutCardSaid :=
  Claim7.holds_tied_plain_at .later [] [.handle] true (true, "0f1997641acc2bca4934c8c1f734450a105ae91ac096fbc992db8dd07149691a") true
    over (fun _ h => by cases h) pr1 (fun _ h => by cases h) ableOut_row_tie rfl ⟨rfl, rfl⟩ pr2 rfl
    (fun f fn hf hfn => by
      obtain rfl : f = 11 := Option.some.inj (pr3.symm.trans hf) |>.symm
      obtain rfl : fn = Tryz.f11 := (Option.some.inj (Tryz.func11.symm.trans hfn)).symm
      exact ⟨pr4, fun j t ht => by
        rw [Tryz.params11] at ht
        have hm : t ∈ [24, 5, 5] := by simpa using Array.mem_of_getElem? ht
        have hall : ([24, 5, 5].all fun u => !Tryz.prog.wantsStandIn u) = true := pr5
        exact (show Tryz.prog.wantsStandIn t = false by simpa using List.all_eq_true.1 hall t hm)⟩)
    pr6
#print axioms proved
end Go.Proofs.YtkhjcnjicjgfiaaGreatDoor.ableOut
