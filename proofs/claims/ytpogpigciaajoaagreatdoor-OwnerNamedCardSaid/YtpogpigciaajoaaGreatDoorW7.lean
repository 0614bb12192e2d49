/- Models, plain laws and contracts of functions of the given program; conditions as stated in each theorem. By an AI agent. -/
import Derived.Test.YtpogpigciaajoaaGreatDoorW4
import Derived.Test.YtpogpigciaajoaaGreatDoorW5
import Derived.Test.YtpogpigciaajoaaGreatDoorW6
set_option linter.unusedSimpArgs false
set_option linter.unusedVariables false
namespace Go.Proofs.Heir
open Go Go.Am Go.RowKit Go.Lib
set_option maxRecDepth 100000
set_option maxHeartbeats 8000000
def rowsB (wd : Nat) (rows : List AV) : Bool := match rows with
 | [] => false
 | _ :: _ => Nat.ble rows.length 1000 && (noRefL rows && oneL (flat rows))
theorem rowsB_ok {wd : Nat} {rows : List AV} (h : rowsB wd rows = true) : rows ≠ [] ∧ rows.length ≤ 1000 ∧ noRefL rows = true ∧ oneL (flat rows) = true := by
 unfold rowsB at h
 split at h
 ·cases h
 ·simp only [Bool.and_eq_true] at h
  exact ⟨by simp, Nat.le_of_ble_eq_true h.1, h.2.1, h.2.2⟩
theorem f137_rows {rows : List AV} (h : rowsB 10 rows = true) : FnOK Tryz.prog 137 [] [.sl 10 rows] [.live 10 rows false] (.own 0 0 rows.length) := by
 obtain ⟨h1, h2, h3, h4⟩ := rowsB_ok h
 refine FnOK.startC (rvs := [.tmp 2]) G G_good Tryz.func137 rfl Tryz.ntmps137 rfl rfl ?_; with_reducible refine wD ?_
 refine GuessK.mk (fun h => ?_) (fun _ => ?_) <;> with_reducible refine wK ?_
 ·exact absurd (by simpa using h) h1
 ·refine AppK.mk [] rows ⟨rfl, rfl, rfl⟩ ⟨rfl, rfl, rfl⟩ h4 (by simp; omega) (by simp; omega) ?_; with_reducible refine wK ?_
  (refine eK ?_ ?_ <;> with_reducible repeat' (first | exact trivial | (show _ ∧ _; refine aK ?_ ?_)))
  all_goals first | rfl | exact MFL_refl h3
theorem f182_rows {rows : List AV} (h : rowsB 1 rows = true) : FnOK Tryz.prog 182 [] [.sl 1 rows] [.live 1 rows false] (.own 0 0 rows.length) := by
 obtain ⟨h1, h2, h3, h4⟩ := rowsB_ok h
 refine FnOK.startC (rvs := [.tmp 2]) G G_good Tryz.func182 rfl Tryz.ntmps182 rfl rfl ?_; with_reducible refine wD ?_
 refine GuessK.mk (fun h => ?_) (fun _ => ?_) <;> with_reducible refine wK ?_
 ·exact absurd (by simpa using h) h1
 ·refine AppK.mk [] rows ⟨rfl, rfl, rfl⟩ ⟨rfl, rfl, rfl⟩ h4 (by simp; omega) (by simp; omega) ?_; with_reducible refine wK ?_
  (refine eK ?_ ?_ <;> with_reducible repeat' (first | exact trivial | (show _ ∧ _; refine aK ?_ ?_)))
  all_goals first | rfl | exact MFL_refl h3
def orcB : CallT := fun g ins args => match g with
 | 137 => match ins, args with
   | [], [.sl 10 rows] => match rowsB 10 rows with
     | true => some ([.live 10 rows false], .own 0 0 rows.length)
     | false => none
   | _, _ => none
 | 182 => match ins, args with
   | [], [.sl 1 rows] => match rowsB 1 rows with
     | true => some ([.live 1 rows false], .own 0 0 rows.length)
     | false => none
   | _, _ => none
 | g => orcA g ins args
theorem orcB_ok : ∀ g ins args outs res, orcB g ins args = some (outs, res) → FnOK Tryz.prog g ins args outs res ∧ Callable Tryz.prog g := by
 intro g ins args outs res h
 unfold orcB at h
 split at h
 ·split at h
  ·split at h
   ·rename_i hb; cases h; exact ⟨f137_rows hb, c137⟩
   ·cases h
  ·cases h
 ·split at h
  ·split at h
   ·rename_i hb; cases h; exact ⟨f182_rows hb, c182⟩
   ·cases h
  ·cases h
 ·exact orcA_ok _ _ _ _ _ h
theorem f163_nil (n : Int) : FnOK Tryz.prog 163 [.live 1 [eInt n] false] [.lit (.slice none 0 0), eInt 0, .own 0 0 1] [.live 1 [eInt n] false, .live 1 [eInt n] false] (.own 1 0 1) := by
 refine FnOK.startC (rvs := [.tmp 6]) G G_good Tryz.func163 rfl Tryz.ntmps163 rfl rfl ?_; with_reducible refine wD ?_
 refine ⟨[], .lit (.slice none 0 0), [], EffOK.lits (ρ := fun y => match y with | .tmp 10 => .slice none 0 0 | _ => .int .i64 0) (r := .slice none 0 0) (by simp) (fun y hy => ?_) (fun w => ?_) (dst_ok rfl), ?_⟩
 ·simp [Op.operands] at hy
  rcases hy with rfl | rfl <;> rfl
 ·kernel_rfl
 with_reducible refine wK ?_
 repeat' (first
  | refine gK ?_ | refine aE ?_ ?_
  | (((with_reducible show AppK _ _ _ _ _ _ _ _ _ _); refine AppK.mk [] [eInt n] ⟨rfl, rfl, rfl⟩ ⟨rfl, rfl, rfl⟩ rfl (by simp) (by simp) ?_) <;> with_reducible refine wK ?_)
  | apply trivial)
 all_goals first | rfl | exact ⟨.refl rfl, rfl⟩
theorem f182_emp : FnOK Tryz.prog 182 [] [.sl 1 []] [.live 1 [] false] (.own 0 0 0) := by
 refine FnOK.startC (rvs := [.tmp 2]) G G_good Tryz.func182 rfl Tryz.ntmps182 rfl rfl ?_; with_reducible refine wD ?_
 refine GuessK.mk (fun h => ?_) (fun _ => ?_) <;> with_reducible refine wK ?_
 ·(refine eK ?_ ?_ <;> with_reducible repeat' (first | exact trivial | (show _ ∧ _; refine aK ?_ ?_)))
  all_goals first | rfl | exact ⟨.refl rfl, rfl⟩ | trivial
 ·refine AppK.mk [] [] ⟨rfl, rfl, rfl⟩ ⟨rfl, rfl, rfl⟩ rfl (by simp) (by simp) ?_; with_reducible refine wK ?_
  (refine eK ?_ ?_ <;> with_reducible repeat' (first | exact trivial | (show _ ∧ _; refine aK ?_ ?_)))
  all_goals first | rfl | exact ⟨.refl rfl, rfl⟩ | trivial
def orcC : CallT := fun g ins args => match g with
 | 182 => match ins, args with
   | [], [.sl 1 []] => some ([.live 1 [] false], .own 0 0 0)
   | _, _ => orcB 182 ins args
 | 163 => match ins, args with
   | [.live 1 [.lit (.int .i64 n)] false], [.lit (.slice none 0 0), .lit (.int .i64 0), .own 0 0 1] => some ([.live 1 [eInt n] false, .live 1 [eInt n] false], .own 1 0 1)
   | _, _ => none
 | g => orcB g ins args
theorem orcC_ok : ∀ g ins args outs res, orcC g ins args = some (outs, res) → FnOK Tryz.prog g ins args outs res ∧ Callable Tryz.prog g := by
 intro g ins args outs res h
 unfold orcC at h
 split at h
 ·split at h
  ·cases h; exact ⟨f182_emp, c182⟩
  ·exact orcB_ok _ _ _ _ _ h
 ·split at h
  ·cases h; exact ⟨f163_nil _, c163⟩
  ·cases h
 ·exact orcB_ok _ _ _ _ _ h
end Go.Proofs.Heir
