/- The walk of the law AuditParts. By an AI agent. -/
import Derived.Test.YtebingflknhcjaaVD
section
set_option linter.unusedSimpArgs false
set_option linter.unusedVariables false
namespace Go.Proofs.Audit
open Go Go.Am Go.RowKit Go.Lib
set_option maxRecDepth 100000
theorem HandK.remAt {P : Program} {N : Nat} {o : Oper} {acc : Tk} {sl : SL} {m : ML} {R : Am.Rest} {ty : TypeId} {κ : IntKind} {x y : Operand} {a b r : Int} (ha : 0 ≤ a) (hb : 0 < b) (hr : a % b = r) (ho : o.op = .binOp .rem ty x y ty) (h1 : evB sl x = .lit (.int κ a)) (h2 : evB sl y = .lit (.int κ b)) (hd : dstB N o.dst = true) (h : R [] (.lit (.int κ r)) [] acc sl m) : HandK P N acc sl m (o := o) (R := R) :=
  HandK.rem ha hb ho h1 h2 hd (by rw [hr]; exact h)
theorem rem_nat (c : Int) (n : Nat) : ∃ k : Nat, c % ((n : Int) + 1) = k ∧ k ≤ n := by
  have h1 := Int.emod_nonneg c (show ((n : Int) + 1) ≠ 0 by omega)
  have h2 := Int.emod_lt_of_pos c (show 0 < (n : Int) + 1 by omega)
  exact ⟨(c % ((n : Int) + 1)).toNat, by omega, by omega⟩
theorem oneL_mks (l : List MkM) : oneL (flat (l.map oMk)) = true := oneL_map oMk (fun _ => rfl) l
theorem take_ok {l : List MkM} (hd : ∀ x ∈ l, okD x) (k : Nat) : ∀ x ∈ l.take k, okD x := fun x hx => hd x (List.mem_of_mem_take hx)
set_option maxHeartbeats 16000000 in
/-- AuditParts -/
theorem f4_ok (l : List MkM) (hd : ∀ x ∈ l, okD x) (c : Int) (hc : 0 ≤ c ∧ c < 256) (x : MkM) (hx : okD x) : FnOK Try.prog 4 [] [eMks l, .lit (.int .u8 c), eMk x] [] (eBool true) := by
  have hlm : (l.map oMk).length = l.length := List.length_map ..
  refine FnOK.startC (rvs := [.tmp 6]) G G_good Try.func4 rfl Try.ntmps4 rfl rfl ?_; delta List.toArray; ((with_reducible conv => whnf); (with_reducible conv => congr <;> reduce); repeat ((first | (with_reducible refine HaltK.mk ?_) | (with_reducible refine StopK.mk ?_)); (with_reducible conv => whnf); (with_reducible conv => congr <;> reduce)))
  refine CallK.lit [] f7_ok c7 trivial rfl rfl ?_; ((with_reducible conv => whnf); (with_reducible conv => congr <;> reduce); repeat ((first | (with_reducible refine HaltK.mk ?_) | (with_reducible refine StopK.mk ?_)); (with_reducible conv => whnf); (with_reducible conv => congr <;> reduce)))
  by_cases g : 200 < l.length
  · have g' : (200 < (l.length : Int)) = True := eq_true (by omega)
    repeat' (first
    | (first
    | ((with_reducible show IfK _ _ _ _); first | refine IfK.ff ?_ | refine IfK.tt ?_ | refine IfK.no (by first | rfl | assumption | exact nf (by assumption) | exact nt (by assumption) | ((try simp only [castN]); first | (simp [hlm, g']; done) | (simp [hlm, g']; omega))) ?_ | refine IfK.yes (by first | rfl | assumption | exact nf (by assumption) | exact nt (by assumption) | ((try simp only [castN]); first | (simp [hlm, g']; done) | (simp [hlm, g']; omega))) ?_)
    | ((with_reducible show NeedK _ _ _ _); refine NeedK.mk (by (try simp only [castN]); omega) ?_)
    | ((with_reducible show DrawK _ _ _ _); refine DrawK.mk (by kernel_rfl) (by kernel_rfl) (by kernel_rfl) ?_)) <;> ((with_reducible conv => whnf); (with_reducible conv => congr <;> reduce); repeat ((first | (with_reducible refine HaltK.mk ?_) | (with_reducible refine StopK.mk ?_)); (with_reducible conv => whnf); (with_reducible conv => congr <;> reduce)))
    | ((with_reducible show (_ ∧ _) ∧ _ ∧ _); refine ⟨⟨rfl, rfl⟩, ?_, ?_⟩ <;> (with_reducible conv => whnf) <;> repeat' (first | (with_reducible exact trivial) | (with_reducible refine And.intro ?_ ?_ <;> with_reducible conv => whnf))))
  · have g' : (200 < (l.length : Int)) = False := eq_false (by omega)
    have hl : l.length ≤ 100000 := by omega
    obtain ⟨k, hk, hkl⟩ := rem_nat c l.length
    have hkt : (l.take k).length ≤ 100000 := by rw [List.length_take]; omega
    have hcutm : (l.take k).map oMk = ((l.map oMk).drop 0).take k := by rw [List.drop_zero, List.map_take]
    obtain ⟨a, ha⟩ : ∃ a, checkM book0 0 l = a := ⟨_, rfl⟩
    obtain ⟨b, hb⟩ : ∃ b, checkM book0 0 (l.take k) = b := ⟨_, rfl⟩
    obtain ⟨d, hdd⟩ : ∃ d, checkM book0 0 (l ++ [x]) = d := ⟨_, rfl⟩
    have t1 := check_take l k
    have t2 := check_take_at l k
    have t3 := check_range l
    have t4 := check_more l x
    rw [ha, hb] at t1 t2
    rw [ha] at t3 t4
    rw [hdd] at t4
    have hdx : ∀ y ∈ l ++ [x], okD y := fun y hy => by
      rcases List.mem_append.1 hy with h | h
      · exact hd y h
      · simp at h; rw [h]; exact hx
    by_cases ga : a = -1
    · subst ga
      have hb1 : b = -1 := t1 (.inl rfl)
      subst hb1
      obtain ⟨h5, h6⟩ := t4 rfl
      have hlx : (l ++ [x]).length ≤ 100000 := by rw [List.length_append]; simp; omega
      have hrows : (l ++ [x]).map oMk = (l.map oMk ++ [eMk x]).take (l.map oMk ++ [eMk x]).length := by rw [List.take_length]; simp [oMk]
      have hcase : (l = [] ∨ ∃ (j : Nat) (y : MkM), l.length = j + 1 ∧ l[j]? = some y ∧ l.getLast? = some y) := by
        by_cases hnil : l = []
        · exact .inl hnil
        · obtain ⟨l', y, rfl⟩ := snoc_of_ne hnil
          exact .inr ⟨l'.length, y, by simp, by simp, by simp⟩
      have hd2 : d = -1 ∨ (¬ d = -1 ∧ d = (l.length : Int)) := by
        rcases h5 with h | h
        · exact .inl h
        · right; exact ⟨by omega, h⟩
      rcases hcase with hnil | ⟨j, y, hj, hy, hlast⟩
      · have hpos : (0 < (l.length : Int)) = False := eq_false (by rw [hnil]; simp)
        rcases hd2 with e | ⟨e1, e2⟩
        · subst e
          repeat' (first
    | (first
    | ((with_reducible show IfK _ _ _ _); first | refine IfK.ff ?_ | refine IfK.tt ?_ | refine IfK.no (by first | rfl | assumption | exact nf (by assumption) | exact nt (by assumption) | ((try simp only [castN]); first | (simp [hlm, g', hpos]; done) | (simp [hlm, g', hpos]; omega))) ?_ | refine IfK.yes (by first | rfl | assumption | exact nf (by assumption) | exact nt (by assumption) | ((try simp only [castN]); first | (simp [hlm, g', hpos]; done) | (simp [hlm, g', hpos]; omega))) ?_)
    | ((with_reducible show NeedK _ _ _ _); refine NeedK.mk (by (try simp only [castN]); omega) ?_)
    | ((with_reducible show DrawK _ _ _ _); refine DrawK.mk (by kernel_rfl) (by kernel_rfl) (by kernel_rfl) ?_)
    | ((with_reducible show CallK _ _ 8 _ _ _ _); first | refine CallK.lit [] (f8_at hl hd ha) c8 ⟨rfl, trivial⟩ rfl rfl ?_ | refine CallK.lit [] (f8_at hkt (take_ok hd k) hb) c8 ⟨rfl, trivial⟩ rfl rfl ?_ | refine CallK.lit [551] (f8_at (l := l ++ [x]) hlx hdx hdd) c8 ⟨frz_mks rfl rfl (Nat.le_refl _) hrows, trivial⟩ rfl rfl ?_)
    | ((with_reducible show ConvK _ _ _ _ _ _ _); refine ConvK.int (by kernel_rfl) (by kernel_rfl) (wrap_u8 hc) ?_)
    | ((with_reducible show HandK _ _ _ _ _); refine HandK.remAt hc.1 (by simp only [castN]; omega) (by simp only [castN, hlm]; exact hk) rfl rfl rfl rfl ?_)
    | ((with_reducible show CutFK _ _ _ _ _ _); refine CutFK.mk 0 k ((l.take k).map oMk) rfl (by (try simp only [castN]); omega) (by omega) hcutm ?_)
    | ((with_reducible show AppK _ _ _ _ _ _ _ _ _ _); first | refine AppK.mk (l.map oMk) [eMk x] ⟨rfl, rfl, rfl⟩ ⟨rfl, rfl, rfl⟩ rfl (by simp; omega) (by simp; omega) ?_ | refine AppK.mk [] (l.map oMk) ⟨rfl, rfl, rfl⟩ ⟨rfl, rfl, rfl⟩ (oneL_mks l) (by simp; omega) (by simp; omega) ?_)) <;> ((with_reducible conv => whnf); (with_reducible conv => congr <;> reduce); repeat ((first | (with_reducible refine HaltK.mk ?_) | (with_reducible refine StopK.mk ?_)); (with_reducible conv => whnf); (with_reducible conv => congr <;> reduce)))
    | ((with_reducible show (_ ∧ _) ∧ _ ∧ _); refine ⟨⟨rfl, rfl⟩, ?_, ?_⟩ <;> (with_reducible conv => whnf) <;> repeat' (first | (with_reducible exact trivial) | (with_reducible refine And.intro ?_ ?_ <;> with_reducible conv => whnf))))
          all_goals first | rfl | (simp; done) | trace_state
        · have e1' := eq_false e1
          have e2' := eq_true e2
          repeat' (first
    | (first
    | ((with_reducible show IfK _ _ _ _); first | refine IfK.ff ?_ | refine IfK.tt ?_ | refine IfK.no (by first | rfl | assumption | exact nf (by assumption) | exact nt (by assumption) | ((try simp only [castN]); first | (simp [hlm, g', hpos, e1', e2']; done) | (simp [hlm, g', hpos, e1', e2']; omega))) ?_ | refine IfK.yes (by first | rfl | assumption | exact nf (by assumption) | exact nt (by assumption) | ((try simp only [castN]); first | (simp [hlm, g', hpos, e1', e2']; done) | (simp [hlm, g', hpos, e1', e2']; omega))) ?_)
    | ((with_reducible show NeedK _ _ _ _); refine NeedK.mk (by (try simp only [castN]); omega) ?_)
    | ((with_reducible show DrawK _ _ _ _); refine DrawK.mk (by kernel_rfl) (by kernel_rfl) (by kernel_rfl) ?_)
    | ((with_reducible show CallK _ _ 8 _ _ _ _); first | refine CallK.lit [] (f8_at hl hd ha) c8 ⟨rfl, trivial⟩ rfl rfl ?_ | refine CallK.lit [] (f8_at hkt (take_ok hd k) hb) c8 ⟨rfl, trivial⟩ rfl rfl ?_ | refine CallK.lit [551] (f8_at (l := l ++ [x]) hlx hdx hdd) c8 ⟨frz_mks rfl rfl (Nat.le_refl _) hrows, trivial⟩ rfl rfl ?_)
    | ((with_reducible show ConvK _ _ _ _ _ _ _); refine ConvK.int (by kernel_rfl) (by kernel_rfl) (wrap_u8 hc) ?_)
    | ((with_reducible show HandK _ _ _ _ _); refine HandK.remAt hc.1 (by simp only [castN]; omega) (by simp only [castN, hlm]; exact hk) rfl rfl rfl rfl ?_)
    | ((with_reducible show CutFK _ _ _ _ _ _); refine CutFK.mk 0 k ((l.take k).map oMk) rfl (by (try simp only [castN]); omega) (by omega) hcutm ?_)
    | ((with_reducible show AppK _ _ _ _ _ _ _ _ _ _); first | refine AppK.mk (l.map oMk) [eMk x] ⟨rfl, rfl, rfl⟩ ⟨rfl, rfl, rfl⟩ rfl (by simp; omega) (by simp; omega) ?_ | refine AppK.mk [] (l.map oMk) ⟨rfl, rfl, rfl⟩ ⟨rfl, rfl, rfl⟩ (oneL_mks l) (by simp; omega) (by simp; omega) ?_)) <;> ((with_reducible conv => whnf); (with_reducible conv => congr <;> reduce); repeat ((first | (with_reducible refine HaltK.mk ?_) | (with_reducible refine StopK.mk ?_)); (with_reducible conv => whnf); (with_reducible conv => congr <;> reduce)))
    | ((with_reducible show (_ ∧ _) ∧ _ ∧ _); refine ⟨⟨rfl, rfl⟩, ?_, ?_⟩ <;> (with_reducible conv => whnf) <;> repeat' (first | (with_reducible exact trivial) | (with_reducible refine And.intro ?_ ?_ <;> with_reducible conv => whnf))))
          all_goals first | rfl | (simp [e2]; done) | trace_state
      · have hpos : (0 < (l.length : Int)) = True := eq_true (by omega)
        have hsub : (l.length : Int) - 1 = (j : Int) := by omega
        obtain ⟨ykd, ydp, ynd, ywt, yer, ynm, yb1, yb2, yol, ynw, yfr, yto, yon⟩ := y
        by_cases y10 : ykd = 10
        · have e2 := h6 _ hlast y10
          have e2' := eq_true e2
          repeat' (first
    | (first
    | ((with_reducible show IfK _ _ _ _); first | refine IfK.ff ?_ | refine IfK.tt ?_ | refine IfK.no (by first | rfl | assumption | exact nf (by assumption) | exact nt (by assumption) | ((try simp only [castN]); first | (simp [hlm, g', hpos, y10, e2']; done) | (simp [hlm, g', hpos, y10, e2']; omega))) ?_ | refine IfK.yes (by first | rfl | assumption | exact nf (by assumption) | exact nt (by assumption) | ((try simp only [castN]); first | (simp [hlm, g', hpos, y10, e2']; done) | (simp [hlm, g', hpos, y10, e2']; omega))) ?_)
    | ((with_reducible show NeedK _ _ _ _); refine NeedK.mk (by (try simp only [castN]); omega) ?_)
    | ((with_reducible show DrawK _ _ _ _); refine DrawK.mk (by kernel_rfl) (by kernel_rfl) (by kernel_rfl) ?_)
    | ((with_reducible show CallK _ _ 8 _ _ _ _); first | refine CallK.lit [] (f8_at hl hd ha) c8 ⟨rfl, trivial⟩ rfl rfl ?_ | refine CallK.lit [] (f8_at hkt (take_ok hd k) hb) c8 ⟨rfl, trivial⟩ rfl rfl ?_ | refine CallK.lit [551] (f8_at (l := l ++ [x]) hlx hdx hdd) c8 ⟨frz_mks rfl rfl (Nat.le_refl _) hrows, trivial⟩ rfl rfl ?_)
    | ((with_reducible show ConvK _ _ _ _ _ _ _); refine ConvK.int (by kernel_rfl) (by kernel_rfl) (wrap_u8 hc) ?_)
    | ((with_reducible show HandK _ _ _ _ _); refine HandK.remAt hc.1 (by simp only [castN]; omega) (by simp only [castN, hlm]; exact hk) rfl rfl rfl rfl ?_)
    | ((with_reducible show CutFK _ _ _ _ _ _); refine CutFK.mk 0 k ((l.take k).map oMk) rfl (by (try simp only [castN]); omega) (by omega) hcutm ?_)
    | ((with_reducible show AppK _ _ _ _ _ _ _ _ _ _); first | refine AppK.mk (l.map oMk) [eMk x] ⟨rfl, rfl, rfl⟩ ⟨rfl, rfl, rfl⟩ rfl (by simp; omega) (by simp; omega) ?_ | refine AppK.mk [] (l.map oMk) ⟨rfl, rfl, rfl⟩ ⟨rfl, rfl, rfl⟩ (oneL_mks l) (by simp; omega) (by simp; omega) ?_)
    | ((with_reducible show IdxK _ _ _ _ _); refine IdxK.mk j (eMk ⟨ykd, ydp, ynd, ywt, yer, ynm, yb1, yb2, yol, ynw, yfr, yto, yon⟩) (by simp only [castN, hlm]; exact hsub) (mk_get hy) ?_)) <;> ((with_reducible conv => whnf); (with_reducible conv => congr <;> reduce); repeat ((first | (with_reducible refine HaltK.mk ?_) | (with_reducible refine StopK.mk ?_)); (with_reducible conv => whnf); (with_reducible conv => congr <;> reduce)))
    | ((with_reducible show (_ ∧ _) ∧ _ ∧ _); refine ⟨⟨rfl, rfl⟩, ?_, ?_⟩ <;> (with_reducible conv => whnf) <;> repeat' (first | (with_reducible exact trivial) | (with_reducible refine And.intro ?_ ?_ <;> with_reducible conv => whnf))))
          all_goals first | rfl | (simp [e2]; done) | trace_state
        · have y10' := eq_false y10
          rcases hd2 with e | ⟨e1, e2⟩
          · subst e
            repeat' (first
    | (first
    | ((with_reducible show IfK _ _ _ _); first | refine IfK.ff ?_ | refine IfK.tt ?_ | refine IfK.no (by first | rfl | assumption | exact nf (by assumption) | exact nt (by assumption) | ((try simp only [castN]); first | (simp [hlm, g', hpos, y10']; done) | (simp [hlm, g', hpos, y10']; omega))) ?_ | refine IfK.yes (by first | rfl | assumption | exact nf (by assumption) | exact nt (by assumption) | ((try simp only [castN]); first | (simp [hlm, g', hpos, y10']; done) | (simp [hlm, g', hpos, y10']; omega))) ?_)
    | ((with_reducible show NeedK _ _ _ _); refine NeedK.mk (by (try simp only [castN]); omega) ?_)
    | ((with_reducible show DrawK _ _ _ _); refine DrawK.mk (by kernel_rfl) (by kernel_rfl) (by kernel_rfl) ?_)
    | ((with_reducible show CallK _ _ 8 _ _ _ _); first | refine CallK.lit [] (f8_at hl hd ha) c8 ⟨rfl, trivial⟩ rfl rfl ?_ | refine CallK.lit [] (f8_at hkt (take_ok hd k) hb) c8 ⟨rfl, trivial⟩ rfl rfl ?_ | refine CallK.lit [551] (f8_at (l := l ++ [x]) hlx hdx hdd) c8 ⟨frz_mks rfl rfl (Nat.le_refl _) hrows, trivial⟩ rfl rfl ?_)
    | ((with_reducible show ConvK _ _ _ _ _ _ _); refine ConvK.int (by kernel_rfl) (by kernel_rfl) (wrap_u8 hc) ?_)
    | ((with_reducible show HandK _ _ _ _ _); refine HandK.remAt hc.1 (by simp only [castN]; omega) (by simp only [castN, hlm]; exact hk) rfl rfl rfl rfl ?_)
    | ((with_reducible show CutFK _ _ _ _ _ _); refine CutFK.mk 0 k ((l.take k).map oMk) rfl (by (try simp only [castN]); omega) (by omega) hcutm ?_)
    | ((with_reducible show AppK _ _ _ _ _ _ _ _ _ _); first | refine AppK.mk (l.map oMk) [eMk x] ⟨rfl, rfl, rfl⟩ ⟨rfl, rfl, rfl⟩ rfl (by simp; omega) (by simp; omega) ?_ | refine AppK.mk [] (l.map oMk) ⟨rfl, rfl, rfl⟩ ⟨rfl, rfl, rfl⟩ (oneL_mks l) (by simp; omega) (by simp; omega) ?_)
    | ((with_reducible show IdxK _ _ _ _ _); refine IdxK.mk j (eMk ⟨ykd, ydp, ynd, ywt, yer, ynm, yb1, yb2, yol, ynw, yfr, yto, yon⟩) (by simp only [castN, hlm]; exact hsub) (mk_get hy) ?_)) <;> ((with_reducible conv => whnf); (with_reducible conv => congr <;> reduce); repeat ((first | (with_reducible refine HaltK.mk ?_) | (with_reducible refine StopK.mk ?_)); (with_reducible conv => whnf); (with_reducible conv => congr <;> reduce)))
    | ((with_reducible show (_ ∧ _) ∧ _ ∧ _); refine ⟨⟨rfl, rfl⟩, ?_, ?_⟩ <;> (with_reducible conv => whnf) <;> repeat' (first | (with_reducible exact trivial) | (with_reducible refine And.intro ?_ ?_ <;> with_reducible conv => whnf))))
            all_goals first | rfl | (simp; done) | trace_state
          · have e1' := eq_false e1
            have e2' := eq_true e2
            repeat' (first
    | (first
    | ((with_reducible show IfK _ _ _ _); first | refine IfK.ff ?_ | refine IfK.tt ?_ | refine IfK.no (by first | rfl | assumption | exact nf (by assumption) | exact nt (by assumption) | ((try simp only [castN]); first | (simp [hlm, g', hpos, y10', e1', e2']; done) | (simp [hlm, g', hpos, y10', e1', e2']; omega))) ?_ | refine IfK.yes (by first | rfl | assumption | exact nf (by assumption) | exact nt (by assumption) | ((try simp only [castN]); first | (simp [hlm, g', hpos, y10', e1', e2']; done) | (simp [hlm, g', hpos, y10', e1', e2']; omega))) ?_)
    | ((with_reducible show NeedK _ _ _ _); refine NeedK.mk (by (try simp only [castN]); omega) ?_)
    | ((with_reducible show DrawK _ _ _ _); refine DrawK.mk (by kernel_rfl) (by kernel_rfl) (by kernel_rfl) ?_)
    | ((with_reducible show CallK _ _ 8 _ _ _ _); first | refine CallK.lit [] (f8_at hl hd ha) c8 ⟨rfl, trivial⟩ rfl rfl ?_ | refine CallK.lit [] (f8_at hkt (take_ok hd k) hb) c8 ⟨rfl, trivial⟩ rfl rfl ?_ | refine CallK.lit [551] (f8_at (l := l ++ [x]) hlx hdx hdd) c8 ⟨frz_mks rfl rfl (Nat.le_refl _) hrows, trivial⟩ rfl rfl ?_)
    | ((with_reducible show ConvK _ _ _ _ _ _ _); refine ConvK.int (by kernel_rfl) (by kernel_rfl) (wrap_u8 hc) ?_)
    | ((with_reducible show HandK _ _ _ _ _); refine HandK.remAt hc.1 (by simp only [castN]; omega) (by simp only [castN, hlm]; exact hk) rfl rfl rfl rfl ?_)
    | ((with_reducible show CutFK _ _ _ _ _ _); refine CutFK.mk 0 k ((l.take k).map oMk) rfl (by (try simp only [castN]); omega) (by omega) hcutm ?_)
    | ((with_reducible show AppK _ _ _ _ _ _ _ _ _ _); first | refine AppK.mk (l.map oMk) [eMk x] ⟨rfl, rfl, rfl⟩ ⟨rfl, rfl, rfl⟩ rfl (by simp; omega) (by simp; omega) ?_ | refine AppK.mk [] (l.map oMk) ⟨rfl, rfl, rfl⟩ ⟨rfl, rfl, rfl⟩ (oneL_mks l) (by simp; omega) (by simp; omega) ?_)
    | ((with_reducible show IdxK _ _ _ _ _); refine IdxK.mk j (eMk ⟨ykd, ydp, ynd, ywt, yer, ynm, yb1, yb2, yol, ynw, yfr, yto, yon⟩) (by simp only [castN, hlm]; exact hsub) (mk_get hy) ?_)) <;> ((with_reducible conv => whnf); (with_reducible conv => congr <;> reduce); repeat ((first | (with_reducible refine HaltK.mk ?_) | (with_reducible refine StopK.mk ?_)); (with_reducible conv => whnf); (with_reducible conv => congr <;> reduce)))
    | ((with_reducible show (_ ∧ _) ∧ _ ∧ _); refine ⟨⟨rfl, rfl⟩, ?_, ?_⟩ <;> (with_reducible conv => whnf) <;> repeat' (first | (with_reducible exact trivial) | (with_reducible refine And.intro ?_ ?_ <;> with_reducible conv => whnf))))
            all_goals first | rfl | (simp [e2]; done) | trace_state
    · have ha0 := t3 ga
      have ga' := eq_false ga
      by_cases gk : (k : Int) ≤ a
      · have hb1 : b = -1 := t1 (.inr gk)
        subst hb1
        repeat' (first
    | (first
    | ((with_reducible show IfK _ _ _ _); first | refine IfK.ff ?_ | refine IfK.tt ?_ | refine IfK.no (by first | rfl | assumption | exact nf (by assumption) | exact nt (by assumption) | ((try simp only [castN]); first | (simp [hlm, g', ga', gk, eq_true ha0.1, eq_true ha0.2]; done) | (simp [hlm, g', ga', gk, eq_true ha0.1, eq_true ha0.2]; omega))) ?_ | refine IfK.yes (by first | rfl | assumption | exact nf (by assumption) | exact nt (by assumption) | ((try simp only [castN]); first | (simp [hlm, g', ga', gk, eq_true ha0.1, eq_true ha0.2]; done) | (simp [hlm, g', ga', gk, eq_true ha0.1, eq_true ha0.2]; omega))) ?_)
    | ((with_reducible show NeedK _ _ _ _); refine NeedK.mk (by (try simp only [castN]); omega) ?_)
    | ((with_reducible show DrawK _ _ _ _); refine DrawK.mk (by kernel_rfl) (by kernel_rfl) (by kernel_rfl) ?_)
    | ((with_reducible show CallK _ _ 8 _ _ _ _); first | refine CallK.lit [] (f8_at hl hd ha) c8 ⟨rfl, trivial⟩ rfl rfl ?_ | refine CallK.lit [] (f8_at hkt (take_ok hd k) hb) c8 ⟨rfl, trivial⟩ rfl rfl ?_)
    | ((with_reducible show ConvK _ _ _ _ _ _ _); refine ConvK.int (by kernel_rfl) (by kernel_rfl) (wrap_u8 hc) ?_)
    | ((with_reducible show HandK _ _ _ _ _); refine HandK.remAt hc.1 (by simp only [castN]; omega) (by simp only [castN, hlm]; exact hk) rfl rfl rfl rfl ?_)
    | ((with_reducible show CutFK _ _ _ _ _ _); refine CutFK.mk 0 k ((l.take k).map oMk) rfl (by (try simp only [castN]); omega) (by omega) hcutm ?_)) <;> ((with_reducible conv => whnf); (with_reducible conv => congr <;> reduce); repeat ((first | (with_reducible refine HaltK.mk ?_) | (with_reducible refine StopK.mk ?_)); (with_reducible conv => whnf); (with_reducible conv => congr <;> reduce)))
    | ((with_reducible show (_ ∧ _) ∧ _ ∧ _); refine ⟨⟨rfl, rfl⟩, ?_, ?_⟩ <;> (with_reducible conv => whnf) <;> repeat' (first | (with_reducible exact trivial) | (with_reducible refine And.intro ?_ ?_ <;> with_reducible conv => whnf))))
        all_goals first | rfl | (simp [ha0.1, ha0.2]; done) | trace_state
      · have hb1 : b = a := t2 ga (by omega)
        subst hb1
        have gk' := eq_false gk
        repeat' (first
    | (first
    | ((with_reducible show IfK _ _ _ _); first | refine IfK.ff ?_ | refine IfK.tt ?_ | refine IfK.no (by first | rfl | assumption | exact nf (by assumption) | exact nt (by assumption) | ((try simp only [castN]); first | (simp [hlm, g', ga', gk', eq_true ha0.1, eq_true ha0.2]; done) | (simp [hlm, g', ga', gk', eq_true ha0.1, eq_true ha0.2]; omega))) ?_ | refine IfK.yes (by first | rfl | assumption | exact nf (by assumption) | exact nt (by assumption) | ((try simp only [castN]); first | (simp [hlm, g', ga', gk', eq_true ha0.1, eq_true ha0.2]; done) | (simp [hlm, g', ga', gk', eq_true ha0.1, eq_true ha0.2]; omega))) ?_)
    | ((with_reducible show NeedK _ _ _ _); refine NeedK.mk (by (try simp only [castN]); omega) ?_)
    | ((with_reducible show DrawK _ _ _ _); refine DrawK.mk (by kernel_rfl) (by kernel_rfl) (by kernel_rfl) ?_)
    | ((with_reducible show CallK _ _ 8 _ _ _ _); first | refine CallK.lit [] (f8_at hl hd ha) c8 ⟨rfl, trivial⟩ rfl rfl ?_ | refine CallK.lit [] (f8_at hkt (take_ok hd k) hb) c8 ⟨rfl, trivial⟩ rfl rfl ?_)
    | ((with_reducible show ConvK _ _ _ _ _ _ _); refine ConvK.int (by kernel_rfl) (by kernel_rfl) (wrap_u8 hc) ?_)
    | ((with_reducible show HandK _ _ _ _ _); refine HandK.remAt hc.1 (by simp only [castN]; omega) (by simp only [castN, hlm]; exact hk) rfl rfl rfl rfl ?_)
    | ((with_reducible show CutFK _ _ _ _ _ _); refine CutFK.mk 0 k ((l.take k).map oMk) rfl (by (try simp only [castN]); omega) (by omega) hcutm ?_)) <;> ((with_reducible conv => whnf); (with_reducible conv => congr <;> reduce); repeat ((first | (with_reducible refine HaltK.mk ?_) | (with_reducible refine StopK.mk ?_)); (with_reducible conv => whnf); (with_reducible conv => congr <;> reduce)))
    | ((with_reducible show (_ ∧ _) ∧ _ ∧ _); refine ⟨⟨rfl, rfl⟩, ?_, ?_⟩ <;> (with_reducible conv => whnf) <;> repeat' (first | (with_reducible exact trivial) | (with_reducible refine And.intro ?_ ?_ <;> with_reducible conv => whnf))))
        all_goals first | rfl | (simp [ha0.1, ha0.2]; done) | trace_state
end Go.Proofs.Audit
end
