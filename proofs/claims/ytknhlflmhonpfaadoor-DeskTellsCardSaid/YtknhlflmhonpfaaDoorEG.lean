/- The walk of the law DeskRight. By an AI agent. -/
import Derived.Test.YtknhlflmhonpfaaDoorEE
section
set_option linter.unusedSimpArgs false
set_option linter.unusedVariables false
namespace Go.Proofs.DeskD
open Go.Am Go.RowKit Go.Lib
set_option maxRecDepth 100000
theorem told_le (ws : List WaitM) (s : ByteArray) : (toldW ws s).length ≤ ws.length := by
  unfold toldW; rw [List.length_map]; exact List.length_filter_le ..
theorem rest_le (ws : List WaitM) (s : ByteArray) : (restW ws s).length ≤ ws.length := by
  unfold restW; exact List.length_filter_le ..
theorem define_small {d g : DeskM} {k c a e : Int} {s base : ByteArray} {tl : List Int} (h : ShortD d) (hr : defineD d k s base c = (g, a, tl, e)) : (g.defs.length ≤ 41 ∧ g.waits.length ≤ 40) ∧ tl.length ≤ 40 ∧ mayD d k s base c = e := by
  have h1 := h.defs
  have h2 := h.waits
  unfold defineD at hr
  split at hr
  · rename_i h0
    simp only [Prod.mk.injEq] at hr
    obtain ⟨rfl, rfl, rfl, rfl⟩ := hr
    refine ⟨⟨by show (d.defs ++ [newD s base c]).length ≤ 41; simp; omega, Nat.le_trans (rest_le d.waits s) h2⟩, Nat.le_trans (told_le d.waits s) h2, h0⟩
  · simp only [Prod.mk.injEq] at hr
    obtain ⟨rfl, rfl, rfl, rfl⟩ := hr
    exact ⟨⟨by omega, h2⟩, by simp, rfl⟩
theorem await_small {d g : DeskM} {a b e : Int} {s : ByteArray} (h : ShortD d) (hr : awaitD d s = (g, a, b, e)) : g.defs.length ≤ 41 ∧ g.waits.length ≤ 41 := by
  have h1 := h.defs
  have h2 := h.waits
  unfold awaitD at hr
  split at hr
  · simp only [Prod.mk.injEq] at hr; obtain ⟨rfl, _⟩ := hr; omega
  split at hr
  · simp only [Prod.mk.injEq] at hr; obtain ⟨rfl, _⟩ := hr; omega
  split at hr
  · simp only [Prod.mk.injEq] at hr; obtain ⟨rfl, _⟩ := hr; omega
  split at hr
  · simp only [Prod.mk.injEq] at hr; obtain ⟨rfl, _⟩ := hr; exact ⟨by show d.defs.length ≤ 41; omega, by show d.waits.length ≤ 41; omega⟩
  · simp only [Prod.mk.injEq] at hr; obtain ⟨rfl, _⟩ := hr; exact ⟨by show d.defs.length ≤ 41; omega, by show (d.waits ++ [_]).length ≤ 41; simp; omega⟩
set_option maxHeartbeats 16000000 in
/-- DeskRight -/
theorem f3_ok (d : DeskM) (k : Int) (s base is : ByteArray) (c : Int) : FnOK Tryd.prog 3 [] [eDesk d, eInt k, eStr s, eStr base, eStr is, eInt c] [] (eBool true) := by
  obtain ⟨sb, hsb⟩ : ∃ b, shortB d = b := ⟨_, rfl⟩
  have h9 := f9_at hsb
  obtain ⟨r, hr⟩ : ∃ r, rightD d = r := ⟨_, rfl⟩
  obtain ⟨A, hA⟩ : ∃ x, findD d s is = x := ⟨_, rfl⟩
  obtain ⟨A2, hA2⟩ : ∃ x, findD d base s = x := ⟨_, rfl⟩
  obtain ⟨B, hB⟩ : ∃ x, namedD d s = x := ⟨_, rfl⟩
  obtain ⟨C, hC⟩ : ∃ x, classedD d c = x := ⟨_, rfl⟩
  obtain ⟨⟨⟨gl, gw, gn, gb⟩, at', tl, e⟩, hD⟩ : ∃ x, defineD d k s base c = x := ⟨_, rfl⟩
  obtain ⟨⟨⟨il, iw, in', ib⟩, t, p, j⟩, hW⟩ : ∃ x, awaitD d s = x := ⟨_, rfl⟩
  have fA : r = false → A = -1 := fun h => by rw [← hA]; unfold findD; rw [hr, h]; rfl
  have fB : r = false → B = -1 := fun h => by rw [← hB]; unfold namedD; rw [hr, h]; rfl
  have fC : r = false → C = -1 := fun h => by rw [← hC]; unfold classedD; rw [hr, h]; rfl
  have gA : r = true → findR d.defs s is = A := fun h => by rw [← hA]; unfold findD; rw [hr, h]; rfl
  have gA2 : r = true → findR d.defs base s = A2 := fun h => by rw [← hA2]; unfold findD; rw [hr, h]; rfl
  have gB : r = true → posN d.defs s = B := fun h => by rw [← hB]; unfold namedD; rw [hr, h]; rfl
  have gC : r = true → posC d.defs c = C := fun h => by rw [← hC]; unfold classedD; rw [hr, h]; rfl
  obtain ⟨l, ws, nx, bz⟩ := d
  refine FnOK.startC (rvs := [.tmp 12]) G G_good Tryd.func3 rfl Tryd.ntmps3 rfl rfl ?_; delta List.toArray; ((with_reducible conv => whnf); (with_reducible conv => congr <;> reduce); repeat ((first | (with_reducible refine HaltK.mk ?_) | (with_reducible refine StopK.mk ?_)); (with_reducible conv => whnf); (with_reducible conv => congr <;> reduce)))
  refine CallK.lit [] f8_ok c8 trivial rfl rfl ?_; ((with_reducible conv => whnf); (with_reducible conv => congr <;> reduce); repeat ((first | (with_reducible refine HaltK.mk ?_) | (with_reducible refine StopK.mk ?_)); (with_reducible conv => whnf); (with_reducible conv => congr <;> reduce)))
  refine IfK.ff ?_; ((with_reducible conv => whnf); (with_reducible conv => congr <;> reduce); repeat ((first | (with_reducible refine HaltK.mk ?_) | (with_reducible refine StopK.mk ?_)); (with_reducible conv => whnf); (with_reducible conv => congr <;> reduce)))
  refine CallK.lit [] h9 c9 ⟨⟨rfl, rfl, rfl, rfl, trivial⟩, trivial⟩ rfl rfl ?_; ((with_reducible conv => whnf); (with_reducible conv => congr <;> reduce); repeat ((first | (with_reducible refine HaltK.mk ?_) | (with_reducible refine StopK.mk ?_)); (with_reducible conv => whnf); (with_reducible conv => congr <;> reduce)))
  cases sb with
  | false => repeat' (first
    | (first
    | ((with_reducible show IfK _ _ _ _); first | refine IfK.ff ?_ | refine IfK.tt ?_ | refine IfK.no (by first | rfl | assumption | exact nf (by assumption) | exact nt (by assumption) | ((try simp only [castN]); first | (simp [hsb]; done) | (simp [hsb]; omega))) ?_ | refine IfK.yes (by first | rfl | assumption | exact nf (by assumption) | exact nt (by assumption) | ((try simp only [castN]); first | (simp [hsb]; done) | (simp [hsb]; omega))) ?_)
    | ((with_reducible show NeedK _ _ _ _); refine NeedK.mk (by (try simp only [castN]); omega) ?_)
    | ((with_reducible show DrawK _ _ _ _); refine DrawK.mk (by kernel_rfl) (by kernel_rfl) (by kernel_rfl) ?_)) <;> ((with_reducible conv => whnf); (with_reducible conv => congr <;> reduce); repeat ((first | (with_reducible refine HaltK.mk ?_) | (with_reducible refine StopK.mk ?_)); (with_reducible conv => whnf); (with_reducible conv => congr <;> reduce)))
    | ((with_reducible show (_ ∧ _) ∧ _ ∧ _); refine ⟨⟨rfl, rfl⟩, ?_, ?_⟩ <;> (with_reducible conv => whnf) <;> repeat' (first | (with_reducible exact trivial) | (with_reducible refine And.intro ?_ ?_ <;> with_reducible conv => whnf))))
  | true =>
    have hS : ShortD ⟨l, ws, nx, bz⟩ := shortB_iff.1 hsb
    have hM := hS.small
    obtain ⟨⟨z1, z2⟩, z3, hE⟩ := define_small hS hD
    obtain ⟨z4, z5⟩ := await_small hS hW
    simp only at z1 z2 z4 z5
    by_cases n1 : 300 < s.size
    · repeat' (first
    | (first
    | ((with_reducible show IfK _ _ _ _); first | refine IfK.ff ?_ | refine IfK.tt ?_ | refine IfK.no (by first | rfl | assumption | exact nf (by assumption) | exact nt (by assumption) | ((try simp only [castN]); first | (simp [n1]; done) | (simp [n1]; omega))) ?_ | refine IfK.yes (by first | rfl | assumption | exact nf (by assumption) | exact nt (by assumption) | ((try simp only [castN]); first | (simp [n1]; done) | (simp [n1]; omega))) ?_)
    | ((with_reducible show NeedK _ _ _ _); refine NeedK.mk (by (try simp only [castN]); omega) ?_)
    | ((with_reducible show DrawK _ _ _ _); refine DrawK.mk (by kernel_rfl) (by kernel_rfl) (by kernel_rfl) ?_)) <;> ((with_reducible conv => whnf); (with_reducible conv => congr <;> reduce); repeat ((first | (with_reducible refine HaltK.mk ?_) | (with_reducible refine StopK.mk ?_)); (with_reducible conv => whnf); (with_reducible conv => congr <;> reduce)))
    | ((with_reducible show (_ ∧ _) ∧ _ ∧ _); refine ⟨⟨rfl, rfl⟩, ?_, ?_⟩ <;> (with_reducible conv => whnf) <;> repeat' (first | (with_reducible exact trivial) | (with_reducible refine And.intro ?_ ?_ <;> with_reducible conv => whnf))))
    by_cases n2 : 300 < base.size
    · repeat' (first
    | (first
    | ((with_reducible show IfK _ _ _ _); first | refine IfK.ff ?_ | refine IfK.tt ?_ | refine IfK.no (by first | rfl | assumption | exact nf (by assumption) | exact nt (by assumption) | ((try simp only [castN]); first | (simp [n1, n2]; done) | (simp [n1, n2]; omega))) ?_ | refine IfK.yes (by first | rfl | assumption | exact nf (by assumption) | exact nt (by assumption) | ((try simp only [castN]); first | (simp [n1, n2]; done) | (simp [n1, n2]; omega))) ?_)
    | ((with_reducible show NeedK _ _ _ _); refine NeedK.mk (by (try simp only [castN]); omega) ?_)
    | ((with_reducible show DrawK _ _ _ _); refine DrawK.mk (by kernel_rfl) (by kernel_rfl) (by kernel_rfl) ?_)) <;> ((with_reducible conv => whnf); (with_reducible conv => congr <;> reduce); repeat ((first | (with_reducible refine HaltK.mk ?_) | (with_reducible refine StopK.mk ?_)); (with_reducible conv => whnf); (with_reducible conv => congr <;> reduce)))
    | ((with_reducible show (_ ∧ _) ∧ _ ∧ _); refine ⟨⟨rfl, rfl⟩, ?_, ?_⟩ <;> (with_reducible conv => whnf) <;> repeat' (first | (with_reducible exact trivial) | (with_reducible refine And.intro ?_ ?_ <;> with_reducible conv => whnf))))
    by_cases n3 : 300 < is.size
    · repeat' (first
    | (first
    | ((with_reducible show IfK _ _ _ _); first | refine IfK.ff ?_ | refine IfK.tt ?_ | refine IfK.no (by first | rfl | assumption | exact nf (by assumption) | exact nt (by assumption) | ((try simp only [castN]); first | (simp [n1, n2, n3]; done) | (simp [n1, n2, n3]; omega))) ?_ | refine IfK.yes (by first | rfl | assumption | exact nf (by assumption) | exact nt (by assumption) | ((try simp only [castN]); first | (simp [n1, n2, n3]; done) | (simp [n1, n2, n3]; omega))) ?_)
    | ((with_reducible show NeedK _ _ _ _); refine NeedK.mk (by (try simp only [castN]); omega) ?_)
    | ((with_reducible show DrawK _ _ _ _); refine DrawK.mk (by kernel_rfl) (by kernel_rfl) (by kernel_rfl) ?_)) <;> ((with_reducible conv => whnf); (with_reducible conv => congr <;> reduce); repeat ((first | (with_reducible refine HaltK.mk ?_) | (with_reducible refine StopK.mk ?_)); (with_reducible conv => whnf); (with_reducible conv => congr <;> reduce)))
    | ((with_reducible show (_ ∧ _) ∧ _ ∧ _); refine ⟨⟨rfl, rfl⟩, ?_, ?_⟩ <;> (with_reducible conv => whnf) <;> repeat' (first | (with_reducible exact trivial) | (with_reducible refine And.intro ?_ ?_ <;> with_reducible conv => whnf))))
    have hss : s.size ≤ 100000 := by omega
    cases r with
    | false =>
      obtain rfl := fA rfl
      obtain rfl := fB rfl
      obtain rfl := fC rfl
      repeat' (first
    | (first
    | ((with_reducible show IfK _ _ _ _); first | refine IfK.ff ?_ | refine IfK.tt ?_ | refine IfK.no (by first | rfl | assumption | exact nf (by assumption) | exact nt (by assumption) | ((try simp only [castN]); first | (simp [n1, n2, n3]; done) | (simp [n1, n2, n3]; omega))) ?_ | refine IfK.yes (by first | rfl | assumption | exact nf (by assumption) | exact nt (by assumption) | ((try simp only [castN]); first | (simp [n1, n2, n3]; done) | (simp [n1, n2, n3]; omega))) ?_)
    | ((with_reducible show NeedK _ _ _ _); refine NeedK.mk (by (try simp only [castN]); omega) ?_)
    | ((with_reducible show DrawK _ _ _ _); refine DrawK.mk (by kernel_rfl) (by kernel_rfl) (by kernel_rfl) ?_)
    | ((with_reducible show CallK _ _ 10 _ _ _ _); refine CallK.lit [] (f10_at hS hr) c10 ⟨⟨rfl, rfl, rfl, rfl, trivial⟩, trivial⟩ rfl rfl ?_)
    | ((with_reducible show CallK _ _ 11 _ _ _ _); refine CallK.lit [] (f11_at hM hA) c11 ⟨⟨rfl, rfl, rfl, rfl, trivial⟩, rfl, rfl, trivial⟩ rfl rfl ?_)
    | ((with_reducible show CallK _ _ 12 _ _ _ _); refine CallK.lit [] (f12_at hM hB) c12 ⟨⟨rfl, rfl, rfl, rfl, trivial⟩, rfl, trivial⟩ rfl rfl ?_)
    | ((with_reducible show CallK _ _ 13 _ _ _ _); refine CallK.lit [] (f13_at hM hC) c13 ⟨⟨rfl, rfl, rfl, rfl, trivial⟩, rfl, trivial⟩ rfl rfl ?_)
    | ((with_reducible show CallK _ _ 14 _ _ _ _); refine CallK.lit [] (f14_at hM hr) c14 ⟨⟨rfl, rfl, rfl, rfl, trivial⟩, trivial⟩ rfl rfl ?_)
    | ((with_reducible show CallK _ _ 18 _ _ _ _); refine CallK.val [] (f18_at hM hD) c18 ⟨⟨rfl, rfl, rfl, rfl, trivial⟩, rfl, rfl, rfl, rfl, trivial⟩ rfl rfl rfl ?_)
    | ((with_reducible show CallK _ _ 19 _ _ _ _); refine CallK.val [] (f19_at hS hss hD) c19 ⟨⟨rfl, rfl, rfl, rfl, trivial⟩, rfl, rfl, rfl, rfl, trivial⟩ rfl rfl rfl ?_)
    | ((with_reducible show CallK _ _ 20 _ _ _ _); refine CallK.lit [] (f20_at hM hE) c20 ⟨⟨rfl, rfl, rfl, rfl, trivial⟩, rfl, rfl, rfl, rfl, trivial⟩ rfl rfl ?_)
    | ((with_reducible show CallK _ _ 21 _ _ _ _); refine CallK.lit [] (f21_at (a := tl) (b := tl) (r := true) (by omega) (decide_eq_true rfl)) c21 ⟨rfl, rfl, trivial⟩ rfl rfl ?_)
    | ((with_reducible show CallK _ _ 22 _ _ _ _); first | (refine CallK.lit [] (f22_at (a := ⟨gl, gw, gn, gb⟩) (b := ⟨gl, gw, gn, gb⟩) (r := true) ⟨by show gl.length ≤ 100000; omega, by show gw.length ≤ 100000; omega⟩ (decide_eq_true rfl)) c22 ⟨⟨rfl, rfl, rfl, rfl, trivial⟩, ⟨rfl, rfl, rfl, rfl, trivial⟩, trivial⟩ rfl rfl ?_) | (refine CallK.lit [] (f22_at (a := ⟨il, iw, in', ib⟩) (b := ⟨il, iw, in', ib⟩) (r := true) ⟨by show il.length ≤ 100000; omega, by show iw.length ≤ 100000; omega⟩ (decide_eq_true rfl)) c22 ⟨⟨rfl, rfl, rfl, rfl, trivial⟩, ⟨rfl, rfl, rfl, rfl, trivial⟩, trivial⟩ rfl rfl ?_))
    | ((with_reducible show CallK _ _ 23 _ _ _ _); refine CallK.val [] (f23_at hM hW) c23 ⟨⟨rfl, rfl, rfl, rfl, trivial⟩, rfl, trivial⟩ rfl rfl rfl ?_)
    | ((with_reducible show CallK _ _ 24 _ _ _ _); refine CallK.val [] (f24_at hS hss hW) c24 ⟨⟨rfl, rfl, rfl, rfl, trivial⟩, rfl, trivial⟩ rfl rfl rfl ?_)) <;> ((with_reducible conv => whnf); (with_reducible conv => congr <;> reduce); repeat ((first | (with_reducible refine HaltK.mk ?_) | (with_reducible refine StopK.mk ?_)); (with_reducible conv => whnf); (with_reducible conv => congr <;> reduce)))
    | ((with_reducible show (_ ∧ _) ∧ _ ∧ _); refine ⟨⟨rfl, rfl⟩, ?_, ?_⟩ <;> (with_reducible conv => whnf) <;> repeat' (first | (with_reducible exact trivial) | (with_reducible refine And.intro ?_ ?_ <;> with_reducible conv => whnf))))
      all_goals simp
    | true =>
      have gA := gA rfl
      have gA2 := gA2 rfl
      have gB := gB rfl
      have gC := gC rfl
      repeat' (first
    | (first
    | ((with_reducible show IfK _ _ _ _); first | refine IfK.ff ?_ | refine IfK.tt ?_ | refine IfK.no (by first | rfl | assumption | exact nf (by assumption) | exact nt (by assumption) | ((try simp only [castN]); first | (simp [n1, n2, n3]; done) | (simp [n1, n2, n3]; omega))) ?_ | refine IfK.yes (by first | rfl | assumption | exact nf (by assumption) | exact nt (by assumption) | ((try simp only [castN]); first | (simp [n1, n2, n3]; done) | (simp [n1, n2, n3]; omega))) ?_)
    | ((with_reducible show NeedK _ _ _ _); refine NeedK.mk (by (try simp only [castN]); omega) ?_)
    | ((with_reducible show DrawK _ _ _ _); refine DrawK.mk (by kernel_rfl) (by kernel_rfl) (by kernel_rfl) ?_)
    | ((with_reducible show CallK _ _ 10 _ _ _ _); refine CallK.lit [] (f10_at hS hr) c10 ⟨⟨rfl, rfl, rfl, rfl, trivial⟩, trivial⟩ rfl rfl ?_)
    | ((with_reducible show CallK _ _ 11 _ _ _ _); first | (refine CallK.lit [] (f11_at hM hA) c11 ⟨⟨rfl, rfl, rfl, rfl, trivial⟩, rfl, rfl, trivial⟩ rfl rfl ?_) | (refine CallK.lit [] (f11_at hM hA2) c11 ⟨⟨rfl, rfl, rfl, rfl, trivial⟩, rfl, rfl, trivial⟩ rfl rfl ?_))
    | ((with_reducible show CallK _ _ 12 _ _ _ _); refine CallK.lit [] (f12_at hM hB) c12 ⟨⟨rfl, rfl, rfl, rfl, trivial⟩, rfl, trivial⟩ rfl rfl ?_)
    | ((with_reducible show CallK _ _ 13 _ _ _ _); refine CallK.lit [] (f13_at hM hC) c13 ⟨⟨rfl, rfl, rfl, rfl, trivial⟩, rfl, trivial⟩ rfl rfl ?_)
    | ((with_reducible show CallK _ _ 14 _ _ _ _); refine CallK.lit [] (f14_at hM hr) c14 ⟨⟨rfl, rfl, rfl, rfl, trivial⟩, trivial⟩ rfl rfl ?_)
    | ((with_reducible show CallK _ _ 15 _ _ _ _); first | (refine CallK.lit [] (f15_at hM gA) c15 ⟨⟨rfl, rfl, rfl, rfl, trivial⟩, rfl, rfl, trivial⟩ rfl rfl ?_) | (refine CallK.lit [] (f15_at hM gA2) c15 ⟨⟨rfl, rfl, rfl, rfl, trivial⟩, rfl, rfl, trivial⟩ rfl rfl ?_))
    | ((with_reducible show CallK _ _ 16 _ _ _ _); refine CallK.lit [] (f16_at hM gB) c16 ⟨⟨rfl, rfl, rfl, rfl, trivial⟩, rfl, trivial⟩ rfl rfl ?_)
    | ((with_reducible show CallK _ _ 17 _ _ _ _); refine CallK.lit [] (f17_at hM gC) c17 ⟨⟨rfl, rfl, rfl, rfl, trivial⟩, rfl, trivial⟩ rfl rfl ?_)
    | ((with_reducible show CallK _ _ 18 _ _ _ _); refine CallK.val [] (f18_at hM hD) c18 ⟨⟨rfl, rfl, rfl, rfl, trivial⟩, rfl, rfl, rfl, rfl, trivial⟩ rfl rfl rfl ?_)
    | ((with_reducible show CallK _ _ 19 _ _ _ _); refine CallK.val [] (f19_at hS hss hD) c19 ⟨⟨rfl, rfl, rfl, rfl, trivial⟩, rfl, rfl, rfl, rfl, trivial⟩ rfl rfl rfl ?_)
    | ((with_reducible show CallK _ _ 20 _ _ _ _); refine CallK.lit [] (f20_at hM hE) c20 ⟨⟨rfl, rfl, rfl, rfl, trivial⟩, rfl, rfl, rfl, rfl, trivial⟩ rfl rfl ?_)
    | ((with_reducible show CallK _ _ 21 _ _ _ _); refine CallK.lit [] (f21_at (a := tl) (b := tl) (r := true) (by omega) (decide_eq_true rfl)) c21 ⟨rfl, rfl, trivial⟩ rfl rfl ?_)
    | ((with_reducible show CallK _ _ 22 _ _ _ _); first | (refine CallK.lit [] (f22_at (a := ⟨gl, gw, gn, gb⟩) (b := ⟨gl, gw, gn, gb⟩) (r := true) ⟨by show gl.length ≤ 100000; omega, by show gw.length ≤ 100000; omega⟩ (decide_eq_true rfl)) c22 ⟨⟨rfl, rfl, rfl, rfl, trivial⟩, ⟨rfl, rfl, rfl, rfl, trivial⟩, trivial⟩ rfl rfl ?_) | (refine CallK.lit [] (f22_at (a := ⟨il, iw, in', ib⟩) (b := ⟨il, iw, in', ib⟩) (r := true) ⟨by show il.length ≤ 100000; omega, by show iw.length ≤ 100000; omega⟩ (decide_eq_true rfl)) c22 ⟨⟨rfl, rfl, rfl, rfl, trivial⟩, ⟨rfl, rfl, rfl, rfl, trivial⟩, trivial⟩ rfl rfl ?_))
    | ((with_reducible show CallK _ _ 23 _ _ _ _); refine CallK.val [] (f23_at hM hW) c23 ⟨⟨rfl, rfl, rfl, rfl, trivial⟩, rfl, trivial⟩ rfl rfl rfl ?_)
    | ((with_reducible show CallK _ _ 24 _ _ _ _); refine CallK.val [] (f24_at hS hss hW) c24 ⟨⟨rfl, rfl, rfl, rfl, trivial⟩, rfl, trivial⟩ rfl rfl rfl ?_)) <;> ((with_reducible conv => whnf); (with_reducible conv => congr <;> reduce); repeat ((first | (with_reducible refine HaltK.mk ?_) | (with_reducible refine StopK.mk ?_)); (with_reducible conv => whnf); (with_reducible conv => congr <;> reduce)))
    | ((with_reducible show (_ ∧ _) ∧ _ ∧ _); refine ⟨⟨rfl, rfl⟩, ?_, ?_⟩ <;> (with_reducible conv => whnf) <;> repeat' (first | (with_reducible exact trivial) | (with_reducible refine And.intro ?_ ?_ <;> with_reducible conv => whnf))))
      all_goals simp
end Go.Proofs.DeskD
end
