/- Contracts of the functions of audit, part 3; how arguments read. By an AI agent. -/
import Derived.Test.YtebingflknhcjaaVC
import Derived.Test.YtebingflknhcjaaAmB
section
set_option linter.unusedSimpArgs false
set_option linter.unusedVariables false
namespace Go.Proofs.Audit
open Go Go.Am Go.RowKit Go.Lib
set_option maxRecDepth 100000
theorem noRef_nats (o : List Nat) : noRefL (o.map oNat) = true := by
  rw [noRefL_iff]; intro x hx
  obtain ⟨a, _, rfl⟩ := List.mem_map.1 hx
  rfl
theorem oneL_nats (o : List Nat) : oneL (flat (o.map oNat)) = true := oneL_map oNat (fun _ => rfl) o
theorem frz_nats {m : ML} {fz : Nat → Bool} {tab : List (Nat × Nat)} {n t len : Nat} {ro : Bool} {rows : List AV} {o : List Nat} (h1 : lkM m t = .live 1 rows ro) (h2 : fz t = true) (h3 : rows = o.map oNat) (h4 : len = o.length) : FrzK m fz (MF tab fz m n) (eNs o) t 0 len := by
  subst h3; subst h4
  have e : (o.map oNat).length = o.length := List.length_map ..
  exact .cut h1 h2 (by omega) (by rw [List.drop_zero, List.take_of_length_le (by omega)]) (noRef_nats o)
theorem over_zero (l : List MkM) : lastOver (l.take 0) = false := rfl
theorem over_snoc {l : List MkM} {k : Nat} {y : MkM} (h : l[k]? = some y) : lastOver (l.take (k + 1)) = decide (y.kind = 10) := by
  rw [take_snoc' h]; unfold lastOver; simp
set_option maxHeartbeats 32000000 in
/-- ref.Check -/
theorem f9_ok (l : List MkM) (hl : l.length ≤ 100000) (hd : ∀ x ∈ l, okD x) : FnOK Try.prog 9 [] [eMks l] [] (eInt (checkM book0 0 l)) := by
  have hlm : (l.map oMk).length = l.length := List.length_map ..
  refine FnOK.startC (rvs := [.tmp 2]) G G_good Try.func9 rfl Try.ntmps9 rfl rfl ?_; delta List.toArray; ((with_reducible conv => whnf); (with_reducible conv => congr <;> reduce); repeat ((first | (with_reducible refine HaltK.mk ?_) | (with_reducible refine StopK.mk ?_)); (with_reducible conv => whnf); (with_reducible conv => congr <;> reduce)))
  refine LoopK.use G G_good (fun (i : Nat × List Nat) => [(0, eMks l), (3, eNs i.2), (4, eInt i.1)]) (fun _ => []) (fun i => i.1 ≤ l.length ∧ i.2.length ≤ i.1 ∧ ∃ b, runM book0 (l.take i.1) = some b ∧ Opn l i.2 b.stk) (fun i => l.length - i.1) (0, []) ⟨Nat.zero_le _, Nat.le_refl _, book0, rfl, rfl⟩
    ⟨⟨rfl, rfl⟩, ⟨rfl, .inr (.inr ⟨1, rfl⟩), rfl, trivial⟩, trivial⟩ ?_
  rintro ⟨i, o⟩ ⟨hi, hoi, b, hb, hO⟩
  simp only at hi hoi hb hO
  ((with_reducible conv => whnf); (with_reducible conv => congr <;> reduce); repeat ((first | (with_reducible refine HaltK.mk ?_) | (with_reducible refine StopK.mk ?_)); (with_reducible conv => whnf); (with_reducible conv => congr <;> reduce)))
  refine IfK.mk (fun h1 => ?_) (fun h1 => ?_) <;> (try simp only [castN] at h1) <;> ((with_reducible conv => whnf); (with_reducible conv => congr <;> reduce); repeat ((first | (with_reducible refine HaltK.mk ?_) | (with_reducible refine StopK.mk ?_)); (with_reducible conv => whnf); (with_reducible conv => congr <;> reduce)))
  · have hi' : i < l.length := by simp only [decide_eq_true_eq, hlm] at h1; omega
    obtain ⟨x, hx⟩ : ∃ x, l[i]? = some x := ⟨_, List.getElem?_eq_getElem hi'⟩
    have hxd : okD x := hd x (List.mem_of_getElem? hx)
    have hnext : ((i + 1 : Nat) : Int) = (i : Int) + 1 := by omega
    have hInv : Inv b (l.take i) := by simpa using inv0.run hb
    have href := read_ref hInv x
    have stop : (readM b x).2 = false → checkM book0 0 l = (i : Int) := fun h => by
      have := check_at (i := 0) hx hb h
      simpa using this
    have go : (readM b x).2 = true → ∃ b', runM book0 (l.take (i + 1)) = some b' ∧ b'.stk = nextR (shutM (leastM x) b.stk) x := fun h => ⟨(readM b x).1, by rw [take_snoc' hx, run_snoc hb, if_pos h], read_next h⟩
    obtain ⟨o', ho'⟩ : ∃ o', o.take (shutM (leastM x) b.stk).length = o' := ⟨_, rfl⟩
    obtain ⟨s', hs'⟩ : ∃ s', shutM (leastM x) b.stk = s' := ⟨_, rfl⟩
    have hO' : Opn l o' s' := by
      have h2 := hO.take (shutM (leastM x) b.stk).length
      rw [← shut_take, ho', hs'] at h2
      exact h2
    have hol' : o'.length ≤ 100000 := by rw [← ho', List.length_take]; omega
    have hol2 : o'.length ≤ i := by rw [← ho', List.length_take]; omega
    have h21 := f21_ok l o b.stk hO (by omega) x
    rw [ho'] at h21
    rw [hs'] at href go
    obtain ⟨op, hop⟩ : ∃ op, opensK x.kind = op := ⟨_, rfl⟩
    obtain ⟨kd, dp, nd, wt, er, nm, b1, b2, ol, nw, fr, to, on⟩ := x
    rw [hInv.over] at href
    by_cases hz : i = 0
    · have hov : lastOver (l.take i) = false := by rw [hz]; rfl
      rw [hov] at href
      have hpos : ((0 : Int) < (i : Int)) = False := eq_false (by omega)
      have hy := hx
      obtain ⟨j, hj⟩ : ∃ j, j = i := ⟨_, rfl⟩
      rw [← hj] at hy
      obtain ⟨ykd, ydp, ynd, ywt, yer, ynm, yb1, yb2, yol, ynw, yfr, yto, yon, hye⟩ : ∃ ykd ydp ynd ywt yer ynm yb1 yb2 yol ynw yfr yto yon, (⟨kd, dp, nd, wt, er, nm, b1, b2, ol, nw, fr, to, on⟩ : MkM) = ⟨ykd, ydp, ynd, ywt, yer, ynm, yb1, yb2, yol, ynw, yfr, yto, yon⟩ := ⟨_, _, _, _, _, _, _, _, _, _, _, _, _, rfl⟩
      rw [hye] at hy
      have hsub : (i : Int) = (j : Int) := by omega
      obtain ⟨pl, hpl⟩ : ∃ pl, placeR s' ⟨kd, dp, nd, wt, er, nm, b1, b2, ol, nw, fr, to, on⟩ = pl := ⟨_, rfl⟩
      obtain ⟨tl, htl⟩ : ∃ tl, toldR (l.take i) ⟨kd, dp, nd, wt, er, nm, b1, b2, ol, nw, fr, to, on⟩ = tl := ⟨_, rfl⟩
      rw [hpl, htl] at href
      simp only [Bool.not_false, Bool.true_and] at href
      cases pl with
      | false =>
        have hc := stop href
        repeat' (first
    | (first
    | ((with_reducible show IfK _ _ _ _); first | refine IfK.ff ?_ | refine IfK.tt ?_ | refine IfK.no (by first | rfl | assumption | exact nf (by assumption) | exact nt (by assumption) | ((try simp only [castN]); first | (simp [hpos]; done) | (simp [hpos]; omega))) ?_ | refine IfK.yes (by first | rfl | assumption | exact nf (by assumption) | exact nt (by assumption) | ((try simp only [castN]); first | (simp [hpos]; done) | (simp [hpos]; omega))) ?_)
    | ((with_reducible show NeedK _ _ _ _); refine NeedK.mk (by (try simp only [castN]); omega) ?_)
    | ((with_reducible show DrawK _ _ _ _); refine DrawK.mk (by kernel_rfl) (by kernel_rfl) (by kernel_rfl) ?_)
    | ((with_reducible show IdxK _ _ _ _ _); first | refine IdxK.mk i (eMk ⟨kd, dp, nd, wt, er, nm, b1, b2, ol, nw, fr, to, on⟩) rfl (mk_get hx) ?_ | refine IdxK.mk j (eMk ⟨ykd, ydp, ynd, ywt, yer, ynm, yb1, yb2, yol, ynw, yfr, yto, yon⟩) hsub (mk_get hy) ?_)
    | ((with_reducible show CallK _ _ 21 _ _ _ _); refine CallK.val [] h21 c21 ⟨rfl, rfl, ⟨rfl, rfl, rfl, rfl, rfl, rfl, rfl, rfl, rfl, rfl, rfl, rfl, rfl, trivial⟩, trivial⟩ rfl rfl rfl ?_)
    | ((with_reducible show CallK _ _ 22 _ _ _ _); refine CallK.lit [] (f22_ok l o' s' hO' hol' ⟨kd, dp, nd, wt, er, nm, b1, b2, ol, nw, fr, to, on⟩ hxd hpl) c22 ⟨rfl, rfl, ⟨rfl, rfl, rfl, rfl, rfl, rfl, rfl, rfl, rfl, rfl, rfl, rfl, rfl, trivial⟩, trivial⟩ rfl rfl ?_)
    | ((with_reducible show CallK _ _ 23 _ _ _ _); refine CallK.lit [] (f23_ok l hl i _ hx htl) c23 ⟨rfl, rfl, trivial⟩ rfl rfl ?_)
    | ((with_reducible show CallK _ _ 24 _ _ _ _); refine CallK.lit [] (f24_at hop) c24 ⟨⟨rfl, rfl, rfl, rfl, rfl, rfl, rfl, rfl, rfl, rfl, rfl, rfl, rfl, trivial⟩, trivial⟩ rfl rfl ?_)) <;> ((with_reducible conv => whnf); (with_reducible conv => congr <;> reduce); repeat ((first | (with_reducible refine HaltK.mk ?_) | (with_reducible refine StopK.mk ?_)); (with_reducible conv => whnf); (with_reducible conv => congr <;> reduce)))
    | ((with_reducible show (_ ∧ _) ∧ _ ∧ _); refine ⟨⟨rfl, rfl⟩, ?_, ?_⟩ <;> (with_reducible conv => whnf) <;> repeat' (first | (with_reducible exact trivial) | (with_reducible refine And.intro ?_ ?_ <;> with_reducible conv => whnf))))
        all_goals first | exact hc | trace_state
      | true =>
        cases tl with
        | false =>
          have hc := stop href
          repeat' (first
    | (first
    | ((with_reducible show IfK _ _ _ _); first | refine IfK.ff ?_ | refine IfK.tt ?_ | refine IfK.no (by first | rfl | assumption | exact nf (by assumption) | exact nt (by assumption) | ((try simp only [castN]); first | (simp [hpos]; done) | (simp [hpos]; omega))) ?_ | refine IfK.yes (by first | rfl | assumption | exact nf (by assumption) | exact nt (by assumption) | ((try simp only [castN]); first | (simp [hpos]; done) | (simp [hpos]; omega))) ?_)
    | ((with_reducible show NeedK _ _ _ _); refine NeedK.mk (by (try simp only [castN]); omega) ?_)
    | ((with_reducible show DrawK _ _ _ _); refine DrawK.mk (by kernel_rfl) (by kernel_rfl) (by kernel_rfl) ?_)
    | ((with_reducible show IdxK _ _ _ _ _); first | refine IdxK.mk i (eMk ⟨kd, dp, nd, wt, er, nm, b1, b2, ol, nw, fr, to, on⟩) rfl (mk_get hx) ?_ | refine IdxK.mk j (eMk ⟨ykd, ydp, ynd, ywt, yer, ynm, yb1, yb2, yol, ynw, yfr, yto, yon⟩) hsub (mk_get hy) ?_)
    | ((with_reducible show CallK _ _ 21 _ _ _ _); refine CallK.val [] h21 c21 ⟨rfl, rfl, ⟨rfl, rfl, rfl, rfl, rfl, rfl, rfl, rfl, rfl, rfl, rfl, rfl, rfl, trivial⟩, trivial⟩ rfl rfl rfl ?_)
    | ((with_reducible show CallK _ _ 22 _ _ _ _); refine CallK.lit [] (f22_ok l o' s' hO' hol' ⟨kd, dp, nd, wt, er, nm, b1, b2, ol, nw, fr, to, on⟩ hxd hpl) c22 ⟨rfl, rfl, ⟨rfl, rfl, rfl, rfl, rfl, rfl, rfl, rfl, rfl, rfl, rfl, rfl, rfl, trivial⟩, trivial⟩ rfl rfl ?_)
    | ((with_reducible show CallK _ _ 23 _ _ _ _); refine CallK.lit [] (f23_ok l hl i _ hx htl) c23 ⟨rfl, rfl, trivial⟩ rfl rfl ?_)
    | ((with_reducible show CallK _ _ 24 _ _ _ _); refine CallK.lit [] (f24_at hop) c24 ⟨⟨rfl, rfl, rfl, rfl, rfl, rfl, rfl, rfl, rfl, rfl, rfl, rfl, rfl, trivial⟩, trivial⟩ rfl rfl ?_)) <;> ((with_reducible conv => whnf); (with_reducible conv => congr <;> reduce); repeat ((first | (with_reducible refine HaltK.mk ?_) | (with_reducible refine StopK.mk ?_)); (with_reducible conv => whnf); (with_reducible conv => congr <;> reduce)))
    | ((with_reducible show (_ ∧ _) ∧ _ ∧ _); refine ⟨⟨rfl, rfl⟩, ?_, ?_⟩ <;> (with_reducible conv => whnf) <;> repeat' (first | (with_reducible exact trivial) | (with_reducible refine And.intro ?_ ?_ <;> with_reducible conv => whnf))))
          all_goals first | exact hc | trace_state
        | true =>
          have hI := go href
          cases op with
          | true =>
            have e4 : ¬ kd = 4 := by have := (opens_iff _).1 hop; simp only at this; omega
            unfold nextR at hI
            rw [if_pos hop] at hI
            have hO2 : Opn l (o' ++ [i]) (s' ++ [opOf ⟨kd, dp, nd, wt, er, nm, b1, b2, ol, nw, fr, to, on⟩]) := hO'.snoc hx
            obtain ⟨b2', hb2, hb2s⟩ := hI
            have hJ : i + 1 ≤ l.length ∧ (o' ++ [i]).length ≤ i + 1 ∧ ∃ b', runM book0 (l.take (i + 1)) = some b' ∧ Opn l (o' ++ [i]) b'.stk := ⟨by omega, by rw [List.length_append]; simp; omega, b2', hb2, by rw [hb2s]; exact hO2⟩
            repeat' (first
    | (first
    | ((with_reducible show IfK _ _ _ _); first | refine IfK.ff ?_ | refine IfK.tt ?_ | refine IfK.no (by first | rfl | assumption | exact nf (by assumption) | exact nt (by assumption) | ((try simp only [castN]); first | (simp [hpos, e4]; done) | (simp [hpos, e4]; omega))) ?_ | refine IfK.yes (by first | rfl | assumption | exact nf (by assumption) | exact nt (by assumption) | ((try simp only [castN]); first | (simp [hpos, e4]; done) | (simp [hpos, e4]; omega))) ?_)
    | ((with_reducible show NeedK _ _ _ _); refine NeedK.mk (by (try simp only [castN]); omega) ?_)
    | ((with_reducible show DrawK _ _ _ _); refine DrawK.mk (by kernel_rfl) (by kernel_rfl) (by kernel_rfl) ?_)
    | ((with_reducible show IdxK _ _ _ _ _); first | refine IdxK.mk i (eMk ⟨kd, dp, nd, wt, er, nm, b1, b2, ol, nw, fr, to, on⟩) rfl (mk_get hx) ?_ | refine IdxK.mk j (eMk ⟨ykd, ydp, ynd, ywt, yer, ynm, yb1, yb2, yol, ynw, yfr, yto, yon⟩) hsub (mk_get hy) ?_)
    | ((with_reducible show CallK _ _ 21 _ _ _ _); refine CallK.val [] h21 c21 ⟨rfl, rfl, ⟨rfl, rfl, rfl, rfl, rfl, rfl, rfl, rfl, rfl, rfl, rfl, rfl, rfl, trivial⟩, trivial⟩ rfl rfl rfl ?_)
    | ((with_reducible show CallK _ _ 22 _ _ _ _); refine CallK.lit [] (f22_ok l o' s' hO' hol' ⟨kd, dp, nd, wt, er, nm, b1, b2, ol, nw, fr, to, on⟩ hxd hpl) c22 ⟨rfl, rfl, ⟨rfl, rfl, rfl, rfl, rfl, rfl, rfl, rfl, rfl, rfl, rfl, rfl, rfl, trivial⟩, trivial⟩ rfl rfl ?_)
    | ((with_reducible show CallK _ _ 23 _ _ _ _); refine CallK.lit [] (f23_ok l hl i _ hx htl) c23 ⟨rfl, rfl, trivial⟩ rfl rfl ?_)
    | ((with_reducible show CallK _ _ 24 _ _ _ _); refine CallK.lit [] (f24_at hop) c24 ⟨⟨rfl, rfl, rfl, rfl, rfl, rfl, rfl, rfl, rfl, rfl, rfl, rfl, rfl, trivial⟩, trivial⟩ rfl rfl ?_)
    | ((with_reducible show AppK _ _ _ _ _ _ _ _ _ _); first | refine AppK.mk (o'.map oNat) [eInt i] ⟨rfl, rfl, rfl⟩ ⟨rfl, rfl, rfl⟩ rfl (by simp; omega) (by simp; omega) ?_ | refine AppK.mk [] (o'.map oNat) ⟨rfl, rfl, rfl⟩ ⟨rfl, rfl, rfl⟩ (oneL_nats o') (by simp; omega) (by simp; omega) ?_)
    | ((with_reducible show NextK _ _); refine NextK.mk (i + 1, o' ++ [i]) hJ (by show l.length - (i + 1) < l.length - i; omega) ⟨⟨rfl, rfl⟩, ⟨rfl, frz_nats rfl rfl (by simp [oNat]) (by simp), hnext, trivial⟩, trivial⟩)) <;> ((with_reducible conv => whnf); (with_reducible conv => congr <;> reduce); repeat ((first | (with_reducible refine HaltK.mk ?_) | (with_reducible refine StopK.mk ?_)); (with_reducible conv => whnf); (with_reducible conv => congr <;> reduce)))
    | ((with_reducible show (_ ∧ _) ∧ _ ∧ _); refine ⟨⟨rfl, rfl⟩, ?_, ?_⟩ <;> (with_reducible conv => whnf) <;> repeat' (first | (with_reducible exact trivial) | (with_reducible refine And.intro ?_ ?_ <;> with_reducible conv => whnf))))
          | false =>
            obtain ⟨b2', hb2, hb2s⟩ := hI
            unfold nextR at hb2s
            rw [if_neg (by rw [show opensK kd = false from hop]; simp)] at hb2s
            by_cases e4 : kd = 4
            · rw [if_pos e4] at hb2s
              obtain ⟨q, hq⟩ : ∃ q, o'.length = q + 1 := by
                have h1 := hO'.len
                cases hz : o'.length with
                | succ q => exact ⟨q, rfl⟩
                | zero =>
                  exfalso
                  rw [hz] at h1
                  have hnil : s' = [] := List.length_eq_zero_iff.1 h1.symm
                  rw [hnil] at hpl
                  simp [placeR, e4, topM] at hpl
              have hO2 : Opn l (o'.take q) s'.dropLast := by
                have h1 := hO'.take q
                rw [List.dropLast_eq_take, ← hO'.len, hq]
                exact h1
              have hom : (o'.map oNat).length = q + 1 := by rw [List.length_map, hq]
              have hJ : i + 1 ≤ l.length ∧ (o'.take q).length ≤ i + 1 ∧ ∃ b', runM book0 (l.take (i + 1)) = some b' ∧ Opn l (o'.take q) b'.stk := ⟨by omega, by rw [List.length_take]; omega, b2', hb2, by rw [hb2s]; exact hO2⟩
              try (exfalso; omega)
              all_goals (repeat' (first
    | (first
    | ((with_reducible show IfK _ _ _ _); first | refine IfK.ff ?_ | refine IfK.tt ?_ | refine IfK.no (by first | rfl | assumption | exact nf (by assumption) | exact nt (by assumption) | ((try simp only [castN]); first | (simp [hpos, e4]; done) | (simp [hpos, e4]; omega))) ?_ | refine IfK.yes (by first | rfl | assumption | exact nf (by assumption) | exact nt (by assumption) | ((try simp only [castN]); first | (simp [hpos, e4]; done) | (simp [hpos, e4]; omega))) ?_)
    | ((with_reducible show NeedK _ _ _ _); refine NeedK.mk (by (try simp only [castN]); omega) ?_)
    | ((with_reducible show DrawK _ _ _ _); refine DrawK.mk (by kernel_rfl) (by kernel_rfl) (by kernel_rfl) ?_)
    | ((with_reducible show IdxK _ _ _ _ _); first | refine IdxK.mk i (eMk ⟨kd, dp, nd, wt, er, nm, b1, b2, ol, nw, fr, to, on⟩) rfl (mk_get hx) ?_ | refine IdxK.mk j (eMk ⟨ykd, ydp, ynd, ywt, yer, ynm, yb1, yb2, yol, ynw, yfr, yto, yon⟩) hsub (mk_get hy) ?_)
    | ((with_reducible show CallK _ _ 21 _ _ _ _); refine CallK.val [] h21 c21 ⟨rfl, rfl, ⟨rfl, rfl, rfl, rfl, rfl, rfl, rfl, rfl, rfl, rfl, rfl, rfl, rfl, trivial⟩, trivial⟩ rfl rfl rfl ?_)
    | ((with_reducible show CallK _ _ 22 _ _ _ _); refine CallK.lit [] (f22_ok l o' s' hO' hol' ⟨kd, dp, nd, wt, er, nm, b1, b2, ol, nw, fr, to, on⟩ hxd hpl) c22 ⟨rfl, rfl, ⟨rfl, rfl, rfl, rfl, rfl, rfl, rfl, rfl, rfl, rfl, rfl, rfl, rfl, trivial⟩, trivial⟩ rfl rfl ?_)
    | ((with_reducible show CallK _ _ 23 _ _ _ _); refine CallK.lit [] (f23_ok l hl i _ hx htl) c23 ⟨rfl, rfl, trivial⟩ rfl rfl ?_)
    | ((with_reducible show CallK _ _ 24 _ _ _ _); refine CallK.lit [] (f24_at hop) c24 ⟨⟨rfl, rfl, rfl, rfl, rfl, rfl, rfl, rfl, rfl, rfl, rfl, rfl, rfl, trivial⟩, trivial⟩ rfl rfl ?_)
    | ((with_reducible show CutFK _ _ _ _ _ _); refine CutFK.mk 0 q ((o'.take q).map oNat) rfl (by simp only [castN]; omega) (by omega) (by rw [List.drop_zero, List.map_take]) ?_)
    | ((with_reducible show NextK _ _); refine NextK.mk (i + 1, o'.take q) hJ (by show l.length - (i + 1) < l.length - i; omega) ⟨⟨rfl, rfl⟩, ⟨rfl, rfl, hnext, trivial⟩, trivial⟩)) <;> ((with_reducible conv => whnf); (with_reducible conv => congr <;> reduce); repeat ((first | (with_reducible refine HaltK.mk ?_) | (with_reducible refine StopK.mk ?_)); (with_reducible conv => whnf); (with_reducible conv => congr <;> reduce)))
    | ((with_reducible show (_ ∧ _) ∧ _ ∧ _); refine ⟨⟨rfl, rfl⟩, ?_, ?_⟩ <;> (with_reducible conv => whnf) <;> repeat' (first | (with_reducible exact trivial) | (with_reducible refine And.intro ?_ ?_ <;> with_reducible conv => whnf)))))
            · rw [if_neg e4] at hb2s
              have hJ : i + 1 ≤ l.length ∧ o'.length ≤ i + 1 ∧ ∃ b', runM book0 (l.take (i + 1)) = some b' ∧ Opn l o' b'.stk := ⟨by omega, by omega, b2', hb2, by rw [hb2s]; exact hO'⟩
              repeat' (first
    | (first
    | ((with_reducible show IfK _ _ _ _); first | refine IfK.ff ?_ | refine IfK.tt ?_ | refine IfK.no (by first | rfl | assumption | exact nf (by assumption) | exact nt (by assumption) | ((try simp only [castN]); first | (simp [hpos, e4]; done) | (simp [hpos, e4]; omega))) ?_ | refine IfK.yes (by first | rfl | assumption | exact nf (by assumption) | exact nt (by assumption) | ((try simp only [castN]); first | (simp [hpos, e4]; done) | (simp [hpos, e4]; omega))) ?_)
    | ((with_reducible show NeedK _ _ _ _); refine NeedK.mk (by (try simp only [castN]); omega) ?_)
    | ((with_reducible show DrawK _ _ _ _); refine DrawK.mk (by kernel_rfl) (by kernel_rfl) (by kernel_rfl) ?_)
    | ((with_reducible show IdxK _ _ _ _ _); first | refine IdxK.mk i (eMk ⟨kd, dp, nd, wt, er, nm, b1, b2, ol, nw, fr, to, on⟩) rfl (mk_get hx) ?_ | refine IdxK.mk j (eMk ⟨ykd, ydp, ynd, ywt, yer, ynm, yb1, yb2, yol, ynw, yfr, yto, yon⟩) hsub (mk_get hy) ?_)
    | ((with_reducible show CallK _ _ 21 _ _ _ _); refine CallK.val [] h21 c21 ⟨rfl, rfl, ⟨rfl, rfl, rfl, rfl, rfl, rfl, rfl, rfl, rfl, rfl, rfl, rfl, rfl, trivial⟩, trivial⟩ rfl rfl rfl ?_)
    | ((with_reducible show CallK _ _ 22 _ _ _ _); refine CallK.lit [] (f22_ok l o' s' hO' hol' ⟨kd, dp, nd, wt, er, nm, b1, b2, ol, nw, fr, to, on⟩ hxd hpl) c22 ⟨rfl, rfl, ⟨rfl, rfl, rfl, rfl, rfl, rfl, rfl, rfl, rfl, rfl, rfl, rfl, rfl, trivial⟩, trivial⟩ rfl rfl ?_)
    | ((with_reducible show CallK _ _ 23 _ _ _ _); refine CallK.lit [] (f23_ok l hl i _ hx htl) c23 ⟨rfl, rfl, trivial⟩ rfl rfl ?_)
    | ((with_reducible show CallK _ _ 24 _ _ _ _); refine CallK.lit [] (f24_at hop) c24 ⟨⟨rfl, rfl, rfl, rfl, rfl, rfl, rfl, rfl, rfl, rfl, rfl, rfl, rfl, trivial⟩, trivial⟩ rfl rfl ?_)
    | ((with_reducible show NextK _ _); refine NextK.mk (i + 1, o') hJ (by show l.length - (i + 1) < l.length - i; omega) ⟨⟨rfl, rfl⟩, ⟨rfl, rfl, hnext, trivial⟩, trivial⟩)) <;> ((with_reducible conv => whnf); (with_reducible conv => congr <;> reduce); repeat ((first | (with_reducible refine HaltK.mk ?_) | (with_reducible refine StopK.mk ?_)); (with_reducible conv => whnf); (with_reducible conv => congr <;> reduce)))
    | ((with_reducible show (_ ∧ _) ∧ _ ∧ _); refine ⟨⟨rfl, rfl⟩, ?_, ?_⟩ <;> (with_reducible conv => whnf) <;> repeat' (first | (with_reducible exact trivial) | (with_reducible refine And.intro ?_ ?_ <;> with_reducible conv => whnf))))
    · obtain ⟨j, hj⟩ : ∃ j, i = j + 1 := ⟨i - 1, by omega⟩
      have hpos : ((0 : Int) < (i : Int)) = True := eq_true (by omega)
      obtain ⟨y, hy⟩ : ∃ y, l[j]? = some y := ⟨_, List.getElem?_eq_getElem (by omega)⟩
      have hov : lastOver (l.take i) = decide (y.kind = 10) := by rw [hj]; exact over_snoc hy
      rw [hov] at href
      have hsub : (i : Int) - 1 = (j : Int) := by omega
      obtain ⟨ykd, ydp, ynd, ywt, yer, ynm, yb1, yb2, yol, ynw, yfr, yto, yon⟩ := y
      by_cases y10 : ykd = 10
      · have hc := stop (by rw [href]; simp [y10])
        repeat' (first
    | (first
    | ((with_reducible show IfK _ _ _ _); first | refine IfK.ff ?_ | refine IfK.tt ?_ | refine IfK.no (by first | rfl | assumption | exact nf (by assumption) | exact nt (by assumption) | ((try simp only [castN]); first | (simp [hpos, y10]; done) | (simp [hpos, y10]; omega))) ?_ | refine IfK.yes (by first | rfl | assumption | exact nf (by assumption) | exact nt (by assumption) | ((try simp only [castN]); first | (simp [hpos, y10]; done) | (simp [hpos, y10]; omega))) ?_)
    | ((with_reducible show NeedK _ _ _ _); refine NeedK.mk (by (try simp only [castN]); omega) ?_)
    | ((with_reducible show DrawK _ _ _ _); refine DrawK.mk (by kernel_rfl) (by kernel_rfl) (by kernel_rfl) ?_)
    | ((with_reducible show IdxK _ _ _ _ _); first | refine IdxK.mk i (eMk ⟨kd, dp, nd, wt, er, nm, b1, b2, ol, nw, fr, to, on⟩) rfl (mk_get hx) ?_ | refine IdxK.mk j (eMk ⟨ykd, ydp, ynd, ywt, yer, ynm, yb1, yb2, yol, ynw, yfr, yto, yon⟩) hsub (mk_get hy) ?_)) <;> ((with_reducible conv => whnf); (with_reducible conv => congr <;> reduce); repeat ((first | (with_reducible refine HaltK.mk ?_) | (with_reducible refine StopK.mk ?_)); (with_reducible conv => whnf); (with_reducible conv => congr <;> reduce)))
    | ((with_reducible show (_ ∧ _) ∧ _ ∧ _); refine ⟨⟨rfl, rfl⟩, ?_, ?_⟩ <;> (with_reducible conv => whnf) <;> repeat' (first | (with_reducible exact trivial) | (with_reducible refine And.intro ?_ ?_ <;> with_reducible conv => whnf))))
        all_goals first | exact hc | trace_state
      · have y10' := eq_false y10
        rw [show decide (ykd = 10) = false from decide_eq_false y10] at href
        obtain ⟨pl, hpl⟩ : ∃ pl, placeR s' ⟨kd, dp, nd, wt, er, nm, b1, b2, ol, nw, fr, to, on⟩ = pl := ⟨_, rfl⟩
        obtain ⟨tl, htl⟩ : ∃ tl, toldR (l.take i) ⟨kd, dp, nd, wt, er, nm, b1, b2, ol, nw, fr, to, on⟩ = tl := ⟨_, rfl⟩
        rw [hpl, htl] at href
        simp only [Bool.not_false, Bool.true_and] at href
        cases pl with
        | false =>
          have hc := stop href
          repeat' (first
    | (first
    | ((with_reducible show IfK _ _ _ _); first | refine IfK.ff ?_ | refine IfK.tt ?_ | refine IfK.no (by first | rfl | assumption | exact nf (by assumption) | exact nt (by assumption) | ((try simp only [castN]); first | (simp [hpos, y10']; done) | (simp [hpos, y10']; omega))) ?_ | refine IfK.yes (by first | rfl | assumption | exact nf (by assumption) | exact nt (by assumption) | ((try simp only [castN]); first | (simp [hpos, y10']; done) | (simp [hpos, y10']; omega))) ?_)
    | ((with_reducible show NeedK _ _ _ _); refine NeedK.mk (by (try simp only [castN]); omega) ?_)
    | ((with_reducible show DrawK _ _ _ _); refine DrawK.mk (by kernel_rfl) (by kernel_rfl) (by kernel_rfl) ?_)
    | ((with_reducible show IdxK _ _ _ _ _); first | refine IdxK.mk i (eMk ⟨kd, dp, nd, wt, er, nm, b1, b2, ol, nw, fr, to, on⟩) rfl (mk_get hx) ?_ | refine IdxK.mk j (eMk ⟨ykd, ydp, ynd, ywt, yer, ynm, yb1, yb2, yol, ynw, yfr, yto, yon⟩) hsub (mk_get hy) ?_)
    | ((with_reducible show CallK _ _ 21 _ _ _ _); refine CallK.val [] h21 c21 ⟨rfl, rfl, ⟨rfl, rfl, rfl, rfl, rfl, rfl, rfl, rfl, rfl, rfl, rfl, rfl, rfl, trivial⟩, trivial⟩ rfl rfl rfl ?_)
    | ((with_reducible show CallK _ _ 22 _ _ _ _); refine CallK.lit [] (f22_ok l o' s' hO' hol' ⟨kd, dp, nd, wt, er, nm, b1, b2, ol, nw, fr, to, on⟩ hxd hpl) c22 ⟨rfl, rfl, ⟨rfl, rfl, rfl, rfl, rfl, rfl, rfl, rfl, rfl, rfl, rfl, rfl, rfl, trivial⟩, trivial⟩ rfl rfl ?_)
    | ((with_reducible show CallK _ _ 23 _ _ _ _); refine CallK.lit [] (f23_ok l hl i _ hx htl) c23 ⟨rfl, rfl, trivial⟩ rfl rfl ?_)
    | ((with_reducible show CallK _ _ 24 _ _ _ _); refine CallK.lit [] (f24_at hop) c24 ⟨⟨rfl, rfl, rfl, rfl, rfl, rfl, rfl, rfl, rfl, rfl, rfl, rfl, rfl, trivial⟩, trivial⟩ rfl rfl ?_)) <;> ((with_reducible conv => whnf); (with_reducible conv => congr <;> reduce); repeat ((first | (with_reducible refine HaltK.mk ?_) | (with_reducible refine StopK.mk ?_)); (with_reducible conv => whnf); (with_reducible conv => congr <;> reduce)))
    | ((with_reducible show (_ ∧ _) ∧ _ ∧ _); refine ⟨⟨rfl, rfl⟩, ?_, ?_⟩ <;> (with_reducible conv => whnf) <;> repeat' (first | (with_reducible exact trivial) | (with_reducible refine And.intro ?_ ?_ <;> with_reducible conv => whnf))))
          all_goals first | exact hc | trace_state
        | true =>
          cases tl with
          | false =>
            have hc := stop href
            repeat' (first
    | (first
    | ((with_reducible show IfK _ _ _ _); first | refine IfK.ff ?_ | refine IfK.tt ?_ | refine IfK.no (by first | rfl | assumption | exact nf (by assumption) | exact nt (by assumption) | ((try simp only [castN]); first | (simp [hpos, y10']; done) | (simp [hpos, y10']; omega))) ?_ | refine IfK.yes (by first | rfl | assumption | exact nf (by assumption) | exact nt (by assumption) | ((try simp only [castN]); first | (simp [hpos, y10']; done) | (simp [hpos, y10']; omega))) ?_)
    | ((with_reducible show NeedK _ _ _ _); refine NeedK.mk (by (try simp only [castN]); omega) ?_)
    | ((with_reducible show DrawK _ _ _ _); refine DrawK.mk (by kernel_rfl) (by kernel_rfl) (by kernel_rfl) ?_)
    | ((with_reducible show IdxK _ _ _ _ _); first | refine IdxK.mk i (eMk ⟨kd, dp, nd, wt, er, nm, b1, b2, ol, nw, fr, to, on⟩) rfl (mk_get hx) ?_ | refine IdxK.mk j (eMk ⟨ykd, ydp, ynd, ywt, yer, ynm, yb1, yb2, yol, ynw, yfr, yto, yon⟩) hsub (mk_get hy) ?_)
    | ((with_reducible show CallK _ _ 21 _ _ _ _); refine CallK.val [] h21 c21 ⟨rfl, rfl, ⟨rfl, rfl, rfl, rfl, rfl, rfl, rfl, rfl, rfl, rfl, rfl, rfl, rfl, trivial⟩, trivial⟩ rfl rfl rfl ?_)
    | ((with_reducible show CallK _ _ 22 _ _ _ _); refine CallK.lit [] (f22_ok l o' s' hO' hol' ⟨kd, dp, nd, wt, er, nm, b1, b2, ol, nw, fr, to, on⟩ hxd hpl) c22 ⟨rfl, rfl, ⟨rfl, rfl, rfl, rfl, rfl, rfl, rfl, rfl, rfl, rfl, rfl, rfl, rfl, trivial⟩, trivial⟩ rfl rfl ?_)
    | ((with_reducible show CallK _ _ 23 _ _ _ _); refine CallK.lit [] (f23_ok l hl i _ hx htl) c23 ⟨rfl, rfl, trivial⟩ rfl rfl ?_)
    | ((with_reducible show CallK _ _ 24 _ _ _ _); refine CallK.lit [] (f24_at hop) c24 ⟨⟨rfl, rfl, rfl, rfl, rfl, rfl, rfl, rfl, rfl, rfl, rfl, rfl, rfl, trivial⟩, trivial⟩ rfl rfl ?_)) <;> ((with_reducible conv => whnf); (with_reducible conv => congr <;> reduce); repeat ((first | (with_reducible refine HaltK.mk ?_) | (with_reducible refine StopK.mk ?_)); (with_reducible conv => whnf); (with_reducible conv => congr <;> reduce)))
    | ((with_reducible show (_ ∧ _) ∧ _ ∧ _); refine ⟨⟨rfl, rfl⟩, ?_, ?_⟩ <;> (with_reducible conv => whnf) <;> repeat' (first | (with_reducible exact trivial) | (with_reducible refine And.intro ?_ ?_ <;> with_reducible conv => whnf))))
            all_goals first | exact hc | trace_state
          | true =>
            have hI := go href
            cases op with
            | true =>
              have e4 : ¬ kd = 4 := by have := (opens_iff _).1 hop; simp only at this; omega
              unfold nextR at hI
              rw [if_pos hop] at hI
              have hO2 : Opn l (o' ++ [i]) (s' ++ [opOf ⟨kd, dp, nd, wt, er, nm, b1, b2, ol, nw, fr, to, on⟩]) := hO'.snoc hx
              obtain ⟨b2', hb2, hb2s⟩ := hI
              have hJ : i + 1 ≤ l.length ∧ (o' ++ [i]).length ≤ i + 1 ∧ ∃ b', runM book0 (l.take (i + 1)) = some b' ∧ Opn l (o' ++ [i]) b'.stk := ⟨by omega, by rw [List.length_append]; simp; omega, b2', hb2, by rw [hb2s]; exact hO2⟩
              repeat' (first
    | (first
    | ((with_reducible show IfK _ _ _ _); first | refine IfK.ff ?_ | refine IfK.tt ?_ | refine IfK.no (by first | rfl | assumption | exact nf (by assumption) | exact nt (by assumption) | ((try simp only [castN]); first | (simp [hpos, y10', e4]; done) | (simp [hpos, y10', e4]; omega))) ?_ | refine IfK.yes (by first | rfl | assumption | exact nf (by assumption) | exact nt (by assumption) | ((try simp only [castN]); first | (simp [hpos, y10', e4]; done) | (simp [hpos, y10', e4]; omega))) ?_)
    | ((with_reducible show NeedK _ _ _ _); refine NeedK.mk (by (try simp only [castN]); omega) ?_)
    | ((with_reducible show DrawK _ _ _ _); refine DrawK.mk (by kernel_rfl) (by kernel_rfl) (by kernel_rfl) ?_)
    | ((with_reducible show IdxK _ _ _ _ _); first | refine IdxK.mk i (eMk ⟨kd, dp, nd, wt, er, nm, b1, b2, ol, nw, fr, to, on⟩) rfl (mk_get hx) ?_ | refine IdxK.mk j (eMk ⟨ykd, ydp, ynd, ywt, yer, ynm, yb1, yb2, yol, ynw, yfr, yto, yon⟩) hsub (mk_get hy) ?_)
    | ((with_reducible show CallK _ _ 21 _ _ _ _); refine CallK.val [] h21 c21 ⟨rfl, rfl, ⟨rfl, rfl, rfl, rfl, rfl, rfl, rfl, rfl, rfl, rfl, rfl, rfl, rfl, trivial⟩, trivial⟩ rfl rfl rfl ?_)
    | ((with_reducible show CallK _ _ 22 _ _ _ _); refine CallK.lit [] (f22_ok l o' s' hO' hol' ⟨kd, dp, nd, wt, er, nm, b1, b2, ol, nw, fr, to, on⟩ hxd hpl) c22 ⟨rfl, rfl, ⟨rfl, rfl, rfl, rfl, rfl, rfl, rfl, rfl, rfl, rfl, rfl, rfl, rfl, trivial⟩, trivial⟩ rfl rfl ?_)
    | ((with_reducible show CallK _ _ 23 _ _ _ _); refine CallK.lit [] (f23_ok l hl i _ hx htl) c23 ⟨rfl, rfl, trivial⟩ rfl rfl ?_)
    | ((with_reducible show CallK _ _ 24 _ _ _ _); refine CallK.lit [] (f24_at hop) c24 ⟨⟨rfl, rfl, rfl, rfl, rfl, rfl, rfl, rfl, rfl, rfl, rfl, rfl, rfl, trivial⟩, trivial⟩ rfl rfl ?_)
    | ((with_reducible show AppK _ _ _ _ _ _ _ _ _ _); first | refine AppK.mk (o'.map oNat) [eInt i] ⟨rfl, rfl, rfl⟩ ⟨rfl, rfl, rfl⟩ rfl (by simp; omega) (by simp; omega) ?_ | refine AppK.mk [] (o'.map oNat) ⟨rfl, rfl, rfl⟩ ⟨rfl, rfl, rfl⟩ (oneL_nats o') (by simp; omega) (by simp; omega) ?_)
    | ((with_reducible show NextK _ _); refine NextK.mk (i + 1, o' ++ [i]) hJ (by show l.length - (i + 1) < l.length - i; omega) ⟨⟨rfl, rfl⟩, ⟨rfl, frz_nats rfl rfl (by simp [oNat]) (by simp), hnext, trivial⟩, trivial⟩)) <;> ((with_reducible conv => whnf); (with_reducible conv => congr <;> reduce); repeat ((first | (with_reducible refine HaltK.mk ?_) | (with_reducible refine StopK.mk ?_)); (with_reducible conv => whnf); (with_reducible conv => congr <;> reduce)))
    | ((with_reducible show (_ ∧ _) ∧ _ ∧ _); refine ⟨⟨rfl, rfl⟩, ?_, ?_⟩ <;> (with_reducible conv => whnf) <;> repeat' (first | (with_reducible exact trivial) | (with_reducible refine And.intro ?_ ?_ <;> with_reducible conv => whnf))))
            | false =>
              obtain ⟨b2', hb2, hb2s⟩ := hI
              unfold nextR at hb2s
              rw [if_neg (by rw [show opensK kd = false from hop]; simp)] at hb2s
              by_cases e4 : kd = 4
              · rw [if_pos e4] at hb2s
                obtain ⟨q, hq⟩ : ∃ q, o'.length = q + 1 := by
                  have h1 := hO'.len
                  cases hz : o'.length with
                  | succ q => exact ⟨q, rfl⟩
                  | zero =>
                    exfalso
                    rw [hz] at h1
                    have hnil : s' = [] := List.length_eq_zero_iff.1 h1.symm
                    rw [hnil] at hpl
                    simp [placeR, e4, topM] at hpl
                have hO2 : Opn l (o'.take q) s'.dropLast := by
                  have h1 := hO'.take q
                  rw [List.dropLast_eq_take, ← hO'.len, hq]
                  exact h1
                have hom : (o'.map oNat).length = q + 1 := by rw [List.length_map, hq]
                have hJ : i + 1 ≤ l.length ∧ (o'.take q).length ≤ i + 1 ∧ ∃ b', runM book0 (l.take (i + 1)) = some b' ∧ Opn l (o'.take q) b'.stk := ⟨by omega, by rw [List.length_take]; omega, b2', hb2, by rw [hb2s]; exact hO2⟩
                try (exfalso; omega)
                all_goals (repeat' (first
    | (first
    | ((with_reducible show IfK _ _ _ _); first | refine IfK.ff ?_ | refine IfK.tt ?_ | refine IfK.no (by first | rfl | assumption | exact nf (by assumption) | exact nt (by assumption) | ((try simp only [castN]); first | (simp [hpos, y10', e4]; done) | (simp [hpos, y10', e4]; omega))) ?_ | refine IfK.yes (by first | rfl | assumption | exact nf (by assumption) | exact nt (by assumption) | ((try simp only [castN]); first | (simp [hpos, y10', e4]; done) | (simp [hpos, y10', e4]; omega))) ?_)
    | ((with_reducible show NeedK _ _ _ _); refine NeedK.mk (by (try simp only [castN]); omega) ?_)
    | ((with_reducible show DrawK _ _ _ _); refine DrawK.mk (by kernel_rfl) (by kernel_rfl) (by kernel_rfl) ?_)
    | ((with_reducible show IdxK _ _ _ _ _); first | refine IdxK.mk i (eMk ⟨kd, dp, nd, wt, er, nm, b1, b2, ol, nw, fr, to, on⟩) rfl (mk_get hx) ?_ | refine IdxK.mk j (eMk ⟨ykd, ydp, ynd, ywt, yer, ynm, yb1, yb2, yol, ynw, yfr, yto, yon⟩) hsub (mk_get hy) ?_)
    | ((with_reducible show CallK _ _ 21 _ _ _ _); refine CallK.val [] h21 c21 ⟨rfl, rfl, ⟨rfl, rfl, rfl, rfl, rfl, rfl, rfl, rfl, rfl, rfl, rfl, rfl, rfl, trivial⟩, trivial⟩ rfl rfl rfl ?_)
    | ((with_reducible show CallK _ _ 22 _ _ _ _); refine CallK.lit [] (f22_ok l o' s' hO' hol' ⟨kd, dp, nd, wt, er, nm, b1, b2, ol, nw, fr, to, on⟩ hxd hpl) c22 ⟨rfl, rfl, ⟨rfl, rfl, rfl, rfl, rfl, rfl, rfl, rfl, rfl, rfl, rfl, rfl, rfl, trivial⟩, trivial⟩ rfl rfl ?_)
    | ((with_reducible show CallK _ _ 23 _ _ _ _); refine CallK.lit [] (f23_ok l hl i _ hx htl) c23 ⟨rfl, rfl, trivial⟩ rfl rfl ?_)
    | ((with_reducible show CallK _ _ 24 _ _ _ _); refine CallK.lit [] (f24_at hop) c24 ⟨⟨rfl, rfl, rfl, rfl, rfl, rfl, rfl, rfl, rfl, rfl, rfl, rfl, rfl, trivial⟩, trivial⟩ rfl rfl ?_)
    | ((with_reducible show CutFK _ _ _ _ _ _); refine CutFK.mk 0 q ((o'.take q).map oNat) rfl (by simp only [castN]; omega) (by omega) (by rw [List.drop_zero, List.map_take]) ?_)
    | ((with_reducible show NextK _ _); refine NextK.mk (i + 1, o'.take q) hJ (by show l.length - (i + 1) < l.length - i; omega) ⟨⟨rfl, rfl⟩, ⟨rfl, rfl, hnext, trivial⟩, trivial⟩)) <;> ((with_reducible conv => whnf); (with_reducible conv => congr <;> reduce); repeat ((first | (with_reducible refine HaltK.mk ?_) | (with_reducible refine StopK.mk ?_)); (with_reducible conv => whnf); (with_reducible conv => congr <;> reduce)))
    | ((with_reducible show (_ ∧ _) ∧ _ ∧ _); refine ⟨⟨rfl, rfl⟩, ?_, ?_⟩ <;> (with_reducible conv => whnf) <;> repeat' (first | (with_reducible exact trivial) | (with_reducible refine And.intro ?_ ?_ <;> with_reducible conv => whnf)))))
              · rw [if_neg e4] at hb2s
                have hJ : i + 1 ≤ l.length ∧ o'.length ≤ i + 1 ∧ ∃ b', runM book0 (l.take (i + 1)) = some b' ∧ Opn l o' b'.stk := ⟨by omega, by omega, b2', hb2, by rw [hb2s]; exact hO'⟩
                repeat' (first
    | (first
    | ((with_reducible show IfK _ _ _ _); first | refine IfK.ff ?_ | refine IfK.tt ?_ | refine IfK.no (by first | rfl | assumption | exact nf (by assumption) | exact nt (by assumption) | ((try simp only [castN]); first | (simp [hpos, y10', e4]; done) | (simp [hpos, y10', e4]; omega))) ?_ | refine IfK.yes (by first | rfl | assumption | exact nf (by assumption) | exact nt (by assumption) | ((try simp only [castN]); first | (simp [hpos, y10', e4]; done) | (simp [hpos, y10', e4]; omega))) ?_)
    | ((with_reducible show NeedK _ _ _ _); refine NeedK.mk (by (try simp only [castN]); omega) ?_)
    | ((with_reducible show DrawK _ _ _ _); refine DrawK.mk (by kernel_rfl) (by kernel_rfl) (by kernel_rfl) ?_)
    | ((with_reducible show IdxK _ _ _ _ _); first | refine IdxK.mk i (eMk ⟨kd, dp, nd, wt, er, nm, b1, b2, ol, nw, fr, to, on⟩) rfl (mk_get hx) ?_ | refine IdxK.mk j (eMk ⟨ykd, ydp, ynd, ywt, yer, ynm, yb1, yb2, yol, ynw, yfr, yto, yon⟩) hsub (mk_get hy) ?_)
    | ((with_reducible show CallK _ _ 21 _ _ _ _); refine CallK.val [] h21 c21 ⟨rfl, rfl, ⟨rfl, rfl, rfl, rfl, rfl, rfl, rfl, rfl, rfl, rfl, rfl, rfl, rfl, trivial⟩, trivial⟩ rfl rfl rfl ?_)
    | ((with_reducible show CallK _ _ 22 _ _ _ _); refine CallK.lit [] (f22_ok l o' s' hO' hol' ⟨kd, dp, nd, wt, er, nm, b1, b2, ol, nw, fr, to, on⟩ hxd hpl) c22 ⟨rfl, rfl, ⟨rfl, rfl, rfl, rfl, rfl, rfl, rfl, rfl, rfl, rfl, rfl, rfl, rfl, trivial⟩, trivial⟩ rfl rfl ?_)
    | ((with_reducible show CallK _ _ 23 _ _ _ _); refine CallK.lit [] (f23_ok l hl i _ hx htl) c23 ⟨rfl, rfl, trivial⟩ rfl rfl ?_)
    | ((with_reducible show CallK _ _ 24 _ _ _ _); refine CallK.lit [] (f24_at hop) c24 ⟨⟨rfl, rfl, rfl, rfl, rfl, rfl, rfl, rfl, rfl, rfl, rfl, rfl, rfl, trivial⟩, trivial⟩ rfl rfl ?_)
    | ((with_reducible show NextK _ _); refine NextK.mk (i + 1, o') hJ (by show l.length - (i + 1) < l.length - i; omega) ⟨⟨rfl, rfl⟩, ⟨rfl, rfl, hnext, trivial⟩, trivial⟩)) <;> ((with_reducible conv => whnf); (with_reducible conv => congr <;> reduce); repeat ((first | (with_reducible refine HaltK.mk ?_) | (with_reducible refine StopK.mk ?_)); (with_reducible conv => whnf); (with_reducible conv => congr <;> reduce)))
    | ((with_reducible show (_ ∧ _) ∧ _ ∧ _); refine ⟨⟨rfl, rfl⟩, ?_, ?_⟩ <;> (with_reducible conv => whnf) <;> repeat' (first | (with_reducible exact trivial) | (with_reducible refine And.intro ?_ ?_ <;> with_reducible conv => whnf))))
  · have hil : i = l.length := by
      have : ¬ (i : Int) < (l.length : Int) := by simpa using h1
      omega
    subst hil
    rw [List.take_length] at hb
    refine ⟨⟨rfl, rfl⟩, ?_, ?_⟩ <;> (with_reducible conv => whnf) <;> repeat' (first | (with_reducible exact trivial) | (with_reducible refine And.intro ?_ ?_ <;> with_reducible conv => whnf))
    all_goals exact check_of_run hb
end Go.Proofs.Audit
end
section
set_option linter.unusedSimpArgs false
set_option linter.unusedVariables false
namespace Go.Proofs.Audit
open Go Go.Am Go.RowKit Go.Lib
set_option maxRecDepth 100000
theorem same_succ {α : Type} {x y : List α} {k : Nat} (h : ∀ j, j < k → x[j]? = y[j]?) (hk : x[k]? = y[k]?) : ∀ j, j < k + 1 → x[j]? = y[j]? := fun j hj => by
  by_cases e : j = k
  · rw [e]; exact hk
  · exact h j (by omega)
theorem list_same {α : Type} {x y : List α} (hl : x.length = y.length) (h : ∀ j, j < x.length → x[j]? = y[j]?) : x = y := by
  refine List.ext_getElem? fun j => ?_
  rcases Nat.lt_or_ge j x.length with h6 | h6
  · exact h j h6
  · rw [List.getElem?_eq_none h6, List.getElem?_eq_none (by omega)]
/-- ref.Ints -/
theorem f12_ok (a b : List Int) (ha : a.length ≤ 100000) : FnOK Try.prog 12 [] [eInts a, eInts b] [] (eBool (decide (a = b))) := by
  have hlm : (a.map oInt).length = a.length := List.length_map ..
  have hlm' : (b.map oInt).length = b.length := List.length_map ..
  refine FnOK.startC (rvs := [.tmp 4]) G G_good Try.func12 rfl Try.ntmps12 rfl rfl ?_; delta List.toArray; ((with_reducible conv => whnf); (with_reducible conv => congr <;> reduce); repeat ((first | (with_reducible refine HaltK.mk ?_) | (with_reducible refine StopK.mk ?_)); (with_reducible conv => whnf); (with_reducible conv => congr <;> reduce)))
  by_cases g1 : a.length = b.length
  · repeat' (first
    | (first
    | ((with_reducible show IfK _ _ _ _); first | refine IfK.ff ?_ | refine IfK.tt ?_ | refine IfK.no (by first | rfl | assumption | exact nf (by assumption) | exact nt (by assumption) | ((try simp only [castN]); first | (simp [hlm, hlm', g1]; done) | (simp [hlm, hlm', g1]; omega))) ?_ | refine IfK.yes (by first | rfl | assumption | exact nf (by assumption) | exact nt (by assumption) | ((try simp only [castN]); first | (simp [hlm, hlm', g1]; done) | (simp [hlm, hlm', g1]; omega))) ?_)
    | ((with_reducible show NeedK _ _ _ _); refine NeedK.mk (by (try simp only [castN]); omega) ?_)
    | ((with_reducible show DrawK _ _ _ _); refine DrawK.mk (by kernel_rfl) (by kernel_rfl) (by kernel_rfl) ?_)) <;> ((with_reducible conv => whnf); (with_reducible conv => congr <;> reduce); repeat ((first | (with_reducible refine HaltK.mk ?_) | (with_reducible refine StopK.mk ?_)); (with_reducible conv => whnf); (with_reducible conv => congr <;> reduce)))
    | ((with_reducible show (_ ∧ _) ∧ _ ∧ _); refine ⟨⟨rfl, rfl⟩, ?_, ?_⟩ <;> (with_reducible conv => whnf) <;> repeat' (first | (with_reducible exact trivial) | (with_reducible refine And.intro ?_ ?_ <;> with_reducible conv => whnf))))
    refine LoopK.use G G_good (fun (k : Nat) => [(0, eInts a), (1, eInts b), (5, eInt k)]) (fun _ => []) (fun k => k ≤ a.length ∧ ∀ j, j < k → a[j]? = b[j]?) (fun k => a.length - k) 0 ⟨Nat.zero_le _, fun j hj => by omega⟩
      ⟨⟨rfl, rfl⟩, ⟨rfl, rfl, rfl, trivial⟩, trivial⟩ ?_
    intro k ⟨hk, hno⟩
    ((with_reducible conv => whnf); (with_reducible conv => congr <;> reduce); repeat ((first | (with_reducible refine HaltK.mk ?_) | (with_reducible refine StopK.mk ?_)); (with_reducible conv => whnf); (with_reducible conv => congr <;> reduce)))
    refine IfK.mk (fun h1 => ?_) (fun h1 => ?_) <;> (try simp only [castN] at h1) <;> ((with_reducible conv => whnf); (with_reducible conv => congr <;> reduce); repeat ((first | (with_reducible refine HaltK.mk ?_) | (with_reducible refine StopK.mk ?_)); (with_reducible conv => whnf); (with_reducible conv => congr <;> reduce)))
    · simp only [hlm, decide_eq_true_eq] at h1
      have hk' : k < a.length := by omega
      obtain ⟨x, hx⟩ : ∃ x, a[k]? = some x := ⟨_, List.getElem?_eq_getElem hk'⟩
      obtain ⟨y, hy⟩ : ∃ y, b[k]? = some y := ⟨_, List.getElem?_eq_getElem (by omega)⟩
      refine IdxK.mk k (eInt x) rfl (int_get hx) ?_; ((with_reducible conv => whnf); (with_reducible conv => congr <;> reduce); repeat ((first | (with_reducible refine HaltK.mk ?_) | (with_reducible refine StopK.mk ?_)); (with_reducible conv => whnf); (with_reducible conv => congr <;> reduce)))
      refine IdxK.mk k (eInt y) rfl (int_get hy) ?_; ((with_reducible conv => whnf); (with_reducible conv => congr <;> reduce); repeat ((first | (with_reducible refine HaltK.mk ?_) | (with_reducible refine StopK.mk ?_)); (with_reducible conv => whnf); (with_reducible conv => congr <;> reduce)))
      by_cases e : x = y
      · repeat' (first
    | (first
    | ((with_reducible show IfK _ _ _ _); first | refine IfK.ff ?_ | refine IfK.tt ?_ | refine IfK.no (by first | rfl | assumption | exact nf (by assumption) | exact nt (by assumption) | ((try simp only [castN]); first | (simp [e]; done) | (simp [e]; omega))) ?_ | refine IfK.yes (by first | rfl | assumption | exact nf (by assumption) | exact nt (by assumption) | ((try simp only [castN]); first | (simp [e]; done) | (simp [e]; omega))) ?_)
    | ((with_reducible show NeedK _ _ _ _); refine NeedK.mk (by (try simp only [castN]); omega) ?_)
    | ((with_reducible show DrawK _ _ _ _); refine DrawK.mk (by kernel_rfl) (by kernel_rfl) (by kernel_rfl) ?_)
    | ((with_reducible show NextK _ _); refine NextK.mk (k + 1) ⟨by omega, same_succ hno (by rw [hx, hy, e])⟩ (by omega) ⟨⟨rfl, rfl⟩, ⟨rfl, rfl, by show ((k + 1 : Nat) : Int) = (k : Int) + 1; omega, trivial⟩, trivial⟩)) <;> ((with_reducible conv => whnf); (with_reducible conv => congr <;> reduce); repeat ((first | (with_reducible refine HaltK.mk ?_) | (with_reducible refine StopK.mk ?_)); (with_reducible conv => whnf); (with_reducible conv => congr <;> reduce)))
    | ((with_reducible show (_ ∧ _) ∧ _ ∧ _); refine ⟨⟨rfl, rfl⟩, ?_, ?_⟩ <;> (with_reducible conv => whnf) <;> repeat' (first | (with_reducible exact trivial) | (with_reducible refine And.intro ?_ ?_ <;> with_reducible conv => whnf))))
      · rw [show decide (a = b) = false from decide_eq_false fun h => e (by rw [h] at hx; rw [hx] at hy; exact Option.some.inj hy)]
        repeat' (first
    | (first
    | ((with_reducible show IfK _ _ _ _); first | refine IfK.ff ?_ | refine IfK.tt ?_ | refine IfK.no (by first | rfl | assumption | exact nf (by assumption) | exact nt (by assumption) | ((try simp only [castN]); first | (simp [e]; done) | (simp [e]; omega))) ?_ | refine IfK.yes (by first | rfl | assumption | exact nf (by assumption) | exact nt (by assumption) | ((try simp only [castN]); first | (simp [e]; done) | (simp [e]; omega))) ?_)
    | ((with_reducible show NeedK _ _ _ _); refine NeedK.mk (by (try simp only [castN]); omega) ?_)
    | ((with_reducible show DrawK _ _ _ _); refine DrawK.mk (by kernel_rfl) (by kernel_rfl) (by kernel_rfl) ?_)) <;> ((with_reducible conv => whnf); (with_reducible conv => congr <;> reduce); repeat ((first | (with_reducible refine HaltK.mk ?_) | (with_reducible refine StopK.mk ?_)); (with_reducible conv => whnf); (with_reducible conv => congr <;> reduce)))
    | ((with_reducible show (_ ∧ _) ∧ _ ∧ _); refine ⟨⟨rfl, rfl⟩, ?_, ?_⟩ <;> (with_reducible conv => whnf) <;> repeat' (first | (with_reducible exact trivial) | (with_reducible refine And.intro ?_ ?_ <;> with_reducible conv => whnf))))
    · have hkl : k = a.length := by simp only [hlm, decide_eq_false_iff_not] at h1; omega
      subst hkl
      rw [show decide (a = b) = true from decide_eq_true (list_same g1 hno)]
      repeat' (first
    | (first
    | ((with_reducible show IfK _ _ _ _); first | refine IfK.ff ?_ | refine IfK.tt ?_ | refine IfK.no (by first | rfl | assumption | exact nf (by assumption) | exact nt (by assumption) | ((try simp only [castN]); first | (simp [hlm]; done) | (simp [hlm]; omega))) ?_ | refine IfK.yes (by first | rfl | assumption | exact nf (by assumption) | exact nt (by assumption) | ((try simp only [castN]); first | (simp [hlm]; done) | (simp [hlm]; omega))) ?_)
    | ((with_reducible show NeedK _ _ _ _); refine NeedK.mk (by (try simp only [castN]); omega) ?_)
    | ((with_reducible show DrawK _ _ _ _); refine DrawK.mk (by kernel_rfl) (by kernel_rfl) (by kernel_rfl) ?_)) <;> ((with_reducible conv => whnf); (with_reducible conv => congr <;> reduce); repeat ((first | (with_reducible refine HaltK.mk ?_) | (with_reducible refine StopK.mk ?_)); (with_reducible conv => whnf); (with_reducible conv => congr <;> reduce)))
    | ((with_reducible show (_ ∧ _) ∧ _ ∧ _); refine ⟨⟨rfl, rfl⟩, ?_, ?_⟩ <;> (with_reducible conv => whnf) <;> repeat' (first | (with_reducible exact trivial) | (with_reducible refine And.intro ?_ ?_ <;> with_reducible conv => whnf))))
  · rw [show decide (a = b) = false from decide_eq_false fun h => g1 (by rw [h])]
    repeat' (first
    | (first
    | ((with_reducible show IfK _ _ _ _); first | refine IfK.ff ?_ | refine IfK.tt ?_ | refine IfK.no (by first | rfl | assumption | exact nf (by assumption) | exact nt (by assumption) | ((try simp only [castN]); first | (simp [hlm, hlm', g1]; done) | (simp [hlm, hlm', g1]; omega))) ?_ | refine IfK.yes (by first | rfl | assumption | exact nf (by assumption) | exact nt (by assumption) | ((try simp only [castN]); first | (simp [hlm, hlm', g1]; done) | (simp [hlm, hlm', g1]; omega))) ?_)
    | ((with_reducible show NeedK _ _ _ _); refine NeedK.mk (by (try simp only [castN]); omega) ?_)
    | ((with_reducible show DrawK _ _ _ _); refine DrawK.mk (by kernel_rfl) (by kernel_rfl) (by kernel_rfl) ?_)) <;> ((with_reducible conv => whnf); (with_reducible conv => congr <;> reduce); repeat ((first | (with_reducible refine HaltK.mk ?_) | (with_reducible refine StopK.mk ?_)); (with_reducible conv => whnf); (with_reducible conv => congr <;> reduce)))
    | ((with_reducible show (_ ∧ _) ∧ _ ∧ _); refine ⟨⟨rfl, rfl⟩, ?_, ?_⟩ <;> (with_reducible conv => whnf) <;> repeat' (first | (with_reducible exact trivial) | (with_reducible refine And.intro ?_ ?_ <;> with_reducible conv => whnf))))

theorem f8_at {l : List MkM} {c : Int} (hl : l.length ≤ 100000) (hd : ∀ x ∈ l, okD x) (h : checkM book0 0 l = c) : FnOK Try.prog 8 [] [eMks l] [] (eInt c) := by subst h; exact f8_ok l hl hd
theorem f9_at {l : List MkM} {c : Int} (hl : l.length ≤ 100000) (hd : ∀ x ∈ l, okD x) (h : checkM book0 0 l = c) : FnOK Try.prog 9 [] [eMks l] [] (eInt c) := by subst h; exact f9_ok l hl hd
theorem f10_at {l : List MkM} {n w c : Int} (hl : l.length ≤ 100000) (h : (callsM l n w : Int) = c) : FnOK Try.prog 10 [] [eMks l, eInt n, eInt w] [] (eInt c) := by subst h; exact f10_ok l hl n w
theorem f11_at {l : List MkM} {n w c : Int} (hl : l.length ≤ 100000) (h : (callsM l n w : Int) = c) : FnOK Try.prog 11 [] [eMks l, eInt n, eInt w] [] (eInt c) := by subst h; exact f11_ok l hl n w
theorem f12_at {a b : List Int} {r : Bool} (ha : a.length ≤ 100000) (h : decide (a = b) = r) : FnOK Try.prog 12 [] [eInts a, eInts b] [] (eBool r) := by subst h; exact f12_ok a b ha
theorem f13_at {l : List MkM} {c : List Int} (hl : l.length ≤ 100000) (h : begunM l = c) : FnOK Try.prog 13 [] [eMks l] [] (eInts c) := by subst h; exact f13_ok l hl
theorem f14_at {l : List MkM} {c : List Int} (hl : l.length ≤ 100000) (h : begunM l = c) : FnOK Try.prog 14 [] [eMks l] [] (eInts c) := by subst h; exact f14_ok l hl
theorem f15_at {l : List MkM} {n c : Int} (hl : l.length ≤ 100000) (h : becameM l n = c) : FnOK Try.prog 15 [] [eMks l, eInt n] [] (eInt c) := by subst h; exact f15_ok l hl n
theorem f16_at {l : List MkM} {n c : Int} (hl : l.length ≤ 100000) (h : becameM l n = c) : FnOK Try.prog 16 [] [eMks l, eInt n] [] (eInt c) := by subst h; exact f16_ok l hl n
theorem f17_at {l : List MkM} {n c : Int} {s : ByteArray} (hl : l.length ≤ 100000) (h : chainM n s none 0 l = c) : FnOK Try.prog 17 [] [eMks l, eInt n, eStr s] [] (eInt c) := by subst h; exact f17_ok l hl n s
theorem f18_at {l : List MkM} {n c : Int} {s : ByteArray} (hl : l.length ≤ 100000) (h : chainM n s none 0 l = c) : FnOK Try.prog 18 [] [eMks l, eInt n, eStr s] [] (eInt c) := by subst h; exact f18_ok l hl n s
@[reducible] def e0 : ByteArray := ByteArray.empty
@[reducible] def mk1 : MkM := ⟨3, 1, 4, 0, 0, e0, false, false, e0, e0, 0, 0, false⟩
@[reducible] def mk2 : MkM := ⟨4, 1, 4, 0, 0, e0, false, false, e0, e0, 0, 0, false⟩
@[reducible] def mk3 : MkM := ⟨5, 1, 4, 3, 0, e0, false, false, e0, e0, 0, 0, false⟩
@[reducible] def mk4 : MkM := ⟨6, 1, 4, 1, 0, e0, false, false, e0, e0, 0, 0, false⟩
@[reducible] def mk5 : MkM := ⟨1, 0, 0, 0, 0, e0, false, false, e0, e0, 0, 0, false⟩
@[reducible] def mk6 : MkM := ⟨6, 1, 5, 0, 0, e0, false, false, e0, e0, 0, 0, false⟩
@[reducible] def six : List MkM := [mk1, mk2, mk3, mk4, mk5, mk6]
@[reducible] def aS : ByteArray := ⟨#[97]⟩
theorem w1 : checkM book0 0 six = 5 := by decide +kernel
theorem w2 : checkM book0 0 [mk1, mk2, mk3, mk4, mk5] = -1 := by decide +kernel
theorem w3 : (callsM six 4 1 : Int) = 1 := by decide +kernel
theorem w4 : begunM six = [4] := by decide +kernel
theorem w5 : becameM six 4 = 3 := by decide +kernel
theorem w6 : chainM 4 aS none 0 six = -1 := by decide +kernel
theorem six_ok : ∀ x ∈ six, okD x := by
  intro x hx
  simp only [six, List.mem_cons, List.not_mem_nil, or_false] at hx
  rcases hx with rfl | rfl | rfl | rfl | rfl | rfl <;> exact ⟨by decide, by decide⟩
theorem five_ok : ∀ x ∈ [mk1, mk2, mk3, mk4, mk5], okD x := fun x hx => six_ok x (by
  simp only [six, List.mem_cons, List.not_mem_nil, or_false] at hx ⊢
  rcases hx with h | h | h | h | h <;> simp [h])
theorem noRef_mks (l : List MkM) : noRefL (l.map oMk) = true := by
  rw [noRefL_iff]; intro x hx
  obtain ⟨a, _, rfl⟩ := List.mem_map.1 hx
  rfl
theorem frz_mks {m : ML} {fz : Nat → Bool} {tab : List (Nat × Nat)} {n t len : Nat} {ro : Bool} {rows : List AV} {l : List MkM} (h1 : lkM m t = .live 13 rows ro) (h2 : fz t = true) (h3 : len ≤ rows.length) (h4 : l.map oMk = rows.take len) : FrzK m fz (MF tab fz m n) (eMks l) t 0 len := by
  exact .cut h1 h2 (by omega) (by rw [List.drop_zero]; exact h4) (noRef_mks l)
set_option maxHeartbeats 16000000 in
/-- awake -/
theorem f7_ok : FnOK Try.prog 7 [] [] [] (eBool true) := by
  refine FnOK.startC (rvs := [.tmp 0]) G G_good Try.func7 rfl Try.ntmps7 rfl rfl ?_; delta List.toArray; ((with_reducible conv => whnf); (with_reducible conv => congr <;> reduce); repeat ((first | (with_reducible refine HaltK.mk ?_) | (with_reducible refine StopK.mk ?_)); (with_reducible conv => whnf); (with_reducible conv => congr <;> reduce)))
  repeat' (first
    | (first
    | ((with_reducible show IfK _ _ _ _); first | refine IfK.ff ?_ | refine IfK.tt ?_ | refine IfK.no (by first | rfl | assumption | exact nf (by assumption) | exact nt (by assumption) | ((try simp only [castN]); first | (simp []; done) | (simp []; omega))) ?_ | refine IfK.yes (by first | rfl | assumption | exact nf (by assumption) | exact nt (by assumption) | ((try simp only [castN]); first | (simp []; done) | (simp []; omega))) ?_)
    | ((with_reducible show NeedK _ _ _ _); refine NeedK.mk (by (try simp only [castN]); omega) ?_)
    | ((with_reducible show DrawK _ _ _ _); refine DrawK.mk (by kernel_rfl) (by kernel_rfl) (by kernel_rfl) ?_)
    | ((with_reducible show CallK _ _ 8 _ _ _ _); first | refine CallK.lit [81] (f8_at (l := six) (by decide) six_ok w1) c8 ⟨frz_mks rfl rfl (by decide) rfl, trivial⟩ rfl rfl ?_ | refine CallK.lit [81] (f8_at (l := [mk1, mk2, mk3, mk4, mk5]) (by decide) five_ok w2) c8 ⟨frz_mks rfl rfl (by decide) rfl, trivial⟩ rfl rfl ?_)
    | ((with_reducible show CutK _ _ _ _ _ _); refine CutK.mk 0 5 rfl rfl (by decide) ?_)
    | ((with_reducible show CallK _ _ 10 _ _ _ _); refine CallK.lit [81] (f10_at (l := six) (by decide) w3) c10 ⟨frz_mks rfl rfl (by decide) rfl, rfl, rfl, trivial⟩ rfl rfl ?_)
    | ((with_reducible show CallK _ _ 13 _ _ _ _); refine CallK.val [81] (f13_at (l := six) (by decide) w4) c13 ⟨frz_mks rfl rfl (by decide) rfl, trivial⟩ rfl rfl rfl ?_)
    | ((with_reducible show CallK _ _ 12 _ _ _ _); refine CallK.lit [261] (f12_at (a := [4]) (b := [4]) (r := true) (by decide) (by decide)) c12 ⟨rfl, frz_ints rfl rfl rfl rfl, trivial⟩ rfl rfl ?_)
    | ((with_reducible show CallK _ _ 15 _ _ _ _); refine CallK.lit [81] (f15_at (l := six) (by decide) w5) c15 ⟨frz_mks rfl rfl (by decide) rfl, rfl, trivial⟩ rfl rfl ?_)
    | ((with_reducible show CallK _ _ 17 _ _ _ _); refine CallK.lit [81] (f17_at (l := six) (by decide) w6) c17 ⟨frz_mks rfl rfl (by decide) rfl, rfl, rfl, trivial⟩ rfl rfl ?_)) <;> ((with_reducible conv => whnf); (with_reducible conv => congr <;> reduce); repeat ((first | (with_reducible refine HaltK.mk ?_) | (with_reducible refine StopK.mk ?_)); (with_reducible conv => whnf); (with_reducible conv => congr <;> reduce)))
    | ((with_reducible show (_ ∧ _) ∧ _ ∧ _); refine ⟨⟨rfl, rfl⟩, ?_, ?_⟩ <;> (with_reducible conv => whnf) <;> repeat' (first | (with_reducible exact trivial) | (with_reducible refine And.intro ?_ ?_ <;> with_reducible conv => whnf))))
  all_goals first | rfl | trace_state
set_option maxHeartbeats 16000000 in
/-- AuditRight -/
theorem f3_ok (l : List MkM) (hd : ∀ x ∈ l, okD x) (n w : Int) (s : ByteArray) : FnOK Try.prog 3 [] [eMks l, eInt n, eInt w, eStr s] [] (eBool true) := by
  have hlm : (l.map oMk).length = l.length := List.length_map ..
  refine FnOK.startC (rvs := [.tmp 8]) G G_good Try.func3 rfl Try.ntmps3 rfl rfl ?_; delta List.toArray; ((with_reducible conv => whnf); (with_reducible conv => congr <;> reduce); repeat ((first | (with_reducible refine HaltK.mk ?_) | (with_reducible refine StopK.mk ?_)); (with_reducible conv => whnf); (with_reducible conv => congr <;> reduce)))
  refine CallK.lit [] f7_ok c7 trivial rfl rfl ?_; ((with_reducible conv => whnf); (with_reducible conv => congr <;> reduce); repeat ((first | (with_reducible refine HaltK.mk ?_) | (with_reducible refine StopK.mk ?_)); (with_reducible conv => whnf); (with_reducible conv => congr <;> reduce)))
  by_cases g : 200 < l.length
  · have g' : (200 < (l.length : Int)) = True := eq_true (by omega)
    repeat' (first
    | (first
    | ((with_reducible show IfK _ _ _ _); first | refine IfK.ff ?_ | refine IfK.tt ?_ | refine IfK.no (by first | rfl | assumption | exact nf (by assumption) | exact nt (by assumption) | ((try simp only [castN]); first | (simp [hlm, g']; done) | (simp [hlm, g']; omega))) ?_ | refine IfK.yes (by first | rfl | assumption | exact nf (by assumption) | exact nt (by assumption) | ((try simp only [castN]); first | (simp [hlm, g']; done) | (simp [hlm, g']; omega))) ?_)
    | ((with_reducible show NeedK _ _ _ _); refine NeedK.mk (by (try simp only [castN]); omega) ?_)
    | ((with_reducible show DrawK _ _ _ _); refine DrawK.mk (by kernel_rfl) (by kernel_rfl) (by kernel_rfl) ?_)) <;> ((with_reducible conv => whnf); (with_reducible conv => congr <;> reduce); repeat ((first | (with_reducible refine HaltK.mk ?_) | (with_reducible refine StopK.mk ?_)); (with_reducible conv => whnf); (with_reducible conv => congr <;> reduce)))
    | ((with_reducible show (_ ∧ _) ∧ _ ∧ _); refine ⟨⟨rfl, rfl⟩, ?_, ?_⟩ <;> (with_reducible conv => whnf) <;> repeat' (first | (with_reducible exact trivial) | (with_reducible refine And.intro ?_ ?_ <;> with_reducible conv => whnf))))
  · have g' : (200 < (l.length : Int)) = False := eq_false (by omega)
    have hl : l.length ≤ 100000 := by omega
    obtain ⟨c1, h1⟩ : ∃ c, checkM book0 0 l = c := ⟨_, rfl⟩
    obtain ⟨c2, h2⟩ : ∃ c : Int, (callsM l n w : Int) = c := ⟨_, rfl⟩
    obtain ⟨c3, h3⟩ : ∃ c, begunM l = c := ⟨_, rfl⟩
    obtain ⟨c4, h4⟩ : ∃ c, becameM l n = c := ⟨_, rfl⟩
    obtain ⟨c5, h5⟩ : ∃ c, chainM n s none 0 l = c := ⟨_, rfl⟩
    have hc3 : c3.length ≤ 100000 := by
      have := begun_le l l.length
      rw [List.take_length, h3] at this
      omega
    repeat' (first
    | (first
    | ((with_reducible show IfK _ _ _ _); first | refine IfK.ff ?_ | refine IfK.tt ?_ | refine IfK.no (by first | rfl | assumption | exact nf (by assumption) | exact nt (by assumption) | ((try simp only [castN]); first | (simp [hlm, g']; done) | (simp [hlm, g']; omega))) ?_ | refine IfK.yes (by first | rfl | assumption | exact nf (by assumption) | exact nt (by assumption) | ((try simp only [castN]); first | (simp [hlm, g']; done) | (simp [hlm, g']; omega))) ?_)
    | ((with_reducible show NeedK _ _ _ _); refine NeedK.mk (by (try simp only [castN]); omega) ?_)
    | ((with_reducible show DrawK _ _ _ _); refine DrawK.mk (by kernel_rfl) (by kernel_rfl) (by kernel_rfl) ?_)
    | ((with_reducible show CallK _ _ 8 _ _ _ _); refine CallK.lit [] (f8_at hl hd h1) c8 ⟨rfl, trivial⟩ rfl rfl ?_)
    | ((with_reducible show CallK _ _ 9 _ _ _ _); refine CallK.lit [] (f9_at hl hd h1) c9 ⟨rfl, trivial⟩ rfl rfl ?_)
    | ((with_reducible show CallK _ _ 10 _ _ _ _); refine CallK.lit [] (f10_at hl h2) c10 ⟨rfl, rfl, rfl, trivial⟩ rfl rfl ?_)
    | ((with_reducible show CallK _ _ 11 _ _ _ _); refine CallK.lit [] (f11_at hl h2) c11 ⟨rfl, rfl, rfl, trivial⟩ rfl rfl ?_)
    | ((with_reducible show CallK _ _ 12 _ _ _ _); refine CallK.lit [] (f12_at hc3 (decide_eq_true rfl)) c12 ⟨rfl, rfl, trivial⟩ rfl rfl ?_)
    | ((with_reducible show CallK _ _ 13 _ _ _ _); refine CallK.val [] (f13_at hl h3) c13 ⟨rfl, trivial⟩ rfl rfl rfl ?_)
    | ((with_reducible show CallK _ _ 14 _ _ _ _); refine CallK.val [] (f14_at hl h3) c14 ⟨rfl, trivial⟩ rfl rfl rfl ?_)
    | ((with_reducible show CallK _ _ 15 _ _ _ _); refine CallK.lit [] (f15_at hl h4) c15 ⟨rfl, rfl, trivial⟩ rfl rfl ?_)
    | ((with_reducible show CallK _ _ 16 _ _ _ _); refine CallK.lit [] (f16_at hl h4) c16 ⟨rfl, rfl, trivial⟩ rfl rfl ?_)
    | ((with_reducible show CallK _ _ 17 _ _ _ _); refine CallK.lit [] (f17_at hl h5) c17 ⟨rfl, rfl, rfl, trivial⟩ rfl rfl ?_)
    | ((with_reducible show CallK _ _ 18 _ _ _ _); refine CallK.lit [] (f18_at hl h5) c18 ⟨rfl, rfl, rfl, trivial⟩ rfl rfl ?_)) <;> ((with_reducible conv => whnf); (with_reducible conv => congr <;> reduce); repeat ((first | (with_reducible refine HaltK.mk ?_) | (with_reducible refine StopK.mk ?_)); (with_reducible conv => whnf); (with_reducible conv => congr <;> reduce)))
    | ((with_reducible show (_ ∧ _) ∧ _ ∧ _); refine ⟨⟨rfl, rfl⟩, ?_, ?_⟩ <;> (with_reducible conv => whnf) <;> repeat' (first | (with_reducible exact trivial) | (with_reducible refine And.intro ?_ ?_ <;> with_reducible conv => whnf))))
    all_goals first | rfl | (simp; done) | trace_state
end Go.Proofs.Audit
end
section
set_option linter.unusedSimpArgs false
set_option linter.unusedVariables false
namespace Go.Proofs.Audit
open Go Go.Am Go.RowKit
/-! Own text: how the arguments of this seat's laws read. -/
theorem rI : Reads Try.prog 3 1 (fun n : Int => .lit (.int .i64 n)) (fun n => (Lit.int .i64 n).wf = true) := Reads.int Try.underlying3 (by kernel_rfl)
theorem rE : Reads Try.prog 32 1 (fun n : Int => .lit (.int .i64 n)) (fun n => (Lit.int .i64 n).wf = true) := Reads.int Try.underlying32 (by kernel_rfl)
theorem rBl : Reads Try.prog 4 1 (fun b : Bool => .lit (.bool b)) (fun _ => True) := Reads.bool Try.underlying4 (by kernel_rfl)
theorem rStr : Reads Try.prog 9 1 (fun b : ByteArray => .lit (.string b)) (fun s => s.size ≤ maxLen) := Reads.str Try.underlying9 (by kernel_rfl)
theorem okD_of {n : Int} (h : (Lit.int .i64 n).wf = true) : -9223372036854775808 ≤ n ∧ n ≤ 9223372036854775807 := by
  simp [Lit.wf, IntKind.min, IntKind.max, IntKind.signed, IntKind.bits] at h
  omega
theorem rMk : Reads Try.prog 34 13 oMk okD :=
  (Reads.struct (l := [(0, 3), (1, 3), (2, 3), (3, 3), (4, 32), (5, 9), (6, 4), (7, 4), (8, 9), (9, 9), (10, 3), (11, 3), (12, 4)]) Try.underlying34 (by kernel_rfl) rfl
    (.cons rI (.cons rI (.cons rI (.cons rI (.cons rE (.cons rStr (.cons rBl (.cons rBl (.cons rStr (.cons rStr (.cons rI (.cons rI (.cons rBl .nil)))))))))))))).conv
    (fun (a, b, c, d, e, f, g, h, i, j, k, l, m, _) => ⟨a, b, c, d, e, f, g, h, i, j, k, l, m⟩)
    (fun t => (t.kind, t.depth, t.node, t.what, t.err, t.name, t.had, t.has, t.old, t.new, t.fr, t.to, t.on, ())) (fun _ => rfl) (fun _ => rfl) (fun _ h => okD_of h.2.1)
theorem rMks : Reads Try.prog 22 1 eMks (fun l => ∀ x ∈ l, okD x) := (Reads.slice Try.underlying22 (by kernel_rfl) rMk (by omega)).conv id id (fun _ => rfl) (fun _ => rfl) (fun _ h => h.2)
theorem laid : Go.laidOutB Try.prog = true := by kernel_rfl
end Go.Proofs.Audit
end
