/- The walk of the law AuditLives. By an AI agent. -/
import Derived.Test.YtebingflknhcjaaWP
section
set_option linter.unusedSimpArgs false
set_option linter.unusedVariables false
namespace Go.Proofs.Audit
open Go Go.Am Go.RowKit Go.Lib
set_option maxRecDepth 100000
def bgN (l : List MkM) : Nat := l.countP (fun x => decide (x.kind = 3))
def enN (l : List MkM) : Nat := l.countP (fun x => decide (x.kind = 4))
theorem bg_snoc {l : List MkM} {k : Nat} {x : MkM} (h : l[k]? = some x) : bgN (l.take (k + 1)) = bgN (l.take k) + if x.kind = 3 then 1 else 0 := by
  rw [take_snoc' h]; unfold bgN
  rw [List.countP_append]
  by_cases e : x.kind = 3 <;> simp [e]
theorem en_snoc {l : List MkM} {k : Nat} {x : MkM} (h : l[k]? = some x) : enN (l.take (k + 1)) = enN (l.take k) + if x.kind = 4 then 1 else 0 := by
  rw [take_snoc' h]; unfold enN
  rw [List.countP_append]
  by_cases e : x.kind = 4 <;> simp [e]
theorem bg_le (l : List MkM) (k : Nat) : bgN (l.take k) ≤ k := by
  unfold bgN
  refine Nat.le_trans List.countP_le_length ?_
  simp; omega
theorem en_le (l : List MkM) (k : Nat) : enN (l.take k) ≤ k := by
  unfold enN
  refine Nat.le_trans List.countP_le_length ?_
  simp; omega
set_option maxHeartbeats 32000000 in
/-- AuditLives -/
theorem f5_ok (l : List MkM) (hd : ∀ x ∈ l, okD x) : FnOK Try.prog 5 [] [eMks l] [] (eBool true) := by
  have hlm : (l.map oMk).length = l.length := List.length_map ..
  refine FnOK.startC (rvs := [.tmp 2]) G G_good Try.func5 rfl Try.ntmps5 rfl rfl ?_; delta List.toArray; ((with_reducible conv => whnf); (with_reducible conv => congr <;> reduce); repeat ((first | (with_reducible refine HaltK.mk ?_) | (with_reducible refine StopK.mk ?_)); (with_reducible conv => whnf); (with_reducible conv => congr <;> reduce)))
  refine CallK.lit [] f7_ok c7 trivial rfl rfl ?_; ((with_reducible conv => whnf); (with_reducible conv => congr <;> reduce); repeat ((first | (with_reducible refine HaltK.mk ?_) | (with_reducible refine StopK.mk ?_)); (with_reducible conv => whnf); (with_reducible conv => congr <;> reduce)))
  by_cases g : 200 < l.length
  · have g' : (200 < (l.length : Int)) = True := eq_true (by omega)
    repeat' (first
    | (first
    | ((with_reducible show IfK _ _ _ _); first | refine IfK.ff ?_ | refine IfK.tt ?_ | refine IfK.no (by first | rfl | assumption | exact nf (by assumption) | exact nt (by assumption) | ((try simp only [castN]); first | (simp [hlm, g']; done) | (simp [hlm, g']; omega))) ?_ | refine IfK.yes (by first | rfl | assumption | exact nf (by assumption) | exact nt (by assumption) | ((try simp only [castN]); first | (simp [hlm, g']; done) | (simp [hlm, g']; omega))) ?_)
    | ((with_reducible show NeedK _ _ _ _); refine NeedK.mk (by (try simp only [castN]); omega) ?_)
    | ((with_reducible show DrawK _ _ _ _); refine DrawK.mk (by kernel_rfl) (by kernel_rfl) (by kernel_rfl) ?_)) <;> ((with_reducible conv => whnf); (with_reducible conv => congr <;> reduce); repeat ((first | (with_reducible refine HaltK.mk ?_) | (with_reducible refine StopK.mk ?_)); (with_reducible conv => whnf); (with_reducible conv => congr <;> reduce)))
    | ((with_reducible show (_ ∧ _) ∧ _ ∧ _); refine ⟨⟨rfl, rfl⟩, ?_, ?_⟩ <;> (with_reducible conv => whnf) <;> repeat' (first | (with_reducible exact trivial) | (with_reducible refine And.intro ?_ ?_ <;> with_reducible conv => whnf))))
  · have g' : (200 < (l.length : Int)) = False := eq_false (by omega)
    have hl : l.length ≤ 100000 := by omega
    obtain ⟨a, ha⟩ : ∃ a, checkM book0 0 l = a := ⟨_, rfl⟩
    by_cases ga : a = -1
    · subst ga
      repeat' (first
    | (first
    | ((with_reducible show IfK _ _ _ _); first | refine IfK.ff ?_ | refine IfK.tt ?_ | refine IfK.no (by first | rfl | assumption | exact nf (by assumption) | exact nt (by assumption) | ((try simp only [castN]); first | (simp [hlm, g']; done) | (simp [hlm, g']; omega))) ?_ | refine IfK.yes (by first | rfl | assumption | exact nf (by assumption) | exact nt (by assumption) | ((try simp only [castN]); first | (simp [hlm, g']; done) | (simp [hlm, g']; omega))) ?_)
    | ((with_reducible show NeedK _ _ _ _); refine NeedK.mk (by (try simp only [castN]); omega) ?_)
    | ((with_reducible show DrawK _ _ _ _); refine DrawK.mk (by kernel_rfl) (by kernel_rfl) (by kernel_rfl) ?_)
    | ((with_reducible show CallK _ _ 8 _ _ _ _); refine CallK.lit [] (f8_at hl hd ha) c8 ⟨rfl, trivial⟩ rfl rfl ?_)) <;> ((with_reducible conv => whnf); (with_reducible conv => congr <;> reduce); repeat ((first | (with_reducible refine HaltK.mk ?_) | (with_reducible refine StopK.mk ?_)); (with_reducible conv => whnf); (with_reducible conv => congr <;> reduce)))
    | ((with_reducible show (_ ∧ _) ∧ _ ∧ _); refine ⟨⟨rfl, rfl⟩, ?_, ?_⟩ <;> (with_reducible conv => whnf) <;> repeat' (first | (with_reducible exact trivial) | (with_reducible refine And.intro ?_ ?_ <;> with_reducible conv => whnf))))
      refine LoopK.use G G_good (fun (k : Nat) => [(0, eMks l), (3, eInt (bgN (l.take k))), (4, eInt (enN (l.take k))), (5, eInt k)]) (fun _ => []) (fun k => k ≤ l.length) (fun k => l.length - k) 0 (Nat.zero_le _)
        ⟨⟨rfl, rfl⟩, ⟨rfl, rfl, rfl, rfl, trivial⟩, trivial⟩ ?_
      intro k hk
      ((with_reducible conv => whnf); (with_reducible conv => congr <;> reduce); repeat ((first | (with_reducible refine HaltK.mk ?_) | (with_reducible refine StopK.mk ?_)); (with_reducible conv => whnf); (with_reducible conv => congr <;> reduce)))
      refine IfK.mk (fun h1 => ?_) (fun h1 => ?_) <;> (try simp only [castN] at h1) <;> ((with_reducible conv => whnf); (with_reducible conv => congr <;> reduce); repeat ((first | (with_reducible refine HaltK.mk ?_) | (with_reducible refine StopK.mk ?_)); (with_reducible conv => whnf); (with_reducible conv => congr <;> reduce)))
      · have hk' : k < l.length := by simp only [decide_eq_true_eq, hlm] at h1; omega
        obtain ⟨x, hx⟩ : ∃ x, l[k]? = some x := ⟨_, List.getElem?_eq_getElem hk'⟩
        have hnext : ((k + 1 : Nat) : Int) = (k : Int) + 1 := by omega
        have hkt : (l.take k).length ≤ 100000 := by rw [List.length_take]; omega
        have hcutm : (l.take k).map oMk = ((l.map oMk).drop 0).take k := by rw [List.drop_zero, List.map_take]
        have b1 := bg_snoc hx
        have b2 := en_snoc hx
        have b3 := bg_le l k
        have b4 := en_le l k
        have l5 := lives_became ha hx
        have l6 := lives_called ha hx
        have l4 : x.kind = 4 → enN (l.take k) + 1 ≤ bgN (l.take k) := lives_ended ha hx
        have l1 : x.kind = 1 ∨ x.kind = 8 → x.depth = 0 → bgN (l.take k) = enN (l.take k) := lives_balance ha hx
        obtain ⟨kd, dp, nd, wt, er, nm, a1, a2, ol, nw, fr, to, on⟩ := x
        simp only at b1 b2 l5 l6 l4 l1
        obtain ⟨bg, hbg⟩ : ∃ bg, bgN (l.take k) = bg := ⟨_, rfl⟩
        obtain ⟨en, hen⟩ : ∃ en, enN (l.take k) = en := ⟨_, rfl⟩
        obtain ⟨p, hp⟩ : ∃ p, becameM (l.take k) nd = p := ⟨_, rfl⟩
        obtain ⟨q, hq⟩ : ∃ q, becameM l nd = q := ⟨_, rfl⟩
        rw [hbg] at b1 b3 l4 l1 ⊢
        rw [hen] at b2 b4 l4 l1 ⊢
        rw [hp, hq] at l5 l6
        refine IdxK.mk k (eMk ⟨kd, dp, nd, wt, er, nm, a1, a2, ol, nw, fr, to, on⟩) rfl (mk_get hx) ?_; ((with_reducible conv => whnf); (with_reducible conv => congr <;> reduce); repeat ((first | (with_reducible refine HaltK.mk ?_) | (with_reducible refine StopK.mk ?_)); (with_reducible conv => whnf); (with_reducible conv => congr <;> reduce)))
        have keep1 : ¬ kd = 3 → ((bgN (l.take (k + 1)) : Nat) : Int) = (bg : Int) := fun h => by rw [b1, if_neg h]; rfl
        have keep2 : ¬ kd = 4 → ((enN (l.take (k + 1)) : Nat) : Int) = (en : Int) := fun h => by rw [b2, if_neg h]; rfl
        by_cases k5 : kd = 5
        · obtain ⟨e1, e2, e3⟩ := l5 k5
          subst e1; subst e2
          have hs1 := keep1 (by omega)
          have hs2 := keep2 (by omega)
          by_cases w3 : q = 3
          · repeat' (first
    | (first
    | ((with_reducible show IfK _ _ _ _); first | refine IfK.ff ?_ | refine IfK.tt ?_ | refine IfK.no (by first | rfl | assumption | exact nf (by assumption) | exact nt (by assumption) | ((try simp only [castN]); first | (simp [k5, w3]; done) | (simp [k5, w3]; omega))) ?_ | refine IfK.yes (by first | rfl | assumption | exact nf (by assumption) | exact nt (by assumption) | ((try simp only [castN]); first | (simp [k5, w3]; done) | (simp [k5, w3]; omega))) ?_)
    | ((with_reducible show NeedK _ _ _ _); refine NeedK.mk (by (try simp only [castN]); omega) ?_)
    | ((with_reducible show DrawK _ _ _ _); refine DrawK.mk (by kernel_rfl) (by kernel_rfl) (by kernel_rfl) ?_)
    | ((with_reducible show CallK _ _ 15 _ _ _ _); first | refine CallK.lit [] (f15_at hkt hp) c15 ⟨rfl, rfl, trivial⟩ rfl rfl ?_ | refine CallK.lit [] (f15_at hl hq) c15 ⟨rfl, rfl, trivial⟩ rfl rfl ?_)
    | ((with_reducible show CutFK _ _ _ _ _ _); refine CutFK.mk 0 k ((l.take k).map oMk) rfl (by (try simp only [castN]); omega) (by omega) hcutm ?_)
    | ((with_reducible show NextK _ _); refine NextK.mk (k + 1) (by omega) (by omega) ⟨⟨rfl, rfl⟩, ⟨rfl, hs1, hs2, hnext, trivial⟩, trivial⟩)) <;> ((with_reducible conv => whnf); (with_reducible conv => congr <;> reduce); repeat ((first | (with_reducible refine HaltK.mk ?_) | (with_reducible refine StopK.mk ?_)); (with_reducible conv => whnf); (with_reducible conv => congr <;> reduce)))
    | ((with_reducible show (_ ∧ _) ∧ _ ∧ _); refine ⟨⟨rfl, rfl⟩, ?_, ?_⟩ <;> (with_reducible conv => whnf) <;> repeat' (first | (with_reducible exact trivial) | (with_reducible refine And.intro ?_ ?_ <;> with_reducible conv => whnf))))
          · have w4 : q = 4 := e3.resolve_left w3
            repeat' (first
    | (first
    | ((with_reducible show IfK _ _ _ _); first | refine IfK.ff ?_ | refine IfK.tt ?_ | refine IfK.no (by first | rfl | assumption | exact nf (by assumption) | exact nt (by assumption) | ((try simp only [castN]); first | (simp [k5, w4]; done) | (simp [k5, w4]; omega))) ?_ | refine IfK.yes (by first | rfl | assumption | exact nf (by assumption) | exact nt (by assumption) | ((try simp only [castN]); first | (simp [k5, w4]; done) | (simp [k5, w4]; omega))) ?_)
    | ((with_reducible show NeedK _ _ _ _); refine NeedK.mk (by (try simp only [castN]); omega) ?_)
    | ((with_reducible show DrawK _ _ _ _); refine DrawK.mk (by kernel_rfl) (by kernel_rfl) (by kernel_rfl) ?_)
    | ((with_reducible show CallK _ _ 15 _ _ _ _); first | refine CallK.lit [] (f15_at hkt hp) c15 ⟨rfl, rfl, trivial⟩ rfl rfl ?_ | refine CallK.lit [] (f15_at hl hq) c15 ⟨rfl, rfl, trivial⟩ rfl rfl ?_)
    | ((with_reducible show CutFK _ _ _ _ _ _); refine CutFK.mk 0 k ((l.take k).map oMk) rfl (by (try simp only [castN]); omega) (by omega) hcutm ?_)
    | ((with_reducible show NextK _ _); refine NextK.mk (k + 1) (by omega) (by omega) ⟨⟨rfl, rfl⟩, ⟨rfl, hs1, hs2, hnext, trivial⟩, trivial⟩)) <;> ((with_reducible conv => whnf); (with_reducible conv => congr <;> reduce); repeat ((first | (with_reducible refine HaltK.mk ?_) | (with_reducible refine StopK.mk ?_)); (with_reducible conv => whnf); (with_reducible conv => congr <;> reduce)))
    | ((with_reducible show (_ ∧ _) ∧ _ ∧ _); refine ⟨⟨rfl, rfl⟩, ?_, ?_⟩ <;> (with_reducible conv => whnf) <;> repeat' (first | (with_reducible exact trivial) | (with_reducible refine And.intro ?_ ?_ <;> with_reducible conv => whnf))))
        · by_cases k6 : kd = 6
          · obtain ⟨e1, e2⟩ := l6 k6
            subst e1; subst e2
            have hs1 := keep1 (by omega)
            have hs2 := keep2 (by omega)
            repeat' (first
    | (first
    | ((with_reducible show IfK _ _ _ _); first | refine IfK.ff ?_ | refine IfK.tt ?_ | refine IfK.no (by first | rfl | assumption | exact nf (by assumption) | exact nt (by assumption) | ((try simp only [castN]); first | (simp [k6]; done) | (simp [k6]; omega))) ?_ | refine IfK.yes (by first | rfl | assumption | exact nf (by assumption) | exact nt (by assumption) | ((try simp only [castN]); first | (simp [k6]; done) | (simp [k6]; omega))) ?_)
    | ((with_reducible show NeedK _ _ _ _); refine NeedK.mk (by (try simp only [castN]); omega) ?_)
    | ((with_reducible show DrawK _ _ _ _); refine DrawK.mk (by kernel_rfl) (by kernel_rfl) (by kernel_rfl) ?_)
    | ((with_reducible show CallK _ _ 15 _ _ _ _); first | refine CallK.lit [] (f15_at hkt hp) c15 ⟨rfl, rfl, trivial⟩ rfl rfl ?_ | refine CallK.lit [] (f15_at hl hq) c15 ⟨rfl, rfl, trivial⟩ rfl rfl ?_)
    | ((with_reducible show CutFK _ _ _ _ _ _); refine CutFK.mk 0 k ((l.take k).map oMk) rfl (by (try simp only [castN]); omega) (by omega) hcutm ?_)
    | ((with_reducible show NextK _ _); refine NextK.mk (k + 1) (by omega) (by omega) ⟨⟨rfl, rfl⟩, ⟨rfl, hs1, hs2, hnext, trivial⟩, trivial⟩)) <;> ((with_reducible conv => whnf); (with_reducible conv => congr <;> reduce); repeat ((first | (with_reducible refine HaltK.mk ?_) | (with_reducible refine StopK.mk ?_)); (with_reducible conv => whnf); (with_reducible conv => congr <;> reduce)))
    | ((with_reducible show (_ ∧ _) ∧ _ ∧ _); refine ⟨⟨rfl, rfl⟩, ?_, ?_⟩ <;> (with_reducible conv => whnf) <;> repeat' (first | (with_reducible exact trivial) | (with_reducible refine And.intro ?_ ?_ <;> with_reducible conv => whnf))))
          · by_cases k3 : kd = 3
            · have hs1 : ((bgN (l.take (k + 1)) : Nat) : Int) = (bg : Int) + 1 := by rw [b1, if_pos k3]; rfl
              have hs2 := keep2 (by omega)
              repeat' (first
    | (first
    | ((with_reducible show IfK _ _ _ _); first | refine IfK.ff ?_ | refine IfK.tt ?_ | refine IfK.no (by first | rfl | assumption | exact nf (by assumption) | exact nt (by assumption) | ((try simp only [castN]); first | (simp [k3]; done) | (simp [k3]; omega))) ?_ | refine IfK.yes (by first | rfl | assumption | exact nf (by assumption) | exact nt (by assumption) | ((try simp only [castN]); first | (simp [k3]; done) | (simp [k3]; omega))) ?_)
    | ((with_reducible show NeedK _ _ _ _); refine NeedK.mk (by (try simp only [castN]); omega) ?_)
    | ((with_reducible show DrawK _ _ _ _); refine DrawK.mk (by kernel_rfl) (by kernel_rfl) (by kernel_rfl) ?_)
    | ((with_reducible show CallK _ _ 15 _ _ _ _); first | refine CallK.lit [] (f15_at hkt hp) c15 ⟨rfl, rfl, trivial⟩ rfl rfl ?_ | refine CallK.lit [] (f15_at hl hq) c15 ⟨rfl, rfl, trivial⟩ rfl rfl ?_)
    | ((with_reducible show CutFK _ _ _ _ _ _); refine CutFK.mk 0 k ((l.take k).map oMk) rfl (by (try simp only [castN]); omega) (by omega) hcutm ?_)
    | ((with_reducible show NextK _ _); refine NextK.mk (k + 1) (by omega) (by omega) ⟨⟨rfl, rfl⟩, ⟨rfl, hs1, hs2, hnext, trivial⟩, trivial⟩)) <;> ((with_reducible conv => whnf); (with_reducible conv => congr <;> reduce); repeat ((first | (with_reducible refine HaltK.mk ?_) | (with_reducible refine StopK.mk ?_)); (with_reducible conv => whnf); (with_reducible conv => congr <;> reduce)))
    | ((with_reducible show (_ ∧ _) ∧ _ ∧ _); refine ⟨⟨rfl, rfl⟩, ?_, ?_⟩ <;> (with_reducible conv => whnf) <;> repeat' (first | (with_reducible exact trivial) | (with_reducible refine And.intro ?_ ?_ <;> with_reducible conv => whnf))))
            · by_cases k4 : kd = 4
              · have hs1 := keep1 k3
                have hs2 : ((enN (l.take (k + 1)) : Nat) : Int) = (en : Int) + 1 := by rw [b2, if_pos k4]; rfl
                have hle := l4 k4
                have hlt : ((bg : Int) < (en : Int) + 1) = False := eq_false (by omega)
                repeat' (first
    | (first
    | ((with_reducible show IfK _ _ _ _); first | refine IfK.ff ?_ | refine IfK.tt ?_ | refine IfK.no (by first | rfl | assumption | exact nf (by assumption) | exact nt (by assumption) | ((try simp only [castN]); first | (simp [k4, hlt]; done) | (simp [k4, hlt]; omega))) ?_ | refine IfK.yes (by first | rfl | assumption | exact nf (by assumption) | exact nt (by assumption) | ((try simp only [castN]); first | (simp [k4, hlt]; done) | (simp [k4, hlt]; omega))) ?_)
    | ((with_reducible show NeedK _ _ _ _); refine NeedK.mk (by (try simp only [castN]); omega) ?_)
    | ((with_reducible show DrawK _ _ _ _); refine DrawK.mk (by kernel_rfl) (by kernel_rfl) (by kernel_rfl) ?_)
    | ((with_reducible show CallK _ _ 15 _ _ _ _); first | refine CallK.lit [] (f15_at hkt hp) c15 ⟨rfl, rfl, trivial⟩ rfl rfl ?_ | refine CallK.lit [] (f15_at hl hq) c15 ⟨rfl, rfl, trivial⟩ rfl rfl ?_)
    | ((with_reducible show CutFK _ _ _ _ _ _); refine CutFK.mk 0 k ((l.take k).map oMk) rfl (by (try simp only [castN]); omega) (by omega) hcutm ?_)
    | ((with_reducible show NextK _ _); refine NextK.mk (k + 1) (by omega) (by omega) ⟨⟨rfl, rfl⟩, ⟨rfl, hs1, hs2, hnext, trivial⟩, trivial⟩)) <;> ((with_reducible conv => whnf); (with_reducible conv => congr <;> reduce); repeat ((first | (with_reducible refine HaltK.mk ?_) | (with_reducible refine StopK.mk ?_)); (with_reducible conv => whnf); (with_reducible conv => congr <;> reduce)))
    | ((with_reducible show (_ ∧ _) ∧ _ ∧ _); refine ⟨⟨rfl, rfl⟩, ?_, ?_⟩ <;> (with_reducible conv => whnf) <;> repeat' (first | (with_reducible exact trivial) | (with_reducible refine And.intro ?_ ?_ <;> with_reducible conv => whnf))))
              · have hs1 := keep1 k3
                have hs2 := keep2 k4
                have k5' := eq_false k5
                have k6' := eq_false k6
                have k3' := eq_false k3
                have k4' := eq_false k4
                by_cases d0 : dp = 0
                · by_cases k1 : kd = 1
                  · have e := l1 (.inl k1) d0
                    subst e
                    repeat' (first
    | (first
    | ((with_reducible show IfK _ _ _ _); first | refine IfK.ff ?_ | refine IfK.tt ?_ | refine IfK.no (by first | rfl | assumption | exact nf (by assumption) | exact nt (by assumption) | ((try simp only [castN]); first | (simp [k1, d0]; done) | (simp [k1, d0]; omega))) ?_ | refine IfK.yes (by first | rfl | assumption | exact nf (by assumption) | exact nt (by assumption) | ((try simp only [castN]); first | (simp [k1, d0]; done) | (simp [k1, d0]; omega))) ?_)
    | ((with_reducible show NeedK _ _ _ _); refine NeedK.mk (by (try simp only [castN]); omega) ?_)
    | ((with_reducible show DrawK _ _ _ _); refine DrawK.mk (by kernel_rfl) (by kernel_rfl) (by kernel_rfl) ?_)
    | ((with_reducible show CallK _ _ 15 _ _ _ _); first | refine CallK.lit [] (f15_at hkt hp) c15 ⟨rfl, rfl, trivial⟩ rfl rfl ?_ | refine CallK.lit [] (f15_at hl hq) c15 ⟨rfl, rfl, trivial⟩ rfl rfl ?_)
    | ((with_reducible show CutFK _ _ _ _ _ _); refine CutFK.mk 0 k ((l.take k).map oMk) rfl (by (try simp only [castN]); omega) (by omega) hcutm ?_)
    | ((with_reducible show NextK _ _); refine NextK.mk (k + 1) (by omega) (by omega) ⟨⟨rfl, rfl⟩, ⟨rfl, hs1, hs2, hnext, trivial⟩, trivial⟩)) <;> ((with_reducible conv => whnf); (with_reducible conv => congr <;> reduce); repeat ((first | (with_reducible refine HaltK.mk ?_) | (with_reducible refine StopK.mk ?_)); (with_reducible conv => whnf); (with_reducible conv => congr <;> reduce)))
    | ((with_reducible show (_ ∧ _) ∧ _ ∧ _); refine ⟨⟨rfl, rfl⟩, ?_, ?_⟩ <;> (with_reducible conv => whnf) <;> repeat' (first | (with_reducible exact trivial) | (with_reducible refine And.intro ?_ ?_ <;> with_reducible conv => whnf))))
                  · by_cases k8 : kd = 8
                    · have e := l1 (.inr k8) d0
                      subst e
                      repeat' (first
    | (first
    | ((with_reducible show IfK _ _ _ _); first | refine IfK.ff ?_ | refine IfK.tt ?_ | refine IfK.no (by first | rfl | assumption | exact nf (by assumption) | exact nt (by assumption) | ((try simp only [castN]); first | (simp [k8, d0]; done) | (simp [k8, d0]; omega))) ?_ | refine IfK.yes (by first | rfl | assumption | exact nf (by assumption) | exact nt (by assumption) | ((try simp only [castN]); first | (simp [k8, d0]; done) | (simp [k8, d0]; omega))) ?_)
    | ((with_reducible show NeedK _ _ _ _); refine NeedK.mk (by (try simp only [castN]); omega) ?_)
    | ((with_reducible show DrawK _ _ _ _); refine DrawK.mk (by kernel_rfl) (by kernel_rfl) (by kernel_rfl) ?_)
    | ((with_reducible show CallK _ _ 15 _ _ _ _); first | refine CallK.lit [] (f15_at hkt hp) c15 ⟨rfl, rfl, trivial⟩ rfl rfl ?_ | refine CallK.lit [] (f15_at hl hq) c15 ⟨rfl, rfl, trivial⟩ rfl rfl ?_)
    | ((with_reducible show CutFK _ _ _ _ _ _); refine CutFK.mk 0 k ((l.take k).map oMk) rfl (by (try simp only [castN]); omega) (by omega) hcutm ?_)
    | ((with_reducible show NextK _ _); refine NextK.mk (k + 1) (by omega) (by omega) ⟨⟨rfl, rfl⟩, ⟨rfl, hs1, hs2, hnext, trivial⟩, trivial⟩)) <;> ((with_reducible conv => whnf); (with_reducible conv => congr <;> reduce); repeat ((first | (with_reducible refine HaltK.mk ?_) | (with_reducible refine StopK.mk ?_)); (with_reducible conv => whnf); (with_reducible conv => congr <;> reduce)))
    | ((with_reducible show (_ ∧ _) ∧ _ ∧ _); refine ⟨⟨rfl, rfl⟩, ?_, ?_⟩ <;> (with_reducible conv => whnf) <;> repeat' (first | (with_reducible exact trivial) | (with_reducible refine And.intro ?_ ?_ <;> with_reducible conv => whnf))))
                    · have k1' := eq_false k1
                      have k8' := eq_false k8
                      repeat' (first
    | (first
    | ((with_reducible show IfK _ _ _ _); first | refine IfK.ff ?_ | refine IfK.tt ?_ | refine IfK.no (by first | rfl | assumption | exact nf (by assumption) | exact nt (by assumption) | ((try simp only [castN]); first | (simp [k5', k6', k3', k4', k1', k8']; done) | (simp [k5', k6', k3', k4', k1', k8']; omega))) ?_ | refine IfK.yes (by first | rfl | assumption | exact nf (by assumption) | exact nt (by assumption) | ((try simp only [castN]); first | (simp [k5', k6', k3', k4', k1', k8']; done) | (simp [k5', k6', k3', k4', k1', k8']; omega))) ?_)
    | ((with_reducible show NeedK _ _ _ _); refine NeedK.mk (by (try simp only [castN]); omega) ?_)
    | ((with_reducible show DrawK _ _ _ _); refine DrawK.mk (by kernel_rfl) (by kernel_rfl) (by kernel_rfl) ?_)
    | ((with_reducible show CallK _ _ 15 _ _ _ _); first | refine CallK.lit [] (f15_at hkt hp) c15 ⟨rfl, rfl, trivial⟩ rfl rfl ?_ | refine CallK.lit [] (f15_at hl hq) c15 ⟨rfl, rfl, trivial⟩ rfl rfl ?_)
    | ((with_reducible show CutFK _ _ _ _ _ _); refine CutFK.mk 0 k ((l.take k).map oMk) rfl (by (try simp only [castN]); omega) (by omega) hcutm ?_)
    | ((with_reducible show NextK _ _); refine NextK.mk (k + 1) (by omega) (by omega) ⟨⟨rfl, rfl⟩, ⟨rfl, hs1, hs2, hnext, trivial⟩, trivial⟩)) <;> ((with_reducible conv => whnf); (with_reducible conv => congr <;> reduce); repeat ((first | (with_reducible refine HaltK.mk ?_) | (with_reducible refine StopK.mk ?_)); (with_reducible conv => whnf); (with_reducible conv => congr <;> reduce)))
    | ((with_reducible show (_ ∧ _) ∧ _ ∧ _); refine ⟨⟨rfl, rfl⟩, ?_, ?_⟩ <;> (with_reducible conv => whnf) <;> repeat' (first | (with_reducible exact trivial) | (with_reducible refine And.intro ?_ ?_ <;> with_reducible conv => whnf))))
                · have d0' := eq_false d0
                  by_cases k1 : kd = 1
                  · repeat' (first
    | (first
    | ((with_reducible show IfK _ _ _ _); first | refine IfK.ff ?_ | refine IfK.tt ?_ | refine IfK.no (by first | rfl | assumption | exact nf (by assumption) | exact nt (by assumption) | ((try simp only [castN]); first | (simp [k1, d0']; done) | (simp [k1, d0']; omega))) ?_ | refine IfK.yes (by first | rfl | assumption | exact nf (by assumption) | exact nt (by assumption) | ((try simp only [castN]); first | (simp [k1, d0']; done) | (simp [k1, d0']; omega))) ?_)
    | ((with_reducible show NeedK _ _ _ _); refine NeedK.mk (by (try simp only [castN]); omega) ?_)
    | ((with_reducible show DrawK _ _ _ _); refine DrawK.mk (by kernel_rfl) (by kernel_rfl) (by kernel_rfl) ?_)
    | ((with_reducible show CallK _ _ 15 _ _ _ _); first | refine CallK.lit [] (f15_at hkt hp) c15 ⟨rfl, rfl, trivial⟩ rfl rfl ?_ | refine CallK.lit [] (f15_at hl hq) c15 ⟨rfl, rfl, trivial⟩ rfl rfl ?_)
    | ((with_reducible show CutFK _ _ _ _ _ _); refine CutFK.mk 0 k ((l.take k).map oMk) rfl (by (try simp only [castN]); omega) (by omega) hcutm ?_)
    | ((with_reducible show NextK _ _); refine NextK.mk (k + 1) (by omega) (by omega) ⟨⟨rfl, rfl⟩, ⟨rfl, hs1, hs2, hnext, trivial⟩, trivial⟩)) <;> ((with_reducible conv => whnf); (with_reducible conv => congr <;> reduce); repeat ((first | (with_reducible refine HaltK.mk ?_) | (with_reducible refine StopK.mk ?_)); (with_reducible conv => whnf); (with_reducible conv => congr <;> reduce)))
    | ((with_reducible show (_ ∧ _) ∧ _ ∧ _); refine ⟨⟨rfl, rfl⟩, ?_, ?_⟩ <;> (with_reducible conv => whnf) <;> repeat' (first | (with_reducible exact trivial) | (with_reducible refine And.intro ?_ ?_ <;> with_reducible conv => whnf))))
                  · by_cases k8 : kd = 8
                    · repeat' (first
    | (first
    | ((with_reducible show IfK _ _ _ _); first | refine IfK.ff ?_ | refine IfK.tt ?_ | refine IfK.no (by first | rfl | assumption | exact nf (by assumption) | exact nt (by assumption) | ((try simp only [castN]); first | (simp [k8, d0']; done) | (simp [k8, d0']; omega))) ?_ | refine IfK.yes (by first | rfl | assumption | exact nf (by assumption) | exact nt (by assumption) | ((try simp only [castN]); first | (simp [k8, d0']; done) | (simp [k8, d0']; omega))) ?_)
    | ((with_reducible show NeedK _ _ _ _); refine NeedK.mk (by (try simp only [castN]); omega) ?_)
    | ((with_reducible show DrawK _ _ _ _); refine DrawK.mk (by kernel_rfl) (by kernel_rfl) (by kernel_rfl) ?_)
    | ((with_reducible show CallK _ _ 15 _ _ _ _); first | refine CallK.lit [] (f15_at hkt hp) c15 ⟨rfl, rfl, trivial⟩ rfl rfl ?_ | refine CallK.lit [] (f15_at hl hq) c15 ⟨rfl, rfl, trivial⟩ rfl rfl ?_)
    | ((with_reducible show CutFK _ _ _ _ _ _); refine CutFK.mk 0 k ((l.take k).map oMk) rfl (by (try simp only [castN]); omega) (by omega) hcutm ?_)
    | ((with_reducible show NextK _ _); refine NextK.mk (k + 1) (by omega) (by omega) ⟨⟨rfl, rfl⟩, ⟨rfl, hs1, hs2, hnext, trivial⟩, trivial⟩)) <;> ((with_reducible conv => whnf); (with_reducible conv => congr <;> reduce); repeat ((first | (with_reducible refine HaltK.mk ?_) | (with_reducible refine StopK.mk ?_)); (with_reducible conv => whnf); (with_reducible conv => congr <;> reduce)))
    | ((with_reducible show (_ ∧ _) ∧ _ ∧ _); refine ⟨⟨rfl, rfl⟩, ?_, ?_⟩ <;> (with_reducible conv => whnf) <;> repeat' (first | (with_reducible exact trivial) | (with_reducible refine And.intro ?_ ?_ <;> with_reducible conv => whnf))))
                    · have k1' := eq_false k1
                      have k8' := eq_false k8
                      repeat' (first
    | (first
    | ((with_reducible show IfK _ _ _ _); first | refine IfK.ff ?_ | refine IfK.tt ?_ | refine IfK.no (by first | rfl | assumption | exact nf (by assumption) | exact nt (by assumption) | ((try simp only [castN]); first | (simp [k5', k6', k3', k4', k1', k8']; done) | (simp [k5', k6', k3', k4', k1', k8']; omega))) ?_ | refine IfK.yes (by first | rfl | assumption | exact nf (by assumption) | exact nt (by assumption) | ((try simp only [castN]); first | (simp [k5', k6', k3', k4', k1', k8']; done) | (simp [k5', k6', k3', k4', k1', k8']; omega))) ?_)
    | ((with_reducible show NeedK _ _ _ _); refine NeedK.mk (by (try simp only [castN]); omega) ?_)
    | ((with_reducible show DrawK _ _ _ _); refine DrawK.mk (by kernel_rfl) (by kernel_rfl) (by kernel_rfl) ?_)
    | ((with_reducible show CallK _ _ 15 _ _ _ _); first | refine CallK.lit [] (f15_at hkt hp) c15 ⟨rfl, rfl, trivial⟩ rfl rfl ?_ | refine CallK.lit [] (f15_at hl hq) c15 ⟨rfl, rfl, trivial⟩ rfl rfl ?_)
    | ((with_reducible show CutFK _ _ _ _ _ _); refine CutFK.mk 0 k ((l.take k).map oMk) rfl (by (try simp only [castN]); omega) (by omega) hcutm ?_)
    | ((with_reducible show NextK _ _); refine NextK.mk (k + 1) (by omega) (by omega) ⟨⟨rfl, rfl⟩, ⟨rfl, hs1, hs2, hnext, trivial⟩, trivial⟩)) <;> ((with_reducible conv => whnf); (with_reducible conv => congr <;> reduce); repeat ((first | (with_reducible refine HaltK.mk ?_) | (with_reducible refine StopK.mk ?_)); (with_reducible conv => whnf); (with_reducible conv => congr <;> reduce)))
    | ((with_reducible show (_ ∧ _) ∧ _ ∧ _); refine ⟨⟨rfl, rfl⟩, ?_, ?_⟩ <;> (with_reducible conv => whnf) <;> repeat' (first | (with_reducible exact trivial) | (with_reducible refine And.intro ?_ ?_ <;> with_reducible conv => whnf))))
      · refine ⟨⟨rfl, rfl⟩, ?_, ?_⟩ <;> (with_reducible conv => whnf) <;> repeat' (first | (with_reducible exact trivial) | (with_reducible refine And.intro ?_ ?_ <;> with_reducible conv => whnf))
        all_goals rfl
    · have ga' := eq_false ga
      repeat' (first
    | (first
    | ((with_reducible show IfK _ _ _ _); first | refine IfK.ff ?_ | refine IfK.tt ?_ | refine IfK.no (by first | rfl | assumption | exact nf (by assumption) | exact nt (by assumption) | ((try simp only [castN]); first | (simp [hlm, g', ga']; done) | (simp [hlm, g', ga']; omega))) ?_ | refine IfK.yes (by first | rfl | assumption | exact nf (by assumption) | exact nt (by assumption) | ((try simp only [castN]); first | (simp [hlm, g', ga']; done) | (simp [hlm, g', ga']; omega))) ?_)
    | ((with_reducible show NeedK _ _ _ _); refine NeedK.mk (by (try simp only [castN]); omega) ?_)
    | ((with_reducible show DrawK _ _ _ _); refine DrawK.mk (by kernel_rfl) (by kernel_rfl) (by kernel_rfl) ?_)
    | ((with_reducible show CallK _ _ 8 _ _ _ _); refine CallK.lit [] (f8_at hl hd ha) c8 ⟨rfl, trivial⟩ rfl rfl ?_)) <;> ((with_reducible conv => whnf); (with_reducible conv => congr <;> reduce); repeat ((first | (with_reducible refine HaltK.mk ?_) | (with_reducible refine StopK.mk ?_)); (with_reducible conv => whnf); (with_reducible conv => congr <;> reduce)))
    | ((with_reducible show (_ ∧ _) ∧ _ ∧ _); refine ⟨⟨rfl, rfl⟩, ?_, ?_⟩ <;> (with_reducible conv => whnf) <;> repeat' (first | (with_reducible exact trivial) | (with_reducible refine And.intro ?_ ?_ <;> with_reducible conv => whnf))))
      all_goals first | rfl | trace_state
end Go.Proofs.Audit
end
