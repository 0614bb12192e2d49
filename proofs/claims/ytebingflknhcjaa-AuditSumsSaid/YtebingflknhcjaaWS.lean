/- The walk of the law AuditSums. By an AI agent. -/
import Derived.Test.YtebingflknhcjaaWP
section
set_option linter.unusedSimpArgs false
set_option linter.unusedVariables false
namespace Go.Proofs.Audit
open Go Go.Am Go.RowKit Go.Lib
set_option maxRecDepth 100000
theorem drop_ok {l : List MkM} (hd : ∀ x ∈ l, okD x) (k : Nat) : ∀ x ∈ l.drop k, okD x := fun x hx => hd x (List.mem_of_mem_drop hx)
theorem split_calls (l : List MkM) (k : Nat) (n w : Int) : callsM l n w = callsM (l.take k) n w + callsM (l.drop k) n w := by rw [← calls_app, List.take_append_drop]
theorem split_begun (l : List MkM) (k : Nat) : begunM l = begunM (l.take k) ++ begunM (l.drop k) := by rw [← begun_app, List.take_append_drop]
theorem split_became (l : List MkM) (k : Nat) (n : Int) (h : becameM (l.take k) n ≠ 0) : becameM l n = becameM (l.take k) n := by
  have := became_app (l.take k) (l.drop k) n h
  rwa [List.take_append_drop] at this
theorem begunM_le (l : List MkM) : (begunM l).length ≤ l.length := by
  have := begun_le l l.length
  rwa [List.take_length] at this
theorem callsM_le (l : List MkM) (n w : Int) : callsM l n w ≤ l.length := by
  have := calls_le l n w l.length
  rwa [List.take_length] at this
set_option maxHeartbeats 32000000 in
/-- AuditSums -/
theorem f6_ok (l : List MkM) (c : Int) (hc : 0 ≤ c ∧ c < 256) (n w : Int) (s : ByteArray) : FnOK Try.prog 6 [] [eMks l, .lit (.int .u8 c), eInt n, eInt w, eStr s] [] (eBool true) := by
  have hlm : (l.map oMk).length = l.length := List.length_map ..
  refine FnOK.startC (rvs := [.tmp 10]) G G_good Try.func6 rfl Try.ntmps6 rfl rfl ?_; delta List.toArray; ((with_reducible conv => whnf); (with_reducible conv => congr <;> reduce); repeat ((first | (with_reducible refine HaltK.mk ?_) | (with_reducible refine StopK.mk ?_)); (with_reducible conv => whnf); (with_reducible conv => congr <;> reduce)))
  refine CallK.lit [] f7_ok c7 trivial rfl rfl ?_; ((with_reducible conv => whnf); (with_reducible conv => congr <;> reduce); repeat ((first | (with_reducible refine HaltK.mk ?_) | (with_reducible refine StopK.mk ?_)); (with_reducible conv => whnf); (with_reducible conv => congr <;> reduce)))
  by_cases g : 200 < l.length
  · have g' : (200 < (l.length : Int)) = True := eq_true (by omega)
    repeat' (first
    | (first
    | ((with_reducible show IfK _ _ _ _); first | refine IfK.ff ?_ | refine IfK.tt ?_ | refine IfK.no (by first | rfl | assumption | exact nf (by assumption) | exact nt (by assumption) | ((try simp only [castN]); first | (simp [hlm, g']; done) | (simp [hlm, g']; omega))) ?_ | refine IfK.yes (by first | rfl | assumption | exact nf (by assumption) | exact nt (by assumption) | ((try simp only [castN]); first | (simp [hlm, g']; done) | (simp [hlm, g']; omega))) ?_)
    | ((with_reducible show NeedK _ _ _ _); refine NeedK.mk (by (try simp only [castN]); omega) ?_)
    | ((with_reducible show DrawK _ _ _ _); refine DrawK.mk (by kernel_rfl) (by kernel_rfl) (by kernel_rfl) ?_)) <;> ((with_reducible conv => whnf); (with_reducible conv => congr <;> reduce); repeat ((first | (with_reducible refine HaltK.mk ?_) | (with_reducible refine StopK.mk ?_)); (with_reducible conv => whnf); (with_reducible conv => congr <;> reduce)))
    | ((with_reducible show (_ ∧ _) ∧ _ ∧ _); refine ⟨⟨rfl, rfl⟩, ?_, ?_⟩ <;> (with_reducible conv => whnf) <;> repeat' (first | (with_reducible exact trivial) | (with_reducible refine And.intro ?_ ?_ <;> with_reducible conv => whnf))))
  · have g' : (200 < (l.length : Int)) = False := eq_false (by omega)
    have hl : l.length ≤ 100000 := by omega
    obtain ⟨k, hk, hkl⟩ := rem_nat c l.length
    have hkt : (l.take k).length ≤ 100000 := by rw [List.length_take]; omega
    have hkd : (l.drop k).length ≤ 100000 := by rw [List.length_drop]; omega
    have hcutm : (l.take k).map oMk = ((l.map oMk).drop 0).take k := by rw [List.drop_zero, List.map_take]
    have hcutd : (l.drop k).map oMk = ((l.map oMk).drop k).take (l.length - k) := by rw [← List.map_drop, List.take_of_length_le (by simp)]
    have s1 := split_calls l k n w
    have s2 := split_begun l k
    have s3 := split_became l k n
    have s4 := chain_take (n := n) (s := s) (l := l) (last := none) (i := 0) k
    have s5 := chain_drop (n := n) (s := s) (l := l) (last := none) (i := 0) k
    have s6 := chain_ge n s l none 0
    have b1 := callsM_le (l.take k) n w
    have b2 := callsM_le (l.drop k) n w
    have b3 := begunM_le (l.take k)
    have b4 := begunM_le (l.drop k)
    have b5 := begunM_le l
    obtain ⟨p0, hp0⟩ : ∃ p, callsM l n w = p := ⟨_, rfl⟩
    obtain ⟨p1, hp1⟩ : ∃ p, callsM (l.take k) n w = p := ⟨_, rfl⟩
    obtain ⟨p2, hp2⟩ : ∃ p, callsM (l.drop k) n w = p := ⟨_, rfl⟩
    obtain ⟨q0, hq0⟩ : ∃ p, begunM l = p := ⟨_, rfl⟩
    obtain ⟨q1, hq1⟩ : ∃ p, begunM (l.take k) = p := ⟨_, rfl⟩
    obtain ⟨q2, hq2⟩ : ∃ p, begunM (l.drop k) = p := ⟨_, rfl⟩
    obtain ⟨r0, hr0⟩ : ∃ p, becameM l n = p := ⟨_, rfl⟩
    obtain ⟨r1, hr1⟩ : ∃ p, becameM (l.take k) n = p := ⟨_, rfl⟩
    obtain ⟨h0, hh0⟩ : ∃ p, chainM n s none 0 l = p := ⟨_, rfl⟩
    obtain ⟨h1, hh1⟩ : ∃ p, chainM n s none 0 (l.take k) = p := ⟨_, rfl⟩
    obtain ⟨h2, hh2⟩ : ∃ p, chainM n s none 0 (l.drop k) = p := ⟨_, rfl⟩
    rw [hp0, hp1, hp2] at s1
    rw [hp1] at b1
    rw [hp2] at b2
    rw [hq0, hq1, hq2] at s2
    rw [hq1] at b3
    rw [hq2] at b4
    rw [hq0] at b5
    rw [hr0, hr1] at s3
    rw [hh0, hh1] at s4
    rw [hh0, hh2] at s5
    rw [hh0] at s6
    subst s1
    have hsum : ((p1 + p2 : Nat) : Int) = (p1 : Int) + (p2 : Int) := by omega
    have hq1l : (q1.map oInt).length = q1.length := List.length_map ..
    have hq2l : (q2.map oInt).length = q2.length := List.length_map ..
    have hk1 : (l.take k).length ≤ l.length := by rw [List.length_take]; omega
    have hk2 : (l.drop k).length ≤ l.length := by rw [List.length_drop]; omega
    have hqa : q1.map oInt ++ q2.map oInt = (q1 ++ q2).map oInt := by rw [List.map_append]
    by_cases e1 : h0 = -1
    · have e2 := s4 e1
      have e3 := s5 e1
      subst e1; subst e2; subst e3
      by_cases e4 : r1 = 0
      · subst e4
        repeat' (first
    | (first
    | ((with_reducible show IfK _ _ _ _); first | refine IfK.ff ?_ | refine IfK.tt ?_ | refine IfK.no (by first | rfl | assumption | exact nf (by assumption) | exact nt (by assumption) | ((try simp only [castN]); first | (simp [hlm, g', eq_true hsum]; done) | (simp [hlm, g', eq_true hsum]; omega))) ?_ | refine IfK.yes (by first | rfl | assumption | exact nf (by assumption) | exact nt (by assumption) | ((try simp only [castN]); first | (simp [hlm, g', eq_true hsum]; done) | (simp [hlm, g', eq_true hsum]; omega))) ?_)
    | ((with_reducible show NeedK _ _ _ _); refine NeedK.mk (by (try simp only [castN]); omega) ?_)
    | ((with_reducible show DrawK _ _ _ _); refine DrawK.mk (by kernel_rfl) (by kernel_rfl) (by kernel_rfl) ?_)
    | ((with_reducible show CallK _ _ 10 _ _ _ _); first | refine CallK.lit [] (f10_at hl (congrArg Nat.cast hp0)) c10 ⟨rfl, rfl, rfl, trivial⟩ rfl rfl ?_ | refine CallK.lit [] (f10_at hkt (congrArg Nat.cast hp1)) c10 ⟨rfl, rfl, rfl, trivial⟩ rfl rfl ?_ | refine CallK.lit [] (f10_at hkd (congrArg Nat.cast hp2)) c10 ⟨rfl, rfl, rfl, trivial⟩ rfl rfl ?_)
    | ((with_reducible show CallK _ _ 13 _ _ _ _); first | refine CallK.val [] (f13_at hl hq0) c13 ⟨rfl, trivial⟩ rfl rfl rfl ?_ | refine CallK.val [] (f13_at hkt hq1) c13 ⟨rfl, trivial⟩ rfl rfl rfl ?_ | refine CallK.val [] (f13_at hkd hq2) c13 ⟨rfl, trivial⟩ rfl rfl rfl ?_)
    | ((with_reducible show CallK _ _ 12 _ _ _ _); refine CallK.lit [561] (f12_at (a := q0) (b := q1 ++ q2) (r := true) (by omega) (decide_eq_true s2)) c12 ⟨rfl, frz_ints rfl rfl hqa (by simp), trivial⟩ rfl rfl ?_)
    | ((with_reducible show CallK _ _ 15 _ _ _ _); first | refine CallK.lit [] (f15_at hl hr0) c15 ⟨rfl, rfl, trivial⟩ rfl rfl ?_ | refine CallK.lit [] (f15_at hkt hr1) c15 ⟨rfl, rfl, trivial⟩ rfl rfl ?_)
    | ((with_reducible show CallK _ _ 17 _ _ _ _); first | refine CallK.lit [] (f17_at hl hh0) c17 ⟨rfl, rfl, rfl, trivial⟩ rfl rfl ?_ | refine CallK.lit [] (f17_at hkt hh1) c17 ⟨rfl, rfl, rfl, trivial⟩ rfl rfl ?_ | refine CallK.lit [] (f17_at hkd hh2) c17 ⟨rfl, rfl, rfl, trivial⟩ rfl rfl ?_)
    | ((with_reducible show ConvK _ _ _ _ _ _ _); refine ConvK.int (by kernel_rfl) (by kernel_rfl) (wrap_u8 hc) ?_)
    | ((with_reducible show HandK _ _ _ _ _); refine HandK.remAt hc.1 (by simp only [castN]; omega) (by simp only [castN, hlm]; exact hk) rfl rfl rfl rfl ?_)
    | ((with_reducible show CutFK _ _ _ _ _ _); first | refine CutFK.mk 0 k ((l.take k).map oMk) rfl (by (try simp only [castN]); omega) (by omega) hcutm ?_ | refine CutFK.mk k (l.length - k) ((l.drop k).map oMk) rfl (by (try simp only [castN]); omega) (by omega) hcutd ?_)
    | ((with_reducible show AppK _ _ _ _ _ _ _ _ _ _); first | refine AppK.mk [] (q1.map oInt) ⟨rfl, rfl, rfl⟩ ⟨rfl, rfl, rfl⟩ (oneL_ints q1) (by simp; omega) (by simp; omega) ?_ | refine AppK.mk (q1.map oInt) (q2.map oInt) ⟨rfl, rfl, rfl⟩ ⟨rfl, rfl, rfl⟩ (oneL_ints q2) (by simp; omega) (by simp; omega) ?_)) <;> ((with_reducible conv => whnf); (with_reducible conv => congr <;> reduce); repeat ((first | (with_reducible refine HaltK.mk ?_) | (with_reducible refine StopK.mk ?_)); (with_reducible conv => whnf); (with_reducible conv => congr <;> reduce)))
    | ((with_reducible show (_ ∧ _) ∧ _ ∧ _); refine ⟨⟨rfl, rfl⟩, ?_, ?_⟩ <;> (with_reducible conv => whnf) <;> repeat' (first | (with_reducible exact trivial) | (with_reducible refine And.intro ?_ ?_ <;> with_reducible conv => whnf))))
        all_goals first | rfl | (simp; done) | trace_state
      · have e5 := s3 e4
        subst e5
        have e4' := eq_false e4
        repeat' (first
    | (first
    | ((with_reducible show IfK _ _ _ _); first | refine IfK.ff ?_ | refine IfK.tt ?_ | refine IfK.no (by first | rfl | assumption | exact nf (by assumption) | exact nt (by assumption) | ((try simp only [castN]); first | (simp [hlm, g', eq_true hsum, e4']; done) | (simp [hlm, g', eq_true hsum, e4']; omega))) ?_ | refine IfK.yes (by first | rfl | assumption | exact nf (by assumption) | exact nt (by assumption) | ((try simp only [castN]); first | (simp [hlm, g', eq_true hsum, e4']; done) | (simp [hlm, g', eq_true hsum, e4']; omega))) ?_)
    | ((with_reducible show NeedK _ _ _ _); refine NeedK.mk (by (try simp only [castN]); omega) ?_)
    | ((with_reducible show DrawK _ _ _ _); refine DrawK.mk (by kernel_rfl) (by kernel_rfl) (by kernel_rfl) ?_)
    | ((with_reducible show CallK _ _ 10 _ _ _ _); first | refine CallK.lit [] (f10_at hl (congrArg Nat.cast hp0)) c10 ⟨rfl, rfl, rfl, trivial⟩ rfl rfl ?_ | refine CallK.lit [] (f10_at hkt (congrArg Nat.cast hp1)) c10 ⟨rfl, rfl, rfl, trivial⟩ rfl rfl ?_ | refine CallK.lit [] (f10_at hkd (congrArg Nat.cast hp2)) c10 ⟨rfl, rfl, rfl, trivial⟩ rfl rfl ?_)
    | ((with_reducible show CallK _ _ 13 _ _ _ _); first | refine CallK.val [] (f13_at hl hq0) c13 ⟨rfl, trivial⟩ rfl rfl rfl ?_ | refine CallK.val [] (f13_at hkt hq1) c13 ⟨rfl, trivial⟩ rfl rfl rfl ?_ | refine CallK.val [] (f13_at hkd hq2) c13 ⟨rfl, trivial⟩ rfl rfl rfl ?_)
    | ((with_reducible show CallK _ _ 12 _ _ _ _); refine CallK.lit [561] (f12_at (a := q0) (b := q1 ++ q2) (r := true) (by omega) (decide_eq_true s2)) c12 ⟨rfl, frz_ints rfl rfl hqa (by simp), trivial⟩ rfl rfl ?_)
    | ((with_reducible show CallK _ _ 15 _ _ _ _); first | refine CallK.lit [] (f15_at hl hr0) c15 ⟨rfl, rfl, trivial⟩ rfl rfl ?_ | refine CallK.lit [] (f15_at hkt hr1) c15 ⟨rfl, rfl, trivial⟩ rfl rfl ?_)
    | ((with_reducible show CallK _ _ 17 _ _ _ _); first | refine CallK.lit [] (f17_at hl hh0) c17 ⟨rfl, rfl, rfl, trivial⟩ rfl rfl ?_ | refine CallK.lit [] (f17_at hkt hh1) c17 ⟨rfl, rfl, rfl, trivial⟩ rfl rfl ?_ | refine CallK.lit [] (f17_at hkd hh2) c17 ⟨rfl, rfl, rfl, trivial⟩ rfl rfl ?_)
    | ((with_reducible show ConvK _ _ _ _ _ _ _); refine ConvK.int (by kernel_rfl) (by kernel_rfl) (wrap_u8 hc) ?_)
    | ((with_reducible show HandK _ _ _ _ _); refine HandK.remAt hc.1 (by simp only [castN]; omega) (by simp only [castN, hlm]; exact hk) rfl rfl rfl rfl ?_)
    | ((with_reducible show CutFK _ _ _ _ _ _); first | refine CutFK.mk 0 k ((l.take k).map oMk) rfl (by (try simp only [castN]); omega) (by omega) hcutm ?_ | refine CutFK.mk k (l.length - k) ((l.drop k).map oMk) rfl (by (try simp only [castN]); omega) (by omega) hcutd ?_)
    | ((with_reducible show AppK _ _ _ _ _ _ _ _ _ _); first | refine AppK.mk [] (q1.map oInt) ⟨rfl, rfl, rfl⟩ ⟨rfl, rfl, rfl⟩ (oneL_ints q1) (by simp; omega) (by simp; omega) ?_ | refine AppK.mk (q1.map oInt) (q2.map oInt) ⟨rfl, rfl, rfl⟩ ⟨rfl, rfl, rfl⟩ (oneL_ints q2) (by simp; omega) (by simp; omega) ?_)) <;> ((with_reducible conv => whnf); (with_reducible conv => congr <;> reduce); repeat ((first | (with_reducible refine HaltK.mk ?_) | (with_reducible refine StopK.mk ?_)); (with_reducible conv => whnf); (with_reducible conv => congr <;> reduce)))
    | ((with_reducible show (_ ∧ _) ∧ _ ∧ _); refine ⟨⟨rfl, rfl⟩, ?_, ?_⟩ <;> (with_reducible conv => whnf) <;> repeat' (first | (with_reducible exact trivial) | (with_reducible refine And.intro ?_ ?_ <;> with_reducible conv => whnf))))
        all_goals first | rfl | (simp; done) | trace_state
    · rcases s6 with s6 | ⟨j, x, s6, hx, hch⟩
      · exact absurd s6 e1
      · rw [Nat.zero_add] at s6
        subst s6
        have e1' := eq_false e1
        have hj := (List.getElem?_eq_some_iff.1 hx).1
        have hj0 : (0 ≤ (j : Int)) = True := eq_true (by omega)
        have hj1 : ((j : Int) < (l.length : Int)) = True := eq_true (by omega)
        obtain ⟨kd, dp, nd, wt, er, nm, a1, a2, ol, nw, fr, to, on⟩ := x
        unfold isChange at hch
        simp only [Bool.and_eq_true, decide_eq_true_eq] at hch
        obtain ⟨⟨⟨k6, kn⟩, k4⟩, ks⟩ := hch
        have kn' := eq_true kn
        have ks' := eq_true ks
        by_cases e4 : r1 = 0
        · subst e4
          repeat' (first
    | (first
    | ((with_reducible show IfK _ _ _ _); first | refine IfK.ff ?_ | refine IfK.tt ?_ | refine IfK.no (by first | rfl | assumption | exact nf (by assumption) | exact nt (by assumption) | ((try simp only [castN]); first | (simp [hlm, g', eq_true hsum, e1', hj0, hj1, k6, kn', ks']; done) | (simp [hlm, g', eq_true hsum, e1', hj0, hj1, k6, kn', ks']; omega))) ?_ | refine IfK.yes (by first | rfl | assumption | exact nf (by assumption) | exact nt (by assumption) | ((try simp only [castN]); first | (simp [hlm, g', eq_true hsum, e1', hj0, hj1, k6, kn', ks']; done) | (simp [hlm, g', eq_true hsum, e1', hj0, hj1, k6, kn', ks']; omega))) ?_)
    | ((with_reducible show NeedK _ _ _ _); refine NeedK.mk (by (try simp only [castN]); omega) ?_)
    | ((with_reducible show DrawK _ _ _ _); refine DrawK.mk (by kernel_rfl) (by kernel_rfl) (by kernel_rfl) ?_)
    | ((with_reducible show CallK _ _ 10 _ _ _ _); first | refine CallK.lit [] (f10_at hl (congrArg Nat.cast hp0)) c10 ⟨rfl, rfl, rfl, trivial⟩ rfl rfl ?_ | refine CallK.lit [] (f10_at hkt (congrArg Nat.cast hp1)) c10 ⟨rfl, rfl, rfl, trivial⟩ rfl rfl ?_ | refine CallK.lit [] (f10_at hkd (congrArg Nat.cast hp2)) c10 ⟨rfl, rfl, rfl, trivial⟩ rfl rfl ?_)
    | ((with_reducible show CallK _ _ 13 _ _ _ _); first | refine CallK.val [] (f13_at hl hq0) c13 ⟨rfl, trivial⟩ rfl rfl rfl ?_ | refine CallK.val [] (f13_at hkt hq1) c13 ⟨rfl, trivial⟩ rfl rfl rfl ?_ | refine CallK.val [] (f13_at hkd hq2) c13 ⟨rfl, trivial⟩ rfl rfl rfl ?_)
    | ((with_reducible show CallK _ _ 12 _ _ _ _); refine CallK.lit [561] (f12_at (a := q0) (b := q1 ++ q2) (r := true) (by omega) (decide_eq_true s2)) c12 ⟨rfl, frz_ints rfl rfl hqa (by simp), trivial⟩ rfl rfl ?_)
    | ((with_reducible show CallK _ _ 15 _ _ _ _); first | refine CallK.lit [] (f15_at hl hr0) c15 ⟨rfl, rfl, trivial⟩ rfl rfl ?_ | refine CallK.lit [] (f15_at hkt hr1) c15 ⟨rfl, rfl, trivial⟩ rfl rfl ?_)
    | ((with_reducible show CallK _ _ 17 _ _ _ _); first | refine CallK.lit [] (f17_at hl hh0) c17 ⟨rfl, rfl, rfl, trivial⟩ rfl rfl ?_ | refine CallK.lit [] (f17_at hkt hh1) c17 ⟨rfl, rfl, rfl, trivial⟩ rfl rfl ?_ | refine CallK.lit [] (f17_at hkd hh2) c17 ⟨rfl, rfl, rfl, trivial⟩ rfl rfl ?_)
    | ((with_reducible show ConvK _ _ _ _ _ _ _); refine ConvK.int (by kernel_rfl) (by kernel_rfl) (wrap_u8 hc) ?_)
    | ((with_reducible show HandK _ _ _ _ _); refine HandK.remAt hc.1 (by simp only [castN]; omega) (by simp only [castN, hlm]; exact hk) rfl rfl rfl rfl ?_)
    | ((with_reducible show CutFK _ _ _ _ _ _); first | refine CutFK.mk 0 k ((l.take k).map oMk) rfl (by (try simp only [castN]); omega) (by omega) hcutm ?_ | refine CutFK.mk k (l.length - k) ((l.drop k).map oMk) rfl (by (try simp only [castN]); omega) (by omega) hcutd ?_)
    | ((with_reducible show AppK _ _ _ _ _ _ _ _ _ _); first | refine AppK.mk [] (q1.map oInt) ⟨rfl, rfl, rfl⟩ ⟨rfl, rfl, rfl⟩ (oneL_ints q1) (by simp; omega) (by simp; omega) ?_ | refine AppK.mk (q1.map oInt) (q2.map oInt) ⟨rfl, rfl, rfl⟩ ⟨rfl, rfl, rfl⟩ (oneL_ints q2) (by simp; omega) (by simp; omega) ?_)
    | ((with_reducible show IdxK _ _ _ _ _); refine IdxK.mk j (eMk ⟨kd, dp, nd, wt, er, nm, a1, a2, ol, nw, fr, to, on⟩) rfl (mk_get hx) ?_)) <;> ((with_reducible conv => whnf); (with_reducible conv => congr <;> reduce); repeat ((first | (with_reducible refine HaltK.mk ?_) | (with_reducible refine StopK.mk ?_)); (with_reducible conv => whnf); (with_reducible conv => congr <;> reduce)))
    | ((with_reducible show (_ ∧ _) ∧ _ ∧ _); refine ⟨⟨rfl, rfl⟩, ?_, ?_⟩ <;> (with_reducible conv => whnf) <;> repeat' (first | (with_reducible exact trivial) | (with_reducible refine And.intro ?_ ?_ <;> with_reducible conv => whnf))))
          all_goals first | rfl | (simp [ks]; done) | trace_state
        · have e5 := s3 e4
          subst e5
          have e4' := eq_false e4
          repeat' (first
    | (first
    | ((with_reducible show IfK _ _ _ _); first | refine IfK.ff ?_ | refine IfK.tt ?_ | refine IfK.no (by first | rfl | assumption | exact nf (by assumption) | exact nt (by assumption) | ((try simp only [castN]); first | (simp [hlm, g', eq_true hsum, e1', hj0, hj1, k6, kn', ks', e4']; done) | (simp [hlm, g', eq_true hsum, e1', hj0, hj1, k6, kn', ks', e4']; omega))) ?_ | refine IfK.yes (by first | rfl | assumption | exact nf (by assumption) | exact nt (by assumption) | ((try simp only [castN]); first | (simp [hlm, g', eq_true hsum, e1', hj0, hj1, k6, kn', ks', e4']; done) | (simp [hlm, g', eq_true hsum, e1', hj0, hj1, k6, kn', ks', e4']; omega))) ?_)
    | ((with_reducible show NeedK _ _ _ _); refine NeedK.mk (by (try simp only [castN]); omega) ?_)
    | ((with_reducible show DrawK _ _ _ _); refine DrawK.mk (by kernel_rfl) (by kernel_rfl) (by kernel_rfl) ?_)
    | ((with_reducible show CallK _ _ 10 _ _ _ _); first | refine CallK.lit [] (f10_at hl (congrArg Nat.cast hp0)) c10 ⟨rfl, rfl, rfl, trivial⟩ rfl rfl ?_ | refine CallK.lit [] (f10_at hkt (congrArg Nat.cast hp1)) c10 ⟨rfl, rfl, rfl, trivial⟩ rfl rfl ?_ | refine CallK.lit [] (f10_at hkd (congrArg Nat.cast hp2)) c10 ⟨rfl, rfl, rfl, trivial⟩ rfl rfl ?_)
    | ((with_reducible show CallK _ _ 13 _ _ _ _); first | refine CallK.val [] (f13_at hl hq0) c13 ⟨rfl, trivial⟩ rfl rfl rfl ?_ | refine CallK.val [] (f13_at hkt hq1) c13 ⟨rfl, trivial⟩ rfl rfl rfl ?_ | refine CallK.val [] (f13_at hkd hq2) c13 ⟨rfl, trivial⟩ rfl rfl rfl ?_)
    | ((with_reducible show CallK _ _ 12 _ _ _ _); refine CallK.lit [561] (f12_at (a := q0) (b := q1 ++ q2) (r := true) (by omega) (decide_eq_true s2)) c12 ⟨rfl, frz_ints rfl rfl hqa (by simp), trivial⟩ rfl rfl ?_)
    | ((with_reducible show CallK _ _ 15 _ _ _ _); first | refine CallK.lit [] (f15_at hl hr0) c15 ⟨rfl, rfl, trivial⟩ rfl rfl ?_ | refine CallK.lit [] (f15_at hkt hr1) c15 ⟨rfl, rfl, trivial⟩ rfl rfl ?_)
    | ((with_reducible show CallK _ _ 17 _ _ _ _); first | refine CallK.lit [] (f17_at hl hh0) c17 ⟨rfl, rfl, rfl, trivial⟩ rfl rfl ?_ | refine CallK.lit [] (f17_at hkt hh1) c17 ⟨rfl, rfl, rfl, trivial⟩ rfl rfl ?_ | refine CallK.lit [] (f17_at hkd hh2) c17 ⟨rfl, rfl, rfl, trivial⟩ rfl rfl ?_)
    | ((with_reducible show ConvK _ _ _ _ _ _ _); refine ConvK.int (by kernel_rfl) (by kernel_rfl) (wrap_u8 hc) ?_)
    | ((with_reducible show HandK _ _ _ _ _); refine HandK.remAt hc.1 (by simp only [castN]; omega) (by simp only [castN, hlm]; exact hk) rfl rfl rfl rfl ?_)
    | ((with_reducible show CutFK _ _ _ _ _ _); first | refine CutFK.mk 0 k ((l.take k).map oMk) rfl (by (try simp only [castN]); omega) (by omega) hcutm ?_ | refine CutFK.mk k (l.length - k) ((l.drop k).map oMk) rfl (by (try simp only [castN]); omega) (by omega) hcutd ?_)
    | ((with_reducible show AppK _ _ _ _ _ _ _ _ _ _); first | refine AppK.mk [] (q1.map oInt) ⟨rfl, rfl, rfl⟩ ⟨rfl, rfl, rfl⟩ (oneL_ints q1) (by simp; omega) (by simp; omega) ?_ | refine AppK.mk (q1.map oInt) (q2.map oInt) ⟨rfl, rfl, rfl⟩ ⟨rfl, rfl, rfl⟩ (oneL_ints q2) (by simp; omega) (by simp; omega) ?_)
    | ((with_reducible show IdxK _ _ _ _ _); refine IdxK.mk j (eMk ⟨kd, dp, nd, wt, er, nm, a1, a2, ol, nw, fr, to, on⟩) rfl (mk_get hx) ?_)) <;> ((with_reducible conv => whnf); (with_reducible conv => congr <;> reduce); repeat ((first | (with_reducible refine HaltK.mk ?_) | (with_reducible refine StopK.mk ?_)); (with_reducible conv => whnf); (with_reducible conv => congr <;> reduce)))
    | ((with_reducible show (_ ∧ _) ∧ _ ∧ _); refine ⟨⟨rfl, rfl⟩, ?_, ?_⟩ <;> (with_reducible conv => whnf) <;> repeat' (first | (with_reducible exact trivial) | (with_reducible refine And.intro ?_ ?_ <;> with_reducible conv => whnf))))
          all_goals first | rfl | (simp [ks]; done) | trace_state
end Go.Proofs.Audit
end
