/- Contracts of the functions of audit, part 1. By an AI agent. -/
import Derived.Test.YtebingflknhcjaaVA
section
set_option linter.unusedSimpArgs false
set_option linter.unusedVariables false
namespace Go.Proofs.Audit
open Go Go.Am Go.RowKit Go.Lib Go.MapKept
set_option maxRecDepth 100000
theorem LookK.gotI {P : Program} {N : Nat} {o : Oper} {t : TypeId} {c : Bool} {ym : AV} {acc : Tk} {sl : SL} {m : ML} {R : Am.Rest} {k : Int} (l : TabI) {q : Int} {b : Bool} (hq : (tget k l).getD 0 = q) (hb : (tget k l).isSome = b) (hT : MapTy P t (.int .i64) (.int .i64 0)) (hrows : MapIs m ym (tRows vInt oInt l)) (hd : dstB N o.dst = true)
    (h : R (mapRd ym) (pairOf c (eInt q) b) [] acc sl m) : LookK P N t c ym (.lit (.int .i64 k)) acc sl m (o := o) (R := R) := by
  subst hq; subst hb
  refine LookK.tab (k := k) (zv := eInt 0) vInt oInt l hT hrows key_int inj_int hd rfl (fun x hx => ?_) (fun hx => ?_)
  · rw [hx] at h; exact h
  · rw [hx] at h; exact h
theorem tput_le (k v : Int) (l : TabI) : (tput k v l).length ≤ l.length + 1 := by
  rw [tput_length]
  split <;> omega
set_option maxHeartbeats 4000000 in
/-- lives -/
theorem f31_ok (a : List OpM) (n : Nat) (x : MkM) (bc kp : TabI) (ov : Bool) (h1 : bc.length ≤ 100000) (h2 : kp.length ≤ 100000) (hk : -1000 ≤ (tget x.node kp).getD 0 ∧ (tget x.node kp).getD 0 ≤ 1000) :
    FnOK Try.prog 31 [rB 1 n 2 3 ov, rA a, rT bc, rT kp] [.ptr 0 0 0, eMk x] [rB 1 n 2 3 ov, rA a, rT (livesM bc kp x).1, rT (livesM bc kp x).2.1] (eBool (livesM bc kp x).2.2) := by
  obtain ⟨r, hr⟩ : ∃ r, livesM bc kp x = r := ⟨_, rfl⟩
  rw [hr]
  obtain ⟨kd, dp, nd, wt, er, nm, b1, b2, ol, nw, fr, to, on⟩ := x
  simp only at hk
  unfold livesM at hr
  simp only at hr
  obtain ⟨q, hq⟩ : ∃ q, (tget nd bc).getD 0 = q := ⟨_, rfl⟩
  obtain ⟨b, hb⟩ : ∃ b, (tget nd bc).isSome = b := ⟨_, rfl⟩
  refine FnOK.startC (rvs := [.tmp 4]) G G_good Try.func31 rfl Try.ntmps31 rfl rfl ?_; delta List.toArray; ((with_reducible conv => whnf); (with_reducible conv => congr <;> reduce); repeat ((first | (with_reducible refine HaltK.mk ?_) | (with_reducible refine StopK.mk ?_)); (with_reducible conv => whnf); (with_reducible conv => congr <;> reduce)))
  refine LookK.gotI bc hq hb map39 ⟨_, _, rfl⟩ rfl ?_; ((with_reducible conv => whnf); (with_reducible conv => congr <;> reduce); repeat ((first | (with_reducible refine HaltK.mk ?_) | (with_reducible refine StopK.mk ?_)); (with_reducible conv => whnf); (with_reducible conv => congr <;> reduce)))
  refine DrawK.mk (by kernel_rfl) (by kernel_rfl) (by kernel_rfl) ?_; ((with_reducible conv => whnf); (with_reducible conv => congr <;> reduce); repeat ((first | (with_reducible refine HaltK.mk ?_) | (with_reducible refine StopK.mk ?_)); (with_reducible conv => whnf); (with_reducible conv => congr <;> reduce)))
  by_cases e5 : kd = 5
  · rw [if_pos e5] at hr
    subst hr
    have hno : (tget nd bc).isNone = !b := by rw [← hb]; cases tget nd bc <;> rfl
    rw [hno]
    cases b with
    | true =>
      repeat' (first
    | (first
    | ((with_reducible show IfK _ _ _ _); first | refine IfK.ff ?_ | refine IfK.tt ?_ | refine IfK.no (by first | rfl | assumption | exact nf (by assumption) | exact nt (by assumption) | ((try simp only [castN]); first | (simp [e5]; done) | (simp [e5]; omega))) ?_ | refine IfK.yes (by first | rfl | assumption | exact nf (by assumption) | exact nt (by assumption) | ((try simp only [castN]); first | (simp [e5]; done) | (simp [e5]; omega))) ?_)
    | ((with_reducible show NeedK _ _ _ _); refine NeedK.mk (by (try simp only [castN]); omega) ?_)
    | ((with_reducible show DrawK _ _ _ _); refine DrawK.mk (by kernel_rfl) (by kernel_rfl) (by kernel_rfl) ?_)
    | ((with_reducible show PutK _ _ _ _ _ _ _ _ _); refine PutK.tab vInt oInt bc (k := nd) wt map39 rfl key_int inj_int (by unfold maxLen; omega) rfl ?_)) <;> ((with_reducible conv => whnf); (with_reducible conv => congr <;> reduce); repeat ((first | (with_reducible refine HaltK.mk ?_) | (with_reducible refine StopK.mk ?_)); (with_reducible conv => whnf); (with_reducible conv => congr <;> reduce)))
    | ((with_reducible show (_ ∧ _) ∧ _ ∧ _); refine ⟨⟨rfl, rfl⟩, ?_, ?_⟩ <;> (with_reducible conv => whnf) <;> repeat' (first | (with_reducible exact trivial) | (with_reducible refine And.intro ?_ ?_ <;> with_reducible conv => whnf))))
      all_goals first | exact ok_tab _ | exact ok_ops _ | exact trivial | rfl | trace_state
    | false =>
      by_cases w3 : wt = 3
      · repeat' (first
    | (first
    | ((with_reducible show IfK _ _ _ _); first | refine IfK.ff ?_ | refine IfK.tt ?_ | refine IfK.no (by first | rfl | assumption | exact nf (by assumption) | exact nt (by assumption) | ((try simp only [castN]); first | (simp [e5, w3]; done) | (simp [e5, w3]; omega))) ?_ | refine IfK.yes (by first | rfl | assumption | exact nf (by assumption) | exact nt (by assumption) | ((try simp only [castN]); first | (simp [e5, w3]; done) | (simp [e5, w3]; omega))) ?_)
    | ((with_reducible show NeedK _ _ _ _); refine NeedK.mk (by (try simp only [castN]); omega) ?_)
    | ((with_reducible show DrawK _ _ _ _); refine DrawK.mk (by kernel_rfl) (by kernel_rfl) (by kernel_rfl) ?_)
    | ((with_reducible show PutK _ _ _ _ _ _ _ _ _); refine PutK.tab vInt oInt bc (k := nd) wt map39 rfl key_int inj_int (by unfold maxLen; omega) rfl ?_)) <;> ((with_reducible conv => whnf); (with_reducible conv => congr <;> reduce); repeat ((first | (with_reducible refine HaltK.mk ?_) | (with_reducible refine StopK.mk ?_)); (with_reducible conv => whnf); (with_reducible conv => congr <;> reduce)))
    | ((with_reducible show (_ ∧ _) ∧ _ ∧ _); refine ⟨⟨rfl, rfl⟩, ?_, ?_⟩ <;> (with_reducible conv => whnf) <;> repeat' (first | (with_reducible exact trivial) | (with_reducible refine And.intro ?_ ?_ <;> with_reducible conv => whnf))))
        all_goals first | exact ok_tab _ | exact ok_ops _ | exact trivial | (simp [w3]; done) | trace_state
      · have w3' := eq_false w3
        repeat' (first
    | (first
    | ((with_reducible show IfK _ _ _ _); first | refine IfK.ff ?_ | refine IfK.tt ?_ | refine IfK.no (by first | rfl | assumption | exact nf (by assumption) | exact nt (by assumption) | ((try simp only [castN]); first | (simp [e5, w3']; done) | (simp [e5, w3']; omega))) ?_ | refine IfK.yes (by first | rfl | assumption | exact nf (by assumption) | exact nt (by assumption) | ((try simp only [castN]); first | (simp [e5, w3']; done) | (simp [e5, w3']; omega))) ?_)
    | ((with_reducible show NeedK _ _ _ _); refine NeedK.mk (by (try simp only [castN]); omega) ?_)
    | ((with_reducible show DrawK _ _ _ _); refine DrawK.mk (by kernel_rfl) (by kernel_rfl) (by kernel_rfl) ?_)
    | ((with_reducible show PutK _ _ _ _ _ _ _ _ _); refine PutK.tab vInt oInt bc (k := nd) wt map39 rfl key_int inj_int (by unfold maxLen; omega) rfl ?_)) <;> ((with_reducible conv => whnf); (with_reducible conv => congr <;> reduce); repeat ((first | (with_reducible refine HaltK.mk ?_) | (with_reducible refine StopK.mk ?_)); (with_reducible conv => whnf); (with_reducible conv => congr <;> reduce)))
    | ((with_reducible show (_ ∧ _) ∧ _ ∧ _); refine ⟨⟨rfl, rfl⟩, ?_, ?_⟩ <;> (with_reducible conv => whnf) <;> repeat' (first | (with_reducible exact trivial) | (with_reducible refine And.intro ?_ ?_ <;> with_reducible conv => whnf))))
        all_goals first | exact ok_tab _ | exact ok_ops _ | exact trivial | (simp [w3]; done) | trace_state
  · rw [if_neg e5] at hr
    by_cases e6 : kd = 6
    · rw [if_pos e6] at hr
      subst hr
      have h3 : decide (tget nd bc = some 3) = (b && decide (q = 3)) := by
        rw [← hb, ← hq]
        cases tget nd bc with
        | none => rfl
        | some v => simp
      rw [h3]
      cases b with
      | true =>
        repeat' (first
    | (first
    | ((with_reducible show IfK _ _ _ _); first | refine IfK.ff ?_ | refine IfK.tt ?_ | refine IfK.no (by first | rfl | assumption | exact nf (by assumption) | exact nt (by assumption) | ((try simp only [castN]); first | (simp [e6]; done) | (simp [e6]; omega))) ?_ | refine IfK.yes (by first | rfl | assumption | exact nf (by assumption) | exact nt (by assumption) | ((try simp only [castN]); first | (simp [e6]; done) | (simp [e6]; omega))) ?_)
    | ((with_reducible show NeedK _ _ _ _); refine NeedK.mk (by (try simp only [castN]); omega) ?_)
    | ((with_reducible show DrawK _ _ _ _); refine DrawK.mk (by kernel_rfl) (by kernel_rfl) (by kernel_rfl) ?_)) <;> ((with_reducible conv => whnf); (with_reducible conv => congr <;> reduce); repeat ((first | (with_reducible refine HaltK.mk ?_) | (with_reducible refine StopK.mk ?_)); (with_reducible conv => whnf); (with_reducible conv => congr <;> reduce)))
    | ((with_reducible show (_ ∧ _) ∧ _ ∧ _); refine ⟨⟨rfl, rfl⟩, ?_, ?_⟩ <;> (with_reducible conv => whnf) <;> repeat' (first | (with_reducible exact trivial) | (with_reducible refine And.intro ?_ ?_ <;> with_reducible conv => whnf))))
        all_goals first | exact ok_tab _ | exact ok_ops _ | exact trivial | rfl | trace_state
      | false =>
        repeat' (first
    | (first
    | ((with_reducible show IfK _ _ _ _); first | refine IfK.ff ?_ | refine IfK.tt ?_ | refine IfK.no (by first | rfl | assumption | exact nf (by assumption) | exact nt (by assumption) | ((try simp only [castN]); first | (simp [e6]; done) | (simp [e6]; omega))) ?_ | refine IfK.yes (by first | rfl | assumption | exact nf (by assumption) | exact nt (by assumption) | ((try simp only [castN]); first | (simp [e6]; done) | (simp [e6]; omega))) ?_)
    | ((with_reducible show NeedK _ _ _ _); refine NeedK.mk (by (try simp only [castN]); omega) ?_)
    | ((with_reducible show DrawK _ _ _ _); refine DrawK.mk (by kernel_rfl) (by kernel_rfl) (by kernel_rfl) ?_)) <;> ((with_reducible conv => whnf); (with_reducible conv => congr <;> reduce); repeat ((first | (with_reducible refine HaltK.mk ?_) | (with_reducible refine StopK.mk ?_)); (with_reducible conv => whnf); (with_reducible conv => congr <;> reduce)))
    | ((with_reducible show (_ ∧ _) ∧ _ ∧ _); refine ⟨⟨rfl, rfl⟩, ?_, ?_⟩ <;> (with_reducible conv => whnf) <;> repeat' (first | (with_reducible exact trivial) | (with_reducible refine And.intro ?_ ?_ <;> with_reducible conv => whnf))))
        all_goals first | exact ok_tab _ | exact ok_ops _ | exact trivial | rfl | trace_state
    · rw [if_neg e6] at hr
      by_cases e8 : kd = 8
      · rw [if_pos e8] at hr
        subst hr
        obtain ⟨c, hc⟩ : ∃ c, (tget nd kp).getD 0 = c := ⟨_, rfl⟩
        obtain ⟨d, hd⟩ : ∃ d, (tget nd kp).isSome = d := ⟨_, rfl⟩
        rw [hc] at hk ⊢
        have hc' : (tget nd (tput nd (c + 1) kp)).getD 0 = c + 1 := by rw [tget_put, if_pos rfl]; rfl
        have hd' : (tget nd (tput nd (c + 1) kp)).isSome = true := by rw [tget_put, if_pos rfl]; rfl
        repeat' (first
    | (first
    | ((with_reducible show IfK _ _ _ _); first | refine IfK.ff ?_ | refine IfK.tt ?_ | refine IfK.no (by first | rfl | assumption | exact nf (by assumption) | exact nt (by assumption) | ((try simp only [castN]); first | (simp [e8]; done) | (simp [e8]; omega))) ?_ | refine IfK.yes (by first | rfl | assumption | exact nf (by assumption) | exact nt (by assumption) | ((try simp only [castN]); first | (simp [e8]; done) | (simp [e8]; omega))) ?_)
    | ((with_reducible show NeedK _ _ _ _); refine NeedK.mk (by (try simp only [castN]); omega) ?_)
    | ((with_reducible show DrawK _ _ _ _); refine DrawK.mk (by kernel_rfl) (by kernel_rfl) (by kernel_rfl) ?_)
    | ((with_reducible show PutK _ _ _ _ _ _ _ _ _); refine PutK.tab vInt oInt kp (k := nd) (c + 1) map39 rfl key_int inj_int (by unfold maxLen; omega) rfl ?_)
    | ((with_reducible show LookK _ _ _ _ _ _ _ _ _); first | refine LookK.gotI kp hc hd map39 ⟨_, _, rfl⟩ rfl ?_ | refine LookK.gotI _ hc' hd' map39 ⟨_, _, rfl⟩ rfl ?_)) <;> ((with_reducible conv => whnf); (with_reducible conv => congr <;> reduce); repeat ((first | (with_reducible refine HaltK.mk ?_) | (with_reducible refine StopK.mk ?_)); (with_reducible conv => whnf); (with_reducible conv => congr <;> reduce)))
    | ((with_reducible show (_ ∧ _) ∧ _ ∧ _); refine ⟨⟨rfl, rfl⟩, ?_, ?_⟩ <;> (with_reducible conv => whnf) <;> repeat' (first | (with_reducible exact trivial) | (with_reducible refine And.intro ?_ ?_ <;> with_reducible conv => whnf))))
        all_goals first | exact ok_tab _ | exact ok_ops _ | exact trivial | rfl | trace_state
      · rw [if_neg e8] at hr
        by_cases e4 : kd = 4
        · rw [if_pos e4] at hr
          subst hr
          repeat' (first
    | (first
    | ((with_reducible show IfK _ _ _ _); first | refine IfK.ff ?_ | refine IfK.tt ?_ | refine IfK.no (by first | rfl | assumption | exact nf (by assumption) | exact nt (by assumption) | ((try simp only [castN]); first | (simp [e4]; done) | (simp [e4]; omega))) ?_ | refine IfK.yes (by first | rfl | assumption | exact nf (by assumption) | exact nt (by assumption) | ((try simp only [castN]); first | (simp [e4]; done) | (simp [e4]; omega))) ?_)
    | ((with_reducible show NeedK _ _ _ _); refine NeedK.mk (by (try simp only [castN]); omega) ?_)
    | ((with_reducible show DrawK _ _ _ _); refine DrawK.mk (by kernel_rfl) (by kernel_rfl) (by kernel_rfl) ?_)) <;> ((with_reducible conv => whnf); (with_reducible conv => congr <;> reduce); repeat ((first | (with_reducible refine HaltK.mk ?_) | (with_reducible refine StopK.mk ?_)); (with_reducible conv => whnf); (with_reducible conv => congr <;> reduce)))
    | ((with_reducible show (_ ∧ _) ∧ _ ∧ _); refine ⟨⟨rfl, rfl⟩, ?_, ?_⟩ <;> (with_reducible conv => whnf) <;> repeat' (first | (with_reducible exact trivial) | (with_reducible refine And.intro ?_ ?_ <;> with_reducible conv => whnf))))
          all_goals first | exact ok_tab _ | exact ok_ops _ | exact trivial | rfl | trace_state
        · rw [if_neg e4] at hr
          subst hr
          repeat' (first
    | (first
    | ((with_reducible show IfK _ _ _ _); first | refine IfK.ff ?_ | refine IfK.tt ?_ | refine IfK.no (by first | rfl | assumption | exact nf (by assumption) | exact nt (by assumption) | ((try simp only [castN]); first | (simp [e5, e6, e8, e4]; done) | (simp [e5, e6, e8, e4]; omega))) ?_ | refine IfK.yes (by first | rfl | assumption | exact nf (by assumption) | exact nt (by assumption) | ((try simp only [castN]); first | (simp [e5, e6, e8, e4]; done) | (simp [e5, e6, e8, e4]; omega))) ?_)
    | ((with_reducible show NeedK _ _ _ _); refine NeedK.mk (by (try simp only [castN]); omega) ?_)
    | ((with_reducible show DrawK _ _ _ _); refine DrawK.mk (by kernel_rfl) (by kernel_rfl) (by kernel_rfl) ?_)) <;> ((with_reducible conv => whnf); (with_reducible conv => congr <;> reduce); repeat ((first | (with_reducible refine HaltK.mk ?_) | (with_reducible refine StopK.mk ?_)); (with_reducible conv => whnf); (with_reducible conv => congr <;> reduce)))
    | ((with_reducible show (_ ∧ _) ∧ _ ∧ _); refine ⟨⟨rfl, rfl⟩, ?_, ?_⟩ <;> (with_reducible conv => whnf) <;> repeat' (first | (with_reducible exact trivial) | (with_reducible refine And.intro ?_ ?_ <;> with_reducible conv => whnf))))
          all_goals first | exact ok_tab _ | exact ok_ops _ | exact trivial | rfl | trace_state
end Go.Proofs.Audit
end
section
set_option linter.unusedSimpArgs false
set_option linter.unusedVariables false
namespace Go.Proofs.Audit
open Go.Am Go.RowKit Go.Lib
set_option maxRecDepth 100000
theorem deep_pos {x : MkM} (h : deepM x = true) : 0 ≤ x.depth := by
  unfold deepM at h
  split at h
  · simp at h; omega
  · split at h <;> simp at h <;> omega
theorem f29_at {a : List OpM} {n n' : Nat} {x : MkM} (bc kp : TabI) (ov : Bool) (h : n ≤ a.length) (hs : n ≤ 100000) (hx : okD x) (h0 : 0 ≤ x.depth) (en : shN (leastM x) a n = n') : FnOK Try.prog 29 [rB 1 n 2 3 ov, rA a, rT bc, rT kp] [.ptr 0 0 0, eMk x] [rB 1 n' 2 3 ov, rA a, rT bc, rT kp] (.tup []) := by
  subst en; exact f29_ok a n x bc kp ov h hs hx h0
theorem f30_pushAt {a : List OpM} {n : Nat} {x : MkM} {r : Bool} (bc kp : TabI) (ov : Bool) (h : n ≤ a.length) (hs : n ≤ 100000) (hx : okD x) (h0 : 0 ≤ x.depth) (ho : opensK x.kind = true) (hr : (standsM (a.take n) x).2 = r) :
    FnOK Try.prog 30 [rB 1 n 2 3 ov, rA a, rT bc, rT kp] [.ptr 0 0 0, eMk x] [rB 4 (n + 1) 2 3 ov, .dead, rT bc, rT kp, rA (a.take n ++ [opOf x])] (eBool r) := by
  have := f30_push a n x bc kp ov h hs hx h0 ho
  have e : (standsM (a.take n) x).2 = decide ((topM (a.take n)).depth = x.depth - 1) := by unfold standsM; rw [if_pos ho]
  rw [← e, hr] at this
  exact this
theorem f30_stayAt {a : List OpM} {n n' : Nat} {x : MkM} {r : Bool} (bc kp : TabI) (ov : Bool) (h : n ≤ a.length) (hs : n ≤ 100000) (hx : okD x) (h0 : 0 ≤ x.depth) (ho : opensK x.kind = false) (hr : (standsM (a.take n) x).2 = r) (hn : (standsM (a.take n) x).1.length = n') :
    FnOK Try.prog 30 [rB 1 n 2 3 ov, rA a, rT bc, rT kp] [.ptr 0 0 0, eMk x] [rB 1 n' 2 3 ov, rA a, rT bc, rT kp] (eBool r) := by
  have := f30_stay a n x bc kp ov h hs hx h0 ho
  rw [hr, hn] at this
  exact this
theorem f31_at {a : List OpM} {n : Nat} {x : MkM} {bc kp bc' kp' : TabI} {r : Bool} (ov : Bool) (h1 : bc.length ≤ 100000) (h2 : kp.length ≤ 100000) (hk : -1000 ≤ (tget x.node kp).getD 0 ∧ (tget x.node kp).getD 0 ≤ 1000) (hr : livesM bc kp x = (bc', kp', r)) :
    FnOK Try.prog 31 [rB 1 n 2 3 ov, rA a, rT bc, rT kp] [.ptr 0 0 0, eMk x] [rB 1 n 2 3 ov, rA a, rT bc', rT kp'] (eBool r) := by
  have := f31_ok a n x bc kp ov h1 h2 hk
  rw [hr] at this
  exact this
/-- What a book may hold. -/
structure OkB (a : List OpM) (n : Nat) (bc kp : TabI) (x : MkM) : Prop where
  le : n ≤ a.length
  small : n ≤ 100000
  tb : bc.length ≤ 100000
  tk : kp.length ≤ 100000
  cnt : -1000 ≤ (tget x.node kp).getD 0 ∧ (tget x.node kp).getD 0 ≤ 1000
  dep : okD x
set_option maxHeartbeats 8000000 in
/-- read, of a mark that may not stand there -/
theorem f26_bad (a : List OpM) (n : Nat) (x : MkM) (bc kp : TabI) (ov : Bool) (hB : OkB a n bc kp x) (hr : (readM ⟨a.take n, bc, kp, ov⟩ x).2 = false) :
    FnOK Try.prog 26 [rB 1 n 2 3 ov, rA a, rT bc, rT kp] [.ptr 0 0 0, eMk x] [.dead, .dead, .dead, .dead] (eBool false) := by
  rw [readM_snd] at hr
  unfold guardM at hr
  simp only at hr
  obtain ⟨kd, dp, nd, wt, er, nm, b1, b2, ol, nw, fr, to, on⟩ := x
  refine FnOK.startC (rvs := [.tmp 4]) G G_good Try.func26 rfl Try.ntmps26 rfl rfl ?_; delta List.toArray; ((with_reducible conv => whnf); (with_reducible conv => congr <;> reduce); repeat ((first | (with_reducible refine HaltK.mk ?_) | (with_reducible refine StopK.mk ?_)); (with_reducible conv => whnf); (with_reducible conv => congr <;> reduce)))
  cases ov with
  | true =>
    repeat' (first
    | (first
    | ((with_reducible show IfK _ _ _ _); first | refine IfK.ff ?_ | refine IfK.tt ?_ | refine IfK.no (by first | rfl | assumption | exact nf (by assumption) | exact nt (by assumption) | ((try simp only [castN]); first | (simp []; done) | (simp []; omega))) ?_ | refine IfK.yes (by first | rfl | assumption | exact nf (by assumption) | exact nt (by assumption) | ((try simp only [castN]); first | (simp []; done) | (simp []; omega))) ?_)
    | ((with_reducible show NeedK _ _ _ _); refine NeedK.mk (by (try simp only [castN]); omega) ?_)
    | ((with_reducible show DrawK _ _ _ _); refine DrawK.mk (by kernel_rfl) (by kernel_rfl) (by kernel_rfl) ?_)) <;> ((with_reducible conv => whnf); (with_reducible conv => congr <;> reduce); repeat ((first | (with_reducible refine HaltK.mk ?_) | (with_reducible refine StopK.mk ?_)); (with_reducible conv => whnf); (with_reducible conv => congr <;> reduce)))
    | ((with_reducible show (_ ∧ _) ∧ _ ∧ _); refine ⟨⟨rfl, rfl⟩, ?_, ?_⟩ <;> (with_reducible conv => whnf) <;> repeat' (first | (with_reducible exact trivial) | (with_reducible refine And.intro ?_ ?_ <;> with_reducible conv => whnf))))
    all_goals first | exact trivial | rfl | trace_state
  | false =>
    by_cases k1 : kd < 1
    · repeat' (first
    | (first
    | ((with_reducible show IfK _ _ _ _); first | refine IfK.ff ?_ | refine IfK.tt ?_ | refine IfK.no (by first | rfl | assumption | exact nf (by assumption) | exact nt (by assumption) | ((try simp only [castN]); first | (simp [k1]; done) | (simp [k1]; omega))) ?_ | refine IfK.yes (by first | rfl | assumption | exact nf (by assumption) | exact nt (by assumption) | ((try simp only [castN]); first | (simp [k1]; done) | (simp [k1]; omega))) ?_)
    | ((with_reducible show NeedK _ _ _ _); refine NeedK.mk (by (try simp only [castN]); omega) ?_)
    | ((with_reducible show DrawK _ _ _ _); refine DrawK.mk (by kernel_rfl) (by kernel_rfl) (by kernel_rfl) ?_)) <;> ((with_reducible conv => whnf); (with_reducible conv => congr <;> reduce); repeat ((first | (with_reducible refine HaltK.mk ?_) | (with_reducible refine StopK.mk ?_)); (with_reducible conv => whnf); (with_reducible conv => congr <;> reduce)))
    | ((with_reducible show (_ ∧ _) ∧ _ ∧ _); refine ⟨⟨rfl, rfl⟩, ?_, ?_⟩ <;> (with_reducible conv => whnf) <;> repeat' (first | (with_reducible exact trivial) | (with_reducible refine And.intro ?_ ?_ <;> with_reducible conv => whnf))))
      all_goals first | exact trivial | rfl | trace_state
    · by_cases k2 : 10 < kd
      · have k1' := eq_false k1
        repeat' (first
    | (first
    | ((with_reducible show IfK _ _ _ _); first | refine IfK.ff ?_ | refine IfK.tt ?_ | refine IfK.no (by first | rfl | assumption | exact nf (by assumption) | exact nt (by assumption) | ((try simp only [castN]); first | (simp [k1', k2]; done) | (simp [k1', k2]; omega))) ?_ | refine IfK.yes (by first | rfl | assumption | exact nf (by assumption) | exact nt (by assumption) | ((try simp only [castN]); first | (simp [k1', k2]; done) | (simp [k1', k2]; omega))) ?_)
    | ((with_reducible show NeedK _ _ _ _); refine NeedK.mk (by (try simp only [castN]); omega) ?_)
    | ((with_reducible show DrawK _ _ _ _); refine DrawK.mk (by kernel_rfl) (by kernel_rfl) (by kernel_rfl) ?_)) <;> ((with_reducible conv => whnf); (with_reducible conv => congr <;> reduce); repeat ((first | (with_reducible refine HaltK.mk ?_) | (with_reducible refine StopK.mk ?_)); (with_reducible conv => whnf); (with_reducible conv => congr <;> reduce)))
    | ((with_reducible show (_ ∧ _) ∧ _ ∧ _); refine ⟨⟨rfl, rfl⟩, ?_, ?_⟩ <;> (with_reducible conv => whnf) <;> repeat' (first | (with_reducible exact trivial) | (with_reducible refine And.intro ?_ ?_ <;> with_reducible conv => whnf))))
        all_goals first | exact trivial | rfl | trace_state
      · have k1' := eq_false k1
        have k2' := eq_false k2
        obtain ⟨dm, hdm⟩ : ∃ dm, deepM ⟨kd, dp, nd, wt, er, nm, b1, b2, ol, nw, fr, to, on⟩ = dm := ⟨_, rfl⟩
        cases dm with
        | false =>
          repeat' (first
    | (first
    | ((with_reducible show IfK _ _ _ _); first | refine IfK.ff ?_ | refine IfK.tt ?_ | refine IfK.no (by first | rfl | assumption | exact nf (by assumption) | exact nt (by assumption) | ((try simp only [castN]); first | (simp [k1', k2']; done) | (simp [k1', k2']; omega))) ?_ | refine IfK.yes (by first | rfl | assumption | exact nf (by assumption) | exact nt (by assumption) | ((try simp only [castN]); first | (simp [k1', k2']; done) | (simp [k1', k2']; omega))) ?_)
    | ((with_reducible show NeedK _ _ _ _); refine NeedK.mk (by (try simp only [castN]); omega) ?_)
    | ((with_reducible show DrawK _ _ _ _); refine DrawK.mk (by kernel_rfl) (by kernel_rfl) (by kernel_rfl) ?_)
    | ((with_reducible show CallK _ _ 28 _ _ _ _); refine CallK.lit [] (f28_at hdm) c28 ⟨⟨rfl, rfl, rfl, rfl, rfl, rfl, rfl, rfl, rfl, rfl, rfl, rfl, rfl, trivial⟩, trivial⟩ rfl rfl ?_)) <;> ((with_reducible conv => whnf); (with_reducible conv => congr <;> reduce); repeat ((first | (with_reducible refine HaltK.mk ?_) | (with_reducible refine StopK.mk ?_)); (with_reducible conv => whnf); (with_reducible conv => congr <;> reduce)))
    | ((with_reducible show (_ ∧ _) ∧ _ ∧ _); refine ⟨⟨rfl, rfl⟩, ?_, ?_⟩ <;> (with_reducible conv => whnf) <;> repeat' (first | (with_reducible exact trivial) | (with_reducible refine And.intro ?_ ?_ <;> with_reducible conv => whnf))))
          all_goals first | exact trivial | rfl | trace_state
        | true =>
          have h0 : 0 ≤ (⟨kd, dp, nd, wt, er, nm, b1, b2, ol, nw, fr, to, on⟩ : MkM).depth := deep_pos hdm
          obtain ⟨n', en⟩ : ∃ n', shN (leastM ⟨kd, dp, nd, wt, er, nm, b1, b2, ol, nw, fr, to, on⟩) a n = n' := ⟨_, rfl⟩
          have hn0 := shN_le (leastM ⟨kd, dp, nd, wt, er, nm, b1, b2, ol, nw, fr, to, on⟩) a n
          have hn' : n' ≤ a.length := by have := hB.le; omega
          have hs' : n' ≤ 100000 := by have := hB.small; omega
          have htk : shutM (leastM ⟨kd, dp, nd, wt, er, nm, b1, b2, ol, nw, fr, to, on⟩) (a.take n) = a.take n' := by rw [← shN_take, en]
          obtain ⟨n'', hn''⟩ : ∃ n'', (standsM (a.take n') ⟨kd, dp, nd, wt, er, nm, b1, b2, ol, nw, fr, to, on⟩).1.length = n'' := ⟨_, rfl⟩
          obtain ⟨⟨bc', kp', lb⟩, hlv⟩ : ∃ v, livesM bc kp ⟨kd, dp, nd, wt, er, nm, b1, b2, ol, nw, fr, to, on⟩ = v := ⟨_, rfl⟩
          obtain ⟨rb, hrb⟩ : ∃ rb, (standsM (a.take n') ⟨kd, dp, nd, wt, er, nm, b1, b2, ol, nw, fr, to, on⟩).2 = rb := ⟨_, rfl⟩
          have hg : (!false && decide (1 ≤ kd) && decide (kd ≤ 10) && true) = true := by simp; omega
          rw [hdm, hg, htk, hrb, hlv, Bool.true_and] at hr
          obtain ⟨o, ho⟩ : ∃ o, opensK kd = o := ⟨_, rfl⟩
          cases o with
          | true =>
            cases rb with
            | false =>
              repeat' (first
    | (first
    | ((with_reducible show IfK _ _ _ _); first | refine IfK.ff ?_ | refine IfK.tt ?_ | refine IfK.no (by first | rfl | assumption | exact nf (by assumption) | exact nt (by assumption) | ((try simp only [castN]); first | (simp [k1', k2']; done) | (simp [k1', k2']; omega))) ?_ | refine IfK.yes (by first | rfl | assumption | exact nf (by assumption) | exact nt (by assumption) | ((try simp only [castN]); first | (simp [k1', k2']; done) | (simp [k1', k2']; omega))) ?_)
    | ((with_reducible show NeedK _ _ _ _); refine NeedK.mk (by (try simp only [castN]); omega) ?_)
    | ((with_reducible show DrawK _ _ _ _); refine DrawK.mk (by kernel_rfl) (by kernel_rfl) (by kernel_rfl) ?_)
    | ((with_reducible show CallK _ _ 28 _ _ _ _); refine CallK.lit [] (f28_at hdm) c28 ⟨⟨rfl, rfl, rfl, rfl, rfl, rfl, rfl, rfl, rfl, rfl, rfl, rfl, rfl, trivial⟩, trivial⟩ rfl rfl ?_)
    | ((with_reducible show CallK _ _ 29 _ _ _ _); refine CallK.lend (news := [rB 1 n' 2 3 (decide (kd = 10)), rA a, rT bc, rT kp]) [0, 1, 2, 3] [] (f29_at (x := ⟨kd, dp, nd, wt, er, nm, b1, b2, ol, nw, fr, to, on⟩) bc kp (decide (kd = 10)) hB.le hB.small hB.dep h0 en) c29 ⟨⟨rfl, rfl⟩, ⟨rfl, rfl, rfl, rfl, rfl, rfl, rfl, rfl, rfl, rfl, rfl, rfl, rfl, trivial⟩, trivial⟩ (ins_book rfl rfl rfl rfl) rfl ⟨⟨rfl, rfl⟩, rfl⟩ rfl news_book rfl rfl ?_)
    | ((with_reducible show CallK _ _ 30 _ _ _ _); refine CallK.lend (news := [rB 351 (n' + 1) 2 3 (decide (kd = 10)), .dead, rT bc, rT kp, rA (a.take n' ++ [⟨kd, dp, wt⟩])]) [0, 1, 2, 3, 351] [] (f30_pushAt (x := ⟨kd, dp, nd, wt, er, nm, b1, b2, ol, nw, fr, to, on⟩) bc kp (decide (kd = 10)) hn' hs' hB.dep h0 ho hrb) c30 ⟨⟨rfl, rfl⟩, ⟨rfl, rfl, rfl, rfl, rfl, rfl, rfl, rfl, rfl, rfl, rfl, rfl, rfl, trivial⟩, trivial⟩ (ins_push rfl rfl rfl rfl) rfl ⟨⟨rfl, rfl⟩, rfl⟩ rfl news_push rfl rfl ?_)
    | ((with_reducible show CallK _ _ 31 _ _ _ _); refine CallK.lend (news := [rB 351 (n' + 1) 2 3 (decide (kd = 10)), rA (a.take n' ++ [⟨kd, dp, wt⟩]), rT bc', rT kp']) [0, 351, 2, 3] [] (f31_at (x := ⟨kd, dp, nd, wt, er, nm, b1, b2, ol, nw, fr, to, on⟩) (decide (kd = 10)) hB.tb hB.tk hB.cnt hlv) c31 ⟨⟨rfl, rfl⟩, ⟨rfl, rfl, rfl, rfl, rfl, rfl, rfl, rfl, rfl, rfl, rfl, rfl, rfl, trivial⟩, trivial⟩ (ins_book rfl rfl rfl rfl) rfl ⟨⟨rfl, rfl⟩, rfl⟩ rfl news_book rfl rfl ?_)) <;> ((with_reducible conv => whnf); (with_reducible conv => congr <;> reduce); repeat ((first | (with_reducible refine HaltK.mk ?_) | (with_reducible refine StopK.mk ?_)); (with_reducible conv => whnf); (with_reducible conv => congr <;> reduce)))
    | ((with_reducible show (_ ∧ _) ∧ _ ∧ _); refine ⟨⟨rfl, rfl⟩, ?_, ?_⟩ <;> (with_reducible conv => whnf) <;> repeat' (first | (with_reducible exact trivial) | (with_reducible refine And.intro ?_ ?_ <;> with_reducible conv => whnf))))
              all_goals first | exact trivial | rfl | trace_state
            | true =>
              cases hr
              repeat' (first
    | (first
    | ((with_reducible show IfK _ _ _ _); first | refine IfK.ff ?_ | refine IfK.tt ?_ | refine IfK.no (by first | rfl | assumption | exact nf (by assumption) | exact nt (by assumption) | ((try simp only [castN]); first | (simp [k1', k2']; done) | (simp [k1', k2']; omega))) ?_ | refine IfK.yes (by first | rfl | assumption | exact nf (by assumption) | exact nt (by assumption) | ((try simp only [castN]); first | (simp [k1', k2']; done) | (simp [k1', k2']; omega))) ?_)
    | ((with_reducible show NeedK _ _ _ _); refine NeedK.mk (by (try simp only [castN]); omega) ?_)
    | ((with_reducible show DrawK _ _ _ _); refine DrawK.mk (by kernel_rfl) (by kernel_rfl) (by kernel_rfl) ?_)
    | ((with_reducible show CallK _ _ 28 _ _ _ _); refine CallK.lit [] (f28_at hdm) c28 ⟨⟨rfl, rfl, rfl, rfl, rfl, rfl, rfl, rfl, rfl, rfl, rfl, rfl, rfl, trivial⟩, trivial⟩ rfl rfl ?_)
    | ((with_reducible show CallK _ _ 29 _ _ _ _); refine CallK.lend (news := [rB 1 n' 2 3 (decide (kd = 10)), rA a, rT bc, rT kp]) [0, 1, 2, 3] [] (f29_at (x := ⟨kd, dp, nd, wt, er, nm, b1, b2, ol, nw, fr, to, on⟩) bc kp (decide (kd = 10)) hB.le hB.small hB.dep h0 en) c29 ⟨⟨rfl, rfl⟩, ⟨rfl, rfl, rfl, rfl, rfl, rfl, rfl, rfl, rfl, rfl, rfl, rfl, rfl, trivial⟩, trivial⟩ (ins_book rfl rfl rfl rfl) rfl ⟨⟨rfl, rfl⟩, rfl⟩ rfl news_book rfl rfl ?_)
    | ((with_reducible show CallK _ _ 30 _ _ _ _); refine CallK.lend (news := [rB 351 (n' + 1) 2 3 (decide (kd = 10)), .dead, rT bc, rT kp, rA (a.take n' ++ [⟨kd, dp, wt⟩])]) [0, 1, 2, 3, 351] [] (f30_pushAt (x := ⟨kd, dp, nd, wt, er, nm, b1, b2, ol, nw, fr, to, on⟩) bc kp (decide (kd = 10)) hn' hs' hB.dep h0 ho hrb) c30 ⟨⟨rfl, rfl⟩, ⟨rfl, rfl, rfl, rfl, rfl, rfl, rfl, rfl, rfl, rfl, rfl, rfl, rfl, trivial⟩, trivial⟩ (ins_push rfl rfl rfl rfl) rfl ⟨⟨rfl, rfl⟩, rfl⟩ rfl news_push rfl rfl ?_)
    | ((with_reducible show CallK _ _ 31 _ _ _ _); refine CallK.lend (news := [rB 351 (n' + 1) 2 3 (decide (kd = 10)), rA (a.take n' ++ [⟨kd, dp, wt⟩]), rT bc', rT kp']) [0, 351, 2, 3] [] (f31_at (x := ⟨kd, dp, nd, wt, er, nm, b1, b2, ol, nw, fr, to, on⟩) (decide (kd = 10)) hB.tb hB.tk hB.cnt hlv) c31 ⟨⟨rfl, rfl⟩, ⟨rfl, rfl, rfl, rfl, rfl, rfl, rfl, rfl, rfl, rfl, rfl, rfl, rfl, trivial⟩, trivial⟩ (ins_book rfl rfl rfl rfl) rfl ⟨⟨rfl, rfl⟩, rfl⟩ rfl news_book rfl rfl ?_)) <;> ((with_reducible conv => whnf); (with_reducible conv => congr <;> reduce); repeat ((first | (with_reducible refine HaltK.mk ?_) | (with_reducible refine StopK.mk ?_)); (with_reducible conv => whnf); (with_reducible conv => congr <;> reduce)))
    | ((with_reducible show (_ ∧ _) ∧ _ ∧ _); refine ⟨⟨rfl, rfl⟩, ?_, ?_⟩ <;> (with_reducible conv => whnf) <;> repeat' (first | (with_reducible exact trivial) | (with_reducible refine And.intro ?_ ?_ <;> with_reducible conv => whnf))))
              all_goals first | exact trivial | rfl | trace_state
          | false =>
            cases rb with
            | false =>
              repeat' (first
    | (first
    | ((with_reducible show IfK _ _ _ _); first | refine IfK.ff ?_ | refine IfK.tt ?_ | refine IfK.no (by first | rfl | assumption | exact nf (by assumption) | exact nt (by assumption) | ((try simp only [castN]); first | (simp [k1', k2']; done) | (simp [k1', k2']; omega))) ?_ | refine IfK.yes (by first | rfl | assumption | exact nf (by assumption) | exact nt (by assumption) | ((try simp only [castN]); first | (simp [k1', k2']; done) | (simp [k1', k2']; omega))) ?_)
    | ((with_reducible show NeedK _ _ _ _); refine NeedK.mk (by (try simp only [castN]); omega) ?_)
    | ((with_reducible show DrawK _ _ _ _); refine DrawK.mk (by kernel_rfl) (by kernel_rfl) (by kernel_rfl) ?_)
    | ((with_reducible show CallK _ _ 28 _ _ _ _); refine CallK.lit [] (f28_at hdm) c28 ⟨⟨rfl, rfl, rfl, rfl, rfl, rfl, rfl, rfl, rfl, rfl, rfl, rfl, rfl, trivial⟩, trivial⟩ rfl rfl ?_)
    | ((with_reducible show CallK _ _ 29 _ _ _ _); refine CallK.lend (news := [rB 1 n' 2 3 (decide (kd = 10)), rA a, rT bc, rT kp]) [0, 1, 2, 3] [] (f29_at (x := ⟨kd, dp, nd, wt, er, nm, b1, b2, ol, nw, fr, to, on⟩) bc kp (decide (kd = 10)) hB.le hB.small hB.dep h0 en) c29 ⟨⟨rfl, rfl⟩, ⟨rfl, rfl, rfl, rfl, rfl, rfl, rfl, rfl, rfl, rfl, rfl, rfl, rfl, trivial⟩, trivial⟩ (ins_book rfl rfl rfl rfl) rfl ⟨⟨rfl, rfl⟩, rfl⟩ rfl news_book rfl rfl ?_)
    | ((with_reducible show CallK _ _ 30 _ _ _ _); refine CallK.lend (news := [rB 1 n'' 2 3 (decide (kd = 10)), rA a, rT bc, rT kp]) [0, 1, 2, 3] [] (f30_stayAt (x := ⟨kd, dp, nd, wt, er, nm, b1, b2, ol, nw, fr, to, on⟩) bc kp (decide (kd = 10)) hn' hs' hB.dep h0 ho hrb hn'') c30 ⟨⟨rfl, rfl⟩, ⟨rfl, rfl, rfl, rfl, rfl, rfl, rfl, rfl, rfl, rfl, rfl, rfl, rfl, trivial⟩, trivial⟩ (ins_book rfl rfl rfl rfl) rfl ⟨⟨rfl, rfl⟩, rfl⟩ rfl news_book rfl rfl ?_)
    | ((with_reducible show CallK _ _ 31 _ _ _ _); refine CallK.lend (news := [rB 1 n'' 2 3 (decide (kd = 10)), rA a, rT bc', rT kp']) [0, 1, 2, 3] [] (f31_at (x := ⟨kd, dp, nd, wt, er, nm, b1, b2, ol, nw, fr, to, on⟩) (decide (kd = 10)) hB.tb hB.tk hB.cnt hlv) c31 ⟨⟨rfl, rfl⟩, ⟨rfl, rfl, rfl, rfl, rfl, rfl, rfl, rfl, rfl, rfl, rfl, rfl, rfl, trivial⟩, trivial⟩ (ins_book rfl rfl rfl rfl) rfl ⟨⟨rfl, rfl⟩, rfl⟩ rfl news_book rfl rfl ?_)) <;> ((with_reducible conv => whnf); (with_reducible conv => congr <;> reduce); repeat ((first | (with_reducible refine HaltK.mk ?_) | (with_reducible refine StopK.mk ?_)); (with_reducible conv => whnf); (with_reducible conv => congr <;> reduce)))
    | ((with_reducible show (_ ∧ _) ∧ _ ∧ _); refine ⟨⟨rfl, rfl⟩, ?_, ?_⟩ <;> (with_reducible conv => whnf) <;> repeat' (first | (with_reducible exact trivial) | (with_reducible refine And.intro ?_ ?_ <;> with_reducible conv => whnf))))
              all_goals first | exact trivial | rfl | trace_state
            | true =>
              cases hr
              repeat' (first
    | (first
    | ((with_reducible show IfK _ _ _ _); first | refine IfK.ff ?_ | refine IfK.tt ?_ | refine IfK.no (by first | rfl | assumption | exact nf (by assumption) | exact nt (by assumption) | ((try simp only [castN]); first | (simp [k1', k2']; done) | (simp [k1', k2']; omega))) ?_ | refine IfK.yes (by first | rfl | assumption | exact nf (by assumption) | exact nt (by assumption) | ((try simp only [castN]); first | (simp [k1', k2']; done) | (simp [k1', k2']; omega))) ?_)
    | ((with_reducible show NeedK _ _ _ _); refine NeedK.mk (by (try simp only [castN]); omega) ?_)
    | ((with_reducible show DrawK _ _ _ _); refine DrawK.mk (by kernel_rfl) (by kernel_rfl) (by kernel_rfl) ?_)
    | ((with_reducible show CallK _ _ 28 _ _ _ _); refine CallK.lit [] (f28_at hdm) c28 ⟨⟨rfl, rfl, rfl, rfl, rfl, rfl, rfl, rfl, rfl, rfl, rfl, rfl, rfl, trivial⟩, trivial⟩ rfl rfl ?_)
    | ((with_reducible show CallK _ _ 29 _ _ _ _); refine CallK.lend (news := [rB 1 n' 2 3 (decide (kd = 10)), rA a, rT bc, rT kp]) [0, 1, 2, 3] [] (f29_at (x := ⟨kd, dp, nd, wt, er, nm, b1, b2, ol, nw, fr, to, on⟩) bc kp (decide (kd = 10)) hB.le hB.small hB.dep h0 en) c29 ⟨⟨rfl, rfl⟩, ⟨rfl, rfl, rfl, rfl, rfl, rfl, rfl, rfl, rfl, rfl, rfl, rfl, rfl, trivial⟩, trivial⟩ (ins_book rfl rfl rfl rfl) rfl ⟨⟨rfl, rfl⟩, rfl⟩ rfl news_book rfl rfl ?_)
    | ((with_reducible show CallK _ _ 30 _ _ _ _); refine CallK.lend (news := [rB 1 n'' 2 3 (decide (kd = 10)), rA a, rT bc, rT kp]) [0, 1, 2, 3] [] (f30_stayAt (x := ⟨kd, dp, nd, wt, er, nm, b1, b2, ol, nw, fr, to, on⟩) bc kp (decide (kd = 10)) hn' hs' hB.dep h0 ho hrb hn'') c30 ⟨⟨rfl, rfl⟩, ⟨rfl, rfl, rfl, rfl, rfl, rfl, rfl, rfl, rfl, rfl, rfl, rfl, rfl, trivial⟩, trivial⟩ (ins_book rfl rfl rfl rfl) rfl ⟨⟨rfl, rfl⟩, rfl⟩ rfl news_book rfl rfl ?_)
    | ((with_reducible show CallK _ _ 31 _ _ _ _); refine CallK.lend (news := [rB 1 n'' 2 3 (decide (kd = 10)), rA a, rT bc', rT kp']) [0, 1, 2, 3] [] (f31_at (x := ⟨kd, dp, nd, wt, er, nm, b1, b2, ol, nw, fr, to, on⟩) (decide (kd = 10)) hB.tb hB.tk hB.cnt hlv) c31 ⟨⟨rfl, rfl⟩, ⟨rfl, rfl, rfl, rfl, rfl, rfl, rfl, rfl, rfl, rfl, rfl, rfl, rfl, trivial⟩, trivial⟩ (ins_book rfl rfl rfl rfl) rfl ⟨⟨rfl, rfl⟩, rfl⟩ rfl news_book rfl rfl ?_)) <;> ((with_reducible conv => whnf); (with_reducible conv => congr <;> reduce); repeat ((first | (with_reducible refine HaltK.mk ?_) | (with_reducible refine StopK.mk ?_)); (with_reducible conv => whnf); (with_reducible conv => congr <;> reduce)))
    | ((with_reducible show (_ ∧ _) ∧ _ ∧ _); refine ⟨⟨rfl, rfl⟩, ?_, ?_⟩ <;> (with_reducible conv => whnf) <;> repeat' (first | (with_reducible exact trivial) | (with_reducible refine And.intro ?_ ?_ <;> with_reducible conv => whnf))))
              all_goals first | exact trivial | rfl | trace_state
theorem lives_le (bc kp : TabI) (x : MkM) : (livesM bc kp x).1.length ≤ bc.length + 1 ∧ (livesM bc kp x).2.1.length ≤ kp.length + 1 := by
  have h1 := tput_le x.node x.what bc
  have h2 := tput_le x.node ((tget x.node kp).getD 0 + 1) kp
  unfold livesM
  repeat' split
  all_goals (refine ⟨?_, ?_⟩ <;> simp only <;> omega)
theorem stands_take {a : List OpM} {n : Nat} {x : MkM} (h : n ≤ a.length) (ho : opensK x.kind = false) : (standsM (a.take n) x).1 = a.take (standsM (a.take n) x).1.length ∧ (standsM (a.take n) x).1.length ≤ n := by
  have hl : (a.take n).length = n := List.length_take_of_le h
  have same : (a.take n) = a.take (a.take n).length ∧ (a.take n).length ≤ n := by rw [hl]; exact ⟨rfl, Nat.le_refl _⟩
  have drop : (a.take n).dropLast = a.take (a.take n).dropLast.length ∧ (a.take n).dropLast.length ≤ n := by
    rw [List.length_dropLast, hl, List.dropLast_eq_take, hl, List.take_take]
    exact ⟨by rw [Nat.min_eq_left (by omega)], by omega⟩
  unfold standsM
  rw [if_neg (by rw [ho]; simp)]
  repeat' split
  all_goals first | exact same | exact drop
set_option maxHeartbeats 8000000 in
/-- read, of a mark that may stand there, and opens -/
theorem f26_push (a : List OpM) (n : Nat) (x : MkM) (bc kp : TabI) (ov : Bool) (hB : OkB a n bc kp x) (hr : (readM ⟨a.take n, bc, kp, ov⟩ x).2 = true) (ho : opensK x.kind = true) :
    ∃ (n' : Nat) (bc' kp' : TabI), n' ≤ n ∧ bc'.length ≤ bc.length + 1 ∧ kp'.length ≤ kp.length + 1 ∧ (readM ⟨a.take n, bc, kp, ov⟩ x).1 = ⟨a.take n' ++ [opOf x], bc', kp', decide (x.kind = 10)⟩ ∧
    FnOK Try.prog 26 [rB 1 n 2 3 ov, rA a, rT bc, rT kp] [.ptr 0 0 0, eMk x] [rB 4 (n' + 1) 2 3 (decide (x.kind = 10)), .dead, rT bc', rT kp', rA (a.take n' ++ [opOf x])] (eBool true) := by
  have hf := readM_fst hr
  rw [readM_snd] at hr
  unfold guardM at hr
  simp only [Bool.and_eq_true, Bool.not_eq_true', decide_eq_true_eq] at hr
  obtain ⟨⟨⟨⟨⟨hov, k1⟩, k2⟩, hdm⟩, hst⟩, hlb⟩ := hr
  have hll := lives_le bc kp x
  have hsp : (standsM (shutM (leastM x) (a.take n)) x).1 = shutM (leastM x) (a.take n) ++ [opOf x] := by unfold standsM; rw [if_pos ho]; rfl
  subst hov
  obtain ⟨kd, dp, nd, wt, er, nm, b1, b2, ol, nw, fr, to, on⟩ := x
  simp only at k1 k2
  have k1' : (kd < 1) = False := eq_false (by omega)
  have k2' : (10 < kd) = False := eq_false (by omega)
  have h0 : 0 ≤ (⟨kd, dp, nd, wt, er, nm, b1, b2, ol, nw, fr, to, on⟩ : MkM).depth := deep_pos hdm
  obtain ⟨n', en⟩ : ∃ n', shN (leastM ⟨kd, dp, nd, wt, er, nm, b1, b2, ol, nw, fr, to, on⟩) a n = n' := ⟨_, rfl⟩
  have hn0 := shN_le (leastM ⟨kd, dp, nd, wt, er, nm, b1, b2, ol, nw, fr, to, on⟩) a n
  have hn' : n' ≤ a.length := by have := hB.le; omega
  have hs' : n' ≤ 100000 := by have := hB.small; omega
  have htk : shutM (leastM ⟨kd, dp, nd, wt, er, nm, b1, b2, ol, nw, fr, to, on⟩) (a.take n) = a.take n' := by rw [← shN_take, en]
  obtain ⟨n'', hn''⟩ : ∃ n'', (standsM (a.take n') ⟨kd, dp, nd, wt, er, nm, b1, b2, ol, nw, fr, to, on⟩).1.length = n'' := ⟨_, rfl⟩
  obtain ⟨⟨bc', kp', lb⟩, hlv⟩ : ∃ v, livesM bc kp ⟨kd, dp, nd, wt, er, nm, b1, b2, ol, nw, fr, to, on⟩ = v := ⟨_, rfl⟩
  obtain ⟨rb, hrb⟩ : ∃ rb, (standsM (a.take n') ⟨kd, dp, nd, wt, er, nm, b1, b2, ol, nw, fr, to, on⟩).2 = rb := ⟨_, rfl⟩
  simp only at hf hst hsp hlb hll ho
  rw [htk] at hf hst hsp
  rw [hsp] at hf
  rw [hrb] at hst
  subst hst
  rw [hlv] at hlb hll hf
  simp only at hlb hll hf
  subst hlb
  refine ⟨n', bc', kp', by omega, hll.1, hll.2, hf, ?_⟩
  refine FnOK.startB (rvs := [.tmp 4]) G G_good Try.func26 rfl Try.ntmps26 rfl rfl ?_; delta List.toArray; ((with_reducible conv => whnf); (with_reducible conv => congr <;> reduce); repeat ((first | (with_reducible refine HaltK.mk ?_) | (with_reducible refine StopK.mk ?_)); (with_reducible conv => whnf); (with_reducible conv => congr <;> reduce)))
  repeat' (first
    | (first
    | ((with_reducible show IfK _ _ _ _); first | refine IfK.ff ?_ | refine IfK.tt ?_ | refine IfK.no (by first | rfl | assumption | exact nf (by assumption) | exact nt (by assumption) | ((try simp only [castN]); first | (simp [k1', k2']; done) | (simp [k1', k2']; omega))) ?_ | refine IfK.yes (by first | rfl | assumption | exact nf (by assumption) | exact nt (by assumption) | ((try simp only [castN]); first | (simp [k1', k2']; done) | (simp [k1', k2']; omega))) ?_)
    | ((with_reducible show NeedK _ _ _ _); refine NeedK.mk (by (try simp only [castN]); omega) ?_)
    | ((with_reducible show DrawK _ _ _ _); refine DrawK.mk (by kernel_rfl) (by kernel_rfl) (by kernel_rfl) ?_)
    | ((with_reducible show CallK _ _ 28 _ _ _ _); refine CallK.lit [] (f28_at hdm) c28 ⟨⟨rfl, rfl, rfl, rfl, rfl, rfl, rfl, rfl, rfl, rfl, rfl, rfl, rfl, trivial⟩, trivial⟩ rfl rfl ?_)
    | ((with_reducible show CallK _ _ 29 _ _ _ _); refine CallK.lend (news := [rB 1 n' 2 3 (decide (kd = 10)), rA a, rT bc, rT kp]) [0, 1, 2, 3] [] (f29_at (x := ⟨kd, dp, nd, wt, er, nm, b1, b2, ol, nw, fr, to, on⟩) bc kp (decide (kd = 10)) hB.le hB.small hB.dep h0 en) c29 ⟨⟨rfl, rfl⟩, ⟨rfl, rfl, rfl, rfl, rfl, rfl, rfl, rfl, rfl, rfl, rfl, rfl, rfl, trivial⟩, trivial⟩ (ins_book rfl rfl rfl rfl) rfl ⟨⟨rfl, rfl⟩, rfl⟩ rfl news_book rfl rfl ?_)
    | ((with_reducible show CallK _ _ 30 _ _ _ _); refine CallK.lend (news := [rB 351 (n' + 1) 2 3 (decide (kd = 10)), .dead, rT bc, rT kp, rA (a.take n' ++ [⟨kd, dp, wt⟩])]) [0, 1, 2, 3, 351] [] (f30_pushAt (x := ⟨kd, dp, nd, wt, er, nm, b1, b2, ol, nw, fr, to, on⟩) bc kp (decide (kd = 10)) hn' hs' hB.dep h0 ho hrb) c30 ⟨⟨rfl, rfl⟩, ⟨rfl, rfl, rfl, rfl, rfl, rfl, rfl, rfl, rfl, rfl, rfl, rfl, rfl, trivial⟩, trivial⟩ (ins_push rfl rfl rfl rfl) rfl ⟨⟨rfl, rfl⟩, rfl⟩ rfl news_push rfl rfl ?_)
    | ((with_reducible show CallK _ _ 31 _ _ _ _); refine CallK.lend (news := [rB 351 (n' + 1) 2 3 (decide (kd = 10)), rA (a.take n' ++ [⟨kd, dp, wt⟩]), rT bc', rT kp']) [0, 351, 2, 3] [] (f31_at (x := ⟨kd, dp, nd, wt, er, nm, b1, b2, ol, nw, fr, to, on⟩) (decide (kd = 10)) hB.tb hB.tk hB.cnt hlv) c31 ⟨⟨rfl, rfl⟩, ⟨rfl, rfl, rfl, rfl, rfl, rfl, rfl, rfl, rfl, rfl, rfl, rfl, rfl, trivial⟩, trivial⟩ (ins_book rfl rfl rfl rfl) rfl ⟨⟨rfl, rfl⟩, rfl⟩ rfl news_book rfl rfl ?_)) <;> ((with_reducible conv => whnf); (with_reducible conv => congr <;> reduce); repeat ((first | (with_reducible refine HaltK.mk ?_) | (with_reducible refine StopK.mk ?_)); (with_reducible conv => whnf); (with_reducible conv => congr <;> reduce)))
    | ((with_reducible show (_ ∧ _) ∧ _ ∧ _); refine ⟨⟨rfl, rfl⟩, ?_, ?_⟩ <;> (with_reducible conv => whnf) <;> repeat' (first | (with_reducible exact trivial) | (with_reducible refine And.intro ?_ ?_ <;> with_reducible conv => whnf))))
  all_goals first | exact ok_tab _ | exact ok_ops _ | exact trivial | rfl | trace_state
set_option maxHeartbeats 8000000 in
/-- read, of a mark that may stand there, and opens nothing -/
theorem f26_stay (a : List OpM) (n : Nat) (x : MkM) (bc kp : TabI) (ov : Bool) (hB : OkB a n bc kp x) (hr : (readM ⟨a.take n, bc, kp, ov⟩ x).2 = true) (ho : opensK x.kind = false) :
    ∃ (n' : Nat) (bc' kp' : TabI), n' ≤ n ∧ bc'.length ≤ bc.length + 1 ∧ kp'.length ≤ kp.length + 1 ∧ (readM ⟨a.take n, bc, kp, ov⟩ x).1 = ⟨a.take n', bc', kp', decide (x.kind = 10)⟩ ∧
    FnOK Try.prog 26 [rB 1 n 2 3 ov, rA a, rT bc, rT kp] [.ptr 0 0 0, eMk x] [rB 1 n' 2 3 (decide (x.kind = 10)), rA a, rT bc', rT kp'] (eBool true) := by
  have hf := readM_fst hr
  rw [readM_snd] at hr
  unfold guardM at hr
  simp only [Bool.and_eq_true, Bool.not_eq_true', decide_eq_true_eq] at hr
  obtain ⟨⟨⟨⟨⟨hov, k1⟩, k2⟩, hdm⟩, hst⟩, hlb⟩ := hr
  have hll := lives_le bc kp x
  subst hov
  obtain ⟨kd, dp, nd, wt, er, nm, b1, b2, ol, nw, fr, to, on⟩ := x
  simp only at k1 k2
  have k1' : (kd < 1) = False := eq_false (by omega)
  have k2' : (10 < kd) = False := eq_false (by omega)
  have h0 : 0 ≤ (⟨kd, dp, nd, wt, er, nm, b1, b2, ol, nw, fr, to, on⟩ : MkM).depth := deep_pos hdm
  obtain ⟨n', en⟩ : ∃ n', shN (leastM ⟨kd, dp, nd, wt, er, nm, b1, b2, ol, nw, fr, to, on⟩) a n = n' := ⟨_, rfl⟩
  have hn0 := shN_le (leastM ⟨kd, dp, nd, wt, er, nm, b1, b2, ol, nw, fr, to, on⟩) a n
  have hn' : n' ≤ a.length := by have := hB.le; omega
  have hs' : n' ≤ 100000 := by have := hB.small; omega
  have htk : shutM (leastM ⟨kd, dp, nd, wt, er, nm, b1, b2, ol, nw, fr, to, on⟩) (a.take n) = a.take n' := by rw [← shN_take, en]
  obtain ⟨n'', hn''⟩ : ∃ n'', (standsM (a.take n') ⟨kd, dp, nd, wt, er, nm, b1, b2, ol, nw, fr, to, on⟩).1.length = n'' := ⟨_, rfl⟩
  obtain ⟨⟨bc', kp', lb⟩, hlv⟩ : ∃ v, livesM bc kp ⟨kd, dp, nd, wt, er, nm, b1, b2, ol, nw, fr, to, on⟩ = v := ⟨_, rfl⟩
  obtain ⟨rb, hrb⟩ : ∃ rb, (standsM (a.take n') ⟨kd, dp, nd, wt, er, nm, b1, b2, ol, nw, fr, to, on⟩).2 = rb := ⟨_, rfl⟩
  have hsp := stands_take (x := ⟨kd, dp, nd, wt, er, nm, b1, b2, ol, nw, fr, to, on⟩) hn' ho
  simp only at hf hst hlb hll ho
  rw [htk] at hf hst
  rw [hn''] at hsp
  rw [hsp.1] at hf
  rw [hrb] at hst
  subst hst
  rw [hlv] at hlb hll hf
  simp only at hlb hll hf
  subst hlb
  refine ⟨n'', bc', kp', by omega, hll.1, hll.2, hf, ?_⟩
  refine FnOK.startC (rvs := [.tmp 4]) G G_good Try.func26 rfl Try.ntmps26 rfl rfl ?_; delta List.toArray; ((with_reducible conv => whnf); (with_reducible conv => congr <;> reduce); repeat ((first | (with_reducible refine HaltK.mk ?_) | (with_reducible refine StopK.mk ?_)); (with_reducible conv => whnf); (with_reducible conv => congr <;> reduce)))
  repeat' (first
    | (first
    | ((with_reducible show IfK _ _ _ _); first | refine IfK.ff ?_ | refine IfK.tt ?_ | refine IfK.no (by first | rfl | assumption | exact nf (by assumption) | exact nt (by assumption) | ((try simp only [castN]); first | (simp [k1', k2']; done) | (simp [k1', k2']; omega))) ?_ | refine IfK.yes (by first | rfl | assumption | exact nf (by assumption) | exact nt (by assumption) | ((try simp only [castN]); first | (simp [k1', k2']; done) | (simp [k1', k2']; omega))) ?_)
    | ((with_reducible show NeedK _ _ _ _); refine NeedK.mk (by (try simp only [castN]); omega) ?_)
    | ((with_reducible show DrawK _ _ _ _); refine DrawK.mk (by kernel_rfl) (by kernel_rfl) (by kernel_rfl) ?_)
    | ((with_reducible show CallK _ _ 28 _ _ _ _); refine CallK.lit [] (f28_at hdm) c28 ⟨⟨rfl, rfl, rfl, rfl, rfl, rfl, rfl, rfl, rfl, rfl, rfl, rfl, rfl, trivial⟩, trivial⟩ rfl rfl ?_)
    | ((with_reducible show CallK _ _ 29 _ _ _ _); refine CallK.lend (news := [rB 1 n' 2 3 (decide (kd = 10)), rA a, rT bc, rT kp]) [0, 1, 2, 3] [] (f29_at (x := ⟨kd, dp, nd, wt, er, nm, b1, b2, ol, nw, fr, to, on⟩) bc kp (decide (kd = 10)) hB.le hB.small hB.dep h0 en) c29 ⟨⟨rfl, rfl⟩, ⟨rfl, rfl, rfl, rfl, rfl, rfl, rfl, rfl, rfl, rfl, rfl, rfl, rfl, trivial⟩, trivial⟩ (ins_book rfl rfl rfl rfl) rfl ⟨⟨rfl, rfl⟩, rfl⟩ rfl news_book rfl rfl ?_)
    | ((with_reducible show CallK _ _ 30 _ _ _ _); refine CallK.lend (news := [rB 1 n'' 2 3 (decide (kd = 10)), rA a, rT bc, rT kp]) [0, 1, 2, 3] [] (f30_stayAt (x := ⟨kd, dp, nd, wt, er, nm, b1, b2, ol, nw, fr, to, on⟩) bc kp (decide (kd = 10)) hn' hs' hB.dep h0 ho hrb hn'') c30 ⟨⟨rfl, rfl⟩, ⟨rfl, rfl, rfl, rfl, rfl, rfl, rfl, rfl, rfl, rfl, rfl, rfl, rfl, trivial⟩, trivial⟩ (ins_book rfl rfl rfl rfl) rfl ⟨⟨rfl, rfl⟩, rfl⟩ rfl news_book rfl rfl ?_)
    | ((with_reducible show CallK _ _ 31 _ _ _ _); refine CallK.lend (news := [rB 1 n'' 2 3 (decide (kd = 10)), rA a, rT bc', rT kp']) [0, 1, 2, 3] [] (f31_at (x := ⟨kd, dp, nd, wt, er, nm, b1, b2, ol, nw, fr, to, on⟩) (decide (kd = 10)) hB.tb hB.tk hB.cnt hlv) c31 ⟨⟨rfl, rfl⟩, ⟨rfl, rfl, rfl, rfl, rfl, rfl, rfl, rfl, rfl, rfl, rfl, rfl, rfl, trivial⟩, trivial⟩ (ins_book rfl rfl rfl rfl) rfl ⟨⟨rfl, rfl⟩, rfl⟩ rfl news_book rfl rfl ?_)) <;> ((with_reducible conv => whnf); (with_reducible conv => congr <;> reduce); repeat ((first | (with_reducible refine HaltK.mk ?_) | (with_reducible refine StopK.mk ?_)); (with_reducible conv => whnf); (with_reducible conv => congr <;> reduce)))
    | ((with_reducible show (_ ∧ _) ∧ _ ∧ _); refine ⟨⟨rfl, rfl⟩, ?_, ?_⟩ <;> (with_reducible conv => whnf) <;> repeat' (first | (with_reducible exact trivial) | (with_reducible refine And.intro ?_ ?_ <;> with_reducible conv => whnf))))
  all_goals first | exact ok_tab _ | exact ok_ops _ | exact trivial | rfl | trace_state
/-! ### refuses -/
theorem f20_bad (a : List OpM) (n : Nat) (x : MkM) (bc kp : TabI) (ov : Bool) (hB : OkB a n bc kp x) (hr : (readM ⟨a.take n, bc, kp, ov⟩ x).2 = false) :
    FnOK Try.prog 20 [rB 1 n 2 3 ov, rA a, rT bc, rT kp] [.ptr 0 0 0, eMk x] [.dead, .dead, .dead, .dead] (eBool true) := by
  have h26 := f26_bad a n x bc kp ov hB hr
  obtain ⟨kd, dp, nd, wt, er, nm, b1, b2, ol, nw, fr, to, on⟩ := x
  refine FnOK.startC (rvs := [.tmp 4]) G G_good Try.func20 rfl Try.ntmps20 rfl rfl ?_; delta List.toArray; ((with_reducible conv => whnf); (with_reducible conv => congr <;> reduce); repeat ((first | (with_reducible refine HaltK.mk ?_) | (with_reducible refine StopK.mk ?_)); (with_reducible conv => whnf); (with_reducible conv => congr <;> reduce)))
  repeat' (first
    | (first
    | ((with_reducible show IfK _ _ _ _); first | refine IfK.ff ?_ | refine IfK.tt ?_ | refine IfK.no (by first | rfl | assumption | exact nf (by assumption) | exact nt (by assumption) | ((try simp only [castN]); first | (simp []; done) | (simp []; omega))) ?_ | refine IfK.yes (by first | rfl | assumption | exact nf (by assumption) | exact nt (by assumption) | ((try simp only [castN]); first | (simp []; done) | (simp []; omega))) ?_)
    | ((with_reducible show NeedK _ _ _ _); refine NeedK.mk (by (try simp only [castN]); omega) ?_)
    | ((with_reducible show DrawK _ _ _ _); refine DrawK.mk (by kernel_rfl) (by kernel_rfl) (by kernel_rfl) ?_)
    | ((with_reducible show CallK _ _ 26 _ _ _ _); refine CallK.lend (news := [.dead, .dead, .dead, .dead]) [0, 1, 2, 3] [] h26 c26 ⟨⟨rfl, rfl⟩, ⟨rfl, rfl, rfl, rfl, rfl, rfl, rfl, rfl, rfl, rfl, rfl, rfl, rfl, trivial⟩, trivial⟩ (ins_book rfl rfl rfl rfl) rfl ⟨⟨rfl, rfl⟩, rfl⟩ rfl trivial rfl rfl ?_)) <;> ((with_reducible conv => whnf); (with_reducible conv => congr <;> reduce); repeat ((first | (with_reducible refine HaltK.mk ?_) | (with_reducible refine StopK.mk ?_)); (with_reducible conv => whnf); (with_reducible conv => congr <;> reduce)))
    | ((with_reducible show (_ ∧ _) ∧ _ ∧ _); refine ⟨⟨rfl, rfl⟩, ?_, ?_⟩ <;> (with_reducible conv => whnf) <;> repeat' (first | (with_reducible exact trivial) | (with_reducible refine And.intro ?_ ?_ <;> with_reducible conv => whnf))))
  all_goals first | exact trivial | rfl | trace_state
theorem f20_push (a : List OpM) (n : Nat) (x : MkM) (bc kp : TabI) (ov : Bool) (hB : OkB a n bc kp x) (hr : (readM ⟨a.take n, bc, kp, ov⟩ x).2 = true) (ho : opensK x.kind = true) :
    ∃ (n' : Nat) (bc' kp' : TabI), n' ≤ n ∧ bc'.length ≤ bc.length + 1 ∧ kp'.length ≤ kp.length + 1 ∧ (readM ⟨a.take n, bc, kp, ov⟩ x).1 = ⟨a.take n' ++ [opOf x], bc', kp', decide (x.kind = 10)⟩ ∧
    FnOK Try.prog 20 [rB 1 n 2 3 ov, rA a, rT bc, rT kp] [.ptr 0 0 0, eMk x] [rB 4 (n' + 1) 2 3 (decide (x.kind = 10)), .dead, rT bc', rT kp', rA (a.take n' ++ [opOf x])] (eBool false) := by
  obtain ⟨n', bc', kp', g1, g2, g3, g4, h26⟩ := f26_push a n x bc kp ov hB hr ho
  refine ⟨n', bc', kp', g1, g2, g3, g4, ?_⟩
  obtain ⟨kd, dp, nd, wt, er, nm, b1, b2, ol, nw, fr, to, on⟩ := x
  refine FnOK.startB (rvs := [.tmp 4]) G G_good Try.func20 rfl Try.ntmps20 rfl rfl ?_; delta List.toArray; ((with_reducible conv => whnf); (with_reducible conv => congr <;> reduce); repeat ((first | (with_reducible refine HaltK.mk ?_) | (with_reducible refine StopK.mk ?_)); (with_reducible conv => whnf); (with_reducible conv => congr <;> reduce)))
  repeat' (first
    | (first
    | ((with_reducible show IfK _ _ _ _); first | refine IfK.ff ?_ | refine IfK.tt ?_ | refine IfK.no (by first | rfl | assumption | exact nf (by assumption) | exact nt (by assumption) | ((try simp only [castN]); first | (simp []; done) | (simp []; omega))) ?_ | refine IfK.yes (by first | rfl | assumption | exact nf (by assumption) | exact nt (by assumption) | ((try simp only [castN]); first | (simp []; done) | (simp []; omega))) ?_)
    | ((with_reducible show NeedK _ _ _ _); refine NeedK.mk (by (try simp only [castN]); omega) ?_)
    | ((with_reducible show DrawK _ _ _ _); refine DrawK.mk (by kernel_rfl) (by kernel_rfl) (by kernel_rfl) ?_)
    | ((with_reducible show CallK _ _ 26 _ _ _ _); refine CallK.lend (news := [rB 71 (n' + 1) 2 3 (decide (kd = 10)), .dead, rT bc', rT kp', rA (a.take n' ++ [⟨kd, dp, wt⟩])]) [0, 1, 2, 3, 71] [] h26 c26 ⟨⟨rfl, rfl⟩, ⟨rfl, rfl, rfl, rfl, rfl, rfl, rfl, rfl, rfl, rfl, rfl, rfl, rfl, trivial⟩, trivial⟩ (ins_push rfl rfl rfl rfl) rfl ⟨⟨rfl, rfl⟩, rfl⟩ rfl news_push rfl rfl ?_)) <;> ((with_reducible conv => whnf); (with_reducible conv => congr <;> reduce); repeat ((first | (with_reducible refine HaltK.mk ?_) | (with_reducible refine StopK.mk ?_)); (with_reducible conv => whnf); (with_reducible conv => congr <;> reduce)))
    | ((with_reducible show (_ ∧ _) ∧ _ ∧ _); refine ⟨⟨rfl, rfl⟩, ?_, ?_⟩ <;> (with_reducible conv => whnf) <;> repeat' (first | (with_reducible exact trivial) | (with_reducible refine And.intro ?_ ?_ <;> with_reducible conv => whnf))))
  all_goals first | exact ok_tab _ | exact ok_ops _ | exact trivial | rfl | trace_state
theorem f20_stay (a : List OpM) (n : Nat) (x : MkM) (bc kp : TabI) (ov : Bool) (hB : OkB a n bc kp x) (hr : (readM ⟨a.take n, bc, kp, ov⟩ x).2 = true) (ho : opensK x.kind = false) :
    ∃ (n' : Nat) (bc' kp' : TabI), n' ≤ n ∧ bc'.length ≤ bc.length + 1 ∧ kp'.length ≤ kp.length + 1 ∧ (readM ⟨a.take n, bc, kp, ov⟩ x).1 = ⟨a.take n', bc', kp', decide (x.kind = 10)⟩ ∧
    FnOK Try.prog 20 [rB 1 n 2 3 ov, rA a, rT bc, rT kp] [.ptr 0 0 0, eMk x] [rB 1 n' 2 3 (decide (x.kind = 10)), rA a, rT bc', rT kp'] (eBool false) := by
  obtain ⟨n', bc', kp', g1, g2, g3, g4, h26⟩ := f26_stay a n x bc kp ov hB hr ho
  refine ⟨n', bc', kp', g1, g2, g3, g4, ?_⟩
  obtain ⟨kd, dp, nd, wt, er, nm, b1, b2, ol, nw, fr, to, on⟩ := x
  refine FnOK.startC (rvs := [.tmp 4]) G G_good Try.func20 rfl Try.ntmps20 rfl rfl ?_; delta List.toArray; ((with_reducible conv => whnf); (with_reducible conv => congr <;> reduce); repeat ((first | (with_reducible refine HaltK.mk ?_) | (with_reducible refine StopK.mk ?_)); (with_reducible conv => whnf); (with_reducible conv => congr <;> reduce)))
  repeat' (first
    | (first
    | ((with_reducible show IfK _ _ _ _); first | refine IfK.ff ?_ | refine IfK.tt ?_ | refine IfK.no (by first | rfl | assumption | exact nf (by assumption) | exact nt (by assumption) | ((try simp only [castN]); first | (simp []; done) | (simp []; omega))) ?_ | refine IfK.yes (by first | rfl | assumption | exact nf (by assumption) | exact nt (by assumption) | ((try simp only [castN]); first | (simp []; done) | (simp []; omega))) ?_)
    | ((with_reducible show NeedK _ _ _ _); refine NeedK.mk (by (try simp only [castN]); omega) ?_)
    | ((with_reducible show DrawK _ _ _ _); refine DrawK.mk (by kernel_rfl) (by kernel_rfl) (by kernel_rfl) ?_)
    | ((with_reducible show CallK _ _ 26 _ _ _ _); refine CallK.lend (news := [rB 1 n' 2 3 (decide (kd = 10)), rA a, rT bc', rT kp']) [0, 1, 2, 3] [] h26 c26 ⟨⟨rfl, rfl⟩, ⟨rfl, rfl, rfl, rfl, rfl, rfl, rfl, rfl, rfl, rfl, rfl, rfl, rfl, trivial⟩, trivial⟩ (ins_book rfl rfl rfl rfl) rfl ⟨⟨rfl, rfl⟩, rfl⟩ rfl news_book rfl rfl ?_)) <;> ((with_reducible conv => whnf); (with_reducible conv => congr <;> reduce); repeat ((first | (with_reducible refine HaltK.mk ?_) | (with_reducible refine StopK.mk ?_)); (with_reducible conv => whnf); (with_reducible conv => congr <;> reduce)))
    | ((with_reducible show (_ ∧ _) ∧ _ ∧ _); refine ⟨⟨rfl, rfl⟩, ?_, ?_⟩ <;> (with_reducible conv => whnf) <;> repeat' (first | (with_reducible exact trivial) | (with_reducible refine And.intro ?_ ?_ <;> with_reducible conv => whnf))))
  all_goals first | exact ok_tab _ | exact ok_ops _ | exact trivial | rfl | trace_state
end Go.Proofs.Audit
end
section
set_option linter.unusedSimpArgs false
set_option linter.unusedVariables false
namespace Go.Proofs.Audit
open Go.Am Go.RowKit Go.Lib
set_option maxRecDepth 100000
theorem take_snoc' {α : Type} {l : List α} {k : Nat} {x : α} (h : l[k]? = some x) : l.take (k + 1) = l.take k ++ [x] := by
  obtain ⟨hk, rfl⟩ := List.getElem?_eq_some_iff.1 h
  rw [List.take_add_one, List.getElem?_eq_getElem hk]; rfl
/-- What holds of the book when k marks were read. -/
structure AtK (l : List MkM) (k : Nat) (a : List OpM) (n : Nat) (bc kp : TabI) (ov : Bool) : Prop where
  run : runM book0 (l.take k) = some ⟨a.take n, bc, kp, ov⟩
  le : n ≤ a.length
  small : n ≤ k
  tb : bc.length ≤ k
  tk : kp.length ≤ k
theorem AtK.ok {l : List MkM} {k : Nat} {a : List OpM} {n : Nat} {bc kp : TabI} {ov : Bool} (h : AtK l k a n bc kp ov) (hk : k ≤ 100000) (x : MkM) (hx : okD x) : OkB a n bc kp x := by
  have hI := inv0.run h.run
  have hc := hI.kept x.node
  refine ⟨h.le, by have := h.small; omega, by have := h.tb; omega, by have := h.tk; omega, ?_, hx⟩
  simp only at hc
  rw [hc]
  split <;> omega
theorem AtK.step {l : List MkM} {k : Nat} {a : List OpM} {n : Nat} {bc kp : TabI} {ov : Bool} (h : AtK l k a n bc kp ov) {x : MkM} (hx : l[k]? = some x) (hr : (readM ⟨a.take n, bc, kp, ov⟩ x).2 = true) {a' : List OpM} {n' : Nat} {bc' kp' : TabI} {ov' : Bool}
    (he : (readM ⟨a.take n, bc, kp, ov⟩ x).1 = ⟨a'.take n', bc', kp', ov'⟩) (h1 : n' ≤ a'.length) (h2 : n' ≤ n + 1) (h3 : bc'.length ≤ bc.length + 1) (h4 : kp'.length ≤ kp.length + 1) : AtK l (k + 1) a' n' bc' kp' ov' := by
  refine ⟨?_, h1, by have := h.small; omega, by have := h.tb; omega, by have := h.tk; omega⟩
  rw [take_snoc' hx, run_snoc h.run, if_pos hr, he]
structure StI where
  k : Nat
  a : List OpM
  n : Nat
  bc : TabI
  kp : TabI
  ov : Bool
@[reducible] def SI (l : List MkM) (i : StI) : SL := [(0, eMks l), (1, .clo (.func 20) [.ptr 0 0 0] []), (6, eMks l), (7, eInt l.length), (8, eInt i.k)]
@[reducible] def MI (i : StI) : ML := [(0, rB 3 i.n 1 2 i.ov), (1, rT i.bc), (2, rT i.kp), (3, rA i.a)]
set_option maxHeartbeats 8000000 in
/-- IndexFunc, of the book's refusal -/
theorem f19_check (l : List MkM) (hl : l.length ≤ 100000) (hd : ∀ x ∈ l, okD x) : FnOK Try.prog 19 [.live 4 [.agg [.lit (.slice none 0 0), .mapr 1, .mapr 2, eBool false]] false, rT [], rT []] [eMks l, .clo (.func 20) [.ptr 0 0 0] []] [.dead, .dead, .dead] (eInt (checkM book0 0 l)) := by
  have hlm : (l.map oMk).length = l.length := List.length_map ..
  refine FnOK.startC (rvs := [.tmp 4]) G G_good Try.func19 rfl Try.ntmps19 rfl rfl ?_; delta List.toArray; ((with_reducible conv => whnf); (with_reducible conv => congr <;> reduce); repeat ((first | (with_reducible refine HaltK.mk ?_) | (with_reducible refine StopK.mk ?_)); (with_reducible conv => whnf); (with_reducible conv => congr <;> reduce)))
  refine LoopK.ghostRowC 1 0 3 3 0 0 (.agg [.lit (.slice none 0 0), .mapr 1, .mapr 2, eBool false]) (.agg [.own 3 0 0, .mapr 1, .mapr 2, eBool false]) rfl rfl rfl rfl rfl rfl ?_
  simp only [List.set_cons_zero]
  ((with_reducible conv => whnf); (with_reducible conv => congr <;> reduce); repeat ((first | (with_reducible refine HaltK.mk ?_) | (with_reducible refine StopK.mk ?_)); (with_reducible conv => whnf); (with_reducible conv => congr <;> reduce)))
  refine LoopK.use G G_good (SI l) MI (fun i => i.k ≤ l.length ∧ AtK l i.k i.a i.n i.bc i.kp i.ov) (fun i => l.length - i.k) ⟨0, [], 0, [], [], false⟩ ⟨Nat.zero_le _, ⟨rfl, Nat.le_refl _, Nat.le_refl _, Nat.le_refl _, Nat.le_refl _⟩⟩ ?_ ?_
  · exact ⟨⟨rfl, rfl⟩, ⟨rfl, ⟨rfl, ⟨⟨rfl, rfl⟩, trivial⟩, trivial⟩, rfl, by show (l.length : Int) = ((l.map oMk).length : Int); rw [hlm], rfl, trivial⟩, ⟨⟨⟨⟨rfl, rfl⟩, trivial, trivial, rfl, trivial⟩, trivial⟩, ok_tab _, ok_tab _, ok_ops [], trivial⟩⟩
  rintro ⟨k, a, n, bc, kp, ov⟩ ⟨hk, hA⟩
  simp only at hk hA
  ((with_reducible conv => whnf); (with_reducible conv => congr <;> reduce); repeat ((first | (with_reducible refine HaltK.mk ?_) | (with_reducible refine StopK.mk ?_)); (with_reducible conv => whnf); (with_reducible conv => congr <;> reduce)))
  refine IfK.mk (fun h1 => ?_) (fun h1 => ?_) <;> (try simp only [castN] at h1) <;> ((with_reducible conv => whnf); (with_reducible conv => congr <;> reduce); repeat ((first | (with_reducible refine HaltK.mk ?_) | (with_reducible refine StopK.mk ?_)); (with_reducible conv => whnf); (with_reducible conv => congr <;> reduce)))
  · have hk' : k < l.length := by
      simp only [decide_eq_true_eq] at h1
      omega
    obtain ⟨x, hx⟩ : ∃ x, l[k]? = some x := ⟨_, List.getElem?_eq_getElem hk'⟩
    have hxd : okD x := hd x (List.mem_of_getElem? hx)
    have hB := hA.ok (by omega) x hxd
    refine IdxK.mk k (eMk x) rfl (mk_get hx) ?_; ((with_reducible conv => whnf); (with_reducible conv => congr <;> reduce); repeat ((first | (with_reducible refine HaltK.mk ?_) | (with_reducible refine StopK.mk ?_)); (with_reducible conv => whnf); (with_reducible conv => congr <;> reduce)))
    have hnext : ((k + 1 : Nat) : Int) = (k : Int) + 1 := by omega
    cases hr : (readM ⟨a.take n, bc, kp, ov⟩ x).2 with
    | false =>
      have hc : checkM book0 0 l = (k : Int) := by
        have := check_at (i := 0) hx hA.run hr
        simpa using this
      repeat' (first
    | (first
    | ((with_reducible show IfK _ _ _ _); first | refine IfK.ff ?_ | refine IfK.tt ?_ | refine IfK.no (by first | rfl | assumption | exact nf (by assumption) | exact nt (by assumption) | ((try simp only [castN]); first | (simp []; done) | (simp []; omega))) ?_ | refine IfK.yes (by first | rfl | assumption | exact nf (by assumption) | exact nt (by assumption) | ((try simp only [castN]); first | (simp []; done) | (simp []; omega))) ?_)
    | ((with_reducible show NeedK _ _ _ _); refine NeedK.mk (by (try simp only [castN]); omega) ?_)
    | ((with_reducible show DrawK _ _ _ _); refine DrawK.mk (by kernel_rfl) (by kernel_rfl) (by kernel_rfl) ?_)
    | ((with_reducible show CallK _ _ 20 _ _ _ _); refine CallK.lend (news := [.dead, .dead, .dead, .dead]) [0, 3, 1, 2] [] (f20_bad a n x bc kp ov hB hr) c20 ⟨⟨rfl, rfl⟩, ⟨rfl, rfl, rfl, rfl, rfl, rfl, rfl, rfl, rfl, rfl, rfl, rfl, rfl, trivial⟩, trivial⟩ (ins_book rfl rfl rfl rfl) rfl ⟨⟨rfl, rfl⟩, rfl⟩ rfl trivial rfl rfl ?_)) <;> ((with_reducible conv => whnf); (with_reducible conv => congr <;> reduce); repeat ((first | (with_reducible refine HaltK.mk ?_) | (with_reducible refine StopK.mk ?_)); (with_reducible conv => whnf); (with_reducible conv => congr <;> reduce)))
    | ((with_reducible show (_ ∧ _) ∧ _ ∧ _); refine ⟨⟨rfl, rfl⟩, ?_, ?_⟩ <;> (with_reducible conv => whnf) <;> repeat' (first | (with_reducible exact trivial) | (with_reducible refine And.intro ?_ ?_ <;> with_reducible conv => whnf))))
      all_goals first | exact trivial | exact hc | trace_state
    | true =>
      cases ho : opensK x.kind with
      | true =>
        obtain ⟨n', bc', kp', g1, g2, g3, g4, h20⟩ := f20_push a n x bc kp ov hB hr ho
        have hl' : (a.take n').length = n' := List.length_take_of_le (by have := hA.le; omega)
        have hlen : (a.take n' ++ [opOf x]).length = n' + 1 := by rw [List.length_append, hl']; rfl
        have hA' : AtK l (k + 1) (a.take n' ++ [opOf x]) (n' + 1) bc' kp' (decide (x.kind = 10)) := hA.step hx hr (by rw [g4, ← hlen, List.take_length]) (by omega) (by omega) g2 g3
        repeat' (first
    | (first
    | ((with_reducible show IfK _ _ _ _); first | refine IfK.ff ?_ | refine IfK.tt ?_ | refine IfK.no (by first | rfl | assumption | exact nf (by assumption) | exact nt (by assumption) | ((try simp only [castN]); first | (simp []; done) | (simp []; omega))) ?_ | refine IfK.yes (by first | rfl | assumption | exact nf (by assumption) | exact nt (by assumption) | ((try simp only [castN]); first | (simp []; done) | (simp []; omega))) ?_)
    | ((with_reducible show NeedK _ _ _ _); refine NeedK.mk (by (try simp only [castN]); omega) ?_)
    | ((with_reducible show DrawK _ _ _ _); refine DrawK.mk (by kernel_rfl) (by kernel_rfl) (by kernel_rfl) ?_)
    | ((with_reducible show CallK _ _ 20 _ _ _ _); refine CallK.lend (news := [rB 161 (n' + 1) 1 2 (decide (x.kind = 10)), .dead, rT bc', rT kp', rA (a.take n' ++ [opOf x])]) [0, 3, 1, 2, 161] [] h20 c20 ⟨⟨rfl, rfl⟩, ⟨rfl, rfl, rfl, rfl, rfl, rfl, rfl, rfl, rfl, rfl, rfl, rfl, rfl, trivial⟩, trivial⟩ (ins_push rfl rfl rfl rfl) rfl ⟨⟨rfl, rfl⟩, rfl⟩ rfl news_push rfl rfl ?_)
    | ((with_reducible show NextK _ _); refine NextK.mk ⟨k + 1, a.take n' ++ [opOf x], n' + 1, bc', kp', decide (x.kind = 10)⟩ ⟨by show k + 1 ≤ l.length; omega, hA'⟩ (by show l.length - (k + 1) < l.length - k; omega) ⟨⟨rfl, rfl⟩, ⟨rfl, ⟨rfl, ⟨⟨rfl, rfl⟩, trivial⟩, trivial⟩, rfl, rfl, hnext, trivial⟩, ⟨⟨⟨⟨rfl, rfl⟩, trivial, trivial, rfl, trivial⟩, trivial⟩, ok_tab _, ok_tab _, ok_ops _, trivial⟩⟩)) <;> ((with_reducible conv => whnf); (with_reducible conv => congr <;> reduce); repeat ((first | (with_reducible refine HaltK.mk ?_) | (with_reducible refine StopK.mk ?_)); (with_reducible conv => whnf); (with_reducible conv => congr <;> reduce)))
    | ((with_reducible show (_ ∧ _) ∧ _ ∧ _); refine ⟨⟨rfl, rfl⟩, ?_, ?_⟩ <;> (with_reducible conv => whnf) <;> repeat' (first | (with_reducible exact trivial) | (with_reducible refine And.intro ?_ ?_ <;> with_reducible conv => whnf))))
      | false =>
        obtain ⟨n', bc', kp', g1, g2, g3, g4, h20⟩ := f20_stay a n x bc kp ov hB hr ho
        have hA' : AtK l (k + 1) a n' bc' kp' (decide (x.kind = 10)) := hA.step hx hr g4 (by have := hA.le; omega) (by omega) g2 g3
        repeat' (first
    | (first
    | ((with_reducible show IfK _ _ _ _); first | refine IfK.ff ?_ | refine IfK.tt ?_ | refine IfK.no (by first | rfl | assumption | exact nf (by assumption) | exact nt (by assumption) | ((try simp only [castN]); first | (simp []; done) | (simp []; omega))) ?_ | refine IfK.yes (by first | rfl | assumption | exact nf (by assumption) | exact nt (by assumption) | ((try simp only [castN]); first | (simp []; done) | (simp []; omega))) ?_)
    | ((with_reducible show NeedK _ _ _ _); refine NeedK.mk (by (try simp only [castN]); omega) ?_)
    | ((with_reducible show DrawK _ _ _ _); refine DrawK.mk (by kernel_rfl) (by kernel_rfl) (by kernel_rfl) ?_)
    | ((with_reducible show CallK _ _ 20 _ _ _ _); refine CallK.lend (news := [rB 3 n' 1 2 (decide (x.kind = 10)), rA a, rT bc', rT kp']) [0, 3, 1, 2] [] h20 c20 ⟨⟨rfl, rfl⟩, ⟨rfl, rfl, rfl, rfl, rfl, rfl, rfl, rfl, rfl, rfl, rfl, rfl, rfl, trivial⟩, trivial⟩ (ins_book rfl rfl rfl rfl) rfl ⟨⟨rfl, rfl⟩, rfl⟩ rfl news_book rfl rfl ?_)
    | ((with_reducible show NextK _ _); refine NextK.mk ⟨k + 1, a, n', bc', kp', decide (x.kind = 10)⟩ ⟨by show k + 1 ≤ l.length; omega, hA'⟩ (by show l.length - (k + 1) < l.length - k; omega) ⟨⟨rfl, rfl⟩, ⟨rfl, ⟨rfl, ⟨⟨rfl, rfl⟩, trivial⟩, trivial⟩, rfl, rfl, hnext, trivial⟩, ⟨⟨⟨⟨rfl, rfl⟩, trivial, trivial, rfl, trivial⟩, trivial⟩, ok_tab _, ok_tab _, ok_ops _, trivial⟩⟩)) <;> ((with_reducible conv => whnf); (with_reducible conv => congr <;> reduce); repeat ((first | (with_reducible refine HaltK.mk ?_) | (with_reducible refine StopK.mk ?_)); (with_reducible conv => whnf); (with_reducible conv => congr <;> reduce)))
    | ((with_reducible show (_ ∧ _) ∧ _ ∧ _); refine ⟨⟨rfl, rfl⟩, ?_, ?_⟩ <;> (with_reducible conv => whnf) <;> repeat' (first | (with_reducible exact trivial) | (with_reducible refine And.intro ?_ ?_ <;> with_reducible conv => whnf))))
  · have hkl : k = l.length := by
      have : ¬ (k : Int) < (l.length : Int) := by simpa using h1
      omega
    have hrun := hA.run
    rw [hkl, List.take_length] at hrun
    refine ⟨⟨rfl, rfl⟩, ?_, ?_⟩ <;> (with_reducible conv => whnf) <;> repeat' (first | (with_reducible exact trivial) | (with_reducible refine And.intro ?_ ?_ <;> with_reducible conv => whnf))
    all_goals first | exact trivial | exact check_of_run hrun | trace_state
set_option maxHeartbeats 8000000 in
/-- Check -/
theorem f8_ok (l : List MkM) (hl : l.length ≤ 100000) (hd : ∀ x ∈ l, okD x) : FnOK Try.prog 8 [] [eMks l] [] (eInt (checkM book0 0 l)) := by
  refine FnOK.startC (rvs := [.tmp 2]) G G_good Try.func8 rfl Try.ntmps8 rfl rfl ?_; delta List.toArray; ((with_reducible conv => whnf); (with_reducible conv => congr <;> reduce); repeat ((first | (with_reducible refine HaltK.mk ?_) | (with_reducible refine StopK.mk ?_)); (with_reducible conv => whnf); (with_reducible conv => congr <;> reduce)))
  refine CallK.lend (news := [.dead, .dead, .dead]) [70, 41, 51] [] (f19_check l hl hd) c19 ⟨rfl, ⟨rfl, ⟨⟨rfl, rfl⟩, trivial⟩, trivial⟩, trivial⟩ ⟨⟨rfl, .inr ⟨⟨⟨.inl rfl, trivial, trivial, rfl, trivial⟩, trivial⟩, rfl⟩⟩, ⟨rfl, .inl ⟨rfl, rfl⟩⟩, ⟨rfl, .inl ⟨rfl, rfl⟩⟩, trivial⟩ rfl ⟨⟨rfl, rfl⟩, rfl⟩ rfl trivial rfl rfl ?_; ((with_reducible conv => whnf); (with_reducible conv => congr <;> reduce); repeat ((first | (with_reducible refine HaltK.mk ?_) | (with_reducible refine StopK.mk ?_)); (with_reducible conv => whnf); (with_reducible conv => congr <;> reduce)))
  refine ⟨⟨rfl, rfl⟩, ?_, ?_⟩ <;> (with_reducible conv => whnf) <;> repeat' (first | (with_reducible exact trivial) | (with_reducible refine And.intro ?_ ?_ <;> with_reducible conv => whnf))
  all_goals (trace_state)
end Go.Proofs.Audit
end
section
set_option linter.unusedSimpArgs false
set_option linter.unusedVariables false
namespace Go.Proofs.Audit
open Go.Am Go.RowKit Go.Lib
set_option maxRecDepth 100000
theorem calls_snoc {l : List MkM} {k : Nat} {x : MkM} (n kd : Int) (h : l[k]? = some x) : callsM (l.take (k + 1)) n kd = callsM (l.take k) n kd + if isCall n kd x = true then 1 else 0 := by
  rw [take_snoc' h, calls_app]
  congr 1
  unfold callsM
  rw [List.countP_cons]; simp
theorem calls_le (l : List MkM) (n kd : Int) (k : Nat) : callsM (l.take k) n kd ≤ k := by
  unfold callsM
  refine Nat.le_trans List.countP_le_length ?_
  simp; omega
theorem begun_snoc {l : List MkM} {k : Nat} {x : MkM} (h : l[k]? = some x) : begunM (l.take (k + 1)) = begunM (l.take k) ++ if isBegun x = true then [x.node] else [] := by
  rw [take_snoc' h, begun_app]
  congr 1
  unfold begunM
  cases hb : isBegun x <;> simp [hb]
theorem begun_le (l : List MkM) (k : Nat) : (begunM (l.take k)).length ≤ k := by
  unfold begunM
  rw [List.length_map]
  refine Nat.le_trans (List.length_filter_le ..) ?_
  simp; omega
theorem noRef_ints (l : List Int) : noRefL (l.map oInt) = true := by
  rw [noRefL_iff]; intro x hx
  obtain ⟨a, _, rfl⟩ := List.mem_map.1 hx
  rfl
theorem ok_ints {tab : List (Nat × Nat)} {fz : Nat → Bool} {m : ML} {n : Nat} {l : List Int} {rows : List AV} (h : l.map oInt = rows) : ObjK (MF tab fz m n) (l.map oInt) rows := by subst h; exact ⟨.refl (noRef_ints l), noRef_ints l⟩
theorem frz_ints {m : ML} {fz : Nat → Bool} {tab : List (Nat × Nat)} {n t len : Nat} {ro : Bool} {rows : List AV} {l : List Int} (h1 : lkM m t = .live 1 rows ro) (h2 : fz t = true) (h3 : rows = l.map oInt) (h4 : len = l.length) : FrzK m fz (MF tab fz m n) (eInts l) t 0 len := by
  subst h3; subst h4
  have e : (l.map oInt).length = l.length := List.length_map ..
  exact .cut h1 h2 (by omega) (by rw [List.drop_zero, List.take_of_length_le (by omega)]) (noRef_ints l)
theorem oneL_ints (l : List Int) : oneL (flat (l.map oInt)) = true := oneL_map oInt (fun _ => rfl) l
set_option maxHeartbeats 8000000 in
/-- Calls -/
theorem f10_ok (l : List MkM) (hl : l.length ≤ 100000) (n w : Int) : FnOK Try.prog 10 [] [eMks l, eInt n, eInt w] [] (eInt (callsM l n w)) := by
  have hlm : (l.map oMk).length = l.length := List.length_map ..
  refine FnOK.startC (rvs := [.tmp 6]) G G_good Try.func10 rfl Try.ntmps10 rfl rfl ?_; delta List.toArray; ((with_reducible conv => whnf); (with_reducible conv => congr <;> reduce); repeat ((first | (with_reducible refine HaltK.mk ?_) | (with_reducible refine StopK.mk ?_)); (with_reducible conv => whnf); (with_reducible conv => congr <;> reduce)))
  refine LoopK.use G G_good (fun (k : Nat) => [(0, eMks l), (1, eInt n), (2, eInt w), (7, eInt (callsM (l.take k) n w)), (10, eMks l), (11, eInt l.length), (12, eInt k)]) (fun _ => []) (fun k => k ≤ l.length) (fun k => l.length - k) 0 (Nat.zero_le _)
    ⟨⟨rfl, rfl⟩, ⟨rfl, rfl, rfl, rfl, rfl, by show (l.length : Int) = ((l.map oMk).length : Int); rw [hlm], rfl, trivial⟩, trivial⟩ ?_
  intro k hk
  ((with_reducible conv => whnf); (with_reducible conv => congr <;> reduce); repeat ((first | (with_reducible refine HaltK.mk ?_) | (with_reducible refine StopK.mk ?_)); (with_reducible conv => whnf); (with_reducible conv => congr <;> reduce)))
  refine IfK.mk (fun h1 => ?_) (fun h1 => ?_) <;> (try simp only [castN] at h1) <;> ((with_reducible conv => whnf); (with_reducible conv => congr <;> reduce); repeat ((first | (with_reducible refine HaltK.mk ?_) | (with_reducible refine StopK.mk ?_)); (with_reducible conv => whnf); (with_reducible conv => congr <;> reduce)))
  · have hk' : k < l.length := by simp only [decide_eq_true_eq] at h1; omega
    obtain ⟨x, hx⟩ : ∃ x, l[k]? = some x := ⟨_, List.getElem?_eq_getElem hk'⟩
    have hsn := calls_snoc n w hx
    have hle := calls_le l n w k
    have hnext : ((k + 1 : Nat) : Int) = (k : Int) + 1 := by omega
    obtain ⟨kd, dp, nd, wt, er, nm, b1, b2, ol, nw, fr, to, on⟩ := x
    unfold isCall at hsn
    simp only at hsn
    refine IdxK.mk k (eMk ⟨kd, dp, nd, wt, er, nm, b1, b2, ol, nw, fr, to, on⟩) rfl (mk_get hx) ?_; ((with_reducible conv => whnf); (with_reducible conv => congr <;> reduce); repeat ((first | (with_reducible refine HaltK.mk ?_) | (with_reducible refine StopK.mk ?_)); (with_reducible conv => whnf); (with_reducible conv => congr <;> reduce)))
    by_cases e6 : kd = 6
    · by_cases en : nd = n
      · by_cases ew : wt = w
        · have hs : (callsM (l.take (k + 1)) n w : Int) = callsM (l.take k) n w + 1 := by rw [hsn]; simp [e6, en, ew]
          repeat' (first
    | (first
    | ((with_reducible show IfK _ _ _ _); first | refine IfK.ff ?_ | refine IfK.tt ?_ | refine IfK.no (by first | rfl | assumption | exact nf (by assumption) | exact nt (by assumption) | ((try simp only [castN]); first | (simp [e6, eq_true en, eq_true ew]; done) | (simp [e6, eq_true en, eq_true ew]; omega))) ?_ | refine IfK.yes (by first | rfl | assumption | exact nf (by assumption) | exact nt (by assumption) | ((try simp only [castN]); first | (simp [e6, eq_true en, eq_true ew]; done) | (simp [e6, eq_true en, eq_true ew]; omega))) ?_)
    | ((with_reducible show NeedK _ _ _ _); refine NeedK.mk (by (try simp only [castN]); omega) ?_)
    | ((with_reducible show DrawK _ _ _ _); refine DrawK.mk (by kernel_rfl) (by kernel_rfl) (by kernel_rfl) ?_)
    | ((with_reducible show NextK _ _); refine NextK.mk (k + 1) (by omega) (by omega) ⟨⟨rfl, rfl⟩, ⟨rfl, rfl, rfl, hs, rfl, rfl, hnext, trivial⟩, trivial⟩)) <;> ((with_reducible conv => whnf); (with_reducible conv => congr <;> reduce); repeat ((first | (with_reducible refine HaltK.mk ?_) | (with_reducible refine StopK.mk ?_)); (with_reducible conv => whnf); (with_reducible conv => congr <;> reduce)))
    | ((with_reducible show (_ ∧ _) ∧ _ ∧ _); refine ⟨⟨rfl, rfl⟩, ?_, ?_⟩ <;> (with_reducible conv => whnf) <;> repeat' (first | (with_reducible exact trivial) | (with_reducible refine And.intro ?_ ?_ <;> with_reducible conv => whnf))))
        · have hs : (callsM (l.take (k + 1)) n w : Int) = callsM (l.take k) n w := by rw [hsn]; simp [ew]
          repeat' (first
    | (first
    | ((with_reducible show IfK _ _ _ _); first | refine IfK.ff ?_ | refine IfK.tt ?_ | refine IfK.no (by first | rfl | assumption | exact nf (by assumption) | exact nt (by assumption) | ((try simp only [castN]); first | (simp [e6, eq_true en, eq_false ew]; done) | (simp [e6, eq_true en, eq_false ew]; omega))) ?_ | refine IfK.yes (by first | rfl | assumption | exact nf (by assumption) | exact nt (by assumption) | ((try simp only [castN]); first | (simp [e6, eq_true en, eq_false ew]; done) | (simp [e6, eq_true en, eq_false ew]; omega))) ?_)
    | ((with_reducible show NeedK _ _ _ _); refine NeedK.mk (by (try simp only [castN]); omega) ?_)
    | ((with_reducible show DrawK _ _ _ _); refine DrawK.mk (by kernel_rfl) (by kernel_rfl) (by kernel_rfl) ?_)
    | ((with_reducible show NextK _ _); refine NextK.mk (k + 1) (by omega) (by omega) ⟨⟨rfl, rfl⟩, ⟨rfl, rfl, rfl, hs, rfl, rfl, hnext, trivial⟩, trivial⟩)) <;> ((with_reducible conv => whnf); (with_reducible conv => congr <;> reduce); repeat ((first | (with_reducible refine HaltK.mk ?_) | (with_reducible refine StopK.mk ?_)); (with_reducible conv => whnf); (with_reducible conv => congr <;> reduce)))
    | ((with_reducible show (_ ∧ _) ∧ _ ∧ _); refine ⟨⟨rfl, rfl⟩, ?_, ?_⟩ <;> (with_reducible conv => whnf) <;> repeat' (first | (with_reducible exact trivial) | (with_reducible refine And.intro ?_ ?_ <;> with_reducible conv => whnf))))
      · have hs : (callsM (l.take (k + 1)) n w : Int) = callsM (l.take k) n w := by rw [hsn]; simp [en]
        repeat' (first
    | (first
    | ((with_reducible show IfK _ _ _ _); first | refine IfK.ff ?_ | refine IfK.tt ?_ | refine IfK.no (by first | rfl | assumption | exact nf (by assumption) | exact nt (by assumption) | ((try simp only [castN]); first | (simp [e6, eq_false en]; done) | (simp [e6, eq_false en]; omega))) ?_ | refine IfK.yes (by first | rfl | assumption | exact nf (by assumption) | exact nt (by assumption) | ((try simp only [castN]); first | (simp [e6, eq_false en]; done) | (simp [e6, eq_false en]; omega))) ?_)
    | ((with_reducible show NeedK _ _ _ _); refine NeedK.mk (by (try simp only [castN]); omega) ?_)
    | ((with_reducible show DrawK _ _ _ _); refine DrawK.mk (by kernel_rfl) (by kernel_rfl) (by kernel_rfl) ?_)
    | ((with_reducible show NextK _ _); refine NextK.mk (k + 1) (by omega) (by omega) ⟨⟨rfl, rfl⟩, ⟨rfl, rfl, rfl, hs, rfl, rfl, hnext, trivial⟩, trivial⟩)) <;> ((with_reducible conv => whnf); (with_reducible conv => congr <;> reduce); repeat ((first | (with_reducible refine HaltK.mk ?_) | (with_reducible refine StopK.mk ?_)); (with_reducible conv => whnf); (with_reducible conv => congr <;> reduce)))
    | ((with_reducible show (_ ∧ _) ∧ _ ∧ _); refine ⟨⟨rfl, rfl⟩, ?_, ?_⟩ <;> (with_reducible conv => whnf) <;> repeat' (first | (with_reducible exact trivial) | (with_reducible refine And.intro ?_ ?_ <;> with_reducible conv => whnf))))
    · have hs : (callsM (l.take (k + 1)) n w : Int) = callsM (l.take k) n w := by rw [hsn]; simp [e6]
      repeat' (first
    | (first
    | ((with_reducible show IfK _ _ _ _); first | refine IfK.ff ?_ | refine IfK.tt ?_ | refine IfK.no (by first | rfl | assumption | exact nf (by assumption) | exact nt (by assumption) | ((try simp only [castN]); first | (simp [eq_false e6]; done) | (simp [eq_false e6]; omega))) ?_ | refine IfK.yes (by first | rfl | assumption | exact nf (by assumption) | exact nt (by assumption) | ((try simp only [castN]); first | (simp [eq_false e6]; done) | (simp [eq_false e6]; omega))) ?_)
    | ((with_reducible show NeedK _ _ _ _); refine NeedK.mk (by (try simp only [castN]); omega) ?_)
    | ((with_reducible show DrawK _ _ _ _); refine DrawK.mk (by kernel_rfl) (by kernel_rfl) (by kernel_rfl) ?_)
    | ((with_reducible show NextK _ _); refine NextK.mk (k + 1) (by omega) (by omega) ⟨⟨rfl, rfl⟩, ⟨rfl, rfl, rfl, hs, rfl, rfl, hnext, trivial⟩, trivial⟩)) <;> ((with_reducible conv => whnf); (with_reducible conv => congr <;> reduce); repeat ((first | (with_reducible refine HaltK.mk ?_) | (with_reducible refine StopK.mk ?_)); (with_reducible conv => whnf); (with_reducible conv => congr <;> reduce)))
    | ((with_reducible show (_ ∧ _) ∧ _ ∧ _); refine ⟨⟨rfl, rfl⟩, ?_, ?_⟩ <;> (with_reducible conv => whnf) <;> repeat' (first | (with_reducible exact trivial) | (with_reducible refine And.intro ?_ ?_ <;> with_reducible conv => whnf))))
  · have hkl : k = l.length := by
      have : ¬ (k : Int) < (l.length : Int) := by simpa using h1
      omega
    refine ⟨⟨rfl, rfl⟩, ?_, ?_⟩ <;> (with_reducible conv => whnf) <;> repeat' (first | (with_reducible exact trivial) | (with_reducible refine And.intro ?_ ?_ <;> with_reducible conv => whnf))
    all_goals (rw [hkl, List.take_length])
set_option maxHeartbeats 8000000 in
/-- ref.Calls -/
theorem f11_ok (l : List MkM) (hl : l.length ≤ 100000) (n w : Int) : FnOK Try.prog 11 [] [eMks l, eInt n, eInt w] [] (eInt (callsM l n w)) := by
  have hlm : (l.map oMk).length = l.length := List.length_map ..
  refine FnOK.startC (rvs := [.tmp 6]) G G_good Try.func11 rfl Try.ntmps11 rfl rfl ?_; delta List.toArray; ((with_reducible conv => whnf); (with_reducible conv => congr <;> reduce); repeat ((first | (with_reducible refine HaltK.mk ?_) | (with_reducible refine StopK.mk ?_)); (with_reducible conv => whnf); (with_reducible conv => congr <;> reduce)))
  refine LoopK.use G G_good (fun (k : Nat) => [(0, eMks l), (1, eInt n), (2, eInt w), (7, eInt (callsM (l.take k) n w)), (8, eInt k)]) (fun _ => []) (fun k => k ≤ l.length) (fun k => l.length - k) 0 (Nat.zero_le _)
    ⟨⟨rfl, rfl⟩, ⟨rfl, rfl, rfl, rfl, rfl, trivial⟩, trivial⟩ ?_
  intro k hk
  ((with_reducible conv => whnf); (with_reducible conv => congr <;> reduce); repeat ((first | (with_reducible refine HaltK.mk ?_) | (with_reducible refine StopK.mk ?_)); (with_reducible conv => whnf); (with_reducible conv => congr <;> reduce)))
  refine IfK.mk (fun h1 => ?_) (fun h1 => ?_) <;> (try simp only [castN] at h1) <;> ((with_reducible conv => whnf); (with_reducible conv => congr <;> reduce); repeat ((first | (with_reducible refine HaltK.mk ?_) | (with_reducible refine StopK.mk ?_)); (with_reducible conv => whnf); (with_reducible conv => congr <;> reduce)))
  · have hk' : k < l.length := by simp only [decide_eq_true_eq, hlm] at h1; omega
    obtain ⟨x, hx⟩ : ∃ x, l[k]? = some x := ⟨_, List.getElem?_eq_getElem hk'⟩
    have hsn := calls_snoc n w hx
    have hle := calls_le l n w k
    have hnext : ((k + 1 : Nat) : Int) = (k : Int) + 1 := by omega
    obtain ⟨kd, dp, nd, wt, er, nm, b1, b2, ol, nw, fr, to, on⟩ := x
    unfold isCall at hsn
    simp only at hsn
    refine IdxK.mk k (eMk ⟨kd, dp, nd, wt, er, nm, b1, b2, ol, nw, fr, to, on⟩) rfl (mk_get hx) ?_; ((with_reducible conv => whnf); (with_reducible conv => congr <;> reduce); repeat ((first | (with_reducible refine HaltK.mk ?_) | (with_reducible refine StopK.mk ?_)); (with_reducible conv => whnf); (with_reducible conv => congr <;> reduce)))
    by_cases e6 : kd = 6
    · by_cases en : nd = n
      · by_cases ew : wt = w
        · have hs : (callsM (l.take (k + 1)) n w : Int) = callsM (l.take k) n w + 1 := by rw [hsn]; simp [e6, en, ew]
          repeat' (first
    | (first
    | ((with_reducible show IfK _ _ _ _); first | refine IfK.ff ?_ | refine IfK.tt ?_ | refine IfK.no (by first | rfl | assumption | exact nf (by assumption) | exact nt (by assumption) | ((try simp only [castN]); first | (simp [e6, eq_true en, eq_true ew]; done) | (simp [e6, eq_true en, eq_true ew]; omega))) ?_ | refine IfK.yes (by first | rfl | assumption | exact nf (by assumption) | exact nt (by assumption) | ((try simp only [castN]); first | (simp [e6, eq_true en, eq_true ew]; done) | (simp [e6, eq_true en, eq_true ew]; omega))) ?_)
    | ((with_reducible show NeedK _ _ _ _); refine NeedK.mk (by (try simp only [castN]); omega) ?_)
    | ((with_reducible show DrawK _ _ _ _); refine DrawK.mk (by kernel_rfl) (by kernel_rfl) (by kernel_rfl) ?_)
    | ((with_reducible show IdxK _ _ _ _ _); refine IdxK.mk k (eMk ⟨kd, dp, nd, wt, er, nm, b1, b2, ol, nw, fr, to, on⟩) rfl (mk_get hx) ?_)
    | ((with_reducible show NextK _ _); refine NextK.mk (k + 1) (by omega) (by omega) ⟨⟨rfl, rfl⟩, ⟨rfl, rfl, rfl, hs, hnext, trivial⟩, trivial⟩)) <;> ((with_reducible conv => whnf); (with_reducible conv => congr <;> reduce); repeat ((first | (with_reducible refine HaltK.mk ?_) | (with_reducible refine StopK.mk ?_)); (with_reducible conv => whnf); (with_reducible conv => congr <;> reduce)))
    | ((with_reducible show (_ ∧ _) ∧ _ ∧ _); refine ⟨⟨rfl, rfl⟩, ?_, ?_⟩ <;> (with_reducible conv => whnf) <;> repeat' (first | (with_reducible exact trivial) | (with_reducible refine And.intro ?_ ?_ <;> with_reducible conv => whnf))))
        · have hs : (callsM (l.take (k + 1)) n w : Int) = callsM (l.take k) n w := by rw [hsn]; simp [ew]
          repeat' (first
    | (first
    | ((with_reducible show IfK _ _ _ _); first | refine IfK.ff ?_ | refine IfK.tt ?_ | refine IfK.no (by first | rfl | assumption | exact nf (by assumption) | exact nt (by assumption) | ((try simp only [castN]); first | (simp [e6, eq_true en, eq_false ew]; done) | (simp [e6, eq_true en, eq_false ew]; omega))) ?_ | refine IfK.yes (by first | rfl | assumption | exact nf (by assumption) | exact nt (by assumption) | ((try simp only [castN]); first | (simp [e6, eq_true en, eq_false ew]; done) | (simp [e6, eq_true en, eq_false ew]; omega))) ?_)
    | ((with_reducible show NeedK _ _ _ _); refine NeedK.mk (by (try simp only [castN]); omega) ?_)
    | ((with_reducible show DrawK _ _ _ _); refine DrawK.mk (by kernel_rfl) (by kernel_rfl) (by kernel_rfl) ?_)
    | ((with_reducible show IdxK _ _ _ _ _); refine IdxK.mk k (eMk ⟨kd, dp, nd, wt, er, nm, b1, b2, ol, nw, fr, to, on⟩) rfl (mk_get hx) ?_)
    | ((with_reducible show NextK _ _); refine NextK.mk (k + 1) (by omega) (by omega) ⟨⟨rfl, rfl⟩, ⟨rfl, rfl, rfl, hs, hnext, trivial⟩, trivial⟩)) <;> ((with_reducible conv => whnf); (with_reducible conv => congr <;> reduce); repeat ((first | (with_reducible refine HaltK.mk ?_) | (with_reducible refine StopK.mk ?_)); (with_reducible conv => whnf); (with_reducible conv => congr <;> reduce)))
    | ((with_reducible show (_ ∧ _) ∧ _ ∧ _); refine ⟨⟨rfl, rfl⟩, ?_, ?_⟩ <;> (with_reducible conv => whnf) <;> repeat' (first | (with_reducible exact trivial) | (with_reducible refine And.intro ?_ ?_ <;> with_reducible conv => whnf))))
      · have hs : (callsM (l.take (k + 1)) n w : Int) = callsM (l.take k) n w := by rw [hsn]; simp [en]
        repeat' (first
    | (first
    | ((with_reducible show IfK _ _ _ _); first | refine IfK.ff ?_ | refine IfK.tt ?_ | refine IfK.no (by first | rfl | assumption | exact nf (by assumption) | exact nt (by assumption) | ((try simp only [castN]); first | (simp [e6, eq_false en]; done) | (simp [e6, eq_false en]; omega))) ?_ | refine IfK.yes (by first | rfl | assumption | exact nf (by assumption) | exact nt (by assumption) | ((try simp only [castN]); first | (simp [e6, eq_false en]; done) | (simp [e6, eq_false en]; omega))) ?_)
    | ((with_reducible show NeedK _ _ _ _); refine NeedK.mk (by (try simp only [castN]); omega) ?_)
    | ((with_reducible show DrawK _ _ _ _); refine DrawK.mk (by kernel_rfl) (by kernel_rfl) (by kernel_rfl) ?_)
    | ((with_reducible show IdxK _ _ _ _ _); refine IdxK.mk k (eMk ⟨kd, dp, nd, wt, er, nm, b1, b2, ol, nw, fr, to, on⟩) rfl (mk_get hx) ?_)
    | ((with_reducible show NextK _ _); refine NextK.mk (k + 1) (by omega) (by omega) ⟨⟨rfl, rfl⟩, ⟨rfl, rfl, rfl, hs, hnext, trivial⟩, trivial⟩)) <;> ((with_reducible conv => whnf); (with_reducible conv => congr <;> reduce); repeat ((first | (with_reducible refine HaltK.mk ?_) | (with_reducible refine StopK.mk ?_)); (with_reducible conv => whnf); (with_reducible conv => congr <;> reduce)))
    | ((with_reducible show (_ ∧ _) ∧ _ ∧ _); refine ⟨⟨rfl, rfl⟩, ?_, ?_⟩ <;> (with_reducible conv => whnf) <;> repeat' (first | (with_reducible exact trivial) | (with_reducible refine And.intro ?_ ?_ <;> with_reducible conv => whnf))))
    · have hs : (callsM (l.take (k + 1)) n w : Int) = callsM (l.take k) n w := by rw [hsn]; simp [e6]
      repeat' (first
    | (first
    | ((with_reducible show IfK _ _ _ _); first | refine IfK.ff ?_ | refine IfK.tt ?_ | refine IfK.no (by first | rfl | assumption | exact nf (by assumption) | exact nt (by assumption) | ((try simp only [castN]); first | (simp [eq_false e6]; done) | (simp [eq_false e6]; omega))) ?_ | refine IfK.yes (by first | rfl | assumption | exact nf (by assumption) | exact nt (by assumption) | ((try simp only [castN]); first | (simp [eq_false e6]; done) | (simp [eq_false e6]; omega))) ?_)
    | ((with_reducible show NeedK _ _ _ _); refine NeedK.mk (by (try simp only [castN]); omega) ?_)
    | ((with_reducible show DrawK _ _ _ _); refine DrawK.mk (by kernel_rfl) (by kernel_rfl) (by kernel_rfl) ?_)
    | ((with_reducible show NextK _ _); refine NextK.mk (k + 1) (by omega) (by omega) ⟨⟨rfl, rfl⟩, ⟨rfl, rfl, rfl, hs, hnext, trivial⟩, trivial⟩)) <;> ((with_reducible conv => whnf); (with_reducible conv => congr <;> reduce); repeat ((first | (with_reducible refine HaltK.mk ?_) | (with_reducible refine StopK.mk ?_)); (with_reducible conv => whnf); (with_reducible conv => congr <;> reduce)))
    | ((with_reducible show (_ ∧ _) ∧ _ ∧ _); refine ⟨⟨rfl, rfl⟩, ?_, ?_⟩ <;> (with_reducible conv => whnf) <;> repeat' (first | (with_reducible exact trivial) | (with_reducible refine And.intro ?_ ?_ <;> with_reducible conv => whnf))))
  · have hkl : k = l.length := by
      have : ¬ (k : Int) < (l.length : Int) := by simpa using h1
      omega
    refine ⟨⟨rfl, rfl⟩, ?_, ?_⟩ <;> (with_reducible conv => whnf) <;> repeat' (first | (with_reducible exact trivial) | (with_reducible refine And.intro ?_ ?_ <;> with_reducible conv => whnf))
    all_goals (rw [hkl, List.take_length])
end Go.Proofs.Audit
end
section
set_option linter.unusedSimpArgs false
set_option linter.unusedVariables false
namespace Go.Proofs.Audit
open Go.Am Go.RowKit Go.Lib
set_option maxRecDepth 100000
set_option maxHeartbeats 8000000 in
/-- Begun -/
theorem f13_ok (l : List MkM) (hl : l.length ≤ 100000) : FnOK Try.prog 13 [] [eMks l] [] (eInts (begunM l)) := by
  have hlm : (l.map oMk).length = l.length := List.length_map ..
  refine FnOK.startC (rvs := [.tmp 2]) G G_good Try.func13 rfl Try.ntmps13 rfl rfl ?_; delta List.toArray; ((with_reducible conv => whnf); (with_reducible conv => congr <;> reduce); repeat ((first | (with_reducible refine HaltK.mk ?_) | (with_reducible refine StopK.mk ?_)); (with_reducible conv => whnf); (with_reducible conv => congr <;> reduce)))
  refine LoopK.ghost 3 31 1 rfl rfl ?_
  refine LoopK.use G G_good (fun (k : Nat) => [(0, eMks l), (3, .own 31 0 (begunM (l.take k)).length), (6, eMks l), (7, eInt l.length), (8, eInt k)]) (fun k => [(31, .live 1 ((begunM (l.take k)).map oInt) false)]) (fun k => k ≤ l.length) (fun k => l.length - k) 0 (Nat.zero_le _)
    ⟨⟨rfl, rfl⟩, ⟨rfl, ⟨rfl, rfl⟩, rfl, by show (l.length : Int) = ((l.map oMk).length : Int); rw [hlm], rfl, trivial⟩, ok_ints rfl, trivial⟩ ?_
  intro k hk
  ((with_reducible conv => whnf); (with_reducible conv => congr <;> reduce); repeat ((first | (with_reducible refine HaltK.mk ?_) | (with_reducible refine StopK.mk ?_)); (with_reducible conv => whnf); (with_reducible conv => congr <;> reduce)))
  refine IfK.mk (fun h1 => ?_) (fun h1 => ?_) <;> (try simp only [castN] at h1) <;> ((with_reducible conv => whnf); (with_reducible conv => congr <;> reduce); repeat ((first | (with_reducible refine HaltK.mk ?_) | (with_reducible refine StopK.mk ?_)); (with_reducible conv => whnf); (with_reducible conv => congr <;> reduce)))
  · have hk' : k < l.length := by simp only [decide_eq_true_eq] at h1; omega
    obtain ⟨x, hx⟩ : ∃ x, l[k]? = some x := ⟨_, List.getElem?_eq_getElem hk'⟩
    have hsn := begun_snoc hx
    have hle := begun_le l k
    have hnext : ((k + 1 : Nat) : Int) = (k : Int) + 1 := by omega
    obtain ⟨kd, dp, nd, wt, er, nm, b1, b2, ol, nw, fr, to, on⟩ := x
    unfold isBegun at hsn
    simp only at hsn
    refine IdxK.mk k (eMk ⟨kd, dp, nd, wt, er, nm, b1, b2, ol, nw, fr, to, on⟩) rfl (mk_get hx) ?_; ((with_reducible conv => whnf); (with_reducible conv => congr <;> reduce); repeat ((first | (with_reducible refine HaltK.mk ?_) | (with_reducible refine StopK.mk ?_)); (with_reducible conv => whnf); (with_reducible conv => congr <;> reduce)))
    obtain ⟨g, hg⟩ : ∃ g, begunM (l.take k) = g := ⟨_, rfl⟩
    rw [hg] at hsn hle ⊢
    have hgl : (g.map oInt).length = g.length := List.length_map ..
    by_cases e3 : kd = 3
    · by_cases en : nd = -1
      · have hs : begunM (l.take (k + 1)) = g := by rw [hsn]; simp [en]
        repeat' (first
    | (first
    | ((with_reducible show IfK _ _ _ _); first | refine IfK.ff ?_ | refine IfK.tt ?_ | refine IfK.no (by first | rfl | assumption | exact nf (by assumption) | exact nt (by assumption) | ((try simp only [castN]); first | (simp [e3, eq_true en]; done) | (simp [e3, eq_true en]; omega))) ?_ | refine IfK.yes (by first | rfl | assumption | exact nf (by assumption) | exact nt (by assumption) | ((try simp only [castN]); first | (simp [e3, eq_true en]; done) | (simp [e3, eq_true en]; omega))) ?_)
    | ((with_reducible show NeedK _ _ _ _); refine NeedK.mk (by (try simp only [castN]); omega) ?_)
    | ((with_reducible show DrawK _ _ _ _); refine DrawK.mk (by kernel_rfl) (by kernel_rfl) (by kernel_rfl) ?_)
    | ((with_reducible show NextK _ _); refine NextK.mk (k + 1) (by omega) (by omega) ⟨⟨rfl, rfl⟩, ⟨rfl, ⟨rfl, by rw [hs]⟩, rfl, rfl, hnext, trivial⟩, ok_ints (by rw [hs]), trivial⟩)) <;> ((with_reducible conv => whnf); (with_reducible conv => congr <;> reduce); repeat ((first | (with_reducible refine HaltK.mk ?_) | (with_reducible refine StopK.mk ?_)); (with_reducible conv => whnf); (with_reducible conv => congr <;> reduce)))
    | ((with_reducible show (_ ∧ _) ∧ _ ∧ _); refine ⟨⟨rfl, rfl⟩, ?_, ?_⟩ <;> (with_reducible conv => whnf) <;> repeat' (first | (with_reducible exact trivial) | (with_reducible refine And.intro ?_ ?_ <;> with_reducible conv => whnf))))
      · have hs : begunM (l.take (k + 1)) = g ++ [nd] := by rw [hsn]; simp [e3, en]
        repeat' (first
    | (first
    | ((with_reducible show IfK _ _ _ _); first | refine IfK.ff ?_ | refine IfK.tt ?_ | refine IfK.no (by first | rfl | assumption | exact nf (by assumption) | exact nt (by assumption) | ((try simp only [castN]); first | (simp [e3, eq_false en]; done) | (simp [e3, eq_false en]; omega))) ?_ | refine IfK.yes (by first | rfl | assumption | exact nf (by assumption) | exact nt (by assumption) | ((try simp only [castN]); first | (simp [e3, eq_false en]; done) | (simp [e3, eq_false en]; omega))) ?_)
    | ((with_reducible show NeedK _ _ _ _); refine NeedK.mk (by (try simp only [castN]); omega) ?_)
    | ((with_reducible show DrawK _ _ _ _); refine DrawK.mk (by kernel_rfl) (by kernel_rfl) (by kernel_rfl) ?_)
    | ((with_reducible show AppK _ _ _ _ _ _ _ _ _ _); refine AppK.mk (g.map oInt) [eInt nd] ⟨rfl, hgl.symm, rfl⟩ ⟨rfl, rfl, rfl⟩ rfl (by simp; omega) (by simp; omega) ?_)
    | ((with_reducible show NextK _ _); refine NextK.mk (k + 1) (by omega) (by omega) ⟨⟨rfl, rfl⟩, ⟨rfl, ⟨rfl, by rw [hs]; simp⟩, rfl, rfl, hnext, trivial⟩, ok_ints (by rw [hs]; simp [oInt]), trivial⟩)) <;> ((with_reducible conv => whnf); (with_reducible conv => congr <;> reduce); repeat ((first | (with_reducible refine HaltK.mk ?_) | (with_reducible refine StopK.mk ?_)); (with_reducible conv => whnf); (with_reducible conv => congr <;> reduce)))
    | ((with_reducible show (_ ∧ _) ∧ _ ∧ _); refine ⟨⟨rfl, rfl⟩, ?_, ?_⟩ <;> (with_reducible conv => whnf) <;> repeat' (first | (with_reducible exact trivial) | (with_reducible refine And.intro ?_ ?_ <;> with_reducible conv => whnf))))
    · have hs : begunM (l.take (k + 1)) = g := by rw [hsn]; simp [e3]
      repeat' (first
    | (first
    | ((with_reducible show IfK _ _ _ _); first | refine IfK.ff ?_ | refine IfK.tt ?_ | refine IfK.no (by first | rfl | assumption | exact nf (by assumption) | exact nt (by assumption) | ((try simp only [castN]); first | (simp [eq_false e3]; done) | (simp [eq_false e3]; omega))) ?_ | refine IfK.yes (by first | rfl | assumption | exact nf (by assumption) | exact nt (by assumption) | ((try simp only [castN]); first | (simp [eq_false e3]; done) | (simp [eq_false e3]; omega))) ?_)
    | ((with_reducible show NeedK _ _ _ _); refine NeedK.mk (by (try simp only [castN]); omega) ?_)
    | ((with_reducible show DrawK _ _ _ _); refine DrawK.mk (by kernel_rfl) (by kernel_rfl) (by kernel_rfl) ?_)
    | ((with_reducible show NextK _ _); refine NextK.mk (k + 1) (by omega) (by omega) ⟨⟨rfl, rfl⟩, ⟨rfl, ⟨rfl, by rw [hs]⟩, rfl, rfl, hnext, trivial⟩, ok_ints (by rw [hs]), trivial⟩)) <;> ((with_reducible conv => whnf); (with_reducible conv => congr <;> reduce); repeat ((first | (with_reducible refine HaltK.mk ?_) | (with_reducible refine StopK.mk ?_)); (with_reducible conv => whnf); (with_reducible conv => congr <;> reduce)))
    | ((with_reducible show (_ ∧ _) ∧ _ ∧ _); refine ⟨⟨rfl, rfl⟩, ?_, ?_⟩ <;> (with_reducible conv => whnf) <;> repeat' (first | (with_reducible exact trivial) | (with_reducible refine And.intro ?_ ?_ <;> with_reducible conv => whnf))))
  · have hkl : k = l.length := by
      have : ¬ (k : Int) < (l.length : Int) := by simpa using h1
      omega
    subst hkl
    rw [List.take_length]
    refine ⟨⟨rfl, rfl⟩, ?_, ?_⟩ <;> (with_reducible conv => whnf) <;> repeat' (first | (with_reducible exact trivial) | (with_reducible refine And.intro ?_ ?_ <;> with_reducible conv => whnf))
    all_goals first | exact frz_ints rfl rfl rfl rfl | trace_state
set_option maxHeartbeats 8000000 in
/-- ref.Begun -/
theorem f14_ok (l : List MkM) (hl : l.length ≤ 100000) : FnOK Try.prog 14 [] [eMks l] [] (eInts (begunM l)) := by
  have hlm : (l.map oMk).length = l.length := List.length_map ..
  refine FnOK.startC (rvs := [.tmp 2]) G G_good Try.func14 rfl Try.ntmps14 rfl rfl ?_; delta List.toArray; ((with_reducible conv => whnf); (with_reducible conv => congr <;> reduce); repeat ((first | (with_reducible refine HaltK.mk ?_) | (with_reducible refine StopK.mk ?_)); (with_reducible conv => whnf); (with_reducible conv => congr <;> reduce)))
  refine LoopK.ghost 3 31 1 rfl rfl ?_
  refine LoopK.use G G_good (fun (k : Nat) => [(0, eMks l), (3, .own 31 0 (begunM (l.take k)).length), (4, eInt k)]) (fun k => [(31, .live 1 ((begunM (l.take k)).map oInt) false)]) (fun k => k ≤ l.length) (fun k => l.length - k) 0 (Nat.zero_le _)
    ⟨⟨rfl, rfl⟩, ⟨rfl, ⟨rfl, rfl⟩, rfl, trivial⟩, ok_ints rfl, trivial⟩ ?_
  intro k hk
  ((with_reducible conv => whnf); (with_reducible conv => congr <;> reduce); repeat ((first | (with_reducible refine HaltK.mk ?_) | (with_reducible refine StopK.mk ?_)); (with_reducible conv => whnf); (with_reducible conv => congr <;> reduce)))
  refine IfK.mk (fun h1 => ?_) (fun h1 => ?_) <;> (try simp only [castN] at h1) <;> ((with_reducible conv => whnf); (with_reducible conv => congr <;> reduce); repeat ((first | (with_reducible refine HaltK.mk ?_) | (with_reducible refine StopK.mk ?_)); (with_reducible conv => whnf); (with_reducible conv => congr <;> reduce)))
  · have hk' : k < l.length := by simp only [decide_eq_true_eq, hlm] at h1; omega
    obtain ⟨x, hx⟩ : ∃ x, l[k]? = some x := ⟨_, List.getElem?_eq_getElem hk'⟩
    have hsn := begun_snoc hx
    have hle := begun_le l k
    have hnext : ((k + 1 : Nat) : Int) = (k : Int) + 1 := by omega
    obtain ⟨kd, dp, nd, wt, er, nm, b1, b2, ol, nw, fr, to, on⟩ := x
    unfold isBegun at hsn
    simp only at hsn
    refine IdxK.mk k (eMk ⟨kd, dp, nd, wt, er, nm, b1, b2, ol, nw, fr, to, on⟩) rfl (mk_get hx) ?_; ((with_reducible conv => whnf); (with_reducible conv => congr <;> reduce); repeat ((first | (with_reducible refine HaltK.mk ?_) | (with_reducible refine StopK.mk ?_)); (with_reducible conv => whnf); (with_reducible conv => congr <;> reduce)))
    obtain ⟨g, hg⟩ : ∃ g, begunM (l.take k) = g := ⟨_, rfl⟩
    rw [hg] at hsn hle ⊢
    have hgl : (g.map oInt).length = g.length := List.length_map ..
    by_cases e3 : kd = 3
    · by_cases en : nd = -1
      · have hs : begunM (l.take (k + 1)) = g := by rw [hsn]; simp [en]
        repeat' (first
    | (first
    | ((with_reducible show IfK _ _ _ _); first | refine IfK.ff ?_ | refine IfK.tt ?_ | refine IfK.no (by first | rfl | assumption | exact nf (by assumption) | exact nt (by assumption) | ((try simp only [castN]); first | (simp [e3, eq_true en]; done) | (simp [e3, eq_true en]; omega))) ?_ | refine IfK.yes (by first | rfl | assumption | exact nf (by assumption) | exact nt (by assumption) | ((try simp only [castN]); first | (simp [e3, eq_true en]; done) | (simp [e3, eq_true en]; omega))) ?_)
    | ((with_reducible show NeedK _ _ _ _); refine NeedK.mk (by (try simp only [castN]); omega) ?_)
    | ((with_reducible show DrawK _ _ _ _); refine DrawK.mk (by kernel_rfl) (by kernel_rfl) (by kernel_rfl) ?_)
    | ((with_reducible show IdxK _ _ _ _ _); refine IdxK.mk k (eMk ⟨kd, dp, nd, wt, er, nm, b1, b2, ol, nw, fr, to, on⟩) rfl (mk_get hx) ?_)
    | ((with_reducible show NextK _ _); refine NextK.mk (k + 1) (by omega) (by omega) ⟨⟨rfl, rfl⟩, ⟨rfl, ⟨rfl, by rw [hs]⟩, hnext, trivial⟩, ok_ints (by rw [hs]), trivial⟩)) <;> ((with_reducible conv => whnf); (with_reducible conv => congr <;> reduce); repeat ((first | (with_reducible refine HaltK.mk ?_) | (with_reducible refine StopK.mk ?_)); (with_reducible conv => whnf); (with_reducible conv => congr <;> reduce)))
    | ((with_reducible show (_ ∧ _) ∧ _ ∧ _); refine ⟨⟨rfl, rfl⟩, ?_, ?_⟩ <;> (with_reducible conv => whnf) <;> repeat' (first | (with_reducible exact trivial) | (with_reducible refine And.intro ?_ ?_ <;> with_reducible conv => whnf))))
      · have hs : begunM (l.take (k + 1)) = g ++ [nd] := by rw [hsn]; simp [e3, en]
        repeat' (first
    | (first
    | ((with_reducible show IfK _ _ _ _); first | refine IfK.ff ?_ | refine IfK.tt ?_ | refine IfK.no (by first | rfl | assumption | exact nf (by assumption) | exact nt (by assumption) | ((try simp only [castN]); first | (simp [e3, eq_false en]; done) | (simp [e3, eq_false en]; omega))) ?_ | refine IfK.yes (by first | rfl | assumption | exact nf (by assumption) | exact nt (by assumption) | ((try simp only [castN]); first | (simp [e3, eq_false en]; done) | (simp [e3, eq_false en]; omega))) ?_)
    | ((with_reducible show NeedK _ _ _ _); refine NeedK.mk (by (try simp only [castN]); omega) ?_)
    | ((with_reducible show DrawK _ _ _ _); refine DrawK.mk (by kernel_rfl) (by kernel_rfl) (by kernel_rfl) ?_)
    | ((with_reducible show IdxK _ _ _ _ _); refine IdxK.mk k (eMk ⟨kd, dp, nd, wt, er, nm, b1, b2, ol, nw, fr, to, on⟩) rfl (mk_get hx) ?_)
    | ((with_reducible show AppK _ _ _ _ _ _ _ _ _ _); refine AppK.mk (g.map oInt) [eInt nd] ⟨rfl, hgl.symm, rfl⟩ ⟨rfl, rfl, rfl⟩ rfl (by simp; omega) (by simp; omega) ?_)
    | ((with_reducible show NextK _ _); refine NextK.mk (k + 1) (by omega) (by omega) ⟨⟨rfl, rfl⟩, ⟨rfl, ⟨rfl, by rw [hs]; simp⟩, hnext, trivial⟩, ok_ints (by rw [hs]; simp [oInt]), trivial⟩)) <;> ((with_reducible conv => whnf); (with_reducible conv => congr <;> reduce); repeat ((first | (with_reducible refine HaltK.mk ?_) | (with_reducible refine StopK.mk ?_)); (with_reducible conv => whnf); (with_reducible conv => congr <;> reduce)))
    | ((with_reducible show (_ ∧ _) ∧ _ ∧ _); refine ⟨⟨rfl, rfl⟩, ?_, ?_⟩ <;> (with_reducible conv => whnf) <;> repeat' (first | (with_reducible exact trivial) | (with_reducible refine And.intro ?_ ?_ <;> with_reducible conv => whnf))))
    · have hs : begunM (l.take (k + 1)) = g := by rw [hsn]; simp [e3]
      repeat' (first
    | (first
    | ((with_reducible show IfK _ _ _ _); first | refine IfK.ff ?_ | refine IfK.tt ?_ | refine IfK.no (by first | rfl | assumption | exact nf (by assumption) | exact nt (by assumption) | ((try simp only [castN]); first | (simp [eq_false e3]; done) | (simp [eq_false e3]; omega))) ?_ | refine IfK.yes (by first | rfl | assumption | exact nf (by assumption) | exact nt (by assumption) | ((try simp only [castN]); first | (simp [eq_false e3]; done) | (simp [eq_false e3]; omega))) ?_)
    | ((with_reducible show NeedK _ _ _ _); refine NeedK.mk (by (try simp only [castN]); omega) ?_)
    | ((with_reducible show DrawK _ _ _ _); refine DrawK.mk (by kernel_rfl) (by kernel_rfl) (by kernel_rfl) ?_)
    | ((with_reducible show NextK _ _); refine NextK.mk (k + 1) (by omega) (by omega) ⟨⟨rfl, rfl⟩, ⟨rfl, ⟨rfl, by rw [hs]⟩, hnext, trivial⟩, ok_ints (by rw [hs]), trivial⟩)) <;> ((with_reducible conv => whnf); (with_reducible conv => congr <;> reduce); repeat ((first | (with_reducible refine HaltK.mk ?_) | (with_reducible refine StopK.mk ?_)); (with_reducible conv => whnf); (with_reducible conv => congr <;> reduce)))
    | ((with_reducible show (_ ∧ _) ∧ _ ∧ _); refine ⟨⟨rfl, rfl⟩, ?_, ?_⟩ <;> (with_reducible conv => whnf) <;> repeat' (first | (with_reducible exact trivial) | (with_reducible refine And.intro ?_ ?_ <;> with_reducible conv => whnf))))
  · have hkl : k = l.length := by
      have : ¬ (k : Int) < (l.length : Int) := by simpa using h1
      omega
    subst hkl
    rw [List.take_length]
    refine ⟨⟨rfl, rfl⟩, ?_, ?_⟩ <;> (with_reducible conv => whnf) <;> repeat' (first | (with_reducible exact trivial) | (with_reducible refine And.intro ?_ ?_ <;> with_reducible conv => whnf))
    all_goals first | exact frz_ints rfl rfl rfl rfl | trace_state
def ixI {α : Type} (p : α → Bool) (l : List α) : Int := match l.findIdx? p with
  | some k => (k : Int)
  | none => -1
set_option maxHeartbeats 8000000 in
/-- IndexFunc, of Became's question -/
theorem f19_became (l : List MkM) (hl : l.length ≤ 100000) (n : Int) : FnOK Try.prog 19 [] [eMks l, .clo (.func 25) [] [.fptr (eInt n) 0]] [] (eInt (ixI (isBecame n) l)) := by
  have hlm : (l.map oMk).length = l.length := List.length_map ..
  refine FnOK.startC (rvs := [.tmp 4]) G G_good Try.func19 rfl Try.ntmps19 rfl rfl ?_; delta List.toArray; ((with_reducible conv => whnf); (with_reducible conv => congr <;> reduce); repeat ((first | (with_reducible refine HaltK.mk ?_) | (with_reducible refine StopK.mk ?_)); (with_reducible conv => whnf); (with_reducible conv => congr <;> reduce)))
  refine LoopK.use G G_good (fun (k : Nat) => [(0, eMks l), (1, .clo (.func 25) [] [.fptr (eInt n) 0]), (6, eMks l), (7, eInt l.length), (8, eInt k)]) (fun _ => []) (fun k => k ≤ l.length ∧ ∀ (j : Nat) (y : MkM), j < k → l[j]? = some y → isBecame n y = false) (fun k => l.length - k) 0 ⟨Nat.zero_le _, fun j y h => by omega⟩
    ⟨⟨rfl, rfl⟩, ⟨rfl, ⟨rfl, trivial, ⟨rfl, rfl⟩, trivial⟩, rfl, by show (l.length : Int) = ((l.map oMk).length : Int); rw [hlm], rfl, trivial⟩, trivial⟩ ?_
  rintro k ⟨hk, hok⟩
  ((with_reducible conv => whnf); (with_reducible conv => congr <;> reduce); repeat ((first | (with_reducible refine HaltK.mk ?_) | (with_reducible refine StopK.mk ?_)); (with_reducible conv => whnf); (with_reducible conv => congr <;> reduce)))
  refine IfK.mk (fun h1 => ?_) (fun h1 => ?_) <;> (try simp only [castN] at h1) <;> ((with_reducible conv => whnf); (with_reducible conv => congr <;> reduce); repeat ((first | (with_reducible refine HaltK.mk ?_) | (with_reducible refine StopK.mk ?_)); (with_reducible conv => whnf); (with_reducible conv => congr <;> reduce)))
  · have hk' : k < l.length := by simp only [decide_eq_true_eq] at h1; omega
    obtain ⟨x, hx⟩ : ∃ x, l[k]? = some x := ⟨_, List.getElem?_eq_getElem hk'⟩
    have hnext : ((k + 1 : Nat) : Int) = (k : Int) + 1 := by omega
    refine IdxK.mk k (eMk x) rfl (mk_get hx) ?_; ((with_reducible conv => whnf); (with_reducible conv => congr <;> reduce); repeat ((first | (with_reducible refine HaltK.mk ?_) | (with_reducible refine StopK.mk ?_)); (with_reducible conv => whnf); (with_reducible conv => congr <;> reduce)))
    cases hb : isBecame n x with
    | true =>
      have hi : ixI (isBecame n) l = (k : Int) := by
        have : l.findIdx? (isBecame n) = some k := by
          rw [List.findIdx?_eq_some_iff_getElem]
          obtain ⟨hkl, hxe⟩ := List.getElem?_eq_some_iff.1 hx
          refine ⟨hkl, by rw [hxe]; exact hb, fun j hj => ?_⟩
          have := hok j _ hj (List.getElem?_eq_getElem (by omega))
          simp [this]
        unfold ixI; rw [this]
      repeat' (first
    | (first
    | ((with_reducible show IfK _ _ _ _); first | refine IfK.ff ?_ | refine IfK.tt ?_ | refine IfK.no (by first | rfl | assumption | exact nf (by assumption) | exact nt (by assumption) | ((try simp only [castN]); first | (simp []; done) | (simp []; omega))) ?_ | refine IfK.yes (by first | rfl | assumption | exact nf (by assumption) | exact nt (by assumption) | ((try simp only [castN]); first | (simp []; done) | (simp []; omega))) ?_)
    | ((with_reducible show NeedK _ _ _ _); refine NeedK.mk (by (try simp only [castN]); omega) ?_)
    | ((with_reducible show DrawK _ _ _ _); refine DrawK.mk (by kernel_rfl) (by kernel_rfl) (by kernel_rfl) ?_)
    | ((with_reducible show CallK _ _ 25 _ _ _ _); refine CallK.lit [] (f25_at hb) c25 ⟨⟨rfl, rfl, rfl, rfl, rfl, rfl, rfl, rfl, rfl, rfl, rfl, rfl, rfl, trivial⟩, ⟨rfl, rfl⟩, trivial⟩ rfl rfl ?_)) <;> ((with_reducible conv => whnf); (with_reducible conv => congr <;> reduce); repeat ((first | (with_reducible refine HaltK.mk ?_) | (with_reducible refine StopK.mk ?_)); (with_reducible conv => whnf); (with_reducible conv => congr <;> reduce)))
    | ((with_reducible show (_ ∧ _) ∧ _ ∧ _); refine ⟨⟨rfl, rfl⟩, ?_, ?_⟩ <;> (with_reducible conv => whnf) <;> repeat' (first | (with_reducible exact trivial) | (with_reducible refine And.intro ?_ ?_ <;> with_reducible conv => whnf))))
      all_goals first | exact hi | trace_state
    | false =>
      have hok' : ∀ (j : Nat) (y : MkM), j < k + 1 → l[j]? = some y → isBecame n y = false := by
        intro j y hj hy
        rcases Nat.lt_or_ge j k with h6 | h6
        · exact hok j y h6 hy
        · have : j = k := by omega
          subst this
          rw [hx] at hy; cases hy; exact hb
      repeat' (first
    | (first
    | ((with_reducible show IfK _ _ _ _); first | refine IfK.ff ?_ | refine IfK.tt ?_ | refine IfK.no (by first | rfl | assumption | exact nf (by assumption) | exact nt (by assumption) | ((try simp only [castN]); first | (simp []; done) | (simp []; omega))) ?_ | refine IfK.yes (by first | rfl | assumption | exact nf (by assumption) | exact nt (by assumption) | ((try simp only [castN]); first | (simp []; done) | (simp []; omega))) ?_)
    | ((with_reducible show NeedK _ _ _ _); refine NeedK.mk (by (try simp only [castN]); omega) ?_)
    | ((with_reducible show DrawK _ _ _ _); refine DrawK.mk (by kernel_rfl) (by kernel_rfl) (by kernel_rfl) ?_)
    | ((with_reducible show CallK _ _ 25 _ _ _ _); refine CallK.lit [] (f25_at hb) c25 ⟨⟨rfl, rfl, rfl, rfl, rfl, rfl, rfl, rfl, rfl, rfl, rfl, rfl, rfl, trivial⟩, ⟨rfl, rfl⟩, trivial⟩ rfl rfl ?_)
    | ((with_reducible show NextK _ _); refine NextK.mk (k + 1) ⟨by omega, hok'⟩ (by omega) ⟨⟨rfl, rfl⟩, ⟨rfl, ⟨rfl, trivial, ⟨rfl, rfl⟩, trivial⟩, rfl, rfl, hnext, trivial⟩, trivial⟩)) <;> ((with_reducible conv => whnf); (with_reducible conv => congr <;> reduce); repeat ((first | (with_reducible refine HaltK.mk ?_) | (with_reducible refine StopK.mk ?_)); (with_reducible conv => whnf); (with_reducible conv => congr <;> reduce)))
    | ((with_reducible show (_ ∧ _) ∧ _ ∧ _); refine ⟨⟨rfl, rfl⟩, ?_, ?_⟩ <;> (with_reducible conv => whnf) <;> repeat' (first | (with_reducible exact trivial) | (with_reducible refine And.intro ?_ ?_ <;> with_reducible conv => whnf))))
  · have hkl : k = l.length := by
      have : ¬ (k : Int) < (l.length : Int) := by simpa using h1
      omega
    subst hkl
    have hi : ixI (isBecame n) l = -1 := by
      have : l.findIdx? (isBecame n) = none := by
        rw [List.findIdx?_eq_none_iff]
        intro y hy
        obtain ⟨j, hj⟩ := List.getElem?_of_mem hy
        exact hok j y (List.getElem?_eq_some_iff.1 hj).1 hj
      unfold ixI; rw [this]
    refine ⟨⟨rfl, rfl⟩, ?_, ?_⟩ <;> (with_reducible conv => whnf) <;> repeat' (first | (with_reducible exact trivial) | (with_reducible refine And.intro ?_ ?_ <;> with_reducible conv => whnf))
    all_goals exact hi
theorem became_ix (l : List MkM) (n : Int) : (ixI (isBecame n) l = -1 ∧ becameM l n = 0) ∨ ∃ (k : Nat) (x : MkM), ixI (isBecame n) l = k ∧ l[k]? = some x ∧ becameM l n = x.what := by
  unfold ixI becameM
  cases h : l.findIdx? (isBecame n) with
  | none =>
    left
    refine ⟨rfl, ?_⟩
    rw [List.findIdx?_eq_none_iff] at h
    have : l.find? (isBecame n) = none := by
      rw [List.find?_eq_none]
      intro x hx; simp [h x hx]
    rw [this]; rfl
  | some k =>
    right
    rw [List.findIdx?_eq_some_iff_getElem] at h
    obtain ⟨hk, h1, h2⟩ := h
    refine ⟨k, l[k], rfl, List.getElem?_eq_getElem hk, ?_⟩
    have : l.find? (isBecame n) = some l[k] := by
      rw [List.find?_eq_some_iff_getElem]
      refine ⟨h1, k, hk, rfl, fun j hj => ?_⟩
      simpa using h2 j hj
    rw [this]; rfl
set_option maxHeartbeats 8000000 in
/-- Became -/
theorem f15_ok (l : List MkM) (hl : l.length ≤ 100000) (n : Int) : FnOK Try.prog 15 [] [eMks l, eInt n] [] (eInt (becameM l n)) := by
  obtain ⟨p, hp⟩ : ∃ p, ixI (isBecame n) l = p := ⟨_, rfl⟩
  have hix := became_ix l n
  have h19 := f19_became l hl n
  rw [hp] at hix h19
  refine FnOK.startC (rvs := [.tmp 4]) G G_good Try.func15 rfl Try.ntmps15 rfl rfl ?_; delta List.toArray; ((with_reducible conv => whnf); (with_reducible conv => congr <;> reduce); repeat ((first | (with_reducible refine HaltK.mk ?_) | (with_reducible refine StopK.mk ?_)); (with_reducible conv => whnf); (with_reducible conv => congr <;> reduce)))
  refine CallK.lit [30] h19 c19 ⟨rfl, ⟨rfl, trivial, ⟨_, _, _, _, _, rfl, rfl, rfl, rfl, rfl, rfl⟩, trivial⟩, trivial⟩ rfl rfl ?_
  ((with_reducible conv => whnf); (with_reducible conv => congr <;> reduce); repeat ((first | (with_reducible refine HaltK.mk ?_) | (with_reducible refine StopK.mk ?_)); (with_reducible conv => whnf); (with_reducible conv => congr <;> reduce)))
  rcases hix with ⟨rfl, h2⟩ | ⟨k, x, rfl, hx, h2⟩
  · repeat' (first
    | (first
    | ((with_reducible show IfK _ _ _ _); first | refine IfK.ff ?_ | refine IfK.tt ?_ | refine IfK.no (by first | rfl | assumption | exact nf (by assumption) | exact nt (by assumption) | ((try simp only [castN]); first | (simp []; done) | (simp []; omega))) ?_ | refine IfK.yes (by first | rfl | assumption | exact nf (by assumption) | exact nt (by assumption) | ((try simp only [castN]); first | (simp []; done) | (simp []; omega))) ?_)
    | ((with_reducible show NeedK _ _ _ _); refine NeedK.mk (by (try simp only [castN]); omega) ?_)
    | ((with_reducible show DrawK _ _ _ _); refine DrawK.mk (by kernel_rfl) (by kernel_rfl) (by kernel_rfl) ?_)) <;> ((with_reducible conv => whnf); (with_reducible conv => congr <;> reduce); repeat ((first | (with_reducible refine HaltK.mk ?_) | (with_reducible refine StopK.mk ?_)); (with_reducible conv => whnf); (with_reducible conv => congr <;> reduce)))
    | ((with_reducible show (_ ∧ _) ∧ _ ∧ _); refine ⟨⟨rfl, rfl⟩, ?_, ?_⟩ <;> (with_reducible conv => whnf) <;> repeat' (first | (with_reducible exact trivial) | (with_reducible refine And.intro ?_ ?_ <;> with_reducible conv => whnf))))
    all_goals first | exact h2 | trace_state
  · have hk0 : ((k : Int) < 0) = False := eq_false (by omega)
    repeat' (first
    | (first
    | ((with_reducible show IfK _ _ _ _); first | refine IfK.ff ?_ | refine IfK.tt ?_ | refine IfK.no (by first | rfl | assumption | exact nf (by assumption) | exact nt (by assumption) | ((try simp only [castN]); first | (simp [hk0]; done) | (simp [hk0]; omega))) ?_ | refine IfK.yes (by first | rfl | assumption | exact nf (by assumption) | exact nt (by assumption) | ((try simp only [castN]); first | (simp [hk0]; done) | (simp [hk0]; omega))) ?_)
    | ((with_reducible show NeedK _ _ _ _); refine NeedK.mk (by (try simp only [castN]); omega) ?_)
    | ((with_reducible show DrawK _ _ _ _); refine DrawK.mk (by kernel_rfl) (by kernel_rfl) (by kernel_rfl) ?_)
    | ((with_reducible show IdxK _ _ _ _ _); refine IdxK.mk k (eMk x) rfl (mk_get hx) ?_)) <;> ((with_reducible conv => whnf); (with_reducible conv => congr <;> reduce); repeat ((first | (with_reducible refine HaltK.mk ?_) | (with_reducible refine StopK.mk ?_)); (with_reducible conv => whnf); (with_reducible conv => congr <;> reduce)))
    | ((with_reducible show (_ ∧ _) ∧ _ ∧ _); refine ⟨⟨rfl, rfl⟩, ?_, ?_⟩ <;> (with_reducible conv => whnf) <;> repeat' (first | (with_reducible exact trivial) | (with_reducible refine And.intro ?_ ?_ <;> with_reducible conv => whnf))))
    all_goals first | exact h2 | trace_state
set_option maxHeartbeats 8000000 in
/-- ref.Became -/
theorem f16_ok (l : List MkM) (hl : l.length ≤ 100000) (n : Int) : FnOK Try.prog 16 [] [eMks l, eInt n] [] (eInt (becameM l n)) := by
  have hlm : (l.map oMk).length = l.length := List.length_map ..
  refine FnOK.startC (rvs := [.tmp 4]) G G_good Try.func16 rfl Try.ntmps16 rfl rfl ?_; delta List.toArray; ((with_reducible conv => whnf); (with_reducible conv => congr <;> reduce); repeat ((first | (with_reducible refine HaltK.mk ?_) | (with_reducible refine StopK.mk ?_)); (with_reducible conv => whnf); (with_reducible conv => congr <;> reduce)))
  refine LoopK.use G G_good (fun (k : Nat) => [(0, eMks l), (1, eInt n), (5, eInt k)]) (fun _ => []) (fun k => k ≤ l.length ∧ (l.take k).find? (isBecame n) = none) (fun k => l.length - k) 0 ⟨Nat.zero_le _, rfl⟩
    ⟨⟨rfl, rfl⟩, ⟨rfl, rfl, rfl, trivial⟩, trivial⟩ ?_
  rintro k ⟨hk, hno⟩
  ((with_reducible conv => whnf); (with_reducible conv => congr <;> reduce); repeat ((first | (with_reducible refine HaltK.mk ?_) | (with_reducible refine StopK.mk ?_)); (with_reducible conv => whnf); (with_reducible conv => congr <;> reduce)))
  refine IfK.mk (fun h1 => ?_) (fun h1 => ?_) <;> (try simp only [castN] at h1) <;> ((with_reducible conv => whnf); (with_reducible conv => congr <;> reduce); repeat ((first | (with_reducible refine HaltK.mk ?_) | (with_reducible refine StopK.mk ?_)); (with_reducible conv => whnf); (with_reducible conv => congr <;> reduce)))
  · have hk' : k < l.length := by simp only [decide_eq_true_eq, hlm] at h1; omega
    obtain ⟨x, hx⟩ : ∃ x, l[k]? = some x := ⟨_, List.getElem?_eq_getElem hk'⟩
    have hnext : ((k + 1 : Nat) : Int) = (k : Int) + 1 := by omega
    have hyes : isBecame n x = true → becameM l n = x.what := fun h => by unfold becameM; rw [find_at hno hx h]; rfl
    have hstep : isBecame n x = false → (l.take (k + 1)).find? (isBecame n) = none := fun h => by rw [take_snoc' hx, List.find?_append, hno]; simp [h]
    obtain ⟨kd, dp, nd, wt, er, nm, b1, b2, ol, nw, fr, to, on⟩ := x
    unfold isBecame at hyes hstep
    simp only at hyes hstep
    refine IdxK.mk k (eMk ⟨kd, dp, nd, wt, er, nm, b1, b2, ol, nw, fr, to, on⟩) rfl (mk_get hx) ?_; ((with_reducible conv => whnf); (with_reducible conv => congr <;> reduce); repeat ((first | (with_reducible refine HaltK.mk ?_) | (with_reducible refine StopK.mk ?_)); (with_reducible conv => whnf); (with_reducible conv => congr <;> reduce)))
    by_cases e5 : kd = 5
    · by_cases en : nd = n
      · have hs := hyes (by simp [e5, en])
        repeat' (first
    | (first
    | ((with_reducible show IfK _ _ _ _); first | refine IfK.ff ?_ | refine IfK.tt ?_ | refine IfK.no (by first | rfl | assumption | exact nf (by assumption) | exact nt (by assumption) | ((try simp only [castN]); first | (simp [e5, eq_true en]; done) | (simp [e5, eq_true en]; omega))) ?_ | refine IfK.yes (by first | rfl | assumption | exact nf (by assumption) | exact nt (by assumption) | ((try simp only [castN]); first | (simp [e5, eq_true en]; done) | (simp [e5, eq_true en]; omega))) ?_)
    | ((with_reducible show NeedK _ _ _ _); refine NeedK.mk (by (try simp only [castN]); omega) ?_)
    | ((with_reducible show DrawK _ _ _ _); refine DrawK.mk (by kernel_rfl) (by kernel_rfl) (by kernel_rfl) ?_)
    | ((with_reducible show IdxK _ _ _ _ _); refine IdxK.mk k (eMk ⟨kd, dp, nd, wt, er, nm, b1, b2, ol, nw, fr, to, on⟩) rfl (mk_get hx) ?_)) <;> ((with_reducible conv => whnf); (with_reducible conv => congr <;> reduce); repeat ((first | (with_reducible refine HaltK.mk ?_) | (with_reducible refine StopK.mk ?_)); (with_reducible conv => whnf); (with_reducible conv => congr <;> reduce)))
    | ((with_reducible show (_ ∧ _) ∧ _ ∧ _); refine ⟨⟨rfl, rfl⟩, ?_, ?_⟩ <;> (with_reducible conv => whnf) <;> repeat' (first | (with_reducible exact trivial) | (with_reducible refine And.intro ?_ ?_ <;> with_reducible conv => whnf))))
        all_goals first | exact hs | trace_state
      · have hs := hstep (by simp [en])
        repeat' (first
    | (first
    | ((with_reducible show IfK _ _ _ _); first | refine IfK.ff ?_ | refine IfK.tt ?_ | refine IfK.no (by first | rfl | assumption | exact nf (by assumption) | exact nt (by assumption) | ((try simp only [castN]); first | (simp [e5, eq_false en]; done) | (simp [e5, eq_false en]; omega))) ?_ | refine IfK.yes (by first | rfl | assumption | exact nf (by assumption) | exact nt (by assumption) | ((try simp only [castN]); first | (simp [e5, eq_false en]; done) | (simp [e5, eq_false en]; omega))) ?_)
    | ((with_reducible show NeedK _ _ _ _); refine NeedK.mk (by (try simp only [castN]); omega) ?_)
    | ((with_reducible show DrawK _ _ _ _); refine DrawK.mk (by kernel_rfl) (by kernel_rfl) (by kernel_rfl) ?_)
    | ((with_reducible show IdxK _ _ _ _ _); refine IdxK.mk k (eMk ⟨kd, dp, nd, wt, er, nm, b1, b2, ol, nw, fr, to, on⟩) rfl (mk_get hx) ?_)
    | ((with_reducible show NextK _ _); refine NextK.mk (k + 1) ⟨by omega, hs⟩ (by omega) ⟨⟨rfl, rfl⟩, ⟨rfl, rfl, hnext, trivial⟩, trivial⟩)) <;> ((with_reducible conv => whnf); (with_reducible conv => congr <;> reduce); repeat ((first | (with_reducible refine HaltK.mk ?_) | (with_reducible refine StopK.mk ?_)); (with_reducible conv => whnf); (with_reducible conv => congr <;> reduce)))
    | ((with_reducible show (_ ∧ _) ∧ _ ∧ _); refine ⟨⟨rfl, rfl⟩, ?_, ?_⟩ <;> (with_reducible conv => whnf) <;> repeat' (first | (with_reducible exact trivial) | (with_reducible refine And.intro ?_ ?_ <;> with_reducible conv => whnf))))
    · have hs := hstep (by simp [e5])
      repeat' (first
    | (first
    | ((with_reducible show IfK _ _ _ _); first | refine IfK.ff ?_ | refine IfK.tt ?_ | refine IfK.no (by first | rfl | assumption | exact nf (by assumption) | exact nt (by assumption) | ((try simp only [castN]); first | (simp [eq_false e5]; done) | (simp [eq_false e5]; omega))) ?_ | refine IfK.yes (by first | rfl | assumption | exact nf (by assumption) | exact nt (by assumption) | ((try simp only [castN]); first | (simp [eq_false e5]; done) | (simp [eq_false e5]; omega))) ?_)
    | ((with_reducible show NeedK _ _ _ _); refine NeedK.mk (by (try simp only [castN]); omega) ?_)
    | ((with_reducible show DrawK _ _ _ _); refine DrawK.mk (by kernel_rfl) (by kernel_rfl) (by kernel_rfl) ?_)
    | ((with_reducible show IdxK _ _ _ _ _); refine IdxK.mk k (eMk ⟨kd, dp, nd, wt, er, nm, b1, b2, ol, nw, fr, to, on⟩) rfl (mk_get hx) ?_)
    | ((with_reducible show NextK _ _); refine NextK.mk (k + 1) ⟨by omega, hs⟩ (by omega) ⟨⟨rfl, rfl⟩, ⟨rfl, rfl, hnext, trivial⟩, trivial⟩)) <;> ((with_reducible conv => whnf); (with_reducible conv => congr <;> reduce); repeat ((first | (with_reducible refine HaltK.mk ?_) | (with_reducible refine StopK.mk ?_)); (with_reducible conv => whnf); (with_reducible conv => congr <;> reduce)))
    | ((with_reducible show (_ ∧ _) ∧ _ ∧ _); refine ⟨⟨rfl, rfl⟩, ?_, ?_⟩ <;> (with_reducible conv => whnf) <;> repeat' (first | (with_reducible exact trivial) | (with_reducible refine And.intro ?_ ?_ <;> with_reducible conv => whnf))))
  · have hkl : k = l.length := by
      have : ¬ (k : Int) < (l.length : Int) := by simpa using h1
      omega
    subst hkl
    rw [List.take_length] at hno
    refine ⟨⟨rfl, rfl⟩, ?_, ?_⟩ <;> (with_reducible conv => whnf) <;> repeat' (first | (with_reducible exact trivial) | (with_reducible refine And.intro ?_ ?_ <;> with_reducible conv => whnf))
    all_goals (unfold becameM; rw [hno]; rfl)
end Go.Proofs.Audit
end
