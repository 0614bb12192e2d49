/- Contracts of the functions of audit, part 2. By an AI agent. -/
import Derived.Test.YtebingflknhcjaaVB
section
set_option linter.unusedSimpArgs false
set_option linter.unusedVariables false
namespace Go.Proofs.Audit
open Go Go.Am Go.RowKit Go.Lib
set_option maxRecDepth 100000
theorem HandK.nilNe {P : Program} {N : Nat} {o : Oper} {acc : Tk} {sl : SL} {m : ML} {R : Am.Rest} {ty ty' : TypeId} {et : TypeId} (hu : P.underlying ty = some (.pointer et)) {x y : Operand} (ho : o.op = .binOp .neq ty x y ty') (hx : evB sl x = .lit (.pointer none)) (hy : evB sl y = .lit (.pointer none)) (hd : dstB N o.dst = true) (h : R [] (.lit (.bool false)) [] acc sl m) : HandK P N acc sl m (o := o) (R := R) := by
  rw [evB_eq] at hx hy
  refine ⟨[], .lit (.bool false), [], ?_, h⟩
  refine .val (fun σ2 he2 hrd w0 W0 L μ a' w hs => ⟨.bool false, ?_, .lit⟩) (dst_ok hd)
  have k1 := hs.eval x
  have k2 := hs.eval y
  rw [he2 x (by simp [ho, Op.operands]), St_eval, hx] at k1
  rw [he2 y (by simp [ho, Op.operands]), St_eval, hy] at k2
  have hx' := k1.val
  have hy' := k2.val
  simp only [execOp, ho, hx', hy', eqGuard, binOp, Op.equal]
  rw [show Op.maxDepth = 9999 + 1 from rfl]
  unfold Op.equalIn
  simp [run_underlying hu]
@[reducible] def lastA (last : Option MkM) : AV := match last with
  | none => .lit (.pointer none)
  | some _ => .ptr 70 0 0
@[reducible] def lastM (last : Option MkM) : ML := match last with
  | none => []
  | some y => [(70, .live 13 [eMk y] false)]
theorem chain_skip {n : Int} {s : ByteArray} {l : List MkM} {k : Nat} {x : MkM} (hx : l[k]? = some x) (last : Option MkM) (h : isChange n s x = false) : chainM n s last k (l.drop k) = chainM n s last (k + 1) (l.drop (k + 1)) := by
  obtain ⟨hk, rfl⟩ := List.getElem?_eq_some_iff.1 hx
  rw [List.drop_eq_getElem_cons hk]
  conv => lhs; unfold chainM
  rw [if_neg (by simp [h])]
theorem chain_go {n : Int} {s : ByteArray} {l : List MkM} {k : Nat} {x : MkM} (hx : l[k]? = some x) (last : Option MkM) (h : isChange n s x = true) (hb : (last.map (fun y => breaksM y x)).getD false = false) : chainM n s last k (l.drop k) = chainM n s (some x) (k + 1) (l.drop (k + 1)) := by
  obtain ⟨hk, rfl⟩ := List.getElem?_eq_some_iff.1 hx
  rw [List.drop_eq_getElem_cons hk]
  conv => lhs; unfold chainM
  rw [if_pos h, if_neg (by simp [hb])]
theorem chain_stop {n : Int} {s : ByteArray} {l : List MkM} {k : Nat} {x : MkM} (hx : l[k]? = some x) (last : Option MkM) (h : isChange n s x = true) (hb : (last.map (fun y => breaksM y x)).getD false = true) : chainM n s last k (l.drop k) = k := by
  obtain ⟨hk, rfl⟩ := List.getElem?_eq_some_iff.1 hx
  rw [List.drop_eq_getElem_cons hk]
  unfold chainM
  rw [if_pos h, if_pos hb]
set_option maxHeartbeats 16000000 in
/-- Chain -/
theorem f17_ok (l : List MkM) (hl : l.length ≤ 100000) (n : Int) (s : ByteArray) : FnOK Try.prog 17 [] [eMks l, eInt n, eStr s] [] (eInt (chainM n s none 0 l)) := by
  have hlm : (l.map oMk).length = l.length := List.length_map ..
  refine FnOK.startC (rvs := [.tmp 6]) G G_good Try.func17 rfl Try.ntmps17 rfl rfl ?_; delta List.toArray; ((with_reducible conv => whnf); (with_reducible conv => congr <;> reduce); repeat ((first | (with_reducible refine HaltK.mk ?_) | (with_reducible refine StopK.mk ?_)); (with_reducible conv => whnf); (with_reducible conv => congr <;> reduce)))
  refine LoopK.use G G_good (fun (i : Nat × Option MkM) => [(0, eMks l), (1, eInt n), (2, eStr s), (7, lastA i.2), (10, eMks l), (11, eInt l.length), (12, eInt i.1)]) (fun i => lastM i.2) (fun i => i.1 ≤ l.length ∧ chainM n s none 0 l = chainM n s i.2 i.1 (l.drop i.1)) (fun i => l.length - i.1) (0, none) ⟨Nat.zero_le _, rfl⟩
    ⟨⟨rfl, rfl⟩, ⟨rfl, rfl, rfl, ⟨rfl, rfl⟩, rfl, by show (l.length : Int) = ((l.map oMk).length : Int); rw [hlm], rfl, trivial⟩, trivial⟩ ?_
  rintro ⟨k, last⟩ ⟨hk, hch⟩
  simp only at hk hch
  have hu : Try.prog.underlying 50 = some (.pointer 34) := by kernel_rfl
  rcases last with _ | y
  · ((with_reducible conv => whnf); (with_reducible conv => congr <;> reduce); repeat ((first | (with_reducible refine HaltK.mk ?_) | (with_reducible refine StopK.mk ?_)); (with_reducible conv => whnf); (with_reducible conv => congr <;> reduce)))
    refine IfK.mk (fun h1 => ?_) (fun h1 => ?_) <;> (try simp only [castN] at h1) <;> ((with_reducible conv => whnf); (with_reducible conv => congr <;> reduce); repeat ((first | (with_reducible refine HaltK.mk ?_) | (with_reducible refine StopK.mk ?_)); (with_reducible conv => whnf); (with_reducible conv => congr <;> reduce)))
    · have hk' : k < l.length := by simp only [decide_eq_true_eq] at h1; omega
      obtain ⟨x, hx⟩ : ∃ x, l[k]? = some x := ⟨_, List.getElem?_eq_getElem hk'⟩
      have hnext : ((k + 1 : Nat) : Int) = (k : Int) + 1 := by omega
      have skip := chain_skip (n := n) (s := s) hx none
      have go := chain_go (n := n) (s := s) hx none
      rw [← hch] at skip go
      obtain ⟨kd, dp, nd, wt, er, nm, b1, b2, ol, nw, fr, to, on⟩ := x
      unfold isChange at skip go
      simp only at skip go
      refine IdxK.mk k (eMk ⟨kd, dp, nd, wt, er, nm, b1, b2, ol, nw, fr, to, on⟩) rfl (mk_get hx) ?_; ((with_reducible conv => whnf); (with_reducible conv => congr <;> reduce); repeat ((first | (with_reducible refine HaltK.mk ?_) | (with_reducible refine StopK.mk ?_)); (with_reducible conv => whnf); (with_reducible conv => congr <;> reduce)))
      have hf : (¬ kd = 6 ∨ (kd = 6 ∧ ¬ nd = n) ∨ (kd = 6 ∧ nd = n ∧ ¬ wt = 4) ∨ (kd = 6 ∧ nd = n ∧ wt = 4 ∧ ¬ nm = s)) ∨ (kd = 6 ∧ nd = n ∧ wt = 4 ∧ nm = s) := by
        by_cases e6 : kd = 6
        · by_cases en : nd = n
          · by_cases ew : wt = 4
            · by_cases es : nm = s
              · right; exact ⟨e6, en, ew, es⟩
              · left; exact .inr (.inr (.inr ⟨e6, en, ew, es⟩))
            · left; exact .inr (.inr (.inl ⟨e6, en, ew⟩))
          · left; exact .inr (.inl ⟨e6, en⟩)
        · left; exact .inl e6
      rcases hf with (e6 | ⟨e6, en⟩ | ⟨e6, en, ew⟩ | ⟨e6, en, ew, es⟩) | ⟨e6, en, ew, es⟩
      · have hs := skip (by simp [e6])
        repeat' (first
    | (first
    | ((with_reducible show IfK _ _ _ _); first | refine IfK.ff ?_ | refine IfK.tt ?_ | refine IfK.no (by first | rfl | assumption | exact nf (by assumption) | exact nt (by assumption) | ((try simp only [castN]); first | (simp [eq_false e6]; done) | (simp [eq_false e6]; omega))) ?_ | refine IfK.yes (by first | rfl | assumption | exact nf (by assumption) | exact nt (by assumption) | ((try simp only [castN]); first | (simp [eq_false e6]; done) | (simp [eq_false e6]; omega))) ?_)
    | ((with_reducible show NeedK _ _ _ _); refine NeedK.mk (by (try simp only [castN]); omega) ?_)
    | ((with_reducible show DrawK _ _ _ _); refine DrawK.mk (by kernel_rfl) (by kernel_rfl) (by kernel_rfl) ?_)
    | ((with_reducible show NextK _ _); refine NextK.mk (k + 1, none) ⟨by show k + 1 ≤ l.length; omega, hs⟩ (by show l.length - (k + 1) < l.length - k; omega) ⟨⟨rfl, rfl⟩, ⟨rfl, rfl, rfl, ⟨rfl, rfl⟩, rfl, rfl, hnext, trivial⟩, trivial⟩)) <;> ((with_reducible conv => whnf); (with_reducible conv => congr <;> reduce); repeat ((first | (with_reducible refine HaltK.mk ?_) | (with_reducible refine StopK.mk ?_)); (with_reducible conv => whnf); (with_reducible conv => congr <;> reduce)))
    | ((with_reducible show (_ ∧ _) ∧ _ ∧ _); refine ⟨⟨rfl, rfl⟩, ?_, ?_⟩ <;> (with_reducible conv => whnf) <;> repeat' (first | (with_reducible exact trivial) | (with_reducible refine And.intro ?_ ?_ <;> with_reducible conv => whnf))))
      · have hs := skip (by simp [en])
        repeat' (first
    | (first
    | ((with_reducible show IfK _ _ _ _); first | refine IfK.ff ?_ | refine IfK.tt ?_ | refine IfK.no (by first | rfl | assumption | exact nf (by assumption) | exact nt (by assumption) | ((try simp only [castN]); first | (simp [e6, eq_false en]; done) | (simp [e6, eq_false en]; omega))) ?_ | refine IfK.yes (by first | rfl | assumption | exact nf (by assumption) | exact nt (by assumption) | ((try simp only [castN]); first | (simp [e6, eq_false en]; done) | (simp [e6, eq_false en]; omega))) ?_)
    | ((with_reducible show NeedK _ _ _ _); refine NeedK.mk (by (try simp only [castN]); omega) ?_)
    | ((with_reducible show DrawK _ _ _ _); refine DrawK.mk (by kernel_rfl) (by kernel_rfl) (by kernel_rfl) ?_)
    | ((with_reducible show NextK _ _); refine NextK.mk (k + 1, none) ⟨by show k + 1 ≤ l.length; omega, hs⟩ (by show l.length - (k + 1) < l.length - k; omega) ⟨⟨rfl, rfl⟩, ⟨rfl, rfl, rfl, ⟨rfl, rfl⟩, rfl, rfl, hnext, trivial⟩, trivial⟩)) <;> ((with_reducible conv => whnf); (with_reducible conv => congr <;> reduce); repeat ((first | (with_reducible refine HaltK.mk ?_) | (with_reducible refine StopK.mk ?_)); (with_reducible conv => whnf); (with_reducible conv => congr <;> reduce)))
    | ((with_reducible show (_ ∧ _) ∧ _ ∧ _); refine ⟨⟨rfl, rfl⟩, ?_, ?_⟩ <;> (with_reducible conv => whnf) <;> repeat' (first | (with_reducible exact trivial) | (with_reducible refine And.intro ?_ ?_ <;> with_reducible conv => whnf))))
      · have hs := skip (by simp [ew])
        repeat' (first
    | (first
    | ((with_reducible show IfK _ _ _ _); first | refine IfK.ff ?_ | refine IfK.tt ?_ | refine IfK.no (by first | rfl | assumption | exact nf (by assumption) | exact nt (by assumption) | ((try simp only [castN]); first | (simp [e6, eq_true en, eq_false ew]; done) | (simp [e6, eq_true en, eq_false ew]; omega))) ?_ | refine IfK.yes (by first | rfl | assumption | exact nf (by assumption) | exact nt (by assumption) | ((try simp only [castN]); first | (simp [e6, eq_true en, eq_false ew]; done) | (simp [e6, eq_true en, eq_false ew]; omega))) ?_)
    | ((with_reducible show NeedK _ _ _ _); refine NeedK.mk (by (try simp only [castN]); omega) ?_)
    | ((with_reducible show DrawK _ _ _ _); refine DrawK.mk (by kernel_rfl) (by kernel_rfl) (by kernel_rfl) ?_)
    | ((with_reducible show NextK _ _); refine NextK.mk (k + 1, none) ⟨by show k + 1 ≤ l.length; omega, hs⟩ (by show l.length - (k + 1) < l.length - k; omega) ⟨⟨rfl, rfl⟩, ⟨rfl, rfl, rfl, ⟨rfl, rfl⟩, rfl, rfl, hnext, trivial⟩, trivial⟩)) <;> ((with_reducible conv => whnf); (with_reducible conv => congr <;> reduce); repeat ((first | (with_reducible refine HaltK.mk ?_) | (with_reducible refine StopK.mk ?_)); (with_reducible conv => whnf); (with_reducible conv => congr <;> reduce)))
    | ((with_reducible show (_ ∧ _) ∧ _ ∧ _); refine ⟨⟨rfl, rfl⟩, ?_, ?_⟩ <;> (with_reducible conv => whnf) <;> repeat' (first | (with_reducible exact trivial) | (with_reducible refine And.intro ?_ ?_ <;> with_reducible conv => whnf))))
      · have hs := skip (by simp [es])
        repeat' (first
    | (first
    | ((with_reducible show IfK _ _ _ _); first | refine IfK.ff ?_ | refine IfK.tt ?_ | refine IfK.no (by first | rfl | assumption | exact nf (by assumption) | exact nt (by assumption) | ((try simp only [castN]); first | (simp [e6, eq_true en, ew, eq_false es]; done) | (simp [e6, eq_true en, ew, eq_false es]; omega))) ?_ | refine IfK.yes (by first | rfl | assumption | exact nf (by assumption) | exact nt (by assumption) | ((try simp only [castN]); first | (simp [e6, eq_true en, ew, eq_false es]; done) | (simp [e6, eq_true en, ew, eq_false es]; omega))) ?_)
    | ((with_reducible show NeedK _ _ _ _); refine NeedK.mk (by (try simp only [castN]); omega) ?_)
    | ((with_reducible show DrawK _ _ _ _); refine DrawK.mk (by kernel_rfl) (by kernel_rfl) (by kernel_rfl) ?_)
    | ((with_reducible show NextK _ _); refine NextK.mk (k + 1, none) ⟨by show k + 1 ≤ l.length; omega, hs⟩ (by show l.length - (k + 1) < l.length - k; omega) ⟨⟨rfl, rfl⟩, ⟨rfl, rfl, rfl, ⟨rfl, rfl⟩, rfl, rfl, hnext, trivial⟩, trivial⟩)) <;> ((with_reducible conv => whnf); (with_reducible conv => congr <;> reduce); repeat ((first | (with_reducible refine HaltK.mk ?_) | (with_reducible refine StopK.mk ?_)); (with_reducible conv => whnf); (with_reducible conv => congr <;> reduce)))
    | ((with_reducible show (_ ∧ _) ∧ _ ∧ _); refine ⟨⟨rfl, rfl⟩, ?_, ?_⟩ <;> (with_reducible conv => whnf) <;> repeat' (first | (with_reducible exact trivial) | (with_reducible refine And.intro ?_ ?_ <;> with_reducible conv => whnf))))
      · have hs := go (by simp [e6, en, ew, es]) rfl
        repeat' (first
    | (first
    | ((with_reducible show IfK _ _ _ _); first | refine IfK.ff ?_ | refine IfK.tt ?_ | refine IfK.no (by first | rfl | assumption | exact nf (by assumption) | exact nt (by assumption) | ((try simp only [castN]); first | (simp [e6, eq_true en, ew, eq_true es]; done) | (simp [e6, eq_true en, ew, eq_true es]; omega))) ?_ | refine IfK.yes (by first | rfl | assumption | exact nf (by assumption) | exact nt (by assumption) | ((try simp only [castN]); first | (simp [e6, eq_true en, ew, eq_true es]; done) | (simp [e6, eq_true en, ew, eq_true es]; omega))) ?_)
    | ((with_reducible show NeedK _ _ _ _); refine NeedK.mk (by (try simp only [castN]); omega) ?_)
    | ((with_reducible show DrawK _ _ _ _); refine DrawK.mk (by kernel_rfl) (by kernel_rfl) (by kernel_rfl) ?_)
    | ((with_reducible show HandK _ _ _ _ _); refine HandK.nilNe hu rfl rfl rfl rfl ?_)
    | ((with_reducible show NextK _ _); refine NextK.mk (k + 1, some ⟨kd, dp, nd, wt, er, nm, b1, b2, ol, nw, fr, to, on⟩) ⟨by show k + 1 ≤ l.length; omega, hs⟩ (by show l.length - (k + 1) < l.length - k; omega) ⟨⟨rfl, rfl⟩, ⟨rfl, rfl, rfl, ⟨rfl, rfl⟩, rfl, rfl, hnext, trivial⟩, ⟨⟨rfl, rfl, rfl, rfl, rfl, rfl, rfl, rfl, rfl, rfl, rfl, rfl, rfl, trivial⟩, trivial⟩, trivial⟩)) <;> ((with_reducible conv => whnf); (with_reducible conv => congr <;> reduce); repeat ((first | (with_reducible refine HaltK.mk ?_) | (with_reducible refine StopK.mk ?_)); (with_reducible conv => whnf); (with_reducible conv => congr <;> reduce)))
    | ((with_reducible show (_ ∧ _) ∧ _ ∧ _); refine ⟨⟨rfl, rfl⟩, ?_, ?_⟩ <;> (with_reducible conv => whnf) <;> repeat' (first | (with_reducible exact trivial) | (with_reducible refine And.intro ?_ ?_ <;> with_reducible conv => whnf))))
    · have hkl : k = l.length := by
        have : ¬ (k : Int) < (l.length : Int) := by simpa using h1
        omega
      rw [hkl, List.drop_length] at hch
      refine ⟨⟨rfl, rfl⟩, ?_, ?_⟩ <;> (with_reducible conv => whnf) <;> repeat' (first | (with_reducible exact trivial) | (with_reducible refine And.intro ?_ ?_ <;> with_reducible conv => whnf))
      all_goals exact hch
  · obtain ⟨ykd, ydp, ynd, ywt, yer, ynm, yb1, yb2, yol, ynw, yfr, yto, yon⟩ := y
    ((with_reducible conv => whnf); (with_reducible conv => congr <;> reduce); repeat ((first | (with_reducible refine HaltK.mk ?_) | (with_reducible refine StopK.mk ?_)); (with_reducible conv => whnf); (with_reducible conv => congr <;> reduce)))
    refine IfK.mk (fun h1 => ?_) (fun h1 => ?_) <;> (try simp only [castN] at h1) <;> ((with_reducible conv => whnf); (with_reducible conv => congr <;> reduce); repeat ((first | (with_reducible refine HaltK.mk ?_) | (with_reducible refine StopK.mk ?_)); (with_reducible conv => whnf); (with_reducible conv => congr <;> reduce)))
    · have hk' : k < l.length := by simp only [decide_eq_true_eq] at h1; omega
      obtain ⟨x, hx⟩ : ∃ x, l[k]? = some x := ⟨_, List.getElem?_eq_getElem hk'⟩
      have hnext : ((k + 1 : Nat) : Int) = (k : Int) + 1 := by omega
      have skip := chain_skip (n := n) (s := s) hx (some ⟨ykd, ydp, ynd, ywt, yer, ynm, yb1, yb2, yol, ynw, yfr, yto, yon⟩)
      have go := chain_go (n := n) (s := s) hx (some ⟨ykd, ydp, ynd, ywt, yer, ynm, yb1, yb2, yol, ynw, yfr, yto, yon⟩)
      have stop := chain_stop (n := n) (s := s) hx (some ⟨ykd, ydp, ynd, ywt, yer, ynm, yb1, yb2, yol, ynw, yfr, yto, yon⟩)
      rw [← hch] at skip go stop
      obtain ⟨kd, dp, nd, wt, er, nm, b1, b2, ol, nw, fr, to, on⟩ := x
      unfold isChange at skip go stop
      unfold breaksM at go stop
      simp only [Option.map_some, Option.getD_some] at skip go stop
      refine IdxK.mk k (eMk ⟨kd, dp, nd, wt, er, nm, b1, b2, ol, nw, fr, to, on⟩) rfl (mk_get hx) ?_; ((with_reducible conv => whnf); (with_reducible conv => congr <;> reduce); repeat ((first | (with_reducible refine HaltK.mk ?_) | (with_reducible refine StopK.mk ?_)); (with_reducible conv => whnf); (with_reducible conv => congr <;> reduce)))
      have hf : (¬ kd = 6 ∨ (kd = 6 ∧ ¬ nd = n) ∨ (kd = 6 ∧ nd = n ∧ ¬ wt = 4) ∨ (kd = 6 ∧ nd = n ∧ wt = 4 ∧ ¬ nm = s)) ∨ (kd = 6 ∧ nd = n ∧ wt = 4 ∧ nm = s) := by
        by_cases e6 : kd = 6
        · by_cases en : nd = n
          · by_cases ew : wt = 4
            · by_cases es : nm = s
              · right; exact ⟨e6, en, ew, es⟩
              · left; exact .inr (.inr (.inr ⟨e6, en, ew, es⟩))
            · left; exact .inr (.inr (.inl ⟨e6, en, ew⟩))
          · left; exact .inr (.inl ⟨e6, en⟩)
        · left; exact .inl e6
      rcases hf with (e6 | ⟨e6, en⟩ | ⟨e6, en, ew⟩ | ⟨e6, en, ew, es⟩) | ⟨e6, en, ew, es⟩
      · have hs := skip (by simp [e6])
        repeat' (first
    | (first
    | ((with_reducible show IfK _ _ _ _); first | refine IfK.ff ?_ | refine IfK.tt ?_ | refine IfK.no (by first | rfl | assumption | exact nf (by assumption) | exact nt (by assumption) | ((try simp only [castN]); first | (simp [eq_false e6]; done) | (simp [eq_false e6]; omega))) ?_ | refine IfK.yes (by first | rfl | assumption | exact nf (by assumption) | exact nt (by assumption) | ((try simp only [castN]); first | (simp [eq_false e6]; done) | (simp [eq_false e6]; omega))) ?_)
    | ((with_reducible show NeedK _ _ _ _); refine NeedK.mk (by (try simp only [castN]); omega) ?_)
    | ((with_reducible show DrawK _ _ _ _); refine DrawK.mk (by kernel_rfl) (by kernel_rfl) (by kernel_rfl) ?_)
    | ((with_reducible show NextK _ _); refine NextK.mk (k + 1, some ⟨ykd, ydp, ynd, ywt, yer, ynm, yb1, yb2, yol, ynw, yfr, yto, yon⟩) ⟨by show k + 1 ≤ l.length; omega, hs⟩ (by show l.length - (k + 1) < l.length - k; omega) ⟨⟨rfl, rfl⟩, ⟨rfl, rfl, rfl, ⟨rfl, rfl⟩, rfl, rfl, hnext, trivial⟩, ⟨⟨rfl, rfl, rfl, rfl, rfl, rfl, rfl, rfl, rfl, rfl, rfl, rfl, rfl, trivial⟩, trivial⟩, trivial⟩)) <;> ((with_reducible conv => whnf); (with_reducible conv => congr <;> reduce); repeat ((first | (with_reducible refine HaltK.mk ?_) | (with_reducible refine StopK.mk ?_)); (with_reducible conv => whnf); (with_reducible conv => congr <;> reduce)))
    | ((with_reducible show (_ ∧ _) ∧ _ ∧ _); refine ⟨⟨rfl, rfl⟩, ?_, ?_⟩ <;> (with_reducible conv => whnf) <;> repeat' (first | (with_reducible exact trivial) | (with_reducible refine And.intro ?_ ?_ <;> with_reducible conv => whnf))))
      · have hs := skip (by simp [en])
        repeat' (first
    | (first
    | ((with_reducible show IfK _ _ _ _); first | refine IfK.ff ?_ | refine IfK.tt ?_ | refine IfK.no (by first | rfl | assumption | exact nf (by assumption) | exact nt (by assumption) | ((try simp only [castN]); first | (simp [e6, eq_false en]; done) | (simp [e6, eq_false en]; omega))) ?_ | refine IfK.yes (by first | rfl | assumption | exact nf (by assumption) | exact nt (by assumption) | ((try simp only [castN]); first | (simp [e6, eq_false en]; done) | (simp [e6, eq_false en]; omega))) ?_)
    | ((with_reducible show NeedK _ _ _ _); refine NeedK.mk (by (try simp only [castN]); omega) ?_)
    | ((with_reducible show DrawK _ _ _ _); refine DrawK.mk (by kernel_rfl) (by kernel_rfl) (by kernel_rfl) ?_)
    | ((with_reducible show NextK _ _); refine NextK.mk (k + 1, some ⟨ykd, ydp, ynd, ywt, yer, ynm, yb1, yb2, yol, ynw, yfr, yto, yon⟩) ⟨by show k + 1 ≤ l.length; omega, hs⟩ (by show l.length - (k + 1) < l.length - k; omega) ⟨⟨rfl, rfl⟩, ⟨rfl, rfl, rfl, ⟨rfl, rfl⟩, rfl, rfl, hnext, trivial⟩, ⟨⟨rfl, rfl, rfl, rfl, rfl, rfl, rfl, rfl, rfl, rfl, rfl, rfl, rfl, trivial⟩, trivial⟩, trivial⟩)) <;> ((with_reducible conv => whnf); (with_reducible conv => congr <;> reduce); repeat ((first | (with_reducible refine HaltK.mk ?_) | (with_reducible refine StopK.mk ?_)); (with_reducible conv => whnf); (with_reducible conv => congr <;> reduce)))
    | ((with_reducible show (_ ∧ _) ∧ _ ∧ _); refine ⟨⟨rfl, rfl⟩, ?_, ?_⟩ <;> (with_reducible conv => whnf) <;> repeat' (first | (with_reducible exact trivial) | (with_reducible refine And.intro ?_ ?_ <;> with_reducible conv => whnf))))
      · have hs := skip (by simp [ew])
        repeat' (first
    | (first
    | ((with_reducible show IfK _ _ _ _); first | refine IfK.ff ?_ | refine IfK.tt ?_ | refine IfK.no (by first | rfl | assumption | exact nf (by assumption) | exact nt (by assumption) | ((try simp only [castN]); first | (simp [e6, eq_true en, eq_false ew]; done) | (simp [e6, eq_true en, eq_false ew]; omega))) ?_ | refine IfK.yes (by first | rfl | assumption | exact nf (by assumption) | exact nt (by assumption) | ((try simp only [castN]); first | (simp [e6, eq_true en, eq_false ew]; done) | (simp [e6, eq_true en, eq_false ew]; omega))) ?_)
    | ((with_reducible show NeedK _ _ _ _); refine NeedK.mk (by (try simp only [castN]); omega) ?_)
    | ((with_reducible show DrawK _ _ _ _); refine DrawK.mk (by kernel_rfl) (by kernel_rfl) (by kernel_rfl) ?_)
    | ((with_reducible show NextK _ _); refine NextK.mk (k + 1, some ⟨ykd, ydp, ynd, ywt, yer, ynm, yb1, yb2, yol, ynw, yfr, yto, yon⟩) ⟨by show k + 1 ≤ l.length; omega, hs⟩ (by show l.length - (k + 1) < l.length - k; omega) ⟨⟨rfl, rfl⟩, ⟨rfl, rfl, rfl, ⟨rfl, rfl⟩, rfl, rfl, hnext, trivial⟩, ⟨⟨rfl, rfl, rfl, rfl, rfl, rfl, rfl, rfl, rfl, rfl, rfl, rfl, rfl, trivial⟩, trivial⟩, trivial⟩)) <;> ((with_reducible conv => whnf); (with_reducible conv => congr <;> reduce); repeat ((first | (with_reducible refine HaltK.mk ?_) | (with_reducible refine StopK.mk ?_)); (with_reducible conv => whnf); (with_reducible conv => congr <;> reduce)))
    | ((with_reducible show (_ ∧ _) ∧ _ ∧ _); refine ⟨⟨rfl, rfl⟩, ?_, ?_⟩ <;> (with_reducible conv => whnf) <;> repeat' (first | (with_reducible exact trivial) | (with_reducible refine And.intro ?_ ?_ <;> with_reducible conv => whnf))))
      · have hs := skip (by simp [es])
        repeat' (first
    | (first
    | ((with_reducible show IfK _ _ _ _); first | refine IfK.ff ?_ | refine IfK.tt ?_ | refine IfK.no (by first | rfl | assumption | exact nf (by assumption) | exact nt (by assumption) | ((try simp only [castN]); first | (simp [e6, eq_true en, ew, eq_false es]; done) | (simp [e6, eq_true en, ew, eq_false es]; omega))) ?_ | refine IfK.yes (by first | rfl | assumption | exact nf (by assumption) | exact nt (by assumption) | ((try simp only [castN]); first | (simp [e6, eq_true en, ew, eq_false es]; done) | (simp [e6, eq_true en, ew, eq_false es]; omega))) ?_)
    | ((with_reducible show NeedK _ _ _ _); refine NeedK.mk (by (try simp only [castN]); omega) ?_)
    | ((with_reducible show DrawK _ _ _ _); refine DrawK.mk (by kernel_rfl) (by kernel_rfl) (by kernel_rfl) ?_)
    | ((with_reducible show NextK _ _); refine NextK.mk (k + 1, some ⟨ykd, ydp, ynd, ywt, yer, ynm, yb1, yb2, yol, ynw, yfr, yto, yon⟩) ⟨by show k + 1 ≤ l.length; omega, hs⟩ (by show l.length - (k + 1) < l.length - k; omega) ⟨⟨rfl, rfl⟩, ⟨rfl, rfl, rfl, ⟨rfl, rfl⟩, rfl, rfl, hnext, trivial⟩, ⟨⟨rfl, rfl, rfl, rfl, rfl, rfl, rfl, rfl, rfl, rfl, rfl, rfl, rfl, trivial⟩, trivial⟩, trivial⟩)) <;> ((with_reducible conv => whnf); (with_reducible conv => congr <;> reduce); repeat ((first | (with_reducible refine HaltK.mk ?_) | (with_reducible refine StopK.mk ?_)); (with_reducible conv => whnf); (with_reducible conv => congr <;> reduce)))
    | ((with_reducible show (_ ∧ _) ∧ _ ∧ _); refine ⟨⟨rfl, rfl⟩, ?_, ?_⟩ <;> (with_reducible conv => whnf) <;> repeat' (first | (with_reducible exact trivial) | (with_reducible refine And.intro ?_ ?_ <;> with_reducible conv => whnf))))
      · by_cases hh : b1 = yb2
        · subst hh
          by_cases ho : ol = ynw
          · have hs := go (by simp [e6, en, ew, es]) (by simp [ho])
            repeat' (first
    | (first
    | ((with_reducible show IfK _ _ _ _); first | refine IfK.ff ?_ | refine IfK.tt ?_ | refine IfK.no (by first | rfl | assumption | exact nf (by assumption) | exact nt (by assumption) | ((try simp only [castN]); first | (simp [e6, eq_true en, ew, eq_true es, eq_true ho]; done) | (simp [e6, eq_true en, ew, eq_true es, eq_true ho]; omega))) ?_ | refine IfK.yes (by first | rfl | assumption | exact nf (by assumption) | exact nt (by assumption) | ((try simp only [castN]); first | (simp [e6, eq_true en, ew, eq_true es, eq_true ho]; done) | (simp [e6, eq_true en, ew, eq_true es, eq_true ho]; omega))) ?_)
    | ((with_reducible show NeedK _ _ _ _); refine NeedK.mk (by (try simp only [castN]); omega) ?_)
    | ((with_reducible show DrawK _ _ _ _); refine DrawK.mk (by kernel_rfl) (by kernel_rfl) (by kernel_rfl) ?_)
    | ((with_reducible show HandK _ _ _ _ _); refine HandK.ptrNe hu rfl rfl rfl rfl ?_)
    | ((with_reducible show NextK _ _); refine NextK.mk (k + 1, some ⟨kd, dp, nd, wt, er, nm, b1, b2, ol, nw, fr, to, on⟩) ⟨by show k + 1 ≤ l.length; omega, hs⟩ (by show l.length - (k + 1) < l.length - k; omega) ⟨⟨rfl, rfl⟩, ⟨rfl, rfl, rfl, ⟨rfl, rfl⟩, rfl, rfl, hnext, trivial⟩, ⟨⟨rfl, rfl, rfl, rfl, rfl, rfl, rfl, rfl, rfl, rfl, rfl, rfl, rfl, trivial⟩, trivial⟩, trivial⟩)) <;> ((with_reducible conv => whnf); (with_reducible conv => congr <;> reduce); repeat ((first | (with_reducible refine HaltK.mk ?_) | (with_reducible refine StopK.mk ?_)); (with_reducible conv => whnf); (with_reducible conv => congr <;> reduce)))
    | ((with_reducible show (_ ∧ _) ∧ _ ∧ _); refine ⟨⟨rfl, rfl⟩, ?_, ?_⟩ <;> (with_reducible conv => whnf) <;> repeat' (first | (with_reducible exact trivial) | (with_reducible refine And.intro ?_ ?_ <;> with_reducible conv => whnf))))
          · have hs := stop (by simp [e6, en, ew, es]) (by simp [ho])
            repeat' (first
    | (first
    | ((with_reducible show IfK _ _ _ _); first | refine IfK.ff ?_ | refine IfK.tt ?_ | refine IfK.no (by first | rfl | assumption | exact nf (by assumption) | exact nt (by assumption) | ((try simp only [castN]); first | (simp [e6, eq_true en, ew, eq_true es, eq_false ho]; done) | (simp [e6, eq_true en, ew, eq_true es, eq_false ho]; omega))) ?_ | refine IfK.yes (by first | rfl | assumption | exact nf (by assumption) | exact nt (by assumption) | ((try simp only [castN]); first | (simp [e6, eq_true en, ew, eq_true es, eq_false ho]; done) | (simp [e6, eq_true en, ew, eq_true es, eq_false ho]; omega))) ?_)
    | ((with_reducible show NeedK _ _ _ _); refine NeedK.mk (by (try simp only [castN]); omega) ?_)
    | ((with_reducible show DrawK _ _ _ _); refine DrawK.mk (by kernel_rfl) (by kernel_rfl) (by kernel_rfl) ?_)
    | ((with_reducible show HandK _ _ _ _ _); refine HandK.ptrNe hu rfl rfl rfl rfl ?_)) <;> ((with_reducible conv => whnf); (with_reducible conv => congr <;> reduce); repeat ((first | (with_reducible refine HaltK.mk ?_) | (with_reducible refine StopK.mk ?_)); (with_reducible conv => whnf); (with_reducible conv => congr <;> reduce)))
    | ((with_reducible show (_ ∧ _) ∧ _ ∧ _); refine ⟨⟨rfl, rfl⟩, ?_, ?_⟩ <;> (with_reducible conv => whnf) <;> repeat' (first | (with_reducible exact trivial) | (with_reducible refine And.intro ?_ ?_ <;> with_reducible conv => whnf))))
            all_goals first | exact hs | trace_state
        · have hb : (b1 == yb2) = false := by simpa using hh
          have hs := stop (by simp [e6, en, ew, es]) (by rw [hb]; simp)
          repeat' (first
    | (first
    | ((with_reducible show IfK _ _ _ _); first | refine IfK.ff ?_ | refine IfK.tt ?_ | refine IfK.no (by first | rfl | assumption | exact nf (by assumption) | exact nt (by assumption) | ((try simp only [castN]); first | (simp [e6, eq_true en, ew, eq_true es, hb]; done) | (simp [e6, eq_true en, ew, eq_true es, hb]; omega))) ?_ | refine IfK.yes (by first | rfl | assumption | exact nf (by assumption) | exact nt (by assumption) | ((try simp only [castN]); first | (simp [e6, eq_true en, ew, eq_true es, hb]; done) | (simp [e6, eq_true en, ew, eq_true es, hb]; omega))) ?_)
    | ((with_reducible show NeedK _ _ _ _); refine NeedK.mk (by (try simp only [castN]); omega) ?_)
    | ((with_reducible show DrawK _ _ _ _); refine DrawK.mk (by kernel_rfl) (by kernel_rfl) (by kernel_rfl) ?_)
    | ((with_reducible show HandK _ _ _ _ _); refine HandK.ptrNe hu rfl rfl rfl rfl ?_)) <;> ((with_reducible conv => whnf); (with_reducible conv => congr <;> reduce); repeat ((first | (with_reducible refine HaltK.mk ?_) | (with_reducible refine StopK.mk ?_)); (with_reducible conv => whnf); (with_reducible conv => congr <;> reduce)))
    | ((with_reducible show (_ ∧ _) ∧ _ ∧ _); refine ⟨⟨rfl, rfl⟩, ?_, ?_⟩ <;> (with_reducible conv => whnf) <;> repeat' (first | (with_reducible exact trivial) | (with_reducible refine And.intro ?_ ?_ <;> with_reducible conv => whnf))))
          all_goals first | exact hs | trace_state
    · have hkl : k = l.length := by
        have : ¬ (k : Int) < (l.length : Int) := by simpa using h1
        omega
      rw [hkl, List.drop_length] at hch
      refine ⟨⟨rfl, rfl⟩, ?_, ?_⟩ <;> (with_reducible conv => whnf) <;> repeat' (first | (with_reducible exact trivial) | (with_reducible refine And.intro ?_ ?_ <;> with_reducible conv => whnf))
      all_goals exact hch
end Go.Proofs.Audit
end
section
set_option linter.unusedSimpArgs false
set_option linter.unusedVariables false
namespace Go.Proofs.Audit
open Go Go.Am Go.RowKit Go.Lib
set_option maxRecDepth 100000
@[reducible] def lastI (last : Option (Nat × MkM)) : Int := match last with
  | none => -1
  | some (j, _) => (j : Int)
set_option maxHeartbeats 16000000 in
/-- ref.Chain -/
theorem f18_ok (l : List MkM) (hl : l.length ≤ 100000) (n : Int) (s : ByteArray) : FnOK Try.prog 18 [] [eMks l, eInt n, eStr s] [] (eInt (chainM n s none 0 l)) := by
  have hlm : (l.map oMk).length = l.length := List.length_map ..
  refine FnOK.startC (rvs := [.tmp 6]) G G_good Try.func18 rfl Try.ntmps18 rfl rfl ?_; delta List.toArray; ((with_reducible conv => whnf); (with_reducible conv => congr <;> reduce); repeat ((first | (with_reducible refine HaltK.mk ?_) | (with_reducible refine StopK.mk ?_)); (with_reducible conv => whnf); (with_reducible conv => congr <;> reduce)))
  refine LoopK.use G G_good (fun (i : Nat × Option (Nat × MkM)) => [(0, eMks l), (1, eInt n), (2, eStr s), (7, eInt (lastI i.2)), (8, eInt i.1)]) (fun _ => []) (fun i => i.1 ≤ l.length ∧ (∀ j y, i.2 = some (j, y) → l[j]? = some y) ∧ chainM n s none 0 l = chainM n s (i.2.map Prod.snd) i.1 (l.drop i.1)) (fun i => l.length - i.1) (0, none) ⟨Nat.zero_le _, (fun j y h => by cases h), rfl⟩
    ⟨⟨rfl, rfl⟩, ⟨rfl, rfl, rfl, rfl, rfl, trivial⟩, trivial⟩ ?_
  rintro ⟨k, last⟩ ⟨hk, hla, hch⟩
  simp only at hk hla hch
  rcases last with _ | ⟨j, y⟩
  · ((with_reducible conv => whnf); (with_reducible conv => congr <;> reduce); repeat ((first | (with_reducible refine HaltK.mk ?_) | (with_reducible refine StopK.mk ?_)); (with_reducible conv => whnf); (with_reducible conv => congr <;> reduce)))
    refine IfK.mk (fun h1 => ?_) (fun h1 => ?_) <;> (try simp only [castN] at h1) <;> ((with_reducible conv => whnf); (with_reducible conv => congr <;> reduce); repeat ((first | (with_reducible refine HaltK.mk ?_) | (with_reducible refine StopK.mk ?_)); (with_reducible conv => whnf); (with_reducible conv => congr <;> reduce)))
    · have hk' : k < l.length := by simp only [decide_eq_true_eq, hlm] at h1; omega
      obtain ⟨x, hx⟩ : ∃ x, l[k]? = some x := ⟨_, List.getElem?_eq_getElem hk'⟩
      have hnext : ((k + 1 : Nat) : Int) = (k : Int) + 1 := by omega
      have skip := chain_skip (n := n) (s := s) hx none
      have go := chain_go (n := n) (s := s) hx none
      have hch' : chainM n s none 0 l = chainM n s none k (l.drop k) := hch
      rw [← hch'] at skip go
      have hlx : ∀ (j : Nat) (y : MkM), some (k, x) = some (j, y) → l[j]? = some y := by
        intro j y h; cases h; exact hx
      obtain ⟨kd, dp, nd, wt, er, nm, b1, b2, ol, nw, fr, to, on⟩ := x
      unfold isChange at skip go
      simp only at skip go
      refine IdxK.mk k (eMk ⟨kd, dp, nd, wt, er, nm, b1, b2, ol, nw, fr, to, on⟩) rfl (mk_get hx) ?_; ((with_reducible conv => whnf); (with_reducible conv => congr <;> reduce); repeat ((first | (with_reducible refine HaltK.mk ?_) | (with_reducible refine StopK.mk ?_)); (with_reducible conv => whnf); (with_reducible conv => congr <;> reduce)))
      have hf : (¬ kd = 6 ∨ (kd = 6 ∧ ¬ nd = n) ∨ (kd = 6 ∧ nd = n ∧ ¬ wt = 4) ∨ (kd = 6 ∧ nd = n ∧ wt = 4 ∧ ¬ nm = s)) ∨ (kd = 6 ∧ nd = n ∧ wt = 4 ∧ nm = s) := by
        by_cases e6 : kd = 6
        · by_cases en : nd = n
          · by_cases ew : wt = 4
            · by_cases es : nm = s
              · right; exact ⟨e6, en, ew, es⟩
              · left; exact .inr (.inr (.inr ⟨e6, en, ew, es⟩))
            · left; exact .inr (.inr (.inl ⟨e6, en, ew⟩))
          · left; exact .inr (.inl ⟨e6, en⟩)
        · left; exact .inl e6
      rcases hf with (e6 | ⟨e6, en⟩ | ⟨e6, en, ew⟩ | ⟨e6, en, ew, es⟩) | ⟨e6, en, ew, es⟩
      · have hs := skip (by simp [e6])
        repeat' (first
    | (first
    | ((with_reducible show IfK _ _ _ _); first | refine IfK.ff ?_ | refine IfK.tt ?_ | refine IfK.no (by first | rfl | assumption | exact nf (by assumption) | exact nt (by assumption) | ((try simp only [castN]); first | (simp [eq_false e6]; done) | (simp [eq_false e6]; omega))) ?_ | refine IfK.yes (by first | rfl | assumption | exact nf (by assumption) | exact nt (by assumption) | ((try simp only [castN]); first | (simp [eq_false e6]; done) | (simp [eq_false e6]; omega))) ?_)
    | ((with_reducible show NeedK _ _ _ _); refine NeedK.mk (by (try simp only [castN]); omega) ?_)
    | ((with_reducible show DrawK _ _ _ _); refine DrawK.mk (by kernel_rfl) (by kernel_rfl) (by kernel_rfl) ?_)
    | ((with_reducible show NextK _ _); refine NextK.mk (k + 1, none) ⟨by show k + 1 ≤ l.length; omega, hla, hs⟩ (by show l.length - (k + 1) < l.length - k; omega) ⟨⟨rfl, rfl⟩, ⟨rfl, rfl, rfl, rfl, hnext, trivial⟩, trivial⟩)) <;> ((with_reducible conv => whnf); (with_reducible conv => congr <;> reduce); repeat ((first | (with_reducible refine HaltK.mk ?_) | (with_reducible refine StopK.mk ?_)); (with_reducible conv => whnf); (with_reducible conv => congr <;> reduce)))
    | ((with_reducible show (_ ∧ _) ∧ _ ∧ _); refine ⟨⟨rfl, rfl⟩, ?_, ?_⟩ <;> (with_reducible conv => whnf) <;> repeat' (first | (with_reducible exact trivial) | (with_reducible refine And.intro ?_ ?_ <;> with_reducible conv => whnf))))
      · have hs := skip (by simp [en])
        repeat' (first
    | (first
    | ((with_reducible show IfK _ _ _ _); first | refine IfK.ff ?_ | refine IfK.tt ?_ | refine IfK.no (by first | rfl | assumption | exact nf (by assumption) | exact nt (by assumption) | ((try simp only [castN]); first | (simp [e6, eq_false en]; done) | (simp [e6, eq_false en]; omega))) ?_ | refine IfK.yes (by first | rfl | assumption | exact nf (by assumption) | exact nt (by assumption) | ((try simp only [castN]); first | (simp [e6, eq_false en]; done) | (simp [e6, eq_false en]; omega))) ?_)
    | ((with_reducible show NeedK _ _ _ _); refine NeedK.mk (by (try simp only [castN]); omega) ?_)
    | ((with_reducible show DrawK _ _ _ _); refine DrawK.mk (by kernel_rfl) (by kernel_rfl) (by kernel_rfl) ?_)
    | ((with_reducible show NextK _ _); refine NextK.mk (k + 1, none) ⟨by show k + 1 ≤ l.length; omega, hla, hs⟩ (by show l.length - (k + 1) < l.length - k; omega) ⟨⟨rfl, rfl⟩, ⟨rfl, rfl, rfl, rfl, hnext, trivial⟩, trivial⟩)) <;> ((with_reducible conv => whnf); (with_reducible conv => congr <;> reduce); repeat ((first | (with_reducible refine HaltK.mk ?_) | (with_reducible refine StopK.mk ?_)); (with_reducible conv => whnf); (with_reducible conv => congr <;> reduce)))
    | ((with_reducible show (_ ∧ _) ∧ _ ∧ _); refine ⟨⟨rfl, rfl⟩, ?_, ?_⟩ <;> (with_reducible conv => whnf) <;> repeat' (first | (with_reducible exact trivial) | (with_reducible refine And.intro ?_ ?_ <;> with_reducible conv => whnf))))
      · have hs := skip (by simp [ew])
        repeat' (first
    | (first
    | ((with_reducible show IfK _ _ _ _); first | refine IfK.ff ?_ | refine IfK.tt ?_ | refine IfK.no (by first | rfl | assumption | exact nf (by assumption) | exact nt (by assumption) | ((try simp only [castN]); first | (simp [e6, eq_true en, eq_false ew]; done) | (simp [e6, eq_true en, eq_false ew]; omega))) ?_ | refine IfK.yes (by first | rfl | assumption | exact nf (by assumption) | exact nt (by assumption) | ((try simp only [castN]); first | (simp [e6, eq_true en, eq_false ew]; done) | (simp [e6, eq_true en, eq_false ew]; omega))) ?_)
    | ((with_reducible show NeedK _ _ _ _); refine NeedK.mk (by (try simp only [castN]); omega) ?_)
    | ((with_reducible show DrawK _ _ _ _); refine DrawK.mk (by kernel_rfl) (by kernel_rfl) (by kernel_rfl) ?_)
    | ((with_reducible show NextK _ _); refine NextK.mk (k + 1, none) ⟨by show k + 1 ≤ l.length; omega, hla, hs⟩ (by show l.length - (k + 1) < l.length - k; omega) ⟨⟨rfl, rfl⟩, ⟨rfl, rfl, rfl, rfl, hnext, trivial⟩, trivial⟩)) <;> ((with_reducible conv => whnf); (with_reducible conv => congr <;> reduce); repeat ((first | (with_reducible refine HaltK.mk ?_) | (with_reducible refine StopK.mk ?_)); (with_reducible conv => whnf); (with_reducible conv => congr <;> reduce)))
    | ((with_reducible show (_ ∧ _) ∧ _ ∧ _); refine ⟨⟨rfl, rfl⟩, ?_, ?_⟩ <;> (with_reducible conv => whnf) <;> repeat' (first | (with_reducible exact trivial) | (with_reducible refine And.intro ?_ ?_ <;> with_reducible conv => whnf))))
      · have hs := skip (by simp [es])
        repeat' (first
    | (first
    | ((with_reducible show IfK _ _ _ _); first | refine IfK.ff ?_ | refine IfK.tt ?_ | refine IfK.no (by first | rfl | assumption | exact nf (by assumption) | exact nt (by assumption) | ((try simp only [castN]); first | (simp [e6, eq_true en, ew, eq_false es]; done) | (simp [e6, eq_true en, ew, eq_false es]; omega))) ?_ | refine IfK.yes (by first | rfl | assumption | exact nf (by assumption) | exact nt (by assumption) | ((try simp only [castN]); first | (simp [e6, eq_true en, ew, eq_false es]; done) | (simp [e6, eq_true en, ew, eq_false es]; omega))) ?_)
    | ((with_reducible show NeedK _ _ _ _); refine NeedK.mk (by (try simp only [castN]); omega) ?_)
    | ((with_reducible show DrawK _ _ _ _); refine DrawK.mk (by kernel_rfl) (by kernel_rfl) (by kernel_rfl) ?_)
    | ((with_reducible show NextK _ _); refine NextK.mk (k + 1, none) ⟨by show k + 1 ≤ l.length; omega, hla, hs⟩ (by show l.length - (k + 1) < l.length - k; omega) ⟨⟨rfl, rfl⟩, ⟨rfl, rfl, rfl, rfl, hnext, trivial⟩, trivial⟩)) <;> ((with_reducible conv => whnf); (with_reducible conv => congr <;> reduce); repeat ((first | (with_reducible refine HaltK.mk ?_) | (with_reducible refine StopK.mk ?_)); (with_reducible conv => whnf); (with_reducible conv => congr <;> reduce)))
    | ((with_reducible show (_ ∧ _) ∧ _ ∧ _); refine ⟨⟨rfl, rfl⟩, ?_, ?_⟩ <;> (with_reducible conv => whnf) <;> repeat' (first | (with_reducible exact trivial) | (with_reducible refine And.intro ?_ ?_ <;> with_reducible conv => whnf))))
      · have hs := go (by simp [e6, en, ew, es]) rfl
        repeat' (first
    | (first
    | ((with_reducible show IfK _ _ _ _); first | refine IfK.ff ?_ | refine IfK.tt ?_ | refine IfK.no (by first | rfl | assumption | exact nf (by assumption) | exact nt (by assumption) | ((try simp only [castN]); first | (simp [e6, eq_true en, ew, eq_true es]; done) | (simp [e6, eq_true en, ew, eq_true es]; omega))) ?_ | refine IfK.yes (by first | rfl | assumption | exact nf (by assumption) | exact nt (by assumption) | ((try simp only [castN]); first | (simp [e6, eq_true en, ew, eq_true es]; done) | (simp [e6, eq_true en, ew, eq_true es]; omega))) ?_)
    | ((with_reducible show NeedK _ _ _ _); refine NeedK.mk (by (try simp only [castN]); omega) ?_)
    | ((with_reducible show DrawK _ _ _ _); refine DrawK.mk (by kernel_rfl) (by kernel_rfl) (by kernel_rfl) ?_)
    | ((with_reducible show NextK _ _); refine NextK.mk (k + 1, (some (k, ⟨kd, dp, nd, wt, er, nm, b1, b2, ol, nw, fr, to, on⟩))) ⟨by show k + 1 ≤ l.length; omega, hlx, hs⟩ (by show l.length - (k + 1) < l.length - k; omega) ⟨⟨rfl, rfl⟩, ⟨rfl, rfl, rfl, rfl, hnext, trivial⟩, trivial⟩)) <;> ((with_reducible conv => whnf); (with_reducible conv => congr <;> reduce); repeat ((first | (with_reducible refine HaltK.mk ?_) | (with_reducible refine StopK.mk ?_)); (with_reducible conv => whnf); (with_reducible conv => congr <;> reduce)))
    | ((with_reducible show (_ ∧ _) ∧ _ ∧ _); refine ⟨⟨rfl, rfl⟩, ?_, ?_⟩ <;> (with_reducible conv => whnf) <;> repeat' (first | (with_reducible exact trivial) | (with_reducible refine And.intro ?_ ?_ <;> with_reducible conv => whnf))))
    · have hkl : k = l.length := by
        have : ¬ (k : Int) < (l.length : Int) := by simpa using h1
        omega
      rw [hkl, List.drop_length] at hch
      refine ⟨⟨rfl, rfl⟩, ?_, ?_⟩ <;> (with_reducible conv => whnf) <;> repeat' (first | (with_reducible exact trivial) | (with_reducible refine And.intro ?_ ?_ <;> with_reducible conv => whnf))
      all_goals exact hch
  · have hy := hla j y rfl
    have hj0 : (0 ≤ (j : Int)) = True := eq_true (by omega)
    obtain ⟨ykd, ydp, ynd, ywt, yer, ynm, yb1, yb2, yol, ynw, yfr, yto, yon⟩ := y
    ((with_reducible conv => whnf); (with_reducible conv => congr <;> reduce); repeat ((first | (with_reducible refine HaltK.mk ?_) | (with_reducible refine StopK.mk ?_)); (with_reducible conv => whnf); (with_reducible conv => congr <;> reduce)))
    refine IfK.mk (fun h1 => ?_) (fun h1 => ?_) <;> (try simp only [castN] at h1) <;> ((with_reducible conv => whnf); (with_reducible conv => congr <;> reduce); repeat ((first | (with_reducible refine HaltK.mk ?_) | (with_reducible refine StopK.mk ?_)); (with_reducible conv => whnf); (with_reducible conv => congr <;> reduce)))
    · have hk' : k < l.length := by simp only [decide_eq_true_eq, hlm] at h1; omega
      obtain ⟨x, hx⟩ : ∃ x, l[k]? = some x := ⟨_, List.getElem?_eq_getElem hk'⟩
      have hnext : ((k + 1 : Nat) : Int) = (k : Int) + 1 := by omega
      have skip := chain_skip (n := n) (s := s) hx (some ⟨ykd, ydp, ynd, ywt, yer, ynm, yb1, yb2, yol, ynw, yfr, yto, yon⟩)
      have go := chain_go (n := n) (s := s) hx (some ⟨ykd, ydp, ynd, ywt, yer, ynm, yb1, yb2, yol, ynw, yfr, yto, yon⟩)
      have stop := chain_stop (n := n) (s := s) hx (some ⟨ykd, ydp, ynd, ywt, yer, ynm, yb1, yb2, yol, ynw, yfr, yto, yon⟩)
      have hch' : chainM n s none 0 l = chainM n s (some ⟨ykd, ydp, ynd, ywt, yer, ynm, yb1, yb2, yol, ynw, yfr, yto, yon⟩) k (l.drop k) := hch
      rw [← hch'] at skip go stop
      have hlx : ∀ (j : Nat) (y : MkM), some (k, x) = some (j, y) → l[j]? = some y := by
        intro j y h; cases h; exact hx
      obtain ⟨kd, dp, nd, wt, er, nm, b1, b2, ol, nw, fr, to, on⟩ := x
      unfold isChange at skip go stop
      unfold breaksM at go stop
      simp only [Option.map_some, Option.getD_some] at skip go stop
      refine IdxK.mk k (eMk ⟨kd, dp, nd, wt, er, nm, b1, b2, ol, nw, fr, to, on⟩) rfl (mk_get hx) ?_; ((with_reducible conv => whnf); (with_reducible conv => congr <;> reduce); repeat ((first | (with_reducible refine HaltK.mk ?_) | (with_reducible refine StopK.mk ?_)); (with_reducible conv => whnf); (with_reducible conv => congr <;> reduce)))
      have hf : (¬ kd = 6 ∨ (kd = 6 ∧ ¬ nd = n) ∨ (kd = 6 ∧ nd = n ∧ ¬ wt = 4) ∨ (kd = 6 ∧ nd = n ∧ wt = 4 ∧ ¬ nm = s)) ∨ (kd = 6 ∧ nd = n ∧ wt = 4 ∧ nm = s) := by
        by_cases e6 : kd = 6
        · by_cases en : nd = n
          · by_cases ew : wt = 4
            · by_cases es : nm = s
              · right; exact ⟨e6, en, ew, es⟩
              · left; exact .inr (.inr (.inr ⟨e6, en, ew, es⟩))
            · left; exact .inr (.inr (.inl ⟨e6, en, ew⟩))
          · left; exact .inr (.inl ⟨e6, en⟩)
        · left; exact .inl e6
      rcases hf with (e6 | ⟨e6, en⟩ | ⟨e6, en, ew⟩ | ⟨e6, en, ew, es⟩) | ⟨e6, en, ew, es⟩
      · have hs := skip (by simp [e6])
        repeat' (first
    | (first
    | ((with_reducible show IfK _ _ _ _); first | refine IfK.ff ?_ | refine IfK.tt ?_ | refine IfK.no (by first | rfl | assumption | exact nf (by assumption) | exact nt (by assumption) | ((try simp only [castN]); first | (simp [eq_false e6]; done) | (simp [eq_false e6]; omega))) ?_ | refine IfK.yes (by first | rfl | assumption | exact nf (by assumption) | exact nt (by assumption) | ((try simp only [castN]); first | (simp [eq_false e6]; done) | (simp [eq_false e6]; omega))) ?_)
    | ((with_reducible show NeedK _ _ _ _); refine NeedK.mk (by (try simp only [castN]); omega) ?_)
    | ((with_reducible show DrawK _ _ _ _); refine DrawK.mk (by kernel_rfl) (by kernel_rfl) (by kernel_rfl) ?_)
    | ((with_reducible show NextK _ _); refine NextK.mk (k + 1, (some (j, ⟨ykd, ydp, ynd, ywt, yer, ynm, yb1, yb2, yol, ynw, yfr, yto, yon⟩))) ⟨by show k + 1 ≤ l.length; omega, hla, hs⟩ (by show l.length - (k + 1) < l.length - k; omega) ⟨⟨rfl, rfl⟩, ⟨rfl, rfl, rfl, rfl, hnext, trivial⟩, trivial⟩)) <;> ((with_reducible conv => whnf); (with_reducible conv => congr <;> reduce); repeat ((first | (with_reducible refine HaltK.mk ?_) | (with_reducible refine StopK.mk ?_)); (with_reducible conv => whnf); (with_reducible conv => congr <;> reduce)))
    | ((with_reducible show (_ ∧ _) ∧ _ ∧ _); refine ⟨⟨rfl, rfl⟩, ?_, ?_⟩ <;> (with_reducible conv => whnf) <;> repeat' (first | (with_reducible exact trivial) | (with_reducible refine And.intro ?_ ?_ <;> with_reducible conv => whnf))))
      · have hs := skip (by simp [en])
        repeat' (first
    | (first
    | ((with_reducible show IfK _ _ _ _); first | refine IfK.ff ?_ | refine IfK.tt ?_ | refine IfK.no (by first | rfl | assumption | exact nf (by assumption) | exact nt (by assumption) | ((try simp only [castN]); first | (simp [e6, eq_false en]; done) | (simp [e6, eq_false en]; omega))) ?_ | refine IfK.yes (by first | rfl | assumption | exact nf (by assumption) | exact nt (by assumption) | ((try simp only [castN]); first | (simp [e6, eq_false en]; done) | (simp [e6, eq_false en]; omega))) ?_)
    | ((with_reducible show NeedK _ _ _ _); refine NeedK.mk (by (try simp only [castN]); omega) ?_)
    | ((with_reducible show DrawK _ _ _ _); refine DrawK.mk (by kernel_rfl) (by kernel_rfl) (by kernel_rfl) ?_)
    | ((with_reducible show NextK _ _); refine NextK.mk (k + 1, (some (j, ⟨ykd, ydp, ynd, ywt, yer, ynm, yb1, yb2, yol, ynw, yfr, yto, yon⟩))) ⟨by show k + 1 ≤ l.length; omega, hla, hs⟩ (by show l.length - (k + 1) < l.length - k; omega) ⟨⟨rfl, rfl⟩, ⟨rfl, rfl, rfl, rfl, hnext, trivial⟩, trivial⟩)) <;> ((with_reducible conv => whnf); (with_reducible conv => congr <;> reduce); repeat ((first | (with_reducible refine HaltK.mk ?_) | (with_reducible refine StopK.mk ?_)); (with_reducible conv => whnf); (with_reducible conv => congr <;> reduce)))
    | ((with_reducible show (_ ∧ _) ∧ _ ∧ _); refine ⟨⟨rfl, rfl⟩, ?_, ?_⟩ <;> (with_reducible conv => whnf) <;> repeat' (first | (with_reducible exact trivial) | (with_reducible refine And.intro ?_ ?_ <;> with_reducible conv => whnf))))
      · have hs := skip (by simp [ew])
        repeat' (first
    | (first
    | ((with_reducible show IfK _ _ _ _); first | refine IfK.ff ?_ | refine IfK.tt ?_ | refine IfK.no (by first | rfl | assumption | exact nf (by assumption) | exact nt (by assumption) | ((try simp only [castN]); first | (simp [e6, eq_true en, eq_false ew]; done) | (simp [e6, eq_true en, eq_false ew]; omega))) ?_ | refine IfK.yes (by first | rfl | assumption | exact nf (by assumption) | exact nt (by assumption) | ((try simp only [castN]); first | (simp [e6, eq_true en, eq_false ew]; done) | (simp [e6, eq_true en, eq_false ew]; omega))) ?_)
    | ((with_reducible show NeedK _ _ _ _); refine NeedK.mk (by (try simp only [castN]); omega) ?_)
    | ((with_reducible show DrawK _ _ _ _); refine DrawK.mk (by kernel_rfl) (by kernel_rfl) (by kernel_rfl) ?_)
    | ((with_reducible show NextK _ _); refine NextK.mk (k + 1, (some (j, ⟨ykd, ydp, ynd, ywt, yer, ynm, yb1, yb2, yol, ynw, yfr, yto, yon⟩))) ⟨by show k + 1 ≤ l.length; omega, hla, hs⟩ (by show l.length - (k + 1) < l.length - k; omega) ⟨⟨rfl, rfl⟩, ⟨rfl, rfl, rfl, rfl, hnext, trivial⟩, trivial⟩)) <;> ((with_reducible conv => whnf); (with_reducible conv => congr <;> reduce); repeat ((first | (with_reducible refine HaltK.mk ?_) | (with_reducible refine StopK.mk ?_)); (with_reducible conv => whnf); (with_reducible conv => congr <;> reduce)))
    | ((with_reducible show (_ ∧ _) ∧ _ ∧ _); refine ⟨⟨rfl, rfl⟩, ?_, ?_⟩ <;> (with_reducible conv => whnf) <;> repeat' (first | (with_reducible exact trivial) | (with_reducible refine And.intro ?_ ?_ <;> with_reducible conv => whnf))))
      · have hs := skip (by simp [es])
        repeat' (first
    | (first
    | ((with_reducible show IfK _ _ _ _); first | refine IfK.ff ?_ | refine IfK.tt ?_ | refine IfK.no (by first | rfl | assumption | exact nf (by assumption) | exact nt (by assumption) | ((try simp only [castN]); first | (simp [e6, eq_true en, ew, eq_false es]; done) | (simp [e6, eq_true en, ew, eq_false es]; omega))) ?_ | refine IfK.yes (by first | rfl | assumption | exact nf (by assumption) | exact nt (by assumption) | ((try simp only [castN]); first | (simp [e6, eq_true en, ew, eq_false es]; done) | (simp [e6, eq_true en, ew, eq_false es]; omega))) ?_)
    | ((with_reducible show NeedK _ _ _ _); refine NeedK.mk (by (try simp only [castN]); omega) ?_)
    | ((with_reducible show DrawK _ _ _ _); refine DrawK.mk (by kernel_rfl) (by kernel_rfl) (by kernel_rfl) ?_)
    | ((with_reducible show NextK _ _); refine NextK.mk (k + 1, (some (j, ⟨ykd, ydp, ynd, ywt, yer, ynm, yb1, yb2, yol, ynw, yfr, yto, yon⟩))) ⟨by show k + 1 ≤ l.length; omega, hla, hs⟩ (by show l.length - (k + 1) < l.length - k; omega) ⟨⟨rfl, rfl⟩, ⟨rfl, rfl, rfl, rfl, hnext, trivial⟩, trivial⟩)) <;> ((with_reducible conv => whnf); (with_reducible conv => congr <;> reduce); repeat ((first | (with_reducible refine HaltK.mk ?_) | (with_reducible refine StopK.mk ?_)); (with_reducible conv => whnf); (with_reducible conv => congr <;> reduce)))
    | ((with_reducible show (_ ∧ _) ∧ _ ∧ _); refine ⟨⟨rfl, rfl⟩, ?_, ?_⟩ <;> (with_reducible conv => whnf) <;> repeat' (first | (with_reducible exact trivial) | (with_reducible refine And.intro ?_ ?_ <;> with_reducible conv => whnf))))
      · by_cases hh : yb2 = b1
        · subst hh
          by_cases ho : ynw = ol
          · have hs := go (by simp [e6, en, ew, es]) (by simp [ho])
            repeat' (first
    | (first
    | ((with_reducible show IfK _ _ _ _); first | refine IfK.ff ?_ | refine IfK.tt ?_ | refine IfK.no (by first | rfl | assumption | exact nf (by assumption) | exact nt (by assumption) | ((try simp only [castN]); first | (simp [e6, eq_true en, ew, eq_true es, eq_true ho, hj0]; done) | (simp [e6, eq_true en, ew, eq_true es, eq_true ho, hj0]; omega))) ?_ | refine IfK.yes (by first | rfl | assumption | exact nf (by assumption) | exact nt (by assumption) | ((try simp only [castN]); first | (simp [e6, eq_true en, ew, eq_true es, eq_true ho, hj0]; done) | (simp [e6, eq_true en, ew, eq_true es, eq_true ho, hj0]; omega))) ?_)
    | ((with_reducible show NeedK _ _ _ _); refine NeedK.mk (by (try simp only [castN]); omega) ?_)
    | ((with_reducible show DrawK _ _ _ _); refine DrawK.mk (by kernel_rfl) (by kernel_rfl) (by kernel_rfl) ?_)
    | ((with_reducible show IdxK _ _ _ _ _); refine IdxK.mk j (eMk ⟨ykd, ydp, ynd, ywt, yer, ynm, yb1, yb2, yol, ynw, yfr, yto, yon⟩) rfl (mk_get hy) ?_)
    | ((with_reducible show NextK _ _); refine NextK.mk (k + 1, (some (k, ⟨kd, dp, nd, wt, er, nm, yb2, b2, ol, nw, fr, to, on⟩))) ⟨by show k + 1 ≤ l.length; omega, hlx, hs⟩ (by show l.length - (k + 1) < l.length - k; omega) ⟨⟨rfl, rfl⟩, ⟨rfl, rfl, rfl, rfl, hnext, trivial⟩, trivial⟩)) <;> ((with_reducible conv => whnf); (with_reducible conv => congr <;> reduce); repeat ((first | (with_reducible refine HaltK.mk ?_) | (with_reducible refine StopK.mk ?_)); (with_reducible conv => whnf); (with_reducible conv => congr <;> reduce)))
    | ((with_reducible show (_ ∧ _) ∧ _ ∧ _); refine ⟨⟨rfl, rfl⟩, ?_, ?_⟩ <;> (with_reducible conv => whnf) <;> repeat' (first | (with_reducible exact trivial) | (with_reducible refine And.intro ?_ ?_ <;> with_reducible conv => whnf))))
          · have hs := stop (by simp [e6, en, ew, es]) (by simp [Ne.symm ho])
            repeat' (first
    | (first
    | ((with_reducible show IfK _ _ _ _); first | refine IfK.ff ?_ | refine IfK.tt ?_ | refine IfK.no (by first | rfl | assumption | exact nf (by assumption) | exact nt (by assumption) | ((try simp only [castN]); first | (simp [e6, eq_true en, ew, eq_true es, eq_false ho, hj0]; done) | (simp [e6, eq_true en, ew, eq_true es, eq_false ho, hj0]; omega))) ?_ | refine IfK.yes (by first | rfl | assumption | exact nf (by assumption) | exact nt (by assumption) | ((try simp only [castN]); first | (simp [e6, eq_true en, ew, eq_true es, eq_false ho, hj0]; done) | (simp [e6, eq_true en, ew, eq_true es, eq_false ho, hj0]; omega))) ?_)
    | ((with_reducible show NeedK _ _ _ _); refine NeedK.mk (by (try simp only [castN]); omega) ?_)
    | ((with_reducible show DrawK _ _ _ _); refine DrawK.mk (by kernel_rfl) (by kernel_rfl) (by kernel_rfl) ?_)
    | ((with_reducible show IdxK _ _ _ _ _); refine IdxK.mk j (eMk ⟨ykd, ydp, ynd, ywt, yer, ynm, yb1, yb2, yol, ynw, yfr, yto, yon⟩) rfl (mk_get hy) ?_)) <;> ((with_reducible conv => whnf); (with_reducible conv => congr <;> reduce); repeat ((first | (with_reducible refine HaltK.mk ?_) | (with_reducible refine StopK.mk ?_)); (with_reducible conv => whnf); (with_reducible conv => congr <;> reduce)))
    | ((with_reducible show (_ ∧ _) ∧ _ ∧ _); refine ⟨⟨rfl, rfl⟩, ?_, ?_⟩ <;> (with_reducible conv => whnf) <;> repeat' (first | (with_reducible exact trivial) | (with_reducible refine And.intro ?_ ?_ <;> with_reducible conv => whnf))))
            all_goals first | exact hs | trace_state
        · have hb : (yb2 == b1) = false := by simpa using hh
          have hb' : (b1 == yb2) = false := by simpa using Ne.symm hh
          have hs := stop (by simp [e6, en, ew, es]) (by rw [hb']; simp)
          repeat' (first
    | (first
    | ((with_reducible show IfK _ _ _ _); first | refine IfK.ff ?_ | refine IfK.tt ?_ | refine IfK.no (by first | rfl | assumption | exact nf (by assumption) | exact nt (by assumption) | ((try simp only [castN]); first | (simp [e6, eq_true en, ew, eq_true es, hb, hj0]; done) | (simp [e6, eq_true en, ew, eq_true es, hb, hj0]; omega))) ?_ | refine IfK.yes (by first | rfl | assumption | exact nf (by assumption) | exact nt (by assumption) | ((try simp only [castN]); first | (simp [e6, eq_true en, ew, eq_true es, hb, hj0]; done) | (simp [e6, eq_true en, ew, eq_true es, hb, hj0]; omega))) ?_)
    | ((with_reducible show NeedK _ _ _ _); refine NeedK.mk (by (try simp only [castN]); omega) ?_)
    | ((with_reducible show DrawK _ _ _ _); refine DrawK.mk (by kernel_rfl) (by kernel_rfl) (by kernel_rfl) ?_)
    | ((with_reducible show IdxK _ _ _ _ _); refine IdxK.mk j (eMk ⟨ykd, ydp, ynd, ywt, yer, ynm, yb1, yb2, yol, ynw, yfr, yto, yon⟩) rfl (mk_get hy) ?_)) <;> ((with_reducible conv => whnf); (with_reducible conv => congr <;> reduce); repeat ((first | (with_reducible refine HaltK.mk ?_) | (with_reducible refine StopK.mk ?_)); (with_reducible conv => whnf); (with_reducible conv => congr <;> reduce)))
    | ((with_reducible show (_ ∧ _) ∧ _ ∧ _); refine ⟨⟨rfl, rfl⟩, ?_, ?_⟩ <;> (with_reducible conv => whnf) <;> repeat' (first | (with_reducible exact trivial) | (with_reducible refine And.intro ?_ ?_ <;> with_reducible conv => whnf))))
          all_goals first | exact hs | trace_state
    · have hkl : k = l.length := by
        have : ¬ (k : Int) < (l.length : Int) := by simpa using h1
        omega
      rw [hkl, List.drop_length] at hch
      refine ⟨⟨rfl, rfl⟩, ?_, ?_⟩ <;> (with_reducible conv => whnf) <;> repeat' (first | (with_reducible exact trivial) | (with_reducible refine And.intro ?_ ?_ <;> with_reducible conv => whnf))
      all_goals exact hch
end Go.Proofs.Audit
end
section
set_option linter.unusedSimpArgs false
set_option linter.unusedVariables false
namespace Go.Proofs.Audit
open Go Go.Am Go.RowKit Go.Lib
set_option maxRecDepth 100000
def isSome5 (kk n w : Int) (x : MkM) : Bool := decide (x.kind = kk) && decide (x.node = n) && (decide (w = -9) || decide (x.what = w))
set_option maxHeartbeats 16000000 in
/-- ref.Some -/
theorem f27_ok (l : List MkM) (hl : l.length ≤ 100000) (t : Nat) (ht : t ≤ l.length) (kk n w : Int) : FnOK Try.prog 27 [] [eMks l, eInt t, eInt kk, eInt n, eInt w] [] (eBool ((l.take t).any (isSome5 kk n w))) := by
  have hlm : (l.map oMk).length = l.length := List.length_map ..
  refine FnOK.startC (rvs := [.tmp 10]) G G_good Try.func27 rfl Try.ntmps27 rfl rfl ?_; delta List.toArray; ((with_reducible conv => whnf); (with_reducible conv => congr <;> reduce); repeat ((first | (with_reducible refine HaltK.mk ?_) | (with_reducible refine StopK.mk ?_)); (with_reducible conv => whnf); (with_reducible conv => congr <;> reduce)))
  refine LoopK.use G G_good (fun (k : Nat) => [(0, eMks l), (1, eInt t), (2, eInt kk), (3, eInt n), (4, eInt w), (11, eInt k)]) (fun _ => []) (fun k => k ≤ t ∧ (l.take k).any (isSome5 kk n w) = false) (fun k => t - k) 0 ⟨Nat.zero_le _, rfl⟩
    ⟨⟨rfl, rfl⟩, ⟨rfl, rfl, rfl, rfl, rfl, rfl, trivial⟩, trivial⟩ ?_
  rintro k ⟨hk, hno⟩
  ((with_reducible conv => whnf); (with_reducible conv => congr <;> reduce); repeat ((first | (with_reducible refine HaltK.mk ?_) | (with_reducible refine StopK.mk ?_)); (with_reducible conv => whnf); (with_reducible conv => congr <;> reduce)))
  refine IfK.mk (fun h1 => ?_) (fun h1 => ?_) <;> (try simp only [castN] at h1) <;> ((with_reducible conv => whnf); (with_reducible conv => congr <;> reduce); repeat ((first | (with_reducible refine HaltK.mk ?_) | (with_reducible refine StopK.mk ?_)); (with_reducible conv => whnf); (with_reducible conv => congr <;> reduce)))
  · have hkt : k < t := by simp only [decide_eq_true_eq] at h1; omega
    have hk' : k < l.length := by omega
    obtain ⟨x, hx⟩ : ∃ x, l[k]? = some x := ⟨_, List.getElem?_eq_getElem hk'⟩
    have hnext : ((k + 1 : Nat) : Int) = (k : Int) + 1 := by omega
    have hyes : isSome5 kk n w x = true → (l.take t).any (isSome5 kk n w) = true := fun h => List.any_eq_true.2 ⟨x, List.mem_of_getElem? (i := k) (by rw [List.getElem?_take_of_lt hkt]; exact hx), h⟩
    have hstep : isSome5 kk n w x = false → (l.take (k + 1)).any (isSome5 kk n w) = false := fun h => by rw [take_snoc' hx, List.any_append, hno]; simp [h]
    obtain ⟨kd, dp, nd, wt, er, nm, b1, b2, ol, nw, fr, to, on⟩ := x
    unfold isSome5 at hyes hstep
    simp only at hyes hstep
    refine IdxK.mk k (eMk ⟨kd, dp, nd, wt, er, nm, b1, b2, ol, nw, fr, to, on⟩) rfl (mk_get hx) ?_; ((with_reducible conv => whnf); (with_reducible conv => congr <;> reduce); repeat ((first | (with_reducible refine HaltK.mk ?_) | (with_reducible refine StopK.mk ?_)); (with_reducible conv => whnf); (with_reducible conv => congr <;> reduce)))
    by_cases e5 : kd = kk
    · by_cases en : nd = n
      · by_cases e9 : w = -9
        · have hs := hyes (by simp [e5, en, e9])
          repeat' (first
    | (first
    | ((with_reducible show IfK _ _ _ _); first | refine IfK.ff ?_ | refine IfK.tt ?_ | refine IfK.no (by first | rfl | assumption | exact nf (by assumption) | exact nt (by assumption) | ((try simp only [castN]); first | (simp [eq_true e5, eq_true en, eq_true e9]; done) | (simp [eq_true e5, eq_true en, eq_true e9]; omega))) ?_ | refine IfK.yes (by first | rfl | assumption | exact nf (by assumption) | exact nt (by assumption) | ((try simp only [castN]); first | (simp [eq_true e5, eq_true en, eq_true e9]; done) | (simp [eq_true e5, eq_true en, eq_true e9]; omega))) ?_)
    | ((with_reducible show NeedK _ _ _ _); refine NeedK.mk (by (try simp only [castN]); omega) ?_)
    | ((with_reducible show DrawK _ _ _ _); refine DrawK.mk (by kernel_rfl) (by kernel_rfl) (by kernel_rfl) ?_)
    | ((with_reducible show IdxK _ _ _ _ _); refine IdxK.mk k (eMk ⟨kd, dp, nd, wt, er, nm, b1, b2, ol, nw, fr, to, on⟩) rfl (mk_get hx) ?_)) <;> ((with_reducible conv => whnf); (with_reducible conv => congr <;> reduce); repeat ((first | (with_reducible refine HaltK.mk ?_) | (with_reducible refine StopK.mk ?_)); (with_reducible conv => whnf); (with_reducible conv => congr <;> reduce)))
    | ((with_reducible show (_ ∧ _) ∧ _ ∧ _); refine ⟨⟨rfl, rfl⟩, ?_, ?_⟩ <;> (with_reducible conv => whnf) <;> repeat' (first | (with_reducible exact trivial) | (with_reducible refine And.intro ?_ ?_ <;> with_reducible conv => whnf))))
          all_goals first | exact hs | trace_state
        · by_cases ew : wt = w
          · have hs := hyes (by simp [e5, en, ew])
            repeat' (first
    | (first
    | ((with_reducible show IfK _ _ _ _); first | refine IfK.ff ?_ | refine IfK.tt ?_ | refine IfK.no (by first | rfl | assumption | exact nf (by assumption) | exact nt (by assumption) | ((try simp only [castN]); first | (simp [eq_true e5, eq_true en, eq_false e9, eq_true ew]; done) | (simp [eq_true e5, eq_true en, eq_false e9, eq_true ew]; omega))) ?_ | refine IfK.yes (by first | rfl | assumption | exact nf (by assumption) | exact nt (by assumption) | ((try simp only [castN]); first | (simp [eq_true e5, eq_true en, eq_false e9, eq_true ew]; done) | (simp [eq_true e5, eq_true en, eq_false e9, eq_true ew]; omega))) ?_)
    | ((with_reducible show NeedK _ _ _ _); refine NeedK.mk (by (try simp only [castN]); omega) ?_)
    | ((with_reducible show DrawK _ _ _ _); refine DrawK.mk (by kernel_rfl) (by kernel_rfl) (by kernel_rfl) ?_)
    | ((with_reducible show IdxK _ _ _ _ _); refine IdxK.mk k (eMk ⟨kd, dp, nd, wt, er, nm, b1, b2, ol, nw, fr, to, on⟩) rfl (mk_get hx) ?_)) <;> ((with_reducible conv => whnf); (with_reducible conv => congr <;> reduce); repeat ((first | (with_reducible refine HaltK.mk ?_) | (with_reducible refine StopK.mk ?_)); (with_reducible conv => whnf); (with_reducible conv => congr <;> reduce)))
    | ((with_reducible show (_ ∧ _) ∧ _ ∧ _); refine ⟨⟨rfl, rfl⟩, ?_, ?_⟩ <;> (with_reducible conv => whnf) <;> repeat' (first | (with_reducible exact trivial) | (with_reducible refine And.intro ?_ ?_ <;> with_reducible conv => whnf))))
            all_goals first | exact hs | trace_state
          · have hs := hstep (by simp [e9, ew])
            repeat' (first
    | (first
    | ((with_reducible show IfK _ _ _ _); first | refine IfK.ff ?_ | refine IfK.tt ?_ | refine IfK.no (by first | rfl | assumption | exact nf (by assumption) | exact nt (by assumption) | ((try simp only [castN]); first | (simp [eq_true e5, eq_true en, eq_false e9, eq_false ew]; done) | (simp [eq_true e5, eq_true en, eq_false e9, eq_false ew]; omega))) ?_ | refine IfK.yes (by first | rfl | assumption | exact nf (by assumption) | exact nt (by assumption) | ((try simp only [castN]); first | (simp [eq_true e5, eq_true en, eq_false e9, eq_false ew]; done) | (simp [eq_true e5, eq_true en, eq_false e9, eq_false ew]; omega))) ?_)
    | ((with_reducible show NeedK _ _ _ _); refine NeedK.mk (by (try simp only [castN]); omega) ?_)
    | ((with_reducible show DrawK _ _ _ _); refine DrawK.mk (by kernel_rfl) (by kernel_rfl) (by kernel_rfl) ?_)
    | ((with_reducible show IdxK _ _ _ _ _); refine IdxK.mk k (eMk ⟨kd, dp, nd, wt, er, nm, b1, b2, ol, nw, fr, to, on⟩) rfl (mk_get hx) ?_)
    | ((with_reducible show NextK _ _); refine NextK.mk (k + 1) ⟨by omega, hs⟩ (by omega) ⟨⟨rfl, rfl⟩, ⟨rfl, rfl, rfl, rfl, rfl, hnext, trivial⟩, trivial⟩)) <;> ((with_reducible conv => whnf); (with_reducible conv => congr <;> reduce); repeat ((first | (with_reducible refine HaltK.mk ?_) | (with_reducible refine StopK.mk ?_)); (with_reducible conv => whnf); (with_reducible conv => congr <;> reduce)))
    | ((with_reducible show (_ ∧ _) ∧ _ ∧ _); refine ⟨⟨rfl, rfl⟩, ?_, ?_⟩ <;> (with_reducible conv => whnf) <;> repeat' (first | (with_reducible exact trivial) | (with_reducible refine And.intro ?_ ?_ <;> with_reducible conv => whnf))))
      · have hs := hstep (by simp [en])
        repeat' (first
    | (first
    | ((with_reducible show IfK _ _ _ _); first | refine IfK.ff ?_ | refine IfK.tt ?_ | refine IfK.no (by first | rfl | assumption | exact nf (by assumption) | exact nt (by assumption) | ((try simp only [castN]); first | (simp [eq_true e5, eq_false en]; done) | (simp [eq_true e5, eq_false en]; omega))) ?_ | refine IfK.yes (by first | rfl | assumption | exact nf (by assumption) | exact nt (by assumption) | ((try simp only [castN]); first | (simp [eq_true e5, eq_false en]; done) | (simp [eq_true e5, eq_false en]; omega))) ?_)
    | ((with_reducible show NeedK _ _ _ _); refine NeedK.mk (by (try simp only [castN]); omega) ?_)
    | ((with_reducible show DrawK _ _ _ _); refine DrawK.mk (by kernel_rfl) (by kernel_rfl) (by kernel_rfl) ?_)
    | ((with_reducible show IdxK _ _ _ _ _); refine IdxK.mk k (eMk ⟨kd, dp, nd, wt, er, nm, b1, b2, ol, nw, fr, to, on⟩) rfl (mk_get hx) ?_)
    | ((with_reducible show NextK _ _); refine NextK.mk (k + 1) ⟨by omega, hs⟩ (by omega) ⟨⟨rfl, rfl⟩, ⟨rfl, rfl, rfl, rfl, rfl, hnext, trivial⟩, trivial⟩)) <;> ((with_reducible conv => whnf); (with_reducible conv => congr <;> reduce); repeat ((first | (with_reducible refine HaltK.mk ?_) | (with_reducible refine StopK.mk ?_)); (with_reducible conv => whnf); (with_reducible conv => congr <;> reduce)))
    | ((with_reducible show (_ ∧ _) ∧ _ ∧ _); refine ⟨⟨rfl, rfl⟩, ?_, ?_⟩ <;> (with_reducible conv => whnf) <;> repeat' (first | (with_reducible exact trivial) | (with_reducible refine And.intro ?_ ?_ <;> with_reducible conv => whnf))))
    · have hs := hstep (by simp [e5])
      repeat' (first
    | (first
    | ((with_reducible show IfK _ _ _ _); first | refine IfK.ff ?_ | refine IfK.tt ?_ | refine IfK.no (by first | rfl | assumption | exact nf (by assumption) | exact nt (by assumption) | ((try simp only [castN]); first | (simp [eq_false e5]; done) | (simp [eq_false e5]; omega))) ?_ | refine IfK.yes (by first | rfl | assumption | exact nf (by assumption) | exact nt (by assumption) | ((try simp only [castN]); first | (simp [eq_false e5]; done) | (simp [eq_false e5]; omega))) ?_)
    | ((with_reducible show NeedK _ _ _ _); refine NeedK.mk (by (try simp only [castN]); omega) ?_)
    | ((with_reducible show DrawK _ _ _ _); refine DrawK.mk (by kernel_rfl) (by kernel_rfl) (by kernel_rfl) ?_)
    | ((with_reducible show IdxK _ _ _ _ _); refine IdxK.mk k (eMk ⟨kd, dp, nd, wt, er, nm, b1, b2, ol, nw, fr, to, on⟩) rfl (mk_get hx) ?_)
    | ((with_reducible show NextK _ _); refine NextK.mk (k + 1) ⟨by omega, hs⟩ (by omega) ⟨⟨rfl, rfl⟩, ⟨rfl, rfl, rfl, rfl, rfl, hnext, trivial⟩, trivial⟩)) <;> ((with_reducible conv => whnf); (with_reducible conv => congr <;> reduce); repeat ((first | (with_reducible refine HaltK.mk ?_) | (with_reducible refine StopK.mk ?_)); (with_reducible conv => whnf); (with_reducible conv => congr <;> reduce)))
    | ((with_reducible show (_ ∧ _) ∧ _ ∧ _); refine ⟨⟨rfl, rfl⟩, ?_, ?_⟩ <;> (with_reducible conv => whnf) <;> repeat' (first | (with_reducible exact trivial) | (with_reducible refine And.intro ?_ ?_ <;> with_reducible conv => whnf))))
  · have hkl : k = t := by
      have : ¬ (k : Int) < (t : Int) := by simpa using h1
      omega
    subst hkl
    refine ⟨⟨rfl, rfl⟩, ?_, ?_⟩ <;> (with_reducible conv => whnf) <;> repeat' (first | (with_reducible exact trivial) | (with_reducible refine And.intro ?_ ?_ <;> with_reducible conv => whnf))
    all_goals exact hno
theorem any_of (pre : List MkM) (kk n : Int) : pre.any (isSome5 kk n (-9)) = pre.any (isOf kk n) := by
  congr 1; funext x; simp [isSome5, isOf]
theorem any_cust (pre : List MkM) (n : Int) : pre.any (isSome5 5 n 3) = pre.any (isCustom n) := by
  first | rfl | (congr 1; funext x; simp [isSome5, isCustom, isOf])
theorem f27_of {l : List MkM} (hl : l.length ≤ 100000) {t : Nat} (ht : t ≤ l.length) {kk n : Int} {b : Bool} (h : (l.take t).any (isOf kk n) = b) : FnOK Try.prog 27 [] [eMks l, eInt t, eInt kk, eInt n, eInt (-9)] [] (eBool b) := by
  have := f27_ok l hl t ht kk n (-9)
  rwa [any_of, h] at this
theorem f27_cust {l : List MkM} (hl : l.length ≤ 100000) {t : Nat} (ht : t ≤ l.length) {n : Int} {b : Bool} (h : (l.take t).any (isCustom n) = b) : FnOK Try.prog 27 [] [eMks l, eInt t, eInt 5, eInt n, eInt 3] [] (eBool b) := by
  have := f27_ok l hl t ht 5 n 3
  rwa [any_cust, h] at this
set_option maxHeartbeats 16000000 in
/-- ref.Told -/
theorem f23_ok (l : List MkM) (hl : l.length ≤ 100000) (k : Nat) (x : MkM) (hx : l[k]? = some x) {r : Bool} (hr : toldR (l.take k) x = r) : FnOK Try.prog 23 [] [eMks l, eInt k] [] (eBool r) := by
  have hk : k ≤ l.length := by have := (List.getElem?_eq_some_iff.1 hx).1; omega
  obtain ⟨kd, dp, nd, wt, er, nm, b1, b2, ol, nw, fr, to, on⟩ := x
  unfold toldR at hr
  simp only at hr
  obtain ⟨a5, h5⟩ : ∃ a5, (l.take k).any (isOf 5 nd) = a5 := ⟨_, rfl⟩
  obtain ⟨a8, h8⟩ : ∃ a8, (l.take k).any (isOf 8 nd) = a8 := ⟨_, rfl⟩
  obtain ⟨ac, hc⟩ : ∃ ac, (l.take k).any (isCustom nd) = ac := ⟨_, rfl⟩
  rw [h5, h8, hc] at hr
  refine FnOK.startC (rvs := [.tmp 4]) G G_good Try.func23 rfl Try.ntmps23 rfl rfl ?_; delta List.toArray; ((with_reducible conv => whnf); (with_reducible conv => congr <;> reduce); repeat ((first | (with_reducible refine HaltK.mk ?_) | (with_reducible refine StopK.mk ?_)); (with_reducible conv => whnf); (with_reducible conv => congr <;> reduce)))
  refine IdxK.mk k (eMk ⟨kd, dp, nd, wt, er, nm, b1, b2, ol, nw, fr, to, on⟩) rfl (mk_get hx) ?_; ((with_reducible conv => whnf); (with_reducible conv => congr <;> reduce); repeat ((first | (with_reducible refine HaltK.mk ?_) | (with_reducible refine StopK.mk ?_)); (with_reducible conv => whnf); (with_reducible conv => congr <;> reduce)))
  by_cases e5 : kd = 5
  · rw [if_pos e5] at hr
    by_cases w3 : wt = 3
    · repeat' (first
    | (first
    | ((with_reducible show IfK _ _ _ _); first | refine IfK.ff ?_ | refine IfK.tt ?_ | refine IfK.no (by first | rfl | assumption | exact nf (by assumption) | exact nt (by assumption) | ((try simp only [castN]); first | (simp [e5, w3]; done) | (simp [e5, w3]; omega))) ?_ | refine IfK.yes (by first | rfl | assumption | exact nf (by assumption) | exact nt (by assumption) | ((try simp only [castN]); first | (simp [e5, w3]; done) | (simp [e5, w3]; omega))) ?_)
    | ((with_reducible show NeedK _ _ _ _); refine NeedK.mk (by (try simp only [castN]); omega) ?_)
    | ((with_reducible show DrawK _ _ _ _); refine DrawK.mk (by kernel_rfl) (by kernel_rfl) (by kernel_rfl) ?_)
    | ((with_reducible show CallK _ _ 27 _ _ _ _); refine CallK.lit [] (f27_of hl hk h5) c27 ⟨rfl, rfl, rfl, rfl, rfl, trivial⟩ rfl rfl ?_)) <;> ((with_reducible conv => whnf); (with_reducible conv => congr <;> reduce); repeat ((first | (with_reducible refine HaltK.mk ?_) | (with_reducible refine StopK.mk ?_)); (with_reducible conv => whnf); (with_reducible conv => congr <;> reduce)))
    | ((with_reducible show (_ ∧ _) ∧ _ ∧ _); refine ⟨⟨rfl, rfl⟩, ?_, ?_⟩ <;> (with_reducible conv => whnf) <;> repeat' (first | (with_reducible exact trivial) | (with_reducible refine And.intro ?_ ?_ <;> with_reducible conv => whnf))))
      all_goals (subst hr; simp [w3])
    · by_cases w4 : wt = 4
      · repeat' (first
    | (first
    | ((with_reducible show IfK _ _ _ _); first | refine IfK.ff ?_ | refine IfK.tt ?_ | refine IfK.no (by first | rfl | assumption | exact nf (by assumption) | exact nt (by assumption) | ((try simp only [castN]); first | (simp [e5, w4]; done) | (simp [e5, w4]; omega))) ?_ | refine IfK.yes (by first | rfl | assumption | exact nf (by assumption) | exact nt (by assumption) | ((try simp only [castN]); first | (simp [e5, w4]; done) | (simp [e5, w4]; omega))) ?_)
    | ((with_reducible show NeedK _ _ _ _); refine NeedK.mk (by (try simp only [castN]); omega) ?_)
    | ((with_reducible show DrawK _ _ _ _); refine DrawK.mk (by kernel_rfl) (by kernel_rfl) (by kernel_rfl) ?_)
    | ((with_reducible show CallK _ _ 27 _ _ _ _); refine CallK.lit [] (f27_of hl hk h5) c27 ⟨rfl, rfl, rfl, rfl, rfl, trivial⟩ rfl rfl ?_)) <;> ((with_reducible conv => whnf); (with_reducible conv => congr <;> reduce); repeat ((first | (with_reducible refine HaltK.mk ?_) | (with_reducible refine StopK.mk ?_)); (with_reducible conv => whnf); (with_reducible conv => congr <;> reduce)))
    | ((with_reducible show (_ ∧ _) ∧ _ ∧ _); refine ⟨⟨rfl, rfl⟩, ?_, ?_⟩ <;> (with_reducible conv => whnf) <;> repeat' (first | (with_reducible exact trivial) | (with_reducible refine And.intro ?_ ?_ <;> with_reducible conv => whnf))))
        all_goals (subst hr; simp [w4])
      · repeat' (first
    | (first
    | ((with_reducible show IfK _ _ _ _); first | refine IfK.ff ?_ | refine IfK.tt ?_ | refine IfK.no (by first | rfl | assumption | exact nf (by assumption) | exact nt (by assumption) | ((try simp only [castN]); first | (simp [e5, eq_false w3, eq_false w4]; done) | (simp [e5, eq_false w3, eq_false w4]; omega))) ?_ | refine IfK.yes (by first | rfl | assumption | exact nf (by assumption) | exact nt (by assumption) | ((try simp only [castN]); first | (simp [e5, eq_false w3, eq_false w4]; done) | (simp [e5, eq_false w3, eq_false w4]; omega))) ?_)
    | ((with_reducible show NeedK _ _ _ _); refine NeedK.mk (by (try simp only [castN]); omega) ?_)
    | ((with_reducible show DrawK _ _ _ _); refine DrawK.mk (by kernel_rfl) (by kernel_rfl) (by kernel_rfl) ?_)
    | ((with_reducible show CallK _ _ 27 _ _ _ _); refine CallK.lit [] (f27_of hl hk h5) c27 ⟨rfl, rfl, rfl, rfl, rfl, trivial⟩ rfl rfl ?_)) <;> ((with_reducible conv => whnf); (with_reducible conv => congr <;> reduce); repeat ((first | (with_reducible refine HaltK.mk ?_) | (with_reducible refine StopK.mk ?_)); (with_reducible conv => whnf); (with_reducible conv => congr <;> reduce)))
    | ((with_reducible show (_ ∧ _) ∧ _ ∧ _); refine ⟨⟨rfl, rfl⟩, ?_, ?_⟩ <;> (with_reducible conv => whnf) <;> repeat' (first | (with_reducible exact trivial) | (with_reducible refine And.intro ?_ ?_ <;> with_reducible conv => whnf))))
        all_goals (subst hr; simp [w3, w4])
  · rw [if_neg e5] at hr
    by_cases e6 : kd = 6
    · rw [if_pos e6] at hr
      repeat' (first
    | (first
    | ((with_reducible show IfK _ _ _ _); first | refine IfK.ff ?_ | refine IfK.tt ?_ | refine IfK.no (by first | rfl | assumption | exact nf (by assumption) | exact nt (by assumption) | ((try simp only [castN]); first | (simp [e6]; done) | (simp [e6]; omega))) ?_ | refine IfK.yes (by first | rfl | assumption | exact nf (by assumption) | exact nt (by assumption) | ((try simp only [castN]); first | (simp [e6]; done) | (simp [e6]; omega))) ?_)
    | ((with_reducible show NeedK _ _ _ _); refine NeedK.mk (by (try simp only [castN]); omega) ?_)
    | ((with_reducible show DrawK _ _ _ _); refine DrawK.mk (by kernel_rfl) (by kernel_rfl) (by kernel_rfl) ?_)
    | ((with_reducible show CallK _ _ 27 _ _ _ _); refine CallK.lit [] (f27_cust hl hk hc) c27 ⟨rfl, rfl, rfl, rfl, rfl, trivial⟩ rfl rfl ?_)) <;> ((with_reducible conv => whnf); (with_reducible conv => congr <;> reduce); repeat ((first | (with_reducible refine HaltK.mk ?_) | (with_reducible refine StopK.mk ?_)); (with_reducible conv => whnf); (with_reducible conv => congr <;> reduce)))
    | ((with_reducible show (_ ∧ _) ∧ _ ∧ _); refine ⟨⟨rfl, rfl⟩, ?_, ?_⟩ <;> (with_reducible conv => whnf) <;> repeat' (first | (with_reducible exact trivial) | (with_reducible refine And.intro ?_ ?_ <;> with_reducible conv => whnf))))
      all_goals exact hr.symm
    · rw [if_neg e6] at hr
      by_cases e8 : kd = 8
      · rw [if_pos e8] at hr
        repeat' (first
    | (first
    | ((with_reducible show IfK _ _ _ _); first | refine IfK.ff ?_ | refine IfK.tt ?_ | refine IfK.no (by first | rfl | assumption | exact nf (by assumption) | exact nt (by assumption) | ((try simp only [castN]); first | (simp [e8]; done) | (simp [e8]; omega))) ?_ | refine IfK.yes (by first | rfl | assumption | exact nf (by assumption) | exact nt (by assumption) | ((try simp only [castN]); first | (simp [e8]; done) | (simp [e8]; omega))) ?_)
    | ((with_reducible show NeedK _ _ _ _); refine NeedK.mk (by (try simp only [castN]); omega) ?_)
    | ((with_reducible show DrawK _ _ _ _); refine DrawK.mk (by kernel_rfl) (by kernel_rfl) (by kernel_rfl) ?_)
    | ((with_reducible show CallK _ _ 27 _ _ _ _); refine CallK.lit [] (f27_of hl hk h8) c27 ⟨rfl, rfl, rfl, rfl, rfl, trivial⟩ rfl rfl ?_)) <;> ((with_reducible conv => whnf); (with_reducible conv => congr <;> reduce); repeat ((first | (with_reducible refine HaltK.mk ?_) | (with_reducible refine StopK.mk ?_)); (with_reducible conv => whnf); (with_reducible conv => congr <;> reduce)))
    | ((with_reducible show (_ ∧ _) ∧ _ ∧ _); refine ⟨⟨rfl, rfl⟩, ?_, ?_⟩ <;> (with_reducible conv => whnf) <;> repeat' (first | (with_reducible exact trivial) | (with_reducible refine And.intro ?_ ?_ <;> with_reducible conv => whnf))))
        all_goals exact hr.symm
      · rw [if_neg e8] at hr
        by_cases e4 : kd = 4
        · rw [if_pos e4] at hr
          repeat' (first
    | (first
    | ((with_reducible show IfK _ _ _ _); first | refine IfK.ff ?_ | refine IfK.tt ?_ | refine IfK.no (by first | rfl | assumption | exact nf (by assumption) | exact nt (by assumption) | ((try simp only [castN]); first | (simp [e4]; done) | (simp [e4]; omega))) ?_ | refine IfK.yes (by first | rfl | assumption | exact nf (by assumption) | exact nt (by assumption) | ((try simp only [castN]); first | (simp [e4]; done) | (simp [e4]; omega))) ?_)
    | ((with_reducible show NeedK _ _ _ _); refine NeedK.mk (by (try simp only [castN]); omega) ?_)
    | ((with_reducible show DrawK _ _ _ _); refine DrawK.mk (by kernel_rfl) (by kernel_rfl) (by kernel_rfl) ?_)) <;> ((with_reducible conv => whnf); (with_reducible conv => congr <;> reduce); repeat ((first | (with_reducible refine HaltK.mk ?_) | (with_reducible refine StopK.mk ?_)); (with_reducible conv => whnf); (with_reducible conv => congr <;> reduce)))
    | ((with_reducible show (_ ∧ _) ∧ _ ∧ _); refine ⟨⟨rfl, rfl⟩, ?_, ?_⟩ <;> (with_reducible conv => whnf) <;> repeat' (first | (with_reducible exact trivial) | (with_reducible refine And.intro ?_ ?_ <;> with_reducible conv => whnf))))
          all_goals exact hr.symm
        · rw [if_neg e4] at hr
          repeat' (first
    | (first
    | ((with_reducible show IfK _ _ _ _); first | refine IfK.ff ?_ | refine IfK.tt ?_ | refine IfK.no (by first | rfl | assumption | exact nf (by assumption) | exact nt (by assumption) | ((try simp only [castN]); first | (simp [e5, e6, e8, e4]; done) | (simp [e5, e6, e8, e4]; omega))) ?_ | refine IfK.yes (by first | rfl | assumption | exact nf (by assumption) | exact nt (by assumption) | ((try simp only [castN]); first | (simp [e5, e6, e8, e4]; done) | (simp [e5, e6, e8, e4]; omega))) ?_)
    | ((with_reducible show NeedK _ _ _ _); refine NeedK.mk (by (try simp only [castN]); omega) ?_)
    | ((with_reducible show DrawK _ _ _ _); refine DrawK.mk (by kernel_rfl) (by kernel_rfl) (by kernel_rfl) ?_)) <;> ((with_reducible conv => whnf); (with_reducible conv => congr <;> reduce); repeat ((first | (with_reducible refine HaltK.mk ?_) | (with_reducible refine StopK.mk ?_)); (with_reducible conv => whnf); (with_reducible conv => congr <;> reduce)))
    | ((with_reducible show (_ ∧ _) ∧ _ ∧ _); refine ⟨⟨rfl, rfl⟩, ?_, ?_⟩ <;> (with_reducible conv => whnf) <;> repeat' (first | (with_reducible exact trivial) | (with_reducible refine And.intro ?_ ?_ <;> with_reducible conv => whnf))))
          all_goals exact hr.symm
/-! ### what is open, by places -/
def oNat (n : Nat) : AV := eInt n
@[reducible] def eNs (o : List Nat) : AV := .sl 1 (o.map oNat)
theorem nat_get {o : List Nat} {k j : Nat} (h : o[k]? = some j) : (o.map oNat)[k]? = some (eInt j) := by rw [List.getElem?_map, h]; rfl
def Opn (l : List MkM) (o : List Nat) (s : List OpM) : Prop := o.map (fun j => (l[j]?).map opOf) = s.map some
theorem Opn.len {l : List MkM} {o : List Nat} {s : List OpM} (h : Opn l o s) : o.length = s.length := by
  have := congrArg List.length h
  simpa using this
theorem Opn.get {l : List MkM} {o : List Nat} {s : List OpM} (h : Opn l o s) {i j : Nat} (hi : o[i]? = some j) : ∃ x, l[j]? = some x ∧ s[i]? = some (opOf x) := by
  have h1 : (o.map (fun j => (l[j]?).map opOf))[i]? = some ((l[j]?).map opOf) := by rw [List.getElem?_map, hi]; rfl
  rw [h, List.getElem?_map] at h1
  cases hs : s[i]? with
  | none => rw [hs] at h1; cases h1
  | some t =>
    rw [hs] at h1
    simp only [Option.map_some, Option.some.injEq] at h1
    cases hx : l[j]? with
    | none => rw [hx] at h1; cases h1
    | some x =>
      rw [hx] at h1
      simp only [Option.map_some, Option.some.injEq] at h1
      exact ⟨x, rfl, by rw [h1]⟩
theorem Opn.take {l : List MkM} {o : List Nat} {s : List OpM} (h : Opn l o s) (n : Nat) : Opn l (o.take n) (s.take n) := by
  unfold Opn at h ⊢
  rw [List.map_take, h, ← List.map_take]
theorem Opn.snoc {l : List MkM} {o : List Nat} {s : List OpM} (h : Opn l o s) {j : Nat} {x : MkM} (hx : l[j]? = some x) : Opn l (o ++ [j]) (s ++ [opOf x]) := by
  unfold Opn at h ⊢
  rw [List.map_append, List.map_append, h]
  simp [hx]
set_option maxHeartbeats 16000000 in
/-- ref.Open -/
theorem f21_ok (l : List MkM) (o : List Nat) (s : List OpM) (hO : Opn l o s) (ho : o.length ≤ 100000) (x : MkM) : FnOK Try.prog 21 [] [eMks l, eNs o, eMk x] [] (eNs (o.take (shutM (leastM x) s).length)) := by
  have hom : (o.map oNat).length = o.length := List.length_map ..
  have hlen := hO.len
  obtain ⟨q, hq⟩ : ∃ q, opensK x.kind = q := ⟨_, rfl⟩
  have hle : leastM x = if q = true then x.depth - 1 else x.depth := by unfold leastM; rw [hq]
  have e0 : shN (leastM x) s s.length = (shutM (leastM x) s).length := by unfold shN; rw [List.take_length]
  have h24 := f24_at hq
  obtain ⟨kd, dp, nd, wt, er, nm, b1, b2, ol, nw, fr, to, on⟩ := x
  simp only at hle
  refine FnOK.startC (rvs := [.tmp 6]) G G_good Try.func21 rfl Try.ntmps21 rfl rfl ?_; delta List.toArray; ((with_reducible conv => whnf); (with_reducible conv => congr <;> reduce); repeat ((first | (with_reducible refine HaltK.mk ?_) | (with_reducible refine StopK.mk ?_)); (with_reducible conv => whnf); (with_reducible conv => congr <;> reduce)))
  refine LoopK.use G G_good (fun (k : Nat) => [(0, eMks l), (1, eNs o), (5, .ptr 50 0 0), (7, eInt k)]) (fun _ => [(50, .live 13 [eMk ⟨kd, dp, nd, wt, er, nm, b1, b2, ol, nw, fr, to, on⟩] false)]) (fun k => k ≤ o.length ∧ shN (leastM ⟨kd, dp, nd, wt, er, nm, b1, b2, ol, nw, fr, to, on⟩) s k = (shutM (leastM ⟨kd, dp, nd, wt, er, nm, b1, b2, ol, nw, fr, to, on⟩) s).length) (fun k => k) o.length ⟨Nat.le_refl _, by rw [hlen]; exact e0⟩
    ⟨⟨rfl, rfl⟩, ⟨rfl, rfl, ⟨rfl, rfl⟩, by show (o.length : Int) = ((o.map oNat).length : Int); rw [hom], trivial⟩, ⟨⟨rfl, rfl, rfl, rfl, rfl, rfl, rfl, rfl, rfl, rfl, rfl, rfl, rfl, trivial⟩, trivial⟩, trivial⟩ ?_
  rintro k ⟨hk, hsh⟩
  ((with_reducible conv => whnf); (with_reducible conv => congr <;> reduce); repeat ((first | (with_reducible refine HaltK.mk ?_) | (with_reducible refine StopK.mk ?_)); (with_reducible conv => whnf); (with_reducible conv => congr <;> reduce)))
  rcases k with _ | k
  · have h0 : 0 = (shutM (leastM ⟨kd, dp, nd, wt, er, nm, b1, b2, ol, nw, fr, to, on⟩) s).length := hsh
    repeat' (first
    | (first
    | ((with_reducible show IfK _ _ _ _); first | refine IfK.ff ?_ | refine IfK.tt ?_ | refine IfK.no (by first | rfl | assumption | exact nf (by assumption) | exact nt (by assumption) | ((try simp only [castN]); first | (simp []; done) | (simp []; omega))) ?_ | refine IfK.yes (by first | rfl | assumption | exact nf (by assumption) | exact nt (by assumption) | ((try simp only [castN]); first | (simp []; done) | (simp []; omega))) ?_)
    | ((with_reducible show NeedK _ _ _ _); refine NeedK.mk (by (try simp only [castN]); omega) ?_)
    | ((with_reducible show DrawK _ _ _ _); refine DrawK.mk (by kernel_rfl) (by kernel_rfl) (by kernel_rfl) ?_)
    | ((with_reducible show CutFK _ _ _ _ _ _); refine CutFK.mk 0 0 [] rfl rfl (Nat.zero_le _) rfl ?_)) <;> ((with_reducible conv => whnf); (with_reducible conv => congr <;> reduce); repeat ((first | (with_reducible refine HaltK.mk ?_) | (with_reducible refine StopK.mk ?_)); (with_reducible conv => whnf); (with_reducible conv => congr <;> reduce)))
    | ((with_reducible show (_ ∧ _) ∧ _ ∧ _); refine ⟨⟨rfl, rfl⟩, ?_, ?_⟩ <;> (with_reducible conv => whnf) <;> repeat' (first | (with_reducible exact trivial) | (with_reducible refine And.intro ?_ ?_ <;> with_reducible conv => whnf))))
    all_goals (rw [← h0]; rfl)
  · have hko : k < o.length := by omega
    obtain ⟨j, hj⟩ : ∃ j, o[k]? = some j := ⟨_, List.getElem?_eq_getElem hko⟩
    obtain ⟨y, hy, hsy⟩ := hO.get hj
    obtain ⟨hks, hse⟩ := List.getElem?_eq_some_iff.1 hsy
    have hpos : ((0 : Int) < ((k + 1 : Nat) : Int)) = True := eq_true (by omega)
    obtain ⟨ykd, ydp, ynd, ywt, yer, ynm, yb1, yb2, yol, ynw, yfr, yto, yon⟩ := y
    have hsub : ((k + 1 : Nat) : Int) - 1 = (k : Int) := by omega
    have hcut : ((k + 1 : Nat) : Int) = ((0 : Nat) : Int) + ((k + 1 : Nat) : Int) := by omega
    have hcutm : (o.take (k + 1)).map oNat = ((o.map oNat).drop 0).take (k + 1) := by rw [List.drop_zero, List.map_take]
    cases hst : staysM (leastM ⟨kd, dp, nd, wt, er, nm, b1, b2, ol, nw, fr, to, on⟩) s[k] with
    | true =>
      have e := shN_stay hks hst
      rw [hsh] at e
      rw [hse, hle] at hst
      unfold staysM opOf at hst
      rw [e]
      by_cases y3 : ykd = 3
      · repeat' (first
    | (first
    | ((with_reducible show IfK _ _ _ _); first | refine IfK.ff ?_ | refine IfK.tt ?_ | refine IfK.no (by first | rfl | assumption | exact nf (by assumption) | exact nt (by assumption) | ((try simp only [castN]); first | (simp [y3, hpos]; done) | (simp [y3, hpos]; omega))) ?_ | refine IfK.yes (by first | rfl | assumption | exact nf (by assumption) | exact nt (by assumption) | ((try simp only [castN]); first | (simp [y3, hpos]; done) | (simp [y3, hpos]; omega))) ?_)
    | ((with_reducible show NeedK _ _ _ _); refine NeedK.mk (by (try simp only [castN]); omega) ?_)
    | ((with_reducible show DrawK _ _ _ _); refine DrawK.mk (by kernel_rfl) (by kernel_rfl) (by kernel_rfl) ?_)
    | ((with_reducible show IdxK _ _ _ _ _); first | refine IdxK.mk k (eInt j) hsub (nat_get hj) ?_ | refine IdxK.mk j (eMk ⟨ykd, ydp, ynd, ywt, yer, ynm, yb1, yb2, yol, ynw, yfr, yto, yon⟩) rfl (mk_get hy) ?_)
    | ((with_reducible show CutFK _ _ _ _ _ _); refine CutFK.mk 0 (k + 1) ((o.take (k + 1)).map oNat) rfl hcut (by rw [hom]; omega) hcutm ?_)) <;> ((with_reducible conv => whnf); (with_reducible conv => congr <;> reduce); repeat ((first | (with_reducible refine HaltK.mk ?_) | (with_reducible refine StopK.mk ?_)); (with_reducible conv => whnf); (with_reducible conv => congr <;> reduce)))
    | ((with_reducible show (_ ∧ _) ∧ _ ∧ _); refine ⟨⟨rfl, rfl⟩, ?_, ?_⟩ <;> (with_reducible conv => whnf) <;> repeat' (first | (with_reducible exact trivial) | (with_reducible refine And.intro ?_ ?_ <;> with_reducible conv => whnf))))
        all_goals first | rfl | trace_state
      · by_cases lt : ydp < dp
        · repeat' (first
    | (first
    | ((with_reducible show IfK _ _ _ _); first | refine IfK.ff ?_ | refine IfK.tt ?_ | refine IfK.no (by first | rfl | assumption | exact nf (by assumption) | exact nt (by assumption) | ((try simp only [castN]); first | (simp [eq_false y3, lt, hpos]; done) | (simp [eq_false y3, lt, hpos]; omega))) ?_ | refine IfK.yes (by first | rfl | assumption | exact nf (by assumption) | exact nt (by assumption) | ((try simp only [castN]); first | (simp [eq_false y3, lt, hpos]; done) | (simp [eq_false y3, lt, hpos]; omega))) ?_)
    | ((with_reducible show NeedK _ _ _ _); refine NeedK.mk (by (try simp only [castN]); omega) ?_)
    | ((with_reducible show DrawK _ _ _ _); refine DrawK.mk (by kernel_rfl) (by kernel_rfl) (by kernel_rfl) ?_)
    | ((with_reducible show IdxK _ _ _ _ _); first | refine IdxK.mk k (eInt j) hsub (nat_get hj) ?_ | refine IdxK.mk j (eMk ⟨ykd, ydp, ynd, ywt, yer, ynm, yb1, yb2, yol, ynw, yfr, yto, yon⟩) rfl (mk_get hy) ?_)
    | ((with_reducible show CutFK _ _ _ _ _ _); refine CutFK.mk 0 (k + 1) ((o.take (k + 1)).map oNat) rfl hcut (by rw [hom]; omega) hcutm ?_)) <;> ((with_reducible conv => whnf); (with_reducible conv => congr <;> reduce); repeat ((first | (with_reducible refine HaltK.mk ?_) | (with_reducible refine StopK.mk ?_)); (with_reducible conv => whnf); (with_reducible conv => congr <;> reduce)))
    | ((with_reducible show (_ ∧ _) ∧ _ ∧ _); refine ⟨⟨rfl, rfl⟩, ?_, ?_⟩ <;> (with_reducible conv => whnf) <;> repeat' (first | (with_reducible exact trivial) | (with_reducible refine And.intro ?_ ?_ <;> with_reducible conv => whnf))))
          all_goals first | rfl | trace_state
        · have hqf : q = false := by
            cases q with
            | false => rfl
            | true => simp [y3] at hst; omega
          subst hqf
          have hed : ydp = dp := by simp [y3] at hst; omega
          repeat' (first
    | (first
    | ((with_reducible show IfK _ _ _ _); first | refine IfK.ff ?_ | refine IfK.tt ?_ | refine IfK.no (by first | rfl | assumption | exact nf (by assumption) | exact nt (by assumption) | ((try simp only [castN]); first | (simp [eq_false y3, eq_false lt, eq_true hed, hpos]; done) | (simp [eq_false y3, eq_false lt, eq_true hed, hpos]; omega))) ?_ | refine IfK.yes (by first | rfl | assumption | exact nf (by assumption) | exact nt (by assumption) | ((try simp only [castN]); first | (simp [eq_false y3, eq_false lt, eq_true hed, hpos]; done) | (simp [eq_false y3, eq_false lt, eq_true hed, hpos]; omega))) ?_)
    | ((with_reducible show NeedK _ _ _ _); refine NeedK.mk (by (try simp only [castN]); omega) ?_)
    | ((with_reducible show DrawK _ _ _ _); refine DrawK.mk (by kernel_rfl) (by kernel_rfl) (by kernel_rfl) ?_)
    | ((with_reducible show CallK _ _ 24 _ _ _ _); refine CallK.lit [] h24 c24 ⟨⟨rfl, rfl, rfl, rfl, rfl, rfl, rfl, rfl, rfl, rfl, rfl, rfl, rfl, trivial⟩, trivial⟩ rfl rfl ?_)
    | ((with_reducible show IdxK _ _ _ _ _); first | refine IdxK.mk k (eInt j) hsub (nat_get hj) ?_ | refine IdxK.mk j (eMk ⟨ykd, ydp, ynd, ywt, yer, ynm, yb1, yb2, yol, ynw, yfr, yto, yon⟩) rfl (mk_get hy) ?_)
    | ((with_reducible show CutFK _ _ _ _ _ _); refine CutFK.mk 0 (k + 1) ((o.take (k + 1)).map oNat) rfl hcut (by rw [hom]; omega) hcutm ?_)) <;> ((with_reducible conv => whnf); (with_reducible conv => congr <;> reduce); repeat ((first | (with_reducible refine HaltK.mk ?_) | (with_reducible refine StopK.mk ?_)); (with_reducible conv => whnf); (with_reducible conv => congr <;> reduce)))
    | ((with_reducible show (_ ∧ _) ∧ _ ∧ _); refine ⟨⟨rfl, rfl⟩, ?_, ?_⟩ <;> (with_reducible conv => whnf) <;> repeat' (first | (with_reducible exact trivial) | (with_reducible refine And.intro ?_ ?_ <;> with_reducible conv => whnf))))
          all_goals first | rfl | trace_state
    | false =>
      have e := shN_drop hks hst
      rw [hsh] at e
      rw [hse, hle] at hst
      unfold staysM opOf at hst
      simp only [Bool.or_eq_false_iff, decide_eq_false_iff_not] at hst
      have y3 := hst.1
      have lt : ¬ ydp < dp := by have := hst.2; split at this <;> omega
      by_cases hed : ydp = dp
      · have hqt : q = true := by
          cases q with
          | true => rfl
          | false => have := hst.2; simp at this; omega
        subst hqt
        repeat' (first
    | (first
    | ((with_reducible show IfK _ _ _ _); first | refine IfK.ff ?_ | refine IfK.tt ?_ | refine IfK.no (by first | rfl | assumption | exact nf (by assumption) | exact nt (by assumption) | ((try simp only [castN]); first | (simp [eq_false y3, eq_false lt, eq_true hed, hpos]; done) | (simp [eq_false y3, eq_false lt, eq_true hed, hpos]; omega))) ?_ | refine IfK.yes (by first | rfl | assumption | exact nf (by assumption) | exact nt (by assumption) | ((try simp only [castN]); first | (simp [eq_false y3, eq_false lt, eq_true hed, hpos]; done) | (simp [eq_false y3, eq_false lt, eq_true hed, hpos]; omega))) ?_)
    | ((with_reducible show NeedK _ _ _ _); refine NeedK.mk (by (try simp only [castN]); omega) ?_)
    | ((with_reducible show DrawK _ _ _ _); refine DrawK.mk (by kernel_rfl) (by kernel_rfl) (by kernel_rfl) ?_)
    | ((with_reducible show CallK _ _ 24 _ _ _ _); refine CallK.lit [] h24 c24 ⟨⟨rfl, rfl, rfl, rfl, rfl, rfl, rfl, rfl, rfl, rfl, rfl, rfl, rfl, trivial⟩, trivial⟩ rfl rfl ?_)
    | ((with_reducible show IdxK _ _ _ _ _); first | refine IdxK.mk k (eInt j) hsub (nat_get hj) ?_ | refine IdxK.mk j (eMk ⟨ykd, ydp, ynd, ywt, yer, ynm, yb1, yb2, yol, ynw, yfr, yto, yon⟩) rfl (mk_get hy) ?_)
    | ((with_reducible show NextK _ _); refine NextK.mk k ⟨by omega, e.symm⟩ (by omega) ⟨⟨rfl, rfl⟩, ⟨rfl, rfl, ⟨rfl, rfl⟩, hsub.symm, trivial⟩, ⟨⟨rfl, rfl, rfl, rfl, rfl, rfl, rfl, rfl, rfl, rfl, rfl, rfl, rfl, trivial⟩, trivial⟩, trivial⟩)) <;> ((with_reducible conv => whnf); (with_reducible conv => congr <;> reduce); repeat ((first | (with_reducible refine HaltK.mk ?_) | (with_reducible refine StopK.mk ?_)); (with_reducible conv => whnf); (with_reducible conv => congr <;> reduce)))
    | ((with_reducible show (_ ∧ _) ∧ _ ∧ _); refine ⟨⟨rfl, rfl⟩, ?_, ?_⟩ <;> (with_reducible conv => whnf) <;> repeat' (first | (with_reducible exact trivial) | (with_reducible refine And.intro ?_ ?_ <;> with_reducible conv => whnf))))
      · repeat' (first
    | (first
    | ((with_reducible show IfK _ _ _ _); first | refine IfK.ff ?_ | refine IfK.tt ?_ | refine IfK.no (by first | rfl | assumption | exact nf (by assumption) | exact nt (by assumption) | ((try simp only [castN]); first | (simp [eq_false y3, eq_false lt, eq_false hed, hpos]; done) | (simp [eq_false y3, eq_false lt, eq_false hed, hpos]; omega))) ?_ | refine IfK.yes (by first | rfl | assumption | exact nf (by assumption) | exact nt (by assumption) | ((try simp only [castN]); first | (simp [eq_false y3, eq_false lt, eq_false hed, hpos]; done) | (simp [eq_false y3, eq_false lt, eq_false hed, hpos]; omega))) ?_)
    | ((with_reducible show NeedK _ _ _ _); refine NeedK.mk (by (try simp only [castN]); omega) ?_)
    | ((with_reducible show DrawK _ _ _ _); refine DrawK.mk (by kernel_rfl) (by kernel_rfl) (by kernel_rfl) ?_)
    | ((with_reducible show IdxK _ _ _ _ _); first | refine IdxK.mk k (eInt j) hsub (nat_get hj) ?_ | refine IdxK.mk j (eMk ⟨ykd, ydp, ynd, ywt, yer, ynm, yb1, yb2, yol, ynw, yfr, yto, yon⟩) rfl (mk_get hy) ?_)
    | ((with_reducible show NextK _ _); refine NextK.mk k ⟨by omega, e.symm⟩ (by omega) ⟨⟨rfl, rfl⟩, ⟨rfl, rfl, ⟨rfl, rfl⟩, hsub.symm, trivial⟩, ⟨⟨rfl, rfl, rfl, rfl, rfl, rfl, rfl, rfl, rfl, rfl, rfl, rfl, rfl, trivial⟩, trivial⟩, trivial⟩)) <;> ((with_reducible conv => whnf); (with_reducible conv => congr <;> reduce); repeat ((first | (with_reducible refine HaltK.mk ?_) | (with_reducible refine StopK.mk ?_)); (with_reducible conv => whnf); (with_reducible conv => congr <;> reduce)))
    | ((with_reducible show (_ ∧ _) ∧ _ ∧ _); refine ⟨⟨rfl, rfl⟩, ?_, ?_⟩ <;> (with_reducible conv => whnf) <;> repeat' (first | (with_reducible exact trivial) | (with_reducible refine And.intro ?_ ?_ <;> with_reducible conv => whnf))))
/-- What a pile's top is, by its place. -/
theorem top_get {l : List MkM} {o : List Nat} {s : List OpM} (hO : Opn l o s) : (o = [] ∧ s = [] ∧ topM s = ⟨0, 0, 0⟩) ∨ ∃ (k j : Nat) (y : MkM), o.length = k + 1 ∧ o[k]? = some j ∧ l[j]? = some y ∧ topM s = opOf y := by
  have hlen := hO.len
  by_cases h : s = []
  · subst h
    left
    exact ⟨List.length_eq_zero_iff.1 (by simpa using hlen), rfl, rfl⟩
  · right
    obtain ⟨r, t, rfl⟩ := snoc_of_ne h
    have hk : r.length < o.length := by rw [hlen]; simp
    obtain ⟨j, hj⟩ : ∃ j, o[r.length]? = some j := ⟨_, List.getElem?_eq_getElem hk⟩
    obtain ⟨y, hy, hs⟩ := hO.get hj
    refine ⟨r.length, j, y, by rw [hlen]; simp, hj, hy, ?_⟩
    rw [top_snoc]
    simpa using hs
set_option maxHeartbeats 32000000 in
/-- ref.Place -/
theorem f22_ok (l : List MkM) (o : List Nat) (s : List OpM) (hO : Opn l o s) (ho : o.length ≤ 100000) (x : MkM) (hx : okD x) {r : Bool} (hr : placeR s x = r) : FnOK Try.prog 22 [] [eMks l, eNs o, eMk x] [] (eBool r) := by
  have hom : (o.map oNat).length = o.length := List.length_map ..
  obtain ⟨⟨tk, td, tw⟩, ht⟩ : ∃ t, topM s = t := ⟨_, rfl⟩
  have htop := top_get hO
  rw [ht] at htop
  obtain ⟨kd, dp, nd, wt, er, nm, b1, b2, ol, nw, fr, to, on⟩ := x
  have hx1 : -9223372036854775808 ≤ dp ∧ dp ≤ 9223372036854775807 := hx
  unfold placeR at hr
  rw [ht] at hr
  simp only at hr
  refine FnOK.startC (rvs := [.tmp 6]) G G_good Try.func22 rfl Try.ntmps22 rfl rfl ?_; delta List.toArray; ((with_reducible conv => whnf); (with_reducible conv => congr <;> reduce); repeat ((first | (with_reducible refine HaltK.mk ?_) | (with_reducible refine StopK.mk ?_)); (with_reducible conv => whnf); (with_reducible conv => congr <;> reduce)))
  rcases htop with ⟨rfl, hs0, htop⟩ | ⟨k, j, y, hlk, hj, hy, htop⟩
  · cases htop
    ((with_reducible conv => whnf); (with_reducible conv => congr <;> reduce); repeat ((first | (with_reducible refine HaltK.mk ?_) | (with_reducible refine StopK.mk ?_)); (with_reducible conv => whnf); (with_reducible conv => congr <;> reduce)))
    refine IfK.no (by simp) ?_; ((with_reducible conv => whnf); (with_reducible conv => congr <;> reduce); repeat ((first | (with_reducible refine HaltK.mk ?_) | (with_reducible refine StopK.mk ?_)); (with_reducible conv => whnf); (with_reducible conv => congr <;> reduce)))
    by_cases p1 : 1 ≤ dp
    · by_cases n3 : kd = 3
      · repeat' (first
    | (first
    | ((with_reducible show IfK _ _ _ _); first | refine IfK.ff ?_ | refine IfK.tt ?_ | refine IfK.no (by first | rfl | assumption | exact nf (by assumption) | exact nt (by assumption) | ((try simp only [castN]); first | (simp [n3, eq_true p1, eq_true (show 0 ≤ dp by omega)]; done) | (simp [n3, eq_true p1, eq_true (show 0 ≤ dp by omega)]; omega))) ?_ | refine IfK.yes (by first | rfl | assumption | exact nf (by assumption) | exact nt (by assumption) | ((try simp only [castN]); first | (simp [n3, eq_true p1, eq_true (show 0 ≤ dp by omega)]; done) | (simp [n3, eq_true p1, eq_true (show 0 ≤ dp by omega)]; omega))) ?_)
    | ((with_reducible show NeedK _ _ _ _); refine NeedK.mk (by (try simp only [castN]); omega) ?_)
    | ((with_reducible show DrawK _ _ _ _); refine DrawK.mk (by kernel_rfl) (by kernel_rfl) (by kernel_rfl) ?_)
    | ((with_reducible show IfK _ _ _ _); refine IfK.mk (fun _ => ?_) (fun _ => ?_))) <;> ((with_reducible conv => whnf); (with_reducible conv => congr <;> reduce); repeat ((first | (with_reducible refine HaltK.mk ?_) | (with_reducible refine StopK.mk ?_)); (with_reducible conv => whnf); (with_reducible conv => congr <;> reduce)))
    | ((with_reducible show (_ ∧ _) ∧ _ ∧ _); refine ⟨⟨rfl, rfl⟩, ?_, ?_⟩ <;> (with_reducible conv => whnf) <;> repeat' (first | (with_reducible exact trivial) | (with_reducible refine And.intro ?_ ?_ <;> with_reducible conv => whnf))))
        all_goals (rw [← hr]; clear hr hx ht hO; first | (simp_all; done) | (rw [Bool.eq_iff_iff]; simp [*]; done) | (rw [Bool.eq_iff_iff]; simp [*]; omega) | (simp_all; omega) | trace_state)
      · by_cases n6 : kd = 6
        · repeat' (first
    | (first
    | ((with_reducible show IfK _ _ _ _); first | refine IfK.ff ?_ | refine IfK.tt ?_ | refine IfK.no (by first | rfl | assumption | exact nf (by assumption) | exact nt (by assumption) | ((try simp only [castN]); first | (simp [n6, eq_true p1, eq_true (show 0 ≤ dp by omega)]; done) | (simp [n6, eq_true p1, eq_true (show 0 ≤ dp by omega)]; omega))) ?_ | refine IfK.yes (by first | rfl | assumption | exact nf (by assumption) | exact nt (by assumption) | ((try simp only [castN]); first | (simp [n6, eq_true p1, eq_true (show 0 ≤ dp by omega)]; done) | (simp [n6, eq_true p1, eq_true (show 0 ≤ dp by omega)]; omega))) ?_)
    | ((with_reducible show NeedK _ _ _ _); refine NeedK.mk (by (try simp only [castN]); omega) ?_)
    | ((with_reducible show DrawK _ _ _ _); refine DrawK.mk (by kernel_rfl) (by kernel_rfl) (by kernel_rfl) ?_)
    | ((with_reducible show IfK _ _ _ _); refine IfK.mk (fun _ => ?_) (fun _ => ?_))) <;> ((with_reducible conv => whnf); (with_reducible conv => congr <;> reduce); repeat ((first | (with_reducible refine HaltK.mk ?_) | (with_reducible refine StopK.mk ?_)); (with_reducible conv => whnf); (with_reducible conv => congr <;> reduce)))
    | ((with_reducible show (_ ∧ _) ∧ _ ∧ _); refine ⟨⟨rfl, rfl⟩, ?_, ?_⟩ <;> (with_reducible conv => whnf) <;> repeat' (first | (with_reducible exact trivial) | (with_reducible refine And.intro ?_ ?_ <;> with_reducible conv => whnf))))
          all_goals (rw [← hr]; clear hr hx ht hO; first | (simp_all; done) | (rw [Bool.eq_iff_iff]; simp [*]; done) | (rw [Bool.eq_iff_iff]; simp [*]; omega) | (simp_all; omega) | trace_state)
        · by_cases n9 : kd = 9
          · repeat' (first
    | (first
    | ((with_reducible show IfK _ _ _ _); first | refine IfK.ff ?_ | refine IfK.tt ?_ | refine IfK.no (by first | rfl | assumption | exact nf (by assumption) | exact nt (by assumption) | ((try simp only [castN]); first | (simp [n9, eq_true p1, eq_true (show 0 ≤ dp by omega)]; done) | (simp [n9, eq_true p1, eq_true (show 0 ≤ dp by omega)]; omega))) ?_ | refine IfK.yes (by first | rfl | assumption | exact nf (by assumption) | exact nt (by assumption) | ((try simp only [castN]); first | (simp [n9, eq_true p1, eq_true (show 0 ≤ dp by omega)]; done) | (simp [n9, eq_true p1, eq_true (show 0 ≤ dp by omega)]; omega))) ?_)
    | ((with_reducible show NeedK _ _ _ _); refine NeedK.mk (by (try simp only [castN]); omega) ?_)
    | ((with_reducible show DrawK _ _ _ _); refine DrawK.mk (by kernel_rfl) (by kernel_rfl) (by kernel_rfl) ?_)
    | ((with_reducible show IfK _ _ _ _); refine IfK.mk (fun _ => ?_) (fun _ => ?_))) <;> ((with_reducible conv => whnf); (with_reducible conv => congr <;> reduce); repeat ((first | (with_reducible refine HaltK.mk ?_) | (with_reducible refine StopK.mk ?_)); (with_reducible conv => whnf); (with_reducible conv => congr <;> reduce)))
    | ((with_reducible show (_ ∧ _) ∧ _ ∧ _); refine ⟨⟨rfl, rfl⟩, ?_, ?_⟩ <;> (with_reducible conv => whnf) <;> repeat' (first | (with_reducible exact trivial) | (with_reducible refine And.intro ?_ ?_ <;> with_reducible conv => whnf))))
            all_goals (rw [← hr]; clear hr hx ht hO; first | (simp_all; done) | (rw [Bool.eq_iff_iff]; simp [*]; done) | (rw [Bool.eq_iff_iff]; simp [*]; omega) | (simp_all; omega) | trace_state)
          · by_cases n1 : kd = 1
            · repeat' (first
    | (first
    | ((with_reducible show IfK _ _ _ _); first | refine IfK.ff ?_ | refine IfK.tt ?_ | refine IfK.no (by first | rfl | assumption | exact nf (by assumption) | exact nt (by assumption) | ((try simp only [castN]); first | (simp [n1, eq_true p1, eq_true (show 0 ≤ dp by omega)]; done) | (simp [n1, eq_true p1, eq_true (show 0 ≤ dp by omega)]; omega))) ?_ | refine IfK.yes (by first | rfl | assumption | exact nf (by assumption) | exact nt (by assumption) | ((try simp only [castN]); first | (simp [n1, eq_true p1, eq_true (show 0 ≤ dp by omega)]; done) | (simp [n1, eq_true p1, eq_true (show 0 ≤ dp by omega)]; omega))) ?_)
    | ((with_reducible show NeedK _ _ _ _); refine NeedK.mk (by (try simp only [castN]); omega) ?_)
    | ((with_reducible show DrawK _ _ _ _); refine DrawK.mk (by kernel_rfl) (by kernel_rfl) (by kernel_rfl) ?_)
    | ((with_reducible show IfK _ _ _ _); refine IfK.mk (fun _ => ?_) (fun _ => ?_))) <;> ((with_reducible conv => whnf); (with_reducible conv => congr <;> reduce); repeat ((first | (with_reducible refine HaltK.mk ?_) | (with_reducible refine StopK.mk ?_)); (with_reducible conv => whnf); (with_reducible conv => congr <;> reduce)))
    | ((with_reducible show (_ ∧ _) ∧ _ ∧ _); refine ⟨⟨rfl, rfl⟩, ?_, ?_⟩ <;> (with_reducible conv => whnf) <;> repeat' (first | (with_reducible exact trivial) | (with_reducible refine And.intro ?_ ?_ <;> with_reducible conv => whnf))))
              all_goals (rw [← hr]; clear hr hx ht hO; first | (simp_all; done) | (rw [Bool.eq_iff_iff]; simp [*]; done) | (rw [Bool.eq_iff_iff]; simp [*]; omega) | (simp_all; omega) | trace_state)
            · by_cases n2 : kd = 2
              · repeat' (first
    | (first
    | ((with_reducible show IfK _ _ _ _); first | refine IfK.ff ?_ | refine IfK.tt ?_ | refine IfK.no (by first | rfl | assumption | exact nf (by assumption) | exact nt (by assumption) | ((try simp only [castN]); first | (simp [n2, eq_true p1, eq_true (show 0 ≤ dp by omega)]; done) | (simp [n2, eq_true p1, eq_true (show 0 ≤ dp by omega)]; omega))) ?_ | refine IfK.yes (by first | rfl | assumption | exact nf (by assumption) | exact nt (by assumption) | ((try simp only [castN]); first | (simp [n2, eq_true p1, eq_true (show 0 ≤ dp by omega)]; done) | (simp [n2, eq_true p1, eq_true (show 0 ≤ dp by omega)]; omega))) ?_)
    | ((with_reducible show NeedK _ _ _ _); refine NeedK.mk (by (try simp only [castN]); omega) ?_)
    | ((with_reducible show DrawK _ _ _ _); refine DrawK.mk (by kernel_rfl) (by kernel_rfl) (by kernel_rfl) ?_)
    | ((with_reducible show IfK _ _ _ _); refine IfK.mk (fun _ => ?_) (fun _ => ?_))) <;> ((with_reducible conv => whnf); (with_reducible conv => congr <;> reduce); repeat ((first | (with_reducible refine HaltK.mk ?_) | (with_reducible refine StopK.mk ?_)); (with_reducible conv => whnf); (with_reducible conv => congr <;> reduce)))
    | ((with_reducible show (_ ∧ _) ∧ _ ∧ _); refine ⟨⟨rfl, rfl⟩, ?_, ?_⟩ <;> (with_reducible conv => whnf) <;> repeat' (first | (with_reducible exact trivial) | (with_reducible refine And.intro ?_ ?_ <;> with_reducible conv => whnf))))
                all_goals (rw [← hr]; clear hr hx ht hO; first | (simp_all; done) | (rw [Bool.eq_iff_iff]; simp [*]; done) | (rw [Bool.eq_iff_iff]; simp [*]; omega) | (simp_all; omega) | trace_state)
              · by_cases n7 : kd = 7
                · repeat' (first
    | (first
    | ((with_reducible show IfK _ _ _ _); first | refine IfK.ff ?_ | refine IfK.tt ?_ | refine IfK.no (by first | rfl | assumption | exact nf (by assumption) | exact nt (by assumption) | ((try simp only [castN]); first | (simp [n7, eq_true p1, eq_true (show 0 ≤ dp by omega)]; done) | (simp [n7, eq_true p1, eq_true (show 0 ≤ dp by omega)]; omega))) ?_ | refine IfK.yes (by first | rfl | assumption | exact nf (by assumption) | exact nt (by assumption) | ((try simp only [castN]); first | (simp [n7, eq_true p1, eq_true (show 0 ≤ dp by omega)]; done) | (simp [n7, eq_true p1, eq_true (show 0 ≤ dp by omega)]; omega))) ?_)
    | ((with_reducible show NeedK _ _ _ _); refine NeedK.mk (by (try simp only [castN]); omega) ?_)
    | ((with_reducible show DrawK _ _ _ _); refine DrawK.mk (by kernel_rfl) (by kernel_rfl) (by kernel_rfl) ?_)
    | ((with_reducible show IfK _ _ _ _); refine IfK.mk (fun _ => ?_) (fun _ => ?_))) <;> ((with_reducible conv => whnf); (with_reducible conv => congr <;> reduce); repeat ((first | (with_reducible refine HaltK.mk ?_) | (with_reducible refine StopK.mk ?_)); (with_reducible conv => whnf); (with_reducible conv => congr <;> reduce)))
    | ((with_reducible show (_ ∧ _) ∧ _ ∧ _); refine ⟨⟨rfl, rfl⟩, ?_, ?_⟩ <;> (with_reducible conv => whnf) <;> repeat' (first | (with_reducible exact trivial) | (with_reducible refine And.intro ?_ ?_ <;> with_reducible conv => whnf))))
                  all_goals (rw [← hr]; clear hr hx ht hO; first | (simp_all; done) | (rw [Bool.eq_iff_iff]; simp [*]; done) | (rw [Bool.eq_iff_iff]; simp [*]; omega) | (simp_all; omega) | trace_state)
                · by_cases n5 : kd = 5
                  · repeat' (first
    | (first
    | ((with_reducible show IfK _ _ _ _); first | refine IfK.ff ?_ | refine IfK.tt ?_ | refine IfK.no (by first | rfl | assumption | exact nf (by assumption) | exact nt (by assumption) | ((try simp only [castN]); first | (simp [n5, eq_true p1, eq_true (show 0 ≤ dp by omega)]; done) | (simp [n5, eq_true p1, eq_true (show 0 ≤ dp by omega)]; omega))) ?_ | refine IfK.yes (by first | rfl | assumption | exact nf (by assumption) | exact nt (by assumption) | ((try simp only [castN]); first | (simp [n5, eq_true p1, eq_true (show 0 ≤ dp by omega)]; done) | (simp [n5, eq_true p1, eq_true (show 0 ≤ dp by omega)]; omega))) ?_)
    | ((with_reducible show NeedK _ _ _ _); refine NeedK.mk (by (try simp only [castN]); omega) ?_)
    | ((with_reducible show DrawK _ _ _ _); refine DrawK.mk (by kernel_rfl) (by kernel_rfl) (by kernel_rfl) ?_)
    | ((with_reducible show IfK _ _ _ _); refine IfK.mk (fun _ => ?_) (fun _ => ?_))) <;> ((with_reducible conv => whnf); (with_reducible conv => congr <;> reduce); repeat ((first | (with_reducible refine HaltK.mk ?_) | (with_reducible refine StopK.mk ?_)); (with_reducible conv => whnf); (with_reducible conv => congr <;> reduce)))
    | ((with_reducible show (_ ∧ _) ∧ _ ∧ _); refine ⟨⟨rfl, rfl⟩, ?_, ?_⟩ <;> (with_reducible conv => whnf) <;> repeat' (first | (with_reducible exact trivial) | (with_reducible refine And.intro ?_ ?_ <;> with_reducible conv => whnf))))
                    all_goals (rw [← hr]; clear hr hx ht hO; first | (simp_all; done) | (rw [Bool.eq_iff_iff]; simp [*]; done) | (rw [Bool.eq_iff_iff]; simp [*]; omega) | (simp_all; omega) | trace_state)
                  · by_cases n8 : kd = 8
                    · repeat' (first
    | (first
    | ((with_reducible show IfK _ _ _ _); first | refine IfK.ff ?_ | refine IfK.tt ?_ | refine IfK.no (by first | rfl | assumption | exact nf (by assumption) | exact nt (by assumption) | ((try simp only [castN]); first | (simp [n8, eq_true p1, eq_true (show 0 ≤ dp by omega)]; done) | (simp [n8, eq_true p1, eq_true (show 0 ≤ dp by omega)]; omega))) ?_ | refine IfK.yes (by first | rfl | assumption | exact nf (by assumption) | exact nt (by assumption) | ((try simp only [castN]); first | (simp [n8, eq_true p1, eq_true (show 0 ≤ dp by omega)]; done) | (simp [n8, eq_true p1, eq_true (show 0 ≤ dp by omega)]; omega))) ?_)
    | ((with_reducible show NeedK _ _ _ _); refine NeedK.mk (by (try simp only [castN]); omega) ?_)
    | ((with_reducible show DrawK _ _ _ _); refine DrawK.mk (by kernel_rfl) (by kernel_rfl) (by kernel_rfl) ?_)
    | ((with_reducible show IfK _ _ _ _); refine IfK.mk (fun _ => ?_) (fun _ => ?_))) <;> ((with_reducible conv => whnf); (with_reducible conv => congr <;> reduce); repeat ((first | (with_reducible refine HaltK.mk ?_) | (with_reducible refine StopK.mk ?_)); (with_reducible conv => whnf); (with_reducible conv => congr <;> reduce)))
    | ((with_reducible show (_ ∧ _) ∧ _ ∧ _); refine ⟨⟨rfl, rfl⟩, ?_, ?_⟩ <;> (with_reducible conv => whnf) <;> repeat' (first | (with_reducible exact trivial) | (with_reducible refine And.intro ?_ ?_ <;> with_reducible conv => whnf))))
                      all_goals (rw [← hr]; clear hr hx ht hO; first | (simp_all; done) | (rw [Bool.eq_iff_iff]; simp [*]; done) | (rw [Bool.eq_iff_iff]; simp [*]; omega) | (simp_all; omega) | trace_state)
                    · by_cases n4 : kd = 4
                      · repeat' (first
    | (first
    | ((with_reducible show IfK _ _ _ _); first | refine IfK.ff ?_ | refine IfK.tt ?_ | refine IfK.no (by first | rfl | assumption | exact nf (by assumption) | exact nt (by assumption) | ((try simp only [castN]); first | (simp [n4, eq_true p1, eq_true (show 0 ≤ dp by omega)]; done) | (simp [n4, eq_true p1, eq_true (show 0 ≤ dp by omega)]; omega))) ?_ | refine IfK.yes (by first | rfl | assumption | exact nf (by assumption) | exact nt (by assumption) | ((try simp only [castN]); first | (simp [n4, eq_true p1, eq_true (show 0 ≤ dp by omega)]; done) | (simp [n4, eq_true p1, eq_true (show 0 ≤ dp by omega)]; omega))) ?_)
    | ((with_reducible show NeedK _ _ _ _); refine NeedK.mk (by (try simp only [castN]); omega) ?_)
    | ((with_reducible show DrawK _ _ _ _); refine DrawK.mk (by kernel_rfl) (by kernel_rfl) (by kernel_rfl) ?_)
    | ((with_reducible show IfK _ _ _ _); refine IfK.mk (fun _ => ?_) (fun _ => ?_))) <;> ((with_reducible conv => whnf); (with_reducible conv => congr <;> reduce); repeat ((first | (with_reducible refine HaltK.mk ?_) | (with_reducible refine StopK.mk ?_)); (with_reducible conv => whnf); (with_reducible conv => congr <;> reduce)))
    | ((with_reducible show (_ ∧ _) ∧ _ ∧ _); refine ⟨⟨rfl, rfl⟩, ?_, ?_⟩ <;> (with_reducible conv => whnf) <;> repeat' (first | (with_reducible exact trivial) | (with_reducible refine And.intro ?_ ?_ <;> with_reducible conv => whnf))))
                        all_goals (rw [← hr]; clear hr hx ht hO; first | (simp_all; done) | (rw [Bool.eq_iff_iff]; simp [*]; done) | (rw [Bool.eq_iff_iff]; simp [*]; omega) | (simp_all; omega) | trace_state)
                      · repeat' (first
    | (first
    | ((with_reducible show IfK _ _ _ _); first | refine IfK.ff ?_ | refine IfK.tt ?_ | refine IfK.no (by first | rfl | assumption | exact nf (by assumption) | exact nt (by assumption) | ((try simp only [castN]); first | (simp [eq_false n3, eq_false n6, eq_false n9, eq_false n1, eq_false n2, eq_false n7, eq_false n5, eq_false n8, eq_false n4, eq_true p1, eq_true (show 0 ≤ dp by omega)]; done) | (simp [eq_false n3, eq_false n6, eq_false n9, eq_false n1, eq_false n2, eq_false n7, eq_false n5, eq_false n8, eq_false n4, eq_true p1, eq_true (show 0 ≤ dp by omega)]; omega))) ?_ | refine IfK.yes (by first | rfl | assumption | exact nf (by assumption) | exact nt (by assumption) | ((try simp only [castN]); first | (simp [eq_false n3, eq_false n6, eq_false n9, eq_false n1, eq_false n2, eq_false n7, eq_false n5, eq_false n8, eq_false n4, eq_true p1, eq_true (show 0 ≤ dp by omega)]; done) | (simp [eq_false n3, eq_false n6, eq_false n9, eq_false n1, eq_false n2, eq_false n7, eq_false n5, eq_false n8, eq_false n4, eq_true p1, eq_true (show 0 ≤ dp by omega)]; omega))) ?_)
    | ((with_reducible show NeedK _ _ _ _); refine NeedK.mk (by (try simp only [castN]); omega) ?_)
    | ((with_reducible show DrawK _ _ _ _); refine DrawK.mk (by kernel_rfl) (by kernel_rfl) (by kernel_rfl) ?_)
    | ((with_reducible show IfK _ _ _ _); refine IfK.mk (fun _ => ?_) (fun _ => ?_))) <;> ((with_reducible conv => whnf); (with_reducible conv => congr <;> reduce); repeat ((first | (with_reducible refine HaltK.mk ?_) | (with_reducible refine StopK.mk ?_)); (with_reducible conv => whnf); (with_reducible conv => congr <;> reduce)))
    | ((with_reducible show (_ ∧ _) ∧ _ ∧ _); refine ⟨⟨rfl, rfl⟩, ?_, ?_⟩ <;> (with_reducible conv => whnf) <;> repeat' (first | (with_reducible exact trivial) | (with_reducible refine And.intro ?_ ?_ <;> with_reducible conv => whnf))))
                        all_goals (rw [← hr]; clear hr hx ht hO; first | (simp_all; done) | (rw [Bool.eq_iff_iff]; simp [*]; done) | (rw [Bool.eq_iff_iff]; simp [*]; omega) | (simp_all; omega) | trace_state)
    · by_cases p0 : 0 ≤ dp
      · by_cases n3 : kd = 3
        · repeat' (first
    | (first
    | ((with_reducible show IfK _ _ _ _); first | refine IfK.ff ?_ | refine IfK.tt ?_ | refine IfK.no (by first | rfl | assumption | exact nf (by assumption) | exact nt (by assumption) | ((try simp only [castN]); first | (simp [n3, eq_false p1, eq_true p0]; done) | (simp [n3, eq_false p1, eq_true p0]; omega))) ?_ | refine IfK.yes (by first | rfl | assumption | exact nf (by assumption) | exact nt (by assumption) | ((try simp only [castN]); first | (simp [n3, eq_false p1, eq_true p0]; done) | (simp [n3, eq_false p1, eq_true p0]; omega))) ?_)
    | ((with_reducible show NeedK _ _ _ _); refine NeedK.mk (by (try simp only [castN]); omega) ?_)
    | ((with_reducible show DrawK _ _ _ _); refine DrawK.mk (by kernel_rfl) (by kernel_rfl) (by kernel_rfl) ?_)
    | ((with_reducible show IfK _ _ _ _); refine IfK.mk (fun _ => ?_) (fun _ => ?_))) <;> ((with_reducible conv => whnf); (with_reducible conv => congr <;> reduce); repeat ((first | (with_reducible refine HaltK.mk ?_) | (with_reducible refine StopK.mk ?_)); (with_reducible conv => whnf); (with_reducible conv => congr <;> reduce)))
    | ((with_reducible show (_ ∧ _) ∧ _ ∧ _); refine ⟨⟨rfl, rfl⟩, ?_, ?_⟩ <;> (with_reducible conv => whnf) <;> repeat' (first | (with_reducible exact trivial) | (with_reducible refine And.intro ?_ ?_ <;> with_reducible conv => whnf))))
          all_goals (rw [← hr]; clear hr hx ht hO; first | (simp_all; done) | (rw [Bool.eq_iff_iff]; simp [*]; done) | (rw [Bool.eq_iff_iff]; simp [*]; omega) | (simp_all; omega) | trace_state)
        · by_cases n6 : kd = 6
          · repeat' (first
    | (first
    | ((with_reducible show IfK _ _ _ _); first | refine IfK.ff ?_ | refine IfK.tt ?_ | refine IfK.no (by first | rfl | assumption | exact nf (by assumption) | exact nt (by assumption) | ((try simp only [castN]); first | (simp [n6, eq_false p1, eq_true p0]; done) | (simp [n6, eq_false p1, eq_true p0]; omega))) ?_ | refine IfK.yes (by first | rfl | assumption | exact nf (by assumption) | exact nt (by assumption) | ((try simp only [castN]); first | (simp [n6, eq_false p1, eq_true p0]; done) | (simp [n6, eq_false p1, eq_true p0]; omega))) ?_)
    | ((with_reducible show NeedK _ _ _ _); refine NeedK.mk (by (try simp only [castN]); omega) ?_)
    | ((with_reducible show DrawK _ _ _ _); refine DrawK.mk (by kernel_rfl) (by kernel_rfl) (by kernel_rfl) ?_)
    | ((with_reducible show IfK _ _ _ _); refine IfK.mk (fun _ => ?_) (fun _ => ?_))) <;> ((with_reducible conv => whnf); (with_reducible conv => congr <;> reduce); repeat ((first | (with_reducible refine HaltK.mk ?_) | (with_reducible refine StopK.mk ?_)); (with_reducible conv => whnf); (with_reducible conv => congr <;> reduce)))
    | ((with_reducible show (_ ∧ _) ∧ _ ∧ _); refine ⟨⟨rfl, rfl⟩, ?_, ?_⟩ <;> (with_reducible conv => whnf) <;> repeat' (first | (with_reducible exact trivial) | (with_reducible refine And.intro ?_ ?_ <;> with_reducible conv => whnf))))
            all_goals (rw [← hr]; clear hr hx ht hO; first | (simp_all; done) | (rw [Bool.eq_iff_iff]; simp [*]; done) | (rw [Bool.eq_iff_iff]; simp [*]; omega) | (simp_all; omega) | trace_state)
          · by_cases n9 : kd = 9
            · repeat' (first
    | (first
    | ((with_reducible show IfK _ _ _ _); first | refine IfK.ff ?_ | refine IfK.tt ?_ | refine IfK.no (by first | rfl | assumption | exact nf (by assumption) | exact nt (by assumption) | ((try simp only [castN]); first | (simp [n9, eq_false p1, eq_true p0]; done) | (simp [n9, eq_false p1, eq_true p0]; omega))) ?_ | refine IfK.yes (by first | rfl | assumption | exact nf (by assumption) | exact nt (by assumption) | ((try simp only [castN]); first | (simp [n9, eq_false p1, eq_true p0]; done) | (simp [n9, eq_false p1, eq_true p0]; omega))) ?_)
    | ((with_reducible show NeedK _ _ _ _); refine NeedK.mk (by (try simp only [castN]); omega) ?_)
    | ((with_reducible show DrawK _ _ _ _); refine DrawK.mk (by kernel_rfl) (by kernel_rfl) (by kernel_rfl) ?_)
    | ((with_reducible show IfK _ _ _ _); refine IfK.mk (fun _ => ?_) (fun _ => ?_))) <;> ((with_reducible conv => whnf); (with_reducible conv => congr <;> reduce); repeat ((first | (with_reducible refine HaltK.mk ?_) | (with_reducible refine StopK.mk ?_)); (with_reducible conv => whnf); (with_reducible conv => congr <;> reduce)))
    | ((with_reducible show (_ ∧ _) ∧ _ ∧ _); refine ⟨⟨rfl, rfl⟩, ?_, ?_⟩ <;> (with_reducible conv => whnf) <;> repeat' (first | (with_reducible exact trivial) | (with_reducible refine And.intro ?_ ?_ <;> with_reducible conv => whnf))))
              all_goals (rw [← hr]; clear hr hx ht hO; first | (simp_all; done) | (rw [Bool.eq_iff_iff]; simp [*]; done) | (rw [Bool.eq_iff_iff]; simp [*]; omega) | (simp_all; omega) | trace_state)
            · by_cases n1 : kd = 1
              · repeat' (first
    | (first
    | ((with_reducible show IfK _ _ _ _); first | refine IfK.ff ?_ | refine IfK.tt ?_ | refine IfK.no (by first | rfl | assumption | exact nf (by assumption) | exact nt (by assumption) | ((try simp only [castN]); first | (simp [n1, eq_false p1, eq_true p0]; done) | (simp [n1, eq_false p1, eq_true p0]; omega))) ?_ | refine IfK.yes (by first | rfl | assumption | exact nf (by assumption) | exact nt (by assumption) | ((try simp only [castN]); first | (simp [n1, eq_false p1, eq_true p0]; done) | (simp [n1, eq_false p1, eq_true p0]; omega))) ?_)
    | ((with_reducible show NeedK _ _ _ _); refine NeedK.mk (by (try simp only [castN]); omega) ?_)
    | ((with_reducible show DrawK _ _ _ _); refine DrawK.mk (by kernel_rfl) (by kernel_rfl) (by kernel_rfl) ?_)
    | ((with_reducible show IfK _ _ _ _); refine IfK.mk (fun _ => ?_) (fun _ => ?_))) <;> ((with_reducible conv => whnf); (with_reducible conv => congr <;> reduce); repeat ((first | (with_reducible refine HaltK.mk ?_) | (with_reducible refine StopK.mk ?_)); (with_reducible conv => whnf); (with_reducible conv => congr <;> reduce)))
    | ((with_reducible show (_ ∧ _) ∧ _ ∧ _); refine ⟨⟨rfl, rfl⟩, ?_, ?_⟩ <;> (with_reducible conv => whnf) <;> repeat' (first | (with_reducible exact trivial) | (with_reducible refine And.intro ?_ ?_ <;> with_reducible conv => whnf))))
                all_goals (rw [← hr]; clear hr hx ht hO; first | (simp_all; done) | (rw [Bool.eq_iff_iff]; simp [*]; done) | (rw [Bool.eq_iff_iff]; simp [*]; omega) | (simp_all; omega) | trace_state)
              · by_cases n2 : kd = 2
                · repeat' (first
    | (first
    | ((with_reducible show IfK _ _ _ _); first | refine IfK.ff ?_ | refine IfK.tt ?_ | refine IfK.no (by first | rfl | assumption | exact nf (by assumption) | exact nt (by assumption) | ((try simp only [castN]); first | (simp [n2, eq_false p1, eq_true p0]; done) | (simp [n2, eq_false p1, eq_true p0]; omega))) ?_ | refine IfK.yes (by first | rfl | assumption | exact nf (by assumption) | exact nt (by assumption) | ((try simp only [castN]); first | (simp [n2, eq_false p1, eq_true p0]; done) | (simp [n2, eq_false p1, eq_true p0]; omega))) ?_)
    | ((with_reducible show NeedK _ _ _ _); refine NeedK.mk (by (try simp only [castN]); omega) ?_)
    | ((with_reducible show DrawK _ _ _ _); refine DrawK.mk (by kernel_rfl) (by kernel_rfl) (by kernel_rfl) ?_)
    | ((with_reducible show IfK _ _ _ _); refine IfK.mk (fun _ => ?_) (fun _ => ?_))) <;> ((with_reducible conv => whnf); (with_reducible conv => congr <;> reduce); repeat ((first | (with_reducible refine HaltK.mk ?_) | (with_reducible refine StopK.mk ?_)); (with_reducible conv => whnf); (with_reducible conv => congr <;> reduce)))
    | ((with_reducible show (_ ∧ _) ∧ _ ∧ _); refine ⟨⟨rfl, rfl⟩, ?_, ?_⟩ <;> (with_reducible conv => whnf) <;> repeat' (first | (with_reducible exact trivial) | (with_reducible refine And.intro ?_ ?_ <;> with_reducible conv => whnf))))
                  all_goals (rw [← hr]; clear hr hx ht hO; first | (simp_all; done) | (rw [Bool.eq_iff_iff]; simp [*]; done) | (rw [Bool.eq_iff_iff]; simp [*]; omega) | (simp_all; omega) | trace_state)
                · by_cases n7 : kd = 7
                  · repeat' (first
    | (first
    | ((with_reducible show IfK _ _ _ _); first | refine IfK.ff ?_ | refine IfK.tt ?_ | refine IfK.no (by first | rfl | assumption | exact nf (by assumption) | exact nt (by assumption) | ((try simp only [castN]); first | (simp [n7, eq_false p1, eq_true p0]; done) | (simp [n7, eq_false p1, eq_true p0]; omega))) ?_ | refine IfK.yes (by first | rfl | assumption | exact nf (by assumption) | exact nt (by assumption) | ((try simp only [castN]); first | (simp [n7, eq_false p1, eq_true p0]; done) | (simp [n7, eq_false p1, eq_true p0]; omega))) ?_)
    | ((with_reducible show NeedK _ _ _ _); refine NeedK.mk (by (try simp only [castN]); omega) ?_)
    | ((with_reducible show DrawK _ _ _ _); refine DrawK.mk (by kernel_rfl) (by kernel_rfl) (by kernel_rfl) ?_)
    | ((with_reducible show IfK _ _ _ _); refine IfK.mk (fun _ => ?_) (fun _ => ?_))) <;> ((with_reducible conv => whnf); (with_reducible conv => congr <;> reduce); repeat ((first | (with_reducible refine HaltK.mk ?_) | (with_reducible refine StopK.mk ?_)); (with_reducible conv => whnf); (with_reducible conv => congr <;> reduce)))
    | ((with_reducible show (_ ∧ _) ∧ _ ∧ _); refine ⟨⟨rfl, rfl⟩, ?_, ?_⟩ <;> (with_reducible conv => whnf) <;> repeat' (first | (with_reducible exact trivial) | (with_reducible refine And.intro ?_ ?_ <;> with_reducible conv => whnf))))
                    all_goals (rw [← hr]; clear hr hx ht hO; first | (simp_all; done) | (rw [Bool.eq_iff_iff]; simp [*]; done) | (rw [Bool.eq_iff_iff]; simp [*]; omega) | (simp_all; omega) | trace_state)
                  · by_cases n5 : kd = 5
                    · repeat' (first
    | (first
    | ((with_reducible show IfK _ _ _ _); first | refine IfK.ff ?_ | refine IfK.tt ?_ | refine IfK.no (by first | rfl | assumption | exact nf (by assumption) | exact nt (by assumption) | ((try simp only [castN]); first | (simp [n5, eq_false p1, eq_true p0]; done) | (simp [n5, eq_false p1, eq_true p0]; omega))) ?_ | refine IfK.yes (by first | rfl | assumption | exact nf (by assumption) | exact nt (by assumption) | ((try simp only [castN]); first | (simp [n5, eq_false p1, eq_true p0]; done) | (simp [n5, eq_false p1, eq_true p0]; omega))) ?_)
    | ((with_reducible show NeedK _ _ _ _); refine NeedK.mk (by (try simp only [castN]); omega) ?_)
    | ((with_reducible show DrawK _ _ _ _); refine DrawK.mk (by kernel_rfl) (by kernel_rfl) (by kernel_rfl) ?_)
    | ((with_reducible show IfK _ _ _ _); refine IfK.mk (fun _ => ?_) (fun _ => ?_))) <;> ((with_reducible conv => whnf); (with_reducible conv => congr <;> reduce); repeat ((first | (with_reducible refine HaltK.mk ?_) | (with_reducible refine StopK.mk ?_)); (with_reducible conv => whnf); (with_reducible conv => congr <;> reduce)))
    | ((with_reducible show (_ ∧ _) ∧ _ ∧ _); refine ⟨⟨rfl, rfl⟩, ?_, ?_⟩ <;> (with_reducible conv => whnf) <;> repeat' (first | (with_reducible exact trivial) | (with_reducible refine And.intro ?_ ?_ <;> with_reducible conv => whnf))))
                      all_goals (rw [← hr]; clear hr hx ht hO; first | (simp_all; done) | (rw [Bool.eq_iff_iff]; simp [*]; done) | (rw [Bool.eq_iff_iff]; simp [*]; omega) | (simp_all; omega) | trace_state)
                    · by_cases n8 : kd = 8
                      · repeat' (first
    | (first
    | ((with_reducible show IfK _ _ _ _); first | refine IfK.ff ?_ | refine IfK.tt ?_ | refine IfK.no (by first | rfl | assumption | exact nf (by assumption) | exact nt (by assumption) | ((try simp only [castN]); first | (simp [n8, eq_false p1, eq_true p0]; done) | (simp [n8, eq_false p1, eq_true p0]; omega))) ?_ | refine IfK.yes (by first | rfl | assumption | exact nf (by assumption) | exact nt (by assumption) | ((try simp only [castN]); first | (simp [n8, eq_false p1, eq_true p0]; done) | (simp [n8, eq_false p1, eq_true p0]; omega))) ?_)
    | ((with_reducible show NeedK _ _ _ _); refine NeedK.mk (by (try simp only [castN]); omega) ?_)
    | ((with_reducible show DrawK _ _ _ _); refine DrawK.mk (by kernel_rfl) (by kernel_rfl) (by kernel_rfl) ?_)
    | ((with_reducible show IfK _ _ _ _); refine IfK.mk (fun _ => ?_) (fun _ => ?_))) <;> ((with_reducible conv => whnf); (with_reducible conv => congr <;> reduce); repeat ((first | (with_reducible refine HaltK.mk ?_) | (with_reducible refine StopK.mk ?_)); (with_reducible conv => whnf); (with_reducible conv => congr <;> reduce)))
    | ((with_reducible show (_ ∧ _) ∧ _ ∧ _); refine ⟨⟨rfl, rfl⟩, ?_, ?_⟩ <;> (with_reducible conv => whnf) <;> repeat' (first | (with_reducible exact trivial) | (with_reducible refine And.intro ?_ ?_ <;> with_reducible conv => whnf))))
                        all_goals (rw [← hr]; clear hr hx ht hO; first | (simp_all; done) | (rw [Bool.eq_iff_iff]; simp [*]; done) | (rw [Bool.eq_iff_iff]; simp [*]; omega) | (simp_all; omega) | trace_state)
                      · by_cases n4 : kd = 4
                        · repeat' (first
    | (first
    | ((with_reducible show IfK _ _ _ _); first | refine IfK.ff ?_ | refine IfK.tt ?_ | refine IfK.no (by first | rfl | assumption | exact nf (by assumption) | exact nt (by assumption) | ((try simp only [castN]); first | (simp [n4, eq_false p1, eq_true p0]; done) | (simp [n4, eq_false p1, eq_true p0]; omega))) ?_ | refine IfK.yes (by first | rfl | assumption | exact nf (by assumption) | exact nt (by assumption) | ((try simp only [castN]); first | (simp [n4, eq_false p1, eq_true p0]; done) | (simp [n4, eq_false p1, eq_true p0]; omega))) ?_)
    | ((with_reducible show NeedK _ _ _ _); refine NeedK.mk (by (try simp only [castN]); omega) ?_)
    | ((with_reducible show DrawK _ _ _ _); refine DrawK.mk (by kernel_rfl) (by kernel_rfl) (by kernel_rfl) ?_)
    | ((with_reducible show IfK _ _ _ _); refine IfK.mk (fun _ => ?_) (fun _ => ?_))) <;> ((with_reducible conv => whnf); (with_reducible conv => congr <;> reduce); repeat ((first | (with_reducible refine HaltK.mk ?_) | (with_reducible refine StopK.mk ?_)); (with_reducible conv => whnf); (with_reducible conv => congr <;> reduce)))
    | ((with_reducible show (_ ∧ _) ∧ _ ∧ _); refine ⟨⟨rfl, rfl⟩, ?_, ?_⟩ <;> (with_reducible conv => whnf) <;> repeat' (first | (with_reducible exact trivial) | (with_reducible refine And.intro ?_ ?_ <;> with_reducible conv => whnf))))
                          all_goals (rw [← hr]; clear hr hx ht hO; first | (simp_all; done) | (rw [Bool.eq_iff_iff]; simp [*]; done) | (rw [Bool.eq_iff_iff]; simp [*]; omega) | (simp_all; omega) | trace_state)
                        · repeat' (first
    | (first
    | ((with_reducible show IfK _ _ _ _); first | refine IfK.ff ?_ | refine IfK.tt ?_ | refine IfK.no (by first | rfl | assumption | exact nf (by assumption) | exact nt (by assumption) | ((try simp only [castN]); first | (simp [eq_false n3, eq_false n6, eq_false n9, eq_false n1, eq_false n2, eq_false n7, eq_false n5, eq_false n8, eq_false n4, eq_false p1, eq_true p0]; done) | (simp [eq_false n3, eq_false n6, eq_false n9, eq_false n1, eq_false n2, eq_false n7, eq_false n5, eq_false n8, eq_false n4, eq_false p1, eq_true p0]; omega))) ?_ | refine IfK.yes (by first | rfl | assumption | exact nf (by assumption) | exact nt (by assumption) | ((try simp only [castN]); first | (simp [eq_false n3, eq_false n6, eq_false n9, eq_false n1, eq_false n2, eq_false n7, eq_false n5, eq_false n8, eq_false n4, eq_false p1, eq_true p0]; done) | (simp [eq_false n3, eq_false n6, eq_false n9, eq_false n1, eq_false n2, eq_false n7, eq_false n5, eq_false n8, eq_false n4, eq_false p1, eq_true p0]; omega))) ?_)
    | ((with_reducible show NeedK _ _ _ _); refine NeedK.mk (by (try simp only [castN]); omega) ?_)
    | ((with_reducible show DrawK _ _ _ _); refine DrawK.mk (by kernel_rfl) (by kernel_rfl) (by kernel_rfl) ?_)
    | ((with_reducible show IfK _ _ _ _); refine IfK.mk (fun _ => ?_) (fun _ => ?_))) <;> ((with_reducible conv => whnf); (with_reducible conv => congr <;> reduce); repeat ((first | (with_reducible refine HaltK.mk ?_) | (with_reducible refine StopK.mk ?_)); (with_reducible conv => whnf); (with_reducible conv => congr <;> reduce)))
    | ((with_reducible show (_ ∧ _) ∧ _ ∧ _); refine ⟨⟨rfl, rfl⟩, ?_, ?_⟩ <;> (with_reducible conv => whnf) <;> repeat' (first | (with_reducible exact trivial) | (with_reducible refine And.intro ?_ ?_ <;> with_reducible conv => whnf))))
                          all_goals (rw [← hr]; clear hr hx ht hO; first | (simp_all; done) | (rw [Bool.eq_iff_iff]; simp [*]; done) | (rw [Bool.eq_iff_iff]; simp [*]; omega) | (simp_all; omega) | trace_state)
      · by_cases n3 : kd = 3
        · repeat' (first
    | (first
    | ((with_reducible show IfK _ _ _ _); first | refine IfK.ff ?_ | refine IfK.tt ?_ | refine IfK.no (by first | rfl | assumption | exact nf (by assumption) | exact nt (by assumption) | ((try simp only [castN]); first | (simp [n3, eq_false p1, eq_false p0]; done) | (simp [n3, eq_false p1, eq_false p0]; omega))) ?_ | refine IfK.yes (by first | rfl | assumption | exact nf (by assumption) | exact nt (by assumption) | ((try simp only [castN]); first | (simp [n3, eq_false p1, eq_false p0]; done) | (simp [n3, eq_false p1, eq_false p0]; omega))) ?_)
    | ((with_reducible show NeedK _ _ _ _); refine NeedK.mk (by (try simp only [castN]); omega) ?_)
    | ((with_reducible show DrawK _ _ _ _); refine DrawK.mk (by kernel_rfl) (by kernel_rfl) (by kernel_rfl) ?_)
    | ((with_reducible show IfK _ _ _ _); refine IfK.mk (fun _ => ?_) (fun _ => ?_))) <;> ((with_reducible conv => whnf); (with_reducible conv => congr <;> reduce); repeat ((first | (with_reducible refine HaltK.mk ?_) | (with_reducible refine StopK.mk ?_)); (with_reducible conv => whnf); (with_reducible conv => congr <;> reduce)))
    | ((with_reducible show (_ ∧ _) ∧ _ ∧ _); refine ⟨⟨rfl, rfl⟩, ?_, ?_⟩ <;> (with_reducible conv => whnf) <;> repeat' (first | (with_reducible exact trivial) | (with_reducible refine And.intro ?_ ?_ <;> with_reducible conv => whnf))))
          all_goals (rw [← hr]; clear hr hx ht hO; first | (simp_all; done) | (rw [Bool.eq_iff_iff]; simp [*]; done) | (rw [Bool.eq_iff_iff]; simp [*]; omega) | (simp_all; omega) | trace_state)
        · by_cases n6 : kd = 6
          · repeat' (first
    | (first
    | ((with_reducible show IfK _ _ _ _); first | refine IfK.ff ?_ | refine IfK.tt ?_ | refine IfK.no (by first | rfl | assumption | exact nf (by assumption) | exact nt (by assumption) | ((try simp only [castN]); first | (simp [n6, eq_false p1, eq_false p0]; done) | (simp [n6, eq_false p1, eq_false p0]; omega))) ?_ | refine IfK.yes (by first | rfl | assumption | exact nf (by assumption) | exact nt (by assumption) | ((try simp only [castN]); first | (simp [n6, eq_false p1, eq_false p0]; done) | (simp [n6, eq_false p1, eq_false p0]; omega))) ?_)
    | ((with_reducible show NeedK _ _ _ _); refine NeedK.mk (by (try simp only [castN]); omega) ?_)
    | ((with_reducible show DrawK _ _ _ _); refine DrawK.mk (by kernel_rfl) (by kernel_rfl) (by kernel_rfl) ?_)
    | ((with_reducible show IfK _ _ _ _); refine IfK.mk (fun _ => ?_) (fun _ => ?_))) <;> ((with_reducible conv => whnf); (with_reducible conv => congr <;> reduce); repeat ((first | (with_reducible refine HaltK.mk ?_) | (with_reducible refine StopK.mk ?_)); (with_reducible conv => whnf); (with_reducible conv => congr <;> reduce)))
    | ((with_reducible show (_ ∧ _) ∧ _ ∧ _); refine ⟨⟨rfl, rfl⟩, ?_, ?_⟩ <;> (with_reducible conv => whnf) <;> repeat' (first | (with_reducible exact trivial) | (with_reducible refine And.intro ?_ ?_ <;> with_reducible conv => whnf))))
            all_goals (rw [← hr]; clear hr hx ht hO; first | (simp_all; done) | (rw [Bool.eq_iff_iff]; simp [*]; done) | (rw [Bool.eq_iff_iff]; simp [*]; omega) | (simp_all; omega) | trace_state)
          · by_cases n9 : kd = 9
            · repeat' (first
    | (first
    | ((with_reducible show IfK _ _ _ _); first | refine IfK.ff ?_ | refine IfK.tt ?_ | refine IfK.no (by first | rfl | assumption | exact nf (by assumption) | exact nt (by assumption) | ((try simp only [castN]); first | (simp [n9, eq_false p1, eq_false p0]; done) | (simp [n9, eq_false p1, eq_false p0]; omega))) ?_ | refine IfK.yes (by first | rfl | assumption | exact nf (by assumption) | exact nt (by assumption) | ((try simp only [castN]); first | (simp [n9, eq_false p1, eq_false p0]; done) | (simp [n9, eq_false p1, eq_false p0]; omega))) ?_)
    | ((with_reducible show NeedK _ _ _ _); refine NeedK.mk (by (try simp only [castN]); omega) ?_)
    | ((with_reducible show DrawK _ _ _ _); refine DrawK.mk (by kernel_rfl) (by kernel_rfl) (by kernel_rfl) ?_)
    | ((with_reducible show IfK _ _ _ _); refine IfK.mk (fun _ => ?_) (fun _ => ?_))) <;> ((with_reducible conv => whnf); (with_reducible conv => congr <;> reduce); repeat ((first | (with_reducible refine HaltK.mk ?_) | (with_reducible refine StopK.mk ?_)); (with_reducible conv => whnf); (with_reducible conv => congr <;> reduce)))
    | ((with_reducible show (_ ∧ _) ∧ _ ∧ _); refine ⟨⟨rfl, rfl⟩, ?_, ?_⟩ <;> (with_reducible conv => whnf) <;> repeat' (first | (with_reducible exact trivial) | (with_reducible refine And.intro ?_ ?_ <;> with_reducible conv => whnf))))
              all_goals (rw [← hr]; clear hr hx ht hO; first | (simp_all; done) | (rw [Bool.eq_iff_iff]; simp [*]; done) | (rw [Bool.eq_iff_iff]; simp [*]; omega) | (simp_all; omega) | trace_state)
            · by_cases n1 : kd = 1
              · repeat' (first
    | (first
    | ((with_reducible show IfK _ _ _ _); first | refine IfK.ff ?_ | refine IfK.tt ?_ | refine IfK.no (by first | rfl | assumption | exact nf (by assumption) | exact nt (by assumption) | ((try simp only [castN]); first | (simp [n1, eq_false p1, eq_false p0]; done) | (simp [n1, eq_false p1, eq_false p0]; omega))) ?_ | refine IfK.yes (by first | rfl | assumption | exact nf (by assumption) | exact nt (by assumption) | ((try simp only [castN]); first | (simp [n1, eq_false p1, eq_false p0]; done) | (simp [n1, eq_false p1, eq_false p0]; omega))) ?_)
    | ((with_reducible show NeedK _ _ _ _); refine NeedK.mk (by (try simp only [castN]); omega) ?_)
    | ((with_reducible show DrawK _ _ _ _); refine DrawK.mk (by kernel_rfl) (by kernel_rfl) (by kernel_rfl) ?_)
    | ((with_reducible show IfK _ _ _ _); refine IfK.mk (fun _ => ?_) (fun _ => ?_))) <;> ((with_reducible conv => whnf); (with_reducible conv => congr <;> reduce); repeat ((first | (with_reducible refine HaltK.mk ?_) | (with_reducible refine StopK.mk ?_)); (with_reducible conv => whnf); (with_reducible conv => congr <;> reduce)))
    | ((with_reducible show (_ ∧ _) ∧ _ ∧ _); refine ⟨⟨rfl, rfl⟩, ?_, ?_⟩ <;> (with_reducible conv => whnf) <;> repeat' (first | (with_reducible exact trivial) | (with_reducible refine And.intro ?_ ?_ <;> with_reducible conv => whnf))))
                all_goals (rw [← hr]; clear hr hx ht hO; first | (simp_all; done) | (rw [Bool.eq_iff_iff]; simp [*]; done) | (rw [Bool.eq_iff_iff]; simp [*]; omega) | (simp_all; omega) | trace_state)
              · by_cases n2 : kd = 2
                · repeat' (first
    | (first
    | ((with_reducible show IfK _ _ _ _); first | refine IfK.ff ?_ | refine IfK.tt ?_ | refine IfK.no (by first | rfl | assumption | exact nf (by assumption) | exact nt (by assumption) | ((try simp only [castN]); first | (simp [n2, eq_false p1, eq_false p0]; done) | (simp [n2, eq_false p1, eq_false p0]; omega))) ?_ | refine IfK.yes (by first | rfl | assumption | exact nf (by assumption) | exact nt (by assumption) | ((try simp only [castN]); first | (simp [n2, eq_false p1, eq_false p0]; done) | (simp [n2, eq_false p1, eq_false p0]; omega))) ?_)
    | ((with_reducible show NeedK _ _ _ _); refine NeedK.mk (by (try simp only [castN]); omega) ?_)
    | ((with_reducible show DrawK _ _ _ _); refine DrawK.mk (by kernel_rfl) (by kernel_rfl) (by kernel_rfl) ?_)
    | ((with_reducible show IfK _ _ _ _); refine IfK.mk (fun _ => ?_) (fun _ => ?_))) <;> ((with_reducible conv => whnf); (with_reducible conv => congr <;> reduce); repeat ((first | (with_reducible refine HaltK.mk ?_) | (with_reducible refine StopK.mk ?_)); (with_reducible conv => whnf); (with_reducible conv => congr <;> reduce)))
    | ((with_reducible show (_ ∧ _) ∧ _ ∧ _); refine ⟨⟨rfl, rfl⟩, ?_, ?_⟩ <;> (with_reducible conv => whnf) <;> repeat' (first | (with_reducible exact trivial) | (with_reducible refine And.intro ?_ ?_ <;> with_reducible conv => whnf))))
                  all_goals (rw [← hr]; clear hr hx ht hO; first | (simp_all; done) | (rw [Bool.eq_iff_iff]; simp [*]; done) | (rw [Bool.eq_iff_iff]; simp [*]; omega) | (simp_all; omega) | trace_state)
                · by_cases n7 : kd = 7
                  · repeat' (first
    | (first
    | ((with_reducible show IfK _ _ _ _); first | refine IfK.ff ?_ | refine IfK.tt ?_ | refine IfK.no (by first | rfl | assumption | exact nf (by assumption) | exact nt (by assumption) | ((try simp only [castN]); first | (simp [n7, eq_false p1, eq_false p0]; done) | (simp [n7, eq_false p1, eq_false p0]; omega))) ?_ | refine IfK.yes (by first | rfl | assumption | exact nf (by assumption) | exact nt (by assumption) | ((try simp only [castN]); first | (simp [n7, eq_false p1, eq_false p0]; done) | (simp [n7, eq_false p1, eq_false p0]; omega))) ?_)
    | ((with_reducible show NeedK _ _ _ _); refine NeedK.mk (by (try simp only [castN]); omega) ?_)
    | ((with_reducible show DrawK _ _ _ _); refine DrawK.mk (by kernel_rfl) (by kernel_rfl) (by kernel_rfl) ?_)
    | ((with_reducible show IfK _ _ _ _); refine IfK.mk (fun _ => ?_) (fun _ => ?_))) <;> ((with_reducible conv => whnf); (with_reducible conv => congr <;> reduce); repeat ((first | (with_reducible refine HaltK.mk ?_) | (with_reducible refine StopK.mk ?_)); (with_reducible conv => whnf); (with_reducible conv => congr <;> reduce)))
    | ((with_reducible show (_ ∧ _) ∧ _ ∧ _); refine ⟨⟨rfl, rfl⟩, ?_, ?_⟩ <;> (with_reducible conv => whnf) <;> repeat' (first | (with_reducible exact trivial) | (with_reducible refine And.intro ?_ ?_ <;> with_reducible conv => whnf))))
                    all_goals (rw [← hr]; clear hr hx ht hO; first | (simp_all; done) | (rw [Bool.eq_iff_iff]; simp [*]; done) | (rw [Bool.eq_iff_iff]; simp [*]; omega) | (simp_all; omega) | trace_state)
                  · by_cases n5 : kd = 5
                    · repeat' (first
    | (first
    | ((with_reducible show IfK _ _ _ _); first | refine IfK.ff ?_ | refine IfK.tt ?_ | refine IfK.no (by first | rfl | assumption | exact nf (by assumption) | exact nt (by assumption) | ((try simp only [castN]); first | (simp [n5, eq_false p1, eq_false p0]; done) | (simp [n5, eq_false p1, eq_false p0]; omega))) ?_ | refine IfK.yes (by first | rfl | assumption | exact nf (by assumption) | exact nt (by assumption) | ((try simp only [castN]); first | (simp [n5, eq_false p1, eq_false p0]; done) | (simp [n5, eq_false p1, eq_false p0]; omega))) ?_)
    | ((with_reducible show NeedK _ _ _ _); refine NeedK.mk (by (try simp only [castN]); omega) ?_)
    | ((with_reducible show DrawK _ _ _ _); refine DrawK.mk (by kernel_rfl) (by kernel_rfl) (by kernel_rfl) ?_)
    | ((with_reducible show IfK _ _ _ _); refine IfK.mk (fun _ => ?_) (fun _ => ?_))) <;> ((with_reducible conv => whnf); (with_reducible conv => congr <;> reduce); repeat ((first | (with_reducible refine HaltK.mk ?_) | (with_reducible refine StopK.mk ?_)); (with_reducible conv => whnf); (with_reducible conv => congr <;> reduce)))
    | ((with_reducible show (_ ∧ _) ∧ _ ∧ _); refine ⟨⟨rfl, rfl⟩, ?_, ?_⟩ <;> (with_reducible conv => whnf) <;> repeat' (first | (with_reducible exact trivial) | (with_reducible refine And.intro ?_ ?_ <;> with_reducible conv => whnf))))
                      all_goals (rw [← hr]; clear hr hx ht hO; first | (simp_all; done) | (rw [Bool.eq_iff_iff]; simp [*]; done) | (rw [Bool.eq_iff_iff]; simp [*]; omega) | (simp_all; omega) | trace_state)
                    · by_cases n8 : kd = 8
                      · repeat' (first
    | (first
    | ((with_reducible show IfK _ _ _ _); first | refine IfK.ff ?_ | refine IfK.tt ?_ | refine IfK.no (by first | rfl | assumption | exact nf (by assumption) | exact nt (by assumption) | ((try simp only [castN]); first | (simp [n8, eq_false p1, eq_false p0]; done) | (simp [n8, eq_false p1, eq_false p0]; omega))) ?_ | refine IfK.yes (by first | rfl | assumption | exact nf (by assumption) | exact nt (by assumption) | ((try simp only [castN]); first | (simp [n8, eq_false p1, eq_false p0]; done) | (simp [n8, eq_false p1, eq_false p0]; omega))) ?_)
    | ((with_reducible show NeedK _ _ _ _); refine NeedK.mk (by (try simp only [castN]); omega) ?_)
    | ((with_reducible show DrawK _ _ _ _); refine DrawK.mk (by kernel_rfl) (by kernel_rfl) (by kernel_rfl) ?_)
    | ((with_reducible show IfK _ _ _ _); refine IfK.mk (fun _ => ?_) (fun _ => ?_))) <;> ((with_reducible conv => whnf); (with_reducible conv => congr <;> reduce); repeat ((first | (with_reducible refine HaltK.mk ?_) | (with_reducible refine StopK.mk ?_)); (with_reducible conv => whnf); (with_reducible conv => congr <;> reduce)))
    | ((with_reducible show (_ ∧ _) ∧ _ ∧ _); refine ⟨⟨rfl, rfl⟩, ?_, ?_⟩ <;> (with_reducible conv => whnf) <;> repeat' (first | (with_reducible exact trivial) | (with_reducible refine And.intro ?_ ?_ <;> with_reducible conv => whnf))))
                        all_goals (rw [← hr]; clear hr hx ht hO; first | (simp_all; done) | (rw [Bool.eq_iff_iff]; simp [*]; done) | (rw [Bool.eq_iff_iff]; simp [*]; omega) | (simp_all; omega) | trace_state)
                      · by_cases n4 : kd = 4
                        · repeat' (first
    | (first
    | ((with_reducible show IfK _ _ _ _); first | refine IfK.ff ?_ | refine IfK.tt ?_ | refine IfK.no (by first | rfl | assumption | exact nf (by assumption) | exact nt (by assumption) | ((try simp only [castN]); first | (simp [n4, eq_false p1, eq_false p0]; done) | (simp [n4, eq_false p1, eq_false p0]; omega))) ?_ | refine IfK.yes (by first | rfl | assumption | exact nf (by assumption) | exact nt (by assumption) | ((try simp only [castN]); first | (simp [n4, eq_false p1, eq_false p0]; done) | (simp [n4, eq_false p1, eq_false p0]; omega))) ?_)
    | ((with_reducible show NeedK _ _ _ _); refine NeedK.mk (by (try simp only [castN]); omega) ?_)
    | ((with_reducible show DrawK _ _ _ _); refine DrawK.mk (by kernel_rfl) (by kernel_rfl) (by kernel_rfl) ?_)
    | ((with_reducible show IfK _ _ _ _); refine IfK.mk (fun _ => ?_) (fun _ => ?_))) <;> ((with_reducible conv => whnf); (with_reducible conv => congr <;> reduce); repeat ((first | (with_reducible refine HaltK.mk ?_) | (with_reducible refine StopK.mk ?_)); (with_reducible conv => whnf); (with_reducible conv => congr <;> reduce)))
    | ((with_reducible show (_ ∧ _) ∧ _ ∧ _); refine ⟨⟨rfl, rfl⟩, ?_, ?_⟩ <;> (with_reducible conv => whnf) <;> repeat' (first | (with_reducible exact trivial) | (with_reducible refine And.intro ?_ ?_ <;> with_reducible conv => whnf))))
                          all_goals (rw [← hr]; clear hr hx ht hO; first | (simp_all; done) | (rw [Bool.eq_iff_iff]; simp [*]; done) | (rw [Bool.eq_iff_iff]; simp [*]; omega) | (simp_all; omega) | trace_state)
                        · repeat' (first
    | (first
    | ((with_reducible show IfK _ _ _ _); first | refine IfK.ff ?_ | refine IfK.tt ?_ | refine IfK.no (by first | rfl | assumption | exact nf (by assumption) | exact nt (by assumption) | ((try simp only [castN]); first | (simp [eq_false n3, eq_false n6, eq_false n9, eq_false n1, eq_false n2, eq_false n7, eq_false n5, eq_false n8, eq_false n4, eq_false p1, eq_false p0]; done) | (simp [eq_false n3, eq_false n6, eq_false n9, eq_false n1, eq_false n2, eq_false n7, eq_false n5, eq_false n8, eq_false n4, eq_false p1, eq_false p0]; omega))) ?_ | refine IfK.yes (by first | rfl | assumption | exact nf (by assumption) | exact nt (by assumption) | ((try simp only [castN]); first | (simp [eq_false n3, eq_false n6, eq_false n9, eq_false n1, eq_false n2, eq_false n7, eq_false n5, eq_false n8, eq_false n4, eq_false p1, eq_false p0]; done) | (simp [eq_false n3, eq_false n6, eq_false n9, eq_false n1, eq_false n2, eq_false n7, eq_false n5, eq_false n8, eq_false n4, eq_false p1, eq_false p0]; omega))) ?_)
    | ((with_reducible show NeedK _ _ _ _); refine NeedK.mk (by (try simp only [castN]); omega) ?_)
    | ((with_reducible show DrawK _ _ _ _); refine DrawK.mk (by kernel_rfl) (by kernel_rfl) (by kernel_rfl) ?_)
    | ((with_reducible show IfK _ _ _ _); refine IfK.mk (fun _ => ?_) (fun _ => ?_))) <;> ((with_reducible conv => whnf); (with_reducible conv => congr <;> reduce); repeat ((first | (with_reducible refine HaltK.mk ?_) | (with_reducible refine StopK.mk ?_)); (with_reducible conv => whnf); (with_reducible conv => congr <;> reduce)))
    | ((with_reducible show (_ ∧ _) ∧ _ ∧ _); refine ⟨⟨rfl, rfl⟩, ?_, ?_⟩ <;> (with_reducible conv => whnf) <;> repeat' (first | (with_reducible exact trivial) | (with_reducible refine And.intro ?_ ?_ <;> with_reducible conv => whnf))))
                          all_goals (rw [← hr]; clear hr hx ht hO; first | (simp_all; done) | (rw [Bool.eq_iff_iff]; simp [*]; done) | (rw [Bool.eq_iff_iff]; simp [*]; omega) | (simp_all; omega) | trace_state)
  · obtain ⟨ykd, ydp, ynd, ywt, yer, ynm, yb1, yb2, yol, ynw, yfr, yto, yon⟩ := y
    cases htop
    have hpos : ((0 : Int) < (o.length : Int)) = True := eq_true (by omega)
    have hsub : ((o.map oNat).length : Int) - 1 = (k : Int) := by rw [hom]; omega
    rw [hom]
    refine IfK.yes (by simp only [hpos]; rfl) ?_; ((with_reducible conv => whnf); (with_reducible conv => congr <;> reduce); repeat ((first | (with_reducible refine HaltK.mk ?_) | (with_reducible refine StopK.mk ?_)); (with_reducible conv => whnf); (with_reducible conv => congr <;> reduce)))
    refine NeedK.mk (by (try simp only [castN]); omega) ?_; ((with_reducible conv => whnf); (with_reducible conv => congr <;> reduce); repeat ((first | (with_reducible refine HaltK.mk ?_) | (with_reducible refine StopK.mk ?_)); (with_reducible conv => whnf); (with_reducible conv => congr <;> reduce)))
    refine IdxK.mk k (eInt j) hsub (nat_get hj) ?_; ((with_reducible conv => whnf); (with_reducible conv => congr <;> reduce); repeat ((first | (with_reducible refine HaltK.mk ?_) | (with_reducible refine StopK.mk ?_)); (with_reducible conv => whnf); (with_reducible conv => congr <;> reduce)))
    refine IdxK.mk j (eMk ⟨ykd, ydp, ynd, ywt, yer, ynm, yb1, yb2, yol, ynw, yfr, yto, yon⟩) rfl (mk_get hy) ?_; ((with_reducible conv => whnf); (with_reducible conv => congr <;> reduce); repeat ((first | (with_reducible refine HaltK.mk ?_) | (with_reducible refine StopK.mk ?_)); (with_reducible conv => whnf); (with_reducible conv => congr <;> reduce)))
    by_cases p1 : 1 ≤ dp
    · by_cases n3 : kd = 3
      · repeat' (first
    | (first
    | ((with_reducible show IfK _ _ _ _); first | refine IfK.ff ?_ | refine IfK.tt ?_ | refine IfK.no (by first | rfl | assumption | exact nf (by assumption) | exact nt (by assumption) | ((try simp only [castN]); first | (simp [n3, eq_true p1, eq_true (show 0 ≤ dp by omega)]; done) | (simp [n3, eq_true p1, eq_true (show 0 ≤ dp by omega)]; omega))) ?_ | refine IfK.yes (by first | rfl | assumption | exact nf (by assumption) | exact nt (by assumption) | ((try simp only [castN]); first | (simp [n3, eq_true p1, eq_true (show 0 ≤ dp by omega)]; done) | (simp [n3, eq_true p1, eq_true (show 0 ≤ dp by omega)]; omega))) ?_)
    | ((with_reducible show NeedK _ _ _ _); refine NeedK.mk (by (try simp only [castN]); omega) ?_)
    | ((with_reducible show DrawK _ _ _ _); refine DrawK.mk (by kernel_rfl) (by kernel_rfl) (by kernel_rfl) ?_)
    | ((with_reducible show IfK _ _ _ _); refine IfK.mk (fun _ => ?_) (fun _ => ?_))) <;> ((with_reducible conv => whnf); (with_reducible conv => congr <;> reduce); repeat ((first | (with_reducible refine HaltK.mk ?_) | (with_reducible refine StopK.mk ?_)); (with_reducible conv => whnf); (with_reducible conv => congr <;> reduce)))
    | ((with_reducible show (_ ∧ _) ∧ _ ∧ _); refine ⟨⟨rfl, rfl⟩, ?_, ?_⟩ <;> (with_reducible conv => whnf) <;> repeat' (first | (with_reducible exact trivial) | (with_reducible refine And.intro ?_ ?_ <;> with_reducible conv => whnf))))
        all_goals (rw [← hr]; clear hr hx ht hO; first | (simp_all; done) | (rw [Bool.eq_iff_iff]; simp [*]; done) | (rw [Bool.eq_iff_iff]; simp [*]; omega) | (simp_all; omega) | trace_state)
      · by_cases n6 : kd = 6
        · repeat' (first
    | (first
    | ((with_reducible show IfK _ _ _ _); first | refine IfK.ff ?_ | refine IfK.tt ?_ | refine IfK.no (by first | rfl | assumption | exact nf (by assumption) | exact nt (by assumption) | ((try simp only [castN]); first | (simp [n6, eq_true p1, eq_true (show 0 ≤ dp by omega)]; done) | (simp [n6, eq_true p1, eq_true (show 0 ≤ dp by omega)]; omega))) ?_ | refine IfK.yes (by first | rfl | assumption | exact nf (by assumption) | exact nt (by assumption) | ((try simp only [castN]); first | (simp [n6, eq_true p1, eq_true (show 0 ≤ dp by omega)]; done) | (simp [n6, eq_true p1, eq_true (show 0 ≤ dp by omega)]; omega))) ?_)
    | ((with_reducible show NeedK _ _ _ _); refine NeedK.mk (by (try simp only [castN]); omega) ?_)
    | ((with_reducible show DrawK _ _ _ _); refine DrawK.mk (by kernel_rfl) (by kernel_rfl) (by kernel_rfl) ?_)
    | ((with_reducible show IfK _ _ _ _); refine IfK.mk (fun _ => ?_) (fun _ => ?_))) <;> ((with_reducible conv => whnf); (with_reducible conv => congr <;> reduce); repeat ((first | (with_reducible refine HaltK.mk ?_) | (with_reducible refine StopK.mk ?_)); (with_reducible conv => whnf); (with_reducible conv => congr <;> reduce)))
    | ((with_reducible show (_ ∧ _) ∧ _ ∧ _); refine ⟨⟨rfl, rfl⟩, ?_, ?_⟩ <;> (with_reducible conv => whnf) <;> repeat' (first | (with_reducible exact trivial) | (with_reducible refine And.intro ?_ ?_ <;> with_reducible conv => whnf))))
          all_goals (rw [← hr]; clear hr hx ht hO; first | (simp_all; done) | (rw [Bool.eq_iff_iff]; simp [*]; done) | (rw [Bool.eq_iff_iff]; simp [*]; omega) | (simp_all; omega) | trace_state)
        · by_cases n9 : kd = 9
          · repeat' (first
    | (first
    | ((with_reducible show IfK _ _ _ _); first | refine IfK.ff ?_ | refine IfK.tt ?_ | refine IfK.no (by first | rfl | assumption | exact nf (by assumption) | exact nt (by assumption) | ((try simp only [castN]); first | (simp [n9, eq_true p1, eq_true (show 0 ≤ dp by omega)]; done) | (simp [n9, eq_true p1, eq_true (show 0 ≤ dp by omega)]; omega))) ?_ | refine IfK.yes (by first | rfl | assumption | exact nf (by assumption) | exact nt (by assumption) | ((try simp only [castN]); first | (simp [n9, eq_true p1, eq_true (show 0 ≤ dp by omega)]; done) | (simp [n9, eq_true p1, eq_true (show 0 ≤ dp by omega)]; omega))) ?_)
    | ((with_reducible show NeedK _ _ _ _); refine NeedK.mk (by (try simp only [castN]); omega) ?_)
    | ((with_reducible show DrawK _ _ _ _); refine DrawK.mk (by kernel_rfl) (by kernel_rfl) (by kernel_rfl) ?_)
    | ((with_reducible show IfK _ _ _ _); refine IfK.mk (fun _ => ?_) (fun _ => ?_))) <;> ((with_reducible conv => whnf); (with_reducible conv => congr <;> reduce); repeat ((first | (with_reducible refine HaltK.mk ?_) | (with_reducible refine StopK.mk ?_)); (with_reducible conv => whnf); (with_reducible conv => congr <;> reduce)))
    | ((with_reducible show (_ ∧ _) ∧ _ ∧ _); refine ⟨⟨rfl, rfl⟩, ?_, ?_⟩ <;> (with_reducible conv => whnf) <;> repeat' (first | (with_reducible exact trivial) | (with_reducible refine And.intro ?_ ?_ <;> with_reducible conv => whnf))))
            all_goals (rw [← hr]; clear hr hx ht hO; first | (simp_all; done) | (rw [Bool.eq_iff_iff]; simp [*]; done) | (rw [Bool.eq_iff_iff]; simp [*]; omega) | (simp_all; omega) | trace_state)
          · by_cases n1 : kd = 1
            · repeat' (first
    | (first
    | ((with_reducible show IfK _ _ _ _); first | refine IfK.ff ?_ | refine IfK.tt ?_ | refine IfK.no (by first | rfl | assumption | exact nf (by assumption) | exact nt (by assumption) | ((try simp only [castN]); first | (simp [n1, eq_true p1, eq_true (show 0 ≤ dp by omega)]; done) | (simp [n1, eq_true p1, eq_true (show 0 ≤ dp by omega)]; omega))) ?_ | refine IfK.yes (by first | rfl | assumption | exact nf (by assumption) | exact nt (by assumption) | ((try simp only [castN]); first | (simp [n1, eq_true p1, eq_true (show 0 ≤ dp by omega)]; done) | (simp [n1, eq_true p1, eq_true (show 0 ≤ dp by omega)]; omega))) ?_)
    | ((with_reducible show NeedK _ _ _ _); refine NeedK.mk (by (try simp only [castN]); omega) ?_)
    | ((with_reducible show DrawK _ _ _ _); refine DrawK.mk (by kernel_rfl) (by kernel_rfl) (by kernel_rfl) ?_)
    | ((with_reducible show IfK _ _ _ _); refine IfK.mk (fun _ => ?_) (fun _ => ?_))) <;> ((with_reducible conv => whnf); (with_reducible conv => congr <;> reduce); repeat ((first | (with_reducible refine HaltK.mk ?_) | (with_reducible refine StopK.mk ?_)); (with_reducible conv => whnf); (with_reducible conv => congr <;> reduce)))
    | ((with_reducible show (_ ∧ _) ∧ _ ∧ _); refine ⟨⟨rfl, rfl⟩, ?_, ?_⟩ <;> (with_reducible conv => whnf) <;> repeat' (first | (with_reducible exact trivial) | (with_reducible refine And.intro ?_ ?_ <;> with_reducible conv => whnf))))
              all_goals (rw [← hr]; clear hr hx ht hO; first | (simp_all; done) | (rw [Bool.eq_iff_iff]; simp [*]; done) | (rw [Bool.eq_iff_iff]; simp [*]; omega) | (simp_all; omega) | trace_state)
            · by_cases n2 : kd = 2
              · repeat' (first
    | (first
    | ((with_reducible show IfK _ _ _ _); first | refine IfK.ff ?_ | refine IfK.tt ?_ | refine IfK.no (by first | rfl | assumption | exact nf (by assumption) | exact nt (by assumption) | ((try simp only [castN]); first | (simp [n2, eq_true p1, eq_true (show 0 ≤ dp by omega)]; done) | (simp [n2, eq_true p1, eq_true (show 0 ≤ dp by omega)]; omega))) ?_ | refine IfK.yes (by first | rfl | assumption | exact nf (by assumption) | exact nt (by assumption) | ((try simp only [castN]); first | (simp [n2, eq_true p1, eq_true (show 0 ≤ dp by omega)]; done) | (simp [n2, eq_true p1, eq_true (show 0 ≤ dp by omega)]; omega))) ?_)
    | ((with_reducible show NeedK _ _ _ _); refine NeedK.mk (by (try simp only [castN]); omega) ?_)
    | ((with_reducible show DrawK _ _ _ _); refine DrawK.mk (by kernel_rfl) (by kernel_rfl) (by kernel_rfl) ?_)
    | ((with_reducible show IfK _ _ _ _); refine IfK.mk (fun _ => ?_) (fun _ => ?_))) <;> ((with_reducible conv => whnf); (with_reducible conv => congr <;> reduce); repeat ((first | (with_reducible refine HaltK.mk ?_) | (with_reducible refine StopK.mk ?_)); (with_reducible conv => whnf); (with_reducible conv => congr <;> reduce)))
    | ((with_reducible show (_ ∧ _) ∧ _ ∧ _); refine ⟨⟨rfl, rfl⟩, ?_, ?_⟩ <;> (with_reducible conv => whnf) <;> repeat' (first | (with_reducible exact trivial) | (with_reducible refine And.intro ?_ ?_ <;> with_reducible conv => whnf))))
                all_goals (rw [← hr]; clear hr hx ht hO; first | (simp_all; done) | (rw [Bool.eq_iff_iff]; simp [*]; done) | (rw [Bool.eq_iff_iff]; simp [*]; omega) | (simp_all; omega) | trace_state)
              · by_cases n7 : kd = 7
                · repeat' (first
    | (first
    | ((with_reducible show IfK _ _ _ _); first | refine IfK.ff ?_ | refine IfK.tt ?_ | refine IfK.no (by first | rfl | assumption | exact nf (by assumption) | exact nt (by assumption) | ((try simp only [castN]); first | (simp [n7, eq_true p1, eq_true (show 0 ≤ dp by omega)]; done) | (simp [n7, eq_true p1, eq_true (show 0 ≤ dp by omega)]; omega))) ?_ | refine IfK.yes (by first | rfl | assumption | exact nf (by assumption) | exact nt (by assumption) | ((try simp only [castN]); first | (simp [n7, eq_true p1, eq_true (show 0 ≤ dp by omega)]; done) | (simp [n7, eq_true p1, eq_true (show 0 ≤ dp by omega)]; omega))) ?_)
    | ((with_reducible show NeedK _ _ _ _); refine NeedK.mk (by (try simp only [castN]); omega) ?_)
    | ((with_reducible show DrawK _ _ _ _); refine DrawK.mk (by kernel_rfl) (by kernel_rfl) (by kernel_rfl) ?_)
    | ((with_reducible show IfK _ _ _ _); refine IfK.mk (fun _ => ?_) (fun _ => ?_))) <;> ((with_reducible conv => whnf); (with_reducible conv => congr <;> reduce); repeat ((first | (with_reducible refine HaltK.mk ?_) | (with_reducible refine StopK.mk ?_)); (with_reducible conv => whnf); (with_reducible conv => congr <;> reduce)))
    | ((with_reducible show (_ ∧ _) ∧ _ ∧ _); refine ⟨⟨rfl, rfl⟩, ?_, ?_⟩ <;> (with_reducible conv => whnf) <;> repeat' (first | (with_reducible exact trivial) | (with_reducible refine And.intro ?_ ?_ <;> with_reducible conv => whnf))))
                  all_goals (rw [← hr]; clear hr hx ht hO; first | (simp_all; done) | (rw [Bool.eq_iff_iff]; simp [*]; done) | (rw [Bool.eq_iff_iff]; simp [*]; omega) | (simp_all; omega) | trace_state)
                · by_cases n5 : kd = 5
                  · repeat' (first
    | (first
    | ((with_reducible show IfK _ _ _ _); first | refine IfK.ff ?_ | refine IfK.tt ?_ | refine IfK.no (by first | rfl | assumption | exact nf (by assumption) | exact nt (by assumption) | ((try simp only [castN]); first | (simp [n5, eq_true p1, eq_true (show 0 ≤ dp by omega)]; done) | (simp [n5, eq_true p1, eq_true (show 0 ≤ dp by omega)]; omega))) ?_ | refine IfK.yes (by first | rfl | assumption | exact nf (by assumption) | exact nt (by assumption) | ((try simp only [castN]); first | (simp [n5, eq_true p1, eq_true (show 0 ≤ dp by omega)]; done) | (simp [n5, eq_true p1, eq_true (show 0 ≤ dp by omega)]; omega))) ?_)
    | ((with_reducible show NeedK _ _ _ _); refine NeedK.mk (by (try simp only [castN]); omega) ?_)
    | ((with_reducible show DrawK _ _ _ _); refine DrawK.mk (by kernel_rfl) (by kernel_rfl) (by kernel_rfl) ?_)
    | ((with_reducible show IfK _ _ _ _); refine IfK.mk (fun _ => ?_) (fun _ => ?_))) <;> ((with_reducible conv => whnf); (with_reducible conv => congr <;> reduce); repeat ((first | (with_reducible refine HaltK.mk ?_) | (with_reducible refine StopK.mk ?_)); (with_reducible conv => whnf); (with_reducible conv => congr <;> reduce)))
    | ((with_reducible show (_ ∧ _) ∧ _ ∧ _); refine ⟨⟨rfl, rfl⟩, ?_, ?_⟩ <;> (with_reducible conv => whnf) <;> repeat' (first | (with_reducible exact trivial) | (with_reducible refine And.intro ?_ ?_ <;> with_reducible conv => whnf))))
                    all_goals (rw [← hr]; clear hr hx ht hO; first | (simp_all; done) | (rw [Bool.eq_iff_iff]; simp [*]; done) | (rw [Bool.eq_iff_iff]; simp [*]; omega) | (simp_all; omega) | trace_state)
                  · by_cases n8 : kd = 8
                    · repeat' (first
    | (first
    | ((with_reducible show IfK _ _ _ _); first | refine IfK.ff ?_ | refine IfK.tt ?_ | refine IfK.no (by first | rfl | assumption | exact nf (by assumption) | exact nt (by assumption) | ((try simp only [castN]); first | (simp [n8, eq_true p1, eq_true (show 0 ≤ dp by omega)]; done) | (simp [n8, eq_true p1, eq_true (show 0 ≤ dp by omega)]; omega))) ?_ | refine IfK.yes (by first | rfl | assumption | exact nf (by assumption) | exact nt (by assumption) | ((try simp only [castN]); first | (simp [n8, eq_true p1, eq_true (show 0 ≤ dp by omega)]; done) | (simp [n8, eq_true p1, eq_true (show 0 ≤ dp by omega)]; omega))) ?_)
    | ((with_reducible show NeedK _ _ _ _); refine NeedK.mk (by (try simp only [castN]); omega) ?_)
    | ((with_reducible show DrawK _ _ _ _); refine DrawK.mk (by kernel_rfl) (by kernel_rfl) (by kernel_rfl) ?_)
    | ((with_reducible show IfK _ _ _ _); refine IfK.mk (fun _ => ?_) (fun _ => ?_))) <;> ((with_reducible conv => whnf); (with_reducible conv => congr <;> reduce); repeat ((first | (with_reducible refine HaltK.mk ?_) | (with_reducible refine StopK.mk ?_)); (with_reducible conv => whnf); (with_reducible conv => congr <;> reduce)))
    | ((with_reducible show (_ ∧ _) ∧ _ ∧ _); refine ⟨⟨rfl, rfl⟩, ?_, ?_⟩ <;> (with_reducible conv => whnf) <;> repeat' (first | (with_reducible exact trivial) | (with_reducible refine And.intro ?_ ?_ <;> with_reducible conv => whnf))))
                      all_goals (rw [← hr]; clear hr hx ht hO; first | (simp_all; done) | (rw [Bool.eq_iff_iff]; simp [*]; done) | (rw [Bool.eq_iff_iff]; simp [*]; omega) | (simp_all; omega) | trace_state)
                    · by_cases n4 : kd = 4
                      · repeat' (first
    | (first
    | ((with_reducible show IfK _ _ _ _); first | refine IfK.ff ?_ | refine IfK.tt ?_ | refine IfK.no (by first | rfl | assumption | exact nf (by assumption) | exact nt (by assumption) | ((try simp only [castN]); first | (simp [n4, eq_true p1, eq_true (show 0 ≤ dp by omega)]; done) | (simp [n4, eq_true p1, eq_true (show 0 ≤ dp by omega)]; omega))) ?_ | refine IfK.yes (by first | rfl | assumption | exact nf (by assumption) | exact nt (by assumption) | ((try simp only [castN]); first | (simp [n4, eq_true p1, eq_true (show 0 ≤ dp by omega)]; done) | (simp [n4, eq_true p1, eq_true (show 0 ≤ dp by omega)]; omega))) ?_)
    | ((with_reducible show NeedK _ _ _ _); refine NeedK.mk (by (try simp only [castN]); omega) ?_)
    | ((with_reducible show DrawK _ _ _ _); refine DrawK.mk (by kernel_rfl) (by kernel_rfl) (by kernel_rfl) ?_)
    | ((with_reducible show IfK _ _ _ _); refine IfK.mk (fun _ => ?_) (fun _ => ?_))) <;> ((with_reducible conv => whnf); (with_reducible conv => congr <;> reduce); repeat ((first | (with_reducible refine HaltK.mk ?_) | (with_reducible refine StopK.mk ?_)); (with_reducible conv => whnf); (with_reducible conv => congr <;> reduce)))
    | ((with_reducible show (_ ∧ _) ∧ _ ∧ _); refine ⟨⟨rfl, rfl⟩, ?_, ?_⟩ <;> (with_reducible conv => whnf) <;> repeat' (first | (with_reducible exact trivial) | (with_reducible refine And.intro ?_ ?_ <;> with_reducible conv => whnf))))
                        all_goals (rw [← hr]; clear hr hx ht hO; first | (simp_all; done) | (rw [Bool.eq_iff_iff]; simp [*]; done) | (rw [Bool.eq_iff_iff]; simp [*]; omega) | (simp_all; omega) | trace_state)
                      · repeat' (first
    | (first
    | ((with_reducible show IfK _ _ _ _); first | refine IfK.ff ?_ | refine IfK.tt ?_ | refine IfK.no (by first | rfl | assumption | exact nf (by assumption) | exact nt (by assumption) | ((try simp only [castN]); first | (simp [eq_false n3, eq_false n6, eq_false n9, eq_false n1, eq_false n2, eq_false n7, eq_false n5, eq_false n8, eq_false n4, eq_true p1, eq_true (show 0 ≤ dp by omega)]; done) | (simp [eq_false n3, eq_false n6, eq_false n9, eq_false n1, eq_false n2, eq_false n7, eq_false n5, eq_false n8, eq_false n4, eq_true p1, eq_true (show 0 ≤ dp by omega)]; omega))) ?_ | refine IfK.yes (by first | rfl | assumption | exact nf (by assumption) | exact nt (by assumption) | ((try simp only [castN]); first | (simp [eq_false n3, eq_false n6, eq_false n9, eq_false n1, eq_false n2, eq_false n7, eq_false n5, eq_false n8, eq_false n4, eq_true p1, eq_true (show 0 ≤ dp by omega)]; done) | (simp [eq_false n3, eq_false n6, eq_false n9, eq_false n1, eq_false n2, eq_false n7, eq_false n5, eq_false n8, eq_false n4, eq_true p1, eq_true (show 0 ≤ dp by omega)]; omega))) ?_)
    | ((with_reducible show NeedK _ _ _ _); refine NeedK.mk (by (try simp only [castN]); omega) ?_)
    | ((with_reducible show DrawK _ _ _ _); refine DrawK.mk (by kernel_rfl) (by kernel_rfl) (by kernel_rfl) ?_)
    | ((with_reducible show IfK _ _ _ _); refine IfK.mk (fun _ => ?_) (fun _ => ?_))) <;> ((with_reducible conv => whnf); (with_reducible conv => congr <;> reduce); repeat ((first | (with_reducible refine HaltK.mk ?_) | (with_reducible refine StopK.mk ?_)); (with_reducible conv => whnf); (with_reducible conv => congr <;> reduce)))
    | ((with_reducible show (_ ∧ _) ∧ _ ∧ _); refine ⟨⟨rfl, rfl⟩, ?_, ?_⟩ <;> (with_reducible conv => whnf) <;> repeat' (first | (with_reducible exact trivial) | (with_reducible refine And.intro ?_ ?_ <;> with_reducible conv => whnf))))
                        all_goals (rw [← hr]; clear hr hx ht hO; first | (simp_all; done) | (rw [Bool.eq_iff_iff]; simp [*]; done) | (rw [Bool.eq_iff_iff]; simp [*]; omega) | (simp_all; omega) | trace_state)
    · by_cases p0 : 0 ≤ dp
      · by_cases n3 : kd = 3
        · repeat' (first
    | (first
    | ((with_reducible show IfK _ _ _ _); first | refine IfK.ff ?_ | refine IfK.tt ?_ | refine IfK.no (by first | rfl | assumption | exact nf (by assumption) | exact nt (by assumption) | ((try simp only [castN]); first | (simp [n3, eq_false p1, eq_true p0]; done) | (simp [n3, eq_false p1, eq_true p0]; omega))) ?_ | refine IfK.yes (by first | rfl | assumption | exact nf (by assumption) | exact nt (by assumption) | ((try simp only [castN]); first | (simp [n3, eq_false p1, eq_true p0]; done) | (simp [n3, eq_false p1, eq_true p0]; omega))) ?_)
    | ((with_reducible show NeedK _ _ _ _); refine NeedK.mk (by (try simp only [castN]); omega) ?_)
    | ((with_reducible show DrawK _ _ _ _); refine DrawK.mk (by kernel_rfl) (by kernel_rfl) (by kernel_rfl) ?_)
    | ((with_reducible show IfK _ _ _ _); refine IfK.mk (fun _ => ?_) (fun _ => ?_))) <;> ((with_reducible conv => whnf); (with_reducible conv => congr <;> reduce); repeat ((first | (with_reducible refine HaltK.mk ?_) | (with_reducible refine StopK.mk ?_)); (with_reducible conv => whnf); (with_reducible conv => congr <;> reduce)))
    | ((with_reducible show (_ ∧ _) ∧ _ ∧ _); refine ⟨⟨rfl, rfl⟩, ?_, ?_⟩ <;> (with_reducible conv => whnf) <;> repeat' (first | (with_reducible exact trivial) | (with_reducible refine And.intro ?_ ?_ <;> with_reducible conv => whnf))))
          all_goals (rw [← hr]; clear hr hx ht hO; first | (simp_all; done) | (rw [Bool.eq_iff_iff]; simp [*]; done) | (rw [Bool.eq_iff_iff]; simp [*]; omega) | (simp_all; omega) | trace_state)
        · by_cases n6 : kd = 6
          · repeat' (first
    | (first
    | ((with_reducible show IfK _ _ _ _); first | refine IfK.ff ?_ | refine IfK.tt ?_ | refine IfK.no (by first | rfl | assumption | exact nf (by assumption) | exact nt (by assumption) | ((try simp only [castN]); first | (simp [n6, eq_false p1, eq_true p0]; done) | (simp [n6, eq_false p1, eq_true p0]; omega))) ?_ | refine IfK.yes (by first | rfl | assumption | exact nf (by assumption) | exact nt (by assumption) | ((try simp only [castN]); first | (simp [n6, eq_false p1, eq_true p0]; done) | (simp [n6, eq_false p1, eq_true p0]; omega))) ?_)
    | ((with_reducible show NeedK _ _ _ _); refine NeedK.mk (by (try simp only [castN]); omega) ?_)
    | ((with_reducible show DrawK _ _ _ _); refine DrawK.mk (by kernel_rfl) (by kernel_rfl) (by kernel_rfl) ?_)
    | ((with_reducible show IfK _ _ _ _); refine IfK.mk (fun _ => ?_) (fun _ => ?_))) <;> ((with_reducible conv => whnf); (with_reducible conv => congr <;> reduce); repeat ((first | (with_reducible refine HaltK.mk ?_) | (with_reducible refine StopK.mk ?_)); (with_reducible conv => whnf); (with_reducible conv => congr <;> reduce)))
    | ((with_reducible show (_ ∧ _) ∧ _ ∧ _); refine ⟨⟨rfl, rfl⟩, ?_, ?_⟩ <;> (with_reducible conv => whnf) <;> repeat' (first | (with_reducible exact trivial) | (with_reducible refine And.intro ?_ ?_ <;> with_reducible conv => whnf))))
            all_goals (rw [← hr]; clear hr hx ht hO; first | (simp_all; done) | (rw [Bool.eq_iff_iff]; simp [*]; done) | (rw [Bool.eq_iff_iff]; simp [*]; omega) | (simp_all; omega) | trace_state)
          · by_cases n9 : kd = 9
            · repeat' (first
    | (first
    | ((with_reducible show IfK _ _ _ _); first | refine IfK.ff ?_ | refine IfK.tt ?_ | refine IfK.no (by first | rfl | assumption | exact nf (by assumption) | exact nt (by assumption) | ((try simp only [castN]); first | (simp [n9, eq_false p1, eq_true p0]; done) | (simp [n9, eq_false p1, eq_true p0]; omega))) ?_ | refine IfK.yes (by first | rfl | assumption | exact nf (by assumption) | exact nt (by assumption) | ((try simp only [castN]); first | (simp [n9, eq_false p1, eq_true p0]; done) | (simp [n9, eq_false p1, eq_true p0]; omega))) ?_)
    | ((with_reducible show NeedK _ _ _ _); refine NeedK.mk (by (try simp only [castN]); omega) ?_)
    | ((with_reducible show DrawK _ _ _ _); refine DrawK.mk (by kernel_rfl) (by kernel_rfl) (by kernel_rfl) ?_)
    | ((with_reducible show IfK _ _ _ _); refine IfK.mk (fun _ => ?_) (fun _ => ?_))) <;> ((with_reducible conv => whnf); (with_reducible conv => congr <;> reduce); repeat ((first | (with_reducible refine HaltK.mk ?_) | (with_reducible refine StopK.mk ?_)); (with_reducible conv => whnf); (with_reducible conv => congr <;> reduce)))
    | ((with_reducible show (_ ∧ _) ∧ _ ∧ _); refine ⟨⟨rfl, rfl⟩, ?_, ?_⟩ <;> (with_reducible conv => whnf) <;> repeat' (first | (with_reducible exact trivial) | (with_reducible refine And.intro ?_ ?_ <;> with_reducible conv => whnf))))
              all_goals (rw [← hr]; clear hr hx ht hO; first | (simp_all; done) | (rw [Bool.eq_iff_iff]; simp [*]; done) | (rw [Bool.eq_iff_iff]; simp [*]; omega) | (simp_all; omega) | trace_state)
            · by_cases n1 : kd = 1
              · repeat' (first
    | (first
    | ((with_reducible show IfK _ _ _ _); first | refine IfK.ff ?_ | refine IfK.tt ?_ | refine IfK.no (by first | rfl | assumption | exact nf (by assumption) | exact nt (by assumption) | ((try simp only [castN]); first | (simp [n1, eq_false p1, eq_true p0]; done) | (simp [n1, eq_false p1, eq_true p0]; omega))) ?_ | refine IfK.yes (by first | rfl | assumption | exact nf (by assumption) | exact nt (by assumption) | ((try simp only [castN]); first | (simp [n1, eq_false p1, eq_true p0]; done) | (simp [n1, eq_false p1, eq_true p0]; omega))) ?_)
    | ((with_reducible show NeedK _ _ _ _); refine NeedK.mk (by (try simp only [castN]); omega) ?_)
    | ((with_reducible show DrawK _ _ _ _); refine DrawK.mk (by kernel_rfl) (by kernel_rfl) (by kernel_rfl) ?_)
    | ((with_reducible show IfK _ _ _ _); refine IfK.mk (fun _ => ?_) (fun _ => ?_))) <;> ((with_reducible conv => whnf); (with_reducible conv => congr <;> reduce); repeat ((first | (with_reducible refine HaltK.mk ?_) | (with_reducible refine StopK.mk ?_)); (with_reducible conv => whnf); (with_reducible conv => congr <;> reduce)))
    | ((with_reducible show (_ ∧ _) ∧ _ ∧ _); refine ⟨⟨rfl, rfl⟩, ?_, ?_⟩ <;> (with_reducible conv => whnf) <;> repeat' (first | (with_reducible exact trivial) | (with_reducible refine And.intro ?_ ?_ <;> with_reducible conv => whnf))))
                all_goals (rw [← hr]; clear hr hx ht hO; first | (simp_all; done) | (rw [Bool.eq_iff_iff]; simp [*]; done) | (rw [Bool.eq_iff_iff]; simp [*]; omega) | (simp_all; omega) | trace_state)
              · by_cases n2 : kd = 2
                · repeat' (first
    | (first
    | ((with_reducible show IfK _ _ _ _); first | refine IfK.ff ?_ | refine IfK.tt ?_ | refine IfK.no (by first | rfl | assumption | exact nf (by assumption) | exact nt (by assumption) | ((try simp only [castN]); first | (simp [n2, eq_false p1, eq_true p0]; done) | (simp [n2, eq_false p1, eq_true p0]; omega))) ?_ | refine IfK.yes (by first | rfl | assumption | exact nf (by assumption) | exact nt (by assumption) | ((try simp only [castN]); first | (simp [n2, eq_false p1, eq_true p0]; done) | (simp [n2, eq_false p1, eq_true p0]; omega))) ?_)
    | ((with_reducible show NeedK _ _ _ _); refine NeedK.mk (by (try simp only [castN]); omega) ?_)
    | ((with_reducible show DrawK _ _ _ _); refine DrawK.mk (by kernel_rfl) (by kernel_rfl) (by kernel_rfl) ?_)
    | ((with_reducible show IfK _ _ _ _); refine IfK.mk (fun _ => ?_) (fun _ => ?_))) <;> ((with_reducible conv => whnf); (with_reducible conv => congr <;> reduce); repeat ((first | (with_reducible refine HaltK.mk ?_) | (with_reducible refine StopK.mk ?_)); (with_reducible conv => whnf); (with_reducible conv => congr <;> reduce)))
    | ((with_reducible show (_ ∧ _) ∧ _ ∧ _); refine ⟨⟨rfl, rfl⟩, ?_, ?_⟩ <;> (with_reducible conv => whnf) <;> repeat' (first | (with_reducible exact trivial) | (with_reducible refine And.intro ?_ ?_ <;> with_reducible conv => whnf))))
                  all_goals (rw [← hr]; clear hr hx ht hO; first | (simp_all; done) | (rw [Bool.eq_iff_iff]; simp [*]; done) | (rw [Bool.eq_iff_iff]; simp [*]; omega) | (simp_all; omega) | trace_state)
                · by_cases n7 : kd = 7
                  · repeat' (first
    | (first
    | ((with_reducible show IfK _ _ _ _); first | refine IfK.ff ?_ | refine IfK.tt ?_ | refine IfK.no (by first | rfl | assumption | exact nf (by assumption) | exact nt (by assumption) | ((try simp only [castN]); first | (simp [n7, eq_false p1, eq_true p0]; done) | (simp [n7, eq_false p1, eq_true p0]; omega))) ?_ | refine IfK.yes (by first | rfl | assumption | exact nf (by assumption) | exact nt (by assumption) | ((try simp only [castN]); first | (simp [n7, eq_false p1, eq_true p0]; done) | (simp [n7, eq_false p1, eq_true p0]; omega))) ?_)
    | ((with_reducible show NeedK _ _ _ _); refine NeedK.mk (by (try simp only [castN]); omega) ?_)
    | ((with_reducible show DrawK _ _ _ _); refine DrawK.mk (by kernel_rfl) (by kernel_rfl) (by kernel_rfl) ?_)
    | ((with_reducible show IfK _ _ _ _); refine IfK.mk (fun _ => ?_) (fun _ => ?_))) <;> ((with_reducible conv => whnf); (with_reducible conv => congr <;> reduce); repeat ((first | (with_reducible refine HaltK.mk ?_) | (with_reducible refine StopK.mk ?_)); (with_reducible conv => whnf); (with_reducible conv => congr <;> reduce)))
    | ((with_reducible show (_ ∧ _) ∧ _ ∧ _); refine ⟨⟨rfl, rfl⟩, ?_, ?_⟩ <;> (with_reducible conv => whnf) <;> repeat' (first | (with_reducible exact trivial) | (with_reducible refine And.intro ?_ ?_ <;> with_reducible conv => whnf))))
                    all_goals (rw [← hr]; clear hr hx ht hO; first | (simp_all; done) | (rw [Bool.eq_iff_iff]; simp [*]; done) | (rw [Bool.eq_iff_iff]; simp [*]; omega) | (simp_all; omega) | trace_state)
                  · by_cases n5 : kd = 5
                    · repeat' (first
    | (first
    | ((with_reducible show IfK _ _ _ _); first | refine IfK.ff ?_ | refine IfK.tt ?_ | refine IfK.no (by first | rfl | assumption | exact nf (by assumption) | exact nt (by assumption) | ((try simp only [castN]); first | (simp [n5, eq_false p1, eq_true p0]; done) | (simp [n5, eq_false p1, eq_true p0]; omega))) ?_ | refine IfK.yes (by first | rfl | assumption | exact nf (by assumption) | exact nt (by assumption) | ((try simp only [castN]); first | (simp [n5, eq_false p1, eq_true p0]; done) | (simp [n5, eq_false p1, eq_true p0]; omega))) ?_)
    | ((with_reducible show NeedK _ _ _ _); refine NeedK.mk (by (try simp only [castN]); omega) ?_)
    | ((with_reducible show DrawK _ _ _ _); refine DrawK.mk (by kernel_rfl) (by kernel_rfl) (by kernel_rfl) ?_)
    | ((with_reducible show IfK _ _ _ _); refine IfK.mk (fun _ => ?_) (fun _ => ?_))) <;> ((with_reducible conv => whnf); (with_reducible conv => congr <;> reduce); repeat ((first | (with_reducible refine HaltK.mk ?_) | (with_reducible refine StopK.mk ?_)); (with_reducible conv => whnf); (with_reducible conv => congr <;> reduce)))
    | ((with_reducible show (_ ∧ _) ∧ _ ∧ _); refine ⟨⟨rfl, rfl⟩, ?_, ?_⟩ <;> (with_reducible conv => whnf) <;> repeat' (first | (with_reducible exact trivial) | (with_reducible refine And.intro ?_ ?_ <;> with_reducible conv => whnf))))
                      all_goals (rw [← hr]; clear hr hx ht hO; first | (simp_all; done) | (rw [Bool.eq_iff_iff]; simp [*]; done) | (rw [Bool.eq_iff_iff]; simp [*]; omega) | (simp_all; omega) | trace_state)
                    · by_cases n8 : kd = 8
                      · repeat' (first
    | (first
    | ((with_reducible show IfK _ _ _ _); first | refine IfK.ff ?_ | refine IfK.tt ?_ | refine IfK.no (by first | rfl | assumption | exact nf (by assumption) | exact nt (by assumption) | ((try simp only [castN]); first | (simp [n8, eq_false p1, eq_true p0]; done) | (simp [n8, eq_false p1, eq_true p0]; omega))) ?_ | refine IfK.yes (by first | rfl | assumption | exact nf (by assumption) | exact nt (by assumption) | ((try simp only [castN]); first | (simp [n8, eq_false p1, eq_true p0]; done) | (simp [n8, eq_false p1, eq_true p0]; omega))) ?_)
    | ((with_reducible show NeedK _ _ _ _); refine NeedK.mk (by (try simp only [castN]); omega) ?_)
    | ((with_reducible show DrawK _ _ _ _); refine DrawK.mk (by kernel_rfl) (by kernel_rfl) (by kernel_rfl) ?_)
    | ((with_reducible show IfK _ _ _ _); refine IfK.mk (fun _ => ?_) (fun _ => ?_))) <;> ((with_reducible conv => whnf); (with_reducible conv => congr <;> reduce); repeat ((first | (with_reducible refine HaltK.mk ?_) | (with_reducible refine StopK.mk ?_)); (with_reducible conv => whnf); (with_reducible conv => congr <;> reduce)))
    | ((with_reducible show (_ ∧ _) ∧ _ ∧ _); refine ⟨⟨rfl, rfl⟩, ?_, ?_⟩ <;> (with_reducible conv => whnf) <;> repeat' (first | (with_reducible exact trivial) | (with_reducible refine And.intro ?_ ?_ <;> with_reducible conv => whnf))))
                        all_goals (rw [← hr]; clear hr hx ht hO; first | (simp_all; done) | (rw [Bool.eq_iff_iff]; simp [*]; done) | (rw [Bool.eq_iff_iff]; simp [*]; omega) | (simp_all; omega) | trace_state)
                      · by_cases n4 : kd = 4
                        · repeat' (first
    | (first
    | ((with_reducible show IfK _ _ _ _); first | refine IfK.ff ?_ | refine IfK.tt ?_ | refine IfK.no (by first | rfl | assumption | exact nf (by assumption) | exact nt (by assumption) | ((try simp only [castN]); first | (simp [n4, eq_false p1, eq_true p0]; done) | (simp [n4, eq_false p1, eq_true p0]; omega))) ?_ | refine IfK.yes (by first | rfl | assumption | exact nf (by assumption) | exact nt (by assumption) | ((try simp only [castN]); first | (simp [n4, eq_false p1, eq_true p0]; done) | (simp [n4, eq_false p1, eq_true p0]; omega))) ?_)
    | ((with_reducible show NeedK _ _ _ _); refine NeedK.mk (by (try simp only [castN]); omega) ?_)
    | ((with_reducible show DrawK _ _ _ _); refine DrawK.mk (by kernel_rfl) (by kernel_rfl) (by kernel_rfl) ?_)
    | ((with_reducible show IfK _ _ _ _); refine IfK.mk (fun _ => ?_) (fun _ => ?_))) <;> ((with_reducible conv => whnf); (with_reducible conv => congr <;> reduce); repeat ((first | (with_reducible refine HaltK.mk ?_) | (with_reducible refine StopK.mk ?_)); (with_reducible conv => whnf); (with_reducible conv => congr <;> reduce)))
    | ((with_reducible show (_ ∧ _) ∧ _ ∧ _); refine ⟨⟨rfl, rfl⟩, ?_, ?_⟩ <;> (with_reducible conv => whnf) <;> repeat' (first | (with_reducible exact trivial) | (with_reducible refine And.intro ?_ ?_ <;> with_reducible conv => whnf))))
                          all_goals (rw [← hr]; clear hr hx ht hO; first | (simp_all; done) | (rw [Bool.eq_iff_iff]; simp [*]; done) | (rw [Bool.eq_iff_iff]; simp [*]; omega) | (simp_all; omega) | trace_state)
                        · repeat' (first
    | (first
    | ((with_reducible show IfK _ _ _ _); first | refine IfK.ff ?_ | refine IfK.tt ?_ | refine IfK.no (by first | rfl | assumption | exact nf (by assumption) | exact nt (by assumption) | ((try simp only [castN]); first | (simp [eq_false n3, eq_false n6, eq_false n9, eq_false n1, eq_false n2, eq_false n7, eq_false n5, eq_false n8, eq_false n4, eq_false p1, eq_true p0]; done) | (simp [eq_false n3, eq_false n6, eq_false n9, eq_false n1, eq_false n2, eq_false n7, eq_false n5, eq_false n8, eq_false n4, eq_false p1, eq_true p0]; omega))) ?_ | refine IfK.yes (by first | rfl | assumption | exact nf (by assumption) | exact nt (by assumption) | ((try simp only [castN]); first | (simp [eq_false n3, eq_false n6, eq_false n9, eq_false n1, eq_false n2, eq_false n7, eq_false n5, eq_false n8, eq_false n4, eq_false p1, eq_true p0]; done) | (simp [eq_false n3, eq_false n6, eq_false n9, eq_false n1, eq_false n2, eq_false n7, eq_false n5, eq_false n8, eq_false n4, eq_false p1, eq_true p0]; omega))) ?_)
    | ((with_reducible show NeedK _ _ _ _); refine NeedK.mk (by (try simp only [castN]); omega) ?_)
    | ((with_reducible show DrawK _ _ _ _); refine DrawK.mk (by kernel_rfl) (by kernel_rfl) (by kernel_rfl) ?_)
    | ((with_reducible show IfK _ _ _ _); refine IfK.mk (fun _ => ?_) (fun _ => ?_))) <;> ((with_reducible conv => whnf); (with_reducible conv => congr <;> reduce); repeat ((first | (with_reducible refine HaltK.mk ?_) | (with_reducible refine StopK.mk ?_)); (with_reducible conv => whnf); (with_reducible conv => congr <;> reduce)))
    | ((with_reducible show (_ ∧ _) ∧ _ ∧ _); refine ⟨⟨rfl, rfl⟩, ?_, ?_⟩ <;> (with_reducible conv => whnf) <;> repeat' (first | (with_reducible exact trivial) | (with_reducible refine And.intro ?_ ?_ <;> with_reducible conv => whnf))))
                          all_goals (rw [← hr]; clear hr hx ht hO; first | (simp_all; done) | (rw [Bool.eq_iff_iff]; simp [*]; done) | (rw [Bool.eq_iff_iff]; simp [*]; omega) | (simp_all; omega) | trace_state)
      · by_cases n3 : kd = 3
        · repeat' (first
    | (first
    | ((with_reducible show IfK _ _ _ _); first | refine IfK.ff ?_ | refine IfK.tt ?_ | refine IfK.no (by first | rfl | assumption | exact nf (by assumption) | exact nt (by assumption) | ((try simp only [castN]); first | (simp [n3, eq_false p1, eq_false p0]; done) | (simp [n3, eq_false p1, eq_false p0]; omega))) ?_ | refine IfK.yes (by first | rfl | assumption | exact nf (by assumption) | exact nt (by assumption) | ((try simp only [castN]); first | (simp [n3, eq_false p1, eq_false p0]; done) | (simp [n3, eq_false p1, eq_false p0]; omega))) ?_)
    | ((with_reducible show NeedK _ _ _ _); refine NeedK.mk (by (try simp only [castN]); omega) ?_)
    | ((with_reducible show DrawK _ _ _ _); refine DrawK.mk (by kernel_rfl) (by kernel_rfl) (by kernel_rfl) ?_)
    | ((with_reducible show IfK _ _ _ _); refine IfK.mk (fun _ => ?_) (fun _ => ?_))) <;> ((with_reducible conv => whnf); (with_reducible conv => congr <;> reduce); repeat ((first | (with_reducible refine HaltK.mk ?_) | (with_reducible refine StopK.mk ?_)); (with_reducible conv => whnf); (with_reducible conv => congr <;> reduce)))
    | ((with_reducible show (_ ∧ _) ∧ _ ∧ _); refine ⟨⟨rfl, rfl⟩, ?_, ?_⟩ <;> (with_reducible conv => whnf) <;> repeat' (first | (with_reducible exact trivial) | (with_reducible refine And.intro ?_ ?_ <;> with_reducible conv => whnf))))
          all_goals (rw [← hr]; clear hr hx ht hO; first | (simp_all; done) | (rw [Bool.eq_iff_iff]; simp [*]; done) | (rw [Bool.eq_iff_iff]; simp [*]; omega) | (simp_all; omega) | trace_state)
        · by_cases n6 : kd = 6
          · repeat' (first
    | (first
    | ((with_reducible show IfK _ _ _ _); first | refine IfK.ff ?_ | refine IfK.tt ?_ | refine IfK.no (by first | rfl | assumption | exact nf (by assumption) | exact nt (by assumption) | ((try simp only [castN]); first | (simp [n6, eq_false p1, eq_false p0]; done) | (simp [n6, eq_false p1, eq_false p0]; omega))) ?_ | refine IfK.yes (by first | rfl | assumption | exact nf (by assumption) | exact nt (by assumption) | ((try simp only [castN]); first | (simp [n6, eq_false p1, eq_false p0]; done) | (simp [n6, eq_false p1, eq_false p0]; omega))) ?_)
    | ((with_reducible show NeedK _ _ _ _); refine NeedK.mk (by (try simp only [castN]); omega) ?_)
    | ((with_reducible show DrawK _ _ _ _); refine DrawK.mk (by kernel_rfl) (by kernel_rfl) (by kernel_rfl) ?_)
    | ((with_reducible show IfK _ _ _ _); refine IfK.mk (fun _ => ?_) (fun _ => ?_))) <;> ((with_reducible conv => whnf); (with_reducible conv => congr <;> reduce); repeat ((first | (with_reducible refine HaltK.mk ?_) | (with_reducible refine StopK.mk ?_)); (with_reducible conv => whnf); (with_reducible conv => congr <;> reduce)))
    | ((with_reducible show (_ ∧ _) ∧ _ ∧ _); refine ⟨⟨rfl, rfl⟩, ?_, ?_⟩ <;> (with_reducible conv => whnf) <;> repeat' (first | (with_reducible exact trivial) | (with_reducible refine And.intro ?_ ?_ <;> with_reducible conv => whnf))))
            all_goals (rw [← hr]; clear hr hx ht hO; first | (simp_all; done) | (rw [Bool.eq_iff_iff]; simp [*]; done) | (rw [Bool.eq_iff_iff]; simp [*]; omega) | (simp_all; omega) | trace_state)
          · by_cases n9 : kd = 9
            · repeat' (first
    | (first
    | ((with_reducible show IfK _ _ _ _); first | refine IfK.ff ?_ | refine IfK.tt ?_ | refine IfK.no (by first | rfl | assumption | exact nf (by assumption) | exact nt (by assumption) | ((try simp only [castN]); first | (simp [n9, eq_false p1, eq_false p0]; done) | (simp [n9, eq_false p1, eq_false p0]; omega))) ?_ | refine IfK.yes (by first | rfl | assumption | exact nf (by assumption) | exact nt (by assumption) | ((try simp only [castN]); first | (simp [n9, eq_false p1, eq_false p0]; done) | (simp [n9, eq_false p1, eq_false p0]; omega))) ?_)
    | ((with_reducible show NeedK _ _ _ _); refine NeedK.mk (by (try simp only [castN]); omega) ?_)
    | ((with_reducible show DrawK _ _ _ _); refine DrawK.mk (by kernel_rfl) (by kernel_rfl) (by kernel_rfl) ?_)
    | ((with_reducible show IfK _ _ _ _); refine IfK.mk (fun _ => ?_) (fun _ => ?_))) <;> ((with_reducible conv => whnf); (with_reducible conv => congr <;> reduce); repeat ((first | (with_reducible refine HaltK.mk ?_) | (with_reducible refine StopK.mk ?_)); (with_reducible conv => whnf); (with_reducible conv => congr <;> reduce)))
    | ((with_reducible show (_ ∧ _) ∧ _ ∧ _); refine ⟨⟨rfl, rfl⟩, ?_, ?_⟩ <;> (with_reducible conv => whnf) <;> repeat' (first | (with_reducible exact trivial) | (with_reducible refine And.intro ?_ ?_ <;> with_reducible conv => whnf))))
              all_goals (rw [← hr]; clear hr hx ht hO; first | (simp_all; done) | (rw [Bool.eq_iff_iff]; simp [*]; done) | (rw [Bool.eq_iff_iff]; simp [*]; omega) | (simp_all; omega) | trace_state)
            · by_cases n1 : kd = 1
              · repeat' (first
    | (first
    | ((with_reducible show IfK _ _ _ _); first | refine IfK.ff ?_ | refine IfK.tt ?_ | refine IfK.no (by first | rfl | assumption | exact nf (by assumption) | exact nt (by assumption) | ((try simp only [castN]); first | (simp [n1, eq_false p1, eq_false p0]; done) | (simp [n1, eq_false p1, eq_false p0]; omega))) ?_ | refine IfK.yes (by first | rfl | assumption | exact nf (by assumption) | exact nt (by assumption) | ((try simp only [castN]); first | (simp [n1, eq_false p1, eq_false p0]; done) | (simp [n1, eq_false p1, eq_false p0]; omega))) ?_)
    | ((with_reducible show NeedK _ _ _ _); refine NeedK.mk (by (try simp only [castN]); omega) ?_)
    | ((with_reducible show DrawK _ _ _ _); refine DrawK.mk (by kernel_rfl) (by kernel_rfl) (by kernel_rfl) ?_)
    | ((with_reducible show IfK _ _ _ _); refine IfK.mk (fun _ => ?_) (fun _ => ?_))) <;> ((with_reducible conv => whnf); (with_reducible conv => congr <;> reduce); repeat ((first | (with_reducible refine HaltK.mk ?_) | (with_reducible refine StopK.mk ?_)); (with_reducible conv => whnf); (with_reducible conv => congr <;> reduce)))
    | ((with_reducible show (_ ∧ _) ∧ _ ∧ _); refine ⟨⟨rfl, rfl⟩, ?_, ?_⟩ <;> (with_reducible conv => whnf) <;> repeat' (first | (with_reducible exact trivial) | (with_reducible refine And.intro ?_ ?_ <;> with_reducible conv => whnf))))
                all_goals (rw [← hr]; clear hr hx ht hO; first | (simp_all; done) | (rw [Bool.eq_iff_iff]; simp [*]; done) | (rw [Bool.eq_iff_iff]; simp [*]; omega) | (simp_all; omega) | trace_state)
              · by_cases n2 : kd = 2
                · repeat' (first
    | (first
    | ((with_reducible show IfK _ _ _ _); first | refine IfK.ff ?_ | refine IfK.tt ?_ | refine IfK.no (by first | rfl | assumption | exact nf (by assumption) | exact nt (by assumption) | ((try simp only [castN]); first | (simp [n2, eq_false p1, eq_false p0]; done) | (simp [n2, eq_false p1, eq_false p0]; omega))) ?_ | refine IfK.yes (by first | rfl | assumption | exact nf (by assumption) | exact nt (by assumption) | ((try simp only [castN]); first | (simp [n2, eq_false p1, eq_false p0]; done) | (simp [n2, eq_false p1, eq_false p0]; omega))) ?_)
    | ((with_reducible show NeedK _ _ _ _); refine NeedK.mk (by (try simp only [castN]); omega) ?_)
    | ((with_reducible show DrawK _ _ _ _); refine DrawK.mk (by kernel_rfl) (by kernel_rfl) (by kernel_rfl) ?_)
    | ((with_reducible show IfK _ _ _ _); refine IfK.mk (fun _ => ?_) (fun _ => ?_))) <;> ((with_reducible conv => whnf); (with_reducible conv => congr <;> reduce); repeat ((first | (with_reducible refine HaltK.mk ?_) | (with_reducible refine StopK.mk ?_)); (with_reducible conv => whnf); (with_reducible conv => congr <;> reduce)))
    | ((with_reducible show (_ ∧ _) ∧ _ ∧ _); refine ⟨⟨rfl, rfl⟩, ?_, ?_⟩ <;> (with_reducible conv => whnf) <;> repeat' (first | (with_reducible exact trivial) | (with_reducible refine And.intro ?_ ?_ <;> with_reducible conv => whnf))))
                  all_goals (rw [← hr]; clear hr hx ht hO; first | (simp_all; done) | (rw [Bool.eq_iff_iff]; simp [*]; done) | (rw [Bool.eq_iff_iff]; simp [*]; omega) | (simp_all; omega) | trace_state)
                · by_cases n7 : kd = 7
                  · repeat' (first
    | (first
    | ((with_reducible show IfK _ _ _ _); first | refine IfK.ff ?_ | refine IfK.tt ?_ | refine IfK.no (by first | rfl | assumption | exact nf (by assumption) | exact nt (by assumption) | ((try simp only [castN]); first | (simp [n7, eq_false p1, eq_false p0]; done) | (simp [n7, eq_false p1, eq_false p0]; omega))) ?_ | refine IfK.yes (by first | rfl | assumption | exact nf (by assumption) | exact nt (by assumption) | ((try simp only [castN]); first | (simp [n7, eq_false p1, eq_false p0]; done) | (simp [n7, eq_false p1, eq_false p0]; omega))) ?_)
    | ((with_reducible show NeedK _ _ _ _); refine NeedK.mk (by (try simp only [castN]); omega) ?_)
    | ((with_reducible show DrawK _ _ _ _); refine DrawK.mk (by kernel_rfl) (by kernel_rfl) (by kernel_rfl) ?_)
    | ((with_reducible show IfK _ _ _ _); refine IfK.mk (fun _ => ?_) (fun _ => ?_))) <;> ((with_reducible conv => whnf); (with_reducible conv => congr <;> reduce); repeat ((first | (with_reducible refine HaltK.mk ?_) | (with_reducible refine StopK.mk ?_)); (with_reducible conv => whnf); (with_reducible conv => congr <;> reduce)))
    | ((with_reducible show (_ ∧ _) ∧ _ ∧ _); refine ⟨⟨rfl, rfl⟩, ?_, ?_⟩ <;> (with_reducible conv => whnf) <;> repeat' (first | (with_reducible exact trivial) | (with_reducible refine And.intro ?_ ?_ <;> with_reducible conv => whnf))))
                    all_goals (rw [← hr]; clear hr hx ht hO; first | (simp_all; done) | (rw [Bool.eq_iff_iff]; simp [*]; done) | (rw [Bool.eq_iff_iff]; simp [*]; omega) | (simp_all; omega) | trace_state)
                  · by_cases n5 : kd = 5
                    · repeat' (first
    | (first
    | ((with_reducible show IfK _ _ _ _); first | refine IfK.ff ?_ | refine IfK.tt ?_ | refine IfK.no (by first | rfl | assumption | exact nf (by assumption) | exact nt (by assumption) | ((try simp only [castN]); first | (simp [n5, eq_false p1, eq_false p0]; done) | (simp [n5, eq_false p1, eq_false p0]; omega))) ?_ | refine IfK.yes (by first | rfl | assumption | exact nf (by assumption) | exact nt (by assumption) | ((try simp only [castN]); first | (simp [n5, eq_false p1, eq_false p0]; done) | (simp [n5, eq_false p1, eq_false p0]; omega))) ?_)
    | ((with_reducible show NeedK _ _ _ _); refine NeedK.mk (by (try simp only [castN]); omega) ?_)
    | ((with_reducible show DrawK _ _ _ _); refine DrawK.mk (by kernel_rfl) (by kernel_rfl) (by kernel_rfl) ?_)
    | ((with_reducible show IfK _ _ _ _); refine IfK.mk (fun _ => ?_) (fun _ => ?_))) <;> ((with_reducible conv => whnf); (with_reducible conv => congr <;> reduce); repeat ((first | (with_reducible refine HaltK.mk ?_) | (with_reducible refine StopK.mk ?_)); (with_reducible conv => whnf); (with_reducible conv => congr <;> reduce)))
    | ((with_reducible show (_ ∧ _) ∧ _ ∧ _); refine ⟨⟨rfl, rfl⟩, ?_, ?_⟩ <;> (with_reducible conv => whnf) <;> repeat' (first | (with_reducible exact trivial) | (with_reducible refine And.intro ?_ ?_ <;> with_reducible conv => whnf))))
                      all_goals (rw [← hr]; clear hr hx ht hO; first | (simp_all; done) | (rw [Bool.eq_iff_iff]; simp [*]; done) | (rw [Bool.eq_iff_iff]; simp [*]; omega) | (simp_all; omega) | trace_state)
                    · by_cases n8 : kd = 8
                      · repeat' (first
    | (first
    | ((with_reducible show IfK _ _ _ _); first | refine IfK.ff ?_ | refine IfK.tt ?_ | refine IfK.no (by first | rfl | assumption | exact nf (by assumption) | exact nt (by assumption) | ((try simp only [castN]); first | (simp [n8, eq_false p1, eq_false p0]; done) | (simp [n8, eq_false p1, eq_false p0]; omega))) ?_ | refine IfK.yes (by first | rfl | assumption | exact nf (by assumption) | exact nt (by assumption) | ((try simp only [castN]); first | (simp [n8, eq_false p1, eq_false p0]; done) | (simp [n8, eq_false p1, eq_false p0]; omega))) ?_)
    | ((with_reducible show NeedK _ _ _ _); refine NeedK.mk (by (try simp only [castN]); omega) ?_)
    | ((with_reducible show DrawK _ _ _ _); refine DrawK.mk (by kernel_rfl) (by kernel_rfl) (by kernel_rfl) ?_)
    | ((with_reducible show IfK _ _ _ _); refine IfK.mk (fun _ => ?_) (fun _ => ?_))) <;> ((with_reducible conv => whnf); (with_reducible conv => congr <;> reduce); repeat ((first | (with_reducible refine HaltK.mk ?_) | (with_reducible refine StopK.mk ?_)); (with_reducible conv => whnf); (with_reducible conv => congr <;> reduce)))
    | ((with_reducible show (_ ∧ _) ∧ _ ∧ _); refine ⟨⟨rfl, rfl⟩, ?_, ?_⟩ <;> (with_reducible conv => whnf) <;> repeat' (first | (with_reducible exact trivial) | (with_reducible refine And.intro ?_ ?_ <;> with_reducible conv => whnf))))
                        all_goals (rw [← hr]; clear hr hx ht hO; first | (simp_all; done) | (rw [Bool.eq_iff_iff]; simp [*]; done) | (rw [Bool.eq_iff_iff]; simp [*]; omega) | (simp_all; omega) | trace_state)
                      · by_cases n4 : kd = 4
                        · repeat' (first
    | (first
    | ((with_reducible show IfK _ _ _ _); first | refine IfK.ff ?_ | refine IfK.tt ?_ | refine IfK.no (by first | rfl | assumption | exact nf (by assumption) | exact nt (by assumption) | ((try simp only [castN]); first | (simp [n4, eq_false p1, eq_false p0]; done) | (simp [n4, eq_false p1, eq_false p0]; omega))) ?_ | refine IfK.yes (by first | rfl | assumption | exact nf (by assumption) | exact nt (by assumption) | ((try simp only [castN]); first | (simp [n4, eq_false p1, eq_false p0]; done) | (simp [n4, eq_false p1, eq_false p0]; omega))) ?_)
    | ((with_reducible show NeedK _ _ _ _); refine NeedK.mk (by (try simp only [castN]); omega) ?_)
    | ((with_reducible show DrawK _ _ _ _); refine DrawK.mk (by kernel_rfl) (by kernel_rfl) (by kernel_rfl) ?_)
    | ((with_reducible show IfK _ _ _ _); refine IfK.mk (fun _ => ?_) (fun _ => ?_))) <;> ((with_reducible conv => whnf); (with_reducible conv => congr <;> reduce); repeat ((first | (with_reducible refine HaltK.mk ?_) | (with_reducible refine StopK.mk ?_)); (with_reducible conv => whnf); (with_reducible conv => congr <;> reduce)))
    | ((with_reducible show (_ ∧ _) ∧ _ ∧ _); refine ⟨⟨rfl, rfl⟩, ?_, ?_⟩ <;> (with_reducible conv => whnf) <;> repeat' (first | (with_reducible exact trivial) | (with_reducible refine And.intro ?_ ?_ <;> with_reducible conv => whnf))))
                          all_goals (rw [← hr]; clear hr hx ht hO; first | (simp_all; done) | (rw [Bool.eq_iff_iff]; simp [*]; done) | (rw [Bool.eq_iff_iff]; simp [*]; omega) | (simp_all; omega) | trace_state)
                        · repeat' (first
    | (first
    | ((with_reducible show IfK _ _ _ _); first | refine IfK.ff ?_ | refine IfK.tt ?_ | refine IfK.no (by first | rfl | assumption | exact nf (by assumption) | exact nt (by assumption) | ((try simp only [castN]); first | (simp [eq_false n3, eq_false n6, eq_false n9, eq_false n1, eq_false n2, eq_false n7, eq_false n5, eq_false n8, eq_false n4, eq_false p1, eq_false p0]; done) | (simp [eq_false n3, eq_false n6, eq_false n9, eq_false n1, eq_false n2, eq_false n7, eq_false n5, eq_false n8, eq_false n4, eq_false p1, eq_false p0]; omega))) ?_ | refine IfK.yes (by first | rfl | assumption | exact nf (by assumption) | exact nt (by assumption) | ((try simp only [castN]); first | (simp [eq_false n3, eq_false n6, eq_false n9, eq_false n1, eq_false n2, eq_false n7, eq_false n5, eq_false n8, eq_false n4, eq_false p1, eq_false p0]; done) | (simp [eq_false n3, eq_false n6, eq_false n9, eq_false n1, eq_false n2, eq_false n7, eq_false n5, eq_false n8, eq_false n4, eq_false p1, eq_false p0]; omega))) ?_)
    | ((with_reducible show NeedK _ _ _ _); refine NeedK.mk (by (try simp only [castN]); omega) ?_)
    | ((with_reducible show DrawK _ _ _ _); refine DrawK.mk (by kernel_rfl) (by kernel_rfl) (by kernel_rfl) ?_)
    | ((with_reducible show IfK _ _ _ _); refine IfK.mk (fun _ => ?_) (fun _ => ?_))) <;> ((with_reducible conv => whnf); (with_reducible conv => congr <;> reduce); repeat ((first | (with_reducible refine HaltK.mk ?_) | (with_reducible refine StopK.mk ?_)); (with_reducible conv => whnf); (with_reducible conv => congr <;> reduce)))
    | ((with_reducible show (_ ∧ _) ∧ _ ∧ _); refine ⟨⟨rfl, rfl⟩, ?_, ?_⟩ <;> (with_reducible conv => whnf) <;> repeat' (first | (with_reducible exact trivial) | (with_reducible refine And.intro ?_ ?_ <;> with_reducible conv => whnf))))
                          all_goals (rw [← hr]; clear hr hx ht hO; first | (simp_all; done) | (rw [Bool.eq_iff_iff]; simp [*]; done) | (rw [Bool.eq_iff_iff]; simp [*]; omega) | (simp_all; omega) | trace_state)
end Go.Proofs.Audit
end
