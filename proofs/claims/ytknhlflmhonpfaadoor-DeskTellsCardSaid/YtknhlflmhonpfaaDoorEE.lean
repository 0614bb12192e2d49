/- Contracts of the functions of desks, part 3. By an AI agent. -/
import Derived.Test.YtknhlflmhonpfaaDoorED
import Derived.Test.YtknhlflmhonpfaaDoorEB
import Derived.Laws.StructEq
import Derived.Tactics
section
set_option linter.unusedSimpArgs false
set_option linter.unusedVariables false
namespace Go.Proofs.DeskD
open Go.Am Go.RowKit Go.Lib
set_option maxRecDepth 100000
theorem f31_at {d : DeskM} {k c e : Int} {s base : ByteArray} (h : ShortD d) (hs : s.size ≤ 100000) (he : mayD d k s base c = e) : FnOK Tryd.prog 31 [] [eDesk d, eInt k, eStr s, eStr base, eInt c] [] (eInt e) := by have := f31_ok d h k s base c hs; rwa [he] at this
set_option maxHeartbeats 16000000 in
/-- ref.Add -/
theorem f19_ok (d : DeskM) (h : ShortD d) (k : Int) (s base : ByteArray) (c : Int) (hs : s.size ≤ 100000) : FnOK Tryd.prog 19 [] [eDesk d, eInt k, eStr s, eStr base, eInt c] [] (.tup [eDesk (defineD d k s base c).1, eInt (defineD d k s base c).2.1, eInts (defineD d k s base c).2.2.1, eInt (defineD d k s base c).2.2.2]) := by
  obtain ⟨e, he⟩ : ∃ e, mayD d k s base c = e := ⟨_, rfl⟩
  have h31 := f31_at h hs he
  have hz := @mayD_zero d k c s base
  unfold defineD
  rw [he] at hz ⊢
  have hl := h.defs
  have hw := h.waits
  obtain ⟨l, ws, nx, bz⟩ := d
  simp only at hl hw
  have hlm : (l.map oDef).length = l.length := List.length_map ..
  have hwm : (ws.map oWait).length = ws.length := List.length_map ..
  refine FnOK.startC (rvs := [.cell 10 25, .tmp 11, .tmp 12, .tmp 13]) G G_good Tryd.func19 rfl Tryd.ntmps19 rfl rfl ?_; delta List.toArray; ((with_reducible conv => whnf); (with_reducible conv => congr <;> reduce); repeat ((first | (with_reducible refine HaltK.mk ?_) | (with_reducible refine StopK.mk ?_)); (with_reducible conv => whnf); (with_reducible conv => congr <;> reduce)))
  refine CallK.lit [] h31 c31 ⟨⟨rfl, rfl, rfl, rfl, trivial⟩, rfl, rfl, rfl, rfl, trivial⟩ rfl rfl ?_; ((with_reducible conv => whnf); (with_reducible conv => congr <;> reduce); repeat ((first | (with_reducible refine HaltK.mk ?_) | (with_reducible refine StopK.mk ?_)); (with_reducible conv => whnf); (with_reducible conv => congr <;> reduce)))
  by_cases e1 : e = 0
  · subst e1
    rw [if_pos rfl]
    obtain ⟨_, _, _, _, _, _, _, _, hbz⟩ := hz rfl
    have hbz : bz = false := hbz
    subst hbz
    by_cases hb : base = emptyS
    · have hn : newD s base c = ⟨s, s, c⟩ := by unfold newD; rw [if_pos hb]
      refine IfK.ff ?_; ((with_reducible conv => whnf); (with_reducible conv => congr <;> reduce); repeat ((first | (with_reducible refine HaltK.mk ?_) | (with_reducible refine StopK.mk ?_)); (with_reducible conv => whnf); (with_reducible conv => congr <;> reduce)))
      refine IfK.no (by show (!decide (base = emptyS)) = false; rw [decide_eq_true hb]; rfl) ?_; ((with_reducible conv => whnf); (with_reducible conv => congr <;> reduce); repeat ((first | (with_reducible refine HaltK.mk ?_) | (with_reducible refine StopK.mk ?_)); (with_reducible conv => whnf); (with_reducible conv => congr <;> reduce)))
      repeat' (first
    | (first
    | ((with_reducible show IfK _ _ _ _); first | refine IfK.ff ?_ | refine IfK.tt ?_ | refine IfK.no (by first | rfl | assumption | exact nf (by assumption) | exact nt (by assumption) | ((try simp only [castN]); first | (simp [hb]; done) | (simp [hb]; omega))) ?_ | refine IfK.yes (by first | rfl | assumption | exact nf (by assumption) | exact nt (by assumption) | ((try simp only [castN]); first | (simp [hb]; done) | (simp [hb]; omega))) ?_)
    | ((with_reducible show NeedK _ _ _ _); refine NeedK.mk (by (try simp only [castN]); omega) ?_)
    | ((with_reducible show DrawK _ _ _ _); refine DrawK.mk (by kernel_rfl) (by kernel_rfl) (by kernel_rfl) ?_)
    | ((with_reducible show AppK _ _ _ _ _ _ _ _ _ _); first | (refine AppK.mk [] (l.map oDef) ⟨rfl, rfl, rfl⟩ ⟨rfl, rfl, rfl⟩ (one_defs l) (by simp; omega) (by simp; omega) ?_) | (refine AppK.mk (l.map oDef) [eDef ⟨s, s, c⟩] ⟨rfl, rfl, rfl⟩ ⟨rfl, rfl, rfl⟩ rfl (by simp; omega) (by simp; omega) ?_))) <;> ((with_reducible conv => whnf); (with_reducible conv => congr <;> reduce); repeat ((first | (with_reducible refine HaltK.mk ?_) | (with_reducible refine StopK.mk ?_)); (with_reducible conv => whnf); (with_reducible conv => congr <;> reduce)))
    | ((with_reducible show (_ ∧ _) ∧ _ ∧ _); refine ⟨⟨rfl, rfl⟩, ?_, ?_⟩ <;> (with_reducible conv => whnf) <;> repeat' (first | (with_reducible exact trivial) | (with_reducible refine And.intro ?_ ?_ <;> with_reducible conv => whnf))))
      rw [snoc_defs]
      obtain ⟨L, hL⟩ : ∃ L, l ++ [(⟨s, s, c⟩ : DefM)] = L := ⟨_, rfl⟩
      rw [hL]
      rw [← hn] at hL
      have hLm : (L.map oDef).length = L.length := List.length_map ..
      refine LoopK.ghost 17 171 1 rfl rfl ?_
      refine LoopK.ghostRow 16 160 167 2 0 1 (.agg [.own 431 0 (L.map oDef).length, .lit (.slice none 0 0), eInt nx, eBool false]) (.agg [.own 431 0 (L.map oDef).length, .own 167 0 0, eInt nx, eBool false]) rfl rfl rfl rfl rfl rfl ?_
      refine LoopK.use G G_good (fun (j : Nat) => [(2, eStr s), (5, .ptr 50 0 0), (10, .ptr 100 0 0), (16, .ptr 160 0 0), (17, .own 171 0 (toldW (ws.take j) s).length), (18, eInt j)])
        (fun j => [(50, .live 4 [eDesk ⟨l, ws, nx, false⟩] false), (100, .live 4 [.agg [.lit (.slice none 0 0), .lit (.slice none 0 0), eInt 0, eBool false]] false), (160, .live 4 [.agg [.own 431 0 L.length, .own 167 0 (restW (ws.take j) s).length, eInt nx, eBool false]] false), (431, rDefs L), (167, rWaits (restW (ws.take j) s)), (171, .live 1 ((toldW (ws.take j) s).map oInt) false)])
        (fun j => j ≤ ws.length) (fun j => ws.length - j) 0 (Nat.zero_le _)
        ⟨⟨rfl, rfl⟩, ⟨rfl, ⟨rfl, rfl⟩, ⟨rfl, rfl⟩, ⟨rfl, rfl⟩, ⟨rfl, rfl⟩, rfl, trivial⟩, ⟨⟨rfl, rfl, rfl, rfl, trivial⟩, trivial⟩, ⟨⟨.inl rfl, .inl rfl, rfl, rfl, trivial⟩, trivial⟩, ⟨⟨⟨rfl, hLm.symm⟩, ⟨rfl, rfl⟩, rfl, rfl, trivial⟩, trivial⟩, ⟨.refl (noRef_defs _), noRef_defs _⟩, ⟨.refl rfl, rfl⟩, ⟨.refl rfl, rfl⟩, trivial⟩ ?_
      intro j hj
      ((with_reducible conv => whnf); (with_reducible conv => congr <;> reduce); repeat ((first | (with_reducible refine HaltK.mk ?_) | (with_reducible refine StopK.mk ?_)); (with_reducible conv => whnf); (with_reducible conv => congr <;> reduce)))
      refine IfK.mk (fun g1 => ?_) (fun g1 => ?_) <;> (try simp only [castN] at g1) <;> ((with_reducible conv => whnf); (with_reducible conv => congr <;> reduce); repeat ((first | (with_reducible refine HaltK.mk ?_) | (with_reducible refine StopK.mk ?_)); (with_reducible conv => whnf); (with_reducible conv => congr <;> reduce)))
      · simp only [hwm, decide_eq_true_eq] at g1
        have hj' : j < ws.length := by omega
        obtain ⟨⟨n, tk⟩, hx⟩ : ∃ a, ws[j]? = some a := ⟨_, List.getElem?_eq_getElem hj'⟩
        have hr1 := restW_len ws s j
        have ht1 := toldW_len ws s j
        have hr2 := restW_snoc (s := s) hx
        have ht2 := toldW_snoc (s := s) hx
        have hrm : ((restW (ws.take j) s).map oWait).length = (restW (ws.take j) s).length := List.length_map ..
        have htm : ((toldW (ws.take j) s).map oInt).length = (toldW (ws.take j) s).length := List.length_map ..
        refine IdxK.mk j (eWait ⟨n, tk⟩) rfl (wait_get hx) ?_; ((with_reducible conv => whnf); (with_reducible conv => congr <;> reduce); repeat ((first | (with_reducible refine HaltK.mk ?_) | (with_reducible refine StopK.mk ?_)); (with_reducible conv => whnf); (with_reducible conv => congr <;> reduce)))
        by_cases hns : n = s
        · rw [if_pos hns] at hr2 ht2
          repeat' (first
    | (first
    | ((with_reducible show IfK _ _ _ _); first | refine IfK.ff ?_ | refine IfK.tt ?_ | refine IfK.no (by first | rfl | assumption | exact nf (by assumption) | exact nt (by assumption) | ((try simp only [castN]); first | (simp [hns]; done) | (simp [hns]; omega))) ?_ | refine IfK.yes (by first | rfl | assumption | exact nf (by assumption) | exact nt (by assumption) | ((try simp only [castN]); first | (simp [hns]; done) | (simp [hns]; omega))) ?_)
    | ((with_reducible show NeedK _ _ _ _); refine NeedK.mk (by (try simp only [castN]); omega) ?_)
    | ((with_reducible show DrawK _ _ _ _); refine DrawK.mk (by kernel_rfl) (by kernel_rfl) (by kernel_rfl) ?_)
    | ((with_reducible show IdxK _ _ _ _ _); refine IdxK.mk j (eWait ⟨n, tk⟩) rfl (wait_get hx) ?_)
    | ((with_reducible show AppK _ _ _ _ _ _ _ _ _ _); refine AppK.mk ((toldW (ws.take j) s).map oInt) [eInt tk] ⟨rfl, htm.symm, rfl⟩ ⟨rfl, rfl, rfl⟩ rfl (by simp; omega) (by simp; omega) ?_)
    | ((with_reducible show NextK _ _); refine NextK.mk (j + 1) (by omega) (by omega) ⟨⟨rfl, rfl⟩, ⟨rfl, ⟨rfl, rfl⟩, ⟨rfl, rfl⟩, ⟨rfl, rfl⟩, ⟨rfl, by rw [ht2]; simp⟩, by show ((j + 1 : Nat) : Int) = (j : Int) + 1; omega, trivial⟩, ⟨⟨rfl, rfl, rfl, rfl, trivial⟩, trivial⟩, ⟨⟨.inl rfl, .inl rfl, rfl, rfl, trivial⟩, trivial⟩, ⟨⟨⟨rfl, rfl⟩, ⟨rfl, by rw [hr2]⟩, rfl, rfl, trivial⟩, trivial⟩, ⟨.refl (noRef_defs _), noRef_defs _⟩, ⟨by rw [hr2]; exact .refl (noRef_waits _), noRef_waits _⟩, ⟨by rw [ht2, ← snoc_ints]; exact .refl (by rw [snoc_ints]; exact noRef_ints _), noRef_ints _⟩, trivial⟩)) <;> ((with_reducible conv => whnf); (with_reducible conv => congr <;> reduce); repeat ((first | (with_reducible refine HaltK.mk ?_) | (with_reducible refine StopK.mk ?_)); (with_reducible conv => whnf); (with_reducible conv => congr <;> reduce)))
    | ((with_reducible show (_ ∧ _) ∧ _ ∧ _); refine ⟨⟨rfl, rfl⟩, ?_, ?_⟩ <;> (with_reducible conv => whnf) <;> repeat' (first | (with_reducible exact trivial) | (with_reducible refine And.intro ?_ ?_ <;> with_reducible conv => whnf))))
        · rw [if_neg hns] at hr2 ht2
          repeat' (first
    | (first
    | ((with_reducible show IfK _ _ _ _); first | refine IfK.ff ?_ | refine IfK.tt ?_ | refine IfK.no (by first | rfl | assumption | exact nf (by assumption) | exact nt (by assumption) | ((try simp only [castN]); first | (simp [hns]; done) | (simp [hns]; omega))) ?_ | refine IfK.yes (by first | rfl | assumption | exact nf (by assumption) | exact nt (by assumption) | ((try simp only [castN]); first | (simp [hns]; done) | (simp [hns]; omega))) ?_)
    | ((with_reducible show NeedK _ _ _ _); refine NeedK.mk (by (try simp only [castN]); omega) ?_)
    | ((with_reducible show DrawK _ _ _ _); refine DrawK.mk (by kernel_rfl) (by kernel_rfl) (by kernel_rfl) ?_)
    | ((with_reducible show IdxK _ _ _ _ _); refine IdxK.mk j (eWait ⟨n, tk⟩) rfl (wait_get hx) ?_)
    | ((with_reducible show AppK _ _ _ _ _ _ _ _ _ _); refine AppK.mk ((restW (ws.take j) s).map oWait) [eWait ⟨n, tk⟩] ⟨rfl, hrm.symm, rfl⟩ ⟨rfl, rfl, rfl⟩ rfl (by simp; omega) (by simp; omega) ?_)
    | ((with_reducible show NextK _ _); refine NextK.mk (j + 1) (by omega) (by omega) ⟨⟨rfl, rfl⟩, ⟨rfl, ⟨rfl, rfl⟩, ⟨rfl, rfl⟩, ⟨rfl, rfl⟩, ⟨rfl, by rw [ht2]⟩, by show ((j + 1 : Nat) : Int) = (j : Int) + 1; omega, trivial⟩, ⟨⟨rfl, rfl, rfl, rfl, trivial⟩, trivial⟩, ⟨⟨.inl rfl, .inl rfl, rfl, rfl, trivial⟩, trivial⟩, ⟨⟨⟨rfl, rfl⟩, ⟨rfl, by rw [hr2]; simp⟩, rfl, rfl, trivial⟩, trivial⟩, ⟨.refl (noRef_defs _), noRef_defs _⟩, ⟨by rw [hr2, ← snoc_waits]; exact .refl (by rw [snoc_waits]; exact noRef_waits _), noRef_waits _⟩, ⟨by rw [ht2]; exact .refl (noRef_ints _), noRef_ints _⟩, trivial⟩)) <;> ((with_reducible conv => whnf); (with_reducible conv => congr <;> reduce); repeat ((first | (with_reducible refine HaltK.mk ?_) | (with_reducible refine StopK.mk ?_)); (with_reducible conv => whnf); (with_reducible conv => congr <;> reduce)))
    | ((with_reducible show (_ ∧ _) ∧ _ ∧ _); refine ⟨⟨rfl, rfl⟩, ?_, ?_⟩ <;> (with_reducible conv => whnf) <;> repeat' (first | (with_reducible exact trivial) | (with_reducible refine And.intro ?_ ?_ <;> with_reducible conv => whnf))))
      · have hjl : j = ws.length := by simp only [hwm, decide_eq_false_iff_not] at g1; omega
        subst hjl
        rw [List.take_length]
        (repeat' (first
    | (first
    | ((with_reducible show IfK _ _ _ _); first | refine IfK.ff ?_ | refine IfK.tt ?_ | refine IfK.no (by first | rfl | assumption | exact nf (by assumption) | exact nt (by assumption) | ((try simp only [castN]); first | (simp [hL]; done) | (simp [hL]; omega))) ?_ | refine IfK.yes (by first | rfl | assumption | exact nf (by assumption) | exact nt (by assumption) | ((try simp only [castN]); first | (simp [hL]; done) | (simp [hL]; omega))) ?_)
    | ((with_reducible show NeedK _ _ _ _); refine NeedK.mk (by (try simp only [castN]); omega) ?_)
    | ((with_reducible show DrawK _ _ _ _); refine DrawK.mk (by kernel_rfl) (by kernel_rfl) (by kernel_rfl) ?_)) <;> ((with_reducible conv => whnf); (with_reducible conv => congr <;> reduce); repeat ((first | (with_reducible refine HaltK.mk ?_) | (with_reducible refine StopK.mk ?_)); (with_reducible conv => whnf); (with_reducible conv => congr <;> reduce)))
    | ((with_reducible show (_ ∧ _) ∧ _ ∧ _); refine ⟨⟨rfl, rfl⟩, ?_, ?_⟩ <;> (with_reducible conv => whnf) <;> repeat' (first | (with_reducible exact trivial) | (with_reducible refine And.intro ?_ ?_ <;> with_reducible conv => whnf))))) <;> first | exact frz_defs rfl rfl (by show L.map oDef = (l ++ [newD s base c]).map oDef; rw [hL]) (by show L.length = (l ++ [newD s base c]).length; rw [hL]) | exact frz_waits rfl rfl rfl rfl | exact frz_ints rfl rfl rfl rfl | rfl | (show (l.length : Int) = ((l.map oDef).length : Int); rw [hlm])
    · have hn : newD s base c = ⟨s, base, c⟩ := by unfold newD; rw [if_neg hb]
      refine IfK.ff ?_; ((with_reducible conv => whnf); (with_reducible conv => congr <;> reduce); repeat ((first | (with_reducible refine HaltK.mk ?_) | (with_reducible refine StopK.mk ?_)); (with_reducible conv => whnf); (with_reducible conv => congr <;> reduce)))
      refine IfK.yes (by show (!decide (base = emptyS)) = true; rw [decide_eq_false hb]; rfl) ?_; ((with_reducible conv => whnf); (with_reducible conv => congr <;> reduce); repeat ((first | (with_reducible refine HaltK.mk ?_) | (with_reducible refine StopK.mk ?_)); (with_reducible conv => whnf); (with_reducible conv => congr <;> reduce)))
      repeat' (first
    | (first
    | ((with_reducible show IfK _ _ _ _); first | refine IfK.ff ?_ | refine IfK.tt ?_ | refine IfK.no (by first | rfl | assumption | exact nf (by assumption) | exact nt (by assumption) | ((try simp only [castN]); first | (simp [hb]; done) | (simp [hb]; omega))) ?_ | refine IfK.yes (by first | rfl | assumption | exact nf (by assumption) | exact nt (by assumption) | ((try simp only [castN]); first | (simp [hb]; done) | (simp [hb]; omega))) ?_)
    | ((with_reducible show NeedK _ _ _ _); refine NeedK.mk (by (try simp only [castN]); omega) ?_)
    | ((with_reducible show DrawK _ _ _ _); refine DrawK.mk (by kernel_rfl) (by kernel_rfl) (by kernel_rfl) ?_)
    | ((with_reducible show AppK _ _ _ _ _ _ _ _ _ _); first | (refine AppK.mk [] (l.map oDef) ⟨rfl, rfl, rfl⟩ ⟨rfl, rfl, rfl⟩ (one_defs l) (by simp; omega) (by simp; omega) ?_) | (refine AppK.mk (l.map oDef) [eDef ⟨s, base, c⟩] ⟨rfl, rfl, rfl⟩ ⟨rfl, rfl, rfl⟩ rfl (by simp; omega) (by simp; omega) ?_))) <;> ((with_reducible conv => whnf); (with_reducible conv => congr <;> reduce); repeat ((first | (with_reducible refine HaltK.mk ?_) | (with_reducible refine StopK.mk ?_)); (with_reducible conv => whnf); (with_reducible conv => congr <;> reduce)))
    | ((with_reducible show (_ ∧ _) ∧ _ ∧ _); refine ⟨⟨rfl, rfl⟩, ?_, ?_⟩ <;> (with_reducible conv => whnf) <;> repeat' (first | (with_reducible exact trivial) | (with_reducible refine And.intro ?_ ?_ <;> with_reducible conv => whnf))))
      rw [snoc_defs]
      obtain ⟨L, hL⟩ : ∃ L, l ++ [(⟨s, base, c⟩ : DefM)] = L := ⟨_, rfl⟩
      rw [hL]
      rw [← hn] at hL
      have hLm : (L.map oDef).length = L.length := List.length_map ..
      refine LoopK.ghost 17 171 1 rfl rfl ?_
      refine LoopK.ghostRow 16 160 167 2 0 1 (.agg [.own 431 0 (L.map oDef).length, .lit (.slice none 0 0), eInt nx, eBool false]) (.agg [.own 431 0 (L.map oDef).length, .own 167 0 0, eInt nx, eBool false]) rfl rfl rfl rfl rfl rfl ?_
      refine LoopK.use G G_good (fun (j : Nat) => [(2, eStr s), (5, .ptr 50 0 0), (10, .ptr 100 0 0), (16, .ptr 160 0 0), (17, .own 171 0 (toldW (ws.take j) s).length), (18, eInt j)])
        (fun j => [(50, .live 4 [eDesk ⟨l, ws, nx, false⟩] false), (100, .live 4 [.agg [.lit (.slice none 0 0), .lit (.slice none 0 0), eInt 0, eBool false]] false), (160, .live 4 [.agg [.own 431 0 L.length, .own 167 0 (restW (ws.take j) s).length, eInt nx, eBool false]] false), (431, rDefs L), (167, rWaits (restW (ws.take j) s)), (171, .live 1 ((toldW (ws.take j) s).map oInt) false)])
        (fun j => j ≤ ws.length) (fun j => ws.length - j) 0 (Nat.zero_le _)
        ⟨⟨rfl, rfl⟩, ⟨rfl, ⟨rfl, rfl⟩, ⟨rfl, rfl⟩, ⟨rfl, rfl⟩, ⟨rfl, rfl⟩, rfl, trivial⟩, ⟨⟨rfl, rfl, rfl, rfl, trivial⟩, trivial⟩, ⟨⟨.inl rfl, .inl rfl, rfl, rfl, trivial⟩, trivial⟩, ⟨⟨⟨rfl, hLm.symm⟩, ⟨rfl, rfl⟩, rfl, rfl, trivial⟩, trivial⟩, ⟨.refl (noRef_defs _), noRef_defs _⟩, ⟨.refl rfl, rfl⟩, ⟨.refl rfl, rfl⟩, trivial⟩ ?_
      intro j hj
      ((with_reducible conv => whnf); (with_reducible conv => congr <;> reduce); repeat ((first | (with_reducible refine HaltK.mk ?_) | (with_reducible refine StopK.mk ?_)); (with_reducible conv => whnf); (with_reducible conv => congr <;> reduce)))
      refine IfK.mk (fun g1 => ?_) (fun g1 => ?_) <;> (try simp only [castN] at g1) <;> ((with_reducible conv => whnf); (with_reducible conv => congr <;> reduce); repeat ((first | (with_reducible refine HaltK.mk ?_) | (with_reducible refine StopK.mk ?_)); (with_reducible conv => whnf); (with_reducible conv => congr <;> reduce)))
      · simp only [hwm, decide_eq_true_eq] at g1
        have hj' : j < ws.length := by omega
        obtain ⟨⟨n, tk⟩, hx⟩ : ∃ a, ws[j]? = some a := ⟨_, List.getElem?_eq_getElem hj'⟩
        have hr1 := restW_len ws s j
        have ht1 := toldW_len ws s j
        have hr2 := restW_snoc (s := s) hx
        have ht2 := toldW_snoc (s := s) hx
        have hrm : ((restW (ws.take j) s).map oWait).length = (restW (ws.take j) s).length := List.length_map ..
        have htm : ((toldW (ws.take j) s).map oInt).length = (toldW (ws.take j) s).length := List.length_map ..
        refine IdxK.mk j (eWait ⟨n, tk⟩) rfl (wait_get hx) ?_; ((with_reducible conv => whnf); (with_reducible conv => congr <;> reduce); repeat ((first | (with_reducible refine HaltK.mk ?_) | (with_reducible refine StopK.mk ?_)); (with_reducible conv => whnf); (with_reducible conv => congr <;> reduce)))
        by_cases hns : n = s
        · rw [if_pos hns] at hr2 ht2
          repeat' (first
    | (first
    | ((with_reducible show IfK _ _ _ _); first | refine IfK.ff ?_ | refine IfK.tt ?_ | refine IfK.no (by first | rfl | assumption | exact nf (by assumption) | exact nt (by assumption) | ((try simp only [castN]); first | (simp [hns]; done) | (simp [hns]; omega))) ?_ | refine IfK.yes (by first | rfl | assumption | exact nf (by assumption) | exact nt (by assumption) | ((try simp only [castN]); first | (simp [hns]; done) | (simp [hns]; omega))) ?_)
    | ((with_reducible show NeedK _ _ _ _); refine NeedK.mk (by (try simp only [castN]); omega) ?_)
    | ((with_reducible show DrawK _ _ _ _); refine DrawK.mk (by kernel_rfl) (by kernel_rfl) (by kernel_rfl) ?_)
    | ((with_reducible show IdxK _ _ _ _ _); refine IdxK.mk j (eWait ⟨n, tk⟩) rfl (wait_get hx) ?_)
    | ((with_reducible show AppK _ _ _ _ _ _ _ _ _ _); refine AppK.mk ((toldW (ws.take j) s).map oInt) [eInt tk] ⟨rfl, htm.symm, rfl⟩ ⟨rfl, rfl, rfl⟩ rfl (by simp; omega) (by simp; omega) ?_)
    | ((with_reducible show NextK _ _); refine NextK.mk (j + 1) (by omega) (by omega) ⟨⟨rfl, rfl⟩, ⟨rfl, ⟨rfl, rfl⟩, ⟨rfl, rfl⟩, ⟨rfl, rfl⟩, ⟨rfl, by rw [ht2]; simp⟩, by show ((j + 1 : Nat) : Int) = (j : Int) + 1; omega, trivial⟩, ⟨⟨rfl, rfl, rfl, rfl, trivial⟩, trivial⟩, ⟨⟨.inl rfl, .inl rfl, rfl, rfl, trivial⟩, trivial⟩, ⟨⟨⟨rfl, rfl⟩, ⟨rfl, by rw [hr2]⟩, rfl, rfl, trivial⟩, trivial⟩, ⟨.refl (noRef_defs _), noRef_defs _⟩, ⟨by rw [hr2]; exact .refl (noRef_waits _), noRef_waits _⟩, ⟨by rw [ht2, ← snoc_ints]; exact .refl (by rw [snoc_ints]; exact noRef_ints _), noRef_ints _⟩, trivial⟩)) <;> ((with_reducible conv => whnf); (with_reducible conv => congr <;> reduce); repeat ((first | (with_reducible refine HaltK.mk ?_) | (with_reducible refine StopK.mk ?_)); (with_reducible conv => whnf); (with_reducible conv => congr <;> reduce)))
    | ((with_reducible show (_ ∧ _) ∧ _ ∧ _); refine ⟨⟨rfl, rfl⟩, ?_, ?_⟩ <;> (with_reducible conv => whnf) <;> repeat' (first | (with_reducible exact trivial) | (with_reducible refine And.intro ?_ ?_ <;> with_reducible conv => whnf))))
        · rw [if_neg hns] at hr2 ht2
          repeat' (first
    | (first
    | ((with_reducible show IfK _ _ _ _); first | refine IfK.ff ?_ | refine IfK.tt ?_ | refine IfK.no (by first | rfl | assumption | exact nf (by assumption) | exact nt (by assumption) | ((try simp only [castN]); first | (simp [hns]; done) | (simp [hns]; omega))) ?_ | refine IfK.yes (by first | rfl | assumption | exact nf (by assumption) | exact nt (by assumption) | ((try simp only [castN]); first | (simp [hns]; done) | (simp [hns]; omega))) ?_)
    | ((with_reducible show NeedK _ _ _ _); refine NeedK.mk (by (try simp only [castN]); omega) ?_)
    | ((with_reducible show DrawK _ _ _ _); refine DrawK.mk (by kernel_rfl) (by kernel_rfl) (by kernel_rfl) ?_)
    | ((with_reducible show IdxK _ _ _ _ _); refine IdxK.mk j (eWait ⟨n, tk⟩) rfl (wait_get hx) ?_)
    | ((with_reducible show AppK _ _ _ _ _ _ _ _ _ _); refine AppK.mk ((restW (ws.take j) s).map oWait) [eWait ⟨n, tk⟩] ⟨rfl, hrm.symm, rfl⟩ ⟨rfl, rfl, rfl⟩ rfl (by simp; omega) (by simp; omega) ?_)
    | ((with_reducible show NextK _ _); refine NextK.mk (j + 1) (by omega) (by omega) ⟨⟨rfl, rfl⟩, ⟨rfl, ⟨rfl, rfl⟩, ⟨rfl, rfl⟩, ⟨rfl, rfl⟩, ⟨rfl, by rw [ht2]⟩, by show ((j + 1 : Nat) : Int) = (j : Int) + 1; omega, trivial⟩, ⟨⟨rfl, rfl, rfl, rfl, trivial⟩, trivial⟩, ⟨⟨.inl rfl, .inl rfl, rfl, rfl, trivial⟩, trivial⟩, ⟨⟨⟨rfl, rfl⟩, ⟨rfl, by rw [hr2]; simp⟩, rfl, rfl, trivial⟩, trivial⟩, ⟨.refl (noRef_defs _), noRef_defs _⟩, ⟨by rw [hr2, ← snoc_waits]; exact .refl (by rw [snoc_waits]; exact noRef_waits _), noRef_waits _⟩, ⟨by rw [ht2]; exact .refl (noRef_ints _), noRef_ints _⟩, trivial⟩)) <;> ((with_reducible conv => whnf); (with_reducible conv => congr <;> reduce); repeat ((first | (with_reducible refine HaltK.mk ?_) | (with_reducible refine StopK.mk ?_)); (with_reducible conv => whnf); (with_reducible conv => congr <;> reduce)))
    | ((with_reducible show (_ ∧ _) ∧ _ ∧ _); refine ⟨⟨rfl, rfl⟩, ?_, ?_⟩ <;> (with_reducible conv => whnf) <;> repeat' (first | (with_reducible exact trivial) | (with_reducible refine And.intro ?_ ?_ <;> with_reducible conv => whnf))))
      · have hjl : j = ws.length := by simp only [hwm, decide_eq_false_iff_not] at g1; omega
        subst hjl
        rw [List.take_length]
        (repeat' (first
    | (first
    | ((with_reducible show IfK _ _ _ _); first | refine IfK.ff ?_ | refine IfK.tt ?_ | refine IfK.no (by first | rfl | assumption | exact nf (by assumption) | exact nt (by assumption) | ((try simp only [castN]); first | (simp [hL]; done) | (simp [hL]; omega))) ?_ | refine IfK.yes (by first | rfl | assumption | exact nf (by assumption) | exact nt (by assumption) | ((try simp only [castN]); first | (simp [hL]; done) | (simp [hL]; omega))) ?_)
    | ((with_reducible show NeedK _ _ _ _); refine NeedK.mk (by (try simp only [castN]); omega) ?_)
    | ((with_reducible show DrawK _ _ _ _); refine DrawK.mk (by kernel_rfl) (by kernel_rfl) (by kernel_rfl) ?_)) <;> ((with_reducible conv => whnf); (with_reducible conv => congr <;> reduce); repeat ((first | (with_reducible refine HaltK.mk ?_) | (with_reducible refine StopK.mk ?_)); (with_reducible conv => whnf); (with_reducible conv => congr <;> reduce)))
    | ((with_reducible show (_ ∧ _) ∧ _ ∧ _); refine ⟨⟨rfl, rfl⟩, ?_, ?_⟩ <;> (with_reducible conv => whnf) <;> repeat' (first | (with_reducible exact trivial) | (with_reducible refine And.intro ?_ ?_ <;> with_reducible conv => whnf))))) <;> first | exact frz_defs rfl rfl (by show L.map oDef = (l ++ [newD s base c]).map oDef; rw [hL]) (by show L.length = (l ++ [newD s base c]).length; rw [hL]) | exact frz_waits rfl rfl rfl rfl | exact frz_ints rfl rfl rfl rfl | rfl | (show (l.length : Int) = ((l.map oDef).length : Int); rw [hlm])
  · rw [if_neg e1]
    (repeat' (first
    | (first
    | ((with_reducible show IfK _ _ _ _); first | refine IfK.ff ?_ | refine IfK.tt ?_ | refine IfK.no (by first | rfl | assumption | exact nf (by assumption) | exact nt (by assumption) | ((try simp only [castN]); first | (simp [e1]; done) | (simp [e1]; omega))) ?_ | refine IfK.yes (by first | rfl | assumption | exact nf (by assumption) | exact nt (by assumption) | ((try simp only [castN]); first | (simp [e1]; done) | (simp [e1]; omega))) ?_)
    | ((with_reducible show NeedK _ _ _ _); refine NeedK.mk (by (try simp only [castN]); omega) ?_)
    | ((with_reducible show DrawK _ _ _ _); refine DrawK.mk (by kernel_rfl) (by kernel_rfl) (by kernel_rfl) ?_)) <;> ((with_reducible conv => whnf); (with_reducible conv => congr <;> reduce); repeat ((first | (with_reducible refine HaltK.mk ?_) | (with_reducible refine StopK.mk ?_)); (with_reducible conv => whnf); (with_reducible conv => congr <;> reduce)))
    | ((with_reducible show (_ ∧ _) ∧ _ ∧ _); refine ⟨⟨rfl, rfl⟩, ?_, ?_⟩ <;> (with_reducible conv => whnf) <;> repeat' (first | (with_reducible exact trivial) | (with_reducible refine And.intro ?_ ?_ <;> with_reducible conv => whnf))))) <;> exact .inr (.inr ⟨1, rfl⟩)
end Go.Proofs.DeskD
end
section
set_option linter.unusedSimpArgs false
set_option linter.unusedVariables false
namespace Go.Proofs.DeskD
open Go.Am Go.RowKit Go.Lib
set_option maxRecDepth 100000
theorem bytes_inj {a b : ByteArray} (h : a.toList = b.toList) : a = b := by
  rw [ByteArray.toList_eq, ByteArray.toList_eq] at h
  cases a; cases b
  simp only [ByteArray.mk.injEq]
  exact Array.toList_inj.1 h
def defEq (a b : DefM) : Bool := (a.name.toList == b.name.toList) && (a.locl.toList == b.locl.toList) && decide (a.cls = b.cls)
theorem def_eq (a b : DefM) (w : World) : (Op.equalIn 10000 46 (.agg #[.string a.name, .string a.locl, .int .i64 a.cls]) (.agg #[.string b.name, .string b.locl, .int .i64 b.cls])).run Tryd.prog w = .ok (defEq a b) w := by
  have hS : Tryd.prog.underlying 46 = some (.struct (Tryd.prog.fieldsOf 46)) := by kernel_rfl
  have hp : Tryd.prog.stoodInHeld 46 = false := by kernel_rfl
  have u9 := Tryd.underlying9
  have a9 := Tryd.isAgg9
  have z9 := Tryd.sizeOf9
  have u3 := Tryd.underlying3
  have a3 := Tryd.isAgg3
  have z3 := Tryd.sizeOf3
  rw [show (10000 : Nat) = 9999 + 1 from rfl, run_equalIn_agg w 9999 46 _ _ hS hp]
  simp only [Program.fieldsOf, Tryd.underlying46]
  go_simp
  clear hS hp u9 a9 z9 u3 a3 z3
  unfold defEq
  by_cases h1 : a.name.toList = b.name.toList <;> by_cases h2 : a.locl.toList = b.locl.toList <;> by_cases h3 : a.cls = b.cls <;> simp [h1, h2, h3]
theorem defEq_iff (a b : DefM) : defEq a b = decide (a = b) := by
  rw [Bool.eq_iff_iff, decide_eq_true_eq]
  unfold defEq
  simp only [Bool.and_eq_true, beq_iff_eq, decide_eq_true_eq]
  constructor
  · rintro ⟨⟨h1, h2⟩, h3⟩
    cases a; cases b
    simp only at *
    rw [bytes_inj h1, bytes_inj h2, h3]
  · rintro rfl; simp
theorem def_neq (a b : DefM) (y z : Operand) (w : World) : ((do eqGuard .neq 46 y z (.agg #[.string a.name, .string a.locl, .int .i64 a.cls]) (.agg #[.string b.name, .string b.locl, .int .i64 b.cls]); binOp .neq 46 (.agg #[.string a.name, .string a.locl, .int .i64 a.cls]) (.agg #[.string b.name, .string b.locl, .int .i64 b.cls]) : Sem Value)).run Tryd.prog w = .ok (.bool (!decide (a = b))) w := by
  rw [Sem.run_bind, run_eqGuard_agg w .neq 46 y z _ _ (by kernel_rfl), Result.andThen_ok, run_neq_struct, def_eq, defEq_iff]; rfl
def waitEq (a b : WaitM) : Bool := (a.name.toList == b.name.toList) && decide (a.ticket = b.ticket)
theorem wait_eq (a b : WaitM) (w : World) : (Op.equalIn 10000 51 (.agg #[.string a.name, .int .i64 a.ticket]) (.agg #[.string b.name, .int .i64 b.ticket])).run Tryd.prog w = .ok (waitEq a b) w := by
  have hS : Tryd.prog.underlying 51 = some (.struct (Tryd.prog.fieldsOf 51)) := by kernel_rfl
  have hp : Tryd.prog.stoodInHeld 51 = false := by kernel_rfl
  have u9 := Tryd.underlying9
  have a9 := Tryd.isAgg9
  have z9 := Tryd.sizeOf9
  have u3 := Tryd.underlying3
  have a3 := Tryd.isAgg3
  have z3 := Tryd.sizeOf3
  rw [show (10000 : Nat) = 9999 + 1 from rfl, run_equalIn_agg w 9999 51 _ _ hS hp]
  simp only [Program.fieldsOf, Tryd.underlying51]
  go_simp
  clear hS hp u9 a9 z9 u3 a3 z3
  unfold waitEq
  by_cases h1 : a.name.toList = b.name.toList <;> by_cases h3 : a.ticket = b.ticket <;> simp [h1, h3]
theorem waitEq_iff (a b : WaitM) : waitEq a b = decide (a = b) := by
  rw [Bool.eq_iff_iff, decide_eq_true_eq]
  unfold waitEq
  simp only [Bool.and_eq_true, beq_iff_eq, decide_eq_true_eq]
  constructor
  · rintro ⟨h1, h3⟩
    cases a; cases b
    simp only at *
    rw [bytes_inj h1, h3]
  · rintro rfl; simp
theorem wait_neq (a b : WaitM) (y z : Operand) (w : World) : ((do eqGuard .neq 51 y z (.agg #[.string a.name, .int .i64 a.ticket]) (.agg #[.string b.name, .int .i64 b.ticket]); binOp .neq 51 (.agg #[.string a.name, .int .i64 a.ticket]) (.agg #[.string b.name, .int .i64 b.ticket]) : Sem Value)).run Tryd.prog w = .ok (.bool (!decide (a = b))) w := by
  rw [Sem.run_bind, run_eqGuard_agg w .neq 51 y z _ _ (by kernel_rfl), Result.andThen_ok, run_neq_struct, wait_eq, waitEq_iff]; rfl
theorem list_same {α : Type} {x y : List α} (hl : x.length = y.length) (h : ∀ j, j < x.length → x[j]? = y[j]?) : x = y := by
  refine List.ext_getElem? fun j => ?_
  rcases Nat.lt_or_ge j x.length with h6 | h6
  · exact h j h6
  · rw [List.getElem?_eq_none h6, List.getElem?_eq_none (by omega)]
theorem same_succ {α : Type} {x y : List α} {k : Nat} (h : ∀ j, j < k → x[j]? = y[j]?) (hk : x[k]? = y[k]?) : ∀ j, j < k + 1 → x[j]? = y[j]? := fun j hj => by
  by_cases e : j = k
  · rw [e]; exact hk
  · exact h j (by omega)
set_option maxHeartbeats 8000000 in
/-- ref.Same -/
theorem f22_ok (a b : DeskM) (ha : SmallD a) : FnOK Tryd.prog 22 [] [eDesk a, eDesk b] [] (eBool (decide (a = b))) := by
  have hl1 := ha.defs
  have hw1 := ha.waits
  obtain ⟨l, ws, nx, bz⟩ := a
  obtain ⟨l', ws', nx', bz'⟩ := b
  simp only at hl1 hw1
  have hlm : (l.map oDef).length = l.length := List.length_map ..
  have hlm' : (l'.map oDef).length = l'.length := List.length_map ..
  have hwm : (ws.map oWait).length = ws.length := List.length_map ..
  have hwm' : (ws'.map oWait).length = ws'.length := List.length_map ..
  obtain ⟨r, hr⟩ : ∃ r, decide ((⟨l, ws, nx, bz⟩ : DeskM) = ⟨l', ws', nx', bz'⟩) = r := ⟨_, rfl⟩
  rw [hr]
  have hne : (l ≠ l' ∨ ws ≠ ws' ∨ nx ≠ nx' ∨ bz ≠ bz') → r = false := fun h => by
    rw [← hr]
    refine decide_eq_false fun e => ?_
    simp only [DeskM.mk.injEq] at e
    rcases h with h | h | h | h
    · exact h e.1
    · exact h e.2.1
    · exact h e.2.2.1
    · exact h e.2.2.2
  refine FnOK.startC (rvs := [.tmp 4]) G G_good Tryd.func22 rfl Tryd.ntmps22 rfl rfl ?_; delta List.toArray; ((with_reducible conv => whnf); (with_reducible conv => congr <;> reduce); repeat ((first | (with_reducible refine HaltK.mk ?_) | (with_reducible refine StopK.mk ?_)); (with_reducible conv => whnf); (with_reducible conv => congr <;> reduce)))
  by_cases g1 : l.length = l'.length
  · by_cases g2 : ws.length = ws'.length
    · by_cases g3 : nx = nx'
      · by_cases g4 : bz = bz'
        · repeat' (first
    | (first
    | ((with_reducible show IfK _ _ _ _); first | refine IfK.ff ?_ | refine IfK.tt ?_ | refine IfK.no (by first | rfl | assumption | exact nf (by assumption) | exact nt (by assumption) | ((try simp only [castN]); first | (simp [hlm, hlm', hwm, hwm', g1, g2, g3, g4]; done) | (simp [hlm, hlm', hwm, hwm', g1, g2, g3, g4]; omega))) ?_ | refine IfK.yes (by first | rfl | assumption | exact nf (by assumption) | exact nt (by assumption) | ((try simp only [castN]); first | (simp [hlm, hlm', hwm, hwm', g1, g2, g3, g4]; done) | (simp [hlm, hlm', hwm, hwm', g1, g2, g3, g4]; omega))) ?_)
    | ((with_reducible show NeedK _ _ _ _); refine NeedK.mk (by (try simp only [castN]); omega) ?_)
    | ((with_reducible show DrawK _ _ _ _); refine DrawK.mk (by kernel_rfl) (by kernel_rfl) (by kernel_rfl) ?_)) <;> ((with_reducible conv => whnf); (with_reducible conv => congr <;> reduce); repeat ((first | (with_reducible refine HaltK.mk ?_) | (with_reducible refine StopK.mk ?_)); (with_reducible conv => whnf); (with_reducible conv => congr <;> reduce)))
    | ((with_reducible show (_ ∧ _) ∧ _ ∧ _); refine ⟨⟨rfl, rfl⟩, ?_, ?_⟩ <;> (with_reducible conv => whnf) <;> repeat' (first | (with_reducible exact trivial) | (with_reducible refine And.intro ?_ ?_ <;> with_reducible conv => whnf))))
          refine LoopK.use G G_good (fun (k : Nat) => [(2, .ptr 20 0 0), (3, .ptr 30 0 0), (5, eInt k)]) (fun _ => [(20, .live 4 [eDesk ⟨l, ws, nx, bz⟩] false), (30, .live 4 [eDesk ⟨l', ws', nx', bz'⟩] false)]) (fun k => k ≤ l.length ∧ ∀ j, j < k → l[j]? = l'[j]?) (fun k => l.length - k) 0 ⟨Nat.zero_le _, fun j hj => by omega⟩
            ⟨⟨rfl, rfl⟩, ⟨⟨rfl, rfl⟩, ⟨rfl, rfl⟩, rfl, trivial⟩, ⟨⟨rfl, rfl, rfl, rfl, trivial⟩, trivial⟩, ⟨⟨rfl, rfl, rfl, rfl, trivial⟩, trivial⟩, trivial⟩ ?_
          intro k ⟨hk, hno⟩
          ((with_reducible conv => whnf); (with_reducible conv => congr <;> reduce); repeat ((first | (with_reducible refine HaltK.mk ?_) | (with_reducible refine StopK.mk ?_)); (with_reducible conv => whnf); (with_reducible conv => congr <;> reduce)))
          refine IfK.mk (fun h1 => ?_) (fun h1 => ?_) <;> (try simp only [castN] at h1) <;> ((with_reducible conv => whnf); (with_reducible conv => congr <;> reduce); repeat ((first | (with_reducible refine HaltK.mk ?_) | (with_reducible refine StopK.mk ?_)); (with_reducible conv => whnf); (with_reducible conv => congr <;> reduce)))
          · simp only [hlm, decide_eq_true_eq] at h1
            have hk' : k < l.length := by omega
            obtain ⟨⟨n, lo, c⟩, hx⟩ : ∃ a, l[k]? = some a := ⟨_, List.getElem?_eq_getElem hk'⟩
            obtain ⟨⟨n', lo', c'⟩, hy⟩ : ∃ a, l'[k]? = some a := ⟨_, List.getElem?_eq_getElem (by omega)⟩
            refine IdxK.mk k (eDef ⟨n, lo, c⟩) rfl (def_get hx) ?_; ((with_reducible conv => whnf); (with_reducible conv => congr <;> reduce); repeat ((first | (with_reducible refine HaltK.mk ?_) | (with_reducible refine StopK.mk ?_)); (with_reducible conv => whnf); (with_reducible conv => congr <;> reduce)))
            refine IdxK.mk k (eDef ⟨n', lo', c'⟩) rfl (def_get hy) ?_; ((with_reducible conv => whnf); (with_reducible conv => congr <;> reduce); repeat ((first | (with_reducible refine HaltK.mk ?_) | (with_reducible refine StopK.mk ?_)); (with_reducible conv => whnf); (with_reducible conv => congr <;> reduce)))
            refine EqK.mk _ (fun y z w => def_neq ⟨n, lo, c⟩ ⟨n', lo', c'⟩ y z w) ?_; ((with_reducible conv => whnf); (with_reducible conv => congr <;> reduce); repeat ((first | (with_reducible refine HaltK.mk ?_) | (with_reducible refine StopK.mk ?_)); (with_reducible conv => whnf); (with_reducible conv => congr <;> reduce)))
            by_cases e : (⟨n, lo, c⟩ : DefM) = ⟨n', lo', c'⟩
            · repeat' (first
    | (first
    | ((with_reducible show IfK _ _ _ _); first | refine IfK.ff ?_ | refine IfK.tt ?_ | refine IfK.no (by first | rfl | assumption | exact nf (by assumption) | exact nt (by assumption) | ((try simp only [castN]); first | (simp [e]; done) | (simp [e]; omega))) ?_ | refine IfK.yes (by first | rfl | assumption | exact nf (by assumption) | exact nt (by assumption) | ((try simp only [castN]); first | (simp [e]; done) | (simp [e]; omega))) ?_)
    | ((with_reducible show NeedK _ _ _ _); refine NeedK.mk (by (try simp only [castN]); omega) ?_)
    | ((with_reducible show DrawK _ _ _ _); refine DrawK.mk (by kernel_rfl) (by kernel_rfl) (by kernel_rfl) ?_)
    | ((with_reducible show NextK _ _); refine NextK.mk (k + 1) ⟨by omega, same_succ hno (by rw [hx, hy, e])⟩ (by omega) ⟨⟨rfl, rfl⟩, ⟨⟨rfl, rfl⟩, ⟨rfl, rfl⟩, by show ((k + 1 : Nat) : Int) = (k : Int) + 1; omega, trivial⟩, ⟨⟨rfl, rfl, rfl, rfl, trivial⟩, trivial⟩, ⟨⟨rfl, rfl, rfl, rfl, trivial⟩, trivial⟩, trivial⟩)) <;> ((with_reducible conv => whnf); (with_reducible conv => congr <;> reduce); repeat ((first | (with_reducible refine HaltK.mk ?_) | (with_reducible refine StopK.mk ?_)); (with_reducible conv => whnf); (with_reducible conv => congr <;> reduce)))
    | ((with_reducible show (_ ∧ _) ∧ _ ∧ _); refine ⟨⟨rfl, rfl⟩, ?_, ?_⟩ <;> (with_reducible conv => whnf) <;> repeat' (first | (with_reducible exact trivial) | (with_reducible refine And.intro ?_ ?_ <;> with_reducible conv => whnf))))
            · rw [hne (.inl fun h => e (by rw [h] at hx; rw [hx] at hy; exact Option.some.inj hy))]
              repeat' (first
    | (first
    | ((with_reducible show IfK _ _ _ _); first | refine IfK.ff ?_ | refine IfK.tt ?_ | refine IfK.no (by first | rfl | assumption | exact nf (by assumption) | exact nt (by assumption) | ((try simp only [castN]); first | (simp [e]; done) | (simp [e]; omega))) ?_ | refine IfK.yes (by first | rfl | assumption | exact nf (by assumption) | exact nt (by assumption) | ((try simp only [castN]); first | (simp [e]; done) | (simp [e]; omega))) ?_)
    | ((with_reducible show NeedK _ _ _ _); refine NeedK.mk (by (try simp only [castN]); omega) ?_)
    | ((with_reducible show DrawK _ _ _ _); refine DrawK.mk (by kernel_rfl) (by kernel_rfl) (by kernel_rfl) ?_)) <;> ((with_reducible conv => whnf); (with_reducible conv => congr <;> reduce); repeat ((first | (with_reducible refine HaltK.mk ?_) | (with_reducible refine StopK.mk ?_)); (with_reducible conv => whnf); (with_reducible conv => congr <;> reduce)))
    | ((with_reducible show (_ ∧ _) ∧ _ ∧ _); refine ⟨⟨rfl, rfl⟩, ?_, ?_⟩ <;> (with_reducible conv => whnf) <;> repeat' (first | (with_reducible exact trivial) | (with_reducible refine And.intro ?_ ?_ <;> with_reducible conv => whnf))))
          · have hkl : k = l.length := by simp only [hlm, decide_eq_false_iff_not] at h1; omega
            subst hkl
            have hdl : l = l' := list_same g1 hno
            repeat' (first
    | (first
    | ((with_reducible show IfK _ _ _ _); first | refine IfK.ff ?_ | refine IfK.tt ?_ | refine IfK.no (by first | rfl | assumption | exact nf (by assumption) | exact nt (by assumption) | ((try simp only [castN]); first | (simp [hlm]; done) | (simp [hlm]; omega))) ?_ | refine IfK.yes (by first | rfl | assumption | exact nf (by assumption) | exact nt (by assumption) | ((try simp only [castN]); first | (simp [hlm]; done) | (simp [hlm]; omega))) ?_)
    | ((with_reducible show NeedK _ _ _ _); refine NeedK.mk (by (try simp only [castN]); omega) ?_)
    | ((with_reducible show DrawK _ _ _ _); refine DrawK.mk (by kernel_rfl) (by kernel_rfl) (by kernel_rfl) ?_)) <;> ((with_reducible conv => whnf); (with_reducible conv => congr <;> reduce); repeat ((first | (with_reducible refine HaltK.mk ?_) | (with_reducible refine StopK.mk ?_)); (with_reducible conv => whnf); (with_reducible conv => congr <;> reduce)))
    | ((with_reducible show (_ ∧ _) ∧ _ ∧ _); refine ⟨⟨rfl, rfl⟩, ?_, ?_⟩ <;> (with_reducible conv => whnf) <;> repeat' (first | (with_reducible exact trivial) | (with_reducible refine And.intro ?_ ?_ <;> with_reducible conv => whnf))))
            refine LoopK.use G G_good (fun (k : Nat) => [(2, .ptr 20 0 0), (3, .ptr 30 0 0), (6, eInt k)]) (fun _ => [(20, .live 4 [eDesk ⟨l, ws, nx, bz⟩] false), (30, .live 4 [eDesk ⟨l', ws', nx', bz'⟩] false)]) (fun k => k ≤ ws.length ∧ ∀ j, j < k → ws[j]? = ws'[j]?) (fun k => ws.length - k) 0 ⟨Nat.zero_le _, fun j hj => by omega⟩
              ⟨⟨rfl, rfl⟩, ⟨⟨rfl, rfl⟩, ⟨rfl, rfl⟩, rfl, trivial⟩, ⟨⟨rfl, rfl, rfl, rfl, trivial⟩, trivial⟩, ⟨⟨rfl, rfl, rfl, rfl, trivial⟩, trivial⟩, trivial⟩ ?_
            intro k ⟨hk, hno⟩
            ((with_reducible conv => whnf); (with_reducible conv => congr <;> reduce); repeat ((first | (with_reducible refine HaltK.mk ?_) | (with_reducible refine StopK.mk ?_)); (with_reducible conv => whnf); (with_reducible conv => congr <;> reduce)))
            refine IfK.mk (fun h2 => ?_) (fun h2 => ?_) <;> (try simp only [castN] at h2) <;> ((with_reducible conv => whnf); (with_reducible conv => congr <;> reduce); repeat ((first | (with_reducible refine HaltK.mk ?_) | (with_reducible refine StopK.mk ?_)); (with_reducible conv => whnf); (with_reducible conv => congr <;> reduce)))
            · simp only [hwm, decide_eq_true_eq] at h2
              have hk' : k < ws.length := by omega
              obtain ⟨⟨n, t⟩, hx⟩ : ∃ a, ws[k]? = some a := ⟨_, List.getElem?_eq_getElem hk'⟩
              obtain ⟨⟨n', t'⟩, hy⟩ : ∃ a, ws'[k]? = some a := ⟨_, List.getElem?_eq_getElem (by omega)⟩
              refine IdxK.mk k (eWait ⟨n, t⟩) rfl (wait_get hx) ?_; ((with_reducible conv => whnf); (with_reducible conv => congr <;> reduce); repeat ((first | (with_reducible refine HaltK.mk ?_) | (with_reducible refine StopK.mk ?_)); (with_reducible conv => whnf); (with_reducible conv => congr <;> reduce)))
              refine IdxK.mk k (eWait ⟨n', t'⟩) rfl (wait_get hy) ?_; ((with_reducible conv => whnf); (with_reducible conv => congr <;> reduce); repeat ((first | (with_reducible refine HaltK.mk ?_) | (with_reducible refine StopK.mk ?_)); (with_reducible conv => whnf); (with_reducible conv => congr <;> reduce)))
              refine EqK.mk _ (fun y z w => wait_neq ⟨n, t⟩ ⟨n', t'⟩ y z w) ?_; ((with_reducible conv => whnf); (with_reducible conv => congr <;> reduce); repeat ((first | (with_reducible refine HaltK.mk ?_) | (with_reducible refine StopK.mk ?_)); (with_reducible conv => whnf); (with_reducible conv => congr <;> reduce)))
              by_cases e : (⟨n, t⟩ : WaitM) = ⟨n', t'⟩
              · repeat' (first
    | (first
    | ((with_reducible show IfK _ _ _ _); first | refine IfK.ff ?_ | refine IfK.tt ?_ | refine IfK.no (by first | rfl | assumption | exact nf (by assumption) | exact nt (by assumption) | ((try simp only [castN]); first | (simp [e]; done) | (simp [e]; omega))) ?_ | refine IfK.yes (by first | rfl | assumption | exact nf (by assumption) | exact nt (by assumption) | ((try simp only [castN]); first | (simp [e]; done) | (simp [e]; omega))) ?_)
    | ((with_reducible show NeedK _ _ _ _); refine NeedK.mk (by (try simp only [castN]); omega) ?_)
    | ((with_reducible show DrawK _ _ _ _); refine DrawK.mk (by kernel_rfl) (by kernel_rfl) (by kernel_rfl) ?_)
    | ((with_reducible show NextK _ _); refine NextK.mk (k + 1) ⟨by omega, same_succ hno (by rw [hx, hy, e])⟩ (by omega) ⟨⟨rfl, rfl⟩, ⟨⟨rfl, rfl⟩, ⟨rfl, rfl⟩, by show ((k + 1 : Nat) : Int) = (k : Int) + 1; omega, trivial⟩, ⟨⟨rfl, rfl, rfl, rfl, trivial⟩, trivial⟩, ⟨⟨rfl, rfl, rfl, rfl, trivial⟩, trivial⟩, trivial⟩)) <;> ((with_reducible conv => whnf); (with_reducible conv => congr <;> reduce); repeat ((first | (with_reducible refine HaltK.mk ?_) | (with_reducible refine StopK.mk ?_)); (with_reducible conv => whnf); (with_reducible conv => congr <;> reduce)))
    | ((with_reducible show (_ ∧ _) ∧ _ ∧ _); refine ⟨⟨rfl, rfl⟩, ?_, ?_⟩ <;> (with_reducible conv => whnf) <;> repeat' (first | (with_reducible exact trivial) | (with_reducible refine And.intro ?_ ?_ <;> with_reducible conv => whnf))))
              · rw [hne (.inr (.inl fun h => e (by rw [h] at hx; rw [hx] at hy; exact Option.some.inj hy)))]
                repeat' (first
    | (first
    | ((with_reducible show IfK _ _ _ _); first | refine IfK.ff ?_ | refine IfK.tt ?_ | refine IfK.no (by first | rfl | assumption | exact nf (by assumption) | exact nt (by assumption) | ((try simp only [castN]); first | (simp [e]; done) | (simp [e]; omega))) ?_ | refine IfK.yes (by first | rfl | assumption | exact nf (by assumption) | exact nt (by assumption) | ((try simp only [castN]); first | (simp [e]; done) | (simp [e]; omega))) ?_)
    | ((with_reducible show NeedK _ _ _ _); refine NeedK.mk (by (try simp only [castN]); omega) ?_)
    | ((with_reducible show DrawK _ _ _ _); refine DrawK.mk (by kernel_rfl) (by kernel_rfl) (by kernel_rfl) ?_)) <;> ((with_reducible conv => whnf); (with_reducible conv => congr <;> reduce); repeat ((first | (with_reducible refine HaltK.mk ?_) | (with_reducible refine StopK.mk ?_)); (with_reducible conv => whnf); (with_reducible conv => congr <;> reduce)))
    | ((with_reducible show (_ ∧ _) ∧ _ ∧ _); refine ⟨⟨rfl, rfl⟩, ?_, ?_⟩ <;> (with_reducible conv => whnf) <;> repeat' (first | (with_reducible exact trivial) | (with_reducible refine And.intro ?_ ?_ <;> with_reducible conv => whnf))))
            · have hkl : k = ws.length := by simp only [hwm, decide_eq_false_iff_not] at h2; omega
              subst hkl
              have hdw : ws = ws' := list_same g2 hno
              have hrt : r = true := by rw [← hr, hdl, hdw, g3, g4]; exact decide_eq_true rfl
              rw [hrt]
              repeat' (first
    | (first
    | ((with_reducible show IfK _ _ _ _); first | refine IfK.ff ?_ | refine IfK.tt ?_ | refine IfK.no (by first | rfl | assumption | exact nf (by assumption) | exact nt (by assumption) | ((try simp only [castN]); first | (simp [hwm]; done) | (simp [hwm]; omega))) ?_ | refine IfK.yes (by first | rfl | assumption | exact nf (by assumption) | exact nt (by assumption) | ((try simp only [castN]); first | (simp [hwm]; done) | (simp [hwm]; omega))) ?_)
    | ((with_reducible show NeedK _ _ _ _); refine NeedK.mk (by (try simp only [castN]); omega) ?_)
    | ((with_reducible show DrawK _ _ _ _); refine DrawK.mk (by kernel_rfl) (by kernel_rfl) (by kernel_rfl) ?_)) <;> ((with_reducible conv => whnf); (with_reducible conv => congr <;> reduce); repeat ((first | (with_reducible refine HaltK.mk ?_) | (with_reducible refine StopK.mk ?_)); (with_reducible conv => whnf); (with_reducible conv => congr <;> reduce)))
    | ((with_reducible show (_ ∧ _) ∧ _ ∧ _); refine ⟨⟨rfl, rfl⟩, ?_, ?_⟩ <;> (with_reducible conv => whnf) <;> repeat' (first | (with_reducible exact trivial) | (with_reducible refine And.intro ?_ ?_ <;> with_reducible conv => whnf))))
        · rw [hne (.inr (.inr (.inr g4)))]
          repeat' (first
    | (first
    | ((with_reducible show IfK _ _ _ _); first | refine IfK.ff ?_ | refine IfK.tt ?_ | refine IfK.no (by first | rfl | assumption | exact nf (by assumption) | exact nt (by assumption) | ((try simp only [castN]); first | (simp [hlm, hlm', hwm, hwm', g1, g2, g3, g4]; done) | (simp [hlm, hlm', hwm, hwm', g1, g2, g3, g4]; omega))) ?_ | refine IfK.yes (by first | rfl | assumption | exact nf (by assumption) | exact nt (by assumption) | ((try simp only [castN]); first | (simp [hlm, hlm', hwm, hwm', g1, g2, g3, g4]; done) | (simp [hlm, hlm', hwm, hwm', g1, g2, g3, g4]; omega))) ?_)
    | ((with_reducible show NeedK _ _ _ _); refine NeedK.mk (by (try simp only [castN]); omega) ?_)
    | ((with_reducible show DrawK _ _ _ _); refine DrawK.mk (by kernel_rfl) (by kernel_rfl) (by kernel_rfl) ?_)) <;> ((with_reducible conv => whnf); (with_reducible conv => congr <;> reduce); repeat ((first | (with_reducible refine HaltK.mk ?_) | (with_reducible refine StopK.mk ?_)); (with_reducible conv => whnf); (with_reducible conv => congr <;> reduce)))
    | ((with_reducible show (_ ∧ _) ∧ _ ∧ _); refine ⟨⟨rfl, rfl⟩, ?_, ?_⟩ <;> (with_reducible conv => whnf) <;> repeat' (first | (with_reducible exact trivial) | (with_reducible refine And.intro ?_ ?_ <;> with_reducible conv => whnf))))
      · rw [hne (.inr (.inr (.inl g3)))]
        repeat' (first
    | (first
    | ((with_reducible show IfK _ _ _ _); first | refine IfK.ff ?_ | refine IfK.tt ?_ | refine IfK.no (by first | rfl | assumption | exact nf (by assumption) | exact nt (by assumption) | ((try simp only [castN]); first | (simp [hlm, hlm', hwm, hwm', g1, g2, g3]; done) | (simp [hlm, hlm', hwm, hwm', g1, g2, g3]; omega))) ?_ | refine IfK.yes (by first | rfl | assumption | exact nf (by assumption) | exact nt (by assumption) | ((try simp only [castN]); first | (simp [hlm, hlm', hwm, hwm', g1, g2, g3]; done) | (simp [hlm, hlm', hwm, hwm', g1, g2, g3]; omega))) ?_)
    | ((with_reducible show NeedK _ _ _ _); refine NeedK.mk (by (try simp only [castN]); omega) ?_)
    | ((with_reducible show DrawK _ _ _ _); refine DrawK.mk (by kernel_rfl) (by kernel_rfl) (by kernel_rfl) ?_)) <;> ((with_reducible conv => whnf); (with_reducible conv => congr <;> reduce); repeat ((first | (with_reducible refine HaltK.mk ?_) | (with_reducible refine StopK.mk ?_)); (with_reducible conv => whnf); (with_reducible conv => congr <;> reduce)))
    | ((with_reducible show (_ ∧ _) ∧ _ ∧ _); refine ⟨⟨rfl, rfl⟩, ?_, ?_⟩ <;> (with_reducible conv => whnf) <;> repeat' (first | (with_reducible exact trivial) | (with_reducible refine And.intro ?_ ?_ <;> with_reducible conv => whnf))))
    · rw [hne (.inr (.inl fun h => g2 (by rw [h])))]
      repeat' (first
    | (first
    | ((with_reducible show IfK _ _ _ _); first | refine IfK.ff ?_ | refine IfK.tt ?_ | refine IfK.no (by first | rfl | assumption | exact nf (by assumption) | exact nt (by assumption) | ((try simp only [castN]); first | (simp [hlm, hlm', hwm, hwm', g1, g2]; done) | (simp [hlm, hlm', hwm, hwm', g1, g2]; omega))) ?_ | refine IfK.yes (by first | rfl | assumption | exact nf (by assumption) | exact nt (by assumption) | ((try simp only [castN]); first | (simp [hlm, hlm', hwm, hwm', g1, g2]; done) | (simp [hlm, hlm', hwm, hwm', g1, g2]; omega))) ?_)
    | ((with_reducible show NeedK _ _ _ _); refine NeedK.mk (by (try simp only [castN]); omega) ?_)
    | ((with_reducible show DrawK _ _ _ _); refine DrawK.mk (by kernel_rfl) (by kernel_rfl) (by kernel_rfl) ?_)) <;> ((with_reducible conv => whnf); (with_reducible conv => congr <;> reduce); repeat ((first | (with_reducible refine HaltK.mk ?_) | (with_reducible refine StopK.mk ?_)); (with_reducible conv => whnf); (with_reducible conv => congr <;> reduce)))
    | ((with_reducible show (_ ∧ _) ∧ _ ∧ _); refine ⟨⟨rfl, rfl⟩, ?_, ?_⟩ <;> (with_reducible conv => whnf) <;> repeat' (first | (with_reducible exact trivial) | (with_reducible refine And.intro ?_ ?_ <;> with_reducible conv => whnf))))
  · rw [hne (.inl fun h => g1 (by rw [h]))]
    repeat' (first
    | (first
    | ((with_reducible show IfK _ _ _ _); first | refine IfK.ff ?_ | refine IfK.tt ?_ | refine IfK.no (by first | rfl | assumption | exact nf (by assumption) | exact nt (by assumption) | ((try simp only [castN]); first | (simp [hlm, hlm', g1]; done) | (simp [hlm, hlm', g1]; omega))) ?_ | refine IfK.yes (by first | rfl | assumption | exact nf (by assumption) | exact nt (by assumption) | ((try simp only [castN]); first | (simp [hlm, hlm', g1]; done) | (simp [hlm, hlm', g1]; omega))) ?_)
    | ((with_reducible show NeedK _ _ _ _); refine NeedK.mk (by (try simp only [castN]); omega) ?_)
    | ((with_reducible show DrawK _ _ _ _); refine DrawK.mk (by kernel_rfl) (by kernel_rfl) (by kernel_rfl) ?_)) <;> ((with_reducible conv => whnf); (with_reducible conv => congr <;> reduce); repeat ((first | (with_reducible refine HaltK.mk ?_) | (with_reducible refine StopK.mk ?_)); (with_reducible conv => whnf); (with_reducible conv => congr <;> reduce)))
    | ((with_reducible show (_ ∧ _) ∧ _ ∧ _); refine ⟨⟨rfl, rfl⟩, ?_, ?_⟩ <;> (with_reducible conv => whnf) <;> repeat' (first | (with_reducible exact trivial) | (with_reducible refine And.intro ?_ ?_ <;> with_reducible conv => whnf))))
end Go.Proofs.DeskD
end
section
set_option linter.unusedSimpArgs false
set_option linter.unusedVariables false
namespace Go.Proofs.DeskD
open Go.Am Go.RowKit Go.Lib
set_option maxRecDepth 100000
set_option maxHeartbeats 8000000 in
/-- ref.Await -/
theorem f24_ok (d : DeskM) (h : ShortD d) (s : ByteArray) (hs : s.size ≤ 100000) : FnOK Tryd.prog 24 [] [eDesk d, eStr s] [] (.tup [eDesk (awaitD d s).1, eInt (awaitD d s).2.1, eInt (awaitD d s).2.2.1, eInt (awaitD d s).2.2.2]) := by
  obtain ⟨r, hr⟩ : ∃ r, rightD d = r := ⟨_, rfl⟩
  have h10 := f10_at h hr
  have hsm := h.small
  have hl := h.defs
  have hw := h.waits
  obtain ⟨l, ws, nx, bz⟩ := d
  simp only at hl hw
  have hwm : (ws.map oWait).length = ws.length := List.length_map ..
  refine FnOK.startC (rvs := [.cell 4 25, .tmp 5, .tmp 6, .tmp 7]) G G_good Tryd.func24 rfl Tryd.ntmps24 rfl rfl ?_; delta List.toArray; ((with_reducible conv => whnf); (with_reducible conv => congr <;> reduce); repeat ((first | (with_reducible refine HaltK.mk ?_) | (with_reducible refine StopK.mk ?_)); (with_reducible conv => whnf); (with_reducible conv => congr <;> reduce)))
  refine CallK.lit [] h10 c10 ⟨⟨rfl, rfl, rfl, rfl, trivial⟩, trivial⟩ rfl rfl ?_; ((with_reducible conv => whnf); (with_reducible conv => congr <;> reduce); repeat ((first | (with_reducible refine HaltK.mk ?_) | (with_reducible refine StopK.mk ?_)); (with_reducible conv => whnf); (with_reducible conv => congr <;> reduce)))
  cases r with
  | false =>
    rw [aw1 hr]
    repeat' (first
    | (first
    | ((with_reducible show IfK _ _ _ _); first | refine IfK.ff ?_ | refine IfK.tt ?_ | refine IfK.no (by first | rfl | assumption | exact nf (by assumption) | exact nt (by assumption) | ((try simp only [castN]); first | (simp [hr]; done) | (simp [hr]; omega))) ?_ | refine IfK.yes (by first | rfl | assumption | exact nf (by assumption) | exact nt (by assumption) | ((try simp only [castN]); first | (simp [hr]; done) | (simp [hr]; omega))) ?_)
    | ((with_reducible show NeedK _ _ _ _); refine NeedK.mk (by (try simp only [castN]); omega) ?_)
    | ((with_reducible show DrawK _ _ _ _); refine DrawK.mk (by kernel_rfl) (by kernel_rfl) (by kernel_rfl) ?_)) <;> ((with_reducible conv => whnf); (with_reducible conv => congr <;> reduce); repeat ((first | (with_reducible refine HaltK.mk ?_) | (with_reducible refine StopK.mk ?_)); (with_reducible conv => whnf); (with_reducible conv => congr <;> reduce)))
    | ((with_reducible show (_ ∧ _) ∧ _ ∧ _); refine ⟨⟨rfl, rfl⟩, ?_, ?_⟩ <;> (with_reducible conv => whnf) <;> repeat' (first | (with_reducible exact trivial) | (with_reducible refine And.intro ?_ ?_ <;> with_reducible conv => whnf))))
  | true =>
    have hnx : 0 ≤ nx ∧ nx ≤ 100000 := (rightD_iff.1 hr).2.2
    cases hc : customS s with
    | false =>
      rw [aw4 hr hc]
      repeat' (first
    | (first
    | ((with_reducible show IfK _ _ _ _); first | refine IfK.ff ?_ | refine IfK.tt ?_ | refine IfK.no (by first | rfl | assumption | exact nf (by assumption) | exact nt (by assumption) | ((try simp only [castN]); first | (simp [hr]; done) | (simp [hr]; omega))) ?_ | refine IfK.yes (by first | rfl | assumption | exact nf (by assumption) | exact nt (by assumption) | ((try simp only [castN]); first | (simp [hr]; done) | (simp [hr]; omega))) ?_)
    | ((with_reducible show NeedK _ _ _ _); refine NeedK.mk (by (try simp only [castN]); omega) ?_)
    | ((with_reducible show DrawK _ _ _ _); refine DrawK.mk (by kernel_rfl) (by kernel_rfl) (by kernel_rfl) ?_)
    | ((with_reducible show CallK _ _ 27 _ _ _ _); refine CallK.lit [] (f27_at hs hc) c27 ⟨rfl, trivial⟩ rfl rfl ?_)) <;> ((with_reducible conv => whnf); (with_reducible conv => congr <;> reduce); repeat ((first | (with_reducible refine HaltK.mk ?_) | (with_reducible refine StopK.mk ?_)); (with_reducible conv => whnf); (with_reducible conv => congr <;> reduce)))
    | ((with_reducible show (_ ∧ _) ∧ _ ∧ _); refine ⟨⟨rfl, rfl⟩, ?_, ?_⟩ <;> (with_reducible conv => whnf) <;> repeat' (first | (with_reducible exact trivial) | (with_reducible refine And.intro ?_ ?_ <;> with_reducible conv => whnf))))
    | true =>
      by_cases g1 : nx = 100000
      · rw [aw3 hr hc g1]
        have g1' : 100000 ≤ nx := by omega
        repeat' (first
    | (first
    | ((with_reducible show IfK _ _ _ _); first | refine IfK.ff ?_ | refine IfK.tt ?_ | refine IfK.no (by first | rfl | assumption | exact nf (by assumption) | exact nt (by assumption) | ((try simp only [castN]); first | (simp [g1']; done) | (simp [g1']; omega))) ?_ | refine IfK.yes (by first | rfl | assumption | exact nf (by assumption) | exact nt (by assumption) | ((try simp only [castN]); first | (simp [g1']; done) | (simp [g1']; omega))) ?_)
    | ((with_reducible show NeedK _ _ _ _); refine NeedK.mk (by (try simp only [castN]); omega) ?_)
    | ((with_reducible show DrawK _ _ _ _); refine DrawK.mk (by kernel_rfl) (by kernel_rfl) (by kernel_rfl) ?_)
    | ((with_reducible show CallK _ _ 27 _ _ _ _); refine CallK.lit [] (f27_at hs hc) c27 ⟨rfl, trivial⟩ rfl rfl ?_)) <;> ((with_reducible conv => whnf); (with_reducible conv => congr <;> reduce); repeat ((first | (with_reducible refine HaltK.mk ?_) | (with_reducible refine StopK.mk ?_)); (with_reducible conv => whnf); (with_reducible conv => congr <;> reduce)))
    | ((with_reducible show (_ ∧ _) ∧ _ ∧ _); refine ⟨⟨rfl, rfl⟩, ?_, ?_⟩ <;> (with_reducible conv => whnf) <;> repeat' (first | (with_reducible exact trivial) | (with_reducible refine And.intro ?_ ?_ <;> with_reducible conv => whnf))))
      · have g1' : ¬ 100000 ≤ nx := by omega
        obtain ⟨p, hp⟩ : ∃ p, posN l s = p := ⟨_, rfl⟩
        have hpc : p = -1 ∨ 0 ≤ p := by
          rcases ixI_cases (hasN s) l with ⟨a, _⟩ | ⟨n, _, a, _⟩
          · exact .inl (by rw [← hp]; exact a)
          · exact .inr (by rw [← hp]; unfold posN; omega)
        rcases hpc with rfl | hp0
        · rw [awNew hr hc g1 hp]
          repeat' (first
    | (first
    | ((with_reducible show IfK _ _ _ _); first | refine IfK.ff ?_ | refine IfK.tt ?_ | refine IfK.no (by first | rfl | assumption | exact nf (by assumption) | exact nt (by assumption) | ((try simp only [castN]); first | (simp [g1']; done) | (simp [g1']; omega))) ?_ | refine IfK.yes (by first | rfl | assumption | exact nf (by assumption) | exact nt (by assumption) | ((try simp only [castN]); first | (simp [g1']; done) | (simp [g1']; omega))) ?_)
    | ((with_reducible show NeedK _ _ _ _); refine NeedK.mk (by (try simp only [castN]); omega) ?_)
    | ((with_reducible show DrawK _ _ _ _); refine DrawK.mk (by kernel_rfl) (by kernel_rfl) (by kernel_rfl) ?_)
    | ((with_reducible show CallK _ _ 27 _ _ _ _); refine CallK.lit [] (f27_at hs hc) c27 ⟨rfl, trivial⟩ rfl rfl ?_)
    | ((with_reducible show CallK _ _ 16 _ _ _ _); refine CallK.lit [] (f16_at hsm hp) c16 ⟨⟨rfl, rfl, rfl, rfl, trivial⟩, rfl, trivial⟩ rfl rfl ?_)
    | ((with_reducible show AppK _ _ _ _ _ _ _ _ _ _); first | (refine AppK.mk [] (ws.map oWait) ⟨rfl, rfl, rfl⟩ ⟨rfl, rfl, rfl⟩ (one_waits ws) (by simp; omega) (by simp; omega) ?_) | (refine AppK.mk (ws.map oWait) [eWait ⟨s, nx⟩] ⟨rfl, rfl, rfl⟩ ⟨rfl, rfl, rfl⟩ rfl (by simp; omega) (by simp; omega) ?_))) <;> ((with_reducible conv => whnf); (with_reducible conv => congr <;> reduce); repeat ((first | (with_reducible refine HaltK.mk ?_) | (with_reducible refine StopK.mk ?_)); (with_reducible conv => whnf); (with_reducible conv => congr <;> reduce)))
    | ((with_reducible show (_ ∧ _) ∧ _ ∧ _); refine ⟨⟨rfl, rfl⟩, ?_, ?_⟩ <;> (with_reducible conv => whnf) <;> repeat' (first | (with_reducible exact trivial) | (with_reducible refine And.intro ?_ ?_ <;> with_reducible conv => whnf))))
          all_goals exact frz_waits rfl rfl (snoc_waits ws s nx) (by simp)
        · rw [awOld hr hc g1 (by show 0 ≤ posN l s; omega)]
          have hpn : ¬ p < 0 := by omega
          repeat' (first
    | (first
    | ((with_reducible show IfK _ _ _ _); first | refine IfK.ff ?_ | refine IfK.tt ?_ | refine IfK.no (by first | rfl | assumption | exact nf (by assumption) | exact nt (by assumption) | ((try simp only [castN]); first | (simp [g1', hpn]; done) | (simp [g1', hpn]; omega))) ?_ | refine IfK.yes (by first | rfl | assumption | exact nf (by assumption) | exact nt (by assumption) | ((try simp only [castN]); first | (simp [g1', hpn]; done) | (simp [g1', hpn]; omega))) ?_)
    | ((with_reducible show NeedK _ _ _ _); refine NeedK.mk (by (try simp only [castN]); omega) ?_)
    | ((with_reducible show DrawK _ _ _ _); refine DrawK.mk (by kernel_rfl) (by kernel_rfl) (by kernel_rfl) ?_)
    | ((with_reducible show CallK _ _ 27 _ _ _ _); refine CallK.lit [] (f27_at hs hc) c27 ⟨rfl, trivial⟩ rfl rfl ?_)
    | ((with_reducible show CallK _ _ 16 _ _ _ _); refine CallK.lit [] (f16_at hsm hp) c16 ⟨⟨rfl, rfl, rfl, rfl, trivial⟩, rfl, trivial⟩ rfl rfl ?_)
    | ((with_reducible show AppK _ _ _ _ _ _ _ _ _ _); refine AppK.mk [] (ws.map oWait) ⟨rfl, rfl, rfl⟩ ⟨rfl, rfl, rfl⟩ (one_waits ws) (by simp; omega) (by simp; omega) ?_)) <;> ((with_reducible conv => whnf); (with_reducible conv => congr <;> reduce); repeat ((first | (with_reducible refine HaltK.mk ?_) | (with_reducible refine StopK.mk ?_)); (with_reducible conv => whnf); (with_reducible conv => congr <;> reduce)))
    | ((with_reducible show (_ ∧ _) ∧ _ ∧ _); refine ⟨⟨rfl, rfl⟩, ?_, ?_⟩ <;> (with_reducible conv => whnf) <;> repeat' (first | (with_reducible exact trivial) | (with_reducible refine And.intro ?_ ?_ <;> with_reducible conv => whnf))))
          all_goals first | exact frz_waits rfl rfl rfl (by simp) | exact hp
/-- A desk that isn't too much for a look. -/
def shortX (x : DefM) : Bool := decide (x.name.size ≤ 300) && decide (x.locl.size ≤ 300)
def shortW (w : WaitM) : Bool := decide (w.name.size ≤ 300)
def shortB (d : DeskM) : Bool := decide (d.defs.length ≤ 40) && decide (d.waits.length ≤ 40) && d.defs.all shortX && d.waits.all shortW
theorem shortB_iff {d : DeskM} : shortB d = true ↔ ShortD d := by
  unfold shortB shortX shortW
  simp only [Bool.and_eq_true, decide_eq_true_eq, List.all_eq_true]
  exact ⟨fun h => ⟨h.1.1.1, h.1.1.2, h.1.2, h.2⟩, fun h => ⟨⟨⟨h.defs, h.waits⟩, h.names⟩, h.wnames⟩⟩
theorem all_upto {α : Type} {p : α → Bool} {l : List α} (h : ∀ (j : Nat) (b : α), j < l.length → l[j]? = some b → p b = true) : l.all p = true := by
  rw [List.all_eq_true]
  intro x hx
  obtain ⟨j, hj⟩ := List.getElem?_of_mem hx
  exact h j x (List.getElem?_eq_some_iff.1 hj).1 hj
theorem all_fails {α : Type} {p : α → Bool} {l : List α} {x : α} (hx : x ∈ l) (h : p x = false) : l.all p = false := by
  cases hh : l.all p with
  | false => rfl
  | true => rw [List.all_eq_true.1 hh x hx] at h; cases h
set_option maxHeartbeats 8000000 in
/-- ref.Short -/
theorem f9_ok (d : DeskM) : FnOK Tryd.prog 9 [] [eDesk d] [] (eBool (shortB d)) := by
  obtain ⟨r, hr⟩ : ∃ r, shortB d = r := ⟨_, rfl⟩
  rw [hr]
  have hsh := @shortB_iff d
  rw [hr] at hsh
  obtain ⟨l, ws, nx, bz⟩ := d
  unfold shortB at hr
  simp only at hr
  have hlm : (l.map oDef).length = l.length := List.length_map ..
  have hwm : (ws.map oWait).length = ws.length := List.length_map ..
  refine FnOK.startC (rvs := [.tmp 2]) G G_good Tryd.func9 rfl Tryd.ntmps9 rfl rfl ?_; delta List.toArray; ((with_reducible conv => whnf); (with_reducible conv => congr <;> reduce); repeat ((first | (with_reducible refine HaltK.mk ?_) | (with_reducible refine StopK.mk ?_)); (with_reducible conv => whnf); (with_reducible conv => congr <;> reduce)))
  by_cases g1 : l.length ≤ 40
  · by_cases g2 : ws.length ≤ 40
    · repeat' (first
    | (first
    | ((with_reducible show IfK _ _ _ _); first | refine IfK.ff ?_ | refine IfK.tt ?_ | refine IfK.no (by first | rfl | assumption | exact nf (by assumption) | exact nt (by assumption) | ((try simp only [castN]); first | (simp [hlm, hwm, g1, g2]; done) | (simp [hlm, hwm, g1, g2]; omega))) ?_ | refine IfK.yes (by first | rfl | assumption | exact nf (by assumption) | exact nt (by assumption) | ((try simp only [castN]); first | (simp [hlm, hwm, g1, g2]; done) | (simp [hlm, hwm, g1, g2]; omega))) ?_)
    | ((with_reducible show NeedK _ _ _ _); refine NeedK.mk (by (try simp only [castN]); omega) ?_)
    | ((with_reducible show DrawK _ _ _ _); refine DrawK.mk (by kernel_rfl) (by kernel_rfl) (by kernel_rfl) ?_)) <;> ((with_reducible conv => whnf); (with_reducible conv => congr <;> reduce); repeat ((first | (with_reducible refine HaltK.mk ?_) | (with_reducible refine StopK.mk ?_)); (with_reducible conv => whnf); (with_reducible conv => congr <;> reduce)))
    | ((with_reducible show (_ ∧ _) ∧ _ ∧ _); refine ⟨⟨rfl, rfl⟩, ?_, ?_⟩ <;> (with_reducible conv => whnf) <;> repeat' (first | (with_reducible exact trivial) | (with_reducible refine And.intro ?_ ?_ <;> with_reducible conv => whnf))))
      refine LoopK.use G G_good (fun (k : Nat) => [(1, .ptr 10 0 0), (3, eInt k)]) (fun _ => [(10, .live 4 [eDesk ⟨l, ws, nx, bz⟩] false)]) (fun k => k ≤ l.length ∧ ∀ (j : Nat) (b : DefM), j < k → l[j]? = some b → shortX b = true) (fun k => l.length - k) 0 ⟨Nat.zero_le _, fun j b hj => by omega⟩
        ⟨⟨rfl, rfl⟩, ⟨⟨rfl, rfl⟩, rfl, trivial⟩, ⟨⟨rfl, rfl, rfl, rfl, trivial⟩, trivial⟩, trivial⟩ ?_
      intro k ⟨hk, hno⟩
      ((with_reducible conv => whnf); (with_reducible conv => congr <;> reduce); repeat ((first | (with_reducible refine HaltK.mk ?_) | (with_reducible refine StopK.mk ?_)); (with_reducible conv => whnf); (with_reducible conv => congr <;> reduce)))
      refine IfK.mk (fun h1 => ?_) (fun h1 => ?_) <;> (try simp only [castN] at h1) <;> ((with_reducible conv => whnf); (with_reducible conv => congr <;> reduce); repeat ((first | (with_reducible refine HaltK.mk ?_) | (with_reducible refine StopK.mk ?_)); (with_reducible conv => whnf); (with_reducible conv => congr <;> reduce)))
      · simp only [hlm, decide_eq_true_eq] at h1
        have hk' : k < l.length := by omega
        obtain ⟨⟨n, lo, c⟩, hx⟩ : ∃ a, l[k]? = some a := ⟨_, List.getElem?_eq_getElem hk'⟩
        have hf : shortX ⟨n, lo, c⟩ = false → r = false := fun h => by rw [← hr, all_fails (List.mem_of_getElem? hx) h]; simp
        refine IdxK.mk k (eDef ⟨n, lo, c⟩) rfl (def_get hx) ?_; ((with_reducible conv => whnf); (with_reducible conv => congr <;> reduce); repeat ((first | (with_reducible refine HaltK.mk ?_) | (with_reducible refine StopK.mk ?_)); (with_reducible conv => whnf); (with_reducible conv => congr <;> reduce)))
        by_cases e1 : n.size ≤ 300
        · by_cases e2 : lo.size ≤ 300
          · repeat' (first
    | (first
    | ((with_reducible show IfK _ _ _ _); first | refine IfK.ff ?_ | refine IfK.tt ?_ | refine IfK.no (by first | rfl | assumption | exact nf (by assumption) | exact nt (by assumption) | ((try simp only [castN]); first | (simp [e1, e2]; done) | (simp [e1, e2]; omega))) ?_ | refine IfK.yes (by first | rfl | assumption | exact nf (by assumption) | exact nt (by assumption) | ((try simp only [castN]); first | (simp [e1, e2]; done) | (simp [e1, e2]; omega))) ?_)
    | ((with_reducible show NeedK _ _ _ _); refine NeedK.mk (by (try simp only [castN]); omega) ?_)
    | ((with_reducible show DrawK _ _ _ _); refine DrawK.mk (by kernel_rfl) (by kernel_rfl) (by kernel_rfl) ?_)
    | ((with_reducible show IdxK _ _ _ _ _); refine IdxK.mk k (eDef ⟨n, lo, c⟩) rfl (def_get hx) ?_)
    | ((with_reducible show NextK _ _); refine NextK.mk (k + 1) ⟨by omega, upto_succ (P := fun b => shortX b = true) hno hx (by unfold shortX; simp [e1, e2])⟩ (by omega) ⟨⟨rfl, rfl⟩, ⟨⟨rfl, rfl⟩, by show ((k + 1 : Nat) : Int) = (k : Int) + 1; omega, trivial⟩, ⟨⟨rfl, rfl, rfl, rfl, trivial⟩, trivial⟩, trivial⟩)) <;> ((with_reducible conv => whnf); (with_reducible conv => congr <;> reduce); repeat ((first | (with_reducible refine HaltK.mk ?_) | (with_reducible refine StopK.mk ?_)); (with_reducible conv => whnf); (with_reducible conv => congr <;> reduce)))
    | ((with_reducible show (_ ∧ _) ∧ _ ∧ _); refine ⟨⟨rfl, rfl⟩, ?_, ?_⟩ <;> (with_reducible conv => whnf) <;> repeat' (first | (with_reducible exact trivial) | (with_reducible refine And.intro ?_ ?_ <;> with_reducible conv => whnf))))
          · rw [hf (by unfold shortX; simp [e2])]
            repeat' (first
    | (first
    | ((with_reducible show IfK _ _ _ _); first | refine IfK.ff ?_ | refine IfK.tt ?_ | refine IfK.no (by first | rfl | assumption | exact nf (by assumption) | exact nt (by assumption) | ((try simp only [castN]); first | (simp [e1, e2]; done) | (simp [e1, e2]; omega))) ?_ | refine IfK.yes (by first | rfl | assumption | exact nf (by assumption) | exact nt (by assumption) | ((try simp only [castN]); first | (simp [e1, e2]; done) | (simp [e1, e2]; omega))) ?_)
    | ((with_reducible show NeedK _ _ _ _); refine NeedK.mk (by (try simp only [castN]); omega) ?_)
    | ((with_reducible show DrawK _ _ _ _); refine DrawK.mk (by kernel_rfl) (by kernel_rfl) (by kernel_rfl) ?_)
    | ((with_reducible show IdxK _ _ _ _ _); refine IdxK.mk k (eDef ⟨n, lo, c⟩) rfl (def_get hx) ?_)) <;> ((with_reducible conv => whnf); (with_reducible conv => congr <;> reduce); repeat ((first | (with_reducible refine HaltK.mk ?_) | (with_reducible refine StopK.mk ?_)); (with_reducible conv => whnf); (with_reducible conv => congr <;> reduce)))
    | ((with_reducible show (_ ∧ _) ∧ _ ∧ _); refine ⟨⟨rfl, rfl⟩, ?_, ?_⟩ <;> (with_reducible conv => whnf) <;> repeat' (first | (with_reducible exact trivial) | (with_reducible refine And.intro ?_ ?_ <;> with_reducible conv => whnf))))
        · rw [hf (by unfold shortX; simp [e1])]
          repeat' (first
    | (first
    | ((with_reducible show IfK _ _ _ _); first | refine IfK.ff ?_ | refine IfK.tt ?_ | refine IfK.no (by first | rfl | assumption | exact nf (by assumption) | exact nt (by assumption) | ((try simp only [castN]); first | (simp [e1]; done) | (simp [e1]; omega))) ?_ | refine IfK.yes (by first | rfl | assumption | exact nf (by assumption) | exact nt (by assumption) | ((try simp only [castN]); first | (simp [e1]; done) | (simp [e1]; omega))) ?_)
    | ((with_reducible show NeedK _ _ _ _); refine NeedK.mk (by (try simp only [castN]); omega) ?_)
    | ((with_reducible show DrawK _ _ _ _); refine DrawK.mk (by kernel_rfl) (by kernel_rfl) (by kernel_rfl) ?_)) <;> ((with_reducible conv => whnf); (with_reducible conv => congr <;> reduce); repeat ((first | (with_reducible refine HaltK.mk ?_) | (with_reducible refine StopK.mk ?_)); (with_reducible conv => whnf); (with_reducible conv => congr <;> reduce)))
    | ((with_reducible show (_ ∧ _) ∧ _ ∧ _); refine ⟨⟨rfl, rfl⟩, ?_, ?_⟩ <;> (with_reducible conv => whnf) <;> repeat' (first | (with_reducible exact trivial) | (with_reducible refine And.intro ?_ ?_ <;> with_reducible conv => whnf))))
      · have hkl : k = l.length := by simp only [hlm, decide_eq_false_iff_not] at h1; omega
        subst hkl
        have hall1 := all_upto hno
        repeat' (first
    | (first
    | ((with_reducible show IfK _ _ _ _); first | refine IfK.ff ?_ | refine IfK.tt ?_ | refine IfK.no (by first | rfl | assumption | exact nf (by assumption) | exact nt (by assumption) | ((try simp only [castN]); first | (simp [hlm]; done) | (simp [hlm]; omega))) ?_ | refine IfK.yes (by first | rfl | assumption | exact nf (by assumption) | exact nt (by assumption) | ((try simp only [castN]); first | (simp [hlm]; done) | (simp [hlm]; omega))) ?_)
    | ((with_reducible show NeedK _ _ _ _); refine NeedK.mk (by (try simp only [castN]); omega) ?_)
    | ((with_reducible show DrawK _ _ _ _); refine DrawK.mk (by kernel_rfl) (by kernel_rfl) (by kernel_rfl) ?_)) <;> ((with_reducible conv => whnf); (with_reducible conv => congr <;> reduce); repeat ((first | (with_reducible refine HaltK.mk ?_) | (with_reducible refine StopK.mk ?_)); (with_reducible conv => whnf); (with_reducible conv => congr <;> reduce)))
    | ((with_reducible show (_ ∧ _) ∧ _ ∧ _); refine ⟨⟨rfl, rfl⟩, ?_, ?_⟩ <;> (with_reducible conv => whnf) <;> repeat' (first | (with_reducible exact trivial) | (with_reducible refine And.intro ?_ ?_ <;> with_reducible conv => whnf))))
        refine LoopK.use G G_good (fun (k : Nat) => [(1, .ptr 10 0 0), (4, eInt k)]) (fun _ => [(10, .live 4 [eDesk ⟨l, ws, nx, bz⟩] false)]) (fun k => k ≤ ws.length ∧ ∀ (j : Nat) (b : WaitM), j < k → ws[j]? = some b → shortW b = true) (fun k => ws.length - k) 0 ⟨Nat.zero_le _, fun j b hj => by omega⟩
          ⟨⟨rfl, rfl⟩, ⟨⟨rfl, rfl⟩, rfl, trivial⟩, ⟨⟨rfl, rfl, rfl, rfl, trivial⟩, trivial⟩, trivial⟩ ?_
        intro k ⟨hk, hno⟩
        ((with_reducible conv => whnf); (with_reducible conv => congr <;> reduce); repeat ((first | (with_reducible refine HaltK.mk ?_) | (with_reducible refine StopK.mk ?_)); (with_reducible conv => whnf); (with_reducible conv => congr <;> reduce)))
        refine IfK.mk (fun h2 => ?_) (fun h2 => ?_) <;> (try simp only [castN] at h2) <;> ((with_reducible conv => whnf); (with_reducible conv => congr <;> reduce); repeat ((first | (with_reducible refine HaltK.mk ?_) | (with_reducible refine StopK.mk ?_)); (with_reducible conv => whnf); (with_reducible conv => congr <;> reduce)))
        · simp only [hwm, decide_eq_true_eq] at h2
          have hk' : k < ws.length := by omega
          obtain ⟨⟨n, t⟩, hx⟩ : ∃ a, ws[k]? = some a := ⟨_, List.getElem?_eq_getElem hk'⟩
          have hf : shortW ⟨n, t⟩ = false → r = false := fun h => by rw [← hr, all_fails (List.mem_of_getElem? hx) h]; simp
          refine IdxK.mk k (eWait ⟨n, t⟩) rfl (wait_get hx) ?_; ((with_reducible conv => whnf); (with_reducible conv => congr <;> reduce); repeat ((first | (with_reducible refine HaltK.mk ?_) | (with_reducible refine StopK.mk ?_)); (with_reducible conv => whnf); (with_reducible conv => congr <;> reduce)))
          by_cases e1 : n.size ≤ 300
          · repeat' (first
    | (first
    | ((with_reducible show IfK _ _ _ _); first | refine IfK.ff ?_ | refine IfK.tt ?_ | refine IfK.no (by first | rfl | assumption | exact nf (by assumption) | exact nt (by assumption) | ((try simp only [castN]); first | (simp [e1]; done) | (simp [e1]; omega))) ?_ | refine IfK.yes (by first | rfl | assumption | exact nf (by assumption) | exact nt (by assumption) | ((try simp only [castN]); first | (simp [e1]; done) | (simp [e1]; omega))) ?_)
    | ((with_reducible show NeedK _ _ _ _); refine NeedK.mk (by (try simp only [castN]); omega) ?_)
    | ((with_reducible show DrawK _ _ _ _); refine DrawK.mk (by kernel_rfl) (by kernel_rfl) (by kernel_rfl) ?_)
    | ((with_reducible show NextK _ _); refine NextK.mk (k + 1) ⟨by omega, upto_succ (P := fun b => shortW b = true) hno hx (by unfold shortW; simp [e1])⟩ (by omega) ⟨⟨rfl, rfl⟩, ⟨⟨rfl, rfl⟩, by show ((k + 1 : Nat) : Int) = (k : Int) + 1; omega, trivial⟩, ⟨⟨rfl, rfl, rfl, rfl, trivial⟩, trivial⟩, trivial⟩)) <;> ((with_reducible conv => whnf); (with_reducible conv => congr <;> reduce); repeat ((first | (with_reducible refine HaltK.mk ?_) | (with_reducible refine StopK.mk ?_)); (with_reducible conv => whnf); (with_reducible conv => congr <;> reduce)))
    | ((with_reducible show (_ ∧ _) ∧ _ ∧ _); refine ⟨⟨rfl, rfl⟩, ?_, ?_⟩ <;> (with_reducible conv => whnf) <;> repeat' (first | (with_reducible exact trivial) | (with_reducible refine And.intro ?_ ?_ <;> with_reducible conv => whnf))))
          · rw [hf (by unfold shortW; simp [e1])]
            repeat' (first
    | (first
    | ((with_reducible show IfK _ _ _ _); first | refine IfK.ff ?_ | refine IfK.tt ?_ | refine IfK.no (by first | rfl | assumption | exact nf (by assumption) | exact nt (by assumption) | ((try simp only [castN]); first | (simp [e1]; done) | (simp [e1]; omega))) ?_ | refine IfK.yes (by first | rfl | assumption | exact nf (by assumption) | exact nt (by assumption) | ((try simp only [castN]); first | (simp [e1]; done) | (simp [e1]; omega))) ?_)
    | ((with_reducible show NeedK _ _ _ _); refine NeedK.mk (by (try simp only [castN]); omega) ?_)
    | ((with_reducible show DrawK _ _ _ _); refine DrawK.mk (by kernel_rfl) (by kernel_rfl) (by kernel_rfl) ?_)) <;> ((with_reducible conv => whnf); (with_reducible conv => congr <;> reduce); repeat ((first | (with_reducible refine HaltK.mk ?_) | (with_reducible refine StopK.mk ?_)); (with_reducible conv => whnf); (with_reducible conv => congr <;> reduce)))
    | ((with_reducible show (_ ∧ _) ∧ _ ∧ _); refine ⟨⟨rfl, rfl⟩, ?_, ?_⟩ <;> (with_reducible conv => whnf) <;> repeat' (first | (with_reducible exact trivial) | (with_reducible refine And.intro ?_ ?_ <;> with_reducible conv => whnf))))
        · have hkl : k = ws.length := by simp only [hwm, decide_eq_false_iff_not] at h2; omega
          subst hkl
          have hall2 := all_upto hno
          rw [show r = true by rw [← hr, hall1, hall2]; simp [g1, g2]]
          repeat' (first
    | (first
    | ((with_reducible show IfK _ _ _ _); first | refine IfK.ff ?_ | refine IfK.tt ?_ | refine IfK.no (by first | rfl | assumption | exact nf (by assumption) | exact nt (by assumption) | ((try simp only [castN]); first | (simp [hwm]; done) | (simp [hwm]; omega))) ?_ | refine IfK.yes (by first | rfl | assumption | exact nf (by assumption) | exact nt (by assumption) | ((try simp only [castN]); first | (simp [hwm]; done) | (simp [hwm]; omega))) ?_)
    | ((with_reducible show NeedK _ _ _ _); refine NeedK.mk (by (try simp only [castN]); omega) ?_)
    | ((with_reducible show DrawK _ _ _ _); refine DrawK.mk (by kernel_rfl) (by kernel_rfl) (by kernel_rfl) ?_)) <;> ((with_reducible conv => whnf); (with_reducible conv => congr <;> reduce); repeat ((first | (with_reducible refine HaltK.mk ?_) | (with_reducible refine StopK.mk ?_)); (with_reducible conv => whnf); (with_reducible conv => congr <;> reduce)))
    | ((with_reducible show (_ ∧ _) ∧ _ ∧ _); refine ⟨⟨rfl, rfl⟩, ?_, ?_⟩ <;> (with_reducible conv => whnf) <;> repeat' (first | (with_reducible exact trivial) | (with_reducible refine And.intro ?_ ?_ <;> with_reducible conv => whnf))))
    · rw [show r = false by rw [← hr]; simp [g2]]
      repeat' (first
    | (first
    | ((with_reducible show IfK _ _ _ _); first | refine IfK.ff ?_ | refine IfK.tt ?_ | refine IfK.no (by first | rfl | assumption | exact nf (by assumption) | exact nt (by assumption) | ((try simp only [castN]); first | (simp [hlm, hwm, g1, g2]; done) | (simp [hlm, hwm, g1, g2]; omega))) ?_ | refine IfK.yes (by first | rfl | assumption | exact nf (by assumption) | exact nt (by assumption) | ((try simp only [castN]); first | (simp [hlm, hwm, g1, g2]; done) | (simp [hlm, hwm, g1, g2]; omega))) ?_)
    | ((with_reducible show NeedK _ _ _ _); refine NeedK.mk (by (try simp only [castN]); omega) ?_)
    | ((with_reducible show DrawK _ _ _ _); refine DrawK.mk (by kernel_rfl) (by kernel_rfl) (by kernel_rfl) ?_)) <;> ((with_reducible conv => whnf); (with_reducible conv => congr <;> reduce); repeat ((first | (with_reducible refine HaltK.mk ?_) | (with_reducible refine StopK.mk ?_)); (with_reducible conv => whnf); (with_reducible conv => congr <;> reduce)))
    | ((with_reducible show (_ ∧ _) ∧ _ ∧ _); refine ⟨⟨rfl, rfl⟩, ?_, ?_⟩ <;> (with_reducible conv => whnf) <;> repeat' (first | (with_reducible exact trivial) | (with_reducible refine And.intro ?_ ?_ <;> with_reducible conv => whnf))))
  · rw [show r = false by rw [← hr]; simp [g1]]
    repeat' (first
    | (first
    | ((with_reducible show IfK _ _ _ _); first | refine IfK.ff ?_ | refine IfK.tt ?_ | refine IfK.no (by first | rfl | assumption | exact nf (by assumption) | exact nt (by assumption) | ((try simp only [castN]); first | (simp [hlm, g1]; done) | (simp [hlm, g1]; omega))) ?_ | refine IfK.yes (by first | rfl | assumption | exact nf (by assumption) | exact nt (by assumption) | ((try simp only [castN]); first | (simp [hlm, g1]; done) | (simp [hlm, g1]; omega))) ?_)
    | ((with_reducible show NeedK _ _ _ _); refine NeedK.mk (by (try simp only [castN]); omega) ?_)
    | ((with_reducible show DrawK _ _ _ _); refine DrawK.mk (by kernel_rfl) (by kernel_rfl) (by kernel_rfl) ?_)) <;> ((with_reducible conv => whnf); (with_reducible conv => congr <;> reduce); repeat ((first | (with_reducible refine HaltK.mk ?_) | (with_reducible refine StopK.mk ?_)); (with_reducible conv => whnf); (with_reducible conv => congr <;> reduce)))
    | ((with_reducible show (_ ∧ _) ∧ _ ∧ _); refine ⟨⟨rfl, rfl⟩, ?_, ?_⟩ <;> (with_reducible conv => whnf) <;> repeat' (first | (with_reducible exact trivial) | (with_reducible refine And.intro ?_ ?_ <;> with_reducible conv => whnf))))
theorem int_get {l : List Int} {k : Nat} {x : Int} (h : l[k]? = some x) : (l.map oInt)[k]? = some (eInt x) := by rw [List.getElem?_map, h]; rfl
/-- ref.Ints -/
theorem f21_ok (a b : List Int) (ha : a.length ≤ 100000) : FnOK Tryd.prog 21 [] [eInts a, eInts b] [] (eBool (decide (a = b))) := by
  have hlm : (a.map oInt).length = a.length := List.length_map ..
  have hlm' : (b.map oInt).length = b.length := List.length_map ..
  refine FnOK.startC (rvs := [.tmp 4]) G G_good Tryd.func21 rfl Tryd.ntmps21 rfl rfl ?_; delta List.toArray; ((with_reducible conv => whnf); (with_reducible conv => congr <;> reduce); repeat ((first | (with_reducible refine HaltK.mk ?_) | (with_reducible refine StopK.mk ?_)); (with_reducible conv => whnf); (with_reducible conv => congr <;> reduce)))
  by_cases g1 : a.length = b.length
  · repeat' (first
    | (first
    | ((with_reducible show IfK _ _ _ _); first | refine IfK.ff ?_ | refine IfK.tt ?_ | refine IfK.no (by first | rfl | assumption | exact nf (by assumption) | exact nt (by assumption) | ((try simp only [castN]); first | (simp [hlm, hlm', g1]; done) | (simp [hlm, hlm', g1]; omega))) ?_ | refine IfK.yes (by first | rfl | assumption | exact nf (by assumption) | exact nt (by assumption) | ((try simp only [castN]); first | (simp [hlm, hlm', g1]; done) | (simp [hlm, hlm', g1]; omega))) ?_)
    | ((with_reducible show NeedK _ _ _ _); refine NeedK.mk (by (try simp only [castN]); omega) ?_)
    | ((with_reducible show DrawK _ _ _ _); refine DrawK.mk (by kernel_rfl) (by kernel_rfl) (by kernel_rfl) ?_)) <;> ((with_reducible conv => whnf); (with_reducible conv => congr <;> reduce); repeat ((first | (with_reducible refine HaltK.mk ?_) | (with_reducible refine StopK.mk ?_)); (with_reducible conv => whnf); (with_reducible conv => congr <;> reduce)))
    | ((with_reducible show (_ ∧ _) ∧ _ ∧ _); refine ⟨⟨rfl, rfl⟩, ?_, ?_⟩ <;> (with_reducible conv => whnf) <;> repeat' (first | (with_reducible exact trivial) | (with_reducible refine And.intro ?_ ?_ <;> with_reducible conv => whnf))))
    refine LoopK.use G G_good (fun (k : Nat) => [(0, eInts a), (1, eInts b), (5, eInt k)]) (fun _ => []) (fun k => k ≤ a.length ∧ ∀ j, j < k → a[j]? = b[j]?) (fun k => a.length - k) 0 ⟨Nat.zero_le _, fun j hj => by omega⟩
      ⟨⟨rfl, rfl⟩, ⟨rfl, rfl, rfl, trivial⟩, trivial⟩ ?_
    intro k ⟨hk, hno⟩
    ((with_reducible conv => whnf); (with_reducible conv => congr <;> reduce); repeat ((first | (with_reducible refine HaltK.mk ?_) | (with_reducible refine StopK.mk ?_)); (with_reducible conv => whnf); (with_reducible conv => congr <;> reduce)))
    refine IfK.mk (fun h1 => ?_) (fun h1 => ?_) <;> (try simp only [castN] at h1) <;> ((with_reducible conv => whnf); (with_reducible conv => congr <;> reduce); repeat ((first | (with_reducible refine HaltK.mk ?_) | (with_reducible refine StopK.mk ?_)); (with_reducible conv => whnf); (with_reducible conv => congr <;> reduce)))
    · simp only [hlm, decide_eq_true_eq] at h1
      have hk' : k < a.length := by omega
      obtain ⟨x, hx⟩ : ∃ x, a[k]? = some x := ⟨_, List.getElem?_eq_getElem hk'⟩
      obtain ⟨y, hy⟩ : ∃ y, b[k]? = some y := ⟨_, List.getElem?_eq_getElem (by omega)⟩
      refine IdxK.mk k (eInt x) rfl (int_get hx) ?_; ((with_reducible conv => whnf); (with_reducible conv => congr <;> reduce); repeat ((first | (with_reducible refine HaltK.mk ?_) | (with_reducible refine StopK.mk ?_)); (with_reducible conv => whnf); (with_reducible conv => congr <;> reduce)))
      refine IdxK.mk k (eInt y) rfl (int_get hy) ?_; ((with_reducible conv => whnf); (with_reducible conv => congr <;> reduce); repeat ((first | (with_reducible refine HaltK.mk ?_) | (with_reducible refine StopK.mk ?_)); (with_reducible conv => whnf); (with_reducible conv => congr <;> reduce)))
      by_cases e : x = y
      · repeat' (first
    | (first
    | ((with_reducible show IfK _ _ _ _); first | refine IfK.ff ?_ | refine IfK.tt ?_ | refine IfK.no (by first | rfl | assumption | exact nf (by assumption) | exact nt (by assumption) | ((try simp only [castN]); first | (simp [e]; done) | (simp [e]; omega))) ?_ | refine IfK.yes (by first | rfl | assumption | exact nf (by assumption) | exact nt (by assumption) | ((try simp only [castN]); first | (simp [e]; done) | (simp [e]; omega))) ?_)
    | ((with_reducible show NeedK _ _ _ _); refine NeedK.mk (by (try simp only [castN]); omega) ?_)
    | ((with_reducible show DrawK _ _ _ _); refine DrawK.mk (by kernel_rfl) (by kernel_rfl) (by kernel_rfl) ?_)
    | ((with_reducible show NextK _ _); refine NextK.mk (k + 1) ⟨by omega, same_succ hno (by rw [hx, hy, e])⟩ (by omega) ⟨⟨rfl, rfl⟩, ⟨rfl, rfl, by show ((k + 1 : Nat) : Int) = (k : Int) + 1; omega, trivial⟩, trivial⟩)) <;> ((with_reducible conv => whnf); (with_reducible conv => congr <;> reduce); repeat ((first | (with_reducible refine HaltK.mk ?_) | (with_reducible refine StopK.mk ?_)); (with_reducible conv => whnf); (with_reducible conv => congr <;> reduce)))
    | ((with_reducible show (_ ∧ _) ∧ _ ∧ _); refine ⟨⟨rfl, rfl⟩, ?_, ?_⟩ <;> (with_reducible conv => whnf) <;> repeat' (first | (with_reducible exact trivial) | (with_reducible refine And.intro ?_ ?_ <;> with_reducible conv => whnf))))
      · rw [show decide (a = b) = false from decide_eq_false fun h => e (by rw [h] at hx; rw [hx] at hy; exact Option.some.inj hy)]
        repeat' (first
    | (first
    | ((with_reducible show IfK _ _ _ _); first | refine IfK.ff ?_ | refine IfK.tt ?_ | refine IfK.no (by first | rfl | assumption | exact nf (by assumption) | exact nt (by assumption) | ((try simp only [castN]); first | (simp [e]; done) | (simp [e]; omega))) ?_ | refine IfK.yes (by first | rfl | assumption | exact nf (by assumption) | exact nt (by assumption) | ((try simp only [castN]); first | (simp [e]; done) | (simp [e]; omega))) ?_)
    | ((with_reducible show NeedK _ _ _ _); refine NeedK.mk (by (try simp only [castN]); omega) ?_)
    | ((with_reducible show DrawK _ _ _ _); refine DrawK.mk (by kernel_rfl) (by kernel_rfl) (by kernel_rfl) ?_)) <;> ((with_reducible conv => whnf); (with_reducible conv => congr <;> reduce); repeat ((first | (with_reducible refine HaltK.mk ?_) | (with_reducible refine StopK.mk ?_)); (with_reducible conv => whnf); (with_reducible conv => congr <;> reduce)))
    | ((with_reducible show (_ ∧ _) ∧ _ ∧ _); refine ⟨⟨rfl, rfl⟩, ?_, ?_⟩ <;> (with_reducible conv => whnf) <;> repeat' (first | (with_reducible exact trivial) | (with_reducible refine And.intro ?_ ?_ <;> with_reducible conv => whnf))))
    · have hkl : k = a.length := by simp only [hlm, decide_eq_false_iff_not] at h1; omega
      subst hkl
      rw [show decide (a = b) = true from decide_eq_true (list_same g1 hno)]
      repeat' (first
    | (first
    | ((with_reducible show IfK _ _ _ _); first | refine IfK.ff ?_ | refine IfK.tt ?_ | refine IfK.no (by first | rfl | assumption | exact nf (by assumption) | exact nt (by assumption) | ((try simp only [castN]); first | (simp [hlm]; done) | (simp [hlm]; omega))) ?_ | refine IfK.yes (by first | rfl | assumption | exact nf (by assumption) | exact nt (by assumption) | ((try simp only [castN]); first | (simp [hlm]; done) | (simp [hlm]; omega))) ?_)
    | ((with_reducible show NeedK _ _ _ _); refine NeedK.mk (by (try simp only [castN]); omega) ?_)
    | ((with_reducible show DrawK _ _ _ _); refine DrawK.mk (by kernel_rfl) (by kernel_rfl) (by kernel_rfl) ?_)) <;> ((with_reducible conv => whnf); (with_reducible conv => congr <;> reduce); repeat ((first | (with_reducible refine HaltK.mk ?_) | (with_reducible refine StopK.mk ?_)); (with_reducible conv => whnf); (with_reducible conv => congr <;> reduce)))
    | ((with_reducible show (_ ∧ _) ∧ _ ∧ _); refine ⟨⟨rfl, rfl⟩, ?_, ?_⟩ <;> (with_reducible conv => whnf) <;> repeat' (first | (with_reducible exact trivial) | (with_reducible refine And.intro ?_ ?_ <;> with_reducible conv => whnf))))
  · rw [show decide (a = b) = false from decide_eq_false fun h => g1 (by rw [h])]
    repeat' (first
    | (first
    | ((with_reducible show IfK _ _ _ _); first | refine IfK.ff ?_ | refine IfK.tt ?_ | refine IfK.no (by first | rfl | assumption | exact nf (by assumption) | exact nt (by assumption) | ((try simp only [castN]); first | (simp [hlm, hlm', g1]; done) | (simp [hlm, hlm', g1]; omega))) ?_ | refine IfK.yes (by first | rfl | assumption | exact nf (by assumption) | exact nt (by assumption) | ((try simp only [castN]); first | (simp [hlm, hlm', g1]; done) | (simp [hlm, hlm', g1]; omega))) ?_)
    | ((with_reducible show NeedK _ _ _ _); refine NeedK.mk (by (try simp only [castN]); omega) ?_)
    | ((with_reducible show DrawK _ _ _ _); refine DrawK.mk (by kernel_rfl) (by kernel_rfl) (by kernel_rfl) ?_)) <;> ((with_reducible conv => whnf); (with_reducible conv => congr <;> reduce); repeat ((first | (with_reducible refine HaltK.mk ?_) | (with_reducible refine StopK.mk ?_)); (with_reducible conv => whnf); (with_reducible conv => congr <;> reduce)))
    | ((with_reducible show (_ ∧ _) ∧ _ ∧ _); refine ⟨⟨rfl, rfl⟩, ?_, ?_⟩ <;> (with_reducible conv => whnf) <;> repeat' (first | (with_reducible exact trivial) | (with_reducible refine And.intro ?_ ?_ <;> with_reducible conv => whnf))))
theorem count_succ {l : List Int} {k : Nat} {x n : Int} (h : l[k]? = some x) : countI (l.take (k + 1)) n = countI (l.take k) n + if x = n then 1 else 0 := by
  have hk := (List.getElem?_eq_some_iff.1 h).1
  rw [List.take_succ_eq_append_getElem hk, (List.getElem?_eq_some_iff.1 h).2]
  unfold countI
  rw [List.count_append, List.count_singleton]
  by_cases e : x = n <;> simp [e]
theorem count_le (l : List Int) (k : Nat) (n : Int) : 0 ≤ countI (l.take k) n ∧ countI (l.take k) n ≤ k := by
  unfold countI
  have := List.count_le_length (a := n) (l := l.take k)
  have h2 : (l.take k).length ≤ k := by simp; omega
  omega
/-- ref.Has -/
theorem f26_ok (l : List Int) (n : Int) (hl : l.length ≤ 100000) : FnOK Tryd.prog 26 [] [eInts l, eInt n] [] (eInt (countI l n)) := by
  have hlm : (l.map oInt).length = l.length := List.length_map ..
  refine FnOK.startC (rvs := [.tmp 4]) G G_good Tryd.func26 rfl Tryd.ntmps26 rfl rfl ?_; delta List.toArray; ((with_reducible conv => whnf); (with_reducible conv => congr <;> reduce); repeat ((first | (with_reducible refine HaltK.mk ?_) | (with_reducible refine StopK.mk ?_)); (with_reducible conv => whnf); (with_reducible conv => congr <;> reduce)))
  refine LoopK.use G G_good (fun (k : Nat) => [(0, eInts l), (1, eInt n), (5, eInt (countI (l.take k) n)), (6, eInt k)]) (fun _ => []) (fun k => k ≤ l.length) (fun k => l.length - k) 0 (Nat.zero_le _)
    ⟨⟨rfl, rfl⟩, ⟨rfl, rfl, rfl, rfl, trivial⟩, trivial⟩ ?_
  intro k hk
  ((with_reducible conv => whnf); (with_reducible conv => congr <;> reduce); repeat ((first | (with_reducible refine HaltK.mk ?_) | (with_reducible refine StopK.mk ?_)); (with_reducible conv => whnf); (with_reducible conv => congr <;> reduce)))
  refine IfK.mk (fun h1 => ?_) (fun h1 => ?_) <;> (try simp only [castN] at h1) <;> ((with_reducible conv => whnf); (with_reducible conv => congr <;> reduce); repeat ((first | (with_reducible refine HaltK.mk ?_) | (with_reducible refine StopK.mk ?_)); (with_reducible conv => whnf); (with_reducible conv => congr <;> reduce)))
  · simp only [hlm, decide_eq_true_eq] at h1
    have hk' : k < l.length := by omega
    obtain ⟨x, hx⟩ : ∃ x, l[k]? = some x := ⟨_, List.getElem?_eq_getElem hk'⟩
    have hc := count_succ (n := n) hx
    have hb := count_le l k n
    refine IdxK.mk k (eInt x) rfl (int_get hx) ?_; ((with_reducible conv => whnf); (with_reducible conv => congr <;> reduce); repeat ((first | (with_reducible refine HaltK.mk ?_) | (with_reducible refine StopK.mk ?_)); (with_reducible conv => whnf); (with_reducible conv => congr <;> reduce)))
    by_cases e : x = n
    · rw [if_pos e] at hc
      repeat' (first
    | (first
    | ((with_reducible show IfK _ _ _ _); first | refine IfK.ff ?_ | refine IfK.tt ?_ | refine IfK.no (by first | rfl | assumption | exact nf (by assumption) | exact nt (by assumption) | ((try simp only [castN]); first | (simp [e]; done) | (simp [e]; omega))) ?_ | refine IfK.yes (by first | rfl | assumption | exact nf (by assumption) | exact nt (by assumption) | ((try simp only [castN]); first | (simp [e]; done) | (simp [e]; omega))) ?_)
    | ((with_reducible show NeedK _ _ _ _); refine NeedK.mk (by (try simp only [castN]); omega) ?_)
    | ((with_reducible show DrawK _ _ _ _); refine DrawK.mk (by kernel_rfl) (by kernel_rfl) (by kernel_rfl) ?_)
    | ((with_reducible show NextK _ _); refine NextK.mk (k + 1) (by omega) (by omega) ⟨⟨rfl, rfl⟩, ⟨rfl, rfl, hc, by show ((k + 1 : Nat) : Int) = (k : Int) + 1; omega, trivial⟩, trivial⟩)) <;> ((with_reducible conv => whnf); (with_reducible conv => congr <;> reduce); repeat ((first | (with_reducible refine HaltK.mk ?_) | (with_reducible refine StopK.mk ?_)); (with_reducible conv => whnf); (with_reducible conv => congr <;> reduce)))
    | ((with_reducible show (_ ∧ _) ∧ _ ∧ _); refine ⟨⟨rfl, rfl⟩, ?_, ?_⟩ <;> (with_reducible conv => whnf) <;> repeat' (first | (with_reducible exact trivial) | (with_reducible refine And.intro ?_ ?_ <;> with_reducible conv => whnf))))
    · rw [if_neg e, Int.add_zero] at hc
      repeat' (first
    | (first
    | ((with_reducible show IfK _ _ _ _); first | refine IfK.ff ?_ | refine IfK.tt ?_ | refine IfK.no (by first | rfl | assumption | exact nf (by assumption) | exact nt (by assumption) | ((try simp only [castN]); first | (simp [e]; done) | (simp [e]; omega))) ?_ | refine IfK.yes (by first | rfl | assumption | exact nf (by assumption) | exact nt (by assumption) | ((try simp only [castN]); first | (simp [e]; done) | (simp [e]; omega))) ?_)
    | ((with_reducible show NeedK _ _ _ _); refine NeedK.mk (by (try simp only [castN]); omega) ?_)
    | ((with_reducible show DrawK _ _ _ _); refine DrawK.mk (by kernel_rfl) (by kernel_rfl) (by kernel_rfl) ?_)
    | ((with_reducible show NextK _ _); refine NextK.mk (k + 1) (by omega) (by omega) ⟨⟨rfl, rfl⟩, ⟨rfl, rfl, hc, by show ((k + 1 : Nat) : Int) = (k : Int) + 1; omega, trivial⟩, trivial⟩)) <;> ((with_reducible conv => whnf); (with_reducible conv => congr <;> reduce); repeat ((first | (with_reducible refine HaltK.mk ?_) | (with_reducible refine StopK.mk ?_)); (with_reducible conv => whnf); (with_reducible conv => congr <;> reduce)))
    | ((with_reducible show (_ ∧ _) ∧ _ ∧ _); refine ⟨⟨rfl, rfl⟩, ?_, ?_⟩ <;> (with_reducible conv => whnf) <;> repeat' (first | (with_reducible exact trivial) | (with_reducible refine And.intro ?_ ?_ <;> with_reducible conv => whnf))))
  · have hkl : k = l.length := by simp only [hlm, decide_eq_false_iff_not] at h1; omega
    subst hkl
    rw [List.take_length]
    refine ⟨⟨rfl, rfl⟩, ?_, ?_⟩ <;> (with_reducible conv => whnf) <;> repeat' (first | (with_reducible exact trivial) | (with_reducible refine And.intro ?_ ?_ <;> with_reducible conv => whnf))
end Go.Proofs.DeskD
end
section
set_option linter.unusedSimpArgs false
set_option linter.unusedVariables false
namespace Go.Proofs.DeskD
open Go.Am Go.RowKit Go.Lib
set_option maxRecDepth 100000
@[reducible] def xa : ByteArray := ⟨#[120, 45, 97]⟩
@[reducible] def xb : ByteArray := ⟨#[120, 45, 98]⟩
@[reducible] def pS : ByteArray := ⟨#[112]⟩
@[reducible] def d0 : DeskM := ⟨[], [], 0, false⟩
@[reducible] def d1 : DeskM := ⟨[], [⟨xa, 0⟩], 1, false⟩
@[reducible] def d2 : DeskM := ⟨[], [⟨xa, 0⟩, ⟨xa, 1⟩], 2, false⟩
@[reducible] def d3 : DeskM := ⟨[⟨xa, pS, 1⟩], [], 2, false⟩
@[reducible] def d4 : DeskM := ⟨[⟨xa, pS, 1⟩], [], 3, false⟩
theorem a1 : awaitD d0 xa = (d1, 0, -1, 0) := by decide +kernel
theorem a2 : awaitD d1 xa = (d2, 1, -1, 0) := by decide +kernel
theorem a3 : defineD d2 2 xa pS 1 = (d3, 0, [0, 1], 0) := by decide +kernel
theorem a4 : awaitD d3 xa = (d4, 2, 0, 0) := by decide +kernel
theorem a5 : findD d3 pS xa = 0 ∧ findD d3 xa ⟨#[]⟩ = -1 ∧ namedD d3 xa = 0 ∧ classedD d3 1 = 0 ∧ mayD d3 2 xb ⟨#[]⟩ 1 = 10 ∧ rightD d3 = true := by decide +kernel
theorem f23_at {d d' : DeskM} {s : ByteArray} {a b e : Int} (h : SmallD d) (hr : awaitD d s = (d', a, b, e)) : FnOK Tryd.prog 23 [] [eDesk d, eStr s] [] (.tup [eDesk d', eInt a, eInt b, eInt e]) := by have := f23_ok d h s; rwa [hr] at this
theorem f24_at {d d' : DeskM} {s : ByteArray} {a b e : Int} (h : ShortD d) (hs : s.size ≤ 100000) (hr : awaitD d s = (d', a, b, e)) : FnOK Tryd.prog 24 [] [eDesk d, eStr s] [] (.tup [eDesk d', eInt a, eInt b, eInt e]) := by have := f24_ok d h s hs; rwa [hr] at this
theorem f18_at {d d' : DeskM} {k c a e : Int} {s base : ByteArray} {l : List Int} (h : SmallD d) (hr : defineD d k s base c = (d', a, l, e)) : FnOK Tryd.prog 18 [] [eDesk d, eInt k, eStr s, eStr base, eInt c] [] (.tup [eDesk d', eInt a, eInts l, eInt e]) := by have := f18_ok d h k s base c; rwa [hr] at this
theorem f19_at {d d' : DeskM} {k c a e : Int} {s base : ByteArray} {l : List Int} (h : ShortD d) (hs : s.size ≤ 100000) (hr : defineD d k s base c = (d', a, l, e)) : FnOK Tryd.prog 19 [] [eDesk d, eInt k, eStr s, eStr base, eInt c] [] (.tup [eDesk d', eInt a, eInts l, eInt e]) := by have := f19_ok d h k s base c hs; rwa [hr] at this
theorem f11_at {d : DeskM} {a b : ByteArray} {i : Int} (h : SmallD d) (hr : findD d a b = i) : FnOK Tryd.prog 11 [] [eDesk d, eStr a, eStr b] [] (eInt i) := by have := f11_ok d h a b; rwa [hr] at this
theorem f12_at {d : DeskM} {a : ByteArray} {i : Int} (h : SmallD d) (hr : namedD d a = i) : FnOK Tryd.prog 12 [] [eDesk d, eStr a] [] (eInt i) := by have := f12_ok d h a; rwa [hr] at this
theorem f13_at {d : DeskM} {a : Int} {i : Int} (h : SmallD d) (hr : classedD d a = i) : FnOK Tryd.prog 13 [] [eDesk d, eInt a] [] (eInt i) := by have := f13_ok d h a; rwa [hr] at this
theorem f14_at {d : DeskM} {b : Bool} (h : SmallD d) (hr : rightD d = b) : FnOK Tryd.prog 14 [] [eDesk d] [] (eBool b) := by have := f14_ok d h; rwa [hr] at this
theorem f15_at {d : DeskM} {a b : ByteArray} {i : Int} (h : SmallD d) (hr : findR d.defs a b = i) : FnOK Tryd.prog 15 [] [eDesk d, eStr a, eStr b] [] (eInt i) := by have := f15_ok d h a b; rwa [hr] at this
theorem f9_at {d : DeskM} {b : Bool} (hr : shortB d = b) : FnOK Tryd.prog 9 [] [eDesk d] [] (eBool b) := by have := f9_ok d; rwa [hr] at this
theorem f21_at {a b : List Int} {r : Bool} (h : a.length ≤ 100000) (hr : decide (a = b) = r) : FnOK Tryd.prog 21 [] [eInts a, eInts b] [] (eBool r) := by have := f21_ok a b h; rwa [hr] at this
theorem f22_at {a b : DeskM} {r : Bool} (h : SmallD a) (hr : decide (a = b) = r) : FnOK Tryd.prog 22 [] [eDesk a, eDesk b] [] (eBool r) := by have := f22_ok a b h; rwa [hr] at this
theorem sm (d : DeskM) (h1 : d.defs.length ≤ 10) (h2 : d.waits.length ≤ 10) : SmallD d := ⟨by omega, by omega⟩
set_option maxHeartbeats 8000000 in
theorem f8_ok : FnOK Tryd.prog 8 [] [] [] (eBool true) := by
  refine FnOK.startC (rvs := [.tmp 0]) G G_good Tryd.func8 rfl Tryd.ntmps8 rfl rfl ?_; delta List.toArray; ((with_reducible conv => whnf); (with_reducible conv => congr <;> reduce); repeat ((first | (with_reducible refine HaltK.mk ?_) | (with_reducible refine StopK.mk ?_)); (with_reducible conv => whnf); (with_reducible conv => congr <;> reduce)))
  refine CallK.val [] (f23_at (sm d0 (by decide) (by decide)) a1) c23 ⟨⟨.inr (.inr ⟨3, rfl⟩), .inr (.inr ⟨2, rfl⟩), rfl, rfl, trivial⟩, rfl, trivial⟩ rfl rfl rfl ?_; ((with_reducible conv => whnf); (with_reducible conv => congr <;> reduce); repeat ((first | (with_reducible refine HaltK.mk ?_) | (with_reducible refine StopK.mk ?_)); (with_reducible conv => whnf); (with_reducible conv => congr <;> reduce)))
  refine CallK.val [] (f23_at (sm d1 (by decide) (by decide)) a2) c23 ⟨⟨rfl, rfl, rfl, rfl, trivial⟩, rfl, trivial⟩ rfl rfl rfl ?_; ((with_reducible conv => whnf); (with_reducible conv => congr <;> reduce); repeat ((first | (with_reducible refine HaltK.mk ?_) | (with_reducible refine StopK.mk ?_)); (with_reducible conv => whnf); (with_reducible conv => congr <;> reduce)))
  refine CallK.val [] (f18_at (sm d2 (by decide) (by decide)) a3) c18 ⟨⟨rfl, rfl, rfl, rfl, trivial⟩, rfl, rfl, rfl, rfl, trivial⟩ rfl rfl rfl ?_; ((with_reducible conv => whnf); (with_reducible conv => congr <;> reduce); repeat ((first | (with_reducible refine HaltK.mk ?_) | (with_reducible refine StopK.mk ?_)); (with_reducible conv => whnf); (with_reducible conv => congr <;> reduce)))
  refine CallK.val [] (f23_at (sm d3 (by decide) (by decide)) a4) c23 ⟨⟨rfl, rfl, rfl, rfl, trivial⟩, rfl, trivial⟩ rfl rfl rfl ?_; ((with_reducible conv => whnf); (with_reducible conv => congr <;> reduce); repeat ((first | (with_reducible refine HaltK.mk ?_) | (with_reducible refine StopK.mk ?_)); (with_reducible conv => whnf); (with_reducible conv => congr <;> reduce)))
  dsimp only [List.append]; ((with_reducible conv => whnf); (with_reducible conv => congr <;> reduce); repeat ((first | (with_reducible refine HaltK.mk ?_) | (with_reducible refine StopK.mk ?_)); (with_reducible conv => whnf); (with_reducible conv => congr <;> reduce)))
  repeat' (first
    | (with_reducible show IfK _ _ _ _); (first | (refine IfK.tt ?_; ((with_reducible conv => whnf); (with_reducible conv => congr <;> reduce); repeat ((first | (with_reducible refine HaltK.mk ?_) | (with_reducible refine StopK.mk ?_)); (with_reducible conv => whnf); (with_reducible conv => congr <;> reduce)))) | (refine IfK.yes (by decide) ?_; ((with_reducible conv => whnf); (with_reducible conv => congr <;> reduce); repeat ((first | (with_reducible refine HaltK.mk ?_) | (with_reducible refine StopK.mk ?_)); (with_reducible conv => whnf); (with_reducible conv => congr <;> reduce)))))
    | (with_reducible show DrawK _ _ _ _); refine DrawK.mk (by kernel_rfl) (by kernel_rfl) (by kernel_rfl) ?_; ((with_reducible conv => whnf); (with_reducible conv => congr <;> reduce); repeat ((first | (with_reducible refine HaltK.mk ?_) | (with_reducible refine StopK.mk ?_)); (with_reducible conv => whnf); (with_reducible conv => congr <;> reduce))))
  refine CallK.lit [791] (f21_at (a := [0, 1]) (b := [0, 1]) (r := true) (by decide) (by decide)) c21 ⟨rfl, frz_ints rfl rfl rfl rfl, trivial⟩ rfl rfl ?_; ((with_reducible conv => whnf); (with_reducible conv => congr <;> reduce); repeat ((first | (with_reducible refine HaltK.mk ?_) | (with_reducible refine StopK.mk ?_)); (with_reducible conv => whnf); (with_reducible conv => congr <;> reduce)))
  repeat' (first
    | (with_reducible show IfK _ _ _ _); (first | (refine IfK.tt ?_; ((with_reducible conv => whnf); (with_reducible conv => congr <;> reduce); repeat ((first | (with_reducible refine HaltK.mk ?_) | (with_reducible refine StopK.mk ?_)); (with_reducible conv => whnf); (with_reducible conv => congr <;> reduce)))) | (refine IfK.yes (by decide) ?_; ((with_reducible conv => whnf); (with_reducible conv => congr <;> reduce); repeat ((first | (with_reducible refine HaltK.mk ?_) | (with_reducible refine StopK.mk ?_)); (with_reducible conv => whnf); (with_reducible conv => congr <;> reduce)))))
    | (with_reducible show CallK _ _ 11 _ _ _ _); (first | (refine CallK.lit [] (f11_at (sm d3 (by decide) (by decide)) a5.1) c11 ⟨⟨rfl, rfl, rfl, rfl, trivial⟩, rfl, rfl, trivial⟩ rfl rfl ?_; ((with_reducible conv => whnf); (with_reducible conv => congr <;> reduce); repeat ((first | (with_reducible refine HaltK.mk ?_) | (with_reducible refine StopK.mk ?_)); (with_reducible conv => whnf); (with_reducible conv => congr <;> reduce)))) | (refine CallK.lit [] (f11_at (sm d3 (by decide) (by decide)) a5.2.1) c11 ⟨⟨rfl, rfl, rfl, rfl, trivial⟩, rfl, rfl, trivial⟩ rfl rfl ?_; ((with_reducible conv => whnf); (with_reducible conv => congr <;> reduce); repeat ((first | (with_reducible refine HaltK.mk ?_) | (with_reducible refine StopK.mk ?_)); (with_reducible conv => whnf); (with_reducible conv => congr <;> reduce)))))
    | (with_reducible show CallK _ _ 12 _ _ _ _); (refine CallK.lit [] (f12_at (sm d3 (by decide) (by decide)) a5.2.2.1) c12 ⟨⟨rfl, rfl, rfl, rfl, trivial⟩, rfl, trivial⟩ rfl rfl ?_; ((with_reducible conv => whnf); (with_reducible conv => congr <;> reduce); repeat ((first | (with_reducible refine HaltK.mk ?_) | (with_reducible refine StopK.mk ?_)); (with_reducible conv => whnf); (with_reducible conv => congr <;> reduce))))
    | (with_reducible show CallK _ _ 13 _ _ _ _); (refine CallK.lit [] (f13_at (sm d3 (by decide) (by decide)) a5.2.2.2.1) c13 ⟨⟨rfl, rfl, rfl, rfl, trivial⟩, rfl, trivial⟩ rfl rfl ?_; ((with_reducible conv => whnf); (with_reducible conv => congr <;> reduce); repeat ((first | (with_reducible refine HaltK.mk ?_) | (with_reducible refine StopK.mk ?_)); (with_reducible conv => whnf); (with_reducible conv => congr <;> reduce))))
    | (with_reducible show CallK _ _ 20 _ _ _ _); (refine CallK.lit [] (f20_at (sm d3 (by decide) (by decide)) a5.2.2.2.2.1) c20 ⟨⟨rfl, rfl, rfl, rfl, trivial⟩, rfl, rfl, rfl, rfl, trivial⟩ rfl rfl ?_; ((with_reducible conv => whnf); (with_reducible conv => congr <;> reduce); repeat ((first | (with_reducible refine HaltK.mk ?_) | (with_reducible refine StopK.mk ?_)); (with_reducible conv => whnf); (with_reducible conv => congr <;> reduce))))
    | (with_reducible show CallK _ _ 14 _ _ _ _); (refine CallK.lit [] (f14_at (sm d3 (by decide) (by decide)) a5.2.2.2.2.2) c14 ⟨⟨rfl, rfl, rfl, rfl, trivial⟩, trivial⟩ rfl rfl ?_; ((with_reducible conv => whnf); (with_reducible conv => congr <;> reduce); repeat ((first | (with_reducible refine HaltK.mk ?_) | (with_reducible refine StopK.mk ?_)); (with_reducible conv => whnf); (with_reducible conv => congr <;> reduce))))
    | (with_reducible show DrawK _ _ _ _); refine DrawK.mk (by kernel_rfl) (by kernel_rfl) (by kernel_rfl) ?_; ((with_reducible conv => whnf); (with_reducible conv => congr <;> reduce); repeat ((first | (with_reducible refine HaltK.mk ?_) | (with_reducible refine StopK.mk ?_)); (with_reducible conv => whnf); (with_reducible conv => congr <;> reduce))))
  refine ⟨⟨rfl, rfl⟩, ?_, ?_⟩ <;> (with_reducible conv => whnf) <;> repeat' (first | (with_reducible exact trivial) | (with_reducible refine And.intro ?_ ?_ <;> with_reducible conv => whnf))
end Go.Proofs.DeskD
end
