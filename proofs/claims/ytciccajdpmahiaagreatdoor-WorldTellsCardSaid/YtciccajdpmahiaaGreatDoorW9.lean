/- Models, plain laws and contracts of functions of the given program; conditions as stated in each theorem. By an AI agent. -/
import Derived.Test.YtciccajdpmahiaaGreatDoorW7
import Derived.Test.YtciccajdpmahiaaGreatDoorW8
import Derived.Test.YtciccajdpmahiaaGreatDoorW5
import Derived.Test.YtciccajdpmahiaaGreatDoorW6
import Derived.Test.YtciccajdpmahiaaGreatDoorW2
import Derived.Test.YtciccajdpmahiaaGreatDoorRows
import Derived.ProofKit
import Derived.LaidMore
import Derived.OpenShut
import Derived.Stop.Joined
import Derived.Lib.LaidTab
import Derived.MakeChecks
set_option linter.unusedSimpArgs false
set_option linter.unusedVariables false
namespace Go.Proofs.Heir
open Go Go.Am Go.RowKit Go.Lib
set_option maxRecDepth 100000
set_option maxHeartbeats 8000000
theorem wRested_ok (w : WorldM) (h1 : w.line.todos.length ≤ 100000) : FnOK Tryz.prog 20 [] [eWorld w] [] (eBool (restG w)) := by
 have hi := lnIdle_ok w.line h1
 unfold restG
 generalize lnIdle w.line = g at *
 obtain ⟨⟨l, m⟩, st, ⟨d1, d2, d3, d4⟩, ⟨a, b, c, d⟩, ta, bu, cs⟩ := w
 simp only at hi ⊢
 have n1 : (ta.map oTask).length = ta.length := List.length_map ..
 have n2 : (bu.map oBuild).length = bu.length := List.length_map ..
 by_cases e1 : (ta.length : Int) = 0
 ·rw [decide_eq_true (show ta.length = 0 by omega)]
  have g1 : decide (((ta.map oTask).length : Int) = 0) = true := decide_eq_true (by omega)
  by_cases e2 : (bu.length : Int) = 0
  ·rw [decide_eq_true (show bu.length = 0 by omega)]
   have g2 : decide (((bu.map oBuild).length : Int) = 0) = true := decide_eq_true (by omega)
   cases g <;> cases d4 <;>
   ·refine FnOK.startC (rvs := [.tmp 2]) G G_good Tryz.func20 rfl Tryz.ntmps20 rfl rfl ?_; with_reducible refine wD ?_
    repeat' (first
  | refine gK ?_ | refine aE ?_ ?_
  | (((with_reducible refine kQ 45 ?_); refine cL hi c45 ?_) <;> with_reducible refine wK ?_)
  | apply trivial)
    all_goals first | rfl | (simp; done)
  ·rw [decide_eq_false (show ¬ bu.length = 0 by omega)]
   have g2 : decide (((bu.map oBuild).length : Int) = 0) = false := decide_eq_false (by omega)
   cases g <;>
   ·refine FnOK.startC (rvs := [.tmp 2]) G G_good Tryz.func20 rfl Tryz.ntmps20 rfl rfl ?_; with_reducible refine wD ?_
    repeat' (first
  | refine gK ?_ | refine aE ?_ ?_
  | (((with_reducible refine kQ 45 ?_); refine cL hi c45 ?_) <;> with_reducible refine wK ?_)
  | apply trivial)
    all_goals first | rfl | (simp; done)
 ·rw [decide_eq_false (show ¬ ta.length = 0 by omega)]
  have g1 : decide (((ta.map oTask).length : Int) = 0) = false := decide_eq_false (by omega)
  cases g <;>
  ·refine FnOK.startC (rvs := [.tmp 2]) G G_good Tryz.func20 rfl Tryz.ntmps20 rfl rfl ?_; with_reducible refine wD ?_
   repeat' (first
  | refine gK ?_ | refine aE ?_ ?_
  | (((with_reducible refine kQ 45 ?_); refine cL hi c45 ?_) <;> with_reducible refine wK ?_)
  | apply trivial)
   all_goals first | rfl | (simp; done)
theorem frz_nils {m : ML} {fz : Nat → Bool} {tab : List (Nat × Nat)} {n t L k : Nat} {ro : Bool} {rows : List AV} (h1 : lkM m t = .live 1 rows ro) (h2 : fz t = true) (h3 : rows = List.replicate k (.lit (.slice none 0 0))) (h4 : L = k) : FrzK m fz (MF tab fz m (n + 1)) (eTodoss (List.replicate k [])) t 0 L := by
 subst h3; subst h4
 refine ⟨1, _, ro, (List.replicate L []).map oTodos, h1, h2, rfl, by simp, noRef_todos2 _, ?_, ?_⟩
 ·simp
 ·intro i x y hx hy
  rw [List.map_replicate, List.getElem?_replicate] at hx
  rw [List.drop_zero, List.take_of_length_le (by simp), List.getElem?_replicate] at hy
  split at hx
  ·rename_i hi
   rw [if_pos hi] at hy
   cases hx; cases hy
   exact (show NilK _ from .inr (.inr ⟨10, rfl⟩))
  ·cases hx
theorem wClear_ok (w : WorldM) (h1 : w.line.todos.length ≤ 100000) : FnOK Tryz.prog 24 [] [eWorld w] [] (eWorld (clearW w)) := by
 unfold clearW
 obtain ⟨⟨l, m⟩, st, ⟨d1, d2, d3, d4⟩, ⟨a, b, c, d⟩, ta, bu, cs⟩ := w
 simp only at h1 ⊢
 have ham : (a.map oTodos).length = a.length := List.length_map ..
 refine FnOK.startC (rvs := [.cell 2 39]) G G_good Tryz.func24 rfl Tryz.ntmps24 rfl rfl ?_; with_reducible refine wD ?_
 refine HandK.makeSliceG G_good (e := 77) (e2 := 59) (wd2 := 10) (b2 := 96) (bytes := 24) a.length 71 rfl rfl rfl (by show AV.lit (.int .i64 ((a.map oTodos).length : Int)) = _; rw [ham]) (by show AV.lit (.int .i64 ((a.map oTodos).length : Int)) = _; rw [ham]) h1 (by omega) rfl (fun d hd => by cases hd; decide) ?_
 with_reducible refine wK ?_
 repeat' (first
  | refine gK ?_ | refine aE ?_ ?_
  | apply trivial)
 all_goals first
  | exact frz_nils rfl rfl rfl rfl
  | exact .inr (.inr ⟨_, rfl⟩)
structure ShortG (w : WorldM) : Prop where
 f : shortF w.f = true
 st : w.states.length ≤ 60
 d : shortB w.desk = true
 l : shortL w.line = true
 ta : w.tasks.length ≤ 60
 bu : w.builds.length ≤ 60
 c : shortC w.classes = true
 n : namedC w.classes = true
theorem shortG_iff {w : WorldM} : shortG w = true ↔ ShortG w := by
 unfold shortG
 simp only [Bool.and_eq_true, decide_eq_true_eq]
 exact ⟨fun ⟨⟨⟨⟨⟨⟨⟨a, b⟩, c⟩, d⟩, e⟩, f⟩, g⟩, h⟩ => ⟨a, b, c, d, e, f, g, h⟩, fun h => ⟨⟨⟨⟨⟨⟨⟨h.f, h.st⟩, h.d⟩, h.l⟩, h.ta⟩, h.bu⟩, h.c⟩, h.n⟩⟩
theorem sml_of {l : LineM} (h : shortL l = true) : SmL 60 l := by
 unfold shortL at h
 simp only [Bool.and_eq_true, decide_eq_true_eq, List.all_eq_true] at h
 obtain ⟨⟨⟨⟨h1, h2⟩, h3⟩, h4⟩, h5⟩ := h
 exact ⟨h1, h4, by omega, h5, h3⟩
theorem ShortG.small {w : WorldM} (h : ShortG w) : SmallW w := by
 have hc := h.c
 unfold shortC at hc
 simp only [Bool.and_eq_true, decide_eq_true_eq] at hc
 have hn := h.n
 unfold namedC at hn
 simp only [List.all_eq_true, decide_eq_true_eq] at hn
 have h1 := h.st
 have h2 := h.ta
 have h3 := h.bu
 exact ⟨shortF_small h.f, by omega, (shortB_iff.1 h.d).small, (sml_of h.l).mono (by omega), by omega, by omega, by omega, small_of_shortC h.c, hn⟩
theorem rlShort_ok (l : LineM) : FnOK Tryz.prog 69 [] [eLine l] [] (eBool (shortL l)) := by
 unfold shortL
 obtain ⟨a, b, c, d⟩ := l
 simp only
 have ham : (a.map oTodos).length = a.length := List.length_map ..
 have hbm : (b.map oInts).length = b.length := List.length_map ..
 have hcm : (c.map oInt).length = c.length := List.length_map ..
 refine FnOK.startC (rvs := [.tmp 2]) G G_good Tryz.func69 rfl Tryz.ntmps69 rfl rfl ?_; with_reducible refine wD ?_
 by_cases e1 : (60 : Int) < (a.length : Int)
 ·rw [decide_eq_false (show ¬ a.length ≤ 60 by omega)]
  (have fct := And.intro ham (e1); (repeat' (first
  | refine gF ?_ | refine aE ?_ ?_
  | apply trivial)); all_goals clear fct)
  all_goals first | rfl | (simp; done)
 by_cases e2 : (30 : Int) < (b.length : Int)
 ·rw [decide_eq_false (show ¬ b.length ≤ 30 by omega), Bool.and_false]
  (have fct := And.intro ham (And.intro hbm (And.intro (eq_false e1) (e2))); (repeat' (first
  | refine gF ?_ | refine aE ?_ ?_
  | apply trivial)); all_goals clear fct)
  all_goals first | rfl | (simp; done)
 by_cases e3 : (60 : Int) < (c.length : Int)
 ·rw [decide_eq_false (show ¬ c.length ≤ 60 by omega), Bool.and_false]
  (have fct := And.intro ham (And.intro hbm (And.intro hcm (And.intro (eq_false e1) (And.intro (eq_false e2) (e3))))); (repeat' (first
  | refine gF ?_ | refine aE ?_ ?_
  | apply trivial)); all_goals clear fct)
  all_goals first | rfl | (simp; done)
 rw [decide_eq_true (show a.length ≤ 60 by omega), decide_eq_true (show b.length ≤ 30 by omega), decide_eq_true (show c.length ≤ 60 by omega)]
 simp only [Bool.true_and]
 (have fct := And.intro ham (And.intro hbm (And.intro hcm (And.intro (eq_false e1) (And.intro (eq_false e2) ((eq_false e3)))))); (repeat' (first
  | refine gF ?_ | refine aE ?_ ?_
  | apply trivial)); all_goals clear fct)
 refine LoopK.use G G_good (fun (k : Nat) => [(1, .ptr 10 0 0), (3, eInt k)]) (fun _ => [(10, mLn ⟨a, b, c, d⟩)]) (fun k => k ≤ a.length ∧ ∀ (j : Nat) x, j < k → a[j]? = some x → decide (x.length ≤ 60) = true) (fun k => a.length - k) 0 ⟨Nat.zero_le _, fun j x h => by omega⟩
  ⟨⟨rfl, rfl⟩, ⟨⟨rfl, rfl⟩, rfl, trivial⟩, ⟨⟨rfl, rfl, rfl, rfl, trivial⟩, trivial⟩, trivial⟩ ?_
 rintro k ⟨hk, hok⟩
 with_reducible refine wK ?_
 refine IfK.mk (fun h2 => ?_) (fun h2 => ?_) <;> (try simp only [castN] at h2) <;> with_reducible refine wK ?_
 ·have hk' : k < a.length := by simp only [decide_eq_true_eq] at h2; omega
  obtain ⟨x, hx⟩ : ∃ x, a[k]? = some x := ⟨_, List.getElem?_eq_getElem hk'⟩
  have hxm : (x.map oTodo).length = x.length := List.length_map ..
  clear h2
  by_cases e : (60 : Int) < (x.length : Int)
  ·rw [all_no hx (decide_eq_false (show ¬ x.length ≤ 60 by omega)), Bool.false_and]
   (have fct := And.intro hxm (e); (repeat' (first
  | refine gF ?_ | refine aE ?_ ?_
  | (((with_reducible show IdxK _ _ _ _ _); refine IdxK.mk k (eTodos x) rfl (todos_get hx) ?_) <;> with_reducible refine wK ?_)
  | apply trivial)); all_goals clear fct)
  ·(have fct := And.intro hxm ((eq_false e)); (repeat' (first
  | refine gF ?_ | refine aE ?_ ?_
  | (((with_reducible show IdxK _ _ _ _ _); refine IdxK.mk k (eTodos x) rfl (todos_get hx) ?_) <;> with_reducible refine wK ?_)
  | apply trivial)); all_goals clear fct)
   refine NextK.mk (k + 1) ⟨by omega, fun j y hj hy => ?_⟩ (by omega) ⟨⟨rfl, rfl⟩, ⟨⟨rfl, rfl⟩, by show ((k + 1 : Nat) : Int) = (k : Int) + 1; omega, trivial⟩, ⟨⟨rfl, rfl, rfl, rfl, trivial⟩, trivial⟩, trivial⟩
   rcases Nat.lt_or_ge j k with h6 | h6
   ·exact hok j y h6 hy
   ·have : j = k := by omega
    subst this
    rw [hx] at hy; cases hy; exact decide_eq_true (by omega)
 ·rw [all_yes fun j y hy => hok j y (by have := (List.getElem?_eq_some_iff.1 hy).1; simp only [decide_eq_false_iff_not] at h2; omega) hy, Bool.true_and]
  clear h2
  repeat' (first
  | refine gK ?_ | refine aE ?_ ?_
  | apply trivial)
  refine LoopK.use G G_good (fun (k : Nat) => [(1, .ptr 10 0 0), (4, eInt k)]) (fun _ => [(10, mLn ⟨a, b, c, d⟩)]) (fun k => k ≤ b.length ∧ ∀ (j : Nat) x, j < k → b[j]? = some x → decide (x.length ≤ 60) = true) (fun k => b.length - k) 0 ⟨Nat.zero_le _, fun j x h => by omega⟩
   ⟨⟨rfl, rfl⟩, ⟨⟨rfl, rfl⟩, rfl, trivial⟩, ⟨⟨rfl, rfl, rfl, rfl, trivial⟩, trivial⟩, trivial⟩ ?_
  rintro q ⟨hq, hoq⟩
  with_reducible refine wK ?_
  refine IfK.mk (fun h2 => ?_) (fun h2 => ?_) <;> (try simp only [castN] at h2) <;> with_reducible refine wK ?_
  ·have hk' : q < b.length := by simp only [decide_eq_true_eq] at h2; omega
   obtain ⟨x, hx⟩ : ∃ x, b[q]? = some x := ⟨_, List.getElem?_eq_getElem hk'⟩
   have hxm : (x.map oInt).length = x.length := List.length_map ..
   clear h2
   by_cases e : (60 : Int) < (x.length : Int)
   ·rw [all_no hx (decide_eq_false (show ¬ x.length ≤ 60 by omega))]
    (have fct := And.intro hxm (e); (repeat' (first
  | refine gF ?_ | refine aE ?_ ?_
  | (((with_reducible show IdxK _ _ _ _ _); refine IdxK.mk q (eInts x) rfl (ints_get hx) ?_) <;> with_reducible refine wK ?_)
  | apply trivial)); all_goals clear fct)
   ·(have fct := And.intro hxm ((eq_false e)); (repeat' (first
  | refine gF ?_ | refine aE ?_ ?_
  | (((with_reducible show IdxK _ _ _ _ _); refine IdxK.mk q (eInts x) rfl (ints_get hx) ?_) <;> with_reducible refine wK ?_)
  | apply trivial)); all_goals clear fct)
    refine NextK.mk (q + 1) ⟨by omega, fun j y hj hy => ?_⟩ (by omega) ⟨⟨rfl, rfl⟩, ⟨⟨rfl, rfl⟩, by show ((q + 1 : Nat) : Int) = (q : Int) + 1; omega, trivial⟩, ⟨⟨rfl, rfl, rfl, rfl, trivial⟩, trivial⟩, trivial⟩
    rcases Nat.lt_or_ge j q with h6 | h6
    ·exact hoq j y h6 hy
    ·have : j = q := by omega
     subst this
     rw [hx] at hy; cases hy; exact decide_eq_true (by omega)
  ·rw [all_yes fun j y hy => hoq j y (by have := (List.getElem?_eq_some_iff.1 hy).1; simp only [decide_eq_false_iff_not] at h2; omega) hy]
   clear h2
   repeat' (first
  | refine gK ?_ | refine aE ?_ ?_
  | apply trivial)
theorem rNamed_ok (cs : List ClassM) (h1 : cs.length ≤ 100000) (h2 : ∀ c ∈ cs, c.watch.length ≤ 100000) : FnOK Tryz.prog 71 [] [eClasses cs] [] (eBool (namedC cs)) := by
 unfold namedC
 have hcl := h1
 clear h1
 have hlm : (cs.map oClass).length = cs.length := List.length_map ..
 refine FnOK.startC (rvs := [.tmp 2]) G G_good Tryz.func71 rfl Tryz.ntmps71 rfl rfl ?_; with_reducible refine wD ?_
 refine LoopK.use G G_good (fun (k : Nat) => [(0, eClasses cs), (3, eInt k)]) (fun _ => [])
  (fun k => k ≤ cs.length ∧ ∀ (j : Nat) (y : ClassM), j < k → cs[j]? = some y → (y.watch.all fun s => decide (s.size ≤ 300)) = true) (fun k => cs.length - k) 0 ⟨Nat.zero_le _, fun j y h => by omega⟩
  ⟨⟨rfl, rfl⟩, ⟨rfl, rfl, trivial⟩, trivial⟩ ?_
 rintro k ⟨hk, hok⟩
 with_reducible refine wK ?_
 refine IfK.mk (fun h1 => ?_) (fun h1 => ?_) <;> (try simp only [castN] at h1) <;> with_reducible refine wK ?_
 ·have hk' : k < cs.length := by simp only [decide_eq_true_eq] at h1; omega
  obtain ⟨x, hx⟩ : ∃ x, cs[k]? = some x := ⟨_, List.getElem?_eq_getElem hk'⟩
  have hwl := h2 x (List.mem_of_getElem? hx)
  have bad : (x.watch.all fun s => decide (s.size ≤ 300)) = false → (cs.all fun c => c.watch.all fun s => decide (s.size ≤ 300)) = false := fun h => all_no hx h
  have good : (x.watch.all fun s => decide (s.size ≤ 300)) = true → ∀ (j : Nat) (y : ClassM), j < k + 1 → cs[j]? = some y → (y.watch.all fun s => decide (s.size ≤ 300)) = true := fun h j y hj hy => by
   rcases Nat.lt_or_ge j k with h6 | h6
   ·exact hok j y h6 hy
   ·have : j = k := by omega
    subst this
    rw [hx] at hy; cases hy; exact h
  clear h1
  obtain ⟨c1, c2, c3, c4, c5⟩ := x
  have n2 : (c2.map oStr).length = c2.length := List.length_map ..
  simp only at bad good hwl
  repeat' (first
  | refine gK ?_ | refine aE ?_ ?_
  | apply trivial)
  refine LoopK.use G G_good (fun (j : Nat) => [(0, eClasses cs), (3, eInt k), (4, eInt j)]) (fun _ => [])
   (fun j => j ≤ c2.length ∧ ∀ (i : Nat) (y : ByteArray), i < j → c2[i]? = some y → decide (y.size ≤ 300) = true) (fun j => c2.length - j) 0 ⟨Nat.zero_le _, fun j y h => by omega⟩
   ⟨⟨rfl, rfl⟩, ⟨rfl, rfl, rfl, trivial⟩, trivial⟩ ?_
  rintro j ⟨hj, hoj⟩
  with_reducible refine wK ?_
  repeat' (first
  | refine gK ?_ | refine aE ?_ ?_
  | (((with_reducible show IdxK _ _ _ _ _); refine IdxK.mk k (eClass ⟨c1, c2, c3, c4, c5⟩) rfl (class_get hx) ?_) <;> with_reducible refine wK ?_)
  | apply trivial)
  refine IfK.mk (fun h2 => ?_) (fun h2 => ?_) <;> (try simp only [castN] at h2) <;> with_reducible refine wK ?_
  ·have hj' : j < c2.length := by simp only [decide_eq_true_eq] at h2; omega
   obtain ⟨s, hs⟩ : ∃ x, c2[j]? = some x := ⟨_, List.getElem?_eq_getElem hj'⟩
   clear h2
   by_cases e : (300 : Int) < (s.size : Int)
   ·rw [bad (all_no hs (decide_eq_false (show ¬ s.size ≤ 300 by omega)))]
    (have fct := e; (repeat' (first
  | refine gF ?_ | refine aE ?_ ?_
  | (((with_reducible show IdxK _ _ _ _ _); first | refine IdxK.mk k (eClass ⟨c1, c2, c3, c4, c5⟩) rfl (class_get hx) ?_ | refine IdxK.mk j (eStr s) rfl (strs_get hs) ?_) <;> with_reducible refine wK ?_)
  | apply trivial)); all_goals clear fct)
   ·(have fct := (eq_false e); (repeat' (first
  | refine gF ?_ | refine aE ?_ ?_
  | (((with_reducible show IdxK _ _ _ _ _); first | refine IdxK.mk k (eClass ⟨c1, c2, c3, c4, c5⟩) rfl (class_get hx) ?_ | refine IdxK.mk j (eStr s) rfl (strs_get hs) ?_) <;> with_reducible refine wK ?_)
  | apply trivial)); all_goals clear fct)
    refine NextK.mk (j + 1) ⟨by omega, fun i y hi hy => ?_⟩ (by omega) ⟨⟨rfl, rfl⟩, ⟨rfl, rfl, by show ((j + 1 : Nat) : Int) = (j : Int) + 1; omega, trivial⟩, trivial⟩
    rcases Nat.lt_or_ge i j with h6 | h6
    ·exact hoj i y h6 hy
    ·have : i = j := by omega
     subst this
     rw [hs] at hy; cases hy; exact decide_eq_true (by omega)
  ·have hnx := good (all_yes fun i y hy => hoj i y (by have := (List.getElem?_eq_some_iff.1 hy).1; simp only [decide_eq_false_iff_not] at h2; omega) hy)
   clear h2
   repeat' (first
  | refine gK ?_ | refine aE ?_ ?_
  | apply trivial)
   refine NextK.mk (k + 1) ⟨by omega, hnx⟩ (by omega) ⟨⟨rfl, rfl⟩, ⟨rfl, by show ((k + 1 : Nat) : Int) = (k : Int) + 1; omega, trivial⟩, trivial⟩
 ·rw [all_yes fun j y hy => hok j y (by have := (List.getElem?_eq_some_iff.1 hy).1; simp only [decide_eq_false_iff_not] at h1; omega) hy]
  clear h1
  repeat' (first
  | refine gK ?_ | refine aE ?_ ?_
  | apply trivial)
theorem rShort_ok (w : WorldM) : FnOK Tryz.prog 16 [] [eWorld w] [] (eBool (shortG w)) := by
 have h17 := f17_ok w.f
 have h68 := f68_ok w.desk
 have h69 := rlShort_ok w.line
 have h70 := f70_ok w.classes
 have h71 : shortC w.classes = true → FnOK Tryz.prog 71 [] [eClasses w.classes] [] (eBool (namedC w.classes)) := fun h => by
  have hc := small_of_shortC h
  unfold shortC at h
  simp only [Bool.and_eq_true, decide_eq_true_eq] at h
  exact rNamed_ok w.classes (by omega) fun c hc' => (hc c hc').watch
 unfold shortG
 generalize shortF w.f = g1 at *
 generalize shortB w.desk = g2 at *
 generalize shortL w.line = g3 at *
 generalize shortC w.classes = g4 at *
 generalize namedC w.classes = g5 at *
 obtain ⟨⟨l, m⟩, st, ⟨d1, d2, d3, d4⟩, ⟨a, b, c, d⟩, ta, bu, cs⟩ := w
 simp only at h17 h68 h69 h70 h71 ⊢
 have n1 : (st.map oState).length = st.length := List.length_map ..
 have n2 : (ta.map oTask).length = ta.length := List.length_map ..
 have n3 : (bu.map oBuild).length = bu.length := List.length_map ..
 obtain ⟨p1, q1⟩ : ∃ p, decide (st.length ≤ 60) = p := ⟨_, rfl⟩
 obtain ⟨p2, q2⟩ : ∃ p, decide (ta.length ≤ 60) = p := ⟨_, rfl⟩
 obtain ⟨p3, q3⟩ : ∃ p, decide (bu.length ≤ 60) = p := ⟨_, rfl⟩
 have r1 : decide (((st.map oState).length : Int) ≤ 60) = p1 := by rw [← q1, decide_eq_decide]; omega
 have r2 : decide (((ta.map oTask).length : Int) ≤ 60) = p2 := by rw [← q2, decide_eq_decide]; omega
 have r3 : decide (((bu.map oBuild).length : Int) ≤ 60) = p3 := by rw [← q3, decide_eq_decide]; omega
 rw [q1, q2, q3]
 clear q1 q2 q3
 refine FnOK.startC (rvs := [.tmp 2]) G G_good Tryz.func16 rfl Tryz.ntmps16 rfl rfl ?_; with_reducible refine wD ?_
 cases g1
 ·repeat' (first
  | refine gK ?_ | refine aE ?_ ?_
  | (((with_reducible refine kQ 17 ?_); refine cL h17 c17 ?_) <;> with_reducible refine wK ?_)
  | apply trivial)
  all_goals first | rfl | (simp; done)
 cases p1
 ·repeat' (first
  | refine gK ?_ | refine aE ?_ ?_
  | (((with_reducible refine kQ 17 ?_); refine cL h17 c17 ?_) <;> with_reducible refine wK ?_)
  | apply trivial)
  all_goals first | rfl | (simp; done) | (simp [r1]; done)
 cases g4
 case true =>
  have h71 := h71 rfl
  cases g2 <;> cases g3 <;> cases p2 <;> cases p3
  all_goals
   repeat' (first
  | refine gK ?_ | refine aE ?_ ?_
  | ((first
   | ((with_reducible refine kQ 17 ?_); refine cL h17 c17 ?_)
   | ((with_reducible refine kQ 68 ?_); refine cL h68 c68 ?_)
   | ((with_reducible refine kQ 69 ?_); refine cL h69 c69 ?_)
   | ((with_reducible refine kQ 70 ?_); refine cL h70 c70 ?_)
   | ((with_reducible refine kQ 71 ?_); refine cL h71 c71 ?_)) <;> with_reducible refine wK ?_)
  | apply trivial)
   all_goals first | rfl | (simp; done) | (simp [r2]; done) | (simp [r3]; done)
 cases g2 <;> cases g3 <;> cases p2 <;> cases p3
 all_goals
  repeat' (first
  | refine gK ?_ | refine aE ?_ ?_
  | ((first
   | ((with_reducible refine kQ 17 ?_); refine cL h17 c17 ?_)
   | ((with_reducible refine kQ 68 ?_); refine cL h68 c68 ?_)
   | ((with_reducible refine kQ 69 ?_); refine cL h69 c69 ?_)
   | ((with_reducible refine kQ 70 ?_); refine cL h70 c70 ?_)) <;> with_reducible refine wK ?_)
  | apply trivial)
  all_goals first | rfl | (simp; done) | (simp [r2]; done) | (simp [r3]; done)
theorem noRef_nodeN (x : NodeM) : noRef (oNode x) = true := by
 show noRef (.agg [eInt x.kind, eStr x.name, eStr x.is, eStr x.data, eAttrs x.attrs, eInt x.parent, eInts x.kids, eInt x.host, eInt x.under, eInt x.doc]) = true
 have h1 : noRefL (x.attrs.map oAttr) = true := noRefL_map oAttr (fun _ => rfl) _
 have h2 : noRefL (x.kids.map oInt) = true := noRefL_map oInt (fun _ => rfl) _
 simp [noRef, noRefL, h1, h2]
theorem noRef_nodes (l : List NodeM) : noRefL (l.map oNode) = true := noRefL_map oNode noRef_nodeN l
@[reducible] def mNodes (l : List NodeM) : MS := .live 10 (l.map oNode) false
theorem nodes_outs (l : List NodeM) : okOuts [mNodes l] := ⟨Wide.of_mem fun x hx => by
 obtain ⟨a, _, rfl⟩ := List.mem_map.1 hx; rfl, noRef_nodes l, trivial⟩
theorem one_nodes (l : List NodeM) : oneL (flat (l.map oNode)) = true := oneL_map oNode (fun _ => rfl) l
theorem frz_nodes {m : ML} {fz : Nat → Bool} {tab : List (Nat × Nat)} {n t len : Nat} {ro : Bool} {rows : List AV} {l : List NodeM} (h1 : lkM m t = .live 10 rows ro) (h2 : fz t = true) (h3 : rows = l.map oNode) (h4 : len = l.length) : FrzK m fz (MF tab fz m n) (eNodes l) t 0 len := by
 subst h3; subst h4
 have e : (l.map oNode).length = l.length := List.length_map ..
 exact .cut h1 h2 (by omega) (by rw [List.drop_zero, List.take_of_length_le (by omega)]) (noRef_nodes l)
theorem fBare_ok (k d : Int) : FnOK Tryz.prog 135 [] [eInt k, eInt d] [] (eNode (bareN k d)) := by
 refine FnOK.startC (rvs := [.cell 4 80]) G G_good Tryz.func135 rfl Tryz.ntmps135 rfl rfl ?_; with_reducible refine wD ?_
 repeat' (first
  | refine gK ?_ | refine aE ?_ ?_
  | apply trivial)
 all_goals first | rfl | exact .inr (.inr ⟨_, rfl⟩)
@[reducible] def forest0 (most : Int) : ForM := ⟨[bareN 0 0], most⟩
@[reducible] def zN : NodeM := ⟨0, ⟨#[]⟩, ⟨#[]⟩, ⟨#[]⟩, [], 0, [], 0, 0, 0⟩
@[reducible] def world0 (cs : List ClassM) (most : Int) : WorldM := ⟨forest0 most, [bornS zN], ⟨[], [], 0, false⟩, lnGrow ⟨[], [], [], false⟩, [], [], cs⟩
@[reducible] def zeroWM : WorldM := ⟨⟨[], 0⟩, [], ⟨[], [], 0, false⟩, ⟨[], [], [], false⟩, [], [], []⟩
theorem small0 (most : Int) : SmallN (forest0 most).nodes := ⟨by show 1 ≤ 64; decide, fun x hx => by rw [List.mem_singleton.1 hx]; decide, fun x hx => by rw [List.mem_singleton.1 hx]; decide, fun x hx => by rw [List.mem_singleton.1 hx]; decide⟩
theorem smallL0 : SmL 60 (lnGrow ⟨[], [], [], false⟩) := ⟨by decide, by decide, by decide, by decide, by decide⟩
theorem small_world0 {cs : List ClassM} (most : Int) (hc : cs.length ≤ 1000) (hcs : SmallC cs) (hnm : ∀ c ∈ cs, ∀ s ∈ c.watch, s.size ≤ 300) : SmallW (world0 cs most) := ⟨small0 most, by show 1 ≤ 1000; decide, ⟨Nat.zero_le _, Nat.zero_le _⟩, smallL0.mono (by decide), Nat.zero_le _, Nat.zero_le _, hc, hcs, hnm⟩
theorem fNew_ok (most : Int) : FnOK Tryz.prog 88 [] [eInt most] [] (.tup [eFor (if rightF (forest0 most) = true then forest0 most else ⟨[], 0⟩), eInt (if rightF (forest0 most) = true then 0 else 1)]) := by
 have hb := fBare_ok 0 0
 have hr := f100_ok (forest0 most) (small0 most)
 cases e : rightF (forest0 most) with
 | true =>
   rw [e] at hr
   rw [if_pos rfl, if_pos rfl]
   refine FnOK.startC (rvs := [.cell 2 24, .tmp 3]) G G_good Tryz.func88 rfl Tryz.ntmps88 rfl rfl ?_; with_reducible refine wD ?_
   repeat' (first
  | refine gK ?_ | refine aE ?_ ?_
  | ((first
   | ((with_reducible refine kQ 135 ?_); refine cV hb c135 ?_)
   | ((with_reducible refine kQ 100 ?_); refine CallK.lit [61] hr c100 ⟨⟨frz_nodes (l := [bareN 0 0]) rfl rfl rfl rfl, rfl, trivial⟩, trivial⟩ rfl rfl ?_)) <;> with_reducible refine wK ?_)
  | apply trivial)
   all_goals first | rfl | exact frz_nodes (l := [bareN 0 0]) rfl rfl rfl rfl
 | false =>
   rw [e] at hr
   rw [if_neg (by simp), if_neg (by simp)]
   refine FnOK.startC (rvs := [.cell 2 24, .tmp 3]) G G_good Tryz.func88 rfl Tryz.ntmps88 rfl rfl ?_; with_reducible refine wD ?_
   repeat' (first
  | refine gK ?_ | refine aE ?_ ?_
  | ((first
   | ((with_reducible refine kQ 135 ?_); refine cV hb c135 ?_)
   | ((with_reducible refine kQ 100 ?_); refine CallK.lit [61] hr c100 ⟨⟨frz_nodes (l := [bareN 0 0]) rfl rfl rfl rfl, rfl, trivial⟩, trivial⟩ rfl rfl ?_)) <;> with_reducible refine wK ?_)
  | apply trivial)
   all_goals first | rfl | exact .inr (.inr ⟨_, rfl⟩)
def newW (cs : List ClassM) (most : Int) : WorldM × Int := if rightG (world0 cs most) = true then (world0 cs most, 0) else (zeroWM, 1)
theorem wNew_ok (cs : List ClassM) (most : Int) (hc : cs.length ≤ 1000) (hcs : SmallC cs) (hnm : ∀ c ∈ cs, ∀ s ∈ c.watch, s.size ≤ 300) : FnOK Tryz.prog 28 [] [eClasses cs, eInt most] [] (.tup [eWorld (newW cs most).1, eInt (newW cs most).2]) := by
 have hsw := small_world0 most hc hcs hnm
 have hf := fNew_ok most
 have hb := wBorn_ok zN
 have hg := lnGrow_ok ⟨[], [], [], false⟩ ⟨by decide, by decide, by decide, by decide, by decide⟩
 have hcl := clclasses_ok cs (by omega)
 have hR := wRight_ok (world0 cs most) hsw
 have hRF : rightG (world0 cs most) = true → rightF (forest0 most) = true := fun h => (rightG_iff.1 h).rf
 unfold newW
 generalize hr : rightG (world0 cs most) = r at *
 unfold world0 at hR ⊢
 generalize hl : lnGrow ⟨[], [], [], false⟩ = L at *
 obtain ⟨la, lb, lc, ld⟩ := L
 generalize hs : bornS zN = s at *
 obtain ⟨s1, s2, s3, s4⟩ := s
 clear hsw hr hl hs
 cases e : rightF (forest0 most) with
 | false =>
   cases r with
   | true => rw [hRF rfl] at e; cases e
   | false =>
     rw [e] at hf
     rw [if_neg (by simp), if_neg (by simp)] at hf
     rw [if_neg (by simp)]
     refine FnOK.startC (rvs := [.cell 4 39, .tmp 5]) G G_good Tryz.func28 rfl Tryz.ntmps28 rfl rfl ?_; with_reducible refine wD ?_
     repeat' (first
  | refine gK ?_ | refine aE ?_ ?_
  | ((first
   | ((with_reducible refine kQ 88 ?_); refine cV hf c88 ?_)
   | ((with_reducible refine kQ 89 ?_); refine CallK.lit [] hb c89 ⟨⟨rfl, rfl, rfl, rfl, .inr (.inr ⟨_, rfl⟩), rfl, .inr (.inr ⟨_, rfl⟩), rfl, rfl, rfl, trivial⟩, trivial⟩ rfl rfl ?_)
   | ((with_reducible refine kQ 90 ?_); refine CallK.val [] hg c90 ⟨⟨.inr (.inr ⟨_, rfl⟩), .inr (.inr ⟨_, rfl⟩), .inr (.inr ⟨_, rfl⟩), rfl, trivial⟩, trivial⟩ rfl rfl rfl ?_)
   | ((with_reducible refine kQ 91 ?_); refine CallK.new 211 [] hcl c91 ⟨rfl, trivial⟩ rfl rfl rfl (outs_classes _) rfl ?_)) <;> with_reducible refine wK ?_)
  | apply trivial)
     all_goals first | rfl | exact .inr (.inr ⟨_, rfl⟩)
 | true =>
   rw [e] at hf
   rw [if_pos rfl, if_pos rfl] at hf
   cases r
   all_goals
    refine FnOK.startC (rvs := [.cell 4 39, .tmp 5]) G G_good Tryz.func28 rfl Tryz.ntmps28 rfl rfl ?_; with_reducible refine wD ?_
    repeat' (first
  | refine gK ?_ | refine aE ?_ ?_
  | ((first
   | ((with_reducible refine kQ 88 ?_); refine cV hf c88 ?_)
   | ((with_reducible refine kQ 89 ?_); refine CallK.lit [] hb c89 ⟨⟨rfl, rfl, rfl, rfl, .inr (.inr ⟨_, rfl⟩), rfl, .inr (.inr ⟨_, rfl⟩), rfl, rfl, rfl, trivial⟩, trivial⟩ rfl rfl ?_)
   | ((with_reducible refine kQ 90 ?_); refine CallK.val [] hg c90 ⟨⟨.inr (.inr ⟨_, rfl⟩), .inr (.inr ⟨_, rfl⟩), .inr (.inr ⟨_, rfl⟩), rfl, trivial⟩, trivial⟩ rfl rfl rfl ?_)
   | ((with_reducible refine kQ 91 ?_); refine CallK.new 211 [] hcl c91 ⟨rfl, trivial⟩ rfl rfl rfl (outs_classes _) rfl ?_)
   | ((with_reducible refine kQ 19 ?_); refine CallK.lit [171, 211] hR c19 ⟨⟨rfl, rfl, frz_states (l := [⟨s1, s2, s3, s4⟩]) rfl rfl rfl rfl, .inr (.inr ⟨_, rfl⟩), .inr (.inr ⟨_, rfl⟩), rfl, rfl, rfl, rfl, rfl, rfl, .inr (.inr ⟨_, rfl⟩), .inr (.inr ⟨_, rfl⟩), frz_classes rfl rfl rfl rfl, trivial⟩, trivial⟩ rfl rfl ?_)) <;> with_reducible refine wK ?_)
  | apply trivial)
    all_goals first
     | rfl
     | exact frz_states (l := [⟨s1, s2, s3, s4⟩]) rfl rfl rfl rfl
     | exact frz_classes rfl rfl rfl rfl
     | exact .inr (.inr ⟨_, rfl⟩)
theorem clattrs_fr (l : List AttrM) (hl : l.length ≤ 100000) : FnOK Tryz.prog 136 [] [eAttrs l] [] (eAttrs l) := by
 have hlm : (l.map oAttr).length = l.length := List.length_map ..
 refine FnOK.startC (rvs := [.tmp 2]) G G_good Tryz.func136 rfl Tryz.ntmps136 rfl rfl ?_; with_reducible refine wD ?_
 refine GuessK.mk (fun h => ?_) (fun _ => ?_) <;> with_reducible refine wK ?_
 ·obtain rfl : l = [] := by simpa using h
  (refine eK ?_ ?_ <;> with_reducible repeat' (first | exact trivial | (show _ ∧ _; refine aK ?_ ?_)))
  all_goals first | rfl | exact .inr (.inr ⟨2, rfl⟩)
 ·refine AppK.mk [] (l.map oAttr) ⟨rfl, rfl, rfl⟩ ⟨rfl, rfl, rfl⟩ (oneL_map oAttr (fun _ => rfl) l) (by simp; omega) (by simp; omega) ?_; with_reducible refine wK ?_
  (refine eK ?_ ?_ <;> with_reducible repeat' (first | exact trivial | (show _ ∧ _; refine aK ?_ ?_)))
  all_goals first | exact frz_attrs rfl rfl rfl rfl | (refine frz_attrs rfl rfl ?_ ?_ <;> simp)
theorem clnodes_ok (l : List NodeM) (hl : l.length ≤ 100000) : FnOK Tryz.prog 140 [] [eNodes l] [mNodes l] (.own 0 0 l.length) := by
 have hlm : (l.map oNode).length = l.length := List.length_map ..
 refine FnOK.startC (rvs := [.tmp 2]) G G_good Tryz.func140 rfl Tryz.ntmps140 rfl rfl ?_; with_reducible refine wD ?_
 refine GuessK.mk (fun h => ?_) (fun _ => ?_) <;> with_reducible refine wK ?_
 ·obtain rfl : l = [] := by simpa using h
  (refine eK ?_ ?_ <;> with_reducible repeat' (first | exact trivial | (show _ ∧ _; refine aK ?_ ?_)))
  all_goals first | rfl | trivial
 ·refine AppK.mk [] (l.map oNode) ⟨rfl, rfl, rfl⟩ ⟨rfl, rfl, rfl⟩ (one_nodes l) (by simp; omega) (by simp; omega) ?_; with_reducible refine wK ?_
  (refine eK ?_ ?_ <;> with_reducible repeat' (first | exact trivial | (show _ ∧ _; refine aK ?_ ?_)))
  ·exact hlm.symm
  ·exact MFL_refl (noRef_nodes l)
theorem makeF_no {f : ForM} {x : NodeM} (h : makeOK f x = false) : makeF f x = (f, -1, 1) := by unfold makeF; rw [h]; rfl
theorem makeF_full {f : ForM} {x : NodeM} (h : makeOK f x = true) (h2 : (f.nodes.length : Int) = f.most) : makeF f x = (f, -1, 8) := by unfold makeF; rw [if_pos h, if_pos h2]
theorem makeF_yes {f : ForM} {x : NodeM} (h : makeOK f x = true) (h2 : ¬ (f.nodes.length : Int) = f.most) : makeF f x = (⟨f.nodes ++ [madeN f x], f.most⟩, (f.nodes.length : Int), 0) := by unfold makeF; rw [if_pos h, if_neg h2]
theorem fMake_ok (f : ForM) (hs : SmallN f.nodes) (x : NodeM) (hx : x.attrs.length ≤ 100000) (hk : x.kind = 1) : FnOK Tryz.prog 67 [] [eFor f, eNode x] [] (.tup [eFor (makeF f x).1, eInt (makeF f x).2.1, eInt (makeF f x).2.2]) := by
 have hb := fBare_ok x.kind x.doc
 have hcl := clattrs_fr x.attrs hx
 have hr := f137_ok f hs
 have hn := f138_ok (madeN f x) hx
 have hi := f139_ok f x.doc 0
 have hcn := clnodes_ok f.nodes (by have := hs.len; omega)
 have hlen := hs.len
 have hno := makeF_no (f := f) (x := x)
 have hfu := makeF_full (f := f) (x := x)
 have hye := makeF_yes (f := f) (x := x)
 have hok : makeOK f x = ((rightF f && namedN (madeN f x)) && (!decide (x.kind = 4) && (decide (x.kind = 0) || isN f.nodes x.doc 0))) := rfl
 rw [hok] at hno hfu hye
 clear hok
 unfold madeN at hn hno hfu hye
 obtain ⟨l, m⟩ := f
 obtain ⟨x0, x1, x2, x3, x4, x5, x6, x7, x8, x9⟩ := x
 simp only at hb hcl hr hn hi hcn hlen hno hfu hye hk
 subst hk
 unfold bareN at hb
 rw [if_neg (by decide)] at hn hno hfu hye
 have hlm : (l.map oNode).length = l.length := List.length_map ..
 generalize namedN ⟨1, x1, x2, x3, x4, -1, [], -1, -1, x9⟩ = g2 at *
 generalize rightF ⟨l, m⟩ = g1 at *
 generalize isN l x9 0 = g3 at *
 by_cases e : (l.length : Int) = m
 ·have hfu := fun h => hfu h e
  clear hye
  cases g1 <;> cases g2 <;> cases g3
  case true.true.true =>
   rw [hfu rfl]
   refine FnOK.startC (rvs := [.cell 4 24, .tmp 5, .tmp 6]) G G_good Tryz.func67 rfl Tryz.ntmps67 rfl rfl ?_; with_reducible refine wD ?_
   (have fct := And.intro hlm ((eq_true e)); (repeat' (first
  | refine gF ?_ | refine aE ?_ ?_
  | ((first
   | ((with_reducible refine kQ 135 ?_); refine cV hb c135 ?_)
   | ((with_reducible refine kQ 136 ?_); refine cV hcl c136 ?_)
   | ((with_reducible refine kQ 137 ?_); refine cL hr c137 ?_)
   | ((with_reducible refine kQ 138 ?_); refine cL hn c138 ?_)
   | ((with_reducible refine kQ 139 ?_); refine cL hi c139 ?_)) <;> with_reducible refine wK ?_)
  | apply trivial)); all_goals clear fct)
   all_goals trace_state
  all_goals
   rw [hno rfl]
   refine FnOK.startC (rvs := [.cell 4 24, .tmp 5, .tmp 6]) G G_good Tryz.func67 rfl Tryz.ntmps67 rfl rfl ?_; with_reducible refine wD ?_
   (have fct := hlm; (repeat' (first
  | refine gF ?_ | refine aE ?_ ?_
  | ((first
   | ((with_reducible refine kQ 135 ?_); refine cV hb c135 ?_)
   | ((with_reducible refine kQ 136 ?_); refine cV hcl c136 ?_)
   | ((with_reducible refine kQ 137 ?_); refine cL hr c137 ?_)
   | ((with_reducible refine kQ 138 ?_); refine cL hn c138 ?_)
   | ((with_reducible refine kQ 139 ?_); refine cL hi c139 ?_)) <;> with_reducible refine wK ?_)
  | apply trivial)); all_goals clear fct)
   all_goals trace_state
 ·have hye := fun h => hye h e
  clear hfu
  cases g1 <;> cases g2 <;> cases g3
  case true.true.true =>
   rw [hye rfl]
   refine FnOK.startC (rvs := [.cell 4 24, .tmp 5, .tmp 6]) G G_good Tryz.func67 rfl Tryz.ntmps67 rfl rfl ?_; with_reducible refine wD ?_
   (have fct := And.intro hlm ((eq_false e)); (repeat' (first
  | refine gF ?_ | refine aE ?_ ?_
  | ((first
   | ((with_reducible refine kQ 135 ?_); refine cV hb c135 ?_)
   | ((with_reducible refine kQ 136 ?_); refine cV hcl c136 ?_)
   | ((with_reducible refine kQ 137 ?_); refine cL hr c137 ?_)
   | ((with_reducible refine kQ 138 ?_); refine cL hn c138 ?_)
   | ((with_reducible refine kQ 139 ?_); refine cL hi c139 ?_)
   | ((with_reducible refine kQ 140 ?_); refine CallK.new 731 [] hcn c140 ⟨rfl, trivial⟩ rfl rfl rfl (nodes_outs _) rfl ?_)
   | ((with_reducible show AppK _ _ _ _ _ _ _ _ _ _); refine AppK.mk (l.map oNode) [.agg [eInt 1, eStr x1, eStr x2, eStr x3, eAttrs x4, eInt (-1), eInts [], eInt (-1), eInt (-1), eInt x9]] ⟨rfl, by simp, rfl⟩ ⟨rfl, rfl, rfl⟩ rfl (by simp; omega) (by simp; omega) ?_)) <;> with_reducible refine wK ?_)
  | apply trivial)); all_goals clear fct)
   all_goals first
    | exact frz_snoc oNode (y := ⟨1, x1, x2, x3, x4, -1, [], -1, -1, x9⟩) rfl rfl rfl (by simp) noRef_nodes ⟨rfl, rfl, rfl, rfl, rfl, rfl, rfl, rfl, rfl, rfl, trivial⟩
    | (show (l.length : Int) = _; rw [hlm])
  all_goals
   rw [hno rfl]
   refine FnOK.startC (rvs := [.cell 4 24, .tmp 5, .tmp 6]) G G_good Tryz.func67 rfl Tryz.ntmps67 rfl rfl ?_; with_reducible refine wD ?_
   (have fct := hlm; (repeat' (first
  | refine gF ?_ | refine aE ?_ ?_
  | ((first
   | ((with_reducible refine kQ 135 ?_); refine cV hb c135 ?_)
   | ((with_reducible refine kQ 136 ?_); refine cV hcl c136 ?_)
   | ((with_reducible refine kQ 137 ?_); refine cL hr c137 ?_)
   | ((with_reducible refine kQ 138 ?_); refine cL hn c138 ?_)
   | ((with_reducible refine kQ 139 ?_); refine cL hi c139 ?_)) <;> with_reducible refine wK ?_)
  | apply trivial)); all_goals clear fct)
   all_goals trace_state
@[reducible] def qA1 : ByteArray := ⟨#[97]⟩
@[reducible] def qXA : ByteArray := ⟨#[120, 45, 97]⟩
@[reducible] def qE : ByteArray := ⟨#[]⟩
@[reducible] def qC : ClassM := ⟨false, [qA1], [], [], []⟩
@[reducible] def qCap : ClassM := ⟨false, [⟨#[65]⟩], [], [], []⟩
@[reducible] def qN0 : NodeM := ⟨0, qE, qE, qE, [], -1, [], -1, -1, 0⟩
@[reducible] def qN1 : NodeM := ⟨1, qXA, qE, qE, [], -1, [], -1, -1, 0⟩
@[reducible] def qM : NodeM := ⟨1, qXA, qE, qE, [], 0, [], 0, 0, 0⟩
@[reducible] def qF0 : ForM := ⟨[qN0], 5⟩
@[reducible] def qF1 : ForM := ⟨[qN0, qN1], 5⟩
@[reducible] def qD : DeskM := ⟨[], [], 0, false⟩
@[reducible] def qS0 : StateM := ⟨0, -1, -1, false⟩
@[reducible] def qS1 : StateM := ⟨1, -1, -1, false⟩
@[reducible] def qT : TodoM := ⟨1, 0, qE, false, false, qE, qE, 0, 0, false⟩
@[reducible] def qW : WorldM := ⟨qF0, [qS0], qD, ⟨[[]], [], [], false⟩, [], [], [qC]⟩
@[reducible] def qV : WorldM := ⟨qF1, [qS0, qS1], qD, ⟨[[], []], [], [], false⟩, [], [], [qC]⟩
@[reducible] def qX : WorldM := ⟨qF1, [qS0, qS1], qD, ⟨[[], [qT]], [], [1], true⟩, [⟨1, 0, 0⟩], [], [qC]⟩
@[reducible] def qZ : WorldM := ⟨qF1, [qS0, qS1], qD, ⟨[[], []], [], [], false⟩, [], [], [qC]⟩
theorem q1 : newW [qC] 5 = (qW, 0) := by kernel_rfl
theorem q2 : makeF qF0 qM = (qF1, 1, 0) := by kernel_rfl
theorem q3 : tellW qW qF1 [] = (qV, 0) := by kernel_rfl
theorem q4 : enlistW qV [⟨1, qT⟩] = (qX, 0) := by kernel_rfl
theorem q5 : enlistW qV [⟨2, qT⟩] = (qV, 1) := by kernel_rfl
theorem q6 : restG qV = true := by kernel_rfl
theorem q7 : restG qX = false := by kernel_rfl
theorem q8 : clearW qX = qZ := by kernel_rfl
theorem q9 : rightG qX = true := by kernel_rfl
theorem q10 : allowedC qCap = false := by kernel_rfl
theorem qsN {l : List NodeM} (h : (decide (l.length ≤ 60) && l.all fun x => decide (x.kids.length ≤ 60) && decide (x.attrs.length ≤ 60) && decide (x.name.size ≤ 300)) = true) : SmallN l := shortF_small (f := ⟨l, 0⟩) h
theorem qsC : SmallC [qC] := fun c hc => by rw [List.mem_singleton.1 hc]; exact ⟨by decide, by decide, by decide, by decide, by decide⟩
theorem qsM : ∀ c ∈ [qC], ∀ s ∈ c.watch, s.size ≤ 300 := fun c hc s hs => by rw [List.mem_singleton.1 hc] at hs; rw [List.mem_singleton.1 hs]; decide
theorem qsW : SmallW qW := ⟨qsN (by kernel_rfl), by decide, ⟨by decide, by decide⟩, ⟨by decide, by decide, by decide, by decide, by decide⟩, by decide, by decide, by decide, qsC, qsM⟩
theorem qsV : SmallW qV := ⟨qsN (by kernel_rfl), by decide, ⟨by decide, by decide⟩, ⟨by decide, by decide, by decide, by decide, by decide⟩, by decide, by decide, by decide, qsC, qsM⟩
theorem qsX : SmallW qX := ⟨qsN (by kernel_rfl), by decide, ⟨by decide, by decide⟩, ⟨by decide, by decide, by decide, by decide, by decide⟩, by decide, by decide, by decide, qsC, qsM⟩
theorem wAwake_ok : FnOK Tryz.prog 15 [] [] [] (eBool true) := by
 have a1 := wNew_ok [qC] 5 (by decide) qsC qsM
 rw [q1] at a1
 have a2 := fMake_ok qF0 (qsN (by kernel_rfl)) qM (by decide) rfl
 rw [q2] at a2
 have a3 := wTell_ok qW qsW ⟨by decide, by decide, by decide, by decide, by decide⟩ (by decide) qF1 (qsN (by kernel_rfl)) [] (by decide)
 rw [q3] at a3
 have a4 := wEnlist_ok qV qsV [⟨1, qT⟩] (by decide)
 rw [q4] at a4
 have a5 := wEnlist_ok qV qsV [⟨2, qT⟩] (by decide)
 rw [q5] at a5
 have a6 := wRested_ok qV (by decide)
 rw [q6] at a6
 have a7 := wRested_ok qX (by decide)
 rw [q7] at a7
 have a8 := wClear_ok qX (by decide)
 rw [q8] at a8
 have a9 := wRight_ok qX qsX
 rw [q9] at a9
 have a10 := wAllowed_ok qCap (by decide) (by decide) (fun s hs => by rw [List.mem_singleton.1 hs]; decide)
 rw [q10] at a10
 refine FnOK.startC (rvs := [.tmp 0]) G G_good Tryz.func15 rfl Tryz.ntmps15 rfl rfl ?_; with_reducible refine wD ?_
 refine CallK.val [131, 151] a1 c28 ⟨?_, rfl, trivial⟩ rfl rfl rfl ?_
 ·refine ⟨5, _, _, [oClass qC], rfl, rfl, rfl, by decide, rfl, RowsM.of ⟨?_, trivial⟩⟩
  exact ⟨rfl, ⟨1, _, _, [oStr qA1], rfl, rfl, rfl, by decide, rfl, RowsM.of ⟨rfl, trivial⟩⟩, .inr (.inr ⟨_, rfl⟩), .inr (.inr ⟨_, rfl⟩), .inr (.inr ⟨_, rfl⟩), trivial⟩
 with_reducible refine wK ?_
 repeat' (first
  | refine gK ?_ | refine aE ?_ ?_
  | ((first
   | ((with_reducible refine kQ 67 ?_); refine CallK.val [] a2 c67 ⟨⟨rfl, rfl, trivial⟩, ⟨rfl, rfl, rfl, rfl, .inr (.inr ⟨_, rfl⟩), rfl, .inr (.inr ⟨_, rfl⟩), rfl, rfl, rfl, trivial⟩, trivial⟩ rfl rfl rfl ?_)
   | ((with_reducible refine kQ 33 ?_); refine CallK.val [] a3 c33 ⟨
   ⟨rfl, rfl, rfl, rfl, rfl, rfl, rfl, rfl, rfl, rfl, rfl, rfl, rfl, rfl, trivial⟩
   , ⟨rfl, rfl, trivial⟩, .inr (.inr ⟨_, rfl⟩), trivial⟩ rfl rfl rfl ?_)
   | ((with_reducible refine kQ 31 ?_); first
   | refine CallK.val [381] a4 c31 ⟨
    ⟨rfl, rfl, rfl, rfl, rfl, rfl, rfl, rfl, rfl, rfl, rfl, rfl, rfl, rfl, trivial⟩
    , frz_duesN (l := [⟨1, qT⟩]) rfl rfl rfl rfl, trivial⟩ rfl rfl rfl ?_
   | refine CallK.val [461] a5 c31 ⟨
    ⟨rfl, rfl, rfl, rfl, rfl, rfl, rfl, rfl, rfl, rfl, rfl, rfl, rfl, rfl, trivial⟩
    , frz_duesN (l := [⟨2, qT⟩]) rfl rfl rfl rfl, trivial⟩ rfl rfl rfl ?_)) <;> with_reducible refine wK ?_)
  | apply trivial)
 dsimp only [List.append]; with_reducible refine wK ?_
 repeat' (first
  | refine gK ?_ | refine aE ?_ ?_
  | ((first
   | ((with_reducible show IdxK _ _ _ _ _); refine IdxK.mk 1 (eState qS1) rfl rfl ?_)
   | ((with_reducible refine kQ 20 ?_); first
   | refine CallK.lit [] a6 c20 ⟨
    ⟨rfl, rfl, rfl, rfl, rfl, rfl, rfl, rfl, rfl, rfl, rfl, rfl, rfl, rfl, trivial⟩
    , trivial⟩ rfl rfl ?_
   | refine CallK.lit [] a7 c20 ⟨
    ⟨rfl, rfl, rfl, rfl, rfl, rfl, rfl, rfl, rfl, rfl, rfl, rfl, rfl, rfl, trivial⟩
    , trivial⟩ rfl rfl ?_)
   | ((with_reducible refine kQ 24 ?_); refine CallK.val [] a8 c24 ⟨
    ⟨rfl, rfl, rfl, rfl, rfl, rfl, rfl, rfl, rfl, rfl, rfl, rfl, rfl, rfl, trivial⟩
    , trivial⟩ rfl rfl rfl ?_)
   | ((with_reducible refine kQ 19 ?_); refine CallK.lit [] a9 c19 ⟨
    ⟨rfl, rfl, rfl, rfl, rfl, rfl, rfl, rfl, rfl, rfl, rfl, rfl, rfl, rfl, trivial⟩
    , trivial⟩ rfl rfl ?_)
   | ((with_reducible refine kQ 26 ?_); refine CallK.lit [1071] a10 c26 ⟨⟨rfl, ⟨1, _, _, [oStr ⟨#[65]⟩], rfl, rfl, rfl, by decide, rfl, RowsM.of ⟨rfl, trivial⟩⟩, .inr (.inr ⟨_, rfl⟩), .inr (.inr ⟨_, rfl⟩), .inr (.inr ⟨_, rfl⟩), trivial⟩, trivial⟩ rfl rfl ?_)) <;> with_reducible refine wK ?_)
  | apply trivial)
 all_goals rfl
theorem clear_small {w : WorldM} (hs : SmallW w) : SmallW (clearW w) := ⟨hs.f, hs.st, ⟨hs.d.defs, hs.d.waits⟩, ⟨by show (List.replicate _ _).length ≤ _; rw [List.length_replicate]; exact hs.l.todos, fun t ht => by
 have ht : t ∈ List.replicate w.line.todos.length [] := ht
 rw [(List.mem_replicate.1 ht).2]; exact Nat.zero_le _, Nat.zero_le _, (fun t ht => by cases ht), Nat.zero_le _⟩, Nat.zero_le _, Nat.zero_le _, hs.cl, hs.cs, hs.nm⟩
theorem tellG_small {w : WorldM} (hs : SmallW w) {B : Nat} (hl : SmL B w.line) (hB : B ≤ 70000) (hta : w.tasks.length ≤ 70000) {f : ForM} (hf : SmallN f.nodes) {ns : List NoteM} (hn : ns.length ≤ 1000) (R : RightG w) (e2 : rightF f = true) (e3 : followsW w f = true) : SmallW (tellG w f ns) ∧ SmL (B + 1300) (tellG w f ns).line ∧ (tellG w f ns).tasks.length ≤ w.tasks.length + 1 := by
 have TF := tellF R e2 e3 ns
 have hfl := hf.len
 have hX := small_now hs (hl.mono (by omega)) hf R
 have hXl : SmL (B + 64) (nowW w f).line := (grow_line_sm f hl).mono (by omega)
 have hY0 : SmallW (enlW (nowW w f) (dueL f (nowW w f).states w.desk w.classes ns)) := small_enl hX hXl (by show w.tasks.length ≤ _; omega) _ (by have := TF.l1; omega)
 have hYl := enl_sm (dueL f (nowW w f).states w.desk w.classes ns) (nowW w f) _ hXl
 have hY : SmallW { enlW (nowW w f) (dueL f (nowW w f).states w.desk w.classes ns) with states := toldSt f (nowW w f).states w.desk w.classes } := ⟨hY0.f, by show (toldSt f (nowW w f).states w.desk w.classes).length ≤ _; rw [told_len]; exact hX.st, hY0.d, hY0.l, hY0.ta, hY0.bu, hY0.cl, hY0.cs, hY0.nm⟩
 have ht := enl_tlen2 (nowW w f) (dueL f (nowW w f).states w.desk w.classes ns)
 have h1 := TF.l1
 have h2 := TF.l2
 obtain ⟨r, q1, q2⟩ := tell_tasks w f ns
 have q0 : (nowW w f).tasks.length = w.tasks.length := rfl
 have q3 : { enlW (nowW w f) (dueL f (nowW w f).states w.desk w.classes ns) with states := toldSt f (nowW w f).states w.desk w.classes : WorldM }.tasks.length = (enlW (nowW w f) (dueL f (nowW w f).states w.desk w.classes ns)).tasks.length := rfl
 refine ⟨small_enl hY (B := B + 64 + (dueL f (nowW w f).states w.desk w.classes ns).length) hYl (by rw [q3]; omega) (toldDu f (nowW w f).states w.desk w.classes) (by omega), ?_, by rw [q1, List.length_append]; omega⟩
 exact (enl_sm (toldDu f (nowW w f).states w.desk w.classes) { enlW (nowW w f) (dueL f (nowW w f).states w.desk w.classes ns) with states := toldSt f (nowW w f).states w.desk w.classes } _ hYl).mono (by omega)
theorem f6_ok (w : WorldM) (f : ForM) (ns : List NoteM) : FnOK Tryz.prog 6 [] [eWorld w, eFor f, eNotes ns] [] (eBool true) := by
 have h15 := wAwake_ok
 have h16 := rShort_ok w
 have h17 := f17_ok f
 have hnm : (ns.map oNote).length = ns.length := List.length_map ..
 cases e1 : shortG w with
 | false =>
   rw [e1] at h16
   obtain ⟨⟨l, m⟩, st, ⟨d1, d2, d3, d4⟩, ⟨a, b, c, d⟩, ta, bu, cs⟩ := w
   obtain ⟨l', m'⟩ := f
   refine FnOK.startC (rvs := [.tmp 6]) G G_good Tryz.func6 rfl Tryz.ntmps6 rfl rfl ?_; with_reducible refine wD ?_
   repeat' (first
  | refine gK ?_ | refine aE ?_ ?_
  | ((first
   | ((with_reducible refine kQ 15 ?_); refine cL h15 c15 ?_)
   | ((with_reducible refine kQ 16 ?_); refine CallK.lit [] h16 c16 ⟨
    ⟨rfl, rfl, rfl, rfl, rfl, rfl, rfl, rfl, rfl, rfl, rfl, rfl, rfl, rfl, trivial⟩
    , trivial⟩ rfl rfl ?_)) <;> with_reducible refine wK ?_)
  | apply trivial)
 | true =>
 rw [e1] at h16
 have S := shortG_iff.1 e1
 cases e4 : shortF f with
 | false =>
   rw [e4] at h17
   clear S
   obtain ⟨⟨l, m⟩, st, ⟨d1, d2, d3, d4⟩, ⟨a, b, c, d⟩, ta, bu, cs⟩ := w
   obtain ⟨l', m'⟩ := f
   refine FnOK.startC (rvs := [.tmp 6]) G G_good Tryz.func6 rfl Tryz.ntmps6 rfl rfl ?_; with_reducible refine wD ?_
   repeat' (first
  | refine gK ?_ | refine aE ?_ ?_
  | ((first
   | ((with_reducible refine kQ 15 ?_); refine cL h15 c15 ?_)
   | ((with_reducible refine kQ 17 ?_); refine cL h17 c17 ?_)
   | ((with_reducible refine kQ 16 ?_); refine CallK.lit [] h16 c16 ⟨
    ⟨rfl, rfl, rfl, rfl, rfl, rfl, rfl, rfl, rfl, rfl, rfl, rfl, rfl, rfl, trivial⟩
    , trivial⟩ rfl rfl ?_)) <;> with_reducible refine wK ?_)
  | apply trivial)
 | true =>
 rw [e4] at h17
 have SF := shortF_small e4
 by_cases e2 : (80 : Int) < (ns.length : Int)
 ·--
  clear S SF
  obtain ⟨⟨l, m⟩, st, ⟨d1, d2, d3, d4⟩, ⟨a, b, c, d⟩, ta, bu, cs⟩ := w
  obtain ⟨l', m'⟩ := f
  refine FnOK.startC (rvs := [.tmp 6]) G G_good Tryz.func6 rfl Tryz.ntmps6 rfl rfl ?_; with_reducible refine wD ?_
  (have fct := And.intro hnm (e2); (repeat' (first
  | refine gF ?_ | refine aE ?_ ?_
  | ((first
   | ((with_reducible refine kQ 15 ?_); refine cL h15 c15 ?_)
   | ((with_reducible refine kQ 17 ?_); refine cL h17 c17 ?_)
   | ((with_reducible refine kQ 16 ?_); refine CallK.lit [] h16 c16 ⟨
    ⟨rfl, rfl, rfl, rfl, rfl, rfl, rfl, rfl, rfl, rfl, rfl, rfl, rfl, rfl, trivial⟩
    , trivial⟩ rfl rfl ?_)) <;> with_reducible refine wK ?_)
  | apply trivial)); all_goals clear fct)
 have h19 := wRight_ok w S.small
 cases e3 : rightG w with
 | false =>
   rw [e3] at h19
   clear S SF
   obtain ⟨⟨l, m⟩, st, ⟨d1, d2, d3, d4⟩, ⟨a, b, c, d⟩, ta, bu, cs⟩ := w
   obtain ⟨l', m'⟩ := f
   refine FnOK.startC (rvs := [.tmp 6]) G G_good Tryz.func6 rfl Tryz.ntmps6 rfl rfl ?_; with_reducible refine wD ?_
   (have fct := And.intro hnm ((eq_false e2)); (repeat' (first
  | refine gF ?_ | refine aE ?_ ?_
  | ((first
   | ((with_reducible refine kQ 15 ?_); refine cL h15 c15 ?_)
   | ((with_reducible refine kQ 17 ?_); refine cL h17 c17 ?_)
   | ((with_reducible refine kQ 16 ?_); refine CallK.lit [] h16 c16 ⟨
    ⟨rfl, rfl, rfl, rfl, rfl, rfl, rfl, rfl, rfl, rfl, rfl, rfl, rfl, rfl, trivial⟩
    , trivial⟩ rfl rfl ?_)
   | ((with_reducible refine kQ 19 ?_); refine CallK.lit [] h19 c19 ⟨
    ⟨rfl, rfl, rfl, rfl, rfl, rfl, rfl, rfl, rfl, rfl, rfl, rfl, rfl, rfl, trivial⟩
    , trivial⟩ rfl rfl ?_)) <;> with_reducible refine wK ?_)
  | apply trivial)); all_goals clear fct)
 | true =>
 rw [e3] at h19
 have R := rightG_iff.1 e3
 have hsm := S.small
 have b1 := wClear_ok w (by have := hsm.l.todos; omega)
 have b2 := wRight_ok (clearW w) (clear_small hsm)
 rw [rightG_iff.2 (clear_right R)] at b2
 have b3 := wRested_ok (clearW w) (by have := (clear_small hsm).l.todos; omega)
 rw [clear_rest] at b3
 have b4 := lnIdle_ok (clearW w).line (by have := (clear_small hsm).l.todos; omega)
 rw [clear_idle] at b4
 have b5 := for_same w.f hsm.f
 have b6 := f42_ok w.states w.states (by have := hsm.st; omega)
 rw [decide_eq_true rfl] at b6
 have b7 := wClear_ok (clearW w) (by have := (clear_small hsm).l.todos; omega)
 rw [clear_clear] at b7
 have b8 := world_same (clearW w) (clear_small hsm)
 have b9 := wTell_ok w hsm ((sml_of S.l).mono (by omega)) (by have := S.ta; omega) f SF ns (by omega)
 have hcw : clearW w = ⟨w.f, w.states, ⟨w.desk.defs, w.desk.waits, w.desk.next, false⟩, (clearW w).line, [], [], w.classes⟩ := rfl
 generalize hcl : (clearW w).line = cl at *
 rw [hcw] at b1 b2 b3 b7 b8
 clear hcw hcl
 obtain ⟨ca, cb, cc, cd⟩ := cl
 cases e5 : tellOK w f with
 | false =>
   rw [tellW_no e5] at b9
   clear S SF R hsm e1 e3 e5
   obtain ⟨⟨l, m⟩, st, ⟨d1, d2, d3, d4⟩, ⟨a, b, c, d⟩, ta, bu, cs⟩ := w
   obtain ⟨l', m'⟩ := f
   simp only at b1 b2 b3 b4 b5 b6 b7 b8 b9
   have hd1 : decide (((d1.map oDef).length : Int) = ((d1.map oDef).length : Int)) = true := by simp
   refine FnOK.startC (rvs := [.tmp 6]) G G_good Tryz.func6 rfl Tryz.ntmps6 rfl rfl ?_; with_reducible refine wD ?_
   (have fct := And.intro hnm ((eq_false e2)); (repeat' (first
  | refine gF ?_ | refine aE ?_ ?_
  | ((first
   | ((with_reducible refine kQ 15 ?_); refine cL h15 c15 ?_)
   | ((with_reducible refine kQ 17 ?_); refine cL h17 c17 ?_)
   | ((with_reducible refine kQ 16 ?_); refine CallK.lit [] h16 c16 ⟨
    ⟨rfl, rfl, rfl, rfl, rfl, rfl, rfl, rfl, rfl, rfl, rfl, rfl, rfl, rfl, trivial⟩
    , trivial⟩ rfl rfl ?_)
   | ((with_reducible refine kQ 19 ?_); first
    | refine CallK.lit [] h19 c19 ⟨
     ⟨rfl, rfl, rfl, rfl, rfl, rfl, rfl, rfl, rfl, rfl, rfl, rfl, rfl, rfl, trivial⟩
     , trivial⟩ rfl rfl ?_
    | refine CallK.lit [] b2 c19 ⟨
     ⟨rfl, rfl, rfl, rfl, rfl, rfl, rfl, rfl, rfl, rfl, rfl, rfl, rfl, rfl, trivial⟩
     , trivial⟩ rfl rfl ?_)
   | ((with_reducible refine kQ 24 ?_); first
    | refine CallK.val [] b1 c24 ⟨
     ⟨rfl, rfl, rfl, rfl, rfl, rfl, rfl, rfl, rfl, rfl, rfl, rfl, rfl, rfl, trivial⟩
     , trivial⟩ rfl rfl rfl ?_
    | refine CallK.val [] b7 c24 ⟨
     ⟨rfl, rfl, rfl, rfl, rfl, rfl, rfl, rfl, rfl, rfl, rfl, rfl, rfl, rfl, trivial⟩
     , trivial⟩ rfl rfl rfl ?_)
   | ((with_reducible refine kQ 20 ?_); refine CallK.lit [] b3 c20 ⟨
     ⟨rfl, rfl, rfl, rfl, rfl, rfl, rfl, rfl, rfl, rfl, rfl, rfl, rfl, rfl, trivial⟩
     , trivial⟩ rfl rfl ?_)
   | ((with_reducible refine kQ 45 ?_); refine cL b4 c45 ?_)
   | ((with_reducible refine kQ 37 ?_); refine cL b5 c37 ?_)
   | ((with_reducible refine kQ 42 ?_); refine cL b6 c42 ?_)
   | ((with_reducible refine kQ 23 ?_); refine CallK.lit [] b8 c23 ⟨
     ⟨rfl, rfl, rfl, rfl, rfl, rfl, rfl, rfl, rfl, rfl, rfl, rfl, rfl, rfl, trivial⟩
     ,
     ⟨rfl, rfl, rfl, rfl, rfl, rfl, rfl, rfl, rfl, rfl, rfl, rfl, rfl, rfl, trivial⟩
     , trivial⟩ rfl rfl ?_)
   | ((with_reducible refine kQ 33 ?_); refine CallK.val [] b9 c33 ⟨
    ⟨rfl, rfl, rfl, rfl, rfl, rfl, rfl, rfl, rfl, rfl, rfl, rfl, rfl, rfl, trivial⟩
    , ⟨rfl, rfl, trivial⟩, rfl, trivial⟩ rfl rfl rfl ?_)) <;> with_reducible refine wK ?_)
  | apply trivial)); all_goals clear fct)
   all_goals first | rfl
 | true =>
   obtain ⟨_, r2, r3⟩ := tellOK_iff.1 e5
   have T := tellG_small hsm (sml_of S.l) (by omega) (by have := S.ta; omega) SF (ns := ns) (by omega) R r2 r3
   have c1 := wTell_ok (tellG w f ns) T.1 (T.2.1.mono (by omega)) (by have := T.2.2; have := S.ta; omega) f SF [] (by decide)
   rw [tellW_yes (tellOK_again R r2 r3 ns), tell_again R r2 r3 ns] at c1
   have c2 := world_same (tellG w f ns) T.1
   rw [tellW_yes e5] at b9
   clear T S SF R hsm e1 e3 e5 r2 r3
   generalize tellG w f ns = v at *
   obtain ⟨⟨vl, vm⟩, vst, ⟨vd1, vd2, vd3, vd4⟩, ⟨va, vb, vc, vd⟩, vta, vbu, vcs⟩ := v
   obtain ⟨⟨l, m⟩, st, ⟨d1, d2, d3, d4⟩, ⟨a, b, c, d⟩, ta, bu, cs⟩ := w
   obtain ⟨l', m'⟩ := f
   simp only at b1 b2 b3 b4 b5 b6 b7 b8 b9 c1 c2
   refine FnOK.startC (rvs := [.tmp 6]) G G_good Tryz.func6 rfl Tryz.ntmps6 rfl rfl ?_; with_reducible refine wD ?_
   (have fct := And.intro hnm ((eq_false e2)); (repeat' (first
  | refine gF ?_ | refine aE ?_ ?_
  | ((first
   | ((with_reducible refine kQ 15 ?_); refine cL h15 c15 ?_)
   | ((with_reducible refine kQ 17 ?_); refine cL h17 c17 ?_)
   | ((with_reducible refine kQ 16 ?_); refine CallK.lit [] h16 c16 ⟨
    ⟨rfl, rfl, rfl, rfl, rfl, rfl, rfl, rfl, rfl, rfl, rfl, rfl, rfl, rfl, trivial⟩
    , trivial⟩ rfl rfl ?_)
   | ((with_reducible refine kQ 19 ?_); first
    | refine CallK.lit [] h19 c19 ⟨
     ⟨rfl, rfl, rfl, rfl, rfl, rfl, rfl, rfl, rfl, rfl, rfl, rfl, rfl, rfl, trivial⟩
     , trivial⟩ rfl rfl ?_
    | refine CallK.lit [] b2 c19 ⟨
     ⟨rfl, rfl, rfl, rfl, rfl, rfl, rfl, rfl, rfl, rfl, rfl, rfl, rfl, rfl, trivial⟩
     , trivial⟩ rfl rfl ?_)
   | ((with_reducible refine kQ 24 ?_); first
    | refine CallK.val [] b1 c24 ⟨
     ⟨rfl, rfl, rfl, rfl, rfl, rfl, rfl, rfl, rfl, rfl, rfl, rfl, rfl, rfl, trivial⟩
     , trivial⟩ rfl rfl rfl ?_
    | refine CallK.val [] b7 c24 ⟨
     ⟨rfl, rfl, rfl, rfl, rfl, rfl, rfl, rfl, rfl, rfl, rfl, rfl, rfl, rfl, trivial⟩
     , trivial⟩ rfl rfl rfl ?_)
   | ((with_reducible refine kQ 20 ?_); refine CallK.lit [] b3 c20 ⟨
     ⟨rfl, rfl, rfl, rfl, rfl, rfl, rfl, rfl, rfl, rfl, rfl, rfl, rfl, rfl, trivial⟩
     , trivial⟩ rfl rfl ?_)
   | ((with_reducible refine kQ 45 ?_); refine cL b4 c45 ?_)
   | ((with_reducible refine kQ 37 ?_); refine cL b5 c37 ?_)
   | ((with_reducible refine kQ 42 ?_); refine cL b6 c42 ?_)
   | ((with_reducible refine kQ 23 ?_); refine CallK.lit [] b8 c23 ⟨
     ⟨rfl, rfl, rfl, rfl, rfl, rfl, rfl, rfl, rfl, rfl, rfl, rfl, rfl, rfl, trivial⟩
     ,
     ⟨rfl, rfl, rfl, rfl, rfl, rfl, rfl, rfl, rfl, rfl, rfl, rfl, rfl, rfl, trivial⟩
     , trivial⟩ rfl rfl ?_)
   | ((with_reducible refine kQ 33 ?_); refine CallK.val [] b9 c33 ⟨
    ⟨rfl, rfl, rfl, rfl, rfl, rfl, rfl, rfl, rfl, rfl, rfl, rfl, rfl, rfl, trivial⟩
    , ⟨rfl, rfl, trivial⟩, rfl, trivial⟩ rfl rfl rfl ?_)
   | ((with_reducible refine kQ 33 ?_); refine CallK.val [] c1 c33 ⟨
    ⟨rfl, rfl, rfl, rfl, rfl, rfl, rfl, rfl, rfl, rfl, rfl, rfl, rfl, rfl, trivial⟩
    , ⟨rfl, rfl, trivial⟩, .inr (.inr ⟨_, rfl⟩), trivial⟩ rfl rfl rfl ?_)
   | ((with_reducible refine kQ 23 ?_); refine CallK.lit [] c2 c23 ⟨
    ⟨rfl, rfl, rfl, rfl, rfl, rfl, rfl, rfl, rfl, rfl, rfl, rfl, rfl, rfl, trivial⟩
    ,
    ⟨rfl, rfl, rfl, rfl, rfl, rfl, rfl, rfl, rfl, rfl, rfl, rfl, rfl, rfl, trivial⟩
    , trivial⟩ rfl rfl ?_)) <;> with_reducible refine wK ?_)
  | apply trivial)); all_goals clear fct)
   all_goals first | rfl
theorem wLonger_ok (t r : List TodoM) (h : (t ++ r).length ≤ 99000) : FnOK Tryz.prog 40 [] [eTodos (t ++ r), eTodos t] [] (eBool true) := by
 have hs := todos_same t (by rw [List.length_append] at h; omega)
 have n1 : ((t ++ r).map oTodo).length = (t ++ r).length := List.length_map ..
 have n2 : (t.map oTodo).length = t.length := List.length_map ..
 have n3 : (t ++ r).length = t.length + r.length := List.length_append
 have cut : t.map oTodo = (((t ++ r).map oTodo).drop 0).take t.length := by rw [List.drop_zero, ← List.map_take, List.take_left' rfl]
 have hge : (t.length : Int) ≤ ((t ++ r).length : Int) := by omega
 generalize t ++ r = q at *
 refine FnOK.startC (rvs := [.tmp 4]) G G_good Tryz.func40 rfl Tryz.ntmps40 rfl rfl ?_; with_reducible refine wD ?_
 (have fct := And.intro n1 (And.intro n2 ((eq_true hge))); (repeat' (first
  | refine gF ?_ | refine aE ?_ ?_
  | ((first
   | ((with_reducible show CutFK _ _ _ _ _ _); refine CutFK.mk 0 t.length (t.map oTodo) rfl (by (try simp only [castN]); omega) (by omega) cut ?_)
   | ((with_reducible refine kQ 43 ?_); refine cL hs c43 ?_)) <;> with_reducible refine wK ?_)
  | apply trivial)); all_goals clear fct)
 all_goals first | rfl | (simp; done) | (rw [decide_eq_true (by omega)]; done)
theorem f4_ok (w : WorldM) (f : ForM) (ns : List NoteM) : FnOK Tryz.prog 4 [] [eWorld w, eFor f, eNotes ns] [] (eBool true) := by
 have h15 := wAwake_ok
 have h16 := rShort_ok w
 have h17 := f17_ok f
 have hnm : (ns.map oNote).length = ns.length := List.length_map ..
 cases e1 : shortG w with
 | false =>
   rw [e1] at h16
   obtain ⟨⟨l, m⟩, st, ⟨d1, d2, d3, d4⟩, ⟨a, b, c, d⟩, ta, bu, cs⟩ := w
   obtain ⟨l', m'⟩ := f
   refine FnOK.startC (rvs := [.tmp 6]) G G_good Tryz.func4 rfl Tryz.ntmps4 rfl rfl ?_; with_reducible refine wD ?_
   repeat' (first
  | refine gK ?_ | refine aE ?_ ?_
  | ((first
   | ((with_reducible refine kQ 15 ?_); refine cL h15 c15 ?_)
   | ((with_reducible refine kQ 16 ?_); refine CallK.lit [] h16 c16 ⟨
    ⟨rfl, rfl, rfl, rfl, rfl, rfl, rfl, rfl, rfl, rfl, rfl, rfl, rfl, rfl, trivial⟩
    , trivial⟩ rfl rfl ?_)) <;> with_reducible refine wK ?_)
  | apply trivial)
 | true =>
 rw [e1] at h16
 have S := shortG_iff.1 e1
 cases e4 : shortF f with
 | false =>
   rw [e4] at h17
   clear S
   obtain ⟨⟨l, m⟩, st, ⟨d1, d2, d3, d4⟩, ⟨a, b, c, d⟩, ta, bu, cs⟩ := w
   obtain ⟨l', m'⟩ := f
   refine FnOK.startC (rvs := [.tmp 6]) G G_good Tryz.func4 rfl Tryz.ntmps4 rfl rfl ?_; with_reducible refine wD ?_
   repeat' (first
  | refine gK ?_ | refine aE ?_ ?_
  | ((first
   | ((with_reducible refine kQ 15 ?_); refine cL h15 c15 ?_)
   | ((with_reducible refine kQ 17 ?_); refine cL h17 c17 ?_)
   | ((with_reducible refine kQ 16 ?_); refine CallK.lit [] h16 c16 ⟨
    ⟨rfl, rfl, rfl, rfl, rfl, rfl, rfl, rfl, rfl, rfl, rfl, rfl, rfl, rfl, trivial⟩
    , trivial⟩ rfl rfl ?_)) <;> with_reducible refine wK ?_)
  | apply trivial)
 | true =>
 rw [e4] at h17
 have SF := shortF_small e4
 by_cases e2 : (80 : Int) < (ns.length : Int)
 ·--
  clear S SF
  obtain ⟨⟨l, m⟩, st, ⟨d1, d2, d3, d4⟩, ⟨a, b, c, d⟩, ta, bu, cs⟩ := w
  obtain ⟨l', m'⟩ := f
  refine FnOK.startC (rvs := [.tmp 6]) G G_good Tryz.func4 rfl Tryz.ntmps4 rfl rfl ?_; with_reducible refine wD ?_
  (have fct := And.intro hnm (e2); (repeat' (first
  | refine gF ?_ | refine aE ?_ ?_
  | ((first
   | ((with_reducible refine kQ 15 ?_); refine cL h15 c15 ?_)
   | ((with_reducible refine kQ 17 ?_); refine cL h17 c17 ?_)
   | ((with_reducible refine kQ 16 ?_); refine CallK.lit [] h16 c16 ⟨
    ⟨rfl, rfl, rfl, rfl, rfl, rfl, rfl, rfl, rfl, rfl, rfl, rfl, rfl, rfl, trivial⟩
    , trivial⟩ rfl rfl ?_)) <;> with_reducible refine wK ?_)
  | apply trivial)); all_goals clear fct)
 have h19 := wRight_ok w S.small
 cases e3 : rightG w with
 | false =>
   rw [e3] at h19
   clear S SF
   obtain ⟨⟨l, m⟩, st, ⟨d1, d2, d3, d4⟩, ⟨a, b, c, d⟩, ta, bu, cs⟩ := w
   obtain ⟨l', m'⟩ := f
   refine FnOK.startC (rvs := [.tmp 6]) G G_good Tryz.func4 rfl Tryz.ntmps4 rfl rfl ?_; with_reducible refine wD ?_
   (have fct := And.intro hnm ((eq_false e2)); (repeat' (first
  | refine gF ?_ | refine aE ?_ ?_
  | ((first
   | ((with_reducible refine kQ 15 ?_); refine cL h15 c15 ?_)
   | ((with_reducible refine kQ 17 ?_); refine cL h17 c17 ?_)
   | ((with_reducible refine kQ 16 ?_); refine CallK.lit [] h16 c16 ⟨
    ⟨rfl, rfl, rfl, rfl, rfl, rfl, rfl, rfl, rfl, rfl, rfl, rfl, rfl, rfl, trivial⟩
    , trivial⟩ rfl rfl ?_)
   | ((with_reducible refine kQ 19 ?_); refine CallK.lit [] h19 c19 ⟨
    ⟨rfl, rfl, rfl, rfl, rfl, rfl, rfl, rfl, rfl, rfl, rfl, rfl, rfl, rfl, trivial⟩
    , trivial⟩ rfl rfl ?_)) <;> with_reducible refine wK ?_)
  | apply trivial)); all_goals clear fct)
 | true =>
 rw [e3] at h19
 have R := rightG_iff.1 e3
 have hsm := S.small
 have b9 := wTell_ok w hsm ((sml_of S.l).mono (by omega)) (by have := S.ta; omega) f SF ns (by omega)
 cases e5 : tellOK w f with
 | false =>
   rw [tellW_no e5] at b9
   have b8 := world_same w hsm
   have b2 := h19
   clear S SF R hsm e1 e3 e5
   obtain ⟨⟨l, m⟩, st, ⟨d1, d2, d3, d4⟩, ⟨a, b, c, d⟩, ta, bu, cs⟩ := w
   obtain ⟨l', m'⟩ := f
   simp only at b8 b9
   refine FnOK.startC (rvs := [.tmp 6]) G G_good Tryz.func4 rfl Tryz.ntmps4 rfl rfl ?_; with_reducible refine wD ?_
   (have fct := And.intro hnm ((eq_false e2)); (repeat' (first
  | refine gF ?_ | refine aE ?_ ?_
  | ((first
   | ((with_reducible refine kQ 15 ?_); refine cL h15 c15 ?_)
   | ((with_reducible refine kQ 17 ?_); refine cL h17 c17 ?_)
   | ((with_reducible refine kQ 16 ?_); refine CallK.lit [] h16 c16 ⟨
    ⟨rfl, rfl, rfl, rfl, rfl, rfl, rfl, rfl, rfl, rfl, rfl, rfl, rfl, rfl, trivial⟩
    , trivial⟩ rfl rfl ?_)
   | ((with_reducible refine kQ 19 ?_); first
    | refine CallK.lit [] h19 c19 ⟨
     ⟨rfl, rfl, rfl, rfl, rfl, rfl, rfl, rfl, rfl, rfl, rfl, rfl, rfl, rfl, trivial⟩
     , trivial⟩ rfl rfl ?_
    | refine CallK.lit [] b2 c19 ⟨
     ⟨rfl, rfl, rfl, rfl, rfl, rfl, rfl, rfl, rfl, rfl, rfl, rfl, rfl, rfl, trivial⟩
     , trivial⟩ rfl rfl ?_)
   | ((with_reducible refine kQ 33 ?_); refine CallK.val [] b9 c33 ⟨
    ⟨rfl, rfl, rfl, rfl, rfl, rfl, rfl, rfl, rfl, rfl, rfl, rfl, rfl, rfl, trivial⟩
    , ⟨rfl, rfl, trivial⟩, rfl, trivial⟩ rfl rfl rfl ?_)
   | ((with_reducible refine kQ 23 ?_); refine CallK.lit [] b8 c23 ⟨
     ⟨rfl, rfl, rfl, rfl, rfl, rfl, rfl, rfl, rfl, rfl, rfl, rfl, rfl, rfl, trivial⟩
     ,
     ⟨rfl, rfl, rfl, rfl, rfl, rfl, rfl, rfl, rfl, rfl, rfl, rfl, rfl, rfl, trivial⟩
     , trivial⟩ rfl rfl ?_)) <;> with_reducible refine wK ?_)
  | apply trivial)); all_goals clear fct)
   all_goals first | rfl
 | true =>
   obtain ⟨_, r2, r3⟩ := tellOK_iff.1 e5
   have T := tellG_small hsm (sml_of S.l) (by omega) (by have := S.ta; omega) SF (ns := ns) (by omega) R r2 r3
   rw [tellW_yes e5] at b9
   have b2 := wRight_ok (tellG w f ns) T.1
   have V := tell_right R r2 r3 ns
   rw [rightG_iff.2 V] at b2
   have b3 := for_same f SF
   have b4 := desk_same w.desk hsm.d
   have b5 := classes_same w.classes (by have := hsm.cl; omega) hsm.cs
   have hvl : (tellG w f ns).line.stack.length = w.line.stack.length := tell_slen w f ns
   obtain ⟨r, q1, q2⟩ := tell_tasks w f ns
   have hold := fun n s h => tell_old (n := n) (s := s) R r2 r3 ns h
   have hnew := fun n x h h2 => tell_new (n := n) (x := x) R r2 r3 ns h h2
   have htl : (tellG w f ns).line.todos.length = f.nodes.length := by have := V.tl; rwa [tell_f] at this
   have hsl : (tellG w f ns).states.length = f.nodes.length := by have := V.sl; rwa [tell_f] at this
   have htd : ∀ (n : Nat) y, w.line.todos[n]? = some y → ∃ r, (tellG w f ns).line.todos[n]? = some (y ++ r) ∧ (y ++ r).length ≤ 99000 := fun n y hy => by
    have hn := (List.getElem?_eq_some_iff.1 hy).1
    have hle := (follows_iff.1 r3).2.1
    have hn2 : n < w.f.nodes.length := by have := R.tl; omega
    obtain ⟨z, hz⟩ := tell_td R r2 r3 ns (n := (n : Int)) (by unfold thereN; simp; omega)
    have hg : (tellG w f ns).line.todos[n]? = some ((tellG w f ns).line.todos[n]'(by omega)) := List.getElem?_eq_getElem _
    rw [tdAt_get rfl hg, tdAt_get rfl hy] at hz
    rw [hz] at hg
    exact ⟨z, hg, Nat.le_trans (T.1.l.todo _ (List.mem_of_getElem? hg)) (by decide)⟩
   have hle := (follows_iff.1 r3).2.1
   have hws := R.sl
   have hwt := R.tl
   have hbr := fun s i => f41_ok s i
   have hv : tellG w f ns = ⟨f, (tellG w f ns).states, w.desk, (tellG w f ns).line, w.tasks ++ r, w.builds, w.classes⟩ := by
    have p1 := tell_f w f ns
    have p2 := tell_desk w f ns
    have p3 := tell_builds w f ns
    have p4 := tell_classes w f ns
    generalize tellG w f ns = v at *
    obtain ⟨v1, v2, v3, v4, v5, v6, v7⟩ := v
    simp only at p1 p2 p3 p4 q1
    subst p1; subst p2; subst p3; subst p4; subst q1; rfl
   rw [hv] at b9 b2
   have hta := S.ta
   have hfl := SF.len
   clear T V S SF R hsm e1 e3 e5 r2 r3 hv q1
   generalize (tellG w f ns).states = vst at *
   generalize (tellG w f ns).line = vl at *
   obtain ⟨va, vb, vc, vd⟩ := vl
   obtain ⟨⟨l, m⟩, st, ⟨d1, d2, d3, d4⟩, ⟨a, b, c, d⟩, ta, bu, cs⟩ := w
   obtain ⟨l', m'⟩ := f
   simp only at b2 b3 b4 b5 b9 hvl hold hnew htl hsl htd hle hws hwt hta hfl
   have n1 : (b.map oInts).length = b.length := List.length_map ..
   have n2 : (vb.map oInts).length = vb.length := List.length_map ..
   have n3 : (ta.map oTask).length = ta.length := List.length_map ..
   have n4 : ((ta ++ r).map oTask).length = ta.length + r.length := by simp
   have n5 : (st.map oState).length = st.length := List.length_map ..
   have n6 : (l'.map oNode).length = l'.length := List.length_map ..
   have g1 : ((vb.length : Int) = (b.length : Int)) := by omega
   have g2 : ¬ ((ta.length : Int) + (r.length : Int) < (ta.length : Int)) := by omega
   have g3 : ¬ ((ta.length : Int) + 1 < (ta.length : Int) + (r.length : Int)) := by omega
   have k1 : decide ((((ta ++ r).map oTask).length : Int) < ((ta.map oTask).length : Int)) = false := decide_eq_false (by omega)
   have k2 : decide (((ta.map oTask).length : Int) + 1 < (((ta ++ r).map oTask).length : Int)) = false := decide_eq_false (by omega)
   have k3 : (!decide (((vb.map oInts).length : Int) = ((b.map oInts).length : Int))) = false := by rw [decide_eq_true (by omega)]; rfl
   refine FnOK.startC (rvs := [.tmp 6]) G G_good Tryz.func4 rfl Tryz.ntmps4 rfl rfl ?_; with_reducible refine wD ?_
   (have fct := And.intro hnm ((eq_false e2)); (repeat' (first
  | refine gF ?_ | refine aE ?_ ?_
  | ((first
   | ((with_reducible refine kQ 15 ?_); refine cL h15 c15 ?_)
   | ((with_reducible refine kQ 17 ?_); refine cL h17 c17 ?_)
   | ((with_reducible refine kQ 16 ?_); refine CallK.lit [] h16 c16 ⟨
    ⟨rfl, rfl, rfl, rfl, rfl, rfl, rfl, rfl, rfl, rfl, rfl, rfl, rfl, rfl, trivial⟩
    , trivial⟩ rfl rfl ?_)
   | ((with_reducible refine kQ 19 ?_); first
    | refine CallK.lit [] h19 c19 ⟨
     ⟨rfl, rfl, rfl, rfl, rfl, rfl, rfl, rfl, rfl, rfl, rfl, rfl, rfl, rfl, trivial⟩
     , trivial⟩ rfl rfl ?_
    | refine CallK.lit [] b2 c19 ⟨
     ⟨rfl, rfl, rfl, rfl, rfl, rfl, rfl, rfl, rfl, rfl, rfl, rfl, rfl, rfl, trivial⟩
     , trivial⟩ rfl rfl ?_)
   | ((with_reducible refine kQ 33 ?_); refine CallK.val [] b9 c33 ⟨
    ⟨rfl, rfl, rfl, rfl, rfl, rfl, rfl, rfl, rfl, rfl, rfl, rfl, rfl, rfl, trivial⟩
    , ⟨rfl, rfl, trivial⟩, rfl, trivial⟩ rfl rfl rfl ?_)) <;> with_reducible refine wK ?_)
  | apply trivial)); all_goals clear fct)
   dsimp only [List.append]; with_reducible refine wK ?_
   repeat' (first
  | refine gK ?_ | refine aE ?_ ?_
  | ((first
   | ((with_reducible refine kQ 19 ?_); refine CallK.lit [] b2 c19 ⟨
   ⟨rfl, rfl, rfl, rfl, rfl, rfl, rfl, rfl, rfl, rfl, rfl, rfl, rfl, rfl, trivial⟩
   , trivial⟩ rfl rfl ?_)
   | ((with_reducible refine kQ 37 ?_); refine cL b3 c37 ?_)
   | ((with_reducible refine kQ 38 ?_); refine cL b4 c38 ?_)
   | ((with_reducible refine kQ 39 ?_); refine cL b5 c39 ?_)) <;> with_reducible refine wK ?_)
  | apply trivial)
   clear b2 b3 b4 b5 b9 h15 h16 h17 h19 k1 k2 k3
   refine LoopK.use G G_good (fun (k : Nat) => [(3, .ptr 30 0 0), (4, .ptr 40 0 0), (7, .ptr 70 0 0), (9, eInt k)]) (fun _ => [(30, mW ⟨⟨l, m⟩, st, ⟨d1, d2, d3, d4⟩, ⟨a, b, c, d⟩, ta, bu, cs⟩), (40, .live 2 [eFor ⟨l', m'⟩] false), (70, mW ⟨⟨l', m'⟩, vst, ⟨d1, d2, d3, d4⟩, ⟨va, vb, vc, vd⟩, ta ++ r, bu, cs⟩)])
    (fun k => k ≤ ta.length) (fun k => ta.length - k) 0 (Nat.zero_le _)
    (
   ⟨⟨rfl, rfl⟩, ⟨⟨rfl, rfl⟩, ⟨rfl, rfl⟩, ⟨rfl, rfl⟩, rfl, trivial⟩, ⟨⟨rfl, rfl, rfl, rfl, rfl, rfl, rfl, rfl, rfl, rfl, rfl, rfl, rfl, rfl, trivial⟩, trivial⟩, ⟨⟨rfl, rfl, trivial⟩, trivial⟩, ⟨⟨rfl, rfl, rfl, rfl, rfl, rfl, rfl, rfl, rfl, rfl, rfl, rfl, rfl, rfl, trivial⟩, trivial⟩, trivial⟩
   ) ?_
   intro k hk
   with_reducible refine wK ?_
   refine IfK.mk (fun h1 => ?_) (fun h1 => ?_) <;> (try simp only [castN] at h1) <;> with_reducible refine wK ?_
   ·have hk' : k < ta.length := by simp only [decide_eq_true_eq] at h1; omega
    obtain ⟨⟨x1, x2, x3⟩, hx⟩ : ∃ x, ta[k]? = some x := ⟨_, List.getElem?_eq_getElem hk'⟩
    have hx2 : (ta ++ r)[k]? = some ⟨x1, x2, x3⟩ := by rw [List.getElem?_append_left hk']; exact hx
    clear h1
    repeat' (first
  | refine gK ?_ | refine aE ?_ ?_
  | ((first
   | ((with_reducible show IdxK _ _ _ _ _); first | refine IdxK.mk k (eTask ⟨x1, x2, x3⟩) rfl (task_get hx) ?_ | refine IdxK.mk k (eTask ⟨x1, x2, x3⟩) rfl (task_get hx2) ?_)
   | ((with_reducible show EqK _ _ _ _ _ _ _ _); refine EqK.mk _ (fun y z w => task_self ⟨x1, x2, x3⟩ y z w) ?_)
   | ((with_reducible show DrawK _ _ _ _); refine dK ?_)) <;> with_reducible refine wK ?_)
  | apply trivial)
    refine NextK.mk (k + 1) (by omega) (by omega) (
    ⟨⟨rfl, rfl⟩, ⟨⟨rfl, rfl⟩, ⟨rfl, rfl⟩, ⟨rfl, rfl⟩, (by show ((k + 1 : Nat) : Int) = (k : Int) + 1; omega), trivial⟩, ⟨⟨rfl, rfl, rfl, rfl, rfl, rfl, rfl, rfl, rfl, rfl, rfl, rfl, rfl, rfl, trivial⟩, trivial⟩, ⟨⟨rfl, rfl, trivial⟩, trivial⟩, ⟨⟨rfl, rfl, rfl, rfl, rfl, rfl, rfl, rfl, rfl, rfl, rfl, rfl, rfl, rfl, trivial⟩, trivial⟩, trivial⟩
    )
   clear h1
   repeat' (first
  | refine gK ?_ | refine aE ?_ ?_
  | apply trivial)
   refine LoopK.use G G_good (fun (k : Nat) => [(3, .ptr 30 0 0), (4, .ptr 40 0 0), (7, .ptr 70 0 0), (10, eInt k)]) (fun _ => [(30, mW ⟨⟨l, m⟩, st, ⟨d1, d2, d3, d4⟩, ⟨a, b, c, d⟩, ta, bu, cs⟩), (40, .live 2 [eFor ⟨l', m'⟩] false), (70, mW ⟨⟨l', m'⟩, vst, ⟨d1, d2, d3, d4⟩, ⟨va, vb, vc, vd⟩, ta ++ r, bu, cs⟩)])
    (fun k => k ≤ l'.length) (fun k => l'.length - k) 0 (Nat.zero_le _)
    (
   ⟨⟨rfl, rfl⟩, ⟨⟨rfl, rfl⟩, ⟨rfl, rfl⟩, ⟨rfl, rfl⟩, rfl, trivial⟩, ⟨⟨rfl, rfl, rfl, rfl, rfl, rfl, rfl, rfl, rfl, rfl, rfl, rfl, rfl, rfl, trivial⟩, trivial⟩, ⟨⟨rfl, rfl, trivial⟩, trivial⟩, ⟨⟨rfl, rfl, rfl, rfl, rfl, rfl, rfl, rfl, rfl, rfl, rfl, rfl, rfl, rfl, trivial⟩, trivial⟩, trivial⟩
   ) ?_
   intro k hk
   with_reducible refine wK ?_
   refine IfK.mk (fun h1 => ?_) (fun h1 => ?_) <;> (try simp only [castN] at h1) <;> with_reducible refine wK ?_
   ·have hk' : k < l'.length := by simp only [decide_eq_true_eq] at h1; omega
    clear h1
    by_cases e : (k : Int) < (st.length : Int)
    ·obtain ⟨⟨s1, s2, s3, s4⟩, hs⟩ : ∃ x, st[k]? = some x := ⟨_, List.getElem?_eq_getElem (by omega)⟩
     obtain ⟨y, hy⟩ : ∃ x, a[k]? = some x := ⟨_, List.getElem?_eq_getElem (by omega)⟩
     obtain ⟨⟨t1, t2, t3, t4⟩, ht, hp, hd⟩ := hold k _ hs
     obtain ⟨z, hz, hzl⟩ := htd k y hy
     have hlo := wLonger_ok y z hzl
     simp only at hp hd
     subst hp
     subst hd
     generalize y ++ z = yz at *
     clear hold hnew htd
     (have fct := And.intro n5 ((eq_true e)); (repeat' (first
  | refine gF ?_ | refine aE ?_ ?_
  | ((first
   | ((with_reducible show IdxK _ _ _ _ _); first | refine IdxK.mk k (eState ⟨t1, t2, t3, t4⟩) rfl (state_get ht) ?_ | refine IdxK.mk k (eState ⟨t1, t2, s3, s4⟩) rfl (state_get hs) ?_ | refine IdxK.mk k (eTodos yz) rfl (todos_get hz) ?_ | refine IdxK.mk k (eTodos y) rfl (todos_get hy) ?_)
   | ((with_reducible refine kQ 40 ?_); refine cL hlo c40 ?_)
   | ((with_reducible show DrawK _ _ _ _); refine dK ?_)) <;> with_reducible refine wK ?_)
  | apply trivial)); all_goals clear fct)
     refine NextK.mk (k + 1) (by omega) (by omega) ?_
     (refine fK ?_; (with_reducible repeat' (first | exact trivial | (show _ ∧ _; refine aK ?_ ?_))); (all_goals try rfl))
     all_goals first | (simp; done)
    ·obtain ⟨⟨y0, y1, y2, y3, y4, y5, y6, y7, y8, y9⟩, hy⟩ : ∃ x, l'[k]? = some x := ⟨_, List.getElem?_eq_getElem hk'⟩
     have hn := hnew k _ (by omega) hy
     have hbr := hbr y1 y2
     unfold bornS at hn
     simp only at hn
     clear hold hnew htd
     by_cases e8 : y0 = 1
     ·rw [if_pos e8] at hn
      (have fct := And.intro n5 (And.intro (eq_false e) (e8)); (repeat' (first
  | refine gF ?_ | refine aE ?_ ?_
  | ((first
   | ((with_reducible show IdxK _ _ _ _ _); first | refine IdxK.mk k (eState ⟨bornM y1 y2, -1, -1, false⟩) rfl (state_get hn) ?_ | refine IdxK.mk k (eNode ⟨y0, y1, y2, y3, y4, y5, y6, y7, y8, y9⟩) rfl (node_get hy) ?_)
   | ((with_reducible refine kQ 41 ?_); refine cL hbr c41 ?_)
   | ((with_reducible show EqK _ _ _ _ _ _ _ _); refine EqK.mk _ (fun y z w => state_neq ⟨bornM y1 y2, -1, -1, false⟩ ⟨bornM y1 y2, -1, -1, false⟩ y z w) ?_)
   | ((with_reducible show DrawK _ _ _ _); refine dK ?_)) <;> with_reducible refine wK ?_)
  | apply trivial)); all_goals clear fct)
      refine NextK.mk (k + 1) (by omega) (by omega) ?_
      (refine fK ?_; (with_reducible repeat' (first | exact trivial | (show _ ∧ _; refine aK ?_ ?_))); (all_goals try rfl))
      all_goals first | (simp; done)
     ·rw [if_neg e8] at hn
      (have fct := And.intro n5 (And.intro (eq_false e) ((eq_false e8))); (repeat' (first
  | refine gF ?_ | refine aE ?_ ?_
  | ((first
   | ((with_reducible show IdxK _ _ _ _ _); first | refine IdxK.mk k (eState ⟨0, -1, -1, false⟩) rfl (state_get hn) ?_ | refine IdxK.mk k (eNode ⟨y0, y1, y2, y3, y4, y5, y6, y7, y8, y9⟩) rfl (node_get hy) ?_)
   | ((with_reducible show EqK _ _ _ _ _ _ _ _); refine EqK.mk _ (fun y z w => state_neq ⟨0, -1, -1, false⟩ ⟨0, -1, -1, false⟩ y z w) ?_)
   | ((with_reducible show DrawK _ _ _ _); refine dK ?_)) <;> with_reducible refine wK ?_)
  | apply trivial)); all_goals clear fct)
      refine NextK.mk (k + 1) (by omega) (by omega) ?_
      (refine fK ?_; (with_reducible repeat' (first | exact trivial | (show _ ∧ _; refine aK ?_ ?_))); (all_goals try rfl))
      all_goals first | (simp; done)
   clear h1
   repeat' (first
  | refine gK ?_ | refine aE ?_ ?_
  | apply trivial)
theorem rStr : Reads Tryz.prog 9 1 eStr (fun s => s.size ≤ maxLen) := Reads.str Tryz.underlying9 (by kernel_rfl)
theorem rInt : Reads Tryz.prog 3 1 oInt (fun _ => True) := (Reads.int Tryz.underlying3 (by kernel_rfl)).conv id id (fun _ => rfl) (fun _ => rfl) (fun _ _ => trivial)
theorem rBool : Reads Tryz.prog 4 1 (fun b : Bool => .lit (.bool b)) (fun _ => True) := Reads.bool Tryz.underlying4 (by kernel_rfl)
theorem rDef : Reads Tryz.prog 95 3 oDef (fun _ => True) :=
 (Reads.struct (l := [(0, 9), (1, 9), (2, 3)]) Tryz.underlying95 (by kernel_rfl) rfl (.cons rStr (.cons rStr (.cons rInt .nil)))).conv
  (fun (a, b, c, _) => ⟨a, b, c⟩) (fun t => (t.name, t.locl, t.cls, ())) (fun _ => rfl) (fun _ => rfl) (fun _ _ => trivial)
theorem rWait : Reads Tryz.prog 162 2 oWait (fun _ => True) :=
 (Reads.struct (l := [(0, 9), (1, 3)]) Tryz.underlying162 (by kernel_rfl) rfl (.cons rStr (.cons rInt .nil))).conv
  (fun (a, b, _) => ⟨a, b⟩) (fun t => (t.name, t.ticket, ())) (fun _ => rfl) (fun _ => rfl) (fun _ _ => trivial)
theorem rDefs1 : Reads Tryz.prog 26 1 eDefs (fun _ => True) := (Reads.slice Tryz.underlying26 (by kernel_rfl) rDef (by omega)).conv id id (fun _ => rfl) (fun _ => rfl) (fun _ _ => trivial)
theorem rWaits1 : Reads Tryz.prog 27 1 eWaits (fun _ => True) := (Reads.slice Tryz.underlying27 (by kernel_rfl) rWait (by omega)).conv id id (fun _ => rfl) (fun _ => rfl) (fun _ _ => trivial)
theorem rDesk : Reads Tryz.prog 29 4 eDesk (fun _ => True) :=
 (Reads.struct (l := [(0, 26), (1, 27), (2, 3), (3, 4)]) Tryz.underlying29 (by kernel_rfl) rfl (.cons rDefs1 (.cons rWaits1 (.cons rInt (.cons rBool .nil))))).conv
  (fun (a, b, c, e, _) => ⟨a, b, c, e⟩) (fun t => (t.defs, t.waits, t.next, t.busy, ())) (fun _ => rfl) (fun _ => rfl) (fun _ _ => trivial)
theorem rAttr : Reads Tryz.prog 179 2 oAttr (fun _ => True) :=
 (Reads.struct (l := [(0, 9), (1, 9)]) Tryz.underlying179 (by kernel_rfl) rfl (.cons rStr (.cons rStr .nil))).conv
  (fun (a, b, _) => ⟨a, b⟩) (fun t => (t.name, t.value, ())) (fun _ => rfl) (fun _ => rfl) (fun _ _ => trivial)
theorem rAttrs1 : Reads Tryz.prog 78 1 eAttrs (fun _ => True) := (Reads.slice Tryz.underlying78 (by kernel_rfl) rAttr (by omega)).conv id id (fun _ => rfl) (fun _ => rfl) (fun _ _ => trivial)
theorem rInts1 : Reads Tryz.prog 32 1 eInts (fun _ => True) := (Reads.slice Tryz.underlying32 (by kernel_rfl) rInt (by omega)).conv id id (fun _ => rfl) (fun _ => rfl) (fun _ _ => trivial)
theorem rNode : Reads Tryz.prog 80 10 oNode (fun _ => True) :=
 (Reads.struct (l := [(0, 3), (1, 9), (2, 9), (3, 9), (4, 78), (5, 3), (6, 32), (7, 3), (8, 3), (9, 3)]) Tryz.underlying80 (by kernel_rfl) rfl
  (.cons rInt (.cons rStr (.cons rStr (.cons rStr (.cons rAttrs1 (.cons rInt (.cons rInts1 (.cons rInt (.cons rInt (.cons rInt .nil))))))))))).conv
  (fun (a, b, c, d, e, f, g, h, i, j, _) => ⟨a, b, c, d, e, f, g, h, i, j⟩)
  (fun t => (t.kind, t.name, t.is, t.data, t.attrs, t.parent, t.kids, t.host, t.under, t.doc, ())) (fun _ => rfl) (fun _ => rfl) (fun _ _ => trivial)
theorem rNodes1 : Reads Tryz.prog 22 1 eNodes (fun _ => True) := (Reads.slice Tryz.underlying22 (by kernel_rfl) rNode (by omega)).conv id id (fun _ => rfl) (fun _ => rfl) (fun _ _ => trivial)
theorem rFor : Reads Tryz.prog 24 2 eFor (fun _ => True) :=
 (Reads.struct (l := [(0, 22), (1, 3)]) Tryz.underlying24 (by kernel_rfl) rfl (.cons rNodes1 (.cons rInt .nil))).conv
  (fun (a, b, _) => ⟨a, b⟩) (fun t => (t.nodes, t.most, ())) (fun _ => rfl) (fun _ => rfl) (fun _ _ => trivial)
theorem laid : Go.laidOutB Tryz.prog = true := by kernel_rfl
abbrev laidRows : List (String × DataW Unit) := [("unicode.White_Space", Go.Proofs.YtciccajdpmahiaaGreatDoor.Rows.laid_unicode_White_Space), ("strings.asciiSpace", Go.Proofs.YtciccajdpmahiaaGreatDoor.Rows.laid_strings_asciiSpace)]
theorem tab_eq : (Go.Proofs.YtciccajdpmahiaaGreatDoor.Rows.laid_strings_asciiSpace : DataW Unit) = Lib.tabData .u8 Lib.asciiSpaceTab := by kernel_rfl
theorem door_met (os : Os) (args : Array Value) : laidMetH Tryz.prog laidRows ((World.doorLaid Tryz.prog 33 os).forCall (fun _ _ => 0) ⟨#[], args, []⟩).memory :=
 laidMetH_of_parts3 (fuel := 8) (laidMet_of_run' 8 (by kernel_rfl) (by kernel_rfl)) (by kernel_rfl) (by kernel_rfl)
theorem gSp : Tryz.prog.globalNamed "strings.asciiSpace" = some 1 := by kernel_rfl
theorem tySp : (Tryz.prog.globals[1]?).map (·.type) = some 307 := by kernel_rfl
theorem tabs_of_laid {W : World} (h : laidMetH Tryz.prog laidRows W) : Tabs Tryz.prog W fun _ => none := by
 rw [MakeChecks.laidMetH_plain _ _ _ (by kernel_rfl)] at h
 obtain ⟨ps, ⟨g0, t0, cs0, f0, p0, q0, hg0, ht0, hv0, hd0, ⟨g1, t1, cs1, f1, p1, q1, hg1, ht1, hv1, hd1, _, _⟩, _⟩, _⟩ := h
 intro g hg
 obtain rfl := Option.some.inj (hg.symm.trans hg1)
 have e : g = 1 := Option.some.inj (hg.symm.trans gSp)
 have ht : (Tryz.prog.globals[g]?).map (·.type) = some 307 := by rw [e]; exact tySp
 obtain rfl := Option.some.inj (ht.symm.trans ht1)
 rw [tab_eq] at hd1
 have hc := Lib.cells_of_tab Tryz.underlying307 Tryz.underlying5 (by kernel_rfl) (by kernel_rfl) hd1
 have htab : Lib.TabIs Tryz.prog W "strings.asciiSpace" .u8 Lib.asciiSpaceTab := by
  unfold Lib.TabIs
  rw [hv1, ← hc]
 have hcell : ∀ c : Nat, c < 256 → W.cell? ⟨g, c, none⟩ = some (.int .u8 (if Lib.isSp (UInt8.ofNat c) then 1 else 0)) := fun c hc => by
  rw [htab.cell hg c (by rw [Lib.asciiSpaceTab_length]; exact hc), Lib.asciiSpaceTab_at c hc]
 refine ⟨(by rintro ⟨_, _, h, _⟩; cases h), World.block_lt_of_cell? _ _ (hcell 0 (by omega)), hcell⟩
theorem rOp : Reads Tryz.prog 274 7 oOp (fun _ => True) :=
 (Reads.struct (l := [(0, 3), (1, 3), (2, 3), (3, 3), (4, 9), (5, 9), (6, 4)]) Tryz.underlying274 (by kernel_rfl) rfl (.cons rInt (.cons rInt (.cons rInt (.cons rInt (.cons rStr (.cons rStr (.cons rBool .nil)))))))).conv
  (fun (a, b, c, d, e, f, g, _) => ⟨a, b, c, d, e, f, g⟩) (fun t => (t.kind, t.a, t.b, t.c, t.s, t.t, t.must, ())) (fun _ => rfl) (fun _ => rfl) (fun _ _ => trivial)
theorem rOps1 : Reads Tryz.prog 50 1 eOps (fun _ => True) := (Reads.slice Tryz.underlying50 (by kernel_rfl) rOp (by omega)).conv id id (fun _ => rfl) (fun _ => rfl) (fun _ _ => trivial)
theorem rHook : Reads Tryz.prog 138 2 oHook (fun _ => True) :=
 (Reads.struct (l := [(0, 3), (1, 50)]) Tryz.underlying138 (by kernel_rfl) rfl (.cons rInt (.cons rOps1 .nil))).conv
  (fun (a, b, _) => ⟨a, b⟩) (fun t => (t.kind, t.prog, ())) (fun _ => rfl) (fun _ => rfl) (fun _ _ => trivial)
theorem rHooks1 : Reads Tryz.prog 51 1 eHooks (fun _ => True) := (Reads.slice Tryz.underlying51 (by kernel_rfl) rHook (by omega)).conv id id (fun _ => rfl) (fun _ => rfl) (fun _ _ => trivial)
theorem rStrO : Reads Tryz.prog 9 1 oStr (fun s => s.size ≤ maxLen) := rStr.conv id id (fun _ => rfl) (fun _ => rfl) (fun _ h => h)
theorem rStrs1 : Reads Tryz.prog 49 1 eStrs (fun _ => True) := (Reads.slice Tryz.underlying49 (by kernel_rfl) rStrO (by omega)).conv id id (fun _ => rfl) (fun _ => rfl) (fun _ _ => trivial)
theorem rClass : Reads Tryz.prog 53 5 oClass (fun _ => True) :=
 (Reads.struct (l := [(0, 4), (1, 49), (2, 50), (3, 50), (4, 51)]) Tryz.underlying53 (by kernel_rfl) rfl (.cons rBool (.cons rStrs1 (.cons rOps1 (.cons rOps1 (.cons rHooks1 .nil)))))).conv
  (fun (a, b, c, d, e, _) => ⟨a, b, c, d, e⟩) (fun t => (t.form, t.watch, t.peek, t.make, t.hooks, ())) (fun _ => rfl) (fun _ => rfl) (fun _ _ => trivial)
theorem rClasses : Reads Tryz.prog 37 1 eClasses (fun _ => True) := (Reads.slice Tryz.underlying37 (by kernel_rfl) rClass (by omega)).conv id id (fun _ => rfl) (fun _ => rfl) (fun _ _ => trivial)
theorem rState : Reads Tryz.prog 75 4 oState (fun _ => True) :=
 (Reads.struct (l := [(0, 3), (1, 3), (2, 3), (3, 4)]) Tryz.underlying75 (by kernel_rfl) rfl (.cons rInt (.cons rInt (.cons rInt (.cons rBool .nil))))).conv
  (fun (a, b, c, d, _) => ⟨a, b, c, d⟩) (fun t => (t.phase, t.df, t.owner, t.barred, ())) (fun _ => rfl) (fun _ => rfl) (fun _ _ => trivial)
theorem rStates : Reads Tryz.prog 25 1 eStates (fun _ => True) := (Reads.slice Tryz.underlying25 (by kernel_rfl) rState (by omega)).conv id id (fun _ => rfl) (fun _ => rfl) (fun _ _ => trivial)
theorem rTodo : Reads Tryz.prog 59 10 oTodo (fun _ => True) :=
 (Reads.struct (l := [(0, 3), (1, 3), (2, 9), (3, 4), (4, 4), (5, 9), (6, 9), (7, 3), (8, 3), (9, 4)]) Tryz.underlying59 (by kernel_rfl) rfl
  (.cons rInt (.cons rInt (.cons rStr (.cons rBool (.cons rBool (.cons rStr (.cons rStr (.cons rInt (.cons rInt (.cons rBool .nil))))))))))).conv
  (fun (a, b, c, d, e, f, g, h, i, j, _) => ⟨a, b, c, d, e, f, g, h, i, j⟩)
  (fun t => (t.kind, t.df, t.name, t.had, t.has, t.old, t.new, t.src, t.dst, t.on, ())) (fun _ => rfl) (fun _ => rfl) (fun _ _ => trivial)
theorem rTodos1 : Reads Tryz.prog 77 1 oTodos (fun _ => True) := (Reads.slice Tryz.underlying77 (by kernel_rfl) rTodo (by omega)).conv id id (fun _ => rfl) (fun _ => rfl) (fun _ _ => trivial)
theorem rTodoss1 : Reads Tryz.prog 30 1 eTodoss (fun _ => True) := (Reads.slice Tryz.underlying30 (by kernel_rfl) rTodos1 (by omega)).conv id id (fun _ => rfl) (fun _ => rfl) (fun _ _ => trivial)
theorem rIntsO : Reads Tryz.prog 32 1 oInts (fun _ => True) := rInts1.conv id id (fun _ => rfl) (fun _ => rfl) (fun _ h => h)
theorem rIntss1 : Reads Tryz.prog 31 1 eIntss (fun _ => True) := (Reads.slice Tryz.underlying31 (by kernel_rfl) rIntsO (by omega)).conv id id (fun _ => rfl) (fun _ => rfl) (fun _ _ => trivial)
theorem rLine : Reads Tryz.prog 34 4 eLine (fun _ => True) :=
 (Reads.struct (l := [(0, 30), (1, 31), (2, 32), (3, 4)]) Tryz.underlying34 (by kernel_rfl) rfl (.cons rTodoss1 (.cons rIntss1 (.cons rInts1 (.cons rBool .nil))))).conv
  (fun (a, b, c, d, _) => ⟨a, b, c, d⟩) (fun t => (t.todos, t.stack, t.back, t.busy, ())) (fun _ => rfl) (fun _ => rfl) (fun _ _ => trivial)
theorem rTask : Reads Tryz.prog 73 3 oTask (fun _ => True) :=
 (Reads.struct (l := [(0, 3), (1, 3), (2, 3)]) Tryz.underlying73 (by kernel_rfl) rfl (.cons rInt (.cons rInt (.cons rInt .nil)))).conv
  (fun (a, b, c, _) => ⟨a, b, c⟩) (fun t => (t.kind, t.ticket, t.df, ())) (fun _ => rfl) (fun _ => rfl) (fun _ _ => trivial)
theorem rTasks1 : Reads Tryz.prog 35 1 eTasks (fun _ => True) := (Reads.slice Tryz.underlying35 (by kernel_rfl) rTask (by omega)).conv id id (fun _ => rfl) (fun _ => rfl) (fun _ _ => trivial)
theorem rBuild : Reads Tryz.prog 92 2 oBuild (fun _ => True) :=
 (Reads.struct (l := [(0, 3), (1, 3)]) Tryz.underlying92 (by kernel_rfl) rfl (.cons rInt (.cons rInt .nil))).conv
  (fun (a, b, _) => ⟨a, b⟩) (fun t => (t.df, t.node, ())) (fun _ => rfl) (fun _ => rfl) (fun _ _ => trivial)
theorem rBuilds1 : Reads Tryz.prog 36 1 eBuilds (fun _ => True) := (Reads.slice Tryz.underlying36 (by kernel_rfl) rBuild (by omega)).conv id id (fun _ => rfl) (fun _ => rfl) (fun _ _ => trivial)
theorem rWorld : Reads Tryz.prog 39 14 eWorld (fun _ => True) :=
 (Reads.struct (l := [(0, 24), (2, 25), (3, 29), (7, 34), (11, 35), (12, 36), (13, 37)]) Tryz.underlying39 (by kernel_rfl) rfl
  (.cons rFor (.cons rStates (.cons rDesk (.cons rLine (.cons rTasks1 (.cons rBuilds1 (.cons rClasses .nil)))))))).conv
  (fun (a, b, c, d, e, f, g, _) => ⟨a, b, c, d, e, f, g⟩) (fun t => (t.f, t.states, t.desk, t.line, t.tasks, t.builds, t.classes, ())) (fun _ => rfl) (fun _ => rfl) (fun _ _ => trivial)
theorem rNote : Reads Tryz.prog 218 9 oNote (fun _ => True) :=
 (Reads.struct (l := [(0, 3), (1, 3), (2, 3), (3, 3), (4, 9), (5, 4), (6, 4), (7, 9), (8, 9)]) Tryz.underlying218 (by kernel_rfl) rfl
  (.cons rInt (.cons rInt (.cons rInt (.cons rInt (.cons rStr (.cons rBool (.cons rBool (.cons rStr (.cons rStr .nil)))))))))).conv
  (fun (a, b, c, d, e, f, g, h, i, _) => ⟨a, b, c, d, e, f, g, h, i⟩) (fun t => (t.kind, t.node, t.src, t.dst, t.name, t.had, t.has, t.old, t.new, ())) (fun _ => rfl) (fun _ => rfl) (fun _ _ => trivial)
theorem rNotes : Reads Tryz.prog 40 1 eNotes (fun _ => True) := (Reads.slice Tryz.underlying40 (by kernel_rfl) rNote (by omega)).conv id id (fun _ => rfl) (fun _ => rfl) (fun _ _ => trivial)
end Go.Proofs.Heir
