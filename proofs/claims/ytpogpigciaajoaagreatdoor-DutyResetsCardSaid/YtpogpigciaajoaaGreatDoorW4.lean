/- Models, plain laws and contracts of functions of the given program; conditions as stated in each theorem. By an AI agent. -/
import Derived.Test.YtpogpigciaajoaaGreatDoorW3
import Derived.RangeFuncNested
import Derived.RangeFuncBound
import Derived.RangeFuncCalls
import Derived.Shelf.Abstract
import Derived.Shelf.RegionOpen
import Derived.WalkKit
import Derived.OwnWalkIn
import Derived.TacticsInMore
import Derived.LoopNIn
import Derived.LoopIn
import Derived.Laws.StructEq
import Derived.Tactics
import Derived.Test.YtpogpigciaajoaaGreatDoorW2
set_option linter.unusedSimpArgs false
set_option linter.unusedVariables false
section
set_option linter.unusedSimpArgs false
set_option linter.unusedVariables false
namespace Go.Proofs.Heir
open Go Go.Am Go.RowKit Go.Lib
set_option maxRecDepth 100000
set_option maxHeartbeats 8000000
def seenT (l : List Int) : List (Int × Int) := l.map fun c => (c, 1)
theorem tget_seen (c : Int) : ∀ l : List Int, tget c (seenT l) = if c ∈ l then some 1 else none
 | [] => rfl
 | a :: r => by
   show (if a = c then some 1 else tget c (seenT r)) = _
   rw [tget_seen c r]
   by_cases e : a = c
   ·rw [if_pos e, if_pos (by simp [e])]
   ·rw [if_neg e]
    by_cases h : c ∈ r
    ·rw [if_pos h, if_pos (List.mem_cons_of_mem _ h)]
    ·rw [if_neg h, if_neg (by simp [h]; exact fun e' => e e'.symm)]
theorem seen_snoc {l : List Int} {c : Int} (h : c ∉ l) : tput c 1 (seenT l) = seenT (l ++ [c]) := by
 rw [tput_new (by rw [tget_seen, if_neg h])]
 simp [seenT]
theorem take_snocI {α : Type} {l : List α} {k : Nat} {x : α} (h : l[k]? = some x) : l.take (k + 1) = l.take k ++ [x] := by
 obtain ⟨hk, rfl⟩ := List.getElem?_eq_some_iff.1 h
 rw [List.take_add_one, List.getElem?_eq_getElem hk]; rfl
theorem kids_step {l : List NodeM} {n : Int} {x : NodeM} {cs : List Int} {j : Nat} {c : Int} (h : cs[j]? = some c) : kidsOK l n x (cs.take j) (cs.drop j) = (kidOK l n x (cs.take j) c && kidsOK l n x (cs.take (j + 1)) (cs.drop (j + 1))) := by
 obtain ⟨hk, rfl⟩ := List.getElem?_eq_some_iff.1 h
 rw [List.drop_eq_getElem_cons hk, take_snocI h]
 rfl
theorem elems_step {l : List NodeM} {cs : List Int} {j : Nat} {c : Int} (h : cs[j]? = some c) : elemsN l (cs.take (j + 1)) = elemsN l (cs.take j) + if (nd l c).kind = 1 then 1 else 0 := by
 rw [take_snocI h]
 unfold elemsN
 rw [List.countP_append, List.countP_cons]; simp
theorem elems_le (l : List NodeM) (cs : List Int) (j : Nat) : elemsN l (cs.take j) ≤ j := by
 unfold elemsN
 refine Nat.le_trans List.countP_le_length ?_
 simp; omega
@[reducible] def rSeen (t : List (Int × Int)) : MS := .live 2 (tRows vInt oInt t) false
theorem noRef_seen (t : List (Int × Int)) : noRefL (tRows vInt oInt t) = true := by
 rw [noRefL_iff]; intro x hx
 obtain ⟨a, _, rfl⟩ := List.mem_map.1 hx
 rfl
theorem f95_ok (f : ForM) (hs : SmallN f.nodes) (k : Nat) (x : NodeM) (hx : f.nodes[k]? = some x) : FnOK Tryz.prog 95 [] [eFor f, eInt k] [] (eBool (bearsN f.nodes k x)) := by
 have h49 := f122_ok f
 have h56 := f147_ok x.kind
 have h7 := hs.kids x (List.mem_of_getElem? hx)
 have hl := hs.len
 obtain ⟨l, m⟩ := f
 have hst := fun j c => @kids_step l k x x.kids j c
 have hse := fun j c => @elems_step l x.kids j c
 unfold bearsN
 simp only at h49 h56 hx h7 hl ⊢
 obtain ⟨⟨a1, a2, a3, a4, a5, a6, a7, a8, a9, a10⟩, hx0⟩ : ∃ y, y = x := ⟨x, rfl⟩
 rw [← hx0] at hx h56 h7 hst hse ⊢
 simp only at h56 h7 hst hse ⊢
 have hlm : (a7.map oInt).length = a7.length := List.length_map ..
 refine FnOK.startC (rvs := [.tmp 4]) G G_good Tryz.func95 rfl Tryz.ntmps95 rfl rfl ?_; with_reducible refine wD ?_
 refine IdxK.mk k (eNode _) rfl (node_get hx) ?_; with_reducible refine wK ?_
 refine LoopK.use G G_good (fun (j : Nat) => [(1, eInt k), (2, .ptr 20 0 0), (5, .ptr 50 0 0), (6, .mapr 161), (7, eInt (elemsN l (a7.take j))), (18, eInts a7), (19, eInt a7.length), (20, eInt j)])
  (fun j => [(20, .live 2 [eFor ⟨l, m⟩] false), (50, .live 10 [eNode ⟨a1, a2, a3, a4, a5, a6, a7, a8, a9, a10⟩] false), (161, rSeen (seenT (a7.take j)))])
  (fun j => j ≤ a7.length ∧ kidsOK l k ⟨a1, a2, a3, a4, a5, a6, a7, a8, a9, a10⟩ [] a7 = kidsOK l k ⟨a1, a2, a3, a4, a5, a6, a7, a8, a9, a10⟩ (a7.take j) (a7.drop j)) (fun j => a7.length - j) 0 ⟨Nat.zero_le _, rfl⟩
  ⟨⟨rfl, rfl⟩, ⟨rfl, ⟨rfl, rfl⟩, ⟨rfl, rfl⟩, trivial, rfl, rfl, by show (a7.length : Int) = ((a7.map oInt).length : Int); rw [hlm], rfl, trivial⟩, ⟨⟨rfl, rfl, trivial⟩, trivial⟩, ⟨⟨rfl, rfl, rfl, rfl, rfl, rfl, rfl, rfl, rfl, rfl, trivial⟩, trivial⟩, ⟨.refl rfl, rfl⟩, trivial⟩ ?_
 rintro j ⟨hj, hok⟩
 with_reducible refine wK ?_
 refine IfK.mk (fun h1 => ?_) (fun h1 => ?_) <;> (try simp only [castN] at h1) <;> with_reducible refine wK ?_
 ·have hj' : j < a7.length := by simp only [decide_eq_true_eq] at h1; omega
  obtain ⟨c, hc⟩ : ∃ c, a7[j]? = some c := ⟨_, List.getElem?_eq_getElem hj'⟩
  rw [hst j c hc] at hok
  have hse' := hse j c hc
  have hel := elems_le l a7 j
  have h49' := h49 c
  unfold kidOK at hok
  refine IdxK.mk j (eInt c) rfl (int_get hc) ?_; with_reducible refine wK ?_
  refine cL h49' c122 ?_; with_reducible refine wK ?_
  cases ht : thereN l c with
  | false =>
    rw [ht] at hok
    simp only [Bool.false_and] at hok
    rw [hok, Bool.false_and]
    (have fct := ht; (repeat' (first
  | refine gF ?_ | refine aE ?_ ?_
  | apply trivial)); all_goals clear fct)
  | true =>
    obtain ⟨i, y, rfl, hy, hnd⟩ := there_iff.1 ht
    rw [ht, hnd] at hok
    rw [hnd] at hse'
    obtain ⟨b1, b2, b3, b4, b5, b6, b7, b8, b9, b10⟩ := y
    simp only [Bool.true_and] at hok hse'
    refine IfK.ff ?_; with_reducible refine wK ?_
    have hts := tget_seen (i : Int) (a7.take j)
    refine LookK.tab vInt oInt (seenT (a7.take j)) (k := (i : Int)) (zv := eInt 0) mt74 ⟨_, _, rfl⟩ key_int inj_int rfl rfl (fun z hxx => ?_) (fun hxx => ?_)
    ·rw [hxx] at hts
     have hin : (i : Int) ∈ a7.take j := by by_cases h : (i : Int) ∈ a7.take j; exact h; rw [if_neg h] at hts; cases hts
     rw [if_pos hin] at hts
     cases hts
     rw [show hasI (a7.take j) (i : Int) = true from decide_eq_true hin] at hok
     simp only [Bool.not_true, Bool.false_and] at hok
     rw [hok, Bool.false_and]
     rw [show oInt 1 = eInt 1 from rfl]
     with_reducible refine wK ?_
     (have fct := ht; (repeat' (first
  | refine gF ?_ | refine aE ?_ ?_
  | apply trivial)); all_goals clear fct)
    ·rw [hxx] at hts
     have hin : (i : Int) ∉ a7.take j := by intro h; rw [if_pos h] at hts; cases hts
     rw [show hasI (a7.take j) (i : Int) = false from decide_eq_false hin] at hok
     simp only [Bool.not_false, Bool.true_and] at hok
     with_reducible refine wK ?_
     by_cases e6 : b6 = k
     ·by_cases e10 : b10 = a10
      ·simp only [e6, e10, decide_true, Bool.true_and] at hok
       (have fct := And.intro e6 (e10); (repeat' (first
  | refine gF ?_ | refine aE ?_ ?_
  | ((refine IdxK.mk i (eNode _) rfl (node_get hy) ?_) <;> with_reducible refine wK ?_)
  | apply trivial)); all_goals clear fct)
       refine LookK.tab vInt oInt (seenT (a7.take j)) (k := (i : Int)) (zv := eInt 0) mt74 ⟨_, _, rfl⟩ key_int inj_int rfl rfl (fun z hyy => ?_) (fun hyy => ?_)
       ·rw [hxx] at hyy; cases hyy
       with_reducible refine wK ?_
       have hln : (seenT (a7.take j)).length ≤ j := by unfold seenT; simp; omega
       have hsn := seen_snoc hin
       rw [← take_snocI hc] at hsn
       refine nK ?_; with_reducible refine wK ?_
       refine PutK.tab vInt oInt (seenT (a7.take j)) (k := (i : Int)) (1 : Int) mt74 rfl key_int inj_int (by unfold maxLen; omega) rfl ?_; with_reducible refine wK ?_
       rw [hsn]
       refine IdxK.mk i (eNode _) rfl (node_get hy) ?_; with_reducible refine wK ?_
       by_cases f1 : b1 = 1
       ·have hs1 : (elemsN l (a7.take (j + 1)) : Int) = elemsN l (a7.take j) + 1 := by rw [hse', if_pos f1]; rfl
        simp only [f1, decide_true, Bool.true_or, Bool.true_and] at hok
        (have fct := f1; (repeat' (first
  | refine gF ?_ | refine aE ?_ ?_
  | (((with_reducible show NextK _ _); refine NextK.mk (j + 1) ⟨by omega, hok⟩ (by omega) ⟨⟨rfl, rfl⟩, ⟨rfl, ⟨rfl, rfl⟩, ⟨rfl, rfl⟩, trivial, hs1, rfl, rfl, by show ((j + 1 : Nat) : Int) = (j : Int) + 1; omega, trivial⟩, ⟨⟨rfl, rfl, trivial⟩, trivial⟩, ⟨⟨rfl, rfl, rfl, rfl, rfl, rfl, rfl, rfl, rfl, rfl, trivial⟩, trivial⟩, ⟨.refl (noRef_seen _), noRef_seen _⟩, trivial⟩) <;> with_reducible refine wK ?_)
  | apply trivial)); all_goals clear fct)
       ·have hs1 : (elemsN l (a7.take (j + 1)) : Int) = elemsN l (a7.take j) := by rw [hse', if_neg f1]; rfl
        by_cases f2 : b1 = 2
        ·by_cases e0 : a1 = 0
         ·have hkk : (decide (b1 = 1) || decide (b1 = 2) && decide (a1 ≠ 0)) = false := by simp [f2, e0]
          rw [hkk, Bool.false_and] at hok
          rw [hok, Bool.false_and]
          (have fct := And.intro (eq_false f1) (And.intro f2 (e0)); (repeat' (first
  | refine gF ?_ | refine aE ?_ ?_
  | apply trivial)); all_goals clear fct)
         ·have hkk : (decide (b1 = 1) || decide (b1 = 2) && decide (a1 ≠ 0)) = true := by simp [f2, e0]
          rw [hkk, Bool.true_and] at hok
          (have fct := And.intro (eq_false f1) (And.intro f2 ((eq_false e0))); (repeat' (first
  | refine gF ?_ | refine aE ?_ ?_
  | (((with_reducible show NextK _ _); refine NextK.mk (j + 1) ⟨by omega, hok⟩ (by omega) ⟨⟨rfl, rfl⟩, ⟨rfl, ⟨rfl, rfl⟩, ⟨rfl, rfl⟩, trivial, hs1, rfl, rfl, by show ((j + 1 : Nat) : Int) = (j : Int) + 1; omega, trivial⟩, ⟨⟨rfl, rfl, trivial⟩, trivial⟩, ⟨⟨rfl, rfl, rfl, rfl, rfl, rfl, rfl, rfl, rfl, rfl, trivial⟩, trivial⟩, ⟨.refl (noRef_seen _), noRef_seen _⟩, trivial⟩) <;> with_reducible refine wK ?_)
  | apply trivial)); all_goals clear fct)
        ·simp only [eq_false f1, eq_false f2, decide_false, Bool.false_and, Bool.or_false] at hok
         rw [hok, Bool.false_and]
         (have fct := And.intro f1 (f2); (repeat' (first
  | refine gF ?_ | refine aE ?_ ?_
  | apply trivial)); all_goals clear fct)
      ·simp only [e6, eq_false e10, decide_true, decide_false, Bool.true_and, Bool.false_and] at hok
       rw [hok, Bool.false_and]
       (have fct := And.intro e6 ((eq_false e10)); (repeat' (first
  | refine gF ?_ | refine aE ?_ ?_
  | ((refine IdxK.mk i (eNode _) rfl (node_get hy) ?_) <;> with_reducible refine wK ?_)
  | apply trivial)); all_goals clear fct)
     ·simp only [eq_false e6, decide_false, Bool.false_and] at hok
      rw [hok, Bool.false_and]
      (have fct := (eq_false e6); (repeat' (first
  | refine gF ?_ | refine aE ?_ ?_
  | ((refine IdxK.mk i (eNode _) rfl (node_get hy) ?_) <;> with_reducible refine wK ?_)
  | apply trivial)); all_goals clear fct)
 ·have hjl : j = a7.length := by simp only [decide_eq_false_iff_not] at h1; omega
  rw [hjl, List.take_length, List.drop_length] at hok
  rw [hjl, List.take_length]
  rw [hok]
  simp only [kidsOK, Bool.true_and]
  refine cL h56 c147 ?_; with_reducible refine wK ?_
  by_cases e7 : a7.length = 0
  ·have e7' : a7 = [] := List.eq_nil_of_length_eq_zero e7
   cases hh : holdK a1 with
   | false =>
     by_cases e0 : a1 = 0
     ·(have fct := And.intro hh (And.intro e0 (And.intro e7 (hlm))); (repeat' (first
  | refine gF ?_ | refine aE ?_ ?_
  | apply trivial)); all_goals clear fct)
      all_goals first | (simp [hh, e0, e7']; done) | ((try simp only [castN]); simp [hh, e0, e7']; omega)
     ·(have fct := And.intro hh (And.intro (eq_false e0) (And.intro e7 (hlm))); (repeat' (first
  | refine gF ?_ | refine aE ?_ ?_
  | apply trivial)); all_goals clear fct)
      all_goals first | (simp [hh, e0, e7']; done) | ((try simp only [castN]); simp [hh, e0, e7']; omega)
   | true =>
     by_cases e0 : a1 = 0
     ·(have fct := And.intro hh (And.intro e0 (And.intro e7 (hlm))); (repeat' (first
  | refine gF ?_ | refine aE ?_ ?_
  | apply trivial)); all_goals clear fct)
      all_goals first | (simp [hh, e0, e7']; done) | ((try simp only [castN]); simp [hh, e0, e7']; omega)
     ·(have fct := And.intro hh (And.intro (eq_false e0) (And.intro e7 (hlm))); (repeat' (first
  | refine gF ?_ | refine aE ?_ ?_
  | apply trivial)); all_goals clear fct)
      all_goals first | (simp [hh, e0, e7']; done) | ((try simp only [castN]); simp [hh, e0, e7']; omega)
  ·have e7' : ¬ a7 = [] := fun h => e7 (by rw [h]; rfl)
   cases hh : holdK a1 with
   | false =>
     by_cases e0 : a1 = 0
     ·(have fct := And.intro hh (And.intro e0 (And.intro e7 (hlm))); (repeat' (first
  | refine gF ?_ | refine aE ?_ ?_
  | apply trivial)); all_goals clear fct)
      all_goals first | (simp [hh, e0, e7']; done) | ((try simp only [castN]); simp [hh, e0, e7']; omega)
     ·(have fct := And.intro hh (And.intro (eq_false e0) (And.intro e7 (hlm))); (repeat' (first
  | refine gF ?_ | refine aE ?_ ?_
  | apply trivial)); all_goals clear fct)
      all_goals first | (simp [hh, e0, e7']; done) | ((try simp only [castN]); simp [hh, e0, e7']; omega)
   | true =>
     by_cases e0 : a1 = 0
     ·(have fct := And.intro hh (And.intro e0 (And.intro e7 (hlm))); (repeat' (first
  | refine gF ?_ | refine aE ?_ ?_
  | apply trivial)); all_goals clear fct)
      all_goals first | (simp [hh, e0, e7']; done) | ((try simp only [castN]); simp [hh, e0, e7']; omega)
     ·(have fct := And.intro hh (And.intro (eq_false e0) (And.intro e7 (hlm))); (repeat' (first
  | refine gF ?_ | refine aE ?_ ?_
  | apply trivial)); all_goals clear fct)
      all_goals first | (simp [hh, e0, e7']; done) | ((try simp only [castN]); simp [hh, e0, e7']; omega)
theorem allIx_no {α : Type} {p : Nat → α → Bool} {l : List α} {k : Nat} {x : α} (h : l[k]? = some x) (hp : p k x = false) : allIx p 0 l = false := by
 rw [Bool.eq_false_iff]
 intro h1
 have := allIx_iff.1 h1 k x h
 rw [Nat.zero_add, hp] at this
 cases this
theorem allIx_yes {α : Type} {p : Nat → α → Bool} {l : List α} (h : ∀ k x, l[k]? = some x → p k x = true) : allIx p 0 l = true :=
 allIx_iff.2 fun k x hx => by rw [Nat.zero_add]; exact h k x hx
theorem f54_ok (f : ForM) (hs : SmallN f.nodes) : FnOK Tryz.prog 54 [] [eFor f] [] (eBool (rightF f)) := by
 have hl := hs.len
 have h38 : ∀ x ∈ f.nodes, FnOK Tryz.prog 92 [] [eNode x] [] (eBool (namedN x)) := fun x hx => f92_ok x (by have := hs.attrs x hx; omega)
 have h39 := f93_ok f
 have h40 := f94_ok f hs
 have h41 := f95_ok f hs
 have h42 := f96_ok f
 have h43 : (∀ n, thereN f.nodes n = true → nodeOK f.nodes n (nd f.nodes n) = true) → ∀ k, k < f.nodes.length → FnOK Tryz.prog 97 [] [eFor f, eInt k] [] (eBool (endsN f.nodes f.nodes.length k)) := fun hN k hk => f97_ok f (by omega) (fun k x hx => by have := node_up hN k (there_get hx); rwa [nd_get hx] at this) k hk
 obtain ⟨l, m⟩ := f
 unfold rightF headOK
 simp only at hl h38 h39 h40 h41 h42 h43 ⊢
 have hlm : (l.map oNode).length = l.length := List.length_map ..
 refine FnOK.startC (rvs := [.tmp 2]) G G_good Tryz.func54 rfl Tryz.ntmps54 rfl rfl ?_; with_reducible refine wD ?_
 by_cases e1 : m < 1
 ·have c1 : decide (1 ≤ m) = false := decide_eq_false (by omega)
  rw [c1]
  (have fct := e1; (repeat' (first
  | refine gF ?_ | refine aE ?_ ?_
  | apply trivial)); all_goals clear fct)
  all_goals simp
 by_cases e2 : 400 < m
 ·have c1 : decide (m ≤ 400) = false := decide_eq_false (by omega)
  rw [c1]
  (have fct := And.intro (eq_false e1) (e2); (repeat' (first
  | refine gF ?_ | refine aE ?_ ?_
  | apply trivial)); all_goals clear fct)
  all_goals simp
 by_cases e3 : l.length < 1
 ·have c1 : decide (1 ≤ l.length) = false := decide_eq_false (by omega)
  have e3' : (l.length : Int) < 1 := by omega
  rw [c1]
  (have fct := And.intro (eq_false e1) (And.intro (eq_false e2) (And.intro hlm (e3'))); (repeat' (first
  | refine gF ?_ | refine aE ?_ ?_
  | apply trivial)); all_goals clear fct)
  all_goals simp
 have e3' : ¬ (l.length : Int) < 1 := by omega
 by_cases e4 : m < (l.length : Int)
 ·have c1 : decide ((l.length : Int) ≤ m) = false := decide_eq_false (by omega)
  rw [c1]
  (have fct := And.intro (eq_false e1) (And.intro (eq_false e2) (And.intro hlm (And.intro (eq_false e3') (e4)))); (repeat' (first
  | refine gF ?_ | refine aE ?_ ?_
  | apply trivial)); all_goals clear fct)
  all_goals simp
 obtain ⟨x0, hx0⟩ : ∃ x, l[0]? = some x := ⟨_, List.getElem?_eq_getElem (by omega)⟩
 have hn0 : nd l 0 = x0 := nd_get (k := 0) hx0
 rw [hn0]
 obtain ⟨z1, z2, z3, z4, z5, z6, z7, z8, z9, z10⟩ := x0
 by_cases e5 : ¬ z1 = 0
 ·(have fct := And.intro (eq_false e1) (And.intro (eq_false e2) (And.intro hlm (And.intro (eq_false e3') (And.intro (eq_false e4) ((eq_false e5)))))); (repeat' (first
  | refine gF ?_ | refine aE ?_ ?_
  | ((refine IdxK.mk 0 (eNode ⟨z1, z2, z3, z4, z5, z6, z7, z8, z9, z10⟩) rfl (node_get hx0) ?_) <;> with_reducible refine wK ?_)
  | apply trivial)); all_goals clear fct)
  all_goals simp [e5]
 have e5 := Decidable.not_not.1 e5
 have c1 : (decide (1 ≤ m) && decide (m ≤ 400) && decide (1 ≤ l.length) && decide ((l.length : Int) ≤ m) && decide (z1 = 0)) = true := by
  simp only [Bool.and_eq_true, decide_eq_true_eq]; omega
 simp only at c1 ⊢
 rw [c1, Bool.true_and]
 (have fct := And.intro (eq_false e1) (And.intro (eq_false e2) (And.intro hlm (And.intro (eq_false e3') (And.intro (eq_false e4) (e5))))); (repeat' (first
  | refine gF ?_ | refine aE ?_ ?_
  | ((refine IdxK.mk 0 (eNode ⟨z1, z2, z3, z4, z5, z6, z7, z8, z9, z10⟩) rfl (node_get hx0) ?_) <;> with_reducible refine wK ?_)
  | apply trivial)); all_goals clear fct)
 refine LoopK.use G G_good (fun (k : Nat) => [(1, .ptr 10 0 0), (44, eNodes l), (45, eInt l.length), (46, eInt k)]) (fun _ => [(10, .live 2 [eFor ⟨l, m⟩] false)])
  (fun k => k ≤ l.length ∧ ∀ j x, j < k → l[j]? = some x → nodeOK l j x = true) (fun k => l.length - k) 0 ⟨Nat.zero_le _, fun j x h => by omega⟩
  ⟨⟨rfl, rfl⟩, ⟨⟨rfl, rfl⟩, rfl, by show (l.length : Int) = ((l.map oNode).length : Int); rw [hlm], rfl, trivial⟩, ⟨⟨rfl, rfl, trivial⟩, trivial⟩, trivial⟩ ?_
 rintro k ⟨hk, hok⟩
 with_reducible refine wK ?_
 refine IfK.mk (fun g1 => ?_) (fun g1 => ?_) <;> (try simp only [castN] at g1) <;> with_reducible refine wK ?_
 ·have hk' : k < l.length := by simp only [decide_eq_true_eq] at g1; omega
  obtain ⟨x, hx⟩ : ∃ x, l[k]? = some x := ⟨_, List.getElem?_eq_getElem hk'⟩
  have h38' := h38 x (List.mem_of_getElem? hx)
  have h39' := h39 k x hx
  have h40' := h40 k x hx
  have h41' := h41 k x hx
  have h42' := h42 k x hx
  have bad : nodeOK l k x = false → allIx (fun k x => nodeOK l k x) 0 l = false := fun h => allIx_no hx h
  have good : nodeOK l k x = true → ∀ j y, j < k + 1 → l[j]? = some y → nodeOK l j y = true := fun h j y hj hy => by
   rcases Nat.lt_or_ge j k with h6 | h6
   ·exact hok j y h6 hy
   ·have : j = k := by omega
    subst this
    rw [hx] at hy; cases hy; exact h
  obtain ⟨a1, a2, a3, a4, a5, a6, a7, a8, a9, a10⟩ := x
  refine IdxK.mk k (eNode _) rfl (node_get hx) ?_; with_reducible refine wK ?_
  cases q1 : namedN ⟨a1, a2, a3, a4, a5, a6, a7, a8, a9, a10⟩ with
  | false =>
    rw [bad (by unfold nodeOK; rw [q1]; rfl), Bool.false_and]
    (have fct := q1; (repeat' (first
  | refine gF ?_ | refine aE ?_ ?_
  | (((with_reducible refine kQ 92 ?_); refine cL h38' c92 ?_) <;> with_reducible refine wK ?_)
  | apply trivial)); all_goals clear fct)
  | true =>
    cases q2 : ownedN l k ⟨a1, a2, a3, a4, a5, a6, a7, a8, a9, a10⟩ with
    | false =>
      rw [bad (by unfold nodeOK; rw [q1, q2]; rfl), Bool.false_and]
      (have fct := And.intro q1 (q2); (repeat' (first
  | refine gF ?_ | refine aE ?_ ?_
  | ((first
   | ((with_reducible refine kQ 92 ?_); refine cL h38' c92 ?_)
   | ((with_reducible refine kQ 93 ?_); refine cL h39' c93 ?_)) <;> with_reducible refine wK ?_)
  | apply trivial)); all_goals clear fct)
    | true =>
      cases q3 : hungN l k ⟨a1, a2, a3, a4, a5, a6, a7, a8, a9, a10⟩ with
      | false =>
        rw [bad (by unfold nodeOK; rw [q1, q2, q3]; rfl), Bool.false_and]
        (have fct := And.intro q1 (And.intro q2 (q3)); (repeat' (first
  | refine gF ?_ | refine aE ?_ ?_
  | ((first
   | ((with_reducible refine kQ 92 ?_); refine cL h38' c92 ?_)
   | ((with_reducible refine kQ 93 ?_); refine cL h39' c93 ?_)
   | ((with_reducible refine kQ 94 ?_); refine cL h40' c94 ?_)) <;> with_reducible refine wK ?_)
  | apply trivial)); all_goals clear fct)
      | true =>
        cases q4 : bearsN l k ⟨a1, a2, a3, a4, a5, a6, a7, a8, a9, a10⟩ with
        | false =>
          rw [bad (by unfold nodeOK; rw [q1, q2, q3, q4]; rfl), Bool.false_and]
          (have fct := And.intro q1 (And.intro q2 (And.intro q3 (q4))); (repeat' (first
  | refine gF ?_ | refine aE ?_ ?_
  | ((first
   | ((with_reducible refine kQ 92 ?_); refine cL h38' c92 ?_)
   | ((with_reducible refine kQ 93 ?_); refine cL h39' c93 ?_)
   | ((with_reducible refine kQ 94 ?_); refine cL h40' c94 ?_)
   | ((with_reducible refine kQ 95 ?_); refine cL h41' c95 ?_)) <;> with_reducible refine wK ?_)
  | apply trivial)); all_goals clear fct)
        | true =>
          cases q5 : shadedN l k ⟨a1, a2, a3, a4, a5, a6, a7, a8, a9, a10⟩ with
          | false =>
            rw [bad (by unfold nodeOK; rw [q1, q2, q3, q4, q5]; rfl), Bool.false_and]
            (have fct := And.intro q1 (And.intro q2 (And.intro q3 (And.intro q4 (q5)))); (repeat' (first
  | refine gF ?_ | refine aE ?_ ?_
  | ((first
   | ((with_reducible refine kQ 92 ?_); refine cL h38' c92 ?_)
   | ((with_reducible refine kQ 93 ?_); refine cL h39' c93 ?_)
   | ((with_reducible refine kQ 94 ?_); refine cL h40' c94 ?_)
   | ((with_reducible refine kQ 95 ?_); refine cL h41' c95 ?_)
   | ((with_reducible refine kQ 96 ?_); refine cL h42' c96 ?_)) <;> with_reducible refine wK ?_)
  | apply trivial)); all_goals clear fct)
          | true =>
            have hnx := good (by unfold nodeOK; rw [q1, q2, q3, q4, q5]; rfl)
            (have fct := And.intro q1 (And.intro q2 (And.intro q3 (And.intro q4 (q5)))); (repeat' (first
  | refine gF ?_ | refine aE ?_ ?_
  | ((first
   | ((with_reducible refine kQ 92 ?_); refine cL h38' c92 ?_)
   | ((with_reducible refine kQ 93 ?_); refine cL h39' c93 ?_)
   | ((with_reducible refine kQ 94 ?_); refine cL h40' c94 ?_)
   | ((with_reducible refine kQ 95 ?_); refine cL h41' c95 ?_)
   | ((with_reducible refine kQ 96 ?_); refine cL h42' c96 ?_)
   | ((with_reducible show NextK _ _); refine NextK.mk (k + 1) ⟨by omega, hnx⟩ (by omega) ⟨⟨rfl, rfl⟩, ⟨⟨rfl, rfl⟩, rfl, rfl, by show ((k + 1 : Nat) : Int) = (k : Int) + 1; omega, trivial⟩, ⟨⟨rfl, rfl, trivial⟩, trivial⟩, trivial⟩)) <;> with_reducible refine wK ?_)
  | apply trivial)); all_goals clear fct)
 ·have hkl : k = l.length := by simp only [decide_eq_false_iff_not] at g1; omega
  have hall : ∀ (j : Nat) (x : NodeM), l[j]? = some x → nodeOK l j x = true := fun j x hx => hok j x (by have := (List.getElem?_eq_some_iff.1 hx).1; omega) hx
  rw [allIx_yes hall, Bool.true_and]
  have h43' := h43 fun n hn => by
   obtain ⟨k, x, rfl, hk, hx⟩ := there_iff.1 hn
   rw [hx]; exact hall k x hk
  refine LoopK.use G G_good (fun (k : Nat) => [(1, .ptr 10 0 0), (82, eInt l.length), (83, eInt k)]) (fun _ => [(10, .live 2 [eFor ⟨l, m⟩] false)])
   (fun k => k ≤ l.length ∧ ∀ (j : Nat) (x : NodeM), j < k → l[j]? = some x → endsN l l.length j = true) (fun k => l.length - k) 0 ⟨Nat.zero_le _, fun j x h => by omega⟩
   ⟨⟨rfl, rfl⟩, ⟨⟨rfl, rfl⟩, by show (l.length : Int) = ((l.map oNode).length : Int); rw [hlm], rfl, trivial⟩, ⟨⟨rfl, rfl, trivial⟩, trivial⟩, trivial⟩ ?_
  rintro i ⟨hi, hends⟩
  with_reducible refine wK ?_
  refine IfK.mk (fun g2 => ?_) (fun g2 => ?_) <;> (try simp only [castN] at g2) <;> with_reducible refine wK ?_
  ·have hi' : i < l.length := by simp only [decide_eq_true_eq] at g2; omega
   obtain ⟨y, hy⟩ : ∃ y, l[i]? = some y := ⟨_, List.getElem?_eq_getElem hi'⟩
   have h43'' := h43' i hi'
   refine cL h43'' c97 ?_; with_reducible refine wK ?_
   cases q : endsN l l.length i with
   | false =>
     rw [allIx_no hy q]
     (have fct := q; (repeat' (first
  | refine gF ?_ | refine aE ?_ ?_
  | apply trivial)); all_goals clear fct)
   | true =>
     (have fct := q; (repeat' (first
  | refine gF ?_ | refine aE ?_ ?_
  | (((with_reducible show NextK _ _); refine NextK.mk (i + 1) ⟨by omega, fun j x hj hx => ?_⟩ (by omega) ⟨⟨rfl, rfl⟩, ⟨⟨rfl, rfl⟩, rfl, by show ((i + 1 : Nat) : Int) = (i : Int) + 1; omega, trivial⟩, ⟨⟨rfl, rfl, trivial⟩, trivial⟩, trivial⟩) <;> with_reducible refine wK ?_)
  | apply trivial)); all_goals clear fct)
     rcases Nat.lt_or_ge j i with h6 | h6
     ·exact hends j x h6 hx
     ·have : j = i := by omega
      rw [this]; exact q
  ·have hil : i = l.length := by simp only [decide_eq_false_iff_not] at g2; omega
   rw [allIx_yes fun j x hx => hends j x (by have := (List.getElem?_eq_some_iff.1 hx).1; omega) hx]
   (refine eK ?_ ?_ <;> with_reducible repeat' (first | exact trivial | (show _ ∧ _; refine aK ?_ ?_)))
theorem f15_ok (f : ForM) (hs : SmallN f.nodes) : FnOK Tryz.prog 15 [] [eFor f] [] (eBool (rightF f)) := by
 have h23 := f54_ok f hs
 obtain ⟨l, m⟩ := f
 refine FnOK.startC (rvs := [.tmp 2]) G G_good Tryz.func15 rfl Tryz.ntmps15 rfl rfl ?_; with_reducible refine wD ?_
 refine cL h23 c54 ?_; with_reducible refine wK ?_
 (refine eK ?_ ?_ <;> with_reducible repeat' (first | exact trivial | (show _ ∧ _; refine aK ?_ ?_)))
theorem noRef_ints (l : List Int) : noRefL (l.map oInt) = true := by
 rw [noRefL_iff]; intro x hx
 obtain ⟨a, _, rfl⟩ := List.mem_map.1 hx
 rfl
theorem frz_ints {m : ML} {fz : Nat → Bool} {tab : List (Nat × Nat)} {n t len : Nat} {ro : Bool} {rows : List AV} {l : List Int} (h1 : lkM m t = .live 1 rows ro) (h2 : fz t = true) (h3 : rows = l.map oInt) (h4 : len = l.length) : FrzK m fz (MF tab fz m n) (eInts l) t 0 len := by
 subst h3; subst h4
 have e : (l.map oInt).length = l.length := List.length_map ..
 exact .cut h1 h2 (by omega) (by rw [List.drop_zero, List.take_of_length_le (by omega)]) (noRef_ints l)
@[reducible] def rInts (l : List Int) : MS := .live 1 (l.map oInt) false
def smallX (x : NodeM) : Bool := decide (x.kids.length ≤ 60) && decide (x.attrs.length ≤ 60) && decide (x.name.size ≤ 300)
theorem short_eq (f : ForM) : shortF f = (decide (f.nodes.length ≤ 60) && f.nodes.all smallX) := rfl
theorem all_no {α : Type} {p : α → Bool} {l : List α} {k : Nat} {x : α} (h : l[k]? = some x) (hp : p x = false) : l.all p = false := by
 rw [Bool.eq_false_iff]
 intro h1
 rw [List.all_eq_true] at h1
 rw [h1 x (List.mem_of_getElem? h)] at hp; cases hp
theorem all_yes {α : Type} {p : α → Bool} {l : List α} (h : ∀ (k : Nat) (x : α), l[k]? = some x → p x = true) : l.all p = true := by
 rw [List.all_eq_true]
 intro x hx
 obtain ⟨k, hk⟩ := List.getElem?_of_mem hx
 exact h k x hk
theorem f13_ok (f : ForM) : FnOK Tryz.prog 13 [] [eFor f] [] (eBool (shortF f)) := by
 rw [short_eq]
 obtain ⟨l, m⟩ := f
 simp only
 have hlm : (l.map oNode).length = l.length := List.length_map ..
 refine FnOK.startC (rvs := [.tmp 2]) G G_good Tryz.func13 rfl Tryz.ntmps13 rfl rfl ?_; with_reducible refine wD ?_
 by_cases e0 : (60 : Int) < (l.length : Int)
 ·rw [decide_eq_false (show ¬ l.length ≤ 60 by omega)]
  (have fct := And.intro hlm (e0); (repeat' (first
  | refine gF ?_ | refine aE ?_ ?_
  | apply trivial)); all_goals clear fct)
  all_goals rfl
 rw [decide_eq_true (show l.length ≤ 60 by omega), Bool.true_and]
 (have fct := And.intro hlm ((eq_false e0)); (repeat' (first
  | refine gF ?_ | refine aE ?_ ?_
  | apply trivial)); all_goals clear fct)
 refine LoopK.use G G_good (fun (k : Nat) => [(1, .ptr 10 0 0), (3, eInt k)]) (fun _ => [(10, .live 2 [eFor ⟨l, m⟩] false)])
  (fun k => k ≤ l.length ∧ ∀ (j : Nat) (y : NodeM), j < k → l[j]? = some y → smallX y = true) (fun k => l.length - k) 0 ⟨Nat.zero_le _, fun j y h => by omega⟩
  ⟨⟨rfl, rfl⟩, ⟨⟨rfl, rfl⟩, rfl, trivial⟩, ⟨⟨rfl, rfl, trivial⟩, trivial⟩, trivial⟩ ?_
 rintro k ⟨hk, hok⟩
 with_reducible refine wK ?_
 refine IfK.mk (fun h1 => ?_) (fun h1 => ?_) <;> (try simp only [castN] at h1) <;> with_reducible refine wK ?_
 ·have hk' : k < l.length := by simp only [decide_eq_true_eq] at h1; omega
  obtain ⟨x, hx⟩ : ∃ x, l[k]? = some x := ⟨_, List.getElem?_eq_getElem hk'⟩
  have bad : smallX x = false → l.all smallX = false := fun h => all_no hx h
  have good : smallX x = true → ∀ (j : Nat) (y : NodeM), j < k + 1 → l[j]? = some y → smallX y = true := fun h j y hj hy => by
   rcases Nat.lt_or_ge j k with h6 | h6
   ·exact hok j y h6 hy
   ·have : j = k := by omega
    subst this
    rw [hx] at hy; cases hy; exact h
  obtain ⟨a1, a2, a3, a4, a5, a6, a7, a8, a9, a10⟩ := x
  have hla : (a5.map oAttr).length = a5.length := List.length_map ..
  have hlk : (a7.map oInt).length = a7.length := List.length_map ..
  have sm : smallX ⟨a1, a2, a3, a4, a5, a6, a7, a8, a9, a10⟩ = (decide (a7.length ≤ 60) && decide (a5.length ≤ 60) && decide (a2.size ≤ 300)) := rfl
  rw [sm] at bad good
  refine IdxK.mk k (eNode _) rfl (node_get hx) ?_; with_reducible refine wK ?_
  by_cases e1 : (60 : Int) < (a7.length : Int)
  ·rw [bad (by rw [decide_eq_false (show ¬ a7.length ≤ 60 by omega)]; rfl)]
   (have fct := And.intro hlk (e1); (repeat' (first
  | refine gF ?_ | refine aE ?_ ?_
  | apply trivial)); all_goals clear fct)
  by_cases e2 : (60 : Int) < (a5.length : Int)
  ·rw [bad (by rw [decide_eq_false (show ¬ a5.length ≤ 60 by omega), Bool.and_false]; rfl)]
   (have fct := And.intro hlk (And.intro hla (And.intro (eq_false e1) (e2))); (repeat' (first
  | refine gF ?_ | refine aE ?_ ?_
  | ((refine IdxK.mk k (eNode _) rfl (node_get hx) ?_) <;> with_reducible refine wK ?_)
  | apply trivial)); all_goals clear fct)
  by_cases e3 : (300 : Int) < (a2.size : Int)
  ·rw [bad (by rw [decide_eq_false (show ¬ a2.size ≤ 300 by omega), Bool.and_false])]
   (have fct := And.intro hlk (And.intro hla (And.intro (eq_false e1) (And.intro (eq_false e2) (e3)))); (repeat' (first
  | refine gF ?_ | refine aE ?_ ?_
  | ((refine IdxK.mk k (eNode _) rfl (node_get hx) ?_) <;> with_reducible refine wK ?_)
  | apply trivial)); all_goals clear fct)
  have hnx := good (by simp only [Bool.and_eq_true, decide_eq_true_eq]; omega)
  (have fct := And.intro hlk (And.intro hla (And.intro (eq_false e1) (And.intro (eq_false e2) ((eq_false e3))))); (repeat' (first
  | refine gF ?_ | refine aE ?_ ?_
  | ((first
   | (refine IdxK.mk k (eNode _) rfl (node_get hx) ?_)
   | ((with_reducible show NextK _ _); refine NextK.mk (k + 1) ⟨by omega, hnx⟩ (by omega) ⟨⟨rfl, rfl⟩, ⟨⟨rfl, rfl⟩, by show ((k + 1 : Nat) : Int) = (k : Int) + 1; omega, trivial⟩, ⟨⟨rfl, rfl, trivial⟩, trivial⟩, trivial⟩)) <;> with_reducible refine wK ?_)
  | apply trivial)); all_goals clear fct)
 ·have hkl : k = l.length := by simp only [decide_eq_false_iff_not] at h1; omega
  rw [all_yes fun j y hy => hok j y (by have := (List.getElem?_eq_some_iff.1 hy).1; omega) hy]
  (refine eK ?_ ?_ <;> with_reducible repeat' (first | exact trivial | (show _ ∧ _; refine aK ?_ ?_)))
theorem CutK {P : Program} {N nL : Nat} {sl : SL} {m : ML} {c : Code} {Q : Exit → SL → ML → Prop} {F G : Prop} (main : (F → LoopK P N nL sl m (c := c) (Q := Q)) → G) (rest : F → LoopK P N nL sl m (c := c) (Q := Q)) : G := main rest
theorem f130_ok (g : Nat) (cg : Callable Tryz.prog g) (caps : List AV) (hcaps : noRefL caps = true) (p : Int → Bool) (l : List Int) (hl : l.length ≤ 100000) (hf : ∀ a, a ∈ l → FnOK Tryz.prog g [] (eInt a :: caps) [] (eBool (p a))) :
  FnOK Tryz.prog 130 [] [eInts l, .clo (.func g) [] caps] [] (eInt (idxI p l)) := by
 have hlm : (l.map oInt).length = l.length := List.length_map ..
 refine FnOK.startC (rvs := [.tmp 4]) G G_good Tryz.func130 rfl Tryz.ntmps130 rfl rfl ?_; with_reducible refine wD ?_
 refine LoopK.use G G_good (fun (k : Nat) => [(0, eInts l), (1, .clo (.func g) [] caps), (7, eInt l.length), (8, eInt k)]) (fun _ => []) (fun k => k ≤ l.length ∧ ∀ j x, j < k → l[j]? = some x → p x = false) (fun k => l.length - k) 0 ⟨Nat.zero_le _, fun j x h => by omega⟩
  ⟨⟨rfl, rfl⟩, ⟨rfl, ⟨rfl, trivial, MFL_refl hcaps⟩, by show (l.length : Int) = ((l.map oInt).length : Int); rw [hlm], rfl, trivial⟩, trivial⟩ ?_
 rintro k ⟨hk, hno⟩
 with_reducible refine wK ?_
 refine IfK.mk (fun h1 => ?_) (fun h1 => ?_) <;> (try simp only [castN] at h1) <;> with_reducible refine wK ?_
 ·simp only [decide_eq_true_eq] at h1
  have hk' : k < l.length := by omega
  obtain ⟨a, ha⟩ : ∃ a, l[k]? = some a := ⟨_, List.getElem?_eq_getElem hk'⟩
  refine IdxK.mk k (eInt a) rfl (int_get ha) ?_; with_reducible refine wK ?_
  refine CallK.lit [] (hf a (List.mem_of_getElem? ha)) cg ⟨rfl, MFL_refl hcaps⟩ rfl rfl ?_; with_reducible refine wK ?_
  refine IfK.mk (fun h2 => ?_) (fun h2 => ?_) <;> (try simp only [castN] at h2) <;> with_reducible refine wK ?_
  ·(refine eK ?_ ?_ <;> with_reducible repeat' (first | exact trivial | (show _ ∧ _; refine aK ?_ ?_)))
   exact idxI_hit ha h2 hno
  ·refine nK ?_; with_reducible refine wK ?_
   refine NextK.mk (k + 1) ⟨by omega, fun j x hj hx => ?_⟩ (by omega) ⟨⟨rfl, rfl⟩, ⟨rfl, ⟨rfl, trivial, MFL_refl hcaps⟩, rfl, by show ((k + 1 : Nat) : Int) = (k : Int) + 1; omega, trivial⟩, trivial⟩
   rcases Nat.lt_or_ge j k with h6 | h6
   ·exact hno j x h6 hx
   ·have : j = k := by omega
    subst this
    rw [ha] at hx; cases hx; exact h2
 ·(refine eK ?_ ?_ <;> with_reducible repeat' (first | exact trivial | (show _ ∧ _; refine aK ?_ ?_)))
  have : k = l.length := by simp only [decide_eq_false_iff_not] at h1; omega
  exact idxI_none fun j x hx => hno j x (by have := (List.getElem?_eq_some_iff.1 hx).1; omega) hx
theorem f154_ok (f : ForM) (c : Int) (hc : thereN f.nodes c = true) : FnOK Tryz.prog 154 [] [eInt c, .fptr (eFor f) 0] [] (eBool (isLeg f.nodes c)) := by
 obtain ⟨k, x, rfl, hx, hnd⟩ := there_iff.1 hc
 obtain ⟨l, m⟩ := f
 unfold isLeg
 simp only at hx hnd ⊢
 rw [hnd]
 obtain ⟨a1, a2, a3, a4, a5, a6, a7, a8, a9, a10⟩ := x
 refine FnOK.startC (rvs := [.tmp 3]) G G_good Tryz.func154 rfl Tryz.ntmps154 rfl rfl ?_; with_reducible refine wD ?_
 refine IdxK.mk k (eNode _) rfl (node_get hx) ?_; with_reducible refine wK ?_
 by_cases e1 : a1 = 1
 ·(have fct := e1; (repeat' (first
  | refine gF ?_ | refine aE ?_ ?_
  | ((refine IdxK.mk k (eNode _) rfl (node_get hx) ?_) <;> with_reducible refine wK ?_)
  | apply trivial)); all_goals clear fct)
  all_goals simp [e1]
 ·(have fct := (eq_false e1); (repeat' (first
  | refine gF ?_ | refine aE ?_ ?_
  | apply trivial)); all_goals clear fct)
  all_goals simp [e1]
theorem f119_ok (f : ForM) (hs : SmallN f.nodes) (k : Nat) (x : NodeM) (hx : f.nodes[k]? = some x) (hkids : ∀ c ∈ x.kids, thereN f.nodes c = true) : FnOK Tryz.prog 119 [] [eFor f, eInt k] [] (eInt (legN f.nodes k)) := by
 have h7 := hs.kids x (List.mem_of_getElem? hx)
 have h35 := fun c hc => f154_ok f c (hkids c hc)
 obtain ⟨l, m⟩ := f
 unfold legN kidAt
 simp only at hx h7 hkids h35 ⊢
 rw [nd_get hx]
 obtain ⟨a1, a2, a3, a4, a5, a6, a7, a8, a9, a10⟩ := x
 simp only at h7 hkids h35 ⊢
 refine FnOK.startC (rvs := [.tmp 4]) G G_good Tryz.func119 rfl Tryz.ntmps119 rfl rfl ?_; with_reducible refine wD ?_
 refine IdxK.mk k (eNode _) rfl (node_get hx) ?_; with_reducible refine wK ?_
 refine CallK.lit [20] (f130_ok 154 c154 [.fptr (eFor ⟨l, m⟩) 0] rfl (isLeg l) a7 (by omega) h35) c130 ⟨rfl, ⟨rfl, trivial, ⟨_, _, _, _, _, rfl, rfl, rfl, rfl, rfl, ⟨rfl, rfl, trivial⟩⟩, trivial⟩, trivial⟩ rfl rfl ?_; with_reducible refine wK ?_
 rcases idxI_cases (isLeg l) a7 with h | ⟨i, c, h, hi, _⟩
 ·rw [h]
  (have fct := h; (repeat' (first
  | refine gF ?_ | refine aE ?_ ?_
  | apply trivial)); all_goals clear fct)
  all_goals simp
 ·rw [h]
  (have fct := h; (repeat' (first
  | refine gF ?_ | refine aE ?_ ?_
  | ((refine IdxK.mk i (eInt c) rfl (int_get hi) ?_) <;> with_reducible refine wK ?_)
  | apply trivial)); all_goals clear fct)
  all_goals simp [hi]
theorem f118_ok (x : NodeM) (hx : x.attrs.length ≤ 100000) : FnOK Tryz.prog 118 [] [eNode x] [] (eBool (disX x)) := by
 have h14 := f47_ok x.attrs hx disW
 unfold disX
 obtain ⟨a1, a2, a3, a4, a5, a6, a7, a8, a9, a10⟩ := x
 simp only at h14 hx ⊢
 refine FnOK.startC (rvs := [.tmp 2]) G G_good Tryz.func118 rfl Tryz.ntmps118 rfl rfl ?_; with_reducible refine wD ?_
 refine cL h14 c47 ?_; with_reducible refine wK ?_
 by_cases e1 : a1 = 1
 ·(have fct := e1; (repeat' (first
  | refine gF ?_ | refine aE ?_ ?_
  | apply trivial)); all_goals clear fct)
  all_goals simp [e1]
 ·(have fct := (eq_false e1); (repeat' (first
  | refine gF ?_ | refine aE ?_ ?_
  | apply trivial)); all_goals clear fct)
  all_goals simp [e1]
theorem f121_ok (f : ForM) (n : Int) : FnOK Tryz.prog 121 [] [eInt n, .fptr (eFor f) 0] [] (eBool (!thereN f.nodes n)) := by
 have h49 := f122_ok f n
 obtain ⟨l, m⟩ := f
 simp only at h49 ⊢
 refine FnOK.startC (rvs := [.tmp 3]) G G_good Tryz.func121 rfl Tryz.ntmps121 rfl rfl ?_; with_reducible refine wD ?_
 refine cL h49 c122 ?_; with_reducible refine wK ?_
 (refine eK ?_ ?_ <;> with_reducible repeat' (first | exact trivial | (show _ ∧ _; refine aK ?_ ?_)))
 all_goals rfl
theorem f120_ok (g : Nat) (cg : Callable Tryz.prog g) (caps : List AV) (hcaps : noRefL caps = true) (p : Int → Bool) (l : List Int) (hl : l.length ≤ 100000) (hf : ∀ a, a ∈ l → FnOK Tryz.prog g [] (eInt a :: caps) [] (eBool (p a))) :
  FnOK Tryz.prog 120 [] [eInts l, .clo (.func g) [] caps] [] (eBool (decide (0 ≤ idxI p l))) := by
 have h34 := f130_ok g cg caps hcaps p l hl hf
 refine FnOK.startC (rvs := [.tmp 4]) G G_good Tryz.func120 rfl Tryz.ntmps120 rfl rfl ?_; with_reducible refine wD ?_
 refine CallK.lit [] h34 c130 ⟨rfl, ⟨rfl, trivial, MFL_refl hcaps⟩, trivial⟩ rfl rfl ?_; with_reducible refine wK ?_
 (refine eK ?_ ?_ <;> with_reducible repeat' (first | exact trivial | (show _ ∧ _; refine aK ?_ ?_)))
 all_goals rfl
theorem f76_ok (f : ForM) (hs : SmallN f.nodes) (l : List Int) (hl : l.length ≤ 100000) : FnOK Tryz.prog 76 [] [eFor f, eInts l] [] (eBool (rightF f && !decide (0 ≤ idxI (fun n => !thereN f.nodes n) l))) := by
 have h23 := f54_ok f hs
 have h47 := f120_ok 121 c121 [.fptr (eFor f) 0] rfl (fun n => !thereN f.nodes n) l hl (fun a _ => f121_ok f a)
 obtain ⟨ns, m⟩ := f
 simp only at h23 h47 ⊢
 refine FnOK.startC (rvs := [.tmp 4]) G G_good Tryz.func76 rfl Tryz.ntmps76 rfl rfl ?_; with_reducible refine wD ?_
 refine cL h23 c54 ?_; with_reducible refine wK ?_
 cases hr : rightF ⟨ns, m⟩ with
 | false =>
   (have fct := hr; (repeat' (first
  | refine gF ?_ | refine aE ?_ ?_
  | apply trivial)); all_goals clear fct)
   all_goals rfl
 | true =>
   refine IfK.tt ?_; with_reducible refine wK ?_
   refine CallK.lit [50] h47 c120 ⟨rfl, ⟨rfl, trivial, ⟨_, _, _, _, _, rfl, rfl, rfl, rfl, rfl, ⟨rfl, rfl, trivial⟩⟩, trivial⟩, trivial⟩ rfl rfl ?_; with_reducible refine wK ?_
   (refine eK ?_ ?_ <;> with_reducible repeat' (first | exact trivial | (show _ ∧ _; refine aK ?_ ?_)))
   all_goals rfl
end Go.Proofs.Heir
namespace Go.Proofs.Heir
open Go Go.Am Go.RowKit Go.Shelf
set_option maxRecDepth 100000
set_option maxHeartbeats 8000000
theorem ints_box {Wn : Nat → Prop} {μ : Mu} {W : World} {l : List Int} {b o : Nat} (h : Rep Wn μ W (.fptr (.sl 1 (l.map oInt)) 0) (.pointer (some ⟨b, o, none⟩))) :
  ∃ ad cap, W.cell? ⟨b, o, none⟩ = some (.slice ad l.length cap) ∧ l.length ≤ cap ∧ ∀ (j : Nat) (x : Int), l[j]? = some x → ∃ b2 o2, ad = some ⟨b2, o2, none⟩ ∧ W.cell? ⟨b2, o2 + j, none⟩ = some (.int .i64 x) := by
 generalize hv : Value.pointer (some ⟨b, o, none⟩) = v at h
 cases h with
 | @fptr _ _ b' o' f h1 h2 h3 h4 h5 =>
   cases hv
   have k3 := h3 0 _ rfl
   have k4 := h4 0 _ rfl
   rw [Nat.add_zero] at k3
   rw [Nat.add_zero, k3]
   generalize f 0 = s at k4
   cases hl : l with
   | nil =>
     subst hl
     cases k4 with
     | slNil => exact ⟨_, _, rfl, Nat.zero_le _, fun j x h => by simp at h⟩
     | sl a1 a2 a3 a4 a5 a6 a7 a8 => subst a3; exact ⟨_, _, rfl, Nat.zero_le _, fun j x h => by simp at h⟩
   | cons y r =>
     rw [← hl]
     generalize hrows : l.map oInt = rows at k4
     have hne : rows ≠ [] := by rw [← hrows, hl]; simp
     cases k4 with
     | slNil => exact absurd rfl hne
     | sl a1 a2 a3 a4 a5 a6 a7 a8 =>
       subst a3
       have hlen : rows.length = l.length := by rw [← hrows]; simp
       refine ⟨_, _, by rw [hlen], by rw [← hlen]; exact a4, fun j x hx => ⟨_, _, rfl, ?_⟩⟩
       have hr : rows[j]? = some (oInt x) := by rw [← hrows, List.getElem?_map, hx]; rfl
       have hq := flat_get (wd := 1) (fun i r hr => a5 i r hr) hr (show (cells (oInt x))[0]? = some (oInt x) from rfl)
       rw [Nat.mul_one, Nat.add_zero] at hq
       have c1 := a6 j _ hq
       have c2 := a7 j _ hq
       have one : ∀ v, Rep Wn μ W (oInt x) v → v = .int .i64 x := by intro v hv; unfold oInt at hv; cases hv; rfl
       rw [c1, one _ c2]
theorem back_it (l : List Int) (hl : l.length ≤ 100000) : ItOK Tryz.prog 155 [.fptr (.sl 1 (l.map oInt)) 0] l.length (fun k => [oInt ((l.length : Int) - 1 - k), oInt ((l.reverse[k]?).getD 0)]) := by
 intro vals y J Jx hJ hJm hJxm _ hY Wn w h0
 obtain ⟨⟨μ, hr⟩, _⟩ := hJ 0 Wn w h0
 obtain ⟨vb, us, rfl, hvb, hus⟩ := RepL.uncons hr
 obtain rfl := RepL.unnil hus
 obtain ⟨b, o, rfl⟩ : ∃ b o, vb = .pointer (some ⟨b, o, none⟩) := by cases hvb; exact ⟨_, _, rfl⟩
 have box : ∀ k Wn W, J k Wn W → ∃ ad cap, W.cell? ⟨b, o, none⟩ = some (.slice ad l.length cap) ∧ l.length ≤ cap ∧ ∀ (j : Nat) (x : Int), l[j]? = some x → ∃ b2 o2, ad = some ⟨b2, o2, none⟩ ∧ W.cell? ⟨b2, o2 + j, none⟩ = some (.int .i64 x) := by
  intro k Wn W hJk
  obtain ⟨⟨μ, hr⟩, _⟩ := hJ k Wn W hJk
  obtain ⟨v1, us, e, hv1, _⟩ := RepL.uncons hr
  cases e
  exact ints_box hv1
 refine (callsIn_wide (n := 1)).1 ?_
 refine callsIn_of_wp Tryz.func155 rfl trivial ?_ rfl
 simp only [Tryz.ntmps155, List.size_toArray, List.length_cons, List.length_nil, Nat.reduceAdd, Nat.reduceSub, Array.replicate_succ, Array.replicate_zero, List.push_toArray, List.append_toArray, List.nil_append, List.cons_append]
 obtain ⟨ad, cap, hbx, hcap, hel⟩ := box 0 Wn w h0
 gi_wp2
 gi_loopw [3] (fun i wr => ∃ k : Nat, k ≤ l.length ∧ i = .int .i64 ((l.length : Int) - 1 - k) ∧ ∃ Wn, J k Wn wr) (fun i _ => (intOf i + 1).toNat)
 case atStart => exact ⟨0, Nat.zero_le _, by simp, Wn, h0⟩
 case round =>
  obtain ⟨k, hk, rfl, Wn', hJk⟩ := hrel
  obtain ⟨ad', cap', hbx', hcap', hel'⟩ := box k Wn' wr hJk
  by_cases hlt : k < l.length
  ·have hix : l.length - 1 - k < l.length := by omega
   obtain ⟨b2, o2, rfl, hcx⟩ := hel' (l.length - 1 - k) l[l.length - 1 - k] (List.getElem?_eq_getElem hix)
   have hrev : (l.reverse[k]?).getD 0 = l[l.length - 1 - k] := by
    rw [List.getElem?_eq_getElem (by simpa using hlt)]; simp
   obtain ⟨fn, tmps, assign, body, hy, hR⟩ := hY k Wn' wr [.int .i64 ((l.length : Int) - 1 - k), .int .i64 (l[l.length - 1 - k])] hlt hJk (fun _ _ _ => by rw [hrev]; exact .cons .lit (.cons .lit .nil))
   have hz : ((l.length : Int) - 1 - k).toNat = l.length - 1 - k := by omega
   gi_wp2
   refine hR.mono ?_
   rintro e W3 (⟨rfl, Wn3, hJ3, _⟩ | ⟨rfl, hJx3⟩)
   ·gi_wp2
    go_roundw
    case rel => exact ⟨k + 1, by omega, by congr 1; omega, Wn3, hJ3⟩
    case measure => simp [intOf]; omega
   ·gi_wp2
    refine bodyPost_ret (results_none rfl _ _ _) rfl ?_
    exact ⟨⟨_, rfl⟩, .inr hJx3⟩
  ·obtain rfl : k = l.length := by omega
   gi_wp2
   go_end0
   exact ⟨⟨_, rfl⟩, .inl ⟨_, hJk⟩⟩
end Go.Proofs.Heir
namespace Go.Proofs.Heir
open Go Go.Am Go.RowKit Go.Lib
set_option maxRecDepth 100000
set_option maxHeartbeats 8000000
theorem f152_ok (f : ForM) (n : Int) : FnOK Tryz.prog 152 [] [eInt n, .fptr (eFor f) 0] [] (eBool (!thereN f.nodes n)) := by
 obtain ⟨l, m⟩ := f
 have hlm : (l.map oNode).length = l.length := List.length_map ..
 refine FnOK.startC (rvs := [.tmp 3]) G G_good Tryz.func152 rfl Tryz.ntmps152 rfl rfl ?_; with_reducible refine wD ?_
 repeat' (first
  | refine pK ?_ | refine aE ?_ ?_
  | ((first
   | ((with_reducible show IfK _ _ _ _); (refine IfK.mk (fun hp => ?_) (fun hp => ?_) <;> (try simp only [castN, decide_eq_true_eq, decide_eq_false_iff_not, Bool.not_eq_true', Bool.not_eq_false', Decidable.not_not, Int.not_lt, Int.not_le] at hp)))) <;> with_reducible refine wK ?_)
  | apply trivial)
 ·unfold thereN; rw [decide_eq_false (show ¬ 0 ≤ n by omega)]; rfl
 ·unfold thereN; rw [decide_eq_true hp, hlm, Bool.true_and, ← decide_not]
  exact decide_eq_decide.2 Int.not_lt
theorem f106_ok (f : ForM) (hs : SmallN f.nodes) (l : List Int) (hl : l.length ≤ 100000) : FnOK Tryz.prog 106 [] [eFor f, eInts l] [] (eBool (rightF f && !decide (0 ≤ idxI (fun n => !thereN f.nodes n) l))) := by
 have h48 := f15_ok f hs
 have h106 := f120_ok 152 c152 [.fptr (eFor f) 0] rfl (fun n => !thereN f.nodes n) l hl (fun a _ => f152_ok f a)
 obtain ⟨ns, m⟩ := f
 simp only at h48 h106 ⊢
 refine FnOK.startC (rvs := [.tmp 4]) G G_good Tryz.func106 rfl Tryz.ntmps106 rfl rfl ?_; with_reducible refine wD ?_
 refine cL h48 c15 ?_; with_reducible refine wK ?_
 cases h0 : rightF ⟨ns, m⟩ with
 | false =>
   repeat' (first
  | refine gK ?_ | refine aE ?_ ?_
  | apply trivial)
   all_goals rfl
 | true =>
   repeat' (first
  | refine gK ?_ | refine aE ?_ ?_
  | apply trivial)
   refine CallK.lit [20] h106 c120 ⟨rfl, ⟨rfl, trivial, ⟨_, _, _, _, _, rfl, rfl, rfl, rfl, rfl, ⟨rfl, rfl, trivial⟩⟩, trivial⟩, trivial⟩ rfl rfl ?_; with_reducible refine wK ?_
   repeat' (first
  | refine gK ?_ | refine aE ?_ ?_
  | apply trivial)
   all_goals rfl
theorem f123_ok (l : List Int) : FnOK Tryz.prog 123 [] [eInts l] [] (.clo (.func 155) [] [.fptr (eInts l) 0]) := by
 refine FnOK.startC (rvs := [.tmp 2]) G G_good Tryz.func123 rfl Tryz.ntmps123 rfl rfl ?_; with_reducible refine wD ?_
 refine ⟨⟨rfl, rfl⟩, ⟨rfl, trivial, ⟨_, _, _, _, _, rfl, rfl, rfl, rfl, rfl, rfl⟩, trivial⟩, ?_⟩
 exact trivial
end Go.Proofs.Heir
namespace Go.Proofs.Heir
open Go Go.Am Go.RowKit Go.Shelf
set_option maxRecDepth 100000
set_option maxHeartbeats 8000000
theorem sl_val {Wn : Nat → Prop} {μ : Mu} {W : World} {wd : Nat} {rows : List AV} {v : Value} (h : Rep Wn μ W (.sl wd rows) v) : ∃ a n c, v = .slice a n c := by
 cases h <;> exact ⟨_, _, _, rfl⟩
end Go.Proofs.Heir
namespace Go.Proofs.Heir
open Go Go.Am Go.RowKit Go.Lib
set_option maxRecDepth 100000
set_option maxHeartbeats 8000000
structure DefM where
 name : ByteArray
 locl : ByteArray
 cls : Int
 deriving DecidableEq
structure WaitM where
 name : ByteArray
 ticket : Int
 deriving DecidableEq
structure DeskM where
 defs : List DefM
 waits : List WaitM
 next : Int
 busy : Bool
 deriving DecidableEq
def knowS (s : ByteArray) : Bool := hasW knowL s
def localB (x : DefM) : Bool := decide (x.locl = x.name) || knowS x.locl
def goodD (x : DefM) : Bool := customS x.name && localB x && decide (0 ≤ x.cls) && decide (x.cls < 12)
def hasN (s : ByteArray) (x : DefM) : Bool := decide (x.name = s)
def ixI {α : Type} (p : α → Bool) (l : List α) : Int := match l.findIdx? p with
 | some k => (k : Int)
 | none => -1
def posN (l : List DefM) (s : ByteArray) : Int := ixI (hasN s) l
def okW (l : List DefM) (next : Int) (w : WaitM) (last : Int) : Bool := customS w.name && decide (posN l w.name = -1) && decide (last < w.ticket) && decide (w.ticket < next)
def waitsB (l : List DefM) (next : Int) : Int → List WaitM → Bool
 | _, [] => true
 | last, w :: r => okW l next w last && waitsB l next w.ticket r
def defsB (l : List DefM) : Bool := l.all goodD && decide ((l.map DefM.name).Nodup) && decide ((l.map DefM.cls).Nodup)
def rightD (d : DeskM) : Bool := defsB d.defs && waitsB d.defs d.next (-1) d.waits && decide (0 ≤ d.next) && decide (d.next ≤ 100000)
theorem ixI_cases {α : Type} (p : α → Bool) (l : List α) : (ixI p l = -1 ∧ ∀ a ∈ l, p a = false) ∨ ∃ (k : Nat) (a : α), ixI p l = k ∧ l[k]? = some a ∧ p a = true ∧ ∀ (j : Nat) (b : α), j < k → l[j]? = some b → p b = false := by
 unfold ixI
 cases h : l.findIdx? p with
 | none => exact .inl ⟨rfl, by simpa using h⟩
 | some k =>
   rw [List.findIdx?_eq_some_iff_getElem] at h
   obtain ⟨hk, h1, h2⟩ := h
   refine .inr ⟨k, l[k], rfl, List.getElem?_eq_getElem hk, h1, fun j b hj hb => ?_⟩
   obtain ⟨hjl, rfl⟩ := List.getElem?_eq_some_iff.1 hb
   simpa using h2 j hj
theorem defsB_iff {l : List DefM} : defsB l = true ↔ (∀ x ∈ l, goodD x = true) ∧ (l.map DefM.name).Nodup ∧ (l.map DefM.cls).Nodup := by
 unfold defsB; simp [List.all_eq_true, and_assoc]
def emptyS : ByteArray := ⟨#[]⟩
theorem goodD_facts {x : DefM} (h : goodD x = true) : customS x.name = true ∧ (x.locl = x.name ∨ knowS x.locl = true) ∧ 0 ≤ x.cls ∧ x.cls < 12 := by
 unfold goodD localB at h; simp only [Bool.and_eq_true, Bool.or_eq_true, decide_eq_true_eq] at h
 exact ⟨h.1.1.1, h.1.1.2, h.1.2, h.2⟩
section
variable {K : Type} [DecidableEq K] (key : DefM → K)
def ixFrom (i : Nat) (t : List (K × Int)) : List DefM → List (K × Int)
 | [] => t
 | x :: r => ixFrom (i + 1) (tput (key x) (i : Int) t) r
def ixT (l : List DefM) : List (K × Int) := ixFrom key 0 [] l
theorem ixFrom_snoc (x : DefM) : ∀ (l : List DefM) (i : Nat) (t : List (K × Int)), ixFrom key i t (l ++ [x]) = tput (key x) ((i + l.length : Nat) : Int) (ixFrom key i t l)
 | [], i, t => rfl
 | y :: r, i, t => by
   rw [List.cons_append, ixFrom, ixFrom_snoc x r, ixFrom, List.length_cons]
   congr 2
   omega
theorem ixT_snoc {l : List DefM} {k : Nat} {x : DefM} (h : l[k]? = some x) : ixT key (l.take (k + 1)) = tput (key x) (k : Int) (ixT key (l.take k)) := by
 have hk := (List.getElem?_eq_some_iff.1 h).1
 rw [List.take_succ_eq_append_getElem hk, (List.getElem?_eq_some_iff.1 h).2]
 unfold ixT
 rw [ixFrom_snoc, List.length_take]
 congr 2
 omega
theorem tputI_len (k : K) (x : Int) : ∀ t : List (K × Int), (tput k x t).length = if (tget k t).isSome then t.length else t.length + 1
 | [] => rfl
 | p :: r => by
   simp only [tput, tget]
   split
   ·simp
   ·rw [List.length_cons, tputI_len k x r]; split <;> simp
theorem ixFrom_len : ∀ (l : List DefM) (i : Nat) (t : List (K × Int)), (ixFrom key i t l).length ≤ t.length + l.length ∧ ((ixFrom key i t l).length = t.length + l.length ↔ (l.map key).Nodup ∧ ∀ a ∈ l, (tget (key a) t).isSome = false)
 | [], i, t => by simp [ixFrom]
 | a :: r, i, t => by
   obtain ⟨h1, h2⟩ := ixFrom_len r (i + 1) (tput (key a) (i : Int) t)
   have hl := tputI_len (key a) (i : Int) t
   show (ixFrom key (i + 1) (tput (key a) (i : Int) t) r).length ≤ _ ∧ ((ixFrom key (i + 1) (tput (key a) (i : Int) t) r).length = _ ↔ _)
   cases hg : (tget (key a) t).isSome with
   | true =>
     rw [hg, if_pos rfl] at hl
     refine ⟨by simp only [List.length_cons]; omega, ⟨fun h => ?_, fun h => ?_⟩⟩
     ·simp only [List.length_cons] at h; omega
     ·have := h.2 a (by simp); rw [hg] at this; cases this
   | false =>
     rw [hg, if_neg (by simp)] at hl
     refine ⟨by simp only [List.length_cons]; omega, ?_⟩
     rw [show (ixFrom key (i + 1) (tput (key a) (i : Int) t) r).length = t.length + (a :: r).length ↔ (ixFrom key (i + 1) (tput (key a) (i : Int) t) r).length = (tput (key a) (i : Int) t).length + r.length from by rw [hl, List.length_cons]; omega, h2]
     simp only [List.map_cons, List.nodup_cons, List.mem_cons, forall_eq_or_imp]
     constructor
     ·rintro ⟨k1, k2⟩
      refine ⟨⟨fun hm => ?_, k1⟩, hg, fun b hb => ?_⟩
      ·obtain ⟨b, hb, he⟩ := List.mem_map.1 hm
       have := k2 b hb
       rw [tget_put, he, if_pos rfl] at this; cases this
      ·have := k2 b hb
       rw [tget_put] at this
       split at this
       ·cases this
       ·exact this
     ·rintro ⟨⟨k1, k2⟩, _, k3⟩
      refine ⟨k2, fun b hb => ?_⟩
      rw [tget_put, if_neg (fun e => k1 (List.mem_map.2 ⟨b, hb, e.symm⟩))]
      exact k3 b hb
theorem ixT_len (l : List DefM) : (ixT key l).length = l.length ↔ (l.map key).Nodup := by
 have := (ixFrom_len key l 0 []).2
 simp only [List.length_nil, Nat.zero_add] at this
 exact this.trans ⟨fun h => h.1, fun h => ⟨h, fun _ _ => rfl⟩⟩
theorem ixT_le (l : List DefM) : (ixT key l).length ≤ l.length := by
 have := (ixFrom_len key l 0 []).1
 simp only [List.length_nil, Nat.zero_add] at this
 exact this
theorem ixFrom_miss {s : K} : ∀ (l : List DefM) (i : Nat) (t : List (K × Int)), (∀ a ∈ l, key a ≠ s) → tget s (ixFrom key i t l) = tget s t
 | [], i, t, _ => rfl
 | a :: r, i, t, h => by
   rw [ixFrom, ixFrom_miss r (i + 1) _ fun b hb => h b (List.mem_cons_of_mem _ hb), tget_put, if_neg (h a (List.mem_cons_self ..))]
theorem ixFrom_hit {s : K} : ∀ (l : List DefM) (i : Nat) (t : List (K × Int)) (j : Nat) (a : DefM), (l.map key).Nodup → l[j]? = some a → key a = s → tget s (ixFrom key i t l) = some ((i + j : Nat) : Int)
 | [], i, t, j, a, _, h, _ => by simp at h
 | x :: r, i, t, 0, a, hn, h, he => by
   simp at h; subst h
   simp only [List.map_cons, List.nodup_cons] at hn
   rw [ixFrom, ixFrom_miss key r (i + 1) _ fun b hb e => hn.1 (List.mem_map.2 ⟨b, hb, e.trans he.symm⟩), tget_put, if_pos he]
   rfl
 | x :: r, i, t, j + 1, a, hn, h, he => by
   simp only [List.map_cons, List.nodup_cons] at hn
   rw [ixFrom, ixFrom_hit r (i + 1) _ j a hn.2 (by simpa using h) he]
   congr 1; omega
theorem ixT_miss {l : List DefM} {s : K} (h : ∀ a ∈ l, key a ≠ s) : tget s (ixT key l) = none := ixFrom_miss key l 0 [] h
theorem ixT_hit {l : List DefM} {s : K} {j : Nat} {a : DefM} (hn : (l.map key).Nodup) (h : l[j]? = some a) (he : key a = s) : tget s (ixT key l) = some (j : Int) := by
 have := ixFrom_hit key l 0 [] j a hn h he
 simpa [ixT] using this
end
def kN (x : DefM) : ByteArray := x.name
def kC (x : DefM) : Int := x.cls
theorem tgetN {l : List DefM} (h : (l.map DefM.name).Nodup) (s : ByteArray) : (tget s (ixT kN l) = none ∧ posN l s = -1) ∨ ∃ (k : Nat) (x : DefM), tget s (ixT kN l) = some (k : Int) ∧ posN l s = k ∧ l[k]? = some x ∧ x.name = s := by
 rcases ixI_cases (hasN s) l with ⟨h1, h2⟩ | ⟨k, x, h1, h2, h3, _⟩
 ·exact .inl ⟨ixT_miss kN fun a ha => of_decide_eq_false (h2 a ha), h1⟩
 ·have he : x.name = s := of_decide_eq_true h3
  exact .inr ⟨k, x, ixT_hit kN h h2 he, h1, h2, he⟩
def procL (l : List DefM) : List DefM := l.take ((l.takeWhile goodD).length + 1)
theorem takeW_all {l : List DefM} (h : ∀ x ∈ l, goodD x = true) : l.takeWhile goodD = l := by
 induction l with
 | nil => rfl
 | cons x r ih => rw [List.takeWhile_cons_of_pos (h x (List.mem_cons_self ..)), ih fun y hy => h y (List.mem_cons_of_mem _ hy)]
theorem procL_all {l : List DefM} (h : ∀ x ∈ l, goodD x = true) : procL l = l := by
 unfold procL
 rw [takeW_all h, List.take_of_length_le (by omega)]
theorem procL_bad {l : List DefM} {k : Nat} {x : DefM} (h : ∀ (j : Nat) (y : DefM), j < k → l[j]? = some y → goodD y = true) (hx : l[k]? = some x) (hb : goodD x = false) : procL l = l.take (k + 1) := by
 unfold procL
 have hk := (List.getElem?_eq_some_iff.1 hx).1
 have e : l = l.take k ++ x :: l.drop (k + 1) := by
  rw [← (List.getElem?_eq_some_iff.1 hx).2, List.getElem_cons_drop, List.take_append_drop]
 have hg : ∀ y ∈ l.take k, goodD y = true := fun y hy => by
  obtain ⟨j, hj⟩ := List.getElem?_of_mem hy
  rw [List.getElem?_take] at hj
  split at hj
  ·rename_i hjk; exact h j y hjk hj
  ·cases hj
 have : (l.takeWhile goodD).length = k := by
  conv => lhs; rw [e]
  rw [List.takeWhile_append_of_pos hg, List.takeWhile_cons_of_neg (by simp [hb])]
  simp; omega
 rw [this]
@[reducible] def eDef (x : DefM) : AV := .agg [eStr x.name, eStr x.locl, eInt x.cls]
def oDef (x : DefM) : AV := eDef x
@[reducible] def eDefs (l : List DefM) : AV := .sl 3 (l.map oDef)
@[reducible] def eWait (w : WaitM) : AV := .agg [eStr w.name, eInt w.ticket]
def oWait (w : WaitM) : AV := eWait w
@[reducible] def eWaits (l : List WaitM) : AV := .sl 2 (l.map oWait)
@[reducible] def eDesk (d : DeskM) : AV := .agg [eDefs d.defs, eWaits d.waits, eInt d.next, eBool d.busy]
theorem def_get {l : List DefM} {k : Nat} {x : DefM} (h : l[k]? = some x) : (l.map oDef)[k]? = some (eDef x) := by rw [List.getElem?_map, h]; rfl
theorem wait_get {l : List WaitM} {k : Nat} {x : WaitM} (h : l[k]? = some x) : (l.map oWait)[k]? = some (eWait x) := by rw [List.getElem?_map, h]; rfl
@[reducible] def rN (l : List DefM) : MS := .live 2 (tRows Value.string oInt (ixT kN l)) false
@[reducible] def rC (l : List DefM) : MS := .live 2 (tRows vInt oInt (ixT kC l)) false
theorem noRef_tab {K : Type} (kv : K → Value) (t : List (K × Int)) : noRefL (tRows kv oInt t) = true := by
 rw [noRefL_iff]; intro x hx
 obtain ⟨a, _, rfl⟩ := List.mem_map.1 hx
 rfl
theorem map62 : MapTy Tryz.prog 134 .string (.int .i64 0) := ⟨9, 3, by kernel_rfl, by kernel_rfl, fun w => Tryz.zeroValue3 w⟩
theorem map63 : MapTy Tryz.prog 135 (.int .i64) (.int .i64 0) := ⟨3, 3, by kernel_rfl, by kernel_rfl, fun w => Tryz.zeroValue3 w⟩
theorem f91_at {s : ByteArray} {b : Bool} (h : customS s = b) : FnOK Tryz.prog 91 [] [eStr s] [] (eBool b) := by have := f91_ok s; rwa [h] at this
theorem f99_at {s : ByteArray} {b : Bool} (h : knowS s = b) : FnOK Tryz.prog 99 [] [eStr s] [] (eBool b) := by have := f99_ok s; unfold knowS at h; rwa [h] at this
theorem f150_ok (d : DeskM) (hl : d.defs.length ≤ 100000) : FnOK Tryz.prog 150 [] [eDesk d] [rN (procL d.defs), rC (procL d.defs)] (.tup [.agg [.mapr 0, .mapr 1], eBool (defsB d.defs)]) := by
 obtain ⟨l, ws, nx, bz⟩ := d
 have hlm : (l.map oDef).length = l.length := List.length_map ..
 refine FnOK.startC (rvs := [.cell 2 137, .tmp 3]) G G_good Tryz.func150 rfl Tryz.ntmps150 rfl rfl ?_; with_reducible refine wD ?_
 have hl' : l.length ≤ 100000 := hl
 refine LoopK.use G G_good (fun (k : Nat) => [(1, .ptr 10 0 0), (2, .ptr 20 0 0), (4, .ptr 40 0 0), (12, eDefs l), (13, eInt l.length), (14, eInt k)])
  (fun k => [(10, .live 4 [eDesk ⟨l, ws, nx, bz⟩] false), (20, .live 2 [.agg [.lit (.map none), .lit (.map none)]] false), (40, .live 2 [.agg [.mapr 81, .mapr 91]] false), (81, rN (l.take k)), (91, rC (l.take k))])
  (fun k => k ≤ l.length ∧ ∀ (j : Nat) (y : DefM), j < k → l[j]? = some y → goodD y = true) (fun k => l.length - k) 0 ⟨Nat.zero_le _, fun j y h => by omega⟩
  ⟨⟨rfl, rfl⟩, ⟨⟨rfl, rfl⟩, ⟨rfl, rfl⟩, ⟨rfl, rfl⟩, rfl, by show (l.length : Int) = ((l.map oDef).length : Int); rw [hlm], rfl, trivial⟩, ⟨⟨rfl, rfl, rfl, rfl, trivial⟩, trivial⟩, ⟨⟨⟨rfl, rfl⟩, ⟨rfl, rfl⟩, trivial⟩, trivial⟩, ⟨⟨trivial, trivial, trivial⟩, trivial⟩, ⟨.refl rfl, rfl⟩, ⟨.refl rfl, rfl⟩, trivial⟩ ?_
 intro k ⟨hk, hok⟩
 with_reducible refine wK ?_
 refine IfK.mk (fun h1 => ?_) (fun h1 => ?_) <;> (try simp only [castN] at h1) <;> with_reducible refine wK ?_
 ·simp only [decide_eq_true_eq] at h1
  have hk' : k < l.length := by omega
  obtain ⟨⟨n, lo, c⟩, hx⟩ : ∃ a, l[k]? = some a := ⟨_, List.getElem?_eq_getElem hk'⟩
  refine IdxK.mk k (eDef ⟨n, lo, c⟩) rfl (def_get hx) ?_; with_reducible refine wK ?_
  have hle1 : (ixT kN (l.take k)).length ≤ k := Nat.le_trans (ixT_le _ _) (by simp; omega)
  have hle2 : (ixT kC (l.take k)).length ≤ k := Nat.le_trans (ixT_le _ _) (by simp; omega)
  refine PutK.tab Value.string oInt (ixT kN (l.take k)) (k := n) (k : Int) map62 rfl key_str inj_str (by unfold maxLen; omega) rfl ?_; with_reducible refine wK ?_
  refine PutK.tab vInt oInt (ixT kC (l.take k)) (k := c) (k : Int) map63 rfl key_int inj_int (by unfold maxLen; omega) rfl ?_; with_reducible refine wK ?_
  have e1 : tput n (k : Int) (ixT kN (l.take k)) = ixT kN (l.take (k + 1)) := (ixT_snoc kN hx).symm
  have e2 : tput c (k : Int) (ixT kC (l.take k)) = ixT kC (l.take (k + 1)) := (ixT_snoc kC hx).symm
  rw [e1, e2]
  refine dK ?_; with_reducible refine wK ?_
  cases hg : goodD ⟨n, lo, c⟩ with
  | true =>
    obtain ⟨g1, g2, g3, g4⟩ := goodD_facts hg
    simp only at g1 g2 g3 g4
    have hnext : ∀ (j : Nat) (y : DefM), j < k + 1 → l[j]? = some y → goodD y = true := fun j y hj hy => by
     by_cases e : j = k
     ·subst e; rw [hx] at hy; cases hy; exact hg
     ·exact hok j y (by omega) hy
    by_cases e : lo = n
    ·(have fct := And.intro e (And.intro g1 (And.intro g3 (g4))); (repeat' (first
  | refine gF ?_ | refine aE ?_ ?_
  | ((first
   | ((with_reducible refine kQ 91 ?_); refine cL (f91_at g1) c91 ?_)
   | ((with_reducible show NextK _ _); refine NextK.mk (k + 1) ⟨by omega, hnext⟩ (by omega) ⟨⟨rfl, rfl⟩, ⟨⟨rfl, rfl⟩, ⟨rfl, rfl⟩, ⟨rfl, rfl⟩, rfl, rfl, by show ((k + 1 : Nat) : Int) = (k : Int) + 1; omega, trivial⟩, ⟨⟨rfl, rfl, rfl, rfl, trivial⟩, trivial⟩, ⟨⟨⟨rfl, rfl⟩, ⟨rfl, rfl⟩, trivial⟩, trivial⟩, ⟨⟨trivial, trivial, trivial⟩, trivial⟩, ⟨.refl (noRef_tab _ _), noRef_tab _ _⟩, ⟨.refl (noRef_tab _ _), noRef_tab _ _⟩, trivial⟩)) <;> with_reducible refine wK ?_)
  | apply trivial)); all_goals clear fct)
    ·have g2' := g2.resolve_left e
     (have fct := And.intro e (And.intro g1 (And.intro g2' (And.intro g3 (g4)))); (repeat' (first
  | refine gF ?_ | refine aE ?_ ?_
  | ((first
   | ((with_reducible refine kQ 91 ?_); refine cL (f91_at g1) c91 ?_)
   | ((with_reducible refine kQ 99 ?_); refine cL (f99_at g2') c99 ?_)
   | ((with_reducible show NextK _ _); refine NextK.mk (k + 1) ⟨by omega, hnext⟩ (by omega) ⟨⟨rfl, rfl⟩, ⟨⟨rfl, rfl⟩, ⟨rfl, rfl⟩, ⟨rfl, rfl⟩, rfl, rfl, by show ((k + 1 : Nat) : Int) = (k : Int) + 1; omega, trivial⟩, ⟨⟨rfl, rfl, rfl, rfl, trivial⟩, trivial⟩, ⟨⟨⟨rfl, rfl⟩, ⟨rfl, rfl⟩, trivial⟩, trivial⟩, ⟨⟨trivial, trivial, trivial⟩, trivial⟩, ⟨.refl (noRef_tab _ _), noRef_tab _ _⟩, ⟨.refl (noRef_tab _ _), noRef_tab _ _⟩, trivial⟩)) <;> with_reducible refine wK ?_)
  | apply trivial)); all_goals clear fct)
  | false =>
    have hpr : procL l = l.take (k + 1) := procL_bad hok hx hg
    have hdb : defsB l = false := by
     cases h : defsB l with
     | false => rfl
     | true => rw [(defsB_iff.1 h).1 _ (List.mem_of_getElem? hx)] at hg; cases hg
    have hgood : ∀ {p : Prop}, (customS n = true ∧ (lo = n ∨ knowS lo = true) ∧ 0 ≤ c ∧ c < 12) → p := fun h => by
     exfalso
     have : goodD ⟨n, lo, c⟩ = true := by
      obtain ⟨a1, a2, a3, a4⟩ := h
      unfold goodD localB
      simp only [a1, a3, a4, decide_true, Bool.and_true, Bool.true_and]
      rcases a2 with a2 | a2
      ·rw [decide_eq_true a2]; rfl
      ·rw [a2]; simp
     rw [hg] at this; cases this
    rw [hpr, hdb]
    by_cases e : lo = n
    ·cases hc : customS n with
     | false => ((have fct := e; (repeat' (first
  | refine gF ?_ | refine aE ?_ ?_
  | (((with_reducible refine kQ 91 ?_); refine cL (f91_at hc) c91 ?_) <;> with_reducible refine wK ?_)
  | apply trivial)); all_goals clear fct)) <;> first | exact MFL_refl (noRef_tab _ _) | exact ⟨.refl (noRef_tab _ _), noRef_tab _ _⟩ | rfl
     | true =>
       by_cases h3 : c < 0
       ·((have fct := And.intro e (h3); (repeat' (first
  | refine gF ?_ | refine aE ?_ ?_
  | (((with_reducible refine kQ 91 ?_); refine cL (f91_at hc) c91 ?_) <;> with_reducible refine wK ?_)
  | apply trivial)); all_goals clear fct)) <;> first | exact MFL_refl (noRef_tab _ _) | exact ⟨.refl (noRef_tab _ _), noRef_tab _ _⟩ | rfl
       ·by_cases h4 : c < 12
        ·exact hgood ⟨hc, .inl e, by omega, h4⟩
        ·((have fct := And.intro e (And.intro h3 (h4)); (repeat' (first
  | refine gF ?_ | refine aE ?_ ?_
  | (((with_reducible refine kQ 91 ?_); refine cL (f91_at hc) c91 ?_) <;> with_reducible refine wK ?_)
  | apply trivial)); all_goals clear fct)) <;> first | exact MFL_refl (noRef_tab _ _) | exact ⟨.refl (noRef_tab _ _), noRef_tab _ _⟩ | rfl
    ·cases hkn : knowS lo with
     | false => cases hc : customS n <;> ((have fct := e; (repeat' (first
  | refine gF ?_ | refine aE ?_ ?_
  | ((first
   | ((with_reducible refine kQ 91 ?_); refine cL (f91_at hc) c91 ?_)
   | ((with_reducible refine kQ 99 ?_); refine cL (f99_at hkn) c99 ?_)) <;> with_reducible refine wK ?_)
  | apply trivial))                         ; all_goals clear fct)) <;> first | exact MFL_refl (noRef_tab _ _) | exact ⟨.refl (noRef_tab _ _), noRef_tab _ _⟩ | rfl
     | true =>
       cases hc : customS n with
       | false => ((have fct := e; (repeat' (first
  | refine gF ?_ | refine aE ?_ ?_
  | ((first
   | ((with_reducible refine kQ 91 ?_); refine cL (f91_at hc) c91 ?_)
   | ((with_reducible refine kQ 99 ?_); refine cL (f99_at hkn) c99 ?_)) <;> with_reducible refine wK ?_)
  | apply trivial)); all_goals clear fct)) <;> first | exact MFL_refl (noRef_tab _ _) | exact ⟨.refl (noRef_tab _ _), noRef_tab _ _⟩ | rfl
       | true =>
         by_cases h3 : c < 0
         ·((have fct := And.intro e (h3); (repeat' (first
  | refine gF ?_ | refine aE ?_ ?_
  | ((first
   | ((with_reducible refine kQ 91 ?_); refine cL (f91_at hc) c91 ?_)
   | ((with_reducible refine kQ 99 ?_); refine cL (f99_at hkn) c99 ?_)) <;> with_reducible refine wK ?_)
  | apply trivial)); all_goals clear fct)) <;> first | exact MFL_refl (noRef_tab _ _) | exact ⟨.refl (noRef_tab _ _), noRef_tab _ _⟩ | rfl
         ·by_cases h4 : c < 12
          ·exact hgood ⟨hc, .inr hkn, by omega, h4⟩
          ·((have fct := And.intro e (And.intro h3 (h4)); (repeat' (first
  | refine gF ?_ | refine aE ?_ ?_
  | ((first
   | ((with_reducible refine kQ 91 ?_); refine cL (f91_at hc) c91 ?_)
   | ((with_reducible refine kQ 99 ?_); refine cL (f99_at hkn) c99 ?_)) <;> with_reducible refine wK ?_)
  | apply trivial)); all_goals clear fct)) <;> first | exact MFL_refl (noRef_tab _ _) | exact ⟨.refl (noRef_tab _ _), noRef_tab _ _⟩ | rfl
 ·have hkl : k = l.length := by simp only [decide_eq_false_iff_not] at h1; omega
  subst hkl
  have hall : ∀ x ∈ l, goodD x = true := fun x hx => by
   obtain ⟨j, hj⟩ := List.getElem?_of_mem hx
   exact hok j x (List.getElem?_eq_some_iff.1 hj).1 hj
  rw [List.take_length, procL_all hall]
  have en : (tRows Value.string oInt (ixT kN l)).length = (ixT kN l).length := List.length_map ..
  have ec : (tRows vInt oInt (ixT kC l)).length = (ixT kC l).length := List.length_map ..
  have hn := ixT_len kN l
  have hc := ixT_len kC l
  have hd : defsB l = (decide ((l.map DefM.name).Nodup) && decide ((l.map DefM.cls).Nodup)) := by
   unfold defsB
   rw [List.all_eq_true.2 hall]; rfl
  rw [hd]
  by_cases h2 : (l.map DefM.name).Nodup
  ·have h2' : (ixT kN l).length = l.length := hn.2 h2
   by_cases h3 : (l.map DefM.cls).Nodup
   ·have h3' : (ixT kC l).length = l.length := hc.2 h3
    ((have fct := And.intro en (And.intro ec (And.intro h2' (And.intro h3' (hlm)))); (repeat' (first
  | refine gF ?_ | refine aE ?_ ?_
  | ((first
   | ((with_reducible show CountK _ _ 134 _ _ _ _); refine CountK.mk map62 ⟨_, _, rfl⟩ rfl ?_)
   | ((with_reducible show CountK _ _ 135 _ _ _ _); refine CountK.mk map63 ⟨_, _, rfl⟩ rfl ?_)) <;> with_reducible refine wK ?_)
  | apply trivial)); all_goals clear fct)) <;> first | exact MFL_refl (noRef_tab _ _) | exact ⟨.refl (noRef_tab _ _), noRef_tab _ _⟩ | rfl | (simp [h2, h3, en, ec, h2', h3']; done) | (simp [h2, h3, en, ec, h2']; simp only [castN]; omega) | (simp [h2, h3, en, ec, h2']; exact fun hh => h3' (Int.ofNat.inj hh))
   ·have h3' : (ixT kC l).length ≠ l.length := fun h => h3 (hc.1 h)
    ((have fct := And.intro en (And.intro ec (And.intro h2' (And.intro h3' (hlm)))); (repeat' (first
  | refine gF ?_ | refine aE ?_ ?_
  | ((first
   | ((with_reducible show CountK _ _ 134 _ _ _ _); refine CountK.mk map62 ⟨_, _, rfl⟩ rfl ?_)
   | ((with_reducible show CountK _ _ 135 _ _ _ _); refine CountK.mk map63 ⟨_, _, rfl⟩ rfl ?_)) <;> with_reducible refine wK ?_)
  | apply trivial)); all_goals clear fct)) <;> first | exact MFL_refl (noRef_tab _ _) | exact ⟨.refl (noRef_tab _ _), noRef_tab _ _⟩ | rfl | (simp [h2, h3, en, ec, h2', h3']; done) | (simp [h2, h3, en, ec, h2']; simp only [castN]; omega) | (simp [h2, h3, en, ec, h2']; exact fun hh => h3' (Int.ofNat.inj hh))
  ·have h2' : (ixT kN l).length ≠ l.length := fun h => h2 (hn.1 h)
   ((have fct := And.intro en (And.intro ec (And.intro h2' (hlm))); (repeat' (first
  | refine gF ?_ | refine aE ?_ ?_
  | ((first
   | ((with_reducible show CountK _ _ 134 _ _ _ _); refine CountK.mk map62 ⟨_, _, rfl⟩ rfl ?_)
   | ((with_reducible show CountK _ _ 135 _ _ _ _); refine CountK.mk map63 ⟨_, _, rfl⟩ rfl ?_)) <;> with_reducible refine wK ?_)
  | apply trivial)); all_goals clear fct)) <;> first | exact MFL_refl (noRef_tab _ _) | exact ⟨.refl (noRef_tab _ _), noRef_tab _ _⟩ | rfl | (simp [h2, en, h2']; done)
theorem outs_read (l : List DefM) : okOuts [rN l, rC l] := by
 refine ⟨Wide.of_mem fun r hr => ?_, noRef_tab _ _, Wide.of_mem fun r hr => ?_, noRef_tab _ _, trivial⟩
 ·obtain ⟨p, _, rfl⟩ := List.mem_map.1 hr
  rfl
 ·obtain ⟨p, _, rfl⟩ := List.mem_map.1 hr
  rfl
def openI (d : DeskM) (i : Nat × Bool × Int) : Prop := i.1 ≤ d.waits.length ∧ (i.2.1 && waitsB d.defs d.next i.2.2 (d.waits.drop i.1)) = (defsB d.defs && waitsB d.defs d.next (-1) d.waits)
theorem openI_next {d : DeskM} {k : Nat} {b : Bool} {last : Int} {w : WaitM} (h : openI d (k, b, last)) (hw : d.waits[k]? = some w) : openI d (k + 1, b && okW d.defs d.next w last, w.ticket) := by
 obtain ⟨h1, h2⟩ := h
 have hk := (List.getElem?_eq_some_iff.1 hw).1
 refine ⟨by show k + 1 ≤ _; omega, ?_⟩
 rw [← h2]
 simp only
 rw [List.drop_eq_getElem_cons hk, (List.getElem?_eq_some_iff.1 hw).2, waitsB, Bool.and_assoc]
theorem tgetP {l : List DefM} (h : defsB l = true) (s : ByteArray) : (tget s (ixT kN (procL l)) = none ∧ posN l s = -1) ∨ ∃ (k : Nat) (x : DefM), tget s (ixT kN (procL l)) = some (k : Int) ∧ posN l s = k ∧ l[k]? = some x ∧ x.name = s := by
 obtain ⟨h1, h2, _⟩ := defsB_iff.1 h
 rw [procL_all h1]; exact tgetN h2 s
theorem f98_ok (d : DeskM) (hl : d.defs.length ≤ 100000) (hw : d.waits.length ≤ 100000) : FnOK Tryz.prog 98 [] [eDesk d] [rN (procL d.defs), rC (procL d.defs)] (.tup [.agg [.mapr 0, .mapr 1], eBool (rightD d)]) := by
 have hI0 : openI d (0, defsB d.defs, -1) := ⟨Nat.zero_le _, rfl⟩
 have hI1 := @openI_next d
 have hI2 : ∀ b last, openI d (d.waits.length, b, last) → b = (defsB d.defs && waitsB d.defs d.next (-1) d.waits) := fun b last h => by
  have := h.2
  simp only [List.drop_length] at this
  rw [← this]; simp [waitsB]
 have hI3 : ∀ k b last, openI d (k, b, last) → b = true → defsB d.defs = true ∨ rightD d = false := fun k b last h hb => by
  cases hd : defsB d.defs with
  | true => exact .inl rfl
  | false => right; unfold rightD; rw [hd]; rfl
 have hr44 := f150_ok d hl
 unfold rightD
 obtain ⟨l, ws, nx, bz⟩ := d
 have hlm : (ws.map oWait).length = ws.length := List.length_map ..
 refine FnOK.startC (rvs := [.cell 2 137, .tmp 3]) G G_good Tryz.func98 rfl Tryz.ntmps98 rfl rfl ?_; with_reducible refine wD ?_
 refine CallK.new 131 [] hr44 c150 ⟨⟨rfl, rfl, rfl, rfl, trivial⟩, trivial⟩ rfl rfl rfl (outs_read _) rfl ?_; with_reducible refine wK ?_
 have hwl : ws.length ≤ 100000 := hw
 refine LoopK.use G G_good (fun (i : Nat × Bool × Int) => [(1, .ptr 10 0 0), (2, .ptr 20 0 0), (4, .ptr 40 0 0), (5, eBool i.2.1), (6, eInt i.2.2), (17, eWaits ws), (18, eInt ws.length), (19, eInt i.1)])
  (fun _ => [(10, .live 4 [eDesk ⟨l, ws, nx, bz⟩] false), (20, .live 2 [.agg [.lit (.map none), .lit (.map none)]] false), (40, .live 2 [.agg [.mapr 131, .mapr 132]] false), (131, rN (procL l)), (132, rC (procL l))])
  (fun i => openI ⟨l, ws, nx, bz⟩ i ∧ (i.2.1 = true → defsB l = true)) (fun i => ws.length - i.1) (0, defsB l, -1) ⟨hI0, id⟩
  ⟨⟨rfl, rfl⟩, ⟨⟨rfl, rfl⟩, ⟨rfl, rfl⟩, ⟨rfl, rfl⟩, rfl, rfl, rfl, by show (ws.length : Int) = ((ws.map oWait).length : Int); rw [hlm], rfl, trivial⟩, ⟨⟨rfl, rfl, rfl, rfl, trivial⟩, trivial⟩, ⟨⟨⟨rfl, rfl⟩, ⟨rfl, rfl⟩, trivial⟩, trivial⟩, ⟨⟨trivial, trivial, trivial⟩, trivial⟩, ⟨.refl (noRef_tab _ _), noRef_tab _ _⟩, ⟨.refl (noRef_tab _ _), noRef_tab _ _⟩, trivial⟩ ?_
 rintro ⟨k, b, last⟩ ⟨hI, hbd⟩
 have hkw : k ≤ ws.length := hI.1
 simp only at hbd
 with_reducible refine wK ?_
 refine IfK.mk (fun h1 => ?_) (fun h1 => ?_) <;> (try simp only [castN] at h1) <;> with_reducible refine wK ?_
 ·simp only [decide_eq_true_eq] at h1
  have hk' : k < ws.length := by omega
  obtain ⟨⟨n, tk⟩, hx⟩ : ∃ a, ws[k]? = some a := ⟨_, List.getElem?_eq_getElem hk'⟩
  have hst : ∀ v, (b && okW l nx ⟨n, tk⟩ last) = v → openI ⟨l, ws, nx, bz⟩ (k + 1, v, tk) ∧ (v = true → defsB l = true) := fun v hv => by
   have := hI1 hI hx
   refine ⟨by rw [← hv]; exact this, fun h => hbd ?_⟩
   rw [h] at hv
   exact (Bool.and_eq_true_iff.1 hv).1
  refine IdxK.mk k (eWait ⟨n, tk⟩) rfl (wait_get hx) ?_; with_reducible refine wK ?_
  refine LookK.tab Value.string oInt (ixT kN (procL l)) (k := n) (zv := eInt 0) map62 ⟨_, _, rfl⟩ key_str inj_str rfl rfl (fun x hxx => ?_) (fun hxx => ?_)
  ·rw [show oInt x = eInt x from rfl]
   with_reducible refine wK ?_
   cases b with
   | false =>
     have hs := hst false rfl
     (have fct := hlm; (repeat' (first
  | refine gF ?_ | refine aE ?_ ?_
  | (((with_reducible show NextK _ _); refine NextK.mk (k + 1, false, tk) hs (by show ws.length - (k + 1) < ws.length - k; omega) ⟨⟨rfl, rfl⟩, ⟨⟨rfl, rfl⟩, ⟨rfl, rfl⟩, ⟨rfl, rfl⟩, rfl, rfl, rfl, rfl, by show ((k + 1 : Nat) : Int) = (k : Int) + 1; omega, trivial⟩, ⟨⟨rfl, rfl, rfl, rfl, trivial⟩, trivial⟩, ⟨⟨⟨rfl, rfl⟩, ⟨rfl, rfl⟩, trivial⟩, trivial⟩, ⟨⟨trivial, trivial, trivial⟩, trivial⟩, ⟨.refl (noRef_tab _ _), noRef_tab _ _⟩, ⟨.refl (noRef_tab _ _), noRef_tab _ _⟩, trivial⟩) <;> with_reducible refine wK ?_)
  | apply trivial)); all_goals clear fct)
   | true =>
     have hp : ¬ posN l n = -1 := by
      rcases tgetP (hbd rfl) n with ⟨a1, _⟩ | ⟨j, y, _, a2, _⟩
      ·rw [hxx] at a1; cases a1
      ·omega
     have hs := hst false (by unfold okW; simp [hp])
     (have fct := hlm; (repeat' (first
  | refine gF ?_ | refine aE ?_ ?_
  | (((with_reducible show NextK _ _); refine NextK.mk (k + 1, false, tk) hs (by show ws.length - (k + 1) < ws.length - k; omega) ⟨⟨rfl, rfl⟩, ⟨⟨rfl, rfl⟩, ⟨rfl, rfl⟩, ⟨rfl, rfl⟩, rfl, rfl, rfl, rfl, by show ((k + 1 : Nat) : Int) = (k : Int) + 1; omega, trivial⟩, ⟨⟨rfl, rfl, rfl, rfl, trivial⟩, trivial⟩, ⟨⟨⟨rfl, rfl⟩, ⟨rfl, rfl⟩, trivial⟩, trivial⟩, ⟨⟨trivial, trivial, trivial⟩, trivial⟩, ⟨.refl (noRef_tab _ _), noRef_tab _ _⟩, ⟨.refl (noRef_tab _ _), noRef_tab _ _⟩, trivial⟩) <;> with_reducible refine wK ?_)
  | apply trivial)); all_goals clear fct)
  ·with_reducible refine wK ?_
   cases b with
   | false =>
     have hs := hst false rfl
     (have fct := hlm; (repeat' (first
  | refine gF ?_ | refine aE ?_ ?_
  | (((with_reducible show NextK _ _); refine NextK.mk (k + 1, false, tk) hs (by show ws.length - (k + 1) < ws.length - k; omega) ⟨⟨rfl, rfl⟩, ⟨⟨rfl, rfl⟩, ⟨rfl, rfl⟩, ⟨rfl, rfl⟩, rfl, rfl, rfl, rfl, by show ((k + 1 : Nat) : Int) = (k : Int) + 1; omega, trivial⟩, ⟨⟨rfl, rfl, rfl, rfl, trivial⟩, trivial⟩, ⟨⟨⟨rfl, rfl⟩, ⟨rfl, rfl⟩, trivial⟩, trivial⟩, ⟨⟨trivial, trivial, trivial⟩, trivial⟩, ⟨.refl (noRef_tab _ _), noRef_tab _ _⟩, ⟨.refl (noRef_tab _ _), noRef_tab _ _⟩, trivial⟩) <;> with_reducible refine wK ?_)
  | apply trivial)); all_goals clear fct)
   | true =>
     have hp : posN l n = -1 := by
      rcases tgetP (hbd rfl) n with ⟨_, a1⟩ | ⟨j, y, a2, _⟩
      ·exact a1
      ·rw [hxx] at a2; cases a2
     cases hc : customS n with
     | false =>
       have hs := hst false (by unfold okW; simp [hc])
       (have fct := hlm; (repeat' (first
  | refine gF ?_ | refine aE ?_ ?_
  | ((first
   | ((with_reducible refine kQ 91 ?_); refine cL (f91_at hc) c91 ?_)
   | ((with_reducible show NextK _ _); refine NextK.mk (k + 1, false, tk) hs (by show ws.length - (k + 1) < ws.length - k; omega) ⟨⟨rfl, rfl⟩, ⟨⟨rfl, rfl⟩, ⟨rfl, rfl⟩, ⟨rfl, rfl⟩, rfl, rfl, rfl, rfl, by show ((k + 1 : Nat) : Int) = (k : Int) + 1; omega, trivial⟩, ⟨⟨rfl, rfl, rfl, rfl, trivial⟩, trivial⟩, ⟨⟨⟨rfl, rfl⟩, ⟨rfl, rfl⟩, trivial⟩, trivial⟩, ⟨⟨trivial, trivial, trivial⟩, trivial⟩, ⟨.refl (noRef_tab _ _), noRef_tab _ _⟩, ⟨.refl (noRef_tab _ _), noRef_tab _ _⟩, trivial⟩)) <;> with_reducible refine wK ?_)
  | apply trivial)); all_goals clear fct)
     | true =>
       by_cases h3 : last < tk
       ·have hs := hst (decide (tk < nx)) (by unfold okW; simp [hc, hp, h3])
        (have fct := And.intro hlm (h3); (repeat' (first
  | refine gF ?_ | refine aE ?_ ?_
  | ((first
   | ((with_reducible refine kQ 91 ?_); refine cL (f91_at hc) c91 ?_)
   | ((with_reducible show NextK _ _); refine NextK.mk (k + 1, decide (tk < nx), tk) hs (by show ws.length - (k + 1) < ws.length - k; omega) ⟨⟨rfl, rfl⟩, ⟨⟨rfl, rfl⟩, ⟨rfl, rfl⟩, ⟨rfl, rfl⟩, rfl, rfl, rfl, rfl, by show ((k + 1 : Nat) : Int) = (k : Int) + 1; omega, trivial⟩, ⟨⟨rfl, rfl, rfl, rfl, trivial⟩, trivial⟩, ⟨⟨⟨rfl, rfl⟩, ⟨rfl, rfl⟩, trivial⟩, trivial⟩, ⟨⟨trivial, trivial, trivial⟩, trivial⟩, ⟨.refl (noRef_tab _ _), noRef_tab _ _⟩, ⟨.refl (noRef_tab _ _), noRef_tab _ _⟩, trivial⟩)) <;> with_reducible refine wK ?_)
  | apply trivial)); all_goals clear fct)
       ·have hs := hst false (by unfold okW; simp [hc, hp, h3])
        (have fct := And.intro hlm (h3); (repeat' (first
  | refine gF ?_ | refine aE ?_ ?_
  | ((first
   | ((with_reducible refine kQ 91 ?_); refine cL (f91_at hc) c91 ?_)
   | ((with_reducible show NextK _ _); refine NextK.mk (k + 1, false, tk) hs (by show ws.length - (k + 1) < ws.length - k; omega) ⟨⟨rfl, rfl⟩, ⟨⟨rfl, rfl⟩, ⟨rfl, rfl⟩, ⟨rfl, rfl⟩, rfl, rfl, rfl, rfl, by show ((k + 1 : Nat) : Int) = (k : Int) + 1; omega, trivial⟩, ⟨⟨rfl, rfl, rfl, rfl, trivial⟩, trivial⟩, ⟨⟨⟨rfl, rfl⟩, ⟨rfl, rfl⟩, trivial⟩, trivial⟩, ⟨⟨trivial, trivial, trivial⟩, trivial⟩, ⟨.refl (noRef_tab _ _), noRef_tab _ _⟩, ⟨.refl (noRef_tab _ _), noRef_tab _ _⟩, trivial⟩)) <;> with_reducible refine wK ?_)
  | apply trivial)); all_goals clear fct)
 ·have hkl : k = ws.length := by simp only [decide_eq_false_iff_not] at h1; omega
  subst hkl
  have hb := hI2 b last hI
  simp only at hb ⊢
  rw [← hb]
  cases b with
  | false => ((have fct := hlm; (repeat' (first
  | refine gF ?_ | refine aE ?_ ?_
  | apply trivial)); all_goals clear fct)) <;> first | exact MFL_refl (noRef_tab _ _) | exact ⟨.refl (noRef_tab _ _), noRef_tab _ _⟩ | rfl
  | true =>
    by_cases h4 : 0 ≤ nx
    ·((have fct := And.intro hlm (h4); (repeat' (first
  | refine gF ?_ | refine aE ?_ ?_
  | apply trivial)); all_goals clear fct)) <;> first | exact MFL_refl (noRef_tab _ _) | exact ⟨.refl (noRef_tab _ _), noRef_tab _ _⟩ | simp [h4]
    ·((have fct := And.intro hlm (h4); (repeat' (first
  | refine gF ?_ | refine aE ?_ ?_
  | apply trivial)); all_goals clear fct)) <;> first | exact MFL_refl (noRef_tab _ _) | exact ⟨.refl (noRef_tab _ _), noRef_tab _ _⟩ | simp [h4]
structure SmallD (d : DeskM) : Prop where
 defs : d.defs.length ≤ 100000
 waits : d.waits.length ≤ 100000
theorem f71_ok (d : DeskM) (h : SmallD d) : FnOK Tryz.prog 71 [] [eDesk d] [] (eBool (rightD d)) := by
 have h29 := f98_ok d h.defs h.waits
 obtain ⟨l, ws, nx, bz⟩ := d
 refine FnOK.startC (rvs := [.tmp 2]) G G_good Tryz.func71 rfl Tryz.ntmps71 rfl rfl ?_; with_reducible refine wD ?_
 refine CallK.new 71 [] h29 c98 ⟨⟨rfl, rfl, rfl, rfl, trivial⟩, trivial⟩ rfl rfl rfl (outs_read _) rfl ?_; with_reducible refine wK ?_
 (have fct := h29; (repeat' (first
  | refine gF ?_ | refine aE ?_ ?_
  | apply trivial)); all_goals clear fct)
section
variable {d : DeskM} {k c : Int} {s base : ByteArray}
structure MayR (d : DeskM) (k c : Int) : Prop where
 r : rightD d = true
 c0 : 0 ≤ c
 ck : c < k
 c12 : c < 12
theorem MayR.b (h : MayR d k c) : ¬ (rightD d && decide (0 ≤ c) && decide (c < k) && decide (c < 12)) = false := by
 rw [h.r, decide_eq_true h.c0, decide_eq_true h.ck, decide_eq_true h.c12]; simp
end
theorem e0 : (emptyS = (⟨⟨[]⟩⟩ : ByteArray)) = True := eq_true rfl
structure ShortD (d : DeskM) : Prop where
 defs : d.defs.length ≤ 40
 waits : d.waits.length ≤ 40
 names : ∀ x ∈ d.defs, x.name.size ≤ 300 ∧ x.locl.size ≤ 300
 wnames : ∀ w ∈ d.waits, w.name.size ≤ 300
theorem ShortD.small {d : DeskM} (h : ShortD d) : SmallD d := ⟨Nat.le_trans h.defs (by omega), Nat.le_trans h.waits (by omega)⟩
theorem upto_succ {α : Type} {P : α → Prop} {l : List α} {k : Nat} {a : α} (h : ∀ (j : Nat) (b : α), j < k → l[j]? = some b → P b) (ha : l[k]? = some a) (hp : P a) : ∀ (j : Nat) (b : α), j < k + 1 → l[j]? = some b → P b := fun j b hj hb => by
 by_cases e : j = k
 ·subst e; rw [ha] at hb; cases hb; exact hp
 ·exact h j b (by omega) hb
end Go.Proofs.Heir
section
namespace Go.Proofs.Heir
open Go Go.Am Go.RowKit Go.Lib
set_option maxRecDepth 100000
set_option maxHeartbeats 8000000
set_option maxHeartbeats 8000000
def shortX (x : DefM) : Bool := decide (x.name.size ≤ 300) && decide (x.locl.size ≤ 300)
def shortW (w : WaitM) : Bool := decide (w.name.size ≤ 300)
def shortB (d : DeskM) : Bool := decide (d.defs.length ≤ 40) && decide (d.waits.length ≤ 40) && d.defs.all shortX && d.waits.all shortW
theorem shortB_iff {d : DeskM} : shortB d = true ↔ ShortD d := by
 unfold shortB shortX shortW
 simp only [Bool.and_eq_true, decide_eq_true_eq, List.all_eq_true]
 exact ⟨fun h => ⟨h.1.1.1, h.1.1.2, h.1.2, h.2⟩, fun h => ⟨⟨⟨h.defs, h.waits⟩, h.names⟩, h.wnames⟩⟩
theorem all_upto {α : Type} {p : α → Bool} {l : List α} (h : ∀ (j : Nat) (b : α), j < l.length → l[j]? = some b → p b = true) : l.all p = true := by
 rw [List.all_eq_true]
 intro x hx
 obtain ⟨j, hj⟩ := List.getElem?_of_mem hx
 exact h j x (List.getElem?_eq_some_iff.1 hj).1 hj
theorem all_fails {α : Type} {p : α → Bool} {l : List α} {x : α} (hx : x ∈ l) (h : p x = false) : l.all p = false := by
 cases hh : l.all p with
 | false => rfl
 | true => rw [List.all_eq_true.1 hh x hx] at h; cases h
theorem f14_ok (d : DeskM) : FnOK Tryz.prog 14 [] [eDesk d] [] (eBool (shortB d)) := by
 obtain ⟨r, hr⟩ : ∃ r, shortB d = r := ⟨_, rfl⟩
 rw [hr]
 have hsh := @shortB_iff d
 rw [hr] at hsh
 obtain ⟨l, ws, nx, bz⟩ := d
 unfold shortB at hr
 simp only at hr
 have hlm : (l.map oDef).length = l.length := List.length_map ..
 have hwm : (ws.map oWait).length = ws.length := List.length_map ..
 refine FnOK.startC (rvs := [.tmp 2]) G G_good Tryz.func14 rfl Tryz.ntmps14 rfl rfl ?_; with_reducible refine wD ?_
 by_cases g1 : l.length ≤ 40
 ·by_cases g2 : ws.length ≤ 40
  ·(have fct := And.intro hlm (And.intro hwm (And.intro g1 (g2))); (repeat' (first
  | refine gF ?_ | refine aE ?_ ?_
  | apply trivial)); all_goals clear fct)
   refine LoopK.use G G_good (fun (k : Nat) => [(1, .ptr 10 0 0), (3, eInt k)]) (fun _ => [(10, .live 4 [eDesk ⟨l, ws, nx, bz⟩] false)]) (fun k => k ≤ l.length ∧ ∀ (j : Nat) (b : DefM), j < k → l[j]? = some b → shortX b = true) (fun k => l.length - k) 0 ⟨Nat.zero_le _, fun j b hj => by omega⟩
    ⟨⟨rfl, rfl⟩, ⟨⟨rfl, rfl⟩, rfl, trivial⟩, ⟨⟨rfl, rfl, rfl, rfl, trivial⟩, trivial⟩, trivial⟩ ?_
   intro k ⟨hk, hno⟩
   with_reducible refine wK ?_
   refine IfK.mk (fun h1 => ?_) (fun h1 => ?_) <;> (try simp only [castN] at h1) <;> with_reducible refine wK ?_
   ·simp only [hlm, decide_eq_true_eq] at h1
    have hk' : k < l.length := by omega
    obtain ⟨⟨n, lo, c⟩, hx⟩ : ∃ a, l[k]? = some a := ⟨_, List.getElem?_eq_getElem hk'⟩
    have hf : shortX ⟨n, lo, c⟩ = false → r = false := fun h => by rw [← hr, all_fails (List.mem_of_getElem? hx) h]; simp
    refine IdxK.mk k (eDef ⟨n, lo, c⟩) rfl (def_get hx) ?_; with_reducible refine wK ?_
    by_cases e1 : n.size ≤ 300
    ·by_cases e2 : lo.size ≤ 300
     ·(have fct := And.intro e1 (e2); (repeat' (first
  | refine gF ?_ | refine aE ?_ ?_
  | ((first
   | ((with_reducible show IdxK _ _ _ _ _); refine IdxK.mk k (eDef ⟨n, lo, c⟩) rfl (def_get hx) ?_)
   | ((with_reducible show NextK _ _); refine NextK.mk (k + 1) ⟨by omega, upto_succ (P := fun b => shortX b = true) hno hx (by unfold shortX; simp [e1, e2])⟩ (by omega) ⟨⟨rfl, rfl⟩, ⟨⟨rfl, rfl⟩, by show ((k + 1 : Nat) : Int) = (k : Int) + 1; omega, trivial⟩, ⟨⟨rfl, rfl, rfl, rfl, trivial⟩, trivial⟩, trivial⟩)) <;> with_reducible refine wK ?_)
  | apply trivial)); all_goals clear fct)
     ·rw [hf (by unfold shortX; simp [e2])]
      (have fct := And.intro e1 (e2); (repeat' (first
  | refine gF ?_ | refine aE ?_ ?_
  | (((with_reducible show IdxK _ _ _ _ _); refine IdxK.mk k (eDef ⟨n, lo, c⟩) rfl (def_get hx) ?_) <;> with_reducible refine wK ?_)
  | apply trivial)); all_goals clear fct)
    ·rw [hf (by unfold shortX; simp [e1])]
     (have fct := e1; (repeat' (first
  | refine gF ?_ | refine aE ?_ ?_
  | apply trivial)); all_goals clear fct)
   ·have hkl : k = l.length := by simp only [hlm, decide_eq_false_iff_not] at h1; omega
    subst hkl
    have hall1 := all_upto hno
    (have fct := hlm; (repeat' (first
  | refine gF ?_ | refine aE ?_ ?_
  | apply trivial)); all_goals clear fct)
    refine LoopK.use G G_good (fun (k : Nat) => [(1, .ptr 10 0 0), (4, eInt k)]) (fun _ => [(10, .live 4 [eDesk ⟨l, ws, nx, bz⟩] false)]) (fun k => k ≤ ws.length ∧ ∀ (j : Nat) (b : WaitM), j < k → ws[j]? = some b → shortW b = true) (fun k => ws.length - k) 0 ⟨Nat.zero_le _, fun j b hj => by omega⟩
     ⟨⟨rfl, rfl⟩, ⟨⟨rfl, rfl⟩, rfl, trivial⟩, ⟨⟨rfl, rfl, rfl, rfl, trivial⟩, trivial⟩, trivial⟩ ?_
    intro k ⟨hk, hno⟩
    with_reducible refine wK ?_
    refine IfK.mk (fun h2 => ?_) (fun h2 => ?_) <;> (try simp only [castN] at h2) <;> with_reducible refine wK ?_
    ·simp only [hwm, decide_eq_true_eq] at h2
     have hk' : k < ws.length := by omega
     obtain ⟨⟨n, t⟩, hx⟩ : ∃ a, ws[k]? = some a := ⟨_, List.getElem?_eq_getElem hk'⟩
     have hf : shortW ⟨n, t⟩ = false → r = false := fun h => by rw [← hr, all_fails (List.mem_of_getElem? hx) h]; simp
     refine IdxK.mk k (eWait ⟨n, t⟩) rfl (wait_get hx) ?_; with_reducible refine wK ?_
     by_cases e1 : n.size ≤ 300
     ·(have fct := e1; (repeat' (first
  | refine gF ?_ | refine aE ?_ ?_
  | (((with_reducible show NextK _ _); refine NextK.mk (k + 1) ⟨by omega, upto_succ (P := fun b => shortW b = true) hno hx (by unfold shortW; simp [e1])⟩ (by omega) ⟨⟨rfl, rfl⟩, ⟨⟨rfl, rfl⟩, by show ((k + 1 : Nat) : Int) = (k : Int) + 1; omega, trivial⟩, ⟨⟨rfl, rfl, rfl, rfl, trivial⟩, trivial⟩, trivial⟩) <;> with_reducible refine wK ?_)
  | apply trivial)); all_goals clear fct)
     ·rw [hf (by unfold shortW; simp [e1])]
      (have fct := e1; (repeat' (first
  | refine gF ?_ | refine aE ?_ ?_
  | apply trivial)); all_goals clear fct)
    ·have hkl : k = ws.length := by simp only [hwm, decide_eq_false_iff_not] at h2; omega
     subst hkl
     have hall2 := all_upto hno
     rw [show r = true by rw [← hr, hall1, hall2]; simp [g1, g2]]
     (have fct := hwm; (repeat' (first
  | refine gF ?_ | refine aE ?_ ?_
  | apply trivial)); all_goals clear fct)
  ·rw [show r = false by rw [← hr]; simp [g2]]
   (have fct := And.intro hlm (And.intro hwm (And.intro g1 (g2))); (repeat' (first
  | refine gF ?_ | refine aE ?_ ?_
  | apply trivial)); all_goals clear fct)
 ·rw [show r = false by rw [← hr]; simp [g1]]
  (have fct := And.intro hlm (g1); (repeat' (first
  | refine gF ?_ | refine aE ?_ ?_
  | apply trivial)); all_goals clear fct)
end Go.Proofs.Heir
end
namespace Go.Proofs.Heir
open Go Go.Am Go.RowKit Go.Lib
set_option maxRecDepth 100000
set_option maxHeartbeats 8000000
def topN (l : List NodeM) (n : Int) : Int := ((U.wayN l n).getLast?).getD n
theorem top_top {l : List NodeM} (T : U.Tree l) {n : Int} (hn : thereN l n = true) (hp : upN (nd l n) = -1) : topN l n = n := by
 unfold topN; rw [U.way_top T hn hp]; rfl
theorem top_step {l : List NodeM} (T : U.Tree l) {n : Int} (hn : thereN l n = true) (hp : upN (nd l n) ≠ -1) (hu : thereN l (upN (nd l n)) = true) : topN l n = topN l (upN (nd l n)) := by
 obtain ⟨r, hr⟩ := U.way_head T hu
 unfold topN; rw [U.way_step T hn hp, hr, List.getLast?_cons_cons]
 cases h : (upN (nd l n) :: r).getLast? with
 | none => simp at h
 | some a => rfl
theorem up_there {l : List NodeM} (T : U.Tree l) : ∀ n, thereN l n = true → upN (nd l n) ≠ -1 → thereN l (upN (nd l n)) = true := by
 refine U.up_ind T (P := fun n => upN (nd l n) ≠ -1 → thereN l (upN (nd l n)) = true) (fun n hn h0 h => absurd h0 h) (fun n hn h0 h1 _ _ => h1)
theorem top_there {l : List NodeM} (T : U.Tree l) : ∀ n, thereN l n = true → thereN l (topN l n) = true := by
 refine U.up_ind T (fun n hn h => ?_) (fun n hn h hu ih => ?_)
 ·rw [top_top T hn h]; exact hn
 ·rw [top_step T hn h hu]; exact ih
theorem f107_ok (f : ForM) (k : Nat) (x : NodeM) (hx : f.nodes[k]? = some x) : FnOK Tryz.prog 107 [] [eFor f, eInt k] [] (eInt (upN x)) := by
 obtain ⟨l, m⟩ := f
 obtain ⟨a1, a2, a3, a4, a5, a6, a7, a8, a9, a10⟩ := x
 unfold upN
 refine FnOK.startC (rvs := [.tmp 4]) G G_good Tryz.func107 rfl Tryz.ntmps107 rfl rfl ?_; with_reducible refine wD ?_
 by_cases e : a6 = -1
 ·subst e
  rw [if_pos rfl]
  repeat' (first
  | refine gK ?_ | refine aE ?_ ?_
  | (((with_reducible show IdxK _ _ _ _ _); refine IdxK.mk k (eNode _) rfl (node_get hx) ?_) <;> with_reducible refine wK ?_)
  | apply trivial)
 ·rw [if_neg e]
  (have fct := (eq_false e); (repeat' (first
  | refine gF ?_ | refine aE ?_ ?_
  | (((with_reducible show IdxK _ _ _ _ _); refine IdxK.mk k (eNode _) rfl (node_get hx) ?_) <;> with_reducible refine wK ?_)
  | apply trivial)); all_goals clear fct)
def topF (f : ForM) (n : Int) : Int := if (rightF f && thereN f.nodes n) = true then topN f.nodes n else -1
theorem f63_ok (f : ForM) (hs : SmallN f.nodes) (n : Int) : FnOK Tryz.prog 63 [] [eFor f, eInt n] [] (eInt (topF f n)) := by
 have h86 := f106_ok f hs [n] (by simp)
 have e1 : (rightF f && !decide (0 ≤ idxI (fun n => !thereN f.nodes n) [n])) = (rightF f && thereN f.nodes n) := by
  congr 1
  unfold idxI
  cases h : thereN f.nodes n <;> simp [List.findIdx?_cons, h]
 rw [e1] at h86
 have h87 := fun k x hx => f107_ok f k x hx
 obtain ⟨l, m⟩ := f
 unfold topF
 simp only at h86 h87 ⊢
 refine FnOK.startC (rvs := [.tmp 4]) G G_good Tryz.func63 rfl Tryz.ntmps63 rfl rfl ?_; with_reducible refine wD ?_
 cases e0 : (rightF ⟨l, m⟩ && thereN l n) with
 | false =>
   rw [e0] at h86
   refine CallK.lit [71] h86 c106 ⟨⟨rfl, rfl, trivial⟩, frz_ints (l := [n]) rfl rfl rfl rfl, trivial⟩ rfl rfl ?_; with_reducible refine wK ?_
   repeat' (first
  | refine gK ?_ | refine aE ?_ ?_
  | apply trivial)
   all_goals rfl
 | true =>
   rw [e0] at h86
   refine CallK.lit [71] h86 c106 ⟨⟨rfl, rfl, trivial⟩, frz_ints (l := [n]) rfl rfl rfl rfl, trivial⟩ rfl rfl ?_; with_reducible refine wK ?_
   rw [if_pos rfl]
   obtain ⟨hr, hn⟩ : rightF ⟨l, m⟩ = true ∧ thereN l n = true := by simpa using e0
   have T := U.tree_of hr
   simp only at T
   repeat' (first
  | refine gK ?_ | refine aE ?_ ?_
  | apply trivial)
   refine LoopK.use G G_good (fun (c : Int) => [(1, eInt c), (2, .ptr 20 0 0)]) (fun c => [(20, .live 2 [eFor ⟨l, m⟩] false)])
    (fun c => thereN l c = true ∧ topN l c = topN l n) (fun c => (U.wayN l c).length) n ⟨hn, rfl⟩
    (by refine ⟨⟨rfl, rfl⟩, ⟨rfl, ⟨rfl, rfl⟩, trivial⟩, ⟨⟨rfl, rfl, trivial⟩, trivial⟩, trivial⟩) ?_
   rintro c ⟨hc, htop⟩
   with_reducible refine wK ?_
   obtain ⟨i, y, rfl, hy, hny⟩ := there_iff.1 hc
   have h := h87 i y hy
   by_cases e : upN y = -1
   ·rw [e] at h
    rw [top_top T hc (by rw [hny]; exact e)] at htop
    repeat' (first
  | refine gK ?_ | refine aE ?_ ?_
  | (((with_reducible refine kQ 107 ?_); refine cL h c107 ?_) <;> with_reducible refine wK ?_)
  | apply trivial)
    all_goals exact htop.symm
   ·have hu := up_there T _ hc (by rw [hny]; exact e)
    have hst := top_step T hc (by rw [hny]; exact e) hu
    have hway := U.way_step T hc (by rw [hny]; exact e)
    rw [hny] at hu hst hway
    generalize upN y = u at h e hu hst hway
    (have fct := (eq_false e); (repeat' (first
  | refine gF ?_ | refine aE ?_ ?_
  | (((with_reducible refine kQ 107 ?_); refine cL h c107 ?_) <;> with_reducible refine wK ?_)
  | apply trivial)); all_goals clear fct)
    refine NextK.mk u ⟨hu, by rw [← hst, htop]⟩ (by rw [hway]; simp) ⟨⟨rfl, rfl⟩, ⟨rfl, ⟨rfl, rfl⟩, trivial⟩, ⟨⟨rfl, rfl, trivial⟩, trivial⟩, trivial⟩
def conF (f : ForM) (n : Int) : Bool := (rightF f && thereN f.nodes n) && decide ((nd f.nodes (topN f.nodes n)).kind = 0)
theorem f21_ok (f : ForM) (hs : SmallN f.nodes) (n : Int) : FnOK Tryz.prog 21 [] [eFor f, eInt n] [] (eBool (conF f n)) := by
 have h63 := f63_ok f hs n
 unfold topF at h63
 unfold conF
 cases e0 : (rightF f && thereN f.nodes n) with
 | false =>
   rw [e0, if_neg (by simp)] at h63
   obtain ⟨l, m⟩ := f
   refine FnOK.startC (rvs := [.tmp 4]) G G_good Tryz.func21 rfl Tryz.ntmps21 rfl rfl ?_; with_reducible refine wD ?_
   repeat' (first
  | refine gK ?_ | refine aE ?_ ?_
  | (((with_reducible refine kQ 63 ?_); refine cL h63 c63 ?_) <;> with_reducible refine wK ?_)
  | apply trivial)
   all_goals rfl
 | true =>
   rw [e0, if_pos rfl] at h63
   obtain ⟨hr, hn⟩ : rightF f = true ∧ thereN f.nodes n = true := by simpa using e0
   have ht := top_there (U.tree_of hr) n hn
   obtain ⟨l, m⟩ := f
   simp only at h63 ht ⊢
   generalize topN l n = t at h63 ht ⊢
   obtain ⟨i, y, rfl, hy, hny⟩ := there_iff.1 ht
   rw [hny]
   obtain ⟨a1, a2, a3, a4, a5, a6, a7, a8, a9, a10⟩ := y
   refine FnOK.startC (rvs := [.tmp 4]) G G_good Tryz.func21 rfl Tryz.ntmps21 rfl rfl ?_; with_reducible refine wD ?_
   refine cL h63 c63 ?_; with_reducible refine wK ?_
   (have fct := (show ¬ (i : Int) = -1 by omega); (repeat' (first
  | refine gF ?_ | refine aE ?_ ?_
  | (((with_reducible show IdxK _ _ _ _ _); refine IdxK.mk i (eNode _) rfl (node_get hy) ?_) <;> with_reducible refine wK ?_)
  | apply trivial)); all_goals clear fct)
   all_goals simp
end Go.Proofs.Heir
section
namespace Go.Proofs.Heir
open Go Go.Am Go.RowKit Go.Lib
set_option maxRecDepth 100000
set_option maxHeartbeats 8000000
@[reducible] def formW : ByteArray := ⟨⟨[102, 111, 114, 109]⟩⟩
@[reducible] def idW : ByteArray := ⟨⟨[105, 100]⟩⟩
def isForm (x : NodeM) : Bool := decide (x.kind = 1) && decide (x.name = formW)
def attV (x : NodeM) (w : ByteArray) : Option ByteArray := if 0 ≤ findP x.attrs w then some (getS x.attrs w) else none
def attR (x : NodeM) (w : ByteArray) : Option ByteArray := if 0 ≤ posA x.attrs w then some (((x.attrs[(posA x.attrs w).toNat]?).map AttrM.value).getD noS) else none
def nearBy (l : List NodeM) (q : Int → Bool) (n : Int) : Int := ((wayN l n).tail.find? q).getD (-1)
def nearN (l : List NodeM) (n : Int) : Int := nearBy l (fun p => isForm (nd l p)) n
def nearR (l : List NodeM) (n : Int) : Int := nearBy l (fun p => decide ((nd l p).name = formW)) n
def rootN (l : List NodeM) (n : Int) : Int := ((wayN l n).getLast?).getD n
def addId (l : List NodeM) (t : List (ByteArray × Int)) (k : Int) : List (ByteArray × Int) :=
 match attV (nd l k) idW with
 | some v => (match tget v t with
  | some _ => t
  | none => tput v k t)
 | none => t
def idTab (l : List NodeM) (r : Int) : List (ByteArray × Int) := (ordN l l.length r).foldl (addId l) []
def firstId (l : List NodeM) (r : Int) (v : ByteArray) : Option Int := (ordN l l.length r).find? fun k => decide (attV (nd l k) idW = some v)
def firstR (l : List NodeM) (r : Int) (v : ByteArray) : Option Int := (ordN l l.length r).find? fun k => decide (attR (nd l k) idW = some v)
def conN (l : List NodeM) (n : Int) : Bool := decide ((nd l (topN l n)).kind = 0)
def byId (l : List NodeM) (n : Int) (v : ByteArray) : Int :=
 match firstId l (rootN l n) v with
 | some k => if v ≠ ⟨#[]⟩ ∧ isForm (nd l k) = true then k else -1
 | none => -1
def ownN (l : List NodeM) (n : Int) : Int :=
 if (nd l n).kind = 1 then
  match attV (nd l n) formW with
  | some v => if conN l n = true then byId l n v else nearN l n
  | none => nearN l n
 else -1
def byIdR (l : List NodeM) (n : Int) (v : ByteArray) : Int :=
 if v = ⟨#[]⟩ then -1 else
 match firstR l (rootN l n) v with
 | some k => if (nd l k).name = formW then k else -1
 | none => -1
def ownR (l : List NodeM) (n : Int) : Int :=
 if (nd l n).kind = 1 then
  match attR (nd l n) formW with
  | some v => if conN l n = true then byIdR l n v else nearR l n
  | none => nearR l n
 else -1
theorem tget_fold (l : List NodeM) (v : ByteArray) : ∀ (ks : List Int) (t : List (ByteArray × Int)), tget v (ks.foldl (addId l) t) = match tget v t with
  | some x => some x
  | none => ks.find? fun k => decide (attV (nd l k) idW = some v)
 | [], t => by
   simp only [List.foldl_nil, List.find?_nil]
   cases tget v t <;> rfl
 | k :: r, t => by
   rw [List.foldl_cons, tget_fold l v r]
   rw [List.find?_cons]
   unfold addId
   cases ha : attV (nd l k) idW with
   | none => simp
   | some u =>
     dsimp only
     by_cases huv : u = v
     ·subst huv
      cases ht : tget u t with
      | some x => dsimp only; rw [ht]
      | none => dsimp only; rw [tget_put, if_pos rfl]; simp
     ·have hne : decide (some u = some v) = false := decide_eq_false fun h => huv (Option.some.inj h)
      rw [hne]
      cases ht : tget u t with
      | some x => rfl
      | none => dsimp only; rw [tget_put, if_neg huv]
theorem idTab_get (l : List NodeM) (r : Int) (v : ByteArray) : tget v (idTab l r) = firstId l r v := by
 unfold idTab; rw [tget_fold]; rfl
theorem addId_len (l : List NodeM) (t : List (ByteArray × Int)) (k : Int) : (addId l t k).length ≤ t.length + 1 := by
 unfold addId
 split
 ·split
  ·omega
  ·rw [tput_length]; split <;> omega
 ·omega
theorem fold_len (l : List NodeM) : ∀ (ks : List Int) (t : List (ByteArray × Int)), (ks.foldl (addId l) t).length ≤ t.length + ks.length
 | [], t => Nat.le_refl _
 | k :: r, t => by
   have h1 := fold_len l r (addId l t k)
   have h2 := addId_len l t k
   rw [List.foldl_cons, List.length_cons]; omega
variable {l : List NodeM}
theorem root_top (T : Tree l) {n : Int} (hn : thereN l n = true) (hp : (nd l n).parent = -1) : rootN l n = n := by
 unfold rootN; rw [way_top T hn hp]; rfl
theorem root_step (T : Tree l) {n : Int} (hn : thereN l n = true) (hp : (nd l n).parent ≠ -1) : rootN l n = rootN l (nd l n).parent := by
 obtain ⟨r, hr⟩ := way_head T (T.par n hn hp).1
 unfold rootN; rw [way_step T hn hp, hr, List.getLast?_cons_cons]
 cases h : ((nd l n).parent :: r).getLast? with
 | none => simp at h
 | some a => rfl
theorem root_there (T : Tree l) : ∀ n, thereN l n = true → thereN l (rootN l n) = true ∧ (nd l (rootN l n)).parent = -1 ∧ rootN l n ∈ wayN l n := by
 refine up_ind T (fun n hn h => ?_) (fun n hn h hu ih => ?_)
 ·rw [root_top T hn h]; exact ⟨hn, h, way_self T hn⟩
 ·rw [root_step T hn h]; exact ⟨ih.1, ih.2.1, by rw [way_step T hn h]; exact List.mem_cons_of_mem _ ih.2.2⟩
theorem root_way (T : Tree l) : ∀ n, thereN l n = true → ∀ a ∈ wayN l n, rootN l a = rootN l n := by
 refine up_ind T (fun n hn h a ha => ?_) (fun n hn h hu ih a ha => ?_)
 ·rw [way_top T hn h] at ha; rw [List.mem_singleton.1 ha]
 ·rw [way_step T hn h] at ha
  rcases List.mem_cons.1 ha with rfl | h'
  ·rfl
  ·rw [root_step T hn h]; exact ih a h'
theorem ord_root (T : Tree l) {r n : Int} (hr : thereN l r = true) (h : n ∈ ordN l l.length r) : thereN l n = true ∧ r ∈ wayN l n ∧ rootN l n = rootN l r := by
 obtain ⟨h1, h2⟩ := ord_way T _ r hr n h
 exact ⟨h1, h2, (root_way T n h1 r h2).symm⟩
theorem root_self (T : Tree l) {n : Int} (hn : thereN l n = true) : rootN l (rootN l n) = rootN l n := by
 obtain ⟨h1, h2, _⟩ := root_there T n hn
 exact root_top T h1 h2
theorem find_step (T : Tree l) (q : Int → Bool) {n : Int} (hn : thereN l n = true) (hp : (nd l n).parent ≠ -1) : nearBy l q n = if q (nd l n).parent = true then (nd l n).parent else nearBy l q (nd l n).parent := by
 obtain ⟨r, hr⟩ := way_head T (T.par n hn hp).1
 unfold nearBy
 rw [way_step T hn hp, List.tail_cons, hr, List.find?_cons, List.tail_cons]
 cases h : q (nd l n).parent <;> simp
theorem find_top (T : Tree l) (q : Int → Bool) {n : Int} (hn : thereN l n = true) (hp : (nd l n).parent = -1) : nearBy l q n = -1 := by
 unfold nearBy; rw [way_top T hn hp]; rfl
theorem isForm_eq (T : Tree l) {n : Int} (hn : thereN l n = true) : isForm (nd l n) = decide ((nd l n).name = formW) := by
 unfold isForm
 rcases nam_kind T hn with h | ⟨h1, h2, _⟩
 ·rw [h]; simp
 ·rw [h2]; simp [h1]
theorem first_some {r : Int} {v : ByteArray} {k : Int} (h : firstId l r v = some k) : k ∈ ordN l l.length r ∧ attV (nd l k) idW = some v :=
 ⟨List.mem_of_find?_eq_some h, by have := List.find?_some h; simpa using this⟩
def memN (l : List NodeM) (x : Int) : List Int := (ordN l l.length (rootN l x)).filter fun k => decide (ownN l k = x)
def memR (l : List NodeM) (x : Int) : List Int := (ordN l l.length (rootN l x)).filter fun k => decide (ownR l k = x)
end Go.Proofs.Heir
end
section
namespace Go.Proofs.Heir
open Go Go.Am Go.RowKit Go.Lib
set_option maxRecDepth 100000
set_option maxHeartbeats 8000000
variable {l : List NodeM}
def memF (l : List NodeM) (x : Int) : List Int := if isForm (nd l x) = true then memN l x else []
theorem mem_facts (T : Tree l) {x : Int} (hx : thereN l x = true) {c : Int} (h : c ∈ memF l x) : thereN l c = true ∧ ownN l c = x ∧ rootN l c = rootN l x ∧ (nd l x).name = formW := by
 unfold memF at h
 by_cases hf : isForm (nd l x) = true
 ·rw [if_pos hf] at h
  unfold memN at h
  obtain ⟨h1, h2⟩ := List.mem_filter.1 h
  obtain ⟨g1, _, g3⟩ := ord_root T (root_there T x hx).1 h1
  rw [root_self T hx] at g3
  rw [isForm_eq T hx] at hf
  exact ⟨g1, by simpa using h2, g3, of_decide_eq_true hf⟩
 ·rw [if_neg hf] at h; cases h
theorem mem_len (T : Tree l) {x : Int} (hx : thereN l x = true) : (memF l x).length ≤ l.length := by
 unfold memF memN
 split
 ·exact Nat.le_trans (List.length_filter_le _ _) (ord_len T _ (root_there T x hx).1)
 ·simp
end Go.Proofs.Heir
end
namespace Go.Proofs.Heir
open Go Go.Am Go.RowKit Go.Lib
set_option maxRecDepth 100000
set_option maxHeartbeats 8000000
structure OpM where
 kind : Int
 a : Int
 b : Int
 c : Int
 s : ByteArray
 t : ByteArray
 must : Bool
 deriving DecidableEq
@[reducible] def eOp (x : OpM) : AV := .agg [eInt x.kind, eInt x.a, eInt x.b, eInt x.c, eStr x.s, eStr x.t, eBool x.must]
def oOp (x : OpM) : AV := eOp x
@[reducible] def eOps (l : List OpM) : AV := .sl 7 (l.map oOp)
structure HookM where
 kind : Int
 prog : List OpM
 deriving DecidableEq
@[reducible] def eHook (x : HookM) : AV := .agg [eInt x.kind, eOps x.prog]
def oHook (x : HookM) : AV := eHook x
@[reducible] def eHooks (l : List HookM) : AV := .sl 2 (l.map oHook)
structure ClassM where
 form : Bool
 watch : List ByteArray
 peek : List OpM
 make : List OpM
 hooks : List HookM
 deriving DecidableEq
@[reducible] def eClass (x : ClassM) : AV := .agg [eBool x.form, eStrs x.watch, eOps x.peek, eOps x.make, eHooks x.hooks]
def oClass (x : ClassM) : AV := eClass x
@[reducible] def eClasses (l : List ClassM) : AV := .sl 5 (l.map oClass)
structure StateM where
 phase : Int
 df : Int
 owner : Int
 barred : Bool
 deriving DecidableEq
@[reducible] def eState (x : StateM) : AV := .agg [eInt x.phase, eInt x.df, eInt x.owner, eBool x.barred]
def oState (x : StateM) : AV := eState x
@[reducible] def eStates (l : List StateM) : AV := .sl 4 (l.map oState)
structure TodoM where
 kind : Int
 df : Int
 name : ByteArray
 had : Bool
 has : Bool
 old : ByteArray
 new : ByteArray
 src : Int
 dst : Int
 on : Bool
 deriving DecidableEq
@[reducible] def eTodo (x : TodoM) : AV := .agg [eInt x.kind, eInt x.df, eStr x.name, eBool x.had, eBool x.has, eStr x.old, eStr x.new, eInt x.src, eInt x.dst, eBool x.on]
structure DueN where
 node : Int
 todo : TodoM
 deriving DecidableEq
@[reducible] def eDueN (x : DueN) : AV := .agg [eInt x.node, eInt x.todo.kind, eInt x.todo.df, eStr x.todo.name, eBool x.todo.had, eBool x.todo.has, eStr x.todo.old, eStr x.todo.new, eInt x.todo.src, eInt x.todo.dst, eBool x.todo.on]
def oDueN (x : DueN) : AV := eDueN x
@[reducible] def eDuesN (l : List DueN) : AV := .sl 11 (l.map oDueN)
@[reducible] def rDuesN (l : List DueN) : MS := .live 11 (l.map oDueN) false
theorem noRef_duesN (l : List DueN) : noRefL (l.map oDueN) = true := noRefL_map oDueN (fun _ => rfl) l
theorem frz_duesN {m : ML} {fz : Nat → Bool} {tab : List (Nat × Nat)} {n t len : Nat} {ro : Bool} {rows : List AV} {l : List DueN} (h1 : lkM m t = .live 11 rows ro) (h2 : fz t = true) (h3 : rows = l.map oDueN) (h4 : len = l.length) : FrzK m fz (MF tab fz m n) (eDuesN l) t 0 len := by
 subst h3; subst h4
 have e : (l.map oDueN).length = l.length := List.length_map ..
 exact .cut h1 h2 (by omega) (by rw [List.drop_zero, List.take_of_length_le (by omega)]) (noRef_duesN l)
theorem hook_get {l : List HookM} {k : Nat} {x : HookM} (h : l[k]? = some x) : (l.map oHook)[k]? = some (eHook x) := by rw [List.getElem?_map, h]; rfl
theorem class_get {l : List ClassM} {k : Nat} {x : ClassM} (h : l[k]? = some x) : (l.map oClass)[k]? = some (eClass x) := by rw [List.getElem?_map, h]; rfl
theorem state_get {l : List StateM} {k : Nat} {x : StateM} (h : l[k]? = some x) : (l.map oState)[k]? = some (eState x) := by rw [List.getElem?_map, h]; rfl
theorem dueN_get {l : List DueN} {k : Nat} {x : DueN} (h : l[k]? = some x) : (l.map oDueN)[k]? = some (eDueN x) := by rw [List.getElem?_map, h]; rfl
theorem noRef_ops (l : List OpM) : noRefL (l.map oOp) = true := noRefL_map oOp (fun _ => rfl) l
theorem noRef_hook (x : HookM) : noRef (oHook x) = true := by
 show noRef (.agg [eInt x.kind, .sl 7 (x.prog.map oOp)]) = true
 simp [noRef, noRefL, noRef_ops]
def hookAt (l : List HookM) (k : Int) : Option HookM := l.find? fun h => decide (h.kind = k)
def hooksT (l : List HookM) : List (Int × HookM) := l.reverse.foldl (fun t h => tput h.kind h t) []
theorem hooksT_get (k : Int) : ∀ l : List HookM, tget k (hooksT l) = hookAt l k
 | [] => rfl
 | h :: r => by
   have e : hooksT (h :: r) = tput h.kind h (hooksT r) := by unfold hooksT; rw [List.reverse_cons, List.foldl_append]; rfl
   rw [e, tget_put, hooksT_get k r]
   unfold hookAt
   rw [List.find?_cons]
   by_cases e : h.kind = k
   ·rw [if_pos e, decide_eq_true e]
   ·rw [if_neg e, decide_eq_false e]
def hearsC (c : ClassM) (k : Int) : Bool := (hookAt c.hooks k).isSome
def classAt (s : StateM) (d : DeskM) (n : Nat) : Int := if 0 ≤ s.df then match d.defs[s.df.toNat]? with
  | some x => if 0 ≤ x.cls ∧ x.cls < n then x.cls else -1
  | none => -1
 else -1
def noClass : ClassM := ⟨false, [], [], [], []⟩
def classV (s : StateM) (d : DeskM) (cs : List ClassM) : ClassM := if 0 ≤ classAt s d cs.length then (cs[(classAt s d cs.length).toNat]?).getD noClass else noClass
def classB (s : StateM) (d : DeskM) (cs : List ClassM) : Bool := decide (0 ≤ classAt s d cs.length)
end Go.Proofs.Heir
namespace Go.Proofs.Heir
open Go Go.Am Go.RowKit Go.Shelf
set_option maxRecDepth 100000
set_option maxHeartbeats 8000000
theorem rows_box {Wn : Nat → Prop} {μ : Mu} {W : World} {wd : Nat} {rows : List AV} {b o : Nat} (h : Rep Wn μ W (.fptr (.sl wd rows) 0) (.pointer (some ⟨b, o, none⟩))) :
  ∃ ad cap, W.cell? ⟨b, o, none⟩ = some (.slice ad rows.length cap) ∧ rows.length ≤ cap ∧ ∀ (j : Nat) (r : AV), rows[j]? = some r → ∃ b2 o2 vs, ad = some ⟨b2, o2, none⟩ ∧ List.length vs = wd ∧ (∀ q v, vs[q]? = some v → W.cell? ⟨b2, o2 + j * wd + q, none⟩ = some v) ∧ ∀ (q : Nat) (c : AV) (v : Value), (cells r)[q]? = some c → vs[q]? = some v → Rep Wn μ W c v := by
 generalize hv : Value.pointer (some ⟨b, o, none⟩) = v at h
 cases h with
 | @fptr _ _ b' o' f h1 h2 h3 h4 h5 =>
   cases hv
   have k3 := h3 0 _ rfl
   have k4 := h4 0 _ rfl
   rw [Nat.add_zero] at k3
   rw [Nat.add_zero, k3]
   generalize f 0 = s at k4
   by_cases hne : rows = []
   ·subst hne
    cases k4 with
    | slNil => exact ⟨_, _, rfl, Nat.zero_le _, fun j x h => by simp at h⟩
    | sl a1 a2 a3 a4 a5 a6 a7 a8 => subst a3; exact ⟨_, _, rfl, Nat.zero_le _, fun j x h => by simp at h⟩
   ·cases k4 with
    | slNil => exact absurd rfl hne
    | @sl _ _ b2 o2 cap _ fv a1 a2 a3 a4 a5 a6 a7 a8 =>
      subst a3
      refine ⟨_, _, rfl, a4, fun j r hr => ⟨b2, o2, (List.range wd).map fun q => fv (j * wd + q), rfl, by simp, fun q v hv => ?_, fun q c v hc hv => ?_⟩⟩
      ·have hqw : q < wd := by have := (List.getElem?_eq_some_iff.1 hv).1; simpa using this
       have hcl : (cells r).length = wd := a5 j _ hr
       obtain ⟨c, hc⟩ : ∃ c, (cells r)[q]? = some c := ⟨_, List.getElem?_eq_getElem (by omega)⟩
       have := a6 _ _ (flat_get (wd := wd) (fun i r hr => a5 i r hr) hr hc)
       rw [Nat.add_assoc, this]
       rw [List.getElem?_map, List.getElem?_range hqw] at hv
       simpa using hv
      ·have hqw : q < wd := by have := (List.getElem?_eq_some_iff.1 hv).1; simpa using this
       rw [List.getElem?_map, List.getElem?_range hqw] at hv
       have hv' : fv (j * wd + q) = v := by simpa using hv
       rw [← hv']
       exact a7 _ _ (flat_get (wd := wd) (fun i r hr => a5 i r hr) hr hc)
theorem list2 {α : Type} : ∀ {l : List α}, l.length = 2 → ∃ a b, l = [a, b]
 | [a, b], _ => ⟨a, b, rfl⟩
theorem backH_it (l : List HookM) (hl : l.length ≤ 100000) : ItOK Tryz.prog 153 [.fptr (eHooks l) 0] l.length (fun k => [oInt ((l.length : Int) - 1 - k), eHook ((l.reverse[k]?).getD ⟨0, []⟩)]) := by
 intro vals y J Jx hJ hJm hJxm _ hY Wn w h0
 obtain ⟨⟨μ, hr⟩, _⟩ := hJ 0 Wn w h0
 obtain ⟨vb, us, rfl, hvb, hus⟩ := RepL.uncons hr
 obtain rfl := RepL.unnil hus
 obtain ⟨b, o, rfl⟩ : ∃ b o, vb = .pointer (some ⟨b, o, none⟩) := by cases hvb; exact ⟨_, _, rfl⟩
 have box : ∀ k Wn W, J k Wn W → ∃ μ ad cap, W.cell? ⟨b, o, none⟩ = some (.slice ad l.length cap) ∧ l.length ≤ cap ∧ ∀ (j : Nat) (x : HookM), l[j]? = some x → ∃ b2 o2 a n c, ad = some ⟨b2, o2, none⟩ ∧ W.cell? ⟨b2, o2 + j * 2, none⟩ = some (.int .i64 x.kind) ∧ W.cell? ⟨b2, o2 + j * 2 + 1, none⟩ = some (.slice a n c) ∧ Rep Wn μ W (eOps x.prog) (.slice a n c) := by
  intro k Wn W hJk
  obtain ⟨⟨μ, hr⟩, _⟩ := hJ k Wn W hJk
  obtain ⟨v1, us, e, hv1, _⟩ := RepL.uncons hr
  cases e
  obtain ⟨ad, cap, h1, h2, h3⟩ := rows_box hv1
  rw [List.length_map] at h1 h2
  refine ⟨μ, ad, cap, h1, h2, fun j x hx => ?_⟩
  obtain ⟨b2, o2, vs, e, hlen, hc, hrep⟩ := h3 j _ (hook_get hx)
  obtain ⟨v0, v1, rfl⟩ := list2 hlen
  have r0 := hrep 0 _ _ rfl rfl
  have r1 := hrep 1 _ _ rfl rfl
  have c0 := hc 0 _ rfl
  have c1 := hc 1 _ rfl
  obtain ⟨a, n, c, rfl⟩ := sl_val r1
  obtain rfl := r0.val
  exact ⟨b2, o2, a, n, c, e, c0, c1, r1⟩
 refine (callsIn_wide (n := 1)).1 ?_
 refine callsIn_of_wp Tryz.func153 rfl trivial ?_ rfl
 simp only [Tryz.ntmps153, List.size_toArray, List.length_cons, List.length_nil, Nat.reduceAdd, Nat.reduceSub, Array.replicate_succ, Array.replicate_zero, List.push_toArray, List.append_toArray, List.nil_append, List.cons_append]
 obtain ⟨μ0, ad, cap, hbx, hcap, hel⟩ := box 0 Wn w h0
 gi_wp2
 gi_loopw [3] (fun i wr => ∃ k : Nat, k ≤ l.length ∧ i = .int .i64 ((l.length : Int) - 1 - k) ∧ ∃ Wn, J k Wn wr) (fun i _ => (intOf i + 1).toNat)
 case atStart => exact ⟨0, Nat.zero_le _, by simp, Wn, h0⟩
 case round =>
  obtain ⟨k, hk, rfl, Wn', hJk⟩ := hrel
  obtain ⟨μ', ad', cap', hbx', hcap', hel'⟩ := box k Wn' wr hJk
  by_cases hlt : k < l.length
  ·have hix : l.length - 1 - k < l.length := by omega
   obtain ⟨⟨x1, x2⟩, hx⟩ : ∃ x, l[l.length - 1 - k]? = some x := ⟨_, List.getElem?_eq_getElem hix⟩
   obtain ⟨b2, o2, pa, pn, pc, rfl, hc0, hc1, hrp⟩ := hel' _ _ hx
   simp only at hc0 hc1 hrp
   have hrev : (l.reverse[k]?).getD ⟨0, []⟩ = ⟨x1, x2⟩ := by
    rw [List.getElem?_reverse (by omega), hx]; rfl
   obtain ⟨fn, tmps, assign, body, hy, hR⟩ := hY k Wn' wr [.int .i64 ((l.length : Int) - 1 - k), .agg #[.int .i64 x1, .slice pa pn pc]] hlt hJk (fun Wn'' μ'' hrA => by
    rw [hrev]
    obtain ⟨vA, usA, eA, hvA, _⟩ := RepL.uncons hrA
    cases eA
    obtain ⟨adA, capA, hA1, hA2, hA3⟩ := rows_box hvA
    rw [List.length_map, hbx'] at hA1
    obtain ⟨bA, oA, vsA, eA, hlenA, hcA, hrepA⟩ := hA3 _ _ (hook_get hx)
    cases hA1
    cases eA
    obtain ⟨w0, w1, rfl⟩ := list2 hlenA
    have c1 := hcA 1 _ rfl
    rw [hc1] at c1
    cases c1
    refine .cons .lit (.cons (Rep.agg (vs := [.int .i64 x1, .slice pa pn pc]) rfl ?_) .nil)
    rintro (_ | _ | j) c v hc hv
    ·cases hc; cases hv; exact .lit
    ·cases hc; cases hv; exact hrepA 1 _ _ rfl rfl
    ·simp at hv)
   have hz : ((l.length : Int) - 1 - k).toNat = l.length - 1 - k := by omega
   gi_wp2
   refine hR.mono ?_
   rintro e W3 (⟨rfl, Wn3, hJ3, _⟩ | ⟨rfl, hJx3⟩)
   ·gi_wp2
    go_roundw
    case rel => exact ⟨k + 1, by omega, by congr 1; omega, Wn3, hJ3⟩
    case measure => simp [intOf]; omega
   ·gi_wp2
    refine bodyPost_ret (results_none rfl _ _ _) rfl ?_
    exact ⟨⟨_, rfl⟩, .inr hJx3⟩
  ·obtain rfl : k = l.length := by omega
   gi_wp2
   go_end0
   exact ⟨⟨_, rfl⟩, .inl ⟨_, hJk⟩⟩
end Go.Proofs.Heir
namespace Go.Proofs.Heir
open Go Go.Am Go.RowKit Go.Lib
set_option maxRecDepth 100000
set_option maxHeartbeats 8000000
theorem f115_ok (l : List HookM) : FnOK Tryz.prog 115 [] [eHooks l] [] (.clo (.func 153) [] [.fptr (eHooks l) 0]) := by
 refine FnOK.startC (rvs := [.tmp 2]) G G_good Tryz.func115 rfl Tryz.ntmps115 rfl rfl ?_; with_reducible refine wD ?_
 refine ⟨⟨rfl, rfl⟩, ⟨rfl, trivial, ⟨_, _, _, _, _, rfl, rfl, rfl, rfl, rfl, rfl⟩, trivial⟩, ?_⟩
 exact trivial
@[reducible] def rHooksT (t : List (Int × HookM)) : MS := .live 2 (tRows vInt oHook t) false
theorem noRef_hookT (t : List (Int × HookM)) : noRefL (tRows vInt oHook t) = true := by
 rw [noRefL_iff]; intro x hx
 obtain ⟨a, _, rfl⟩ := List.mem_map.1 hx
 show noRef (.agg [.lit (vInt a.1), oHook a.2]) = true
 simp [noRef, noRefL, noRef_hook]
theorem hookT_outs (t : List (Int × HookM)) : okOuts [rHooksT t] := by
 refine ⟨Wide.of_mem fun r hr => ?_, noRef_hookT _, trivial⟩
 obtain ⟨p, _, rfl⟩ := List.mem_map.1 hr
 rfl
theorem map99 : MapTy Tryz.prog 112 (.int .i64) (.agg #[.int .i64 0, .slice none 0 0]) := ⟨3, 101, by kernel_rfl, by kernel_rfl, fun w => Tryz.zeroValue101 w⟩
def hooksK (l : List HookM) (k : Nat) : List (Int × HookM) := (l.reverse.take k).foldl (fun t h => tput h.kind h t) []
theorem hooksK_all (l : List HookM) : hooksK l l.length = hooksT l := by unfold hooksK hooksT; rw [List.take_of_length_le (by simp)]
theorem hooksK_step {l : List HookM} {k : Nat} {h : HookM} (hh : l.reverse[k]? = some h) : hooksK l (k + 1) = tput h.kind h (hooksK l k) := by
 unfold hooksK
 rw [List.take_add_one, hh, List.foldl_append]; rfl
theorem hooksK_len (l : List HookM) : ∀ k, (hooksK l k).length ≤ k
 | 0 => Nat.le_refl _
 | k + 1 => by
   have h := hooksK_len l k
   cases e : l.reverse[k]? with
   | none =>
     have : hooksK l (k + 1) = hooksK l k := by unfold hooksK; rw [List.take_add_one, e]; simp
     rw [this]; omega
   | some x =>
     rw [hooksK_step e, tput_length]
     split <;> omega
theorem f72_ok (c : ClassM) (hc : c.hooks.length ≤ 100000) : FnOK Tryz.prog 72 [] [eClass c] [rHooksT (hooksT c.hooks)] (.mapr 0) := by
 obtain ⟨c1, c2, c3, c4, c5⟩ := c
 simp only at hc ⊢
 refine FnOK.startC (rvs := [.tmp 2]) G G_good Tryz.func72 rfl Tryz.ntmps72 rfl rfl ?_; with_reducible refine wD ?_
 refine cV (f115_ok c5) c115 ?_; with_reducible refine wK ?_
 repeat' (first
  | refine gK ?_ | refine aE ?_ ?_
  | apply trivial)
 refine LoopK.range G G_good 2 [(1, .ptr 1 0 0), (3, .ptr 0 0 0), (9, .clo (.func 153) [] [.fptr (eHooks c5) 0])]
  (fun k => [(0, .live 1 [.mapr 61] false), (1, .live 5 [eClass ⟨c1, c2, c3, c4, c5⟩] false), (61, rHooksT (hooksK c5 k))])
  (backH_it c5 hc) c153 ?_ rfl ⟨⟨rfl, rfl⟩, rfl⟩ (fun _ _ => rfl) (fun _ _ => rfl) ⟨⟨rfl, rfl⟩, rfl, rfl⟩ ?_ ?_
 ·(refine fK ?_; (with_reducible repeat' (first | exact trivial | (show _ ∧ _; refine aK ?_ ?_))); (all_goals try rfl))
  ·exact ⟨.refl rfl, rfl⟩
  ·exact ⟨.refl rfl, rfl⟩
 ·intro k hk
  obtain ⟨⟨x1, x2⟩, hx⟩ : ∃ x, c5.reverse[k]? = some x := ⟨_, List.getElem?_eq_getElem (by simpa using hk)⟩
  rw [hx, Option.getD_some]
  have hst := hooksK_step hx
  have hle := hooksK_len c5 k
  with_reducible refine wK ?_
  refine BodyK.mk rfl ?_; with_reducible refine wK ?_
  repeat' (first
  | refine gK ?_ | refine aE ?_ ?_
  | apply trivial)
  refine PutK.tab vInt oHook (hooksK c5 k) (k := x1) ⟨x1, x2⟩ map99 rfl key_int inj_int (by unfold maxLen; omega) rfl ?_; with_reducible refine wK ?_
  simp only at hst
  rw [← hst]
  repeat' (first
  | refine gK ?_ | refine aE ?_ ?_
  | apply trivial)
  refine TurnK.mk ?_
  (refine fK ?_; (with_reducible repeat' (first | exact trivial | (show _ ∧ _; refine aK ?_ ?_))); (all_goals try rfl))
  ·exact ⟨.refl rfl, rfl⟩
  ·exact ⟨.refl (noRef_hookT _), noRef_hookT _⟩
 ·with_reducible refine wK ?_
  rw [hooksK_all]
  (refine eK ?_ ?_ <;> with_reducible repeat' (first | exact trivial | (show _ ∧ _; refine aK ?_ ?_)))
  exact MFL_refl (noRef_hookT _)
theorem f37_ok (c : ClassM) (hc : c.hooks.length ≤ 100000) (k : Int) : FnOK Tryz.prog 37 [] [eClass c, eInt k] [] (eBool (hearsC c k)) := by
 have h53 := f72_ok c hc
 have hg := hooksT_get k c.hooks
 unfold hearsC
 rw [← hg]
 obtain ⟨c1, c2, c3, c4, c5⟩ := c
 simp only at h53 ⊢
 refine FnOK.startC (rvs := [.tmp 4]) G G_good Tryz.func37 rfl Tryz.ntmps37 rfl rfl ?_; with_reducible refine wD ?_
 refine CallK.new 91 [] h53 c72 ⟨⟨rfl, rfl, rfl, rfl, rfl, trivial⟩, trivial⟩ rfl rfl rfl (hookT_outs _) rfl ?_; with_reducible refine wK ?_
 refine LookK.tab vInt oHook (hooksT c5) (k := k) (zv := .agg [eInt 0, .lit (.slice none 0 0)]) map99 ⟨_, _, rfl⟩ key_int inj_int rfl rfl (fun x hx => ?_) (fun hx => ?_)
 ·rw [show oHook x = eHook x from rfl, hx]
  obtain ⟨x1, x2⟩ := x
  with_reducible refine wK ?_
  repeat' (first
  | refine gK ?_ | refine aE ?_ ?_
  | apply trivial)
  all_goals rfl
 ·rw [hx]
  with_reducible refine wK ?_
  repeat' (first
  | refine gK ?_ | refine aE ?_ ?_
  | apply trivial)
  all_goals rfl
theorem classV_no {s : StateM} {d : DeskM} {cs : List ClassM} (h : classAt s d cs.length = -1) : classV s d cs = noClass ∧ classB s d cs = false := by
 unfold classV classB
 rw [h]; exact ⟨rfl, rfl⟩
theorem classV_at {s : StateM} {d : DeskM} {cs : List ClassM} {k : Nat} {c : ClassM} (h : classAt s d cs.length = k) (hc : cs[k]? = some c) : classV s d cs = c ∧ classB s d cs = true := by
 unfold classV classB
 rw [h, if_pos (by omega), Int.toNat_natCast, hc]
 exact ⟨rfl, decide_eq_true (by omega)⟩
theorem class_cases (s : StateM) (d : DeskM) (cs : List ClassM) : (s.df < 0 ∧ classAt s d cs.length = -1) ∨ (¬ s.df < 0 ∧ (d.defs.length : Int) ≤ s.df ∧ classAt s d cs.length = -1) ∨
  ∃ (n : Nat) (x : DefM), s.df = n ∧ d.defs[n]? = some x ∧ (((x.cls < 0) ∧ classAt s d cs.length = -1) ∨ (¬ x.cls < 0 ∧ (cs.length : Int) ≤ x.cls ∧ classAt s d cs.length = -1) ∨ ∃ (m : Nat) (c : ClassM), x.cls = m ∧ cs[m]? = some c ∧ classAt s d cs.length = m) := by
 by_cases h1 : s.df < 0
 ·exact .inl ⟨h1, by unfold classAt; rw [if_neg (by omega)]⟩
 obtain ⟨n, hn⟩ : ∃ n : Nat, s.df = n := ⟨_, (Int.toNat_of_nonneg (by omega)).symm⟩
 have e : classAt s d cs.length = match d.defs[n]? with
  | some x => if 0 ≤ x.cls ∧ x.cls < cs.length then x.cls else -1
  | none => -1 := by unfold classAt; rw [if_pos (by omega), hn, Int.toNat_natCast] <;> (cases d.defs[n]? <;> rfl)
 by_cases h2 : (d.defs.length : Int) ≤ s.df
 ·exact .inr (.inl ⟨h1, h2, by rw [e, List.getElem?_eq_none (by omega)]⟩)
 obtain ⟨x, hx⟩ : ∃ x, d.defs[n]? = some x := ⟨_, List.getElem?_eq_getElem (by omega)⟩
 rw [hx] at e
 simp only at e
 refine .inr (.inr ⟨n, x, hn, hx, ?_⟩)
 by_cases h3 : x.cls < 0
 ·exact .inl ⟨h3, by rw [e, if_neg (by omega)]⟩
 by_cases h4 : (cs.length : Int) ≤ x.cls
 ·exact .inr (.inl ⟨h3, h4, by rw [e, if_neg (by omega)]⟩)
 obtain ⟨m, hm⟩ : ∃ m : Nat, x.cls = m := ⟨_, (Int.toNat_of_nonneg (by omega)).symm⟩
 exact .inr (.inr ⟨m, _, hm, List.getElem?_eq_getElem (by omega), by rw [e, if_pos (by omega), hm]⟩)
theorem f36_ok (s : StateM) (d : DeskM) (cs : List ClassM) : FnOK Tryz.prog 36 [] [eState s, eDesk d, eClasses cs] [] (.tup [eClass (classV s d cs), eBool (classB s d cs)]) := by
 have hd := (show (d.defs.map oDef).length = d.defs.length from List.length_map ..)
 have hcs := (show (cs.map oClass).length = cs.length from List.length_map ..)
 rcases class_cases s d cs with ⟨h1, h2⟩ | ⟨h1, h2, h3⟩ | ⟨n, ⟨x1, x2, x3⟩, hn, hx, ⟨h1, h2⟩ | ⟨h1, h2, h3⟩ | ⟨m, ⟨c1, c2, c3, c4, c5⟩, hm, hc, h1⟩⟩
 ·rw [(classV_no h2).1, (classV_no h2).2]
  obtain ⟨s1, s2, s3, s4⟩ := s
  obtain ⟨d1, d2, d3, d4⟩ := d
  simp only at h1
  refine FnOK.startC (rvs := [.cell 6 63, .tmp 7]) G G_good Tryz.func36 rfl Tryz.ntmps36 rfl rfl ?_; with_reducible refine wD ?_
  (have fct := (eq_true h1); (repeat' (first
  | refine gF ?_ | refine aE ?_ ?_
  | apply trivial)); all_goals clear fct)
  all_goals first | rfl | exact .inr (.inr ⟨_, rfl⟩)
 ·rw [(classV_no h3).1, (classV_no h3).2]
  obtain ⟨s1, s2, s3, s4⟩ := s
  obtain ⟨d1, d2, d3, d4⟩ := d
  simp only at h1 h2 hd
  refine FnOK.startC (rvs := [.cell 6 63, .tmp 7]) G G_good Tryz.func36 rfl Tryz.ntmps36 rfl rfl ?_; with_reducible refine wD ?_
  (have fct := And.intro (eq_false h1) (And.intro hd ((eq_true h2))); (repeat' (first
  | refine gF ?_ | refine aE ?_ ?_
  | apply trivial)); all_goals clear fct)
  all_goals first | rfl | exact .inr (.inr ⟨_, rfl⟩)
 ·rw [(classV_no h2).1, (classV_no h2).2]
  obtain ⟨s1, s2, s3, s4⟩ := s
  obtain ⟨d1, d2, d3, d4⟩ := d
  simp only at h1 hn hx hd
  subst hn
  have hl := (List.getElem?_eq_some_iff.1 hx).1
  refine FnOK.startC (rvs := [.cell 6 63, .tmp 7]) G G_good Tryz.func36 rfl Tryz.ntmps36 rfl rfl ?_; with_reducible refine wD ?_
  (have fct := And.intro hd ((eq_true h1)); (repeat' (first
  | refine pF ?_ | refine aE ?_ ?_
  | ((first
   | ((with_reducible show IfK _ _ _ _); (refine IfK.mk (fun hp => ?_) (fun hp => ?_) <;> (try simp only [castN, decide_eq_true_eq, decide_eq_false_iff_not, Bool.not_eq_true', Bool.not_eq_false', Decidable.not_not, Int.not_lt, Int.not_le] at hp)))
   | ((with_reducible show IdxK _ _ _ _ _); refine IdxK.mk n (eDef ⟨x1, x2, x3⟩) rfl (def_get hx) ?_)) <;> with_reducible refine wK ?_)
  | apply trivial)); all_goals clear fct)
  all_goals first | rfl | exact .inr (.inr ⟨_, rfl⟩)
 ·rw [(classV_no h3).1, (classV_no h3).2]
  obtain ⟨s1, s2, s3, s4⟩ := s
  obtain ⟨d1, d2, d3, d4⟩ := d
  simp only at h1 h2 hn hx hd
  subst hn
  have hl := (List.getElem?_eq_some_iff.1 hx).1
  refine FnOK.startC (rvs := [.cell 6 63, .tmp 7]) G G_good Tryz.func36 rfl Tryz.ntmps36 rfl rfl ?_; with_reducible refine wD ?_
  (have fct := And.intro hd (And.intro hcs (And.intro (eq_false h1) ((eq_true h2)))); (repeat' (first
  | refine pF ?_ | refine aE ?_ ?_
  | ((first
   | ((with_reducible show IfK _ _ _ _); (refine IfK.mk (fun hp => ?_) (fun hp => ?_) <;> (try simp only [castN, decide_eq_true_eq, decide_eq_false_iff_not, Bool.not_eq_true', Bool.not_eq_false', Decidable.not_not, Int.not_lt, Int.not_le] at hp)))
   | ((with_reducible show IdxK _ _ _ _ _); refine IdxK.mk n (eDef ⟨x1, x2, x3⟩) rfl (def_get hx) ?_)) <;> with_reducible refine wK ?_)
  | apply trivial)); all_goals clear fct)
  all_goals first | rfl | exact .inr (.inr ⟨_, rfl⟩)
 ·rw [(classV_at h1 hc).1, (classV_at h1 hc).2]
  obtain ⟨s1, s2, s3, s4⟩ := s
  obtain ⟨d1, d2, d3, d4⟩ := d
  simp only at hm hn hx hd
  subst hn
  subst hm
  have hl := (List.getElem?_eq_some_iff.1 hx).1
  have hl2 := (List.getElem?_eq_some_iff.1 hc).1
  refine FnOK.startC (rvs := [.cell 6 63, .tmp 7]) G G_good Tryz.func36 rfl Tryz.ntmps36 rfl rfl ?_; with_reducible refine wD ?_
  (have fct := And.intro hd (hcs); (repeat' (first
  | refine pF ?_ | refine aE ?_ ?_
  | ((first
   | ((with_reducible show IfK _ _ _ _); (refine IfK.mk (fun hp => ?_) (fun hp => ?_) <;> (try simp only [castN, decide_eq_true_eq, decide_eq_false_iff_not, Bool.not_eq_true', Bool.not_eq_false', Decidable.not_not, Int.not_lt, Int.not_le] at hp)))
   | ((with_reducible show IdxK _ _ _ _ _); first | refine IdxK.mk n (eDef ⟨x1, x2, (m : Int)⟩) rfl (def_get hx) ?_ | refine IdxK.mk m (eClass ⟨c1, c2, c3, c4, c5⟩) rfl (class_get hc) ?_)) <;> with_reducible refine wK ?_)
  | apply trivial)); all_goals clear fct)
  all_goals trace_state
def lookV (f : ForM) (st : List StateM) (d : DeskM) : Bool := (decide (st.length = f.nodes.length) && rightF f) && rightD d
structure SmallK (c : ClassM) : Prop where
 hooks : c.hooks.length ≤ 100000
 watch : c.watch.length ≤ 100000
 peek : c.peek.length ≤ 100000
 make : c.make.length ≤ 100000
 progs : ∀ h ∈ c.hooks, h.prog.length ≤ 100000
def SmallC (cs : List ClassM) : Prop := ∀ c ∈ cs, SmallK c
theorem bytes_inj {a b : ByteArray} (h : a.toList = b.toList) : a = b := by
 rw [ByteArray.toList_eq, ByteArray.toList_eq] at h
 cases a; cases b
 simp only [ByteArray.mk.injEq]
 exact Array.toList_inj.1 h
def todoEq (t u : TodoM) : Bool := (t.kind == u.kind) && ((t.df == u.df) && ((t.name.toList == u.name.toList) && ((t.had == u.had) && ((t.has == u.has) && ((t.old.toList == u.old.toList) && ((t.new.toList == u.new.toList) && ((t.src == u.src) && ((t.dst == u.dst) && (t.on == u.on)))))))))
theorem todoEq_iff (t u : TodoM) : todoEq t u = decide (t = u) := by
 rw [Bool.eq_iff_iff, decide_eq_true_eq]
 unfold todoEq
 simp only [Bool.and_eq_true, beq_iff_eq]
 constructor
 ·rintro ⟨a, b, c, d, e, f, g, h, i, j⟩
  cases t; cases u
  simp only at *
  subst a; subst b; subst d; subst e; subst h; subst i; subst j
  rw [bytes_inj c, bytes_inj f, bytes_inj g]
 ·rintro rfl; simp
@[reducible] def vTodo (t : TodoM) : Value := .agg #[.int .i64 t.kind, .int .i64 t.df, .string t.name, .bool t.had, .bool t.has, .string t.old, .string t.new, .int .i64 t.src, .int .i64 t.dst, .bool t.on]
theorem todoN_eq (n : Nat) (t u : TodoM) (w : World) : (Op.equalIn (n + 2) 70 (vTodo t) (vTodo u)).run Tryz.prog w = .ok (decide (t = u)) w := by
 have hS : Tryz.prog.underlying 70 = some (.struct (Tryz.prog.fieldsOf 70)) := by kernel_rfl
 have hp : Tryz.prog.stoodInHeld 70 = false := by kernel_rfl
 have u3 := Tryz.underlying3
 have a3 := Tryz.isAgg3
 have z3 := Tryz.sizeOf3
 have u4 := Tryz.underlying4
 have a4 := Tryz.isAgg4
 have z4 := Tryz.sizeOf4
 have u9 := Tryz.underlying9
 have a9 := Tryz.isAgg9
 have z9 := Tryz.sizeOf9
 rw [← todoEq_iff, show n + 2 = (n + 1) + 1 from rfl, run_equalIn_agg w (n + 1) 70 _ _ hS hp]
 simp only [Program.fieldsOf, Tryz.underlying70]
 go_simp
 clear hS hp u3 a3 z3 u4 a4 z4 u9 a9 z9
 unfold todoEq
 by_cases h1 : t.kind = u.kind <;> by_cases h2 : t.df = u.df <;> by_cases h3 : t.name.toList = u.name.toList <;> simp [h1, h2, h3]
 by_cases h1 : t.had = u.had <;> by_cases h2 : t.has = u.has <;> by_cases h3 : t.old.toList = u.old.toList <;> simp [h1, h2, h3]
 by_cases h1 : t.new.toList = u.new.toList <;> by_cases h2 : t.src = u.src <;> by_cases h3 : t.dst = u.dst <;> simp [h1, h2, h3]
 by_cases h1 : t.on = u.on <;> simp [h1]
@[reducible] def vDueN (a : DueN) : Value := .agg #[.int .i64 a.node, .int .i64 a.todo.kind, .int .i64 a.todo.df, .string a.todo.name, .bool a.todo.had, .bool a.todo.has, .string a.todo.old, .string a.todo.new, .int .i64 a.todo.src, .int .i64 a.todo.dst, .bool a.todo.on]
theorem dueN_eq (a b : DueN) (w : World) : (Op.equalIn 10000 72 (vDueN a) (vDueN b)).run Tryz.prog w = .ok (decide (a = b)) w := by
 have hS : Tryz.prog.underlying 72 = some (.struct (Tryz.prog.fieldsOf 72)) := by kernel_rfl
 have hp : Tryz.prog.stoodInHeld 72 = false := by kernel_rfl
 have ht := todoN_eq 9997 a.todo b.todo w
 have u72 := Tryz.underlying70
 have a72 := Tryz.isAgg70
 have z72 := Tryz.sizeOf70
 have u3 := Tryz.underlying3
 have a3 := Tryz.isAgg3
 have z3 := Tryz.sizeOf3
 have e : decide (a = b) = ((a.node == b.node) && todoEq a.todo b.todo) := by
  obtain ⟨a1, a2⟩ := a
  obtain ⟨b1, b2⟩ := b
  rw [todoEq_iff]
  simp only [DueN.mk.injEq]
  by_cases h1 : a1 = b1 <;> by_cases h2 : a2 = b2 <;> simp [h1, h2]
 rw [e, show (10000 : Nat) = 9999 + 1 from rfl, run_equalIn_agg w 9999 72 _ _ hS hp]
 simp only [Program.fieldsOf, Tryz.underlying72]
 simp only [Nat.reduceAdd] at ht
 go_simp
 clear hS hp
 generalize a.todo = t at ht ⊢
 generalize b.todo = u at ht ⊢
 unfold todoEq
 by_cases h0 : a.node = b.node <;> simp [h0]
 by_cases h1 : t.kind = u.kind <;> by_cases h2 : t.df = u.df <;> by_cases h3 : t.name.toList = u.name.toList <;> simp [h1, h2, h3]
 by_cases h1 : t.had = u.had <;> by_cases h2 : t.has = u.has <;> by_cases h3 : t.old.toList = u.old.toList <;> simp [h1, h2, h3]
 by_cases h1 : t.new.toList = u.new.toList <;> by_cases h2 : t.src = u.src <;> by_cases h3 : t.dst = u.dst <;> simp [h1, h2, h3]
 by_cases h1 : t.on = u.on <;> simp [h1]
theorem dueN_eql (a b : DueN) (y z : Operand) (w : World) : ((do eqGuard .eql 72 y z (vDueN a) (vDueN b); binOp .eql 72 (vDueN a) (vDueN b) : Sem Value)).run Tryz.prog w = .ok (.bool (decide (a = b))) w := by
 rw [Sem.run_bind, run_eqGuard_agg w .eql 72 y z _ _ (by kernel_rfl), Result.andThen_ok, run_eql_struct, dueN_eq]; rfl
def shortH (h : HookM) : Bool := decide (h.prog.length ≤ 80)
def shortK (c : ClassM) : Bool := (((decide (c.watch.length ≤ 20) && decide (c.hooks.length ≤ 20)) && decide (c.peek.length ≤ 80)) && decide (c.make.length ≤ 80)) && c.hooks.all shortH
def shortC (cs : List ClassM) : Bool := decide (cs.length ≤ 14) && cs.all shortK
theorem small_of_shortC {cs : List ClassM} (h : shortC cs = true) : SmallC cs := by
 intro c hc
 unfold shortC at h
 rw [Bool.and_eq_true, List.all_eq_true] at h
 have h2 := h.2 c hc
 unfold shortK at h2
 simp only [Bool.and_eq_true, decide_eq_true_eq, List.all_eq_true] at h2
 obtain ⟨⟨⟨⟨h3, h4⟩, h5⟩, h6⟩, h7⟩ := h2
 exact ⟨by omega, by omega, by omega, by omega, fun x hx => by have := h7 x hx; unfold shortH at this; simp only [decide_eq_true_eq] at this; omega⟩
theorem f23_ok (cs : List ClassM) : FnOK Tryz.prog 23 [] [eClasses cs] [] (eBool (shortC cs)) := by
 unfold shortC
 have hlm : (cs.map oClass).length = cs.length := List.length_map ..
 refine FnOK.startC (rvs := [.tmp 2]) G G_good Tryz.func23 rfl Tryz.ntmps23 rfl rfl ?_; with_reducible refine wD ?_
 by_cases e0 : (14 : Int) < (cs.length : Int)
 ·rw [decide_eq_false (show ¬ cs.length ≤ 14 by omega)]
  (have fct := And.intro hlm (e0); (repeat' (first
  | refine gF ?_ | refine aE ?_ ?_
  | apply trivial)); all_goals clear fct)
  all_goals rfl
 rw [decide_eq_true (show cs.length ≤ 14 by omega), Bool.true_and]
 (have fct := And.intro hlm ((eq_false e0)); (repeat' (first
  | refine gF ?_ | refine aE ?_ ?_
  | apply trivial)); all_goals clear fct)
 refine LoopK.use G G_good (fun (k : Nat) => [(0, eClasses cs), (3, eInt k)]) (fun _ => [])
  (fun k => k ≤ cs.length ∧ ∀ (j : Nat) (y : ClassM), j < k → cs[j]? = some y → shortK y = true) (fun k => cs.length - k) 0 ⟨Nat.zero_le _, fun j y h => by omega⟩
  ⟨⟨rfl, rfl⟩, ⟨rfl, rfl, trivial⟩, trivial⟩ ?_
 rintro k ⟨hk, hok⟩
 with_reducible refine wK ?_
 refine IfK.mk (fun h1 => ?_) (fun h1 => ?_) <;> (try simp only [castN] at h1) <;> with_reducible refine wK ?_
 ·have hk' : k < cs.length := by simp only [decide_eq_true_eq] at h1; omega
  obtain ⟨x, hx⟩ : ∃ x, cs[k]? = some x := ⟨_, List.getElem?_eq_getElem hk'⟩
  have bad : shortK x = false → cs.all shortK = false := fun h => all_no hx h
  have good : shortK x = true → ∀ (j : Nat) (y : ClassM), j < k + 1 → cs[j]? = some y → shortK y = true := fun h j y hj hy => by
   rcases Nat.lt_or_ge j k with h6 | h6
   ·exact hok j y h6 hy
   ·have : j = k := by omega
    subst this
    rw [hx] at hy; cases hy; exact h
  obtain ⟨c1, c2, c3, c4, c5⟩ := x
  have n2 : (c2.map oStr).length = c2.length := List.length_map ..
  have n3 : (c3.map oOp).length = c3.length := List.length_map ..
  have n4 : (c4.map oOp).length = c4.length := List.length_map ..
  have n5 : (c5.map oHook).length = c5.length := List.length_map ..
  have sk : shortK ⟨c1, c2, c3, c4, c5⟩ = ((((decide (c2.length ≤ 20) && decide (c5.length ≤ 20)) && decide (c3.length ≤ 80)) && decide (c4.length ≤ 80)) && c5.all shortH) := rfl
  rw [sk] at bad good
  refine IdxK.mk k (eClass ⟨c1, c2, c3, c4, c5⟩) rfl (class_get hx) ?_; with_reducible refine wK ?_
  by_cases e1 : (20 : Int) < (c2.length : Int)
  ·rw [bad (by rw [decide_eq_false (show ¬ c2.length ≤ 20 by omega)]; rfl)]
   (have fct := And.intro n2 (e1); (repeat' (first
  | refine gF ?_ | refine aE ?_ ?_
  | apply trivial)); all_goals clear fct)
  by_cases e2 : (20 : Int) < (c5.length : Int)
  ·rw [bad (by rw [decide_eq_false (show ¬ c5.length ≤ 20 by omega), Bool.and_false]; rfl)]
   (have fct := And.intro n2 (And.intro n5 (And.intro (eq_false e1) (e2))); (repeat' (first
  | refine gF ?_ | refine aE ?_ ?_
  | apply trivial)); all_goals clear fct)
  by_cases e3 : (80 : Int) < (c3.length : Int)
  ·rw [bad (by rw [decide_eq_false (show ¬ c3.length ≤ 80 by omega), Bool.and_false]; rfl)]
   (have fct := And.intro n2 (And.intro n5 (And.intro n3 (And.intro (eq_false e1) (And.intro (eq_false e2) (e3))))); (repeat' (first
  | refine gF ?_ | refine aE ?_ ?_
  | apply trivial)); all_goals clear fct)
  by_cases e4 : (80 : Int) < (c4.length : Int)
  ·rw [bad (by rw [decide_eq_false (show ¬ c4.length ≤ 80 by omega), Bool.and_false]; rfl)]
   (have fct := And.intro n2 (And.intro n5 (And.intro n3 (And.intro n4 (And.intro (eq_false e1) (And.intro (eq_false e2) (And.intro (eq_false e3) (e4))))))); (repeat' (first
  | refine gF ?_ | refine aE ?_ ?_
  | apply trivial)); all_goals clear fct)
  rw [decide_eq_true (show c2.length ≤ 20 by omega), decide_eq_true (show c5.length ≤ 20 by omega), decide_eq_true (show c3.length ≤ 80 by omega), decide_eq_true (show c4.length ≤ 80 by omega)] at bad good
  simp only [Bool.true_and] at bad good
  (have fct := And.intro n2 (And.intro n5 (And.intro n3 (And.intro n4 (And.intro (eq_false e1) (And.intro (eq_false e2) (And.intro (eq_false e3) ((eq_false e4)))))))); (repeat' (first
  | refine gF ?_ | refine aE ?_ ?_
  | apply trivial)); all_goals clear fct)
  refine LoopK.use G G_good (fun (j : Nat) => [(0, eClasses cs), (3, eInt k), (4, .ptr 40 0 0), (5, eInt j)]) (fun _ => [(40, .live 5 [eClass ⟨c1, c2, c3, c4, c5⟩] false)])
   (fun j => j ≤ c5.length ∧ ∀ (i : Nat) (y : HookM), i < j → c5[i]? = some y → shortH y = true) (fun j => c5.length - j) 0 ⟨Nat.zero_le _, fun j y h => by omega⟩
   ⟨⟨rfl, rfl⟩, ⟨rfl, rfl, ⟨rfl, rfl⟩, rfl, trivial⟩, ⟨⟨rfl, rfl, rfl, rfl, rfl, trivial⟩, trivial⟩, trivial⟩ ?_
  rintro j ⟨hj, hoj⟩
  with_reducible refine wK ?_
  refine IfK.mk (fun h2 => ?_) (fun h2 => ?_) <;> (try simp only [castN] at h2) <;> with_reducible refine wK ?_
  ·have hj' : j < c5.length := by simp only [decide_eq_true_eq] at h2; omega
   obtain ⟨⟨u1, u2⟩, hu⟩ : ∃ x, c5[j]? = some x := ⟨_, List.getElem?_eq_getElem hj'⟩
   have nu : (u2.map oOp).length = u2.length := List.length_map ..
   refine IdxK.mk j (eHook ⟨u1, u2⟩) rfl (hook_get hu) ?_; with_reducible refine wK ?_
   by_cases e : (80 : Int) < (u2.length : Int)
   ·rw [bad (all_no hu (decide_eq_false (show ¬ u2.length ≤ 80 by omega)))]
    (have fct := And.intro nu (e); (repeat' (first
  | refine gF ?_ | refine aE ?_ ?_
  | apply trivial)); all_goals clear fct)
   ·have hnx : ∀ (i : Nat) (y : HookM), i < j + 1 → c5[i]? = some y → shortH y = true := fun i y hi hy => by
     rcases Nat.lt_or_ge i j with h6 | h6
     ·exact hoj i y h6 hy
     ·have : i = j := by omega
      subst this
      rw [hu] at hy; cases hy; exact decide_eq_true (show u2.length ≤ 80 by omega)
    (have fct := And.intro nu ((eq_false e)); (repeat' (first
  | refine gF ?_ | refine aE ?_ ?_
  | (((with_reducible show NextK _ _); refine NextK.mk (j + 1) ⟨by omega, hnx⟩ (by omega) ⟨⟨rfl, rfl⟩, ⟨rfl, rfl, ⟨rfl, rfl⟩, by show ((j + 1 : Nat) : Int) = (j : Int) + 1; omega, trivial⟩, ⟨⟨rfl, rfl, rfl, rfl, rfl, trivial⟩, trivial⟩, trivial⟩) <;> with_reducible refine wK ?_)
  | apply trivial)); all_goals clear fct)
  ·have hjl : j = c5.length := by simp only [decide_eq_false_iff_not] at h2; omega
   have hnx := good (all_yes fun i y hy => hoj i y (by have := (List.getElem?_eq_some_iff.1 hy).1; omega) hy)
   repeat' (first
  | refine gK ?_ | refine aE ?_ ?_
  | (((with_reducible show NextK _ _); refine NextK.mk (k + 1) ⟨by omega, hnx⟩ (by omega) ⟨⟨rfl, rfl⟩, ⟨rfl, by show ((k + 1 : Nat) : Int) = (k : Int) + 1; omega, trivial⟩, trivial⟩) <;> with_reducible refine wK ?_)
  | apply trivial)
 ·have hkl : k = cs.length := by simp only [decide_eq_false_iff_not] at h1; omega
  rw [all_yes fun j y hy => hok j y (by have := (List.getElem?_eq_some_iff.1 hy).1; omega) hy]
  (refine eK ?_ ?_ <;> with_reducible repeat' (first | exact trivial | (show _ ∧ _; refine aK ?_ ?_)))
end Go.Proofs.Heir
end
section
set_option linter.unusedSimpArgs false
set_option linter.unusedVariables false
namespace Go.Proofs.Heir
open Go Go.Am Go.RowKit Go.Lib
set_option maxRecDepth 100000
set_option maxHeartbeats 8000000
def rightW (f : ForM) (st : List StateM) (d : DeskM) (cs : List ClassM) : Bool := ((shortF f && shortB d) && shortC cs) && lookV f st d
structure RightW (f : ForM) (st : List StateM) (d : DeskM) (cs : List ClassM) : Prop where
 hs : SmallN f.nodes
 hd : SmallD d
 hc : SmallC cs
 look : lookV f st d = true
 len : st.length = f.nodes.length
 rf : rightF f = true
 rd : rightD d = true
theorem rightW_of {f : ForM} {st : List StateM} {d : DeskM} {cs : List ClassM} (h : rightW f st d cs = true) : RightW f st d cs := by
 unfold rightW at h
 simp only [Bool.and_eq_true] at h
 obtain ⟨⟨⟨h1, h2⟩, h3⟩, h4⟩ := h
 have h5 := h4
 unfold lookV at h5
 simp only [Bool.and_eq_true, decide_eq_true_eq] at h5
 exact ⟨shortF_iff.1 h1, (shortB_iff.1 h2).small, small_of_shortC h3, h4, h5.1.1, h5.1.2, h5.2⟩
theorem f35_ok (f : ForM) (st : List StateM) (d : DeskM) (cs : List ClassM) : FnOK Tryz.prog 35 [] [eFor f, eStates st, eDesk d, eClasses cs] [] (eBool (rightW f st d cs)) := by
 have h9 := f13_ok f
 have h10 := f14_ok d
 have h24 := f23_ok cs
 have hst := (show (st.map oState).length = st.length from List.length_map ..)
 have hlm := (show (f.nodes.map oNode).length = f.nodes.length from List.length_map ..)
 unfold rightW
 cases e1 : shortF f with
 | false =>
   rw [e1] at h9
   obtain ⟨l, m⟩ := f
   obtain ⟨d1, d2, d3, d4⟩ := d
   refine FnOK.startC (rvs := [.tmp 8]) G G_good Tryz.func35 rfl Tryz.ntmps35 rfl rfl ?_; with_reducible refine wD ?_
   repeat' (first
  | refine gK ?_ | refine aE ?_ ?_
  | (((with_reducible refine kQ 13 ?_); refine cL h9 c13 ?_) <;> with_reducible refine wK ?_)
  | apply trivial)
   all_goals rfl
 | true =>
   rw [e1] at h9
   have h48 := f15_ok f (shortF_iff.1 e1)
   cases e2 : shortB d with
   | false =>
     rw [e2] at h10
     obtain ⟨l, m⟩ := f
     obtain ⟨d1, d2, d3, d4⟩ := d
     refine FnOK.startC (rvs := [.tmp 8]) G G_good Tryz.func35 rfl Tryz.ntmps35 rfl rfl ?_; with_reducible refine wD ?_
     repeat' (first
  | refine gK ?_ | refine aE ?_ ?_
  | ((first
   | ((with_reducible refine kQ 13 ?_); refine cL h9 c13 ?_)
   | ((with_reducible refine kQ 14 ?_); refine cL h10 c14 ?_)) <;> with_reducible refine wK ?_)
  | apply trivial)
     all_goals rfl
   | true =>
     rw [e2] at h10
     have h62 := f71_ok d (shortB_iff.1 e2).small
     cases e3 : shortC cs with
     | false =>
       rw [e3] at h24
       obtain ⟨l, m⟩ := f
       obtain ⟨d1, d2, d3, d4⟩ := d
       refine FnOK.startC (rvs := [.tmp 8]) G G_good Tryz.func35 rfl Tryz.ntmps35 rfl rfl ?_; with_reducible refine wD ?_
       repeat' (first
  | refine gK ?_ | refine aE ?_ ?_
  | ((first
   | ((with_reducible refine kQ 13 ?_); refine cL h9 c13 ?_)
   | ((with_reducible refine kQ 14 ?_); refine cL h10 c14 ?_)
   | ((with_reducible refine kQ 23 ?_); refine cL h24 c23 ?_)) <;> with_reducible refine wK ?_)
  | apply trivial)
       all_goals rfl
     | true =>
       rw [e3] at h24
       unfold lookV
       obtain ⟨l, m⟩ := f
       obtain ⟨d1, d2, d3, d4⟩ := d
       simp only at h48 h62 hlm ⊢
       refine FnOK.startC (rvs := [.tmp 8]) G G_good Tryz.func35 rfl Tryz.ntmps35 rfl rfl ?_; with_reducible refine wD ?_
       by_cases g1 : st.length = l.length
       ·rw [decide_eq_true g1]
        cases g2 : rightF ⟨l, m⟩ <;> rw [g2] at h48
        ·(have fct := And.intro hst (And.intro hlm (g1)); (repeat' (first
  | refine gF ?_ | refine aE ?_ ?_
  | ((first
   | ((with_reducible refine kQ 13 ?_); refine cL h9 c13 ?_)
   | ((with_reducible refine kQ 14 ?_); refine cL h10 c14 ?_)
   | ((with_reducible refine kQ 23 ?_); refine cL h24 c23 ?_)
   | ((with_reducible refine kQ 15 ?_); refine cL h48 c15 ?_)) <;> with_reducible refine wK ?_)
  | apply trivial)); all_goals clear fct)
         all_goals rfl
        ·cases g3 : rightD ⟨d1, d2, d3, d4⟩ <;> rw [g3] at h62
         ·(have fct := And.intro hst (And.intro hlm (g1)); (repeat' (first
  | refine gF ?_ | refine aE ?_ ?_
  | ((first
   | ((with_reducible refine kQ 13 ?_); refine cL h9 c13 ?_)
   | ((with_reducible refine kQ 14 ?_); refine cL h10 c14 ?_)
   | ((with_reducible refine kQ 23 ?_); refine cL h24 c23 ?_)
   | ((with_reducible refine kQ 15 ?_); refine cL h48 c15 ?_)
   | ((with_reducible refine kQ 71 ?_); refine cL h62 c71 ?_)) <;> with_reducible refine wK ?_)
  | apply trivial)); all_goals clear fct)
          all_goals rfl
         ·(have fct := And.intro hst (And.intro hlm (g1)); (repeat' (first
  | refine gF ?_ | refine aE ?_ ?_
  | ((first
   | ((with_reducible refine kQ 13 ?_); refine cL h9 c13 ?_)
   | ((with_reducible refine kQ 14 ?_); refine cL h10 c14 ?_)
   | ((with_reducible refine kQ 23 ?_); refine cL h24 c23 ?_)
   | ((with_reducible refine kQ 15 ?_); refine cL h48 c15 ?_)
   | ((with_reducible refine kQ 71 ?_); refine cL h62 c71 ?_)) <;> with_reducible refine wK ?_)
  | apply trivial)); all_goals clear fct)
          all_goals rfl
       ·rw [decide_eq_false g1]
        (have fct := And.intro hst (And.intro hlm ((eq_false g1))); (repeat' (first
  | refine gF ?_ | refine aE ?_ ?_
  | ((first
   | ((with_reducible refine kQ 13 ?_); refine cL h9 c13 ?_)
   | ((with_reducible refine kQ 14 ?_); refine cL h10 c14 ?_)
   | ((with_reducible refine kQ 23 ?_); refine cL h24 c23 ?_)) <;> with_reducible refine wK ?_)
  | apply trivial)); all_goals clear fct)
        all_goals rfl
def noState : StateM := ⟨0, 0, 0, false⟩
def sAt (st : List StateM) (n : Nat) : StateM := (st[n]?).getD noState
theorem sAt_of {st : List StateM} {n : Nat} {s : StateM} (h : st[n]? = some s) : sAt st n = s := by unfold sAt; rw [h]; rfl
def dutyB (f : ForM) (d : DeskM) (cs : List ClassM) (n : Int) (s : StateM) : Bool := ((classB s d cs && (classV s d cs).form) && decide (s.phase = 3)) && decide ((nd f.nodes n).kind = 1)
def ownedT (was now : Int) : TodoM := ⟨5, 0, ⟨#[]⟩, false, false, ⟨#[]⟩, ⟨#[]⟩, was, now, false⟩
def barredT (on : Bool) : TodoM := ⟨6, 0, ⟨#[]⟩, false, false, ⟨#[]⟩, ⟨#[]⟩, 0, 0, on⟩
def clearedT : TodoM := ⟨7, 0, ⟨#[]⟩, false, false, ⟨#[]⟩, ⟨#[]⟩, 0, 0, false⟩
def restoredT (s : ByteArray) : TodoM := ⟨8, 0, ⟨#[]⟩, false, false, ⟨#[]⟩, s, 0, 0, false⟩
def tellD (c : ClassM) (n : Int) (t : TodoM) : List DueN := if hearsC c t.kind = true then [⟨n, t⟩] else []
def toldS (f : ForM) (d : DeskM) (cs : List ClassM) (n : Int) (s : StateM) : StateM := if dutyB f d cs n s = true then ⟨s.phase, s.df, ownN f.nodes n, barN f.nodes n⟩ else s
def toldD (f : ForM) (d : DeskM) (cs : List ClassM) (n : Int) (s : StateM) : List DueN :=
 if dutyB f d cs n s = true then
  (if s.owner = ownN f.nodes n then [] else tellD (classV s d cs) n (ownedT s.owner (ownN f.nodes n))) ++ (if s.barred = barN f.nodes n then [] else tellD (classV s d cs) n (barredT (barN f.nodes n)))
 else []
def tSt (f : ForM) (d : DeskM) (cs : List ClassM) (st : List StateM) (k : Nat) : List StateM := (List.range st.length).map fun n : Nat => if n < k then toldS f d cs (n : Int) (sAt st n) else sAt st n
def tDu (f : ForM) (d : DeskM) (cs : List ClassM) (st : List StateM) (k : Nat) : List DueN := (List.range k).flatMap fun n : Nat => toldD f d cs (n : Int) (sAt st n)
theorem tSt_len (f : ForM) (d : DeskM) (cs : List ClassM) (st : List StateM) (k : Nat) : (tSt f d cs st k).length = st.length := by unfold tSt; simp
theorem tSt_get {f : ForM} {d : DeskM} {cs : List ClassM} {st : List StateM} {k n : Nat} (h : n < st.length) : (tSt f d cs st k)[n]? = some (if n < k then toldS f d cs (n : Int) (sAt st n) else sAt st n) := by
 unfold tSt
 rw [List.getElem?_map, List.getElem?_range h]; rfl
theorem tSt_zero (f : ForM) (d : DeskM) (cs : List ClassM) (st : List StateM) : tSt f d cs st 0 = st := by
 apply List.ext_getElem?
 intro n
 by_cases h : n < st.length
 ·rw [tSt_get h, if_neg (by omega)]
  unfold sAt
  rw [List.getElem?_eq_getElem h]; rfl
 ·rw [List.getElem?_eq_none (l := tSt f d cs st 0) (by rw [tSt_len]; omega), List.getElem?_eq_none (l := st) (by omega)]
theorem tSt_step (f : ForM) (d : DeskM) (cs : List ClassM) (st : List StateM) {k : Nat} (h : k < st.length) : tSt f d cs st (k + 1) = (tSt f d cs st k).set k (toldS f d cs (k : Int) (sAt st k)) := by
 apply List.ext_getElem?
 intro n
 rw [List.getElem?_set]
 by_cases hn : n < st.length
 ·rw [tSt_get hn]
  by_cases e : k = n
  ·subst e; rw [if_pos rfl, if_pos (by omega), if_pos (by rw [tSt_len]; exact h)]
  ·rw [if_neg e, tSt_get hn]
   by_cases e2 : n < k
   ·rw [if_pos (by omega), if_pos e2]
   ·rw [if_neg (by omega), if_neg e2]
 ·rw [List.getElem?_eq_none (l := tSt f d cs st (k + 1)) (by rw [tSt_len]; omega), if_neg (by omega), List.getElem?_eq_none (l := tSt f d cs st k) (by rw [tSt_len]; omega)]
theorem tSt_same (f : ForM) (d : DeskM) (cs : List ClassM) (st : List StateM) {k : Nat} (h : k < st.length) (hs : toldS f d cs (k : Int) (sAt st k) = sAt st k) : tSt f d cs st (k + 1) = tSt f d cs st k := by
 rw [tSt_step f d cs st h, hs]
 apply List.ext_getElem?
 intro n
 rw [List.getElem?_set]
 by_cases e : k = n
 ·subst e; rw [if_pos rfl, if_pos (by rw [tSt_len]; exact h), tSt_get h, if_neg (by omega)]
 ·rw [if_neg e]
theorem tDu_step (f : ForM) (d : DeskM) (cs : List ClassM) (st : List StateM) (k : Nat) : tDu f d cs st (k + 1) = tDu f d cs st k ++ toldD f d cs (k : Int) (sAt st k) := by
 unfold tDu; rw [List.range_succ, List.flatMap_append]; simp
theorem tellD_len (c : ClassM) (n : Int) (t : TodoM) : (tellD c n t).length ≤ 1 := by unfold tellD; split <;> simp
theorem toldD_len (f : ForM) (d : DeskM) (cs : List ClassM) (n : Int) (s : StateM) : (toldD f d cs n s).length ≤ 2 := by
 unfold toldD
 split
 ·rw [List.length_append]
  have h1 := tellD_len (classV s d cs) n (ownedT s.owner (ownN f.nodes n))
  have h2 := tellD_len (classV s d cs) n (barredT (barN f.nodes n))
  have h3 : ∀ (p : Prop) [Decidable p] (l : List DueN), (if p then [] else l).length ≤ l.length := fun p _ l => by split <;> simp
  have h4 := h3 (s.owner = ownN f.nodes n) (tellD (classV s d cs) n (ownedT s.owner (ownN f.nodes n)))
  have h5 := h3 (s.barred = barN f.nodes n) (tellD (classV s d cs) n (barredT (barN f.nodes n)))
  omega
 ·simp
theorem tDu_len (f : ForM) (d : DeskM) (cs : List ClassM) (st : List StateM) : ∀ k, (tDu f d cs st k).length ≤ 2 * k
 | 0 => Nat.le_refl _
 | k + 1 => by
   rw [tDu_step, List.length_append]
   have := tDu_len f d cs st k
   have := toldD_len f d cs (k : Int) (sAt st k)
   omega
def toldSt (f : ForM) (st : List StateM) (d : DeskM) (cs : List ClassM) : List StateM := if lookV f st d = true then tSt f d cs st st.length else st
def toldDu (f : ForM) (st : List StateM) (d : DeskM) (cs : List ClassM) : List DueN := if lookV f st d = true then tDu f d cs st st.length else []
def resetD (f : ForM) (d : DeskM) (cs : List ClassM) (st : List StateM) (n : Int) : List DueN := if dutyB f d cs n (sAt st n.toNat) = true then tellD (classV (sAt st n.toNat) d cs) n clearedT else []
def resetDu (f : ForM) (st : List StateM) (d : DeskM) (cs : List ClassM) (x : Int) : List DueN := if lookV f st d = true ∧ thereN f.nodes x = true then (memF f.nodes x).flatMap (resetD f d cs st) else []
def restoreDu (f : ForM) (st : List StateM) (d : DeskM) (cs : List ClassM) (n : Int) (s : ByteArray) : List DueN :=
 if lookV f st d = true ∧ thereN f.nodes n = true then (if dutyB f d cs n (sAt st n.toNat) = true then tellD (classV (sAt st n.toNat) d cs) n (restoredT s) else []) else []
theorem f81_ok (x : NodeM) : FnOK Tryz.prog 81 [] [eNode x] [] (eBool (isForm x)) := by
 obtain ⟨a1, a2, a3, a4, a5, a6, a7, a8, a9, a10⟩ := x
 unfold isForm
 refine FnOK.startC (rvs := [.tmp 2]) G G_good Tryz.func81 rfl Tryz.ntmps81 rfl rfl ?_; with_reducible refine wD ?_
 by_cases e : a1 = 1
 ·(have fct := (eq_true e); (repeat' (first
  | refine gF ?_ | refine aE ?_ ?_
  | apply trivial)); all_goals clear fct)
  all_goals simp [e]
 ·(have fct := (eq_false e); (repeat' (first
  | refine gF ?_ | refine aE ?_ ?_
  | apply trivial)); all_goals clear fct)
  all_goals simp [e]
theorem f77_ok (f : ForM) (T : Tree f.nodes) (n : Int) (hn : thereN f.nodes n = true) : FnOK Tryz.prog 77 [] [eFor f, eInt n] [] (eInt (rootN f.nodes n)) := by
 have hstep := fun n h1 h2 => root_step T (n := n) h1 h2
 have htop := fun n h1 h2 => root_top T (n := n) h1 h2
 have hwst := fun n h1 h2 => way_step T (n := n) h1 h2
 have hpar : ∀ n, thereN f.nodes n = true → (nd f.nodes n).parent = -1 ∨ thereN f.nodes (nd f.nodes n).parent = true := fun n hn => by
  by_cases h : (nd f.nodes n).parent = -1
  ·exact .inl h
  ·exact .inr (T.par n hn h).1
 obtain ⟨l, m⟩ := f
 simp only at hn hstep htop hpar hwst ⊢
 refine FnOK.startC (rvs := [.tmp 4]) G G_good Tryz.func77 rfl Tryz.ntmps77 rfl rfl ?_; with_reducible refine wD ?_
 refine LoopK.use G G_good (fun (c : Int) => [(1, eInt c), (2, .ptr 20 0 0)]) (fun _ => [(20, .live 2 [eFor ⟨l, m⟩] false)])
  (fun c => thereN l c = true ∧ rootN l c = rootN l n) (fun c => (wayN l c).length) n ⟨hn, rfl⟩
  ⟨⟨rfl, rfl⟩, ⟨rfl, ⟨rfl, rfl⟩, trivial⟩, ⟨⟨rfl, rfl, trivial⟩, trivial⟩, trivial⟩ ?_
 rintro c ⟨hc, hr⟩
 with_reducible refine wK ?_
 obtain ⟨i, y, e, hy, hny⟩ := there_iff.1 hc
 have hpc := hpar c hc
 have hst := hstep c hc
 have htp := htop c hc
 have hws := hwst c hc
 rw [hny] at hpc hst htp hws
 obtain ⟨b1, b2, b3, b4, b5, b6, b7, b8, b9, b10⟩ := y
 simp only at hpc hst htp hws
 by_cases e6 : b6 = -1
 ·rw [← hr, htp e6]
  (have fct := (eq_true e6); (repeat' (first
  | refine gF ?_ | refine aE ?_ ?_
  | ((refine IdxK.mk i (eNode _) e (node_get hy) ?_) <;> with_reducible refine wK ?_)
  | apply trivial)); all_goals clear fct)
  all_goals rfl
 ·(have fct := (eq_false e6); (repeat' (first
  | refine gF ?_ | refine aE ?_ ?_
  | ((first
   | (refine IdxK.mk i (eNode _) e (node_get hy) ?_)
   | ((with_reducible show NextK _ _); refine NextK.mk b6 ⟨hpc.resolve_left e6, by rw [← hst e6, hr]⟩ (by rw [hws e6]; simp) ⟨⟨rfl, rfl⟩, ⟨rfl, ⟨rfl, rfl⟩, trivial⟩, ⟨⟨rfl, rfl, trivial⟩, trivial⟩, trivial⟩)) <;> with_reducible refine wK ?_)
  | apply trivial)); all_goals clear fct)
theorem asked_one (f : ForM) (n : Int) : (rightF f && !decide (0 ≤ idxI (fun n => !thereN f.nodes n) [n])) = (rightF f && thereN f.nodes n) := by
 congr 1
 unfold idxI
 cases h : thereN f.nodes n <;> simp [List.findIdx?_cons, h]
theorem f48_ok (f : ForM) (hs : SmallN f.nodes) (hr : rightF f = true) (n : Int) (hn : thereN f.nodes n = true) : FnOK Tryz.prog 48 [] [eFor f, eInt n] [] (eInt (rootN f.nodes n)) := by
 have h76 := f76_ok f hs [n] (by simp)
 rw [asked_one, hr, hn] at h76
 have h77 := f77_ok f (tree_of hr) n hn
 obtain ⟨l, m⟩ := f
 refine FnOK.startC (rvs := [.tmp 4]) G G_good Tryz.func48 rfl Tryz.ntmps48 rfl rfl ?_; with_reducible refine wD ?_
 refine CallK.lit [71] h76 c76 ⟨⟨rfl, rfl, trivial⟩, frz_ints (l := [n]) rfl rfl rfl rfl, trivial⟩ rfl rfl ?_; with_reducible refine wK ?_
 repeat' (first
  | refine gK ?_ | refine aE ?_ ?_
  | (((with_reducible refine kQ 77 ?_); refine cL h77 c77 ?_) <;> with_reducible refine wK ?_)
  | apply trivial)
 all_goals rfl
end Go.Proofs.Heir
section
namespace Go.Proofs.Heir
open Go Go.Am Go.RowKit Go.Lib
set_option maxRecDepth 100000
set_option maxHeartbeats 8000000
namespace V
variable {l : List NodeM}
theorem ord_more (T : Tree l) : ∀ (m : Nat) (n : Int), thereN l n = true → l.length + 1 ≤ m + (wayN l n).length → ordN l (m + 1) n = ordN l m n
 | 0, n, _, h => by have := way_len (l := l) n; omega
 | m + 1, n, hn, h => by
   rw [ordN, ordN]
   congr 1
   refine flatMap_congrI fun k hk => ?_
   refine ord_more T m k (T.kid n hn k hk).1 ?_
   rw [way_kid T hn hk]; simp; omega
theorem ord_eq (T : Tree l) {n : Int} (hn : thereN l n = true) : ordN l l.length n = n :: (nd l n).kids.flatMap (ordN l l.length) := by
 have h0 := there_pos hn
 obtain ⟨m, hm⟩ : ∃ m, l.length = m + 1 := ⟨l.length - 1, by omega⟩
 have h1 : ∀ k ∈ (nd l n).kids, ordN l l.length k = ordN l m k := fun k hk => by
  rw [hm]
  refine ord_more T m k (T.kid n hn k hk).1 ?_
  obtain ⟨r, hr⟩ := way_head T hn
  rw [way_kid T hn hk, hr]; simp; omega
 conv => lhs; rw [hm, ordN]
 congr 1
 exact flatMap_congrI fun k hk => (h1 k hk).symm
def rest (l : List NodeM) (st : List Int) : List Int := st.reverse.flatMap (ordN l l.length)
theorem rest_pop (T : Tree l) {st : List Int} {t : Int} (ht : thereN l t = true) : rest l (st ++ [t]) = t :: rest l (st ++ (nd l t).kids.reverse) := by
 unfold rest
 rw [List.reverse_append, List.reverse_append, List.reverse_reverse]
 simp only [List.reverse_cons, List.reverse_nil, List.nil_append, List.cons_append, List.flatMap_cons, List.flatMap_append]
 rw [ord_eq T ht]; rfl
theorem rest_len (T : Tree l) : ∀ {st : List Int}, (∀ c ∈ st, thereN l c = true) → st.length ≤ (rest l st).length := by
 intro st h
 unfold rest
 have : ∀ s : List Int, (∀ c ∈ s, thereN l c = true) → s.length ≤ (s.flatMap (ordN l l.length)).length := by
  intro s
  induction s with
  | nil => intro _; exact Nat.le_refl _
  | cons a r ih =>
    intro h
    have h1 := ih fun c hc => h c (List.mem_cons_of_mem _ hc)
    rw [List.flatMap_cons, List.length_append, ord_eq T (h a List.mem_cons_self), List.length_cons, List.length_cons]
    omega
 have := this st.reverse fun c hc => h c (by simpa using hc)
 simpa using this
end V
def ordF (f : ForM) (n : Int) : List Int := if (rightF f && thereN f.nodes n) = true then ordN f.nodes f.nodes.length n else []
end Go.Proofs.Heir
end
end
section
set_option linter.unusedSimpArgs false
set_option linter.unusedVariables false
namespace Go.Am
open Go
theorem RowsM.of {R : AV → AV → Prop} : ∀ {a b : List AV}, MFL R a b → RowsM R a b
 | [], [], _ => ⟨rfl, fun i x y h => by simp at h⟩
 | x :: xs, y :: ys, h => by
  obtain ⟨h1, h2⟩ := RowsM.of h.2
  refine ⟨by simp [h1], fun i u v hu hv => ?_⟩
  cases i with
  | zero => cases hu; cases hv; exact h.1
  | succ i => exact h2 i u v hu hv
 | [], _ :: _, h => h.elim
 | _ :: _, [], h => h.elim
def wideB (wd : Nat) (rows : List AV) : Bool := rows.all fun r => (cells r).length == wd
def wideM (m : ML) : Bool := m.all fun p => match p.2 with
 | .live wd rows _ => wideB wd rows
 | _ => true
theorem wideM_ok {m : ML} (h : wideM m = true) : ∀ t wd rows ro, lkM m t = .live wd rows ro → Wide wd rows := by
 induction m with
 | nil => intro t wd rows ro h; cases h
 | cons p r ih =>
  intro t wd rows ro hl
  obtain ⟨a, b⟩ := p
  unfold wideM at h
  rw [List.all_cons, Bool.and_eq_true] at h
  rw [lkM_eq] at hl
  simp only [lookM] at hl
  cases hta : t == a with
  | true =>
   rw [hta] at hl
   change b = _ at hl
   subst hl
   exact Wide.of_mem fun x hx => by simpa using (List.all_eq_true.1 h.1) x hx
  | false =>
   rw [hta] at hl
   exact ih h.2 t wd rows ro (by rw [lkM_eq]; exact hl)
theorem FnOK.frozen {P : Program} {f : FuncId} {args : List AV} {outs : List MS} {res res' : AV} (m : ML) (hm : lookM m = objsOf outs) (hw : wideM m = true) (h : FnOK P f [] args outs res) (hcv : MF [] (fun _ => true) m 12 res' res) : FnOK P f [] args [] res' := by
 intro w W0 L vs hL hs hargs
 refine (h w W0 L vs hL hs hargs).mono ?_
 rintro e w' ⟨v, μ', rfl, hs', hv⟩
 have hLn : ∀ t, L t = none := fun t => hL t (Nat.zero_le _)
 have hW : ∀ b, Wr W0 (fun _ => none) (objsOf []) b → W0 b := by
  rintro b (h | ⟨t, B, wd, rows, _, h, _⟩)
  ·exact h
  ·cases h
 refine ⟨v, fun _ => none, rfl, ?_, ?_⟩
 ·refine ⟨hs'.tsize, hs'.defers, hs'.os, hs'.tape, hs'.output, hs'.hsize, hs'.shp, hs'.keep, hs'.w0lt, fun t B _ h => (by rw [hLn] at h; cases h), fun t => by simp [bare, objsOf], fun _ => .any, fun t wd rows ro h => ?_, fun t t' wd rows wd' rows' ro' B B' _ h => ?_, fun t wd rows ro B h => ?_, hs'.tabs⟩ <;> simp [bare, objsOf] at h
 ·have hc : Cv (lookM m) (renT []) (fun _ => False) (fun t => ∃ wd rows ro, lookM m t = .live wd rows ro) res' res :=
   MF_cv (fun t wd rows ro h _ => wideM_ok hw t wd rows ro h) (fun t u h => by cases h) (fun t wd rows ro h _ => ⟨wd, rows, ro, by rw [← lkM_eq]; exact h⟩) 12 res' res hcv
  rw [hm] at hc
  refine Cv.rep (W := Wr W0 μ' (objsOf outs)) (μ := μ') (fun t wd rows ro h => hs'.objs t wd rows ro h) (fun b _ hb => .inl (hW b hb)) (fun t h => h.elim) ?_ hc hv
  rintro s B ⟨wd, rows, ro, hl⟩ hB hv hb
  exact (hs'.out s wd rows ro B hl hB hv).1 (hW _ hb)
end Go.Am
end
