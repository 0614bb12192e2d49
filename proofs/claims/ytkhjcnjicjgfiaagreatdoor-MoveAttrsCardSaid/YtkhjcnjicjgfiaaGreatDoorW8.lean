/- Models, plain laws and contracts of functions of the given program; conditions as stated in each theorem. By an AI agent. -/
import Derived.Test.YtkhjcnjicjgfiaaGreatDoorW5
import Derived.RangeFuncNested
import Derived.RangeFuncBound
import Derived.RangeFuncCalls
import Derived.Shelf.Abstract
import Derived.Shelf.RegionOpen
import Derived.WalkKit
import Derived.OwnWalkIn
import Derived.TacticsInMore
import Derived.LoopNIn
import Derived.LoopIn
import Derived.Laws.StructEq
import Derived.Tactics
import Derived.Deep.RegionLaw
import Derived.Lib.SliceRun
import Derived.Laws.Tables
import Derived.Laws.CopyRow
import Derived.Sort.WalkB12
import Derived.Test.YtkhjcnjicjgfiaaGreatDoorW6
import Derived.Test.YtkhjcnjicjgfiaaGreatDoorW7
import Derived.LaidEql
import Derived.Stop.Asserts
import Derived.RowKitTokens
import Derived.Laws.Cells
set_option linter.unusedSimpArgs false
set_option linter.unusedVariables false
namespace Go.Proofs.Heir
open Go Go.Am Go.RowKit Go.Lib
set_option maxRecDepth 100000
set_option maxHeartbeats 8000000
def chU (x : NodeM) : List Int := (if x.under = -1 then [] else [x.under]) ++ x.kids
namespace U
def finN (l : List NodeM) : Nat → Int → Bool
 | 0, _ => false
 | m + 1, n => if (upN (nd l n)) = -1 then true else finN l m (upN (nd l n))
def chN (l : List NodeM) : Nat → Int → List Int
 | 0, _ => []
 | m + 1, n => n :: if (upN (nd l n)) = -1 then [] else chN l m (upN (nd l n))
def ordN (l : List NodeM) : Nat → Int → List Int
 | 0, _ => []
 | m + 1, n => n :: (chU (nd l n)).flatMap (ordN l m)
def wayN (l : List NodeM) (n : Int) : List Int := chN l l.length n
theorem fin_of_ends {l : List NodeM} : ∀ {m : Nat} {n : Int}, endsN l m n = true → finN l m n = true
 | 0, n, h => by simp [endsN] at h
 | m + 1, n, h => by
   unfold finN; unfold endsN at h
   by_cases hp : upN (nd l n) = -1
   ·rw [if_pos hp]
   ·rw [if_neg hp] at h ⊢; exact fin_of_ends h
theorem ch_len (l : List NodeM) : ∀ (m : Nat) (n : Int), (chN l m n).length ≤ m
 | 0, _ => Nat.le_refl _
 | m + 1, n => by
   unfold chN
   split
   ·simp
   ·have := ch_len l m (upN (nd l n))
    simp; omega
theorem ch_more {l : List NodeM} : ∀ {m k : Nat} {n : Int}, finN l m n = true → m ≤ k → chN l k n = chN l m n
 | 0, k, n, h, _ => by simp [finN] at h
 | m + 1, k, n, h, hk => by
   obtain ⟨k, rfl⟩ : ∃ j, k = j + 1 := ⟨k - 1, by omega⟩
   unfold finN at h
   unfold chN
   by_cases hp : (upN (nd l n)) = -1
   ·rw [if_pos hp, if_pos hp]
   ·rw [if_neg hp] at h
    rw [if_neg hp, if_neg hp, ch_more h (by omega)]
structure Tree (l : List NodeM) : Prop where
 par : ∀ n, thereN l n = true → (upN (nd l n)) ≠ -1 → thereN l (upN (nd l n)) = true ∧ n ∈ (chU (nd l (upN (nd l n))))
 kid : ∀ n, thereN l n = true → ∀ k ∈ (chU (nd l n)), thereN l k = true ∧ (upN (nd l k)) = n
 dup : ∀ n, thereN l n = true → (chU (nd l n)).Nodup
 fin : ∀ n, thereN l n = true → finN l l.length n = true
variable {l : List NodeM}
theorem up_ind (T : Tree l) {P : Int → Prop} (h0 : ∀ n, thereN l n = true → (upN (nd l n)) = -1 → P n) (h1 : ∀ n, thereN l n = true → (upN (nd l n)) ≠ -1 → thereN l (upN (nd l n)) = true → P (upN (nd l n)) → P n) : ∀ n, thereN l n = true → P n := by
 have H : ∀ (m : Nat) (n : Int), thereN l n = true → finN l m n = true → P n := by
  intro m
  induction m with
  | zero => intro n _ h; simp [finN] at h
  | succ m ih =>
    intro n hn h
    unfold finN at h
    by_cases hp : (upN (nd l n)) = -1
    ·exact h0 n hn hp
    ·rw [if_neg hp] at h
     have hq := (T.par n hn hp).1
     exact h1 n hn hp hq (ih _ hq h)
 exact fun n hn => H _ n hn (T.fin n hn)
theorem way_top (T : Tree l) {n : Int} (hn : thereN l n = true) (hp : (upN (nd l n)) = -1) : wayN l n = [n] := by
 have := there_pos hn
 obtain ⟨m, hm⟩ : ∃ m, l.length = m + 1 := ⟨l.length - 1, by omega⟩
 unfold wayN; rw [hm]; unfold chN; rw [if_pos hp]
theorem way_step (T : Tree l) {n : Int} (hn : thereN l n = true) (hp : (upN (nd l n)) ≠ -1) : wayN l n = n :: wayN l (upN (nd l n)) := by
 have := there_pos hn
 obtain ⟨m, hm⟩ : ∃ m, l.length = m + 1 := ⟨l.length - 1, by omega⟩
 have hf := T.fin n hn
 unfold wayN; rw [hm] at hf ⊢
 unfold finN at hf
 rw [if_neg hp] at hf
 rw [chN, if_neg hp, ch_more hf (Nat.le_succ m)]
theorem way_kid (T : Tree l) {n k : Int} (hn : thereN l n = true) (hk : k ∈ (chU (nd l n))) : wayN l k = k :: wayN l n := by
 have h := T.kid n hn k hk
 have h0 := there_pos hn
 have hp : (upN (nd l k)) ≠ -1 := by rw [h.2]; omega
 rw [way_step T h.1 hp, h.2]
theorem way_head (T : Tree l) {n : Int} (hn : thereN l n = true) : ∃ r, wayN l n = n :: r := by
 by_cases hp : (upN (nd l n)) = -1
 ·exact ⟨[], way_top T hn hp⟩
 ·exact ⟨_, way_step T hn hp⟩
theorem way_self (T : Tree l) {n : Int} (hn : thereN l n = true) : n ∈ wayN l n := by
 obtain ⟨r, hr⟩ := way_head T hn; rw [hr]; exact List.mem_cons_self
theorem way_len (n : Int) : (wayN l n).length ≤ l.length := ch_len l _ n
theorem way_there (T : Tree l) : ∀ n, thereN l n = true → ∀ a ∈ wayN l n, thereN l a = true := by
 refine up_ind T (fun n hn hp a ha => ?_) (fun n hn hp hq ih a ha => ?_)
 ·rw [way_top T hn hp] at ha; rw [List.mem_singleton.1 ha]; exact hn
 ·rw [way_step T hn hp] at ha
  rcases List.mem_cons.1 ha with rfl | h
  ·exact hn
  ·exact ih a h
theorem way_cut (T : Tree l) : ∀ n, thereN l n = true → ∀ a ∈ wayN l n, ∃ t, wayN l n = t ++ wayN l a := by
 refine up_ind T (fun n hn hp a ha => ?_) (fun n hn hp hq ih a ha => ?_)
 ·have h := ha; rw [way_top T hn hp] at h; rw [List.mem_singleton.1 h]; exact ⟨[], rfl⟩
 ·have h := ha
  rw [way_step T hn hp] at h
  rcases List.mem_cons.1 h with rfl | h
  ·exact ⟨[], rfl⟩
  ·obtain ⟨t, ht⟩ := ih a h
   exact ⟨n :: t, by rw [way_step T hn hp, ht]; rfl⟩
theorem way_trans (T : Tree l) {a b c : Int} (hc : thereN l c = true) (h1 : a ∈ wayN l b) (h2 : b ∈ wayN l c) : a ∈ wayN l c := by
 obtain ⟨t, ht⟩ := way_cut T c hc b h2
 rw [ht]; exact List.mem_append_right _ h1
theorem way_eq (T : Tree l) {n a b : Int} (hn : thereN l n = true) (ha : a ∈ wayN l n) (hb : b ∈ wayN l n) (he : (wayN l a).length = (wayN l b).length) : a = b := by
 obtain ⟨t, ht⟩ := way_cut T n hn a ha
 obtain ⟨s, hs⟩ := way_cut T n hn b hb
 rw [ht] at hs
 have h := (List.append_inj' hs he).2
 obtain ⟨r, hr⟩ := way_head T (way_there T n hn a ha)
 obtain ⟨q, hq⟩ := way_head T (way_there T n hn b hb)
 rw [hr, hq] at h
 exact (List.cons.inj h).1
theorem ord_way (T : Tree l) : ∀ (m : Nat) (n : Int), thereN l n = true → ∀ b ∈ ordN l m n, thereN l b = true ∧ n ∈ wayN l b
 | 0, n, _, b, hb => by simp [ordN] at hb
 | m + 1, n, hn, b, hb => by
   unfold ordN at hb
   rcases List.mem_cons.1 hb with rfl | h
   ·exact ⟨hn, way_self T hn⟩
   ·obtain ⟨k, hk, hbk⟩ := List.mem_flatMap.1 h
    have hkk := T.kid n hn k hk
    obtain ⟨h1, h2⟩ := ord_way T m k hkk.1 b hbk
    refine ⟨h1, way_trans T h1 ?_ h2⟩
    rw [way_kid T hn hk]
    exact List.mem_cons_of_mem _ (way_self T hn)
theorem ord_nodup (T : Tree l) : ∀ (m : Nat) (n : Int), thereN l n = true → (ordN l m n).Nodup
 | 0, _, _ => List.nodup_nil
 | m + 1, n, hn => by
   unfold ordN
   refine List.nodup_cons.2 ⟨fun h => ?_, ?_⟩
   ·obtain ⟨k, hk, hnk⟩ := List.mem_flatMap.1 h
    have hkk := T.kid n hn k hk
    have h1 := (ord_way T m k hkk.1 n hnk).2
    obtain ⟨t, ht⟩ := way_cut T n hn k h1
    have h2 := congrArg List.length ht
    rw [way_kid T hn hk] at h2
    simp at h2
    omega
   ·refine List.pairwise_flatMap.2 ⟨fun k hk => ord_nodup T m k (T.kid n hn k hk).1, ?_⟩
    refine List.Pairwise.imp_of_mem (fun {a b} ha hb hab x hx y hy e => ?_) (T.dup n hn)
    subst e
    have h1 := ord_way T m a (T.kid n hn a ha).1 x hx
    have h2 := ord_way T m b (T.kid n hn b hb).1 x hy
    refine hab (way_eq T h1.1 h1.2 h2.2 ?_)
    rw [way_kid T hn ha, way_kid T hn hb]; rfl
theorem ord_len (T : Tree l) (m : Nat) {n : Int} (hn : thereN l n = true) : (ordN l m n).length ≤ l.length :=
 ints_len (ord_nodup T m n hn) fun x hx => there_pos (ord_way T m n hn x hx).1
theorem tree_of {f : ForM} (h : rightF f = true) : Tree f.nodes := by
 have hN := right_nodes h
 have T := Heir.tree_of h
 have kidK : ∀ n, thereN f.nodes n = true → ∀ c ∈ (nd f.nodes n).kids, (nd f.nodes c).kind = 1 ∨ (nd f.nodes c).kind = 2 := by
  intro n hn c hc
  have h1 := hN n hn
  unfold nodeOK bearsN at h1
  simp only [Bool.and_eq_true] at h1
  have h2 := (kidsOK_iff.1 h1.2.2.2.1.1).1 c hc
  unfold kidP at h2
  simp only [Bool.and_eq_true, Bool.or_eq_true, decide_eq_true_eq] at h2
  rcases h2.2.2.2 with h3 | h3
  ·exact .inl h3
  ·exact .inr h3.1
 have und : ∀ n, thereN f.nodes n = true → (nd f.nodes n).under ≠ -1 → thereN f.nodes (nd f.nodes n).under = true ∧ (nd f.nodes (nd f.nodes n).under).kind = 4 ∧ (nd f.nodes (nd f.nodes n).under).host = n := by
  intro n hn hu
  have h1 := hN n hn
  unfold nodeOK shadedN isN at h1
  simp only [Bool.and_eq_true, Bool.or_eq_true, decide_eq_true_eq] at h1
  rcases h1.2.2.2.2.2 with h2 | h2
  ·exact absurd h2 hu
  ·exact ⟨h2.1.2.1, h2.1.2.2, h2.2⟩
 have top4 : ∀ n, thereN f.nodes n = true → (nd f.nodes n).kind = 4 → (nd f.nodes n).parent = -1 := by
  intro n hn hk
  have h1 := hN n hn
  unfold nodeOK hungN at h1
  simp only [Bool.and_eq_true, Bool.or_eq_true, decide_eq_true_eq] at h1
  rcases h1.2.2.1 with h2 | h2
  ·exact h2
  ·rcases h2.1.1.1 with h3 | h3 <;> (rw [hk] at h3; cases h3)
 have mem : ∀ (x : NodeM) (k : Int), k ∈ chU x ↔ (x.under ≠ -1 ∧ k = x.under) ∨ k ∈ x.kids := by
  intro x k
  unfold chU
  rw [List.mem_append]
  by_cases hu : x.under = -1
  ·simp [hu]
  ·simp [hu]
 refine ⟨fun n hn hp => ?_, fun n hn k hk => ?_, fun n hn => ?_, fun n hn => fin_of_ends (right_ends h n hn)⟩
 ·unfold upN at hp ⊢
  by_cases hq : (nd f.nodes n).parent = -1
  ·rw [if_pos hq] at hp ⊢
   have h1 := hN n hn
   unfold nodeOK shadedN at h1
   simp only [Bool.and_eq_true] at h1
   have h2 := h1.2.2.2.2.1
   by_cases hk : (nd f.nodes n).kind = 4
   ·rw [if_pos hk] at h2
    unfold isN at h2
    simp only [Bool.and_eq_true, decide_eq_true_eq] at h2
    refine ⟨h2.1.1.1, (mem _ _).2 (.inl ⟨?_, h2.1.2.symm⟩)⟩
    rw [h2.1.2]
    have := there_pos hn
    omega
   ·rw [if_neg hk] at h2
    exact absurd (by simpa using h2) hp
  ·rw [if_neg hq]
   have h1 := T.par n hn hq
   exact ⟨h1.1, (mem _ _).2 (.inr h1.2)⟩
 ·have hn0 := there_pos hn
  rcases (mem _ _).1 hk with ⟨h1, rfl⟩ | h1
  ·obtain ⟨h2, h3, h4⟩ := und n hn h1
   exact ⟨h2, by unfold upN; rw [if_pos (top4 _ h2 h3)]; exact h4⟩
  ·obtain ⟨h2, h3⟩ := T.kid n hn k h1
   exact ⟨h2, by unfold upN; rw [if_neg (by rw [h3]; omega)]; exact h3⟩
 ·unfold chU
  by_cases hu : (nd f.nodes n).under = -1
  ·rw [if_pos hu]; exact T.dup n hn
  ·rw [if_neg hu]
   refine List.nodup_cons.2 ⟨fun hm => ?_, T.dup n hn⟩
   have h1 := (und n hn hu).2.1
   rcases kidK n hn _ hm with h2 | h2 <;> (rw [h1] at h2; cases h2)
end U
theorem AppK.take {rb rs : List AV} {off len off' len' bytes : Nat} {acc : Tk} {sl : SL} {m : ML} {A : List AV → Tk → SL → ML → Prop} (rows0 news : List AV) (h0 : off = 0 ∧ len ≤ rb.length ∧ rows0 = rb.take len) (h1 : off' = 0 ∧ len' = rs.length ∧ news = rs) (h2 : oneL (flat news) = true)
  (h3 : (rows0.length + news.length) * bytes ≤ 140737488355328) (h4 : rows0.length + news.length ≤ 9223372036854775807) (h : A (rows0 ++ news) acc sl m) : AppK rb off len rs off' len' bytes acc sl m (A := A) := by
 obtain ⟨rfl, hl, rfl⟩ := h0
 obtain ⟨rfl, rfl, rfl⟩ := h1
 exact ⟨_, _, by omega, by simp, by omega, by simp, h2, h3, h4, h⟩
theorem flatMap_congrI {α β : Type} {f g : α → List β} : ∀ {l : List α}, (∀ a ∈ l, f a = g a) → l.flatMap f = l.flatMap g
 | [], _ => rfl
 | a :: r, h => by rw [List.flatMap_cons, List.flatMap_cons, h a List.mem_cons_self, flatMap_congrI fun b hb => h b (List.mem_cons_of_mem _ hb)]
namespace U
variable {l : List NodeM}
theorem ord_more (T : Tree l) : ∀ (m : Nat) (n : Int), thereN l n = true → l.length + 1 ≤ m + (wayN l n).length → ordN l (m + 1) n = ordN l m n
 | 0, n, _, h => by have := way_len (l := l) n; omega
 | m + 1, n, hn, h => by
   rw [ordN, ordN]
   congr 1
   refine flatMap_congrI fun k hk => ?_
   refine ord_more T m k (T.kid n hn k hk).1 ?_
   rw [way_kid T hn hk]; simp; omega
theorem ord_eq (T : Tree l) {n : Int} (hn : thereN l n = true) : ordN l l.length n = n :: (chU (nd l n)).flatMap (ordN l l.length) := by
 have h0 := there_pos hn
 obtain ⟨m, hm⟩ : ∃ m, l.length = m + 1 := ⟨l.length - 1, by omega⟩
 have h1 : ∀ k ∈ chU (nd l n), ordN l l.length k = ordN l m k := fun k hk => by
  rw [hm]
  refine ord_more T m k (T.kid n hn k hk).1 ?_
  obtain ⟨r, hr⟩ := way_head T hn
  rw [way_kid T hn hk, hr]; simp; omega
 conv => lhs; rw [hm, ordN]
 congr 1
 exact flatMap_congrI fun k hk => (h1 k hk).symm
def rest (l : List NodeM) (st : List Int) : List Int := st.reverse.flatMap (ordN l l.length)
theorem rest_pop (T : Tree l) {st : List Int} {t : Int} (ht : thereN l t = true) : rest l (st ++ [t]) = t :: rest l (st ++ (chU (nd l t)).reverse) := by
 unfold rest
 rw [List.reverse_append, List.reverse_append, List.reverse_reverse]
 simp only [List.reverse_cons, List.reverse_nil, List.nil_append, List.cons_append, List.flatMap_cons, List.flatMap_append]
 rw [ord_eq T ht]; rfl
theorem rest_len (T : Tree l) : ∀ {st : List Int}, (∀ c ∈ st, thereN l c = true) → st.length ≤ (rest l st).length := by
 intro st h
 unfold rest
 have : ∀ s : List Int, (∀ c ∈ s, thereN l c = true) → s.length ≤ (s.flatMap (ordN l l.length)).length := by
  intro s
  induction s with
  | nil => intro _; exact Nat.le_refl _
  | cons a r ih =>
    intro h
    have h1 := ih fun c hc => h c (List.mem_cons_of_mem _ hc)
    rw [List.flatMap_cons, List.length_append, ord_eq T (h a List.mem_cons_self), List.length_cons, List.length_cons]
    omega
 have := this st.reverse fun c hc => h c (by simpa using hc)
 simpa using this
end U
theorem f43s_ok (s : ByteArray) : FnOK Tryz.prog 152 [] [eStr s] [] (eBool (customS s)) := by
 cases hr : rightS s with
 | true =>
   have hs : s.size ≤ 100000 := by
    have h0 := hr; unfold rightS rightL at h0; simp only [Bool.and_eq_true, decide_eq_true_eq] at h0
    have hsz : s.size = s.data.toList.length := size_len s
    omega
   exact f152_ok s hs
 | false =>
   have e : customS s = false := by unfold customS; rw [hr]; rfl
   rw [e]
   refine FnOK.startC (rvs := [.tmp 2]) G G_good Tryz.func152 rfl Tryz.ntmps152 rfl rfl ?_; with_reducible refine wD ?_
   refine cL (f98_ok s) c98 ?_; with_reducible refine wK ?_
   rw [hr]
   repeat' (first
  | refine gK ?_ | refine aE ?_ ?_
  | apply trivial)
def smallX (x : NodeM) : Bool := decide (x.kids.length ≤ 60) && decide (x.attrs.length ≤ 60) && decide (x.name.size ≤ 300)
theorem short_eq (f : ForM) : shortF f = (decide (f.nodes.length ≤ 60) && f.nodes.all smallX) := rfl
theorem all_no {α : Type} {p : α → Bool} {l : List α} {k : Nat} {x : α} (h : l[k]? = some x) (hp : p x = false) : l.all p = false := by
 rw [Bool.eq_false_iff]
 intro h1
 rw [List.all_eq_true] at h1
 rw [h1 x (List.mem_of_getElem? h)] at hp; cases hp
theorem all_yes {α : Type} {p : α → Bool} {l : List α} (h : ∀ (k : Nat) (x : α), l[k]? = some x → p x = true) : l.all p = true := by
 rw [List.all_eq_true]
 intro x hx
 obtain ⟨k, hk⟩ := List.getElem?_of_mem hx
 exact h k x hk
theorem f16_ok (f : ForM) : FnOK Tryz.prog 16 [] [eFor f] [] (eBool (shortF f)) := by
 rw [short_eq]
 obtain ⟨l, m⟩ := f
 simp only
 have hlm : (l.map oNode).length = l.length := List.length_map ..
 refine FnOK.startC (rvs := [.tmp 2]) G G_good Tryz.func16 rfl Tryz.ntmps16 rfl rfl ?_; with_reducible refine wD ?_
 by_cases e0 : (60 : Int) < (l.length : Int)
 ·rw [decide_eq_false (show ¬ l.length ≤ 60 by omega)]
  (have fct := And.intro hlm (e0); (repeat' (first
  | refine gF ?_ | refine aE ?_ ?_
  | apply trivial)); all_goals clear fct)
  all_goals rfl
 rw [decide_eq_true (show l.length ≤ 60 by omega), Bool.true_and]
 (have fct := And.intro hlm ((eq_false e0)); (repeat' (first
  | refine gF ?_ | refine aE ?_ ?_
  | apply trivial)); all_goals clear fct)
 refine LoopK.use G G_good (fun (k : Nat) => [(1, .ptr 10 0 0), (3, eInt k)]) (fun _ => [(10, .live 2 [eFor ⟨l, m⟩] false)])
  (fun k => k ≤ l.length ∧ ∀ (j : Nat) (y : NodeM), j < k → l[j]? = some y → smallX y = true) (fun k => l.length - k) 0 ⟨Nat.zero_le _, fun j y h => by omega⟩
  ⟨⟨rfl, rfl⟩, ⟨⟨rfl, rfl⟩, rfl, trivial⟩, ⟨⟨rfl, rfl, trivial⟩, trivial⟩, trivial⟩ ?_
 rintro k ⟨hk, hok⟩
 with_reducible refine wK ?_
 refine IfK.mk (fun h1 => ?_) (fun h1 => ?_) <;> (try simp only [castN] at h1) <;> with_reducible refine wK ?_
 ·have hk' : k < l.length := by simp only [decide_eq_true_eq] at h1; omega
  obtain ⟨x, hx⟩ : ∃ x, l[k]? = some x := ⟨_, List.getElem?_eq_getElem hk'⟩
  have bad : smallX x = false → l.all smallX = false := fun h => all_no hx h
  have good : smallX x = true → ∀ (j : Nat) (y : NodeM), j < k + 1 → l[j]? = some y → smallX y = true := fun h j y hj hy => by
   rcases Nat.lt_or_ge j k with h6 | h6
   ·exact hok j y h6 hy
   ·have : j = k := by omega
    subst this
    rw [hx] at hy; cases hy; exact h
  obtain ⟨a1, a2, a3, a4, a5, a6, a7, a8, a9, a10⟩ := x
  have hla : (a5.map oAttr).length = a5.length := List.length_map ..
  have hlk : (a7.map oInt).length = a7.length := List.length_map ..
  have sm : smallX ⟨a1, a2, a3, a4, a5, a6, a7, a8, a9, a10⟩ = (decide (a7.length ≤ 60) && decide (a5.length ≤ 60) && decide (a2.size ≤ 300)) := rfl
  rw [sm] at bad good
  refine IdxK.mk k (eNode _) rfl (node_get hx) ?_; with_reducible refine wK ?_
  by_cases e1 : (60 : Int) < (a7.length : Int)
  ·rw [bad (by rw [decide_eq_false (show ¬ a7.length ≤ 60 by omega)]; rfl)]
   (have fct := And.intro hlk (e1); (repeat' (first
  | refine gF ?_ | refine aE ?_ ?_
  | apply trivial)); all_goals clear fct)
  by_cases e2 : (60 : Int) < (a5.length : Int)
  ·rw [bad (by rw [decide_eq_false (show ¬ a5.length ≤ 60 by omega), Bool.and_false]; rfl)]
   (have fct := And.intro hlk (And.intro hla (And.intro (eq_false e1) (e2))); (repeat' (first
  | refine gF ?_ | refine aE ?_ ?_
  | ((refine IdxK.mk k (eNode _) rfl (node_get hx) ?_) <;> with_reducible refine wK ?_)
  | apply trivial)); all_goals clear fct)
  by_cases e3 : (300 : Int) < (a2.size : Int)
  ·rw [bad (by rw [decide_eq_false (show ¬ a2.size ≤ 300 by omega), Bool.and_false])]
   (have fct := And.intro hlk (And.intro hla (And.intro (eq_false e1) (And.intro (eq_false e2) (e3)))); (repeat' (first
  | refine gF ?_ | refine aE ?_ ?_
  | ((refine IdxK.mk k (eNode _) rfl (node_get hx) ?_) <;> with_reducible refine wK ?_)
  | apply trivial)); all_goals clear fct)
  have hnx := good (by simp only [Bool.and_eq_true, decide_eq_true_eq]; omega)
  (have fct := And.intro hlk (And.intro hla (And.intro (eq_false e1) (And.intro (eq_false e2) ((eq_false e3))))); (repeat' (first
  | refine gF ?_ | refine aE ?_ ?_
  | ((first
   | (refine IdxK.mk k (eNode _) rfl (node_get hx) ?_)
   | ((with_reducible show NextK _ _); refine NextK.mk (k + 1) ⟨by omega, hnx⟩ (by omega) ⟨⟨rfl, rfl⟩, ⟨⟨rfl, rfl⟩, by show ((k + 1 : Nat) : Int) = (k : Int) + 1; omega, trivial⟩, ⟨⟨rfl, rfl, trivial⟩, trivial⟩, trivial⟩)) <;> with_reducible refine wK ?_)
  | apply trivial)); all_goals clear fct)
 ·have hkl : k = l.length := by simp only [decide_eq_false_iff_not] at h1; omega
  rw [all_yes fun j y hy => hok j y (by have := (List.getElem?_eq_some_iff.1 hy).1; omega) hy]
  (refine eK ?_ ?_ <;> with_reducible repeat' (first | exact trivial | (show _ ∧ _; refine aK ?_ ?_)))
theorem node_at {l : List NodeM} {n : Int} (h : 0 ≤ n ∧ n < (l.length : Int)) : ∃ (i : Nat) (y : NodeM), n = (i : Int) ∧ l[i]? = some y ∧ nd l n = y := by
  obtain ⟨i, y, h1, h2, h3⟩ := there_iff.1 (show thereN l n = true by unfold thereN; simp; omega)
  exact ⟨i, y, h1, h2, h3⟩
theorem CutK {P : Program} {N nL : Nat} {sl : SL} {m : ML} {c : Code} {Q : Exit → SL → ML → Prop} {F G : Prop} (main : (F → LoopK P N nL sl m (c := c) (Q := Q)) → G) (rest : F → LoopK P N nL sl m (c := c) (Q := Q)) : G := main rest
set_option maxHeartbeats 16000000 in
theorem f88_ok (f : ForM) (hs : SmallN f.nodes) (k : Nat) (x : NodeM) (hx : f.nodes[k]? = some x) : FnOK Tryz.prog 88 [] [eFor f, eInt k] [] (eBool (refNode f.nodes k x)) := by
  have h29 := fun (l : List Int) (hl : l.length ≤ 100000) => f31_ok l hl
  have hxk := hs.kids x (List.mem_of_getElem? hx)
  have hxa := hs.attrs x (List.mem_of_getElem? hx)
  have hxn := hs.name x (List.mem_of_getElem? hx)
  have h30 := f98_ok x.name
  have h31 := f151_ok x.name (by omega)
  have h32 := f43s_ok x.is
  have h33 := f153_ok x.attrs (by omega)
  have hK : ∀ (i : Nat) (y : NodeM), f.nodes[i]? = some y → y.kids.length ≤ 100000 := fun i y h => by have := hs.kids y (List.mem_of_getElem? h); omega
  have hl := hs.len
  have hk : k < f.nodes.length := (List.getElem?_eq_some_iff.1 hx).1
  obtain ⟨l, m⟩ := f
  unfold refNode
  simp only at hK hx hl hk ⊢
  obtain ⟨a1, a2, a3, a4, a5, a6, a7, a8, a9, a10⟩ := x
  simp only at hxk hxa hxn h30 h31 h32 h33 ⊢
  have hlm : (l.map oNode).length = l.length := List.length_map ..
  have hlk : (a7.map oInt).length = a7.length := List.length_map ..
  have hla : (a5.map oAttr).length = a5.length := List.length_map ..
  apply CutK (P := Tryz.prog) (N := 353) (nL := 0) (F := rDoc l k ⟨a1, a2, a3, a4, a5, a6, a7, a8, a9, a10⟩ = true ∧ rPar l k ⟨a1, a2, a3, a4, a5, a6, a7, a8, a9, a10⟩ = true)
    (sl := [(1, eInt k), (2, .ptr 20 0 0), (5, .ptr 50 0 0), (6, eInt l.length), (7, eInt 0), (8, eInt 0)]) (m := [(20, .live 2 [eFor ⟨l, m⟩] false), (50, .live 10 [eNode ⟨a1, a2, a3, a4, a5, a6, a7, a8, a9, a10⟩] false)])
  case main =>
    intro key
    have bad1 : ∀ b, rDoc l k ⟨a1, a2, a3, a4, a5, a6, a7, a8, a9, a10⟩ = false → (rDoc l k ⟨a1, a2, a3, a4, a5, a6, a7, a8, a9, a10⟩ && b) = false := fun b h => by rw [h]; rfl
    have bad2 : ∀ b c, rPar l k ⟨a1, a2, a3, a4, a5, a6, a7, a8, a9, a10⟩ = false → (c && (rPar l k ⟨a1, a2, a3, a4, a5, a6, a7, a8, a9, a10⟩ && b)) = false := fun b c h => by rw [h]; simp
    refine FnOK.startC (rvs := [.tmp 4]) G G_good Tryz.func88 rfl Tryz.ntmps88 rfl rfl ?_; delta List.toArray; (with_reducible ((conv => whnf); (conv => congr <;> reduce); repeat ((first | refine HaltK.mk ?_ | refine StopK.mk ?_); (conv => whnf); (conv => congr <;> reduce))))
    refine IdxK.mk k (eNode _) rfl (node_get hx) ?_; (with_reducible ((conv => whnf); (conv => congr <;> reduce); repeat ((first | refine HaltK.mk ?_ | refine StopK.mk ?_); (conv => whnf); (conv => congr <;> reduce))))
    repeat' (first
    | (first
    | ((with_reducible show IfK _ _ _ _); first | refine IfK.ff ?_ | refine IfK.tt ?_ | refine IfK.no (by first | exact qA | exact decide_eq_true (by (try simp only [castN]); omega) | exact decide_eq_false (by (try simp only [castN]); omega) | (simp only [castN, Bool.not_eq_true', Bool.not_eq_false', decide_eq_true_eq, decide_eq_false_iff_not]; omega)) ?_ | refine IfK.yes (by first | exact qA | exact decide_eq_true (by (try simp only [castN]); omega) | exact decide_eq_false (by (try simp only [castN]); omega) | (simp only [castN, Bool.not_eq_true', Bool.not_eq_false', decide_eq_true_eq, decide_eq_false_iff_not]; omega)) ?_ | (refine IfK.mk (fun hp => ?_) (fun hp => ?_) <;> (try simp only [castN, decide_eq_true_eq, decide_eq_false_iff_not, Bool.not_eq_true', Bool.not_eq_false', Decidable.not_not, Int.not_lt, Int.not_le] at hp)))
    | ((with_reducible show NeedK _ _ _ _); refine nK ?_)
    | ((with_reducible show DrawK _ _ _ _); refine dK ?_)
    | ((with_reducible show IdxK _ a10 _ _ _); refine IdxK.mk iD (eNode _) eD (node_get hyD) ?_)
    | ((with_reducible show IdxK _ a10 _ _ _); (obtain ⟨iD, y, eD, hyD, hnyD⟩ := node_at (l := l) (n := a10) (by omega)); (obtain ⟨b1, b2, b3, b4, b5, b6, b7, b8, b9, b10⟩ := y); refine IdxK.mk iD (eNode _) eD (node_get hyD) ?_)
    | ((with_reducible show IdxK _ a6 _ _ _); refine IdxK.mk iP (eNode _) eP (node_get hyP) ?_)
    | ((with_reducible show IdxK _ a6 _ _ _); (obtain ⟨iP, y, eP, hyP, hnyP⟩ := node_at (l := l) (n := a6) (by omega)); (obtain ⟨b1, b2, b3, b4, b5, b6, b7, b8, b9, b10⟩ := y); refine IdxK.mk iP (eNode _) eP (node_get hyP) ?_)
    | ((with_reducible refine kQ 31 ?_); refine cL (h29 _ (hK _ _ hyP) k) c31 ?_)) <;> (with_reducible ((conv => whnf); (conv => congr <;> reduce); repeat ((first | refine HaltK.mk ?_ | refine StopK.mk ?_); (conv => whnf); (conv => congr <;> reduce))))
    | ((with_reducible show (_ ∧ _) ∧ _ ∧ _); refine ⟨⟨rfl, rfl⟩, ?_, ?_⟩ <;> with_reducible ((conv => whnf) <;> repeat' (first | exact trivial | (refine And.intro ?_ ?_ <;> (conv => whnf))))))
    all_goals first
      | refine bad1 _ ?_
        (rw [Bool.eq_false_iff]; intro h; (first | simp only [rDoc, isN, thereN, Bool.and_eq_true, Bool.or_eq_true, decide_eq_true_eq, ne_eq, ← List.length_eq_zero_iff, hnyD] at h | simp only [rDoc, isN, thereN, Bool.and_eq_true, Bool.or_eq_true, decide_eq_true_eq, ne_eq, ← List.length_eq_zero_iff] at h); omega)
      | refine bad2 _ _ ?_
        (rw [Bool.eq_false_iff]; intro h; (first | simp only [rPar, isN, thereN, Bool.and_eq_true, Bool.or_eq_true, decide_eq_true_eq, ne_eq, ← List.length_eq_zero_iff, hnyP] at h | simp only [rPar, isN, thereN, Bool.and_eq_true, Bool.or_eq_true, decide_eq_true_eq, ne_eq, ← List.length_eq_zero_iff] at h); omega)
      | refine LoopK.fit ?_ (key ⟨?_, ?_⟩)
        · exact ⟨⟨rfl, rfl⟩, ⟨rfl, ⟨rfl, rfl⟩, ⟨rfl, rfl⟩, by show (l.length : Int) = ((l.map oNode).length : Int); rw [hlm], rfl, rfl, trivial⟩, ⟨⟨rfl, rfl, trivial⟩, trivial⟩, ⟨⟨rfl, rfl, rfl, rfl, rfl, rfl, rfl, rfl, rfl, rfl, trivial⟩, trivial⟩, trivial⟩
        ·
          (simp only [rDoc, isN, thereN, Bool.and_eq_true, Bool.or_eq_true, decide_eq_true_eq, ne_eq, ← List.length_eq_zero_iff, hnyD]; omega)
        · first
            | (rw [rPar, decide_eq_true (by assumption)]; rfl)
            | skip
              (simp only [rPar, isN, thereN, Bool.and_eq_true, Bool.or_eq_true, decide_eq_true_eq, ne_eq, ← List.length_eq_zero_iff, hnyP]; omega)
  case rest =>
    rintro ⟨hD, hP⟩
    rw [hD, hP]
    simp only [Bool.true_and]
    have bad3 : ∀ b, a7.all (rKid l k ⟨a1, a2, a3, a4, a5, a6, a7, a8, a9, a10⟩) = false → (a7.all (rKid l k ⟨a1, a2, a3, a4, a5, a6, a7, a8, a9, a10⟩) && b) = false := fun b h => by rw [h]; rfl
    refine LoopK.use G G_good (fun (j : Nat) => [(1, eInt k), (2, .ptr 20 0 0), (5, .ptr 50 0 0), (6, eInt l.length), (7, eInt (elemsN l (a7.take j))), (8, eInt j)]) (fun _ => [(20, .live 2 [eFor ⟨l, m⟩] false), (50, .live 10 [eNode ⟨a1, a2, a3, a4, a5, a6, a7, a8, a9, a10⟩] false)])
      (fun j => j ≤ a7.length ∧ ∀ (i : Nat) (c : Int), i < j → a7[i]? = some c → rKid l k ⟨a1, a2, a3, a4, a5, a6, a7, a8, a9, a10⟩ c = true) (fun j => a7.length - j) 0 ⟨Nat.zero_le _, fun i c h => by omega⟩
      ⟨⟨rfl, rfl⟩, ⟨rfl, ⟨rfl, rfl⟩, ⟨rfl, rfl⟩, rfl, rfl, rfl, trivial⟩, ⟨⟨rfl, rfl, trivial⟩, trivial⟩, ⟨⟨rfl, rfl, rfl, rfl, rfl, rfl, rfl, rfl, rfl, rfl, trivial⟩, trivial⟩, trivial⟩ ?_
    rintro j ⟨hj, hok⟩
    (with_reducible ((conv => whnf); (conv => congr <;> reduce); repeat ((first | refine HaltK.mk ?_ | refine StopK.mk ?_); (conv => whnf); (conv => congr <;> reduce))))
    refine IfK.mk (fun h1 => ?_) (fun h1 => ?_) <;> (try simp only [castN] at h1) <;> (with_reducible ((conv => whnf); (conv => congr <;> reduce); repeat ((first | refine HaltK.mk ?_ | refine StopK.mk ?_); (conv => whnf); (conv => congr <;> reduce))))
    · have hj' : j < a7.length := by simp only [decide_eq_true_eq] at h1; omega
      obtain ⟨c, hc⟩ : ∃ c, a7[j]? = some c := ⟨_, List.getElem?_eq_getElem hj'⟩
      have hse := @elems_step l a7 j c hc
      have hel := elems_le l a7 j
      have h29' := h29 a7 (by omega) c
      have good : rKid l k ⟨a1, a2, a3, a4, a5, a6, a7, a8, a9, a10⟩ c = true → ∀ (i : Nat) (d : Int), i < j + 1 → a7[i]? = some d → rKid l k ⟨a1, a2, a3, a4, a5, a6, a7, a8, a9, a10⟩ d = true := fun h i d hi hd => by
        rcases Nat.lt_or_ge i j with h6 | h6
        · exact hok i d h6 hd
        · have : i = j := by omega
          subst this
          rw [hc] at hd; cases hd; exact h
      refine IdxK.mk j (eInt c) rfl (int_get hc) ?_; (with_reducible ((conv => whnf); (conv => congr <;> reduce); repeat ((first | refine HaltK.mk ?_ | refine StopK.mk ?_); (conv => whnf); (conv => congr <;> reduce))))
      repeat' (first
    | (first
    | ((with_reducible show IfK _ _ _ _); first | refine IfK.ff ?_ | refine IfK.tt ?_ | refine IfK.no (by first | exact qA | exact decide_eq_true (by (try simp only [castN]); omega) | exact decide_eq_false (by (try simp only [castN]); omega) | (simp only [castN, Bool.not_eq_true', Bool.not_eq_false', decide_eq_true_eq, decide_eq_false_iff_not]; omega)) ?_ | refine IfK.yes (by first | exact qA | exact decide_eq_true (by (try simp only [castN]); omega) | exact decide_eq_false (by (try simp only [castN]); omega) | (simp only [castN, Bool.not_eq_true', Bool.not_eq_false', decide_eq_true_eq, decide_eq_false_iff_not]; omega)) ?_ | (refine IfK.mk (fun hp => ?_) (fun hp => ?_) <;> (try simp only [castN, decide_eq_true_eq, decide_eq_false_iff_not, Bool.not_eq_true', Bool.not_eq_false', Decidable.not_not, Int.not_lt, Int.not_le] at hp)))
    | ((with_reducible show NeedK _ _ _ _); refine nK ?_)
    | ((with_reducible show DrawK _ _ _ _); refine dK ?_)
    | ((with_reducible show IdxK _ c _ _ _); refine IdxK.mk iK (eNode _) eK (node_get hyK) ?_)
    | ((with_reducible show IdxK _ c _ _ _); (obtain ⟨iK, y, eK, hyK, hnyK⟩ := node_at (l := l) (n := c) (by omega)); (obtain ⟨b1, b2, b3, b4, b5, b6, b7, b8, b9, b10⟩ := y); refine IdxK.mk iK (eNode _) eK (node_get hyK) ?_)
    | ((with_reducible refine kQ 31 ?_); refine cL h29' c31 ?_)) <;> (with_reducible ((conv => whnf); (conv => congr <;> reduce); repeat ((first | refine HaltK.mk ?_ | refine StopK.mk ?_); (conv => whnf); (conv => congr <;> reduce))))
    | ((with_reducible show (_ ∧ _) ∧ _ ∧ _); refine ⟨⟨rfl, rfl⟩, ?_, ?_⟩ <;> with_reducible ((conv => whnf) <;> repeat' (first | exact trivial | (refine And.intro ?_ ?_ <;> (conv => whnf))))))
      all_goals first
        | refine bad3 _ (all_no hc ?_)
          (rw [Bool.eq_false_iff]; intro h; (first | simp only [rKid, isN, thereN, Bool.and_eq_true, Bool.or_eq_true, decide_eq_true_eq, ne_eq, ← List.length_eq_zero_iff, hnyK] at h | simp only [rKid, isN, thereN, Bool.and_eq_true, Bool.or_eq_true, decide_eq_true_eq, ne_eq, ← List.length_eq_zero_iff] at h); omega)
        | ((with_reducible show NextK _ _); refine NextK.mk (j + 1) ⟨by omega, good ?_⟩ (by omega) ⟨⟨rfl, rfl⟩, ⟨rfl, ⟨rfl, rfl⟩, ⟨rfl, rfl⟩, rfl, by rw [hse, hnyK]; first | (simp [show b1 = 1 by omega]; done) | (simp [show ¬ b1 = 1 by omega]; done), by show ((j + 1 : Nat) : Int) = (j : Int) + 1; omega, trivial⟩, ⟨⟨rfl, rfl, trivial⟩, trivial⟩, ⟨⟨rfl, rfl, rfl, rfl, rfl, rfl, rfl, rfl, rfl, rfl, trivial⟩, trivial⟩, trivial⟩)
          (simp only [rKid, isN, thereN, Bool.and_eq_true, Bool.or_eq_true, decide_eq_true_eq, ne_eq, ← List.length_eq_zero_iff, hnyK]; omega)
    · have hjl : j = a7.length := by simp only [decide_eq_false_iff_not] at h1; omega
      rw [all_yes fun i c hc => hok i c (by have := (List.getElem?_eq_some_iff.1 hc).1; omega) hc, Bool.true_and]
      rw [hjl, List.take_length]
      have hel := elems_le l a7 a7.length
      rw [List.take_length] at hel
      have bad4 : ∀ b, rElems l ⟨a1, a2, a3, a4, a5, a6, a7, a8, a9, a10⟩ = false → (rElems l ⟨a1, a2, a3, a4, a5, a6, a7, a8, a9, a10⟩ && b) = false := fun b h => by rw [h]; rfl
      have bad5 : ∀ b c, shadedN l k ⟨a1, a2, a3, a4, a5, a6, a7, a8, a9, a10⟩ = false → (c && (shadedN l k ⟨a1, a2, a3, a4, a5, a6, a7, a8, a9, a10⟩ && b)) = false := fun b c h => by rw [h]; simp
      have good6 : rElems l ⟨a1, a2, a3, a4, a5, a6, a7, a8, a9, a10⟩ = true → shadedN l k ⟨a1, a2, a3, a4, a5, a6, a7, a8, a9, a10⟩ = true → ∀ b, rName ⟨a1, a2, a3, a4, a5, a6, a7, a8, a9, a10⟩ = b → (rElems l ⟨a1, a2, a3, a4, a5, a6, a7, a8, a9, a10⟩ && (shadedN l k ⟨a1, a2, a3, a4, a5, a6, a7, a8, a9, a10⟩ && rName ⟨a1, a2, a3, a4, a5, a6, a7, a8, a9, a10⟩)) = b := fun h1 h2 b h3 => by rw [h1, h2, h3]; rfl
      repeat' (first
    | (first
    | ((with_reducible show IfK _ _ _ _); first | refine IfK.ff ?_ | refine IfK.tt ?_ | refine IfK.no (by first | exact qA | exact decide_eq_true (by (try simp only [castN]); omega) | exact decide_eq_false (by (try simp only [castN]); omega) | (simp only [castN, Bool.not_eq_true', Bool.not_eq_false', decide_eq_true_eq, decide_eq_false_iff_not]; omega)) ?_ | refine IfK.yes (by first | exact qA | exact decide_eq_true (by (try simp only [castN]); omega) | exact decide_eq_false (by (try simp only [castN]); omega) | (simp only [castN, Bool.not_eq_true', Bool.not_eq_false', decide_eq_true_eq, decide_eq_false_iff_not]; omega)) ?_ | (refine IfK.mk (fun hp => ?_) (fun hp => ?_) <;> (try simp only [castN, decide_eq_true_eq, decide_eq_false_iff_not, Bool.not_eq_true', Bool.not_eq_false', Decidable.not_not, Int.not_lt, Int.not_le] at hp)))
    | ((with_reducible show NeedK _ _ _ _); refine nK ?_)
    | ((with_reducible show DrawK _ _ _ _); refine dK ?_)
    | ((with_reducible show IdxK _ a8 _ _ _); refine IdxK.mk iH (eNode _) eH (node_get hyH) ?_)
    | ((with_reducible show IdxK _ a8 _ _ _); (obtain ⟨iH, y, eH, hyH, hnyH⟩ := node_at (l := l) (n := a8) (by omega)); (obtain ⟨b1, b2, b3, b4, b5, b6, b7, b8, b9, b10⟩ := y); refine IdxK.mk iH (eNode _) eH (node_get hyH) ?_)
    | ((with_reducible show IdxK _ a9 _ _ _); refine IdxK.mk iU (eNode _) eU (node_get hyU) ?_)
    | ((with_reducible show IdxK _ a9 _ _ _); (obtain ⟨iU, y, eU, hyU, hnyU⟩ := node_at (l := l) (n := a9) (by omega)); (obtain ⟨b1, b2, b3, b4, b5, b6, b7, b8, b9, b10⟩ := y); refine IdxK.mk iU (eNode _) eU (node_get hyU) ?_)
    | ((with_reducible refine kQ 98 ?_); refine cL h30 c98 ?_)
    | ((with_reducible refine kQ 151 ?_); refine cL h31 c151 ?_)
    | ((with_reducible refine kQ 152 ?_); refine cL h32 c152 ?_)
    | ((with_reducible refine kQ 153 ?_); refine cL h33 c153 ?_)) <;> (with_reducible ((conv => whnf); (conv => congr <;> reduce); repeat ((first | refine HaltK.mk ?_ | refine StopK.mk ?_); (conv => whnf); (conv => congr <;> reduce))))
    | ((with_reducible show (_ ∧ _) ∧ _ ∧ _); refine ⟨⟨rfl, rfl⟩, ?_, ?_⟩ <;> with_reducible ((conv => whnf) <;> repeat' (first | exact trivial | (refine And.intro ?_ ?_ <;> (conv => whnf))))))
      all_goals clear hok
      all_goals first
        | refine bad4 _ ?_
          (rw [Bool.eq_false_iff]; intro h; (first | simp only [rElems, isN, thereN, Bool.and_eq_true, Bool.or_eq_true, decide_eq_true_eq, ne_eq, ← List.length_eq_zero_iff, hlk] at h | simp only [rElems, isN, thereN, Bool.and_eq_true, Bool.or_eq_true, decide_eq_true_eq, ne_eq, ← List.length_eq_zero_iff] at h); omega)
        | refine bad5 _ _ ?_
          (rw [Bool.eq_false_iff]; intro h; by_cases e4 : a1 = 4
           · simp only [shadedN, if_pos e4, isN, thereN, Bool.and_eq_true, Bool.or_eq_true, decide_eq_true_eq, ne_eq] at h; (try simp only [hnyH] at h); (try simp only [hnyU] at h); omega
           · simp only [shadedN, if_neg e4, isN, thereN, Bool.and_eq_true, Bool.or_eq_true, decide_eq_true_eq, ne_eq] at h; (try simp only [hnyH] at h); (try simp only [hnyU] at h); omega)
        | refine good6 ?_ ?_ _ ?_
          ·
            (simp only [rElems, isN, thereN, Bool.and_eq_true, Bool.or_eq_true, decide_eq_true_eq, ne_eq, ← List.length_eq_zero_iff, hlk]; omega)
          ·
            (by_cases e4 : a1 = 4
             · simp only [shadedN, if_pos e4, isN, thereN, Bool.and_eq_true, Bool.or_eq_true, decide_eq_true_eq, ne_eq]; (try simp only [hnyH]); (try simp only [hnyU]); omega
             · simp only [shadedN, if_neg e4, isN, thereN, Bool.and_eq_true, Bool.or_eq_true, decide_eq_true_eq, ne_eq]; (try simp only [hnyH]); (try simp only [hnyU]); omega)
          · clear bad4 bad5 good6 hK hs hx h29 h30 h31 h32 h33 hD hP
            first | (simp_all [rName]; done) | (simp_all [rName]; omega)
set_option maxHeartbeats 16000000 in
theorem f37_ok (f : ForM) (hs : SmallN f.nodes) : FnOK Tryz.prog 37 [] [eFor f] [] (eBool (rightR f)) := by
 have hl := hs.len
 have h19 := f88_ok f hs
 obtain ⟨l, m⟩ := f
 unfold rightR
 simp only at h19 hl ⊢
 have hlm : (l.map oNode).length = l.length := List.length_map ..
 have bad0 : ∀ b, headOK ⟨l, m⟩ = false → (headOK ⟨l, m⟩ && b) = false := fun b h => by rw [h]; rfl
 apply CutK (P := Tryz.prog) (N := 84) (nL := 0) (F := headOK ⟨l, m⟩ = true) (sl := [(1, .ptr 10 0 0), (3, eInt 0)]) (m := [(10, .live 2 [eFor ⟨l, m⟩] false)])
 case main =>
  intro key
  refine FnOK.startC (rvs := [.tmp 2]) G G_good Tryz.func37 rfl Tryz.ntmps37 rfl rfl ?_; delta List.toArray; (with_reducible ((conv => whnf); (conv => congr <;> reduce); repeat ((first | refine hK ?_ | refine sK ?_); (conv => whnf); (conv => congr <;> reduce))))
  repeat' (first
  | (first
  | ((with_reducible show IfK _ _ _ _); first | refine IfK.ff ?_ | refine IfK.tt ?_ | refine IfK.no (by first | exact qA | exact decide_eq_true (by (try simp only [castN]); omega) | exact decide_eq_false (by (try simp only [castN]); omega) | (simp only [castN, Bool.not_eq_true', Bool.not_eq_false', decide_eq_true_eq, decide_eq_false_iff_not]; omega)) ?_ | refine IfK.yes (by first | exact qA | exact decide_eq_true (by (try simp only [castN]); omega) | exact decide_eq_false (by (try simp only [castN]); omega) | (simp only [castN, Bool.not_eq_true', Bool.not_eq_false', decide_eq_true_eq, decide_eq_false_iff_not]; omega)) ?_ | (refine IfK.mk (fun hp => ?_) (fun hp => ?_) <;> (try simp only [castN, decide_eq_true_eq, decide_eq_false_iff_not, Bool.not_eq_true', Bool.not_eq_false', Decidable.not_not, Int.not_lt, Int.not_le] at hp)))
  | ((with_reducible show NeedK _ _ _ _); refine nK ?_)
  | ((with_reducible show DrawK _ _ _ _); refine dK ?_)
  | ((with_reducible show IdxK _ (0:Int) _ _ _); refine IdxK.mk iZ (eNode _) eZ (node_get hyZ) ?_)
  | ((with_reducible show IdxK _ (0:Int) _ _ _); (obtain ⟨iZ, y, eZ, hyZ, hnyZ⟩ := node_at (l := l) (n := (0:Int)) (by omega)); (obtain ⟨b1, b2, b3, b4, b5, b6, b7, b8, b9, b10⟩ := y); refine IdxK.mk iZ (eNode _) eZ (node_get hyZ) ?_)) <;> (with_reducible ((conv => whnf); (conv => congr <;> reduce); repeat ((first | refine hK ?_ | refine sK ?_); (conv => whnf); (conv => congr <;> reduce))))
  | ((with_reducible show (_ ∧ _) ∧ _ ∧ _); refine ⟨⟨rfl, rfl⟩, ?_, ?_⟩ <;> with_reducible ((conv => whnf) <;> repeat' (first | exact trivial | (refine And.intro ?_ ?_ <;> (conv => whnf))))))
  all_goals first
   | refine bad0 _ ?_
     (rw [Bool.eq_false_iff]; intro h; simp only [headOK, Bool.and_eq_true, decide_eq_true_eq] at h; (try simp only [hnyZ] at h); omega)
   | refine LoopK.fit ?_ (key ?_)
     ·exact ⟨⟨rfl, rfl⟩, ⟨⟨rfl, rfl⟩, rfl, trivial⟩, ⟨⟨rfl, rfl, trivial⟩, trivial⟩, trivial⟩
     ·simp only [headOK, Bool.and_eq_true, decide_eq_true_eq, hnyZ]; omega
 case rest =>
  intro hH
  rw [hH, Bool.true_and]
  refine LoopK.use G G_good (fun (k : Nat) => [(1, .ptr 10 0 0), (3, eInt k)]) (fun _ => [(10, .live 2 [eFor ⟨l, m⟩] false)])
   (fun k => k ≤ l.length ∧ ∀ j x, j < k → l[j]? = some x → refNode l j x = true) (fun k => l.length - k) 0 ⟨Nat.zero_le _, fun j x h => by omega⟩
   ⟨⟨rfl, rfl⟩, ⟨⟨rfl, rfl⟩, rfl, trivial⟩, ⟨⟨rfl, rfl, trivial⟩, trivial⟩, trivial⟩ ?_
  rintro k ⟨hk, hok⟩
  (with_reducible ((conv => whnf); (conv => congr <;> reduce); repeat ((first | refine hK ?_ | refine sK ?_); (conv => whnf); (conv => congr <;> reduce))))
  refine IfK.mk (fun g1 => ?_) (fun g1 => ?_) <;> (try simp only [castN] at g1) <;> (with_reducible ((conv => whnf); (conv => congr <;> reduce); repeat ((first | refine hK ?_ | refine sK ?_); (conv => whnf); (conv => congr <;> reduce))))
  ·have hk' : k < l.length := by simp only [decide_eq_true_eq] at g1; omega
   obtain ⟨x, hx⟩ : ∃ x, l[k]? = some x := ⟨_, List.getElem?_eq_getElem hk'⟩
   have h19' := h19 k x hx
   have good : refNode l k x = true → ∀ j y, j < k + 1 → l[j]? = some y → refNode l j y = true := fun h j y hj hy => by
    rcases Nat.lt_or_ge j k with h6 | h6
    ·exact hok j y h6 hy
    ·have : j = k := by omega
     subst this
     rw [hx] at hy; cases hy; exact h
   refine cL h19' c88 ?_; (with_reducible ((conv => whnf); (conv => congr <;> reduce); repeat ((first | refine hK ?_ | refine sK ?_); (conv => whnf); (conv => congr <;> reduce))))
   cases q : refNode l k x with
   | false =>
     rw [allIx_no hx q, Bool.false_and]
     repeat' (first
  | (first
  | ((with_reducible show IfK _ _ _ _); first | refine IfK.ff ?_ | refine IfK.tt ?_ | refine IfK.no (by first | exact qA | ((try simp only [castN]); first | (simp [q]; done) | (simp [q]; omega))) ?_ | refine IfK.yes (by first | exact qA | ((try simp only [castN]); first | (simp [q]; done) | (simp [q]; omega))) ?_)
  | ((with_reducible show NeedK _ _ _ _); refine nK ?_)
  | ((with_reducible show DrawK _ _ _ _); refine dK ?_)) <;> (with_reducible ((conv => whnf); (conv => congr <;> reduce); repeat ((first | refine hK ?_ | refine sK ?_); (conv => whnf); (conv => congr <;> reduce))))
  | ((with_reducible show (_ ∧ _) ∧ _ ∧ _); refine ⟨⟨rfl, rfl⟩, ?_, ?_⟩ <;> with_reducible ((conv => whnf) <;> repeat' (first | exact trivial | (refine And.intro ?_ ?_ <;> (conv => whnf))))))
   | true =>
     repeat' (first
  | (first
  | ((with_reducible show IfK _ _ _ _); first | refine IfK.ff ?_ | refine IfK.tt ?_ | refine IfK.no (by first | exact qA | ((try simp only [castN]); first | (simp [q]; done) | (simp [q]; omega))) ?_ | refine IfK.yes (by first | exact qA | ((try simp only [castN]); first | (simp [q]; done) | (simp [q]; omega))) ?_)
  | ((with_reducible show NeedK _ _ _ _); refine nK ?_)
  | ((with_reducible show DrawK _ _ _ _); refine dK ?_)
  | ((with_reducible show NextK _ _); refine NextK.mk (k + 1) ⟨by omega, good q⟩ (by omega) ⟨⟨rfl, rfl⟩, ⟨⟨rfl, rfl⟩, by show ((k + 1 : Nat) : Int) = (k : Int) + 1; omega, trivial⟩, ⟨⟨rfl, rfl, trivial⟩, trivial⟩, trivial⟩)) <;> (with_reducible ((conv => whnf); (conv => congr <;> reduce); repeat ((first | refine hK ?_ | refine sK ?_); (conv => whnf); (conv => congr <;> reduce))))
  | ((with_reducible show (_ ∧ _) ∧ _ ∧ _); refine ⟨⟨rfl, rfl⟩, ?_, ?_⟩ <;> with_reducible ((conv => whnf) <;> repeat' (first | exact trivial | (refine And.intro ?_ ?_ <;> (conv => whnf))))))
  ·have hkl : k = l.length := by simp only [decide_eq_false_iff_not] at g1; omega
   have hall : ∀ (j : Nat) (x : NodeM), l[j]? = some x → refNode l j x = true := fun j x hx => hok j x (by have := (List.getElem?_eq_some_iff.1 hx).1; omega) hx
   rw [allIx_yes hall, Bool.true_and]
   have hup : ∀ n, thereN l n = true → upN (nd l n) = -1 ∨ thereN l (upN (nd l n)) = true := node_up (of_ref fun n hn => by
    obtain ⟨k, x, rfl, hk, hx⟩ := there_iff.1 hn
    rw [hx]; exact hall k x hk)
   refine LoopK.use G G_good (fun (k : Nat) => [(1, .ptr 10 0 0), (4, eInt k)]) (fun _ => [(10, .live 2 [eFor ⟨l, m⟩] false)])
    (fun k => k ≤ l.length ∧ ∀ (j : Nat) (x : NodeM), j < k → l[j]? = some x → endsN l (l.length + 1) j = true) (fun k => l.length - k) 0 ⟨Nat.zero_le _, fun j x h => by omega⟩
    ⟨⟨rfl, rfl⟩, ⟨⟨rfl, rfl⟩, rfl, trivial⟩, ⟨⟨rfl, rfl, trivial⟩, trivial⟩, trivial⟩ ?_
   rintro i ⟨hi, hends⟩
   (with_reducible ((conv => whnf); (conv => congr <;> reduce); repeat ((first | refine hK ?_ | refine sK ?_); (conv => whnf); (conv => congr <;> reduce))))
   refine IfK.mk (fun g2 => ?_) (fun g2 => ?_) <;> (try simp only [castN] at g2) <;> (with_reducible ((conv => whnf); (conv => congr <;> reduce); repeat ((first | refine hK ?_ | refine sK ?_); (conv => whnf); (conv => congr <;> reduce))))
   ·have hi' : i < l.length := by simp only [decide_eq_true_eq] at g2; omega
    obtain ⟨x, hx⟩ : ∃ x, l[i]? = some x := ⟨_, List.getElem?_eq_getElem hi'⟩
    refine LoopK.use G G_good (fun (p : Nat × Int) => [(1, .ptr 10 0 0), (4, eInt i), (5, eInt p.2), (6, eInt p.1)]) (fun _ => [(10, .live 2 [eFor ⟨l, m⟩] false)])
     (fun p => p.1 ≤ l.length + 1 ∧ (p.2 = -1 ∨ thereN l p.2 = true) ∧ endsN l (l.length + 1) i = if p.2 = -1 then true else endsN l (l.length + 1 - p.1) p.2) (fun p => l.length + 1 - p.1) (0, (i : Int)) ⟨Nat.zero_le _, .inr (there_get hx), by rw [if_neg (by omega)]; rfl⟩
     ⟨⟨rfl, rfl⟩, ⟨⟨rfl, rfl⟩, rfl, rfl, rfl, trivial⟩, ⟨⟨rfl, rfl, trivial⟩, trivial⟩, trivial⟩ ?_
    rintro ⟨s, a⟩ ⟨hss, hat, hee⟩
    simp only at hss hat hee ⊢
    (with_reducible ((conv => whnf); (conv => congr <;> reduce); repeat ((first | refine hK ?_ | refine sK ?_); (conv => whnf); (conv => congr <;> reduce))))
    by_cases ea : a = -1
    ·rw [if_pos ea] at hee
     subst ea
     repeat' (first
  | (first
  | ((with_reducible show IfK _ _ _ _); first | refine IfK.ff ?_ | refine IfK.tt ?_ | refine IfK.no (by first | exact qA | ((try simp only [castN]); first | (simp []; done) | (simp []; omega))) ?_ | refine IfK.yes (by first | exact qA | ((try simp only [castN]); first | (simp []; done) | (simp []; omega))) ?_)
  | ((with_reducible show NeedK _ _ _ _); refine nK ?_)
  | ((with_reducible show DrawK _ _ _ _); refine dK ?_)
  | ((with_reducible show NextK _ _); refine NextK.mk (i + 1) ⟨by omega, fun j x hj hx => ?_⟩ (by omega) ⟨⟨rfl, rfl⟩, ⟨⟨rfl, rfl⟩, by show ((i + 1 : Nat) : Int) = (i : Int) + 1; omega, trivial⟩, ⟨⟨rfl, rfl, trivial⟩, trivial⟩, trivial⟩)) <;> (with_reducible ((conv => whnf); (conv => congr <;> reduce); repeat ((first | refine hK ?_ | refine sK ?_); (conv => whnf); (conv => congr <;> reduce))))
  | ((with_reducible show (_ ∧ _) ∧ _ ∧ _); refine ⟨⟨rfl, rfl⟩, ?_, ?_⟩ <;> with_reducible ((conv => whnf) <;> repeat' (first | exact trivial | (refine And.intro ?_ ?_ <;> (conv => whnf))))))
     rcases Nat.lt_or_ge j i with h6 | h6
     ·exact hends j x h6 hx
     ·have : j = i := by omega
      rw [this]; exact hee
    ·rw [if_neg ea] at hee
     have hth := hat.resolve_left ea
     by_cases es : s = l.length + 1
     ·have e0 : endsN l (l.length + 1 - s) a = false := by rw [es, Nat.sub_self]; rfl
      rw [e0] at hee
      rw [allIx_no hx hee]
      repeat' (first
  | (first
  | ((with_reducible show IfK _ _ _ _); first | refine IfK.ff ?_ | refine IfK.tt ?_ | refine IfK.no (by first | exact qA | ((try simp only [castN]); first | (simp [eq_false ea]; done) | (simp [eq_false ea]; omega))) ?_ | refine IfK.yes (by first | exact qA | ((try simp only [castN]); first | (simp [eq_false ea]; done) | (simp [eq_false ea]; omega))) ?_)
  | ((with_reducible show NeedK _ _ _ _); refine nK ?_)
  | ((with_reducible show DrawK _ _ _ _); refine dK ?_)) <;> (with_reducible ((conv => whnf); (conv => congr <;> reduce); repeat ((first | refine hK ?_ | refine sK ?_); (conv => whnf); (conv => congr <;> reduce))))
  | ((with_reducible show (_ ∧ _) ∧ _ ∧ _); refine ⟨⟨rfl, rfl⟩, ?_, ?_⟩ <;> with_reducible ((conv => whnf) <;> repeat' (first | exact trivial | (refine And.intro ?_ ?_ <;> (conv => whnf))))))
     ·obtain ⟨t, ht⟩ : ∃ t, l.length + 1 - s = t + 1 := ⟨l.length - s, by omega⟩
      rw [ht] at hee
      replace hee := hee.trans (endsN_succ l t a)
      have hua := hup a hth
      obtain ⟨k', y, e, hy, hny⟩ := there_iff.1 hth
      rw [hny] at hee hua
      obtain ⟨b1, b2, b3, b4, b5, b6, b7, b8, b9, b10⟩ := y
      have hlt : ¬ (l.length : Int) < s := by omega
      by_cases ep : b6 = -1
      ·have hu : upN ⟨b1, b2, b3, b4, b5, b6, b7, b8, b9, b10⟩ = b8 := by unfold upN; rw [if_pos ep]
       rw [hu] at hee hua
       repeat' (first
  | (first
  | ((with_reducible show IfK _ _ _ _); first | refine IfK.ff ?_ | refine IfK.tt ?_ | refine IfK.no (by first | exact qA | ((try simp only [castN]); first | (simp [hlm, eq_false ea, eq_false hlt, ep]; done) | (simp [hlm, eq_false ea, eq_false hlt, ep]; omega))) ?_ | refine IfK.yes (by first | exact qA | ((try simp only [castN]); first | (simp [hlm, eq_false ea, eq_false hlt, ep]; done) | (simp [hlm, eq_false ea, eq_false hlt, ep]; omega))) ?_)
  | ((with_reducible show NeedK _ _ _ _); refine nK ?_)
  | ((with_reducible show DrawK _ _ _ _); refine dK ?_)
  | (refine IdxK.mk k' (eNode ⟨b1, b2, b3, b4, b5, b6, b7, b8, b9, b10⟩) e (node_get hy) ?_)
  | ((with_reducible show NextK _ _); refine NextK.mk (s + 1, b8) ⟨by show s + 1 ≤ _; omega, hua, by rw [show l.length + 1 - (s + 1) = t by omega]; exact hee⟩ (by show l.length + 1 - (s + 1) < l.length + 1 - s; omega) ⟨⟨rfl, rfl⟩, ⟨⟨rfl, rfl⟩, rfl, rfl, by show ((s + 1 : Nat) : Int) = (s : Int) + 1; omega, trivial⟩, ⟨⟨rfl, rfl, trivial⟩, trivial⟩, trivial⟩)) <;> (with_reducible ((conv => whnf); (conv => congr <;> reduce); repeat ((first | refine hK ?_ | refine sK ?_); (conv => whnf); (conv => congr <;> reduce))))
  | ((with_reducible show (_ ∧ _) ∧ _ ∧ _); refine ⟨⟨rfl, rfl⟩, ?_, ?_⟩ <;> with_reducible ((conv => whnf) <;> repeat' (first | exact trivial | (refine And.intro ?_ ?_ <;> (conv => whnf))))))
      ·have hu : upN ⟨b1, b2, b3, b4, b5, b6, b7, b8, b9, b10⟩ = b6 := by unfold upN; rw [if_neg ep]
       rw [hu] at hee hua
       repeat' (first
  | (first
  | ((with_reducible show IfK _ _ _ _); first | refine IfK.ff ?_ | refine IfK.tt ?_ | refine IfK.no (by first | exact qA | ((try simp only [castN]); first | (simp [hlm, eq_false ea, eq_false hlt, eq_false ep]; done) | (simp [hlm, eq_false ea, eq_false hlt, eq_false ep]; omega))) ?_ | refine IfK.yes (by first | exact qA | ((try simp only [castN]); first | (simp [hlm, eq_false ea, eq_false hlt, eq_false ep]; done) | (simp [hlm, eq_false ea, eq_false hlt, eq_false ep]; omega))) ?_)
  | ((with_reducible show NeedK _ _ _ _); refine nK ?_)
  | ((with_reducible show DrawK _ _ _ _); refine dK ?_)
  | (refine IdxK.mk k' (eNode ⟨b1, b2, b3, b4, b5, b6, b7, b8, b9, b10⟩) e (node_get hy) ?_)
  | ((with_reducible show NextK _ _); refine NextK.mk (s + 1, b6) ⟨by show s + 1 ≤ _; omega, hua, by rw [show l.length + 1 - (s + 1) = t by omega]; exact hee⟩ (by show l.length + 1 - (s + 1) < l.length + 1 - s; omega) ⟨⟨rfl, rfl⟩, ⟨⟨rfl, rfl⟩, rfl, rfl, by show ((s + 1 : Nat) : Int) = (s : Int) + 1; omega, trivial⟩, ⟨⟨rfl, rfl, trivial⟩, trivial⟩, trivial⟩)) <;> (with_reducible ((conv => whnf); (conv => congr <;> reduce); repeat ((first | refine hK ?_ | refine sK ?_); (conv => whnf); (conv => congr <;> reduce))))
  | ((with_reducible show (_ ∧ _) ∧ _ ∧ _); refine ⟨⟨rfl, rfl⟩, ?_, ?_⟩ <;> with_reducible ((conv => whnf) <;> repeat' (first | exact trivial | (refine And.intro ?_ ?_ <;> (conv => whnf))))))
   ·have hil : i = l.length := by simp only [decide_eq_false_iff_not] at g2; omega
    rw [allIx_yes fun j x hx => hends j x (by have := (List.getElem?_eq_some_iff.1 hx).1; omega) hx]
    refine ⟨⟨rfl, rfl⟩, ?_, ?_⟩ <;> with_reducible ((conv => whnf) <;> repeat' (first | exact trivial | (refine And.intro ?_ ?_ <;> (conv => whnf))))
theorem f125_ok (g : Nat) (cg : Callable Tryz.prog g) (caps : List AV) (hcaps : noRefL caps = true) (p : Int → Bool) (l : List Int) (hl : l.length ≤ 100000) (hf : ∀ a, a ∈ l → FnOK Tryz.prog g [] (eInt a :: caps) [] (eBool (p a))) :
  FnOK Tryz.prog 125 [] [eInts l, .clo (.func g) [] caps] [] (eInt (idxI p l)) := by
 have hlm : (l.map oInt).length = l.length := List.length_map ..
 refine FnOK.startC (rvs := [.tmp 4]) G G_good Tryz.func125 rfl Tryz.ntmps125 rfl rfl ?_; with_reducible refine wD ?_
 refine LoopK.use G G_good (fun (k : Nat) => [(0, eInts l), (1, .clo (.func g) [] caps), (7, eInt l.length), (8, eInt k)]) (fun _ => []) (fun k => k ≤ l.length ∧ ∀ j x, j < k → l[j]? = some x → p x = false) (fun k => l.length - k) 0 ⟨Nat.zero_le _, fun j x h => by omega⟩
  ⟨⟨rfl, rfl⟩, ⟨rfl, ⟨rfl, trivial, MFL_refl hcaps⟩, by show (l.length : Int) = ((l.map oInt).length : Int); rw [hlm], rfl, trivial⟩, trivial⟩ ?_
 rintro k ⟨hk, hno⟩
 with_reducible refine wK ?_
 refine IfK.mk (fun h1 => ?_) (fun h1 => ?_) <;> (try simp only [castN] at h1) <;> with_reducible refine wK ?_
 ·simp only [decide_eq_true_eq] at h1
  have hk' : k < l.length := by omega
  obtain ⟨a, ha⟩ : ∃ a, l[k]? = some a := ⟨_, List.getElem?_eq_getElem hk'⟩
  refine IdxK.mk k (eInt a) rfl (int_get ha) ?_; with_reducible refine wK ?_
  refine CallK.lit [] (hf a (List.mem_of_getElem? ha)) cg ⟨rfl, MFL_refl hcaps⟩ rfl rfl ?_; with_reducible refine wK ?_
  refine IfK.mk (fun h2 => ?_) (fun h2 => ?_) <;> (try simp only [castN] at h2) <;> with_reducible refine wK ?_
  ·(refine eK ?_ ?_ <;> with_reducible repeat' (first | exact trivial | (show _ ∧ _; refine aK ?_ ?_)))
   exact idxI_hit ha h2 hno
  ·refine nK ?_; with_reducible refine wK ?_
   refine NextK.mk (k + 1) ⟨by omega, fun j x hj hx => ?_⟩ (by omega) ⟨⟨rfl, rfl⟩, ⟨rfl, ⟨rfl, trivial, MFL_refl hcaps⟩, rfl, by show ((k + 1 : Nat) : Int) = (k : Int) + 1; omega, trivial⟩, trivial⟩
   rcases Nat.lt_or_ge j k with h6 | h6
   ·exact hno j x h6 hx
   ·have : j = k := by omega
    subst this
    rw [ha] at hx; cases hx; exact h2
 ·(refine eK ?_ ?_ <;> with_reducible repeat' (first | exact trivial | (show _ ∧ _; refine aK ?_ ?_)))
  have : k = l.length := by simp only [decide_eq_false_iff_not] at h1; omega
  exact idxI_none fun j x hx => hno j x (by have := (List.getElem?_eq_some_iff.1 hx).1; omega) hx
theorem f127_ok (g : Nat) (cg : Callable Tryz.prog g) (caps : List AV) (hcaps : noRefL caps = true) (p : Int → Bool) (l : List Int) (hl : l.length ≤ 100000) (hf : ∀ a, a ∈ l → FnOK Tryz.prog g [] (eInt a :: caps) [] (eBool (p a))) :
  FnOK Tryz.prog 127 [] [eInts l, .clo (.func g) [] caps] [] (eBool (decide (0 ≤ idxI p l))) := by
 have h34 := f125_ok g cg caps hcaps p l hl hf
 refine FnOK.startC (rvs := [.tmp 4]) G G_good Tryz.func127 rfl Tryz.ntmps127 rfl rfl ?_; with_reducible refine wD ?_
 refine CallK.lit [] h34 c125 ⟨rfl, ⟨rfl, trivial, MFL_refl hcaps⟩, trivial⟩ rfl rfl ?_; with_reducible refine wK ?_
 (refine eK ?_ ?_ <;> with_reducible repeat' (first | exact trivial | (show _ ∧ _; refine aK ?_ ?_)))
 all_goals rfl
end Go.Proofs.Heir
namespace Go.Proofs.Heir
open Go Go.Am Go.RowKit Go.Shelf
set_option maxRecDepth 100000
set_option maxHeartbeats 8000000
theorem ints_box {Wn : Nat → Prop} {μ : Mu} {W : World} {l : List Int} {b o : Nat} (h : Rep Wn μ W (.fptr (.sl 1 (l.map oInt)) 0) (.pointer (some ⟨b, o, none⟩))) :
  ∃ ad cap, W.cell? ⟨b, o, none⟩ = some (.slice ad l.length cap) ∧ l.length ≤ cap ∧ ∀ (j : Nat) (x : Int), l[j]? = some x → ∃ b2 o2, ad = some ⟨b2, o2, none⟩ ∧ W.cell? ⟨b2, o2 + j, none⟩ = some (.int .i64 x) := by
 generalize hv : Value.pointer (some ⟨b, o, none⟩) = v at h
 cases h with
 | @fptr _ _ b' o' f h1 h2 h3 h4 h5 =>
   cases hv
   have k3 := h3 0 _ rfl
   have k4 := h4 0 _ rfl
   rw [Nat.add_zero] at k3
   rw [Nat.add_zero, k3]
   generalize f 0 = s at k4
   cases hl : l with
   | nil =>
     subst hl
     cases k4 with
     | slNil => exact ⟨_, _, rfl, Nat.zero_le _, fun j x h => by simp at h⟩
     | sl a1 a2 a3 a4 a5 a6 a7 a8 => subst a3; exact ⟨_, _, rfl, Nat.zero_le _, fun j x h => by simp at h⟩
   | cons y r =>
     rw [← hl]
     generalize hrows : l.map oInt = rows at k4
     have hne : rows ≠ [] := by rw [← hrows, hl]; simp
     cases k4 with
     | slNil => exact absurd rfl hne
     | sl a1 a2 a3 a4 a5 a6 a7 a8 =>
       subst a3
       have hlen : rows.length = l.length := by rw [← hrows]; simp
       refine ⟨_, _, by rw [hlen], by rw [← hlen]; exact a4, fun j x hx => ⟨_, _, rfl, ?_⟩⟩
       have hr : rows[j]? = some (oInt x) := by rw [← hrows, List.getElem?_map, hx]; rfl
       have hq := flat_get (wd := 1) (fun i r hr => a5 i r hr) hr (show (cells (oInt x))[0]? = some (oInt x) from rfl)
       rw [Nat.mul_one, Nat.add_zero] at hq
       have c1 := a6 j _ hq
       have c2 := a7 j _ hq
       have one : ∀ v, Rep Wn μ W (oInt x) v → v = .int .i64 x := by intro v hv; unfold oInt at hv; cases hv; rfl
       rw [c1, one _ c2]
theorem back_it (l : List Int) (hl : l.length ≤ 100000) : ItOK Tryz.prog 193 [.fptr (.sl 1 (l.map oInt)) 0] l.length (fun k => [oInt ((l.length : Int) - 1 - k), oInt ((l.reverse[k]?).getD 0)]) := by
 intro vals y J Jx hJ hJm hJxm _ hY Wn w h0
 obtain ⟨⟨μ, hr⟩, _⟩ := hJ 0 Wn w h0
 obtain ⟨vb, us, rfl, hvb, hus⟩ := RepL.uncons hr
 obtain rfl := RepL.unnil hus
 obtain ⟨b, o, rfl⟩ : ∃ b o, vb = .pointer (some ⟨b, o, none⟩) := by cases hvb; exact ⟨_, _, rfl⟩
 have box : ∀ k Wn W, J k Wn W → ∃ ad cap, W.cell? ⟨b, o, none⟩ = some (.slice ad l.length cap) ∧ l.length ≤ cap ∧ ∀ (j : Nat) (x : Int), l[j]? = some x → ∃ b2 o2, ad = some ⟨b2, o2, none⟩ ∧ W.cell? ⟨b2, o2 + j, none⟩ = some (.int .i64 x) := by
  intro k Wn W hJk
  obtain ⟨⟨μ, hr⟩, _⟩ := hJ k Wn W hJk
  obtain ⟨v1, us, e, hv1, _⟩ := RepL.uncons hr
  cases e
  exact ints_box hv1
 refine (callsIn_wide (n := 1)).1 ?_
 refine callsIn_of_wp Tryz.func193 rfl trivial ?_ rfl
 simp only [Tryz.ntmps193, List.size_toArray, List.length_cons, List.length_nil, Nat.reduceAdd, Nat.reduceSub, Array.replicate_succ, Array.replicate_zero, List.push_toArray, List.append_toArray, List.nil_append, List.cons_append]
 obtain ⟨ad, cap, hbx, hcap, hel⟩ := box 0 Wn w h0
 gi_wp2
 gi_loopw [3] (fun i wr => ∃ k : Nat, k ≤ l.length ∧ i = .int .i64 ((l.length : Int) - 1 - k) ∧ ∃ Wn, J k Wn wr) (fun i _ => (intOf i + 1).toNat)
 case atStart => exact ⟨0, Nat.zero_le _, by simp, Wn, h0⟩
 case round =>
  obtain ⟨k, hk, rfl, Wn', hJk⟩ := hrel
  obtain ⟨ad', cap', hbx', hcap', hel'⟩ := box k Wn' wr hJk
  by_cases hlt : k < l.length
  ·have hix : l.length - 1 - k < l.length := by omega
   obtain ⟨b2, o2, rfl, hcx⟩ := hel' (l.length - 1 - k) l[l.length - 1 - k] (List.getElem?_eq_getElem hix)
   have hrev : (l.reverse[k]?).getD 0 = l[l.length - 1 - k] := by
    rw [List.getElem?_eq_getElem (by simpa using hlt)]; simp
   obtain ⟨fn, tmps, assign, body, hy, hR⟩ := hY k Wn' wr [.int .i64 ((l.length : Int) - 1 - k), .int .i64 (l[l.length - 1 - k])] hlt hJk (fun _ _ _ => by rw [hrev]; exact .cons .lit (.cons .lit .nil))
   have hz : ((l.length : Int) - 1 - k).toNat = l.length - 1 - k := by omega
   gi_wp2
   refine hR.mono ?_
   rintro e W3 (⟨rfl, Wn3, hJ3, _⟩ | ⟨rfl, hJx3⟩)
   ·gi_wp2
    go_roundw
    case rel => exact ⟨k + 1, by omega, by congr 1; omega, Wn3, hJ3⟩
    case measure => simp [intOf]; omega
   ·gi_wp2
    refine bodyPost_ret (results_none rfl _ _ _) rfl ?_
    exact ⟨⟨_, rfl⟩, .inr hJx3⟩
  ·obtain rfl : k = l.length := by omega
   gi_wp2
   go_end0
   exact ⟨⟨_, rfl⟩, .inl ⟨_, hJk⟩⟩
end Go.Proofs.Heir
namespace Go.Proofs.Heir
open Go Go.Am Go.RowKit Go.Lib
set_option maxRecDepth 100000
set_option maxHeartbeats 8000000
theorem f192_ok (f : ForM) (n : Int) : FnOK Tryz.prog 192 [] [eInt n, .fptr (eFor f) 0] [] (eBool (!thereN f.nodes n)) := by
 obtain ⟨l, m⟩ := f
 have hlm : (l.map oNode).length = l.length := List.length_map ..
 refine FnOK.startC (rvs := [.tmp 3]) G G_good Tryz.func192 rfl Tryz.ntmps192 rfl rfl ?_; with_reducible refine wD ?_
 repeat' (first
  | refine pK ?_ | refine aE ?_ ?_
  | ((first
   | ((with_reducible show IfK _ _ _ _); (refine IfK.mk (fun hp => ?_) (fun hp => ?_) <;> (try simp only [castN, decide_eq_true_eq, decide_eq_false_iff_not, Bool.not_eq_true', Bool.not_eq_false', Decidable.not_not, Int.not_lt, Int.not_le] at hp)))) <;> with_reducible refine wK ?_)
  | apply trivial)
 ·unfold thereN; rw [decide_eq_false (show ¬ 0 ≤ n by omega)]; rfl
 ·unfold thereN; rw [decide_eq_true hp, hlm, Bool.true_and, ← decide_not]
  exact decide_eq_decide.2 Int.not_lt
theorem f147_ok (f : ForM) (hs : SmallN f.nodes) (l : List Int) (hl : l.length ≤ 100000) : FnOK Tryz.prog 147 [] [eFor f, eInts l] [] (eBool (rightF f && !decide (0 ≤ idxI (fun n => !thereN f.nodes n) l))) := by
 have h48 := f17_ok f hs
 have h106 := f127_ok 192 c192 [.fptr (eFor f) 0] rfl (fun n => !thereN f.nodes n) l hl (fun a _ => f192_ok f a)
 obtain ⟨ns, m⟩ := f
 simp only at h48 h106 ⊢
 refine FnOK.startC (rvs := [.tmp 4]) G G_good Tryz.func147 rfl Tryz.ntmps147 rfl rfl ?_; with_reducible refine wD ?_
 refine cL h48 c17 ?_; with_reducible refine wK ?_
 cases h0 : rightF ⟨ns, m⟩ with
 | false =>
   repeat' (first
  | refine gK ?_ | refine aE ?_ ?_
  | apply trivial)
   all_goals rfl
 | true =>
   repeat' (first
  | refine gK ?_ | refine aE ?_ ?_
  | apply trivial)
   refine CallK.lit [20] h106 c127 ⟨rfl, ⟨rfl, trivial, ⟨_, _, _, _, _, rfl, rfl, rfl, rfl, rfl, ⟨rfl, rfl, trivial⟩⟩, trivial⟩, trivial⟩ rfl rfl ?_; with_reducible refine wK ?_
   repeat' (first
  | refine gK ?_ | refine aE ?_ ?_
  | apply trivial)
   all_goals rfl
theorem f148_ok (l : List Int) : FnOK Tryz.prog 148 [] [eInts l] [] (.clo (.func 193) [] [.fptr (eInts l) 0]) := by
 refine FnOK.startC (rvs := [.tmp 2]) G G_good Tryz.func148 rfl Tryz.ntmps148 rfl rfl ?_; with_reducible refine wD ?_
 refine ⟨⟨rfl, rfl⟩, ⟨rfl, trivial, ⟨_, _, _, _, _, rfl, rfl, rfl, rfl, rfl, rfl⟩, trivial⟩, ?_⟩
 exact trivial
def allU (f : ForM) (n : Int) : List Int := if (rightF f && thereN f.nodes n) = true then U.ordN f.nodes f.nodes.length n else []
end Go.Proofs.Heir
namespace Go.Proofs.Heir
open Go Go.Am Go.RowKit Go.Shelf
set_option maxRecDepth 100000
set_option maxHeartbeats 8000000

theorem FnOK.at {P : Program} {f : FuncId} {args : List AV} {vs : List Value} {res : AV} {w : World} {Wn : Nat → Prop} {μ : Mu} (h : FnOK P f [] args [] res) (ha : noRefL args = true) (hr : noRef res = true) (hv : RepL Wn μ w args vs) (hlt : ∀ b, Wn b → b < w.heap.size) (ht : Tabs P w fun _ => none) :
  Calls P f vs.toArray w fun e w' => ∃ v μ', e = .returned v ∧ More w w' ∧ Rep Wn μ' w' res v := by
 have hW : ∀ b, Wr Wn (fun _ => none) (objsOf []) b → Wn b := by
  rintro b (h | ⟨t, B, wd, rows, _, h, _⟩)
  ·exact h
  ·cases h
 have hs : Sim P 0 w Wn (fun _ => none) (fun _ => none) (bare []) noAct w := by
  refine ⟨rfl, .nil, rfl, rfl, rfl, Nat.le_refl _, fun _ _ _ h => h, fun _ _ _ => rfl, hlt, fun _ _ _ h => h, fun t => by simp [bare, objsOf], fun _ => .any, fun t wd rows ro h => ?_, fun t t' wd rows wd' rows' ro' B B' _ h => ?_, fun t wd rows ro B h => ?_, ht⟩ <;> simp [bare, objsOf] at h
 refine (h w Wn (fun _ => none) vs (fun _ _ => rfl) hs ?_).mono ?_
 ·exact ⟨hv.1, fun j c v hc hv' => (hv.2 j c v hc hv').noRef (fun b _ hb => hW b hb) (noRefL_iff.1 ha c (List.mem_of_getElem? hc))⟩
 rintro e w' ⟨v, μ', rfl, hs', hv'⟩
 refine ⟨v, μ', rfl, ⟨hs'.os, hs'.tape, hs'.output, hs'.hsize, fun b hb => hs'.keep b hb ?_⟩, hv'.noRef (fun b _ hb => .inl hb) hr⟩
 rintro ⟨t, B, h, _⟩
 cases h
end Go.Proofs.Heir
section
namespace Go.Proofs.Heir
open Go Go.Am Go.RowKit Go.Lib
set_option maxRecDepth 100000
set_option maxHeartbeats 8000000
theorem list_same {α : Type} {x y : List α} (hl : x.length = y.length) (h : ∀ j, j < x.length → x[j]? = y[j]?) : x = y := by
 refine List.ext_getElem? fun j => ?_
 rcases Nat.lt_or_ge j x.length with h6 | h6
 ·exact h j h6
 ·rw [List.getElem?_eq_none h6, List.getElem?_eq_none (by omega)]
theorem same_succ {α : Type} {x y : List α} {k : Nat} (h : ∀ j, j < k → x[j]? = y[j]?) (hk : x[k]? = y[k]?) : ∀ j, j < k + 1 → x[j]? = y[j]? := fun j hj => by
 by_cases e : j = k
 ·rw [e]; exact hk
 ·exact h j (by omega)
set_option maxHeartbeats 8000000
theorem f25_ok (a b : List Int) (ha : a.length ≤ 100000) : FnOK Tryz.prog 25 [] [eInts a, eInts b] [] (eBool (decide (a = b))) := by
 have hlm : (a.map oInt).length = a.length := List.length_map ..
 have hlm' : (b.map oInt).length = b.length := List.length_map ..
 refine FnOK.startC (rvs := [.tmp 4]) G G_good Tryz.func25 rfl Tryz.ntmps25 rfl rfl ?_; with_reducible refine wD ?_
 by_cases g1 : a.length = b.length
 ·(have fct := And.intro hlm (And.intro hlm' (g1)); (repeat' (first
  | refine gF ?_ | refine aE ?_ ?_
  | apply trivial)); all_goals clear fct)
  refine LoopK.use G G_good (fun (k : Nat) => [(0, eInts a), (1, eInts b), (5, eInt k)]) (fun _ => []) (fun k => k ≤ a.length ∧ ∀ j, j < k → a[j]? = b[j]?) (fun k => a.length - k) 0 ⟨Nat.zero_le _, fun j hj => by omega⟩
   ⟨⟨rfl, rfl⟩, ⟨rfl, rfl, rfl, trivial⟩, trivial⟩ ?_
  intro k ⟨hk, hno⟩
  with_reducible refine wK ?_
  refine IfK.mk (fun h1 => ?_) (fun h1 => ?_) <;> (try simp only [castN] at h1) <;> with_reducible refine wK ?_
  ·simp only [hlm, decide_eq_true_eq] at h1
   have hk' : k < a.length := by omega
   obtain ⟨x, hx⟩ : ∃ x, a[k]? = some x := ⟨_, List.getElem?_eq_getElem hk'⟩
   obtain ⟨y, hy⟩ : ∃ y, b[k]? = some y := ⟨_, List.getElem?_eq_getElem (by omega)⟩
   refine IdxK.mk k (eInt x) rfl (int_get hx) ?_; with_reducible refine wK ?_
   refine IdxK.mk k (eInt y) rfl (int_get hy) ?_; with_reducible refine wK ?_
   by_cases e : x = y
   ·(have fct := e; (repeat' (first
  | refine gF ?_ | refine aE ?_ ?_
  | (((with_reducible show NextK _ _); refine NextK.mk (k + 1) ⟨by omega, same_succ hno (by rw [hx, hy, e])⟩ (by omega) ⟨⟨rfl, rfl⟩, ⟨rfl, rfl, by show ((k + 1 : Nat) : Int) = (k : Int) + 1; omega, trivial⟩, trivial⟩) <;> with_reducible refine wK ?_)
  | apply trivial)); all_goals clear fct)
   ·rw [show decide (a = b) = false from decide_eq_false fun h => e (by rw [h] at hx; rw [hx] at hy; exact Option.some.inj hy)]
    (have fct := e; (repeat' (first
  | refine gF ?_ | refine aE ?_ ?_
  | apply trivial)); all_goals clear fct)
  ·have hkl : k = a.length := by simp only [hlm, decide_eq_false_iff_not] at h1; omega
   subst hkl
   rw [show decide (a = b) = true from decide_eq_true (list_same g1 hno)]
   (have fct := hlm; (repeat' (first
  | refine gF ?_ | refine aE ?_ ?_
  | apply trivial)); all_goals clear fct)
 ·rw [show decide (a = b) = false from decide_eq_false fun h => g1 (by rw [h])]
  (have fct := And.intro hlm (And.intro hlm' (g1)); (repeat' (first
  | refine gF ?_ | refine aE ?_ ?_
  | apply trivial)); all_goals clear fct)
end Go.Proofs.Heir
end
namespace Go.Proofs.Heir
open Go Go.Am Go.RowKit Go.Lib
set_option maxRecDepth 100000
set_option maxHeartbeats 8000000
structure DefM where
 name : ByteArray
 locl : ByteArray
 cls : Int
 deriving DecidableEq
structure WaitM where
 name : ByteArray
 ticket : Int
 deriving DecidableEq
structure DeskM where
 defs : List DefM
 waits : List WaitM
 next : Int
 busy : Bool
 deriving DecidableEq
def knowS (s : ByteArray) : Bool := hasW knowL s
def localB (x : DefM) : Bool := decide (x.locl = x.name) || knowS x.locl
def goodD (x : DefM) : Bool := customS x.name && localB x && decide (0 ≤ x.cls) && decide (x.cls < 12)
def hasN (s : ByteArray) (x : DefM) : Bool := decide (x.name = s)
def ixI {α : Type} (p : α → Bool) (l : List α) : Int := match l.findIdx? p with
 | some k => (k : Int)
 | none => -1
def posN (l : List DefM) (s : ByteArray) : Int := ixI (hasN s) l
def okW (l : List DefM) (next : Int) (w : WaitM) (last : Int) : Bool := customS w.name && decide (posN l w.name = -1) && decide (last < w.ticket) && decide (w.ticket < next)
def waitsB (l : List DefM) (next : Int) : Int → List WaitM → Bool
 | _, [] => true
 | last, w :: r => okW l next w last && waitsB l next w.ticket r
def defsB (l : List DefM) : Bool := l.all goodD && decide ((l.map DefM.name).Nodup) && decide ((l.map DefM.cls).Nodup)
def rightD (d : DeskM) : Bool := defsB d.defs && waitsB d.defs d.next (-1) d.waits && decide (0 ≤ d.next) && decide (d.next ≤ 100000)

def xk (k : Nat) : ByteArray := ⟨#[120, 45, UInt8.ofNat (97 + k)]⟩
structure TellInv (d : DeskM) (i : Nat) : Prop where
 right : rightD d = true
 busy : d.busy = false
 names : ∀ w ∈ d.waits, ∃ k < 6, w.name = xk k
 next : d.next ≤ i
theorem TellInv.first : TellInv ⟨[], [], 0, false⟩ 0 := ⟨by decide, rfl, fun w h => by simp at h, by decide⟩
section
variable {K : Type} [DecidableEq K] (key : DefM → K)
end
def kC (x : DefM) : Int := x.cls





end Go.Proofs.Heir
namespace Go.Proofs.Heir
open Go Go.Am Go.RowKit Go.Lib
set_option maxRecDepth 100000

end Go.Proofs.Heir
namespace Go.Proofs.Heir
open Go Go.Am Go.RowKit Go.Lib
set_option maxRecDepth 100000
set_option maxHeartbeats 8000000

end Go.Proofs.Heir
namespace Go.Proofs.Heir
open Go Go.Am Go.RowKit Go.Lib
set_option maxRecDepth 100000

end Go.Proofs.Heir
namespace Go.Proofs.Heir
open Go Go.Am Go.RowKit Go.Lib
set_option maxRecDepth 100000
set_option maxHeartbeats 8000000







def topN (l : List NodeM) (n : Int) : Int := ((U.wayN l n).getLast?).getD n
theorem up_there {l : List NodeM} (T : U.Tree l) : ∀ n, thereN l n = true → upN (nd l n) ≠ -1 → thereN l (upN (nd l n)) = true := by
 refine U.up_ind T (P := fun n => upN (nd l n) ≠ -1 → thereN l (upN (nd l n)) = true) (fun n hn h0 h => absurd h0 h) (fun n hn h0 h1 _ _ => h1)
end Go.Proofs.Heir
namespace Go.Proofs.Heir
open Go Go.Am Go.RowKit Go.Lib
set_option maxRecDepth 100000
set_option maxHeartbeats 8000000
set_option maxHeartbeats 8000000
structure RF (l : List NodeM) (m : Int) : Prop where
  head : headOK ⟨l, m⟩ = true
  nam : ∀ n, thereN l n = true → namedN (nd l n) = true
  own : ∀ n, thereN l n = true → isN l (nd l n).doc 0 = true ∧ ((nd l n).kind = 0 → (nd l n).doc = n)
  par : ∀ n, thereN l n = true → (nd l n).parent ≠ -1 → ((nd l n).kind = 1 ∨ (nd l n).kind = 2) ∧ thereN l (nd l n).parent = true ∧ holdK (nd l (nd l n).parent).kind = true ∧ n ∈ (nd l (nd l n).parent).kids
  kid : ∀ n, thereN l n = true → ∀ c ∈ (nd l n).kids, thereN l c = true ∧ (nd l c).parent = n ∧ (nd l c).doc = (nd l n).doc ∧ ((nd l c).kind = 1 ∨ (nd l c).kind = 2 ∧ (nd l n).kind ≠ 0)
  dup : ∀ n, thereN l n = true → (nd l n).kids.Nodup
  hold : ∀ n, thereN l n = true → (nd l n).kids ≠ [] → holdK (nd l n).kind = true
  elems : ∀ n, thereN l n = true → (nd l n).kind = 0 → elemsN l (nd l n).kids ≤ 1
  host : ∀ n, thereN l n = true → (nd l n).kind = 4 → isN l (nd l n).host 1 = true ∧ (nd l (nd l n).host).under = n ∧ (nd l (nd l n).host).doc = (nd l n).doc
  noh : ∀ n, thereN l n = true → (nd l n).kind ≠ 4 → (nd l n).host = -1
  und : ∀ n, thereN l n = true → (nd l n).under ≠ -1 → (nd l n).kind = 1 ∧ isN l (nd l n).under 4 = true ∧ (nd l (nd l n).under).host = n
  ends : ∀ n, thereN l n = true → endsN l l.length n = true
theorem nodeOK_iff {l : List NodeM} {n : Int} {x : NodeM} : nodeOK l n x = true ↔ namedN x = true ∧ (isN l x.doc 0 = true ∧ (x.kind = 0 → x.doc = n)) ∧ (x.parent ≠ -1 → (x.kind = 1 ∨ x.kind = 2) ∧ thereN l x.parent = true ∧ holdK (nd l x.parent).kind = true ∧ n ∈ (nd l x.parent).kids) ∧
    (∀ c ∈ x.kids, thereN l c = true ∧ (nd l c).parent = n ∧ (nd l c).doc = x.doc ∧ ((nd l c).kind = 1 ∨ (nd l c).kind = 2 ∧ x.kind ≠ 0)) ∧ x.kids.Nodup ∧ (x.kids ≠ [] → holdK x.kind = true) ∧ (x.kind = 0 → elemsN l x.kids ≤ 1) ∧
    (x.kind = 4 → isN l x.host 1 = true ∧ (nd l x.host).under = n ∧ (nd l x.host).doc = x.doc) ∧ (x.kind ≠ 4 → x.host = -1) ∧ (x.under ≠ -1 → x.kind = 1 ∧ isN l x.under 4 = true ∧ (nd l x.under).host = n) := by
  unfold nodeOK ownedN hungN bearsN shadedN hasI
  simp only [Bool.and_eq_true, Bool.or_eq_true, decide_eq_true_eq]
  rw [kidsOK_iff]
  have hk : ∀ c, kidP l n x c = true ↔ thereN l c = true ∧ (nd l c).parent = n ∧ (nd l c).doc = x.doc ∧ ((nd l c).kind = 1 ∨ (nd l c).kind = 2 ∧ x.kind ≠ 0) := fun c => by
    unfold kidP
    simp only [Bool.and_eq_true, Bool.or_eq_true, decide_eq_true_eq]
  simp only [hk]
  by_cases e4 : x.kind = 4
  · rw [if_pos e4]
    simp only [Bool.and_eq_true, decide_eq_true_eq]
    constructor
    · rintro ⟨a, ⟨b1, b2⟩, c, ⟨⟨d1, d2, _⟩, e1, e2⟩, f, g⟩
      exact ⟨a, ⟨b1, fun h => b2.resolve_left (fun q => q h)⟩, fun h => let q := c.resolve_left h; ⟨q.1.1.1, q.1.1.2, q.1.2, q.2⟩, d1, d2, fun h => e1.resolve_right h, fun h => e2.resolve_left (fun q => q h), fun _ => ⟨f.1.1, f.1.2, f.2⟩, fun h => absurd e4 h, fun h => let q := g.resolve_left h; ⟨q.1.1, q.1.2, q.2⟩⟩
    · rintro ⟨a, ⟨b1, b2⟩, c, d1, d2, e1, e2, f, _, g⟩
      refine ⟨a, ⟨b1, ?_⟩, ?_, ⟨⟨d1, d2, fun _ _ => by simp⟩, ?_, ?_⟩, ?_, ?_⟩
      · by_cases h : x.kind = 0
        · exact .inr (b2 h)
        · exact .inl h
      · by_cases h : x.parent = -1
        · exact .inl h
        · have q := c h; exact .inr ⟨⟨⟨q.1, q.2.1⟩, q.2.2.1⟩, q.2.2.2⟩
      · by_cases h : x.kids = []
        · exact .inr h
        · exact .inl (e1 h)
      · by_cases h : x.kind = 0
        · exact .inr (e2 h)
        · exact .inl h
      · have q := f e4; exact ⟨⟨q.1, q.2.1⟩, q.2.2⟩
      · by_cases h : x.under = -1
        · exact .inl h
        · have q := g h; exact .inr ⟨⟨q.1, q.2.1⟩, q.2.2⟩
  · rw [if_neg e4]
    simp only [decide_eq_true_eq]
    constructor
    · rintro ⟨a, ⟨b1, b2⟩, c, ⟨⟨d1, d2, _⟩, e1, e2⟩, f, g⟩
      exact ⟨a, ⟨b1, fun h => b2.resolve_left (fun q => q h)⟩, fun h => let q := c.resolve_left h; ⟨q.1.1.1, q.1.1.2, q.1.2, q.2⟩, d1, d2, fun h => e1.resolve_right h, fun h => e2.resolve_left (fun q => q h), fun h => absurd h e4, fun _ => f, fun h => let q := g.resolve_left h; ⟨q.1.1, q.1.2, q.2⟩⟩
    · rintro ⟨a, ⟨b1, b2⟩, c, d1, d2, e1, e2, _, f, g⟩
      refine ⟨a, ⟨b1, ?_⟩, ?_, ⟨⟨d1, d2, fun _ _ => by simp⟩, ?_, ?_⟩, f e4, ?_⟩
      · by_cases h : x.kind = 0
        · exact .inr (b2 h)
        · exact .inl h
      · by_cases h : x.parent = -1
        · exact .inl h
        · have q := c h; exact .inr ⟨⟨⟨q.1, q.2.1⟩, q.2.2.1⟩, q.2.2.2⟩
      · by_cases h : x.kids = []
        · exact .inr h
        · exact .inl (e1 h)
      · by_cases h : x.kind = 0
        · exact .inr (e2 h)
        · exact .inl h
      · by_cases h : x.under = -1
        · exact .inl h
        · have q := g h; exact .inr ⟨⟨q.1, q.2.1⟩, q.2.2⟩
theorem rf_iff {l : List NodeM} {m : Int} : rightF ⟨l, m⟩ = true ↔ RF l m := by
  unfold rightF
  simp only [Bool.and_eq_true]
  rw [all_there (fun n x => nodeOK l n x), all_there (fun n _ => endsN l l.length n)]
  simp only [nodeOK_iff]
  constructor
  · rintro ⟨h1, h2, h3⟩
    exact ⟨h1, fun n hn => (h2 n hn).1, fun n hn => (h2 n hn).2.1, fun n hn => (h2 n hn).2.2.1, fun n hn => (h2 n hn).2.2.2.1, fun n hn => (h2 n hn).2.2.2.2.1, fun n hn => (h2 n hn).2.2.2.2.2.1, fun n hn => (h2 n hn).2.2.2.2.2.2.1, fun n hn => (h2 n hn).2.2.2.2.2.2.2.1, fun n hn => (h2 n hn).2.2.2.2.2.2.2.2.1, fun n hn => (h2 n hn).2.2.2.2.2.2.2.2.2, h3⟩
  · intro R
    exact ⟨R.head, fun n hn => ⟨R.nam n hn, R.own n hn, R.par n hn, R.kid n hn, R.dup n hn, R.hold n hn, R.elems n hn, R.host n hn, R.noh n hn, R.und n hn⟩, R.ends⟩
def setN (l : List NodeM) (n : Int) (g : NodeM → NodeM) : List NodeM := l.set n.toNat (g (nd l n))
theorem len_set (l : List NodeM) (n : Int) (g : NodeM → NodeM) : (setN l n g).length = l.length := List.length_set ..
theorem there_len {l l' : List NodeM} (h : l'.length = l.length) (n : Int) : thereN l' n = thereN l n := by unfold thereN; rw [h]
theorem nd_set {l : List NodeM} {n x : Int} (g : NodeM → NodeM) (hn : thereN l n = true) (hx : thereN l x = true) : nd (setN l n g) x = if x = n then g (nd l n) else nd l x := by
  have h1 := there_pos hn
  have h2 := there_pos hx
  show ((l.set n.toNat (g (nd l n)))[x.toNat]?).getD noNode = _
  rw [List.getElem?_set]
  by_cases e : x = n
  · subst e
    rw [if_pos rfl, if_pos (by omega), if_pos rfl]; rfl
  · rw [if_neg (by omega), if_neg e]; rfl
structure LikeN (x y : NodeM) : Prop where
  kind : x.kind = y.kind
  name : x.name = y.name
  is : x.is = y.is
  data : x.data = y.data
  attrs : x.attrs = y.attrs
  host : x.host = y.host
  under : x.under = y.under
theorem LikeN.refl (x : NodeM) : LikeN x x := ⟨rfl, rfl, rfl, rfl, rfl, rfl, rfl⟩
theorem LikeN.trans {x y z : NodeM} (h : LikeN x y) (k : LikeN y z) : LikeN x z := ⟨h.1.trans k.1, h.2.trans k.2, h.3.trans k.3, h.4.trans k.4, h.5.trans k.5, h.6.trans k.6, h.7.trans k.7⟩
theorem LikeN.nam {x y : NodeM} (h : LikeN x y) : namedN x = namedN y := by unfold namedN; rw [h.kind, h.name, h.is, h.data, h.attrs]
section
variable {l l' : List NodeM} {m : Int}
theorem isN_len (hl : l'.length = l.length) (hs : ∀ x, thereN l x = true → LikeN (nd l' x) (nd l x)) (a k : Int) : isN l' a k = isN l a k := by
  unfold isN
  rw [there_len hl]
  cases h : thereN l a with
  | false => rfl
  | true => rw [(hs a h).kind]
theorem elems_len (hs : ∀ x, thereN l x = true → LikeN (nd l' x) (nd l x)) {cs : List Int} (h : ∀ c ∈ cs, thereN l c = true) : elemsN l' cs = elemsN l cs := by
  unfold elemsN
  exact List.countP_congr fun c hc => by rw [(hs c (h c hc)).kind]
theorem RF.pos (R : RF l m) : thereN l 0 = true := by
  have := R.head
  unfold headOK at this
  simp only [Bool.and_eq_true, decide_eq_true_eq] at this
  unfold thereN
  simp; omega
theorem RF.chg (R : RF l m) (hl : l'.length = l.length) (hs : ∀ x, thereN l x = true → LikeN (nd l' x) (nd l x))
    (own : ∀ n, thereN l n = true → isN l (nd l' n).doc 0 = true ∧ ((nd l n).kind = 0 → (nd l' n).doc = n))
    (par : ∀ n, thereN l n = true → (nd l' n).parent ≠ -1 → ((nd l n).kind = 1 ∨ (nd l n).kind = 2) ∧ thereN l (nd l' n).parent = true ∧ holdK (nd l (nd l' n).parent).kind = true ∧ n ∈ (nd l' (nd l' n).parent).kids)
    (kid : ∀ n, thereN l n = true → ∀ c ∈ (nd l' n).kids, thereN l c = true ∧ (nd l' c).parent = n ∧ (nd l' c).doc = (nd l' n).doc ∧ ((nd l c).kind = 1 ∨ (nd l c).kind = 2 ∧ (nd l n).kind ≠ 0))
    (dup : ∀ n, thereN l n = true → (nd l' n).kids.Nodup) (hold : ∀ n, thereN l n = true → (nd l' n).kids ≠ [] → holdK (nd l n).kind = true)
    (elems : ∀ n, thereN l n = true → (nd l n).kind = 0 → elemsN l (nd l' n).kids ≤ 1)
    (hdoc : ∀ n, thereN l n = true → (nd l n).kind = 4 → (nd l' (nd l n).host).doc = (nd l' n).doc)
    (ends : ∀ n, thereN l n = true → endsN l' l.length n = true) : RF l' m := by
  have T := there_len hl
  have I := isN_len hl hs
  have isT : ∀ {a k : Int}, isN l a k = true → thereN l a = true := fun h => by unfold isN at h; rw [Bool.and_eq_true] at h; exact h.1
  refine ⟨?_, fun n hn => ?_, fun n hn => ?_, fun n hn h => ?_, fun n hn c hc => ?_, fun n hn => ?_, fun n hn h => ?_, fun n hn h => ?_, fun n hn h => ?_, fun n hn h => ?_, fun n hn h => ?_, fun n hn => ?_⟩
  · have := R.head
    unfold headOK at this ⊢
    rw [hl, (hs 0 R.pos).kind]; exact this
  all_goals rw [T] at hn
  · rw [(hs n hn).nam]; exact R.nam n hn
  · rw [I, (hs n hn).kind]; exact own n hn
  · have q := par n hn h
    rw [T, (hs n hn).kind, (hs _ q.2.1).kind]; exact q
  · have q := kid n hn c hc
    rw [T, (hs n hn).kind, (hs c q.1).kind]; exact q
  · exact dup n hn
  · rw [(hs n hn).kind]; exact hold n hn h
  · rw [(hs n hn).kind] at h
    rw [elems_len hs fun c hc => (kid n hn c hc).1]; exact elems n hn h
  · rw [(hs n hn).kind] at h
    have q := R.host n hn h
    rw [I, (hs n hn).host, (hs _ (isT q.1)).under]
    exact ⟨q.1, q.2.1, hdoc n hn h⟩
  · rw [(hs n hn).kind] at h
    rw [(hs n hn).host]; exact R.noh n hn h
  · rw [(hs n hn).under] at h
    have q := R.und n hn h
    rw [I, (hs n hn).kind, (hs n hn).under, (hs _ (isT q.2.1)).host]; exact q
  · rw [hl]; exact ends n hn
theorem RF.tree (R : RF l m) : U.Tree l := U.tree_of (f := ⟨l, m⟩) (rf_iff.2 R)
theorem RF.up (R : RF l m) {n : Int} (hn : thereN l n = true) (h : upN (nd l n) ≠ -1) : thereN l (upN (nd l n)) = true := up_there R.tree n hn h
theorem fin_cut {g g' : Int → Int} {P : Int → Prop} (hg : ∀ x, P x → g' x = g x ∨ g' x = -1) (hP : ∀ x, P x → g x ≠ -1 → P (g x)) : ∀ {k : Nat} {x : Int}, P x → finG g k x = true → finG g' k x = true
  | 0, _, _, h => by simp [finG] at h
  | k + 1, x, hx, h => by
    unfold finG at h ⊢
    rcases hg x hx with e | e
    · rw [e]
      by_cases c : g x = -1
      · rw [if_pos c]
      · rw [if_neg c] at h ⊢; exact fin_cut hg hP (hP x hx c) h
    · rw [if_pos e]
def outL (l : List NodeM) (n : Int) : List NodeM := if (nd l n).parent = -1 then l else setN (setN l (nd l n).parent fun x => { x with kids := x.kids.erase n }) n fun x => { x with parent := -1 }
def insL (cs : List Int) (b k : Int) : List Int := if b = -1 then cs ++ [k] else cs.takeWhile (fun c => decide (c ≠ b)) ++ k :: cs.dropWhile (fun c => decide (c ≠ b))
def hangL (l : List NodeM) (k p b : Int) : List NodeM := setN (setN l p fun x => { x with kids := insL x.kids b k }) k fun x => { x with parent := p }
def docL (l : List NodeM) (s : List Int) (d : Int) : List NodeM := s.foldl (fun l k => setN l k fun x => { x with doc := d }) l
end
end Go.Proofs.Heir
namespace Go.Proofs.Heir
open Go Go.Am Go.RowKit Go.Lib
set_option maxRecDepth 100000
set_option maxHeartbeats 8000000
structure NoteM where
 kind : Int
 node : Int
 src : Int
 dst : Int
 name : ByteArray
 had : Bool
 has : Bool
 old : ByteArray
 new : ByteArray
 deriving DecidableEq
@[reducible] def eNote (x : NoteM) : AV := .agg [eInt x.kind, eInt x.node, eInt x.src, eInt x.dst, eStr x.name, eBool x.had, eBool x.has, eStr x.old, eStr x.new]
def oNote (x : NoteM) : AV := eNote x
theorem note_get {l : List NoteM} {k : Nat} {x : NoteM} (h : l[k]? = some x) : (l.map oNote)[k]? = some (eNote x) := by rw [List.getElem?_map, h]; rfl
end Go.Proofs.Heir
namespace Go.Proofs.Heir
open Go Go.Am Go.RowKit Go.Lib
set_option maxRecDepth 100000
set_option maxHeartbeats 8000000
set_option maxHeartbeats 8000000
section
variable {l l' : List NodeM} {m : Int}
def overL (l : List NodeM) (k d : Int) : List NodeM := if (nd (outL l k) k).doc = d then outL l k else docL (outL l k) (U.ordN (outL l k) (outL l k).length k) d
def stepL (l : List NodeM) (k p b : Int) : List NodeM := hangL (overL l k (nd l p).doc) k p b
end
def elsU (l : List NodeM) (n : Int) : List Int := (U.ordN l l.length n).filter fun k => decide ((nd l k).kind = 1)
def conL (l : List NodeM) (n : Int) : Bool := decide ((nd l (topN l n)).kind = 0)
def tellL (l : List NodeM) (n : Int) (x : NoteM) : List NoteM := (elsU l n).map fun k => { x with node := k }
def bareNote (kind src dst : Int) : NoteM := ⟨kind, 0, src, dst, ⟨#[]⟩, false, false, ⟨#[]⟩, ⟨#[]⟩⟩
def outS (s : List NodeM × List NoteM) (n : Int) : List NodeM × List NoteM := if (nd s.1 n).parent = -1 then s else (outL s.1 n, s.2 ++ if conL s.1 n = true then tellL s.1 n (bareNote 2 0 0) else [])
def overS (s : List NodeM × List NoteM) (k d : Int) : List NodeM × List NoteM := if (nd (outS s k).1 k).doc = d then outS s k else (overL s.1 k d, (outS s k).2 ++ tellL (overL s.1 k d) k (bareNote 3 (nd (outS s k).1 k).doc d))
def stepS (p b : Int) (s : List NodeM × List NoteM) (k : Int) : List NodeM × List NoteM := (stepL s.1 k p b, (overS s k (nd s.1 p).doc).2 ++ if conL (stepL s.1 k p b) k = true then tellL (stepL s.1 k p b) k (bareNote 1 0 0) else [])
def partsL (l : List NodeM) (n : Int) : List Int := if (nd l n).kind = 3 then (nd l n).kids else [n]
def putS (s : List NodeM × List NoteM) (n p b : Int) : List NodeM × List NoteM := (partsL s.1 n).foldl (stepS p b) (if (nd s.1 n).kind = 3 then (partsL s.1 n).foldl outS s else s)
section
variable {l l' : List NodeM} {m : Int}
end
section
variable {l : List NodeM} {m : Int}
theorem RF.kinds (R : RF l m) {n : Int} (hn : thereN l n = true) : 0 ≤ (nd l n).kind ∧ (nd l n).kind ≤ 4 := (named_kind.1 (R.nam n hn)).1
end
theorem nodes_ext {l l' : List NodeM} (hl : l'.length = l.length) (h : ∀ x, thereN l x = true → nd l' x = nd l x) : l' = l := by
  apply List.ext_getElem hl
  intro i h1 h2
  have := h (i : Int) (by unfold thereN; simp; omega)
  unfold nd at this
  rw [Int.toNat_natCast, List.getElem?_eq_getElem h1, List.getElem?_eq_getElem h2] at this
  exact this
section
variable {l l' : List NodeM} {m : Int}
end
section
variable {l l' : List NodeM} {m : Int}
end
section
variable {l l' : List NodeM} {m : Int}
end
def b2i (b : Bool) : Int := if b = true then 1 else 0
def noteS (s : Int × Int) (x : NoteM) : Option (Int × Int) :=
  match (if x.kind = 1 then some (s.1 + 1, s.2) else if x.kind = 2 then some (s.1 - 1, s.2) else if x.kind = 3 then (if x.src ≠ s.2 ∨ x.dst = s.2 ∨ s.1 ≠ 0 then none else some (s.1, x.dst)) else some s : Option (Int × Int)) with
  | none => none
  | some t => if t.1 < 0 ∨ 1 < t.1 then none else some t
def runN : Int × Int → List NoteM → Option (Int × Int)
  | s, [] => some s
  | s, x :: r => match noteS s x with
    | none => none
    | some t => runN t r
theorem runN_app : ∀ (a b : List NoteM) (s : Int × Int), runN s (a ++ b) = match runN s a with
    | none => none
    | some t => runN t b
  | [], b, s => rfl
  | x :: a, b, s => by
    show (match noteS s x with | none => none | some t => runN t (a ++ b)) = match (match noteS s x with | none => none | some t => runN t a) with | none => none | some t => runN t b
    cases noteS s x with
    | none => rfl
    | some t => exact runN_app a b t
def notesOf (n : Int) (ns : List NoteM) : List NoteM := ns.filter fun x => decide (x.node = n)
theorem notesOf_app (n : Int) (a b : List NoteM) : notesOf n (a ++ b) = notesOf n a ++ notesOf n b := List.filter_append ..
structure Told (l l' : List NodeM) (ns : List NoteM) : Prop where
  el : ∀ x ∈ ns, thereN l x.node = true ∧ (nd l x.node).kind = 1
  run : ∀ n, thereN l n = true → (nd l n).kind = 1 → runN (b2i (conL l n), (nd l n).doc) (notesOf n ns) = some (b2i (conL l' n), (nd l' n).doc)
theorem Told.nil (l : List NodeM) : Told l l [] := ⟨fun x hx => by simp at hx, fun n _ _ => rfl⟩
theorem Told.trans {a b c : List NodeM} {x y : List NoteM} (hl : b.length = a.length) (hk : ∀ n, thereN a n = true → (nd b n).kind = (nd a n).kind) (h : Told a b x) (k : Told b c y) : Told a c (x ++ y) := by
  have T := there_len hl
  refine ⟨fun z hz => ?_, fun n hn h1 => ?_⟩
  · rcases List.mem_append.1 hz with q | q
    · exact h.el z q
    · have := k.el z q
      rw [T] at this
      exact ⟨this.1, by rw [← hk _ this.1]; exact this.2⟩
  · rw [notesOf_app, runN_app, h.run n hn h1]
    exact k.run n (by rw [T]; exact hn) (by rw [hk n hn]; exact h1)
section
variable {l l' : List NodeM} {m : Int}
def NoAtt (ns : List NoteM) : Prop := ∀ x ∈ ns, x.kind ≠ 4
theorem NoAtt.nil : NoAtt [] := fun x hx => by simp at hx
theorem NoAtt.app {a b : List NoteM} (h : NoAtt a) (k : NoAtt b) : NoAtt (a ++ b) := fun x hx => (List.mem_append.1 hx).elim (h x) (k x)
end
section
variable {l l' : List NodeM} {m : Int}
end
structure SameN (x y : NodeM) : Prop where
  kind : x.kind = y.kind
  parent : x.parent = y.parent
  kids : x.kids = y.kids
  host : x.host = y.host
  under : x.under = y.under
  doc : x.doc = y.doc
theorem SameN.refl (x : NodeM) : SameN x x := ⟨rfl, rfl, rfl, rfl, rfl, rfl⟩
section
variable {l l' : List NodeM} {m : Int}
theorem isN_same (hl : l'.length = l.length) (hs : ∀ x, thereN l x = true → SameN (nd l' x) (nd l x)) (a k : Int) : isN l' a k = isN l a k := by
  unfold isN
  rw [there_len hl]
  cases h : thereN l a with
  | false => rfl
  | true => rw [(hs a h).kind]
theorem upN_same {x y : NodeM} (h : SameN x y) : upN x = upN y := by unfold upN; rw [h.parent, h.host]
theorem RF.same (R : RF l m) (hl : l'.length = l.length) (hs : ∀ x, thereN l x = true → SameN (nd l' x) (nd l x)) (hn : ∀ x, thereN l x = true → namedN (nd l' x) = true) : RF l' m := by
  have T := there_len hl
  have I := isN_same hl hs
  have isT : ∀ {a k : Int}, isN l a k = true → thereN l a = true := fun h => by unfold isN at h; rw [Bool.and_eq_true] at h; exact h.1
  refine ⟨?_, fun n h0 => ?_, fun n h0 => ?_, fun n h0 h => ?_, fun n h0 c hc => ?_, fun n h0 => ?_, fun n h0 h => ?_, fun n h0 h => ?_, fun n h0 h => ?_, fun n h0 h => ?_, fun n h0 h => ?_, fun n h0 => ?_⟩
  · have := R.head
    unfold headOK at this ⊢
    rw [hl, (hs 0 R.pos).kind]; exact this
  all_goals rw [T] at h0
  all_goals have S := hs n h0
  · exact hn n h0
  · rw [I, S.kind, S.doc]; exact R.own n h0
  · rw [S.parent] at h ⊢
    have q := R.par n h0 h
    rw [T, S.kind, (hs _ q.2.1).kind, (hs _ q.2.1).kids]; exact q
  · rw [S.kids] at hc
    have q := R.kid n h0 c hc
    rw [T, S.kind, S.doc, (hs c q.1).kind, (hs c q.1).parent, (hs c q.1).doc]; exact q
  · rw [S.kids]; exact R.dup n h0
  · rw [S.kids] at h; rw [S.kind]; exact R.hold n h0 h
  · rw [S.kind] at h
    rw [S.kids]
    have : elemsN l' (nd l n).kids = elemsN l (nd l n).kids := by
      unfold elemsN
      exact List.countP_congr fun c hc => by rw [(hs c (R.kid n h0 c hc).1).kind]
    rw [this]; exact R.elems n h0 h
  · rw [S.kind] at h
    have q := R.host n h0 h
    rw [I, S.host, S.doc, (hs _ (isT q.1)).under, (hs _ (isT q.1)).doc]; exact q
  · rw [S.kind] at h
    rw [S.host]; exact R.noh n h0 h
  · rw [S.under] at h
    have q := R.und n h0 h
    rw [I, S.kind, S.under, (hs _ (isT q.2.1)).host]; exact q
  · rw [hl, ends_G]
    refine fin_cut (g := fun n => upN (nd l n)) (P := fun x => thereN l x = true) (fun y hy => .inl (upN_same (hs y hy))) (fun y hy h => R.up hy h) h0 (by rw [← ends_G]; exact R.ends n h0)
def attL (l : List NodeM) (n : Int) (xs : List AttrM) : List NodeM := setN l n fun x => { x with attrs := xs }
theorem len_att (l : List NodeM) (n : Int) (xs : List AttrM) : (attL l n xs).length = l.length := len_set ..
theorem nd_att {n x : Int} {xs : List AttrM} (hn : thereN l n = true) (hx : thereN l x = true) : nd (attL l n xs) x = if x = n then { nd l x with attrs := xs } else nd l x := by
  unfold attL
  rw [nd_set _ hn hx]
  by_cases e : x = n
  · subst e; simp
  · rw [if_neg e, if_neg e]
end
section
variable {l l' : List NodeM} {m : Int}
theorem RF.ptree (R : RF l m) : Tree l := tree_of (f := ⟨l, m⟩) (rf_iff.2 R)
end
section
variable {l l' : List NodeM} {m : Int}
end
end Go.Proofs.Heir
namespace Go.Proofs.Heir
open Go.Am Go.RowKit Go.Lib
set_option maxRecDepth 100000
theorem f123_ok (l : List AttrM) (hl : l.length ≤ 100000) : FnOK Tryz.prog 123 [] [eAttrs l] [rAttrs l] (.own 0 0 l.length) := by
  have hlm : (l.map oAttr).length = l.length := List.length_map ..
  refine FnOK.startC (rvs := [.tmp 2]) G G_good Tryz.func123 rfl Tryz.ntmps123 rfl rfl ?_; with_reducible refine wD ?_
  refine GuessK.mk (fun h => ?_) (fun _ => ?_) <;> with_reducible refine wK ?_
  · obtain rfl : l = [] := by simpa using h
    (refine eK ?_ ?_ <;> with_reducible repeat' (first | exact trivial | (show _ ∧ _; refine aK ?_ ?_)))
    all_goals first | rfl | trivial
  · refine AppK.mk [] (l.map oAttr) ⟨rfl, rfl, rfl⟩ ⟨rfl, rfl, rfl⟩ (one_attrs l) (by simp; omega) (by simp; omega) ?_; with_reducible refine wK ?_
    (refine eK ?_ ?_ <;> with_reducible repeat' (first | exact trivial | (show _ ∧ _; refine aK ?_ ?_)))
    · exact hlm.symm
    · exact MFL_refl (noRef_attrs l)
end Go.Proofs.Heir
namespace Go.Proofs.Heir
open Go.Am Go.RowKit Go.Lib
set_option maxRecDepth 100000
set_option maxHeartbeats 8000000
theorem setCells_row (b : Nat) (e : TypeId) (fz : Nat × Nat) : ∀ (vs : List Value) (o : Nat) (C : Array Value) (w : World), w.heap[b]? = some (.cells C e fz) → o + vs.length ≤ C.size →
    ∃ C', w.setCells b o vs = w.setRow b C' ∧ C'.size = C.size ∧ ∀ q, C'[q]? = if o ≤ q ∧ q < o + vs.length then vs[q - o]? else C[q]?
  | [], o, C, w, h, _ => ⟨C, (setRow_self w b C e fz h).symm, rfl, fun q => by rw [if_neg (by simp only [List.length_nil]; omega)]⟩
  | v :: r, o, C, w, h, hl => by
    have h1 : w.setCell ⟨b, o, none⟩ v = w.setRow b (C.setIfInBounds o v) := by
      have hb := (Array.getElem?_eq_some_iff.1 h)
      unfold World.setCell World.setRow
      congr 1
      apply Array.ext_getElem?
      intro k
      rw [Array.getElem?_modify, Array.getElem?_modify]
      by_cases hk : b = k
      · subst hk; simp [h]
      · simp [hk]
    have h2 := setRow_heap w b C (C.setIfInBounds o v) e fz h
    obtain ⟨C', k1, k2, k3⟩ := setCells_row b e fz r (o + 1) (C.setIfInBounds o v) (w.setRow b (C.setIfInBounds o v)) h2 (by simp at hl ⊢; omega)
    refine ⟨C', by rw [World.setCells, h1, k1, setRow_setRow], by simp [k2], fun q => ?_⟩
    rw [k3 q, Array.getElem?_setIfInBounds]
    simp only [List.length_cons] at hl ⊢
    by_cases hq : q = o
    · subst hq
      rw [if_neg (by omega), if_pos rfl, if_pos (by omega), if_pos (by omega), Nat.sub_self]; rfl
    · by_cases hq2 : o + 1 ≤ q ∧ q < o + 1 + r.length
      · rw [if_pos hq2, if_pos (by omega), show q - o = (q - (o + 1)) + 1 from by omega, List.getElem?_cons_succ]
      · rw [if_neg hq2, if_neg (fun h => hq h.symm), if_neg (by omega)]
theorem clear2_run (w : World) (ty : TypeId) (b o n c : Nat) (e : TypeId) (C : Array Value) (h : w.heap[b]? = some (.cells C e (0, 0))) (hn : 0 < n) (hl : o + n * 2 ≤ C.size) :
    ∃ C', (Builtin.clear_ #[32] ty #[.slice (some ⟨b, o, none⟩) n c]).run Tryz.prog w = .ok (.tuple #[]) (w.setRow b C') ∧ C'.size = C.size ∧ ∀ q, q < o → C'[q]? = C[q]? := by
  obtain ⟨Z, hZ⟩ : ∃ Z : List Value, (Builtin.zeroCells (Value.agg #[.string ⟨#[]⟩, .string ⟨#[]⟩]).cells n).toList = Z := ⟨_, rfl⟩
  have hsz : Z.length = n * 2 := by
    rw [← hZ, Array.length_toList, size_zeroCells]; rfl
  have hone : ∀ v ∈ Z, v.oneCell' = true := by
    intro v hv
    rw [← hZ, Array.mem_toList_iff, Builtin.zeroCells, Array.mem_map] at hv
    obtain ⟨i, _, rfl⟩ := hv
    show (#[Value.string ⟨#[]⟩, .string ⟨#[]⟩][i % 2]!).oneCell' = true
    rcases Nat.mod_two_eq_zero_or_one i with h | h <;> rw [h] <;> rfl
  have hst := run_storeCells_at (P := Tryz.prog) b o e Z 0 C w h (by rw [hsz]; omega) hone
  rw [Nat.add_zero] at hst
  refine ⟨(C.toList.take o ++ Z ++ C.toList.drop (o + Z.length)).toArray, ?_, ?_, ?_⟩
  · obtain ⟨m, rfl⟩ : ∃ m, n = m + 1 := ⟨n - 1, by omega⟩
    have hu := Tryz.underlying32
    have hz := Tryz.zeroValue90
    simp [Builtin.clear_, run_underlying hu, hz, hZ, hst]
  · simp [hsz]; omega
  · intro q hq
    simp only [List.getElem?_toArray]
    rw [List.append_assoc, List.getElem?_append_left (by simp; omega), List.getElem?_take, if_pos hq, Array.getElem?_toList]
theorem f134_calls (blk off cap n i j : Nat) (C : Array Value) (e : TypeId) (w : World) (hC : w.heap[blk]? = some (.cells C e (0, 0))) (hfit : off + cap * 2 ≤ C.size) (hn : n ≤ cap) (hij : i < j) (hj : j ≤ n)
    (hone : ∀ q v, q < n * 2 → C[off + q]? = some v → v.oneCell' = true) :
    Calls Tryz.prog 134 #[.slice (some ⟨blk, off, none⟩) n cap, .int .i64 i, .int .i64 j] w fun e' w' => e' = .returned (.slice (some ⟨blk, off, none⟩) (i + (n - j)) cap) ∧
      ∃ C', w' = w.drew.setRow blk C' ∧ C'.size = C.size ∧ ∀ q, q < (i + (n - j)) * 2 → C'[off + q]? = if q < i * 2 then C[off + q]? else C[off + q + (j - i) * 2]? := by
  obtain ⟨news, hnews⟩ : ∃ news, news = (C.toList.drop (off + j * 2)).take ((n - j) * 2) := ⟨_, rfl⟩
  have hCl : C.toList.length = C.size := Array.length_toList
  have hlen : news.length = (n - j) * 2 := by rw [hnews, List.length_take, List.length_drop, hCl]; omega
  have hget : ∀ t, t < (n - j) * 2 → news[t]? = C[off + j * 2 + t]? := by
    intro t ht
    rw [hnews, List.getElem?_take, if_pos ht, List.getElem?_drop, Array.getElem?_toList]
  have hcell : ∀ q, w.drew.cell? ⟨blk, q, none⟩ = C[q]? := fun q => by
    show w.cell? _ = _
    simp [World.cell?, hC]
  obtain ⟨A, hA, hsrc⟩ : ∃ A : Addr, (if cap = j then some (⟨blk, off, none⟩ : Addr) else some ⟨blk, off + j * 2, none⟩) = some A ∧ Hid (∀ t u, news[t]? = some u → w.drew.cell? (A.add t) = some u) := by
    by_cases h : cap = j
    · refine ⟨⟨blk, off, none⟩, by simp [h], fun t u hu => ?_⟩
      have h0 : news.length = 0 := by rw [hlen]; omega
      rw [List.length_eq_zero_iff.1 h0] at hu
      simp at hu
    · refine ⟨⟨blk, off + j * 2, none⟩, by simp [h], fun t u hu => ?_⟩
      have ht : t < (n - j) * 2 := by
        have := (List.getElem?_eq_some_iff.1 hu).1
        rwa [hlen] at this
      rw [hget t ht] at hu
      rw [Addr.add_lit, hcell]
      exact hu
  have s1 : Hid (news.length = (n - j) * 2) := hlen
  have s2 : Hid (∀ u ∈ news, u.oneCell' = true) := by
    intro u hu
    obtain ⟨t, ht⟩ := List.getElem?_of_mem hu
    have hlt := (List.getElem?_eq_some_iff.1 ht).1
    rw [hlen] at hlt
    rw [hget t hlt, Nat.add_assoc] at ht
    exact hone _ u (by omega) ht
  have s3 : Hid (∀ t, t < news.length → (w.drew.cell? ⟨blk, off + i * 2 + t, none⟩).isSome = true ∧ w.drew.frozen? ⟨blk, off + i * 2 + t, none⟩ = false) := by
    intro t ht
    rw [hlen] at ht
    refine ⟨?_, ?_⟩
    · rw [hcell, Array.getElem?_eq_getElem (by omega)]; rfl
    · show w.frozen? _ = false
      simp [World.frozen?, hC]
  obtain ⟨C1, hC1, hC1s, hC1q⟩ := setCells_row blk e (0, 0) news (off + i * 2) C w.drew hC (by rw [hlen]; omega)
  obtain ⟨W1, hW1⟩ : ∃ W1, W1 = w.drew.setCells blk (off + i * 2) news := ⟨_, rfl⟩
  have hW1h : W1.heap[blk]? = some (.cells C1 e (0, 0)) := by rw [hW1, hC1]; exact setRow_heap w.drew blk C C1 e (0, 0) hC
  obtain ⟨C2, hcl0, hC2s, hC2q⟩ := clear2_run W1 0 blk (off + (i + (n - j)) * 2) (n - (i + (n - j))) (cap - (i + (n - j))) e C1 hW1h (by omega) (by omega)
  have hcl : ∀ ty, (Builtin.clear_ #[32] ty #[.slice (some ⟨blk, off + (i + (n - j)) * 2, none⟩) (n - (i + (n - j))) (cap - (i + (n - j)))]).run Tryz.prog W1 = .ok (.tuple #[]) (W1.setRow blk C2) := fun ty => hcl0
  have hW : Hid (W1 = w.drew.setCells blk (off + i * 2) news) := hW1
  have hfin : Hid (W1.setRow blk C2 = w.drew.setRow blk C2 ∧ C2.size = C.size ∧ ∀ q, q < (i + (n - j)) * 2 → C2[off + q]? = if q < i * 2 then C[off + q]? else C[off + q + (j - i) * 2]?) := by
    refine ⟨by rw [hW1, hC1, setRow_setRow], by omega, fun q hq => ?_⟩
    rw [hC2q _ (by omega), hC1q, hlen]
    by_cases h : q < i * 2
    · rw [if_pos h, if_neg (by omega)]
    · rw [if_neg h, if_pos (by omega), hget _ (by omega)]
      congr 1; omega
  have hic : i ≤ cap := by omega
  have hjc : j ≤ cap := by omega
  obtain ⟨i0, hi0, hz1⟩ : ∃ i0, Tryz.prog.info? 90 = some i0 ∧ i0.size = 2 := ⟨(Tryz.prog.info? 90).getD default, by kernel_rfl, by kernel_rfl⟩
  clear hW1 hW1h hC1 hC1s hC1q hC2s hC2q hcl0 hget hcell hnews hlen hone hC hCl
  have mixed : Tryz.prog.follows Departure.mixedOrders = true := by kernel_rfl
  go_enter Tryz.func134, Tryz.ntmps134
  go_wp2_with fail
  go_region_law_o (refine step_append_room rfl (.tmp 22) (.tmp 25) 32 rfl 90 i0 2 Tryz.underlying32 hi0 hz1 blk off i cap (by simp [Act.eval, Act.put]) A (n - j) (cap - j) news (by simp [Act.eval, Act.put]) s1.out hsrc.out s2.out (by omega) s3.out ?_; rw [← hW.out])
  go_wp2
  go_ret
  exact ⟨rfl, C2, hfin.out⟩
theorem delete_ok {rows : List AV} (hone : oneL (flat rows) = true) (i j : Nat) (hij : i < j) (hj : j ≤ rows.length) :
    FnOK Tryz.prog 134 [.live 2 rows false] [.own 0 0 rows.length, eInt i, eInt j] [.dead, .live 2 (rows.take i ++ rows.drop j) false] (.own 1 0 (i + (rows.length - j))) := by
  intro w W0 L vs hL hs hr
  obtain ⟨v0, v1, v2, rfl⟩ : ∃ v0 v1 v2, vs = [v0, v1, v2] := by
    have := hr.1
    match vs, this with
    | [a, b, c], _ => exact ⟨a, b, c, rfl⟩
  have h1 := hr.2 1 _ v1 rfl rfl
  have h2 := hr.2 2 _ v2 rfl rfl
  cases h1; cases h2
  have h0 := hr.2 0 _ v0 rfl rfl
  obtain ⟨B, hB, hobj⟩ := hs.objs 0 2 rows false rfl
  generalize hn : rows.length = n at h0
  cases h0 with
  | ownNil a1 => omega
  | @own _ _ _ cap e' n' B' a1 av ap a2 a3 a4 =>
    rw [hB] at a1; cases a1
    subst hn
    obtain ⟨C, e, fz, c1, c2, c3⟩ := hobj.blk av ap
    rw [c2 rfl] at c1
    have hwd := hobj.width
    have hn' : C.size = n' := by simp [World.shape?, c1] at a3; exact a3.2
    rw [hwd, Nat.zero_mul, Nat.add_zero]
    rw [hwd, Nat.zero_add] at a4
    have hfl := flat_length hobj.wide
    have hcell : ∀ (q : Nat) (c : AV), (flat rows)[q]? = some c → ∃ v, C[B.o + q]? = some v ∧ Rep (Wr W0 L (objsOf [.live 2 rows false])) L w c v := fun q c hq => by
      obtain ⟨v, k1, k2⟩ := hobj.cell ap q c hq
      exact ⟨v, by simpa [World.cell?, c1] using k1, k2⟩
    refine (f134_calls B.b B.o cap rows.length i j C e w c1 (by omega) a2 hij hj (fun q v hq hv => ?_)).mono ?_
    · obtain ⟨v', k1, k2⟩ := hcell q _ (List.getElem?_eq_getElem (by rw [hfl]; omega))
      rw [hv] at k1; cases k1
      exact k2.one (List.all_eq_true.1 hone _ (List.getElem_mem _))
    · rintro e2 w' ⟨rfl, C', rfl, hsz, hq⟩
      have hwide : Wide 2 (rows.take i ++ rows.drop j) := (hobj.wide.sub fun r hr => List.mem_of_mem_take hr).append (hobj.wide.sub fun r hr => List.mem_of_mem_drop hr)
      have hlen : (rows.take i ++ rows.drop j).length = i + (rows.length - j) := by simp; omega
      have hre := (hs.drawn (w.drawn + 1)).reuse (t := 0) (tn := 1) (off := 0) (rows' := rows.take i ++ rows.drop j) (C' := C') rfl hB av rfl c1 hsz hwide (by rw [hlen]; omega) (fun q c hc => by
        rw [flat_append, flat_take hobj.wide, flat_drop hobj.wide, List.getElem?_append, List.length_take, hfl, Nat.min_eq_left (by omega)] at hc
        have hlt := hq q
        rw [Nat.zero_mul, Nat.add_zero]
        split at hc
        · rename_i hql
          rw [List.getElem?_take, if_pos hql] at hc
          obtain ⟨v, k1, k2⟩ := hcell q c hc
          exact ⟨v, by rw [hq q (by omega), if_pos hql]; exact k1, k2.grow (Grow.drawn _)⟩
        · rename_i hql
          rw [List.getElem?_drop] at hc
          have hin := (List.getElem?_eq_some_iff.1 hc).1
          rw [hfl] at hin
          obtain ⟨v, k1, k2⟩ := hcell _ c hc
          refine ⟨v, ?_, k2.grow (Grow.drawn _)⟩
          rw [hq q (by omega), if_neg hql, ← k1]
          congr 1; omega)
      have hst : (⟨(bare [.live 2 rows false]).slots, updM (bare [.live 2 rows false]).mem [(1, .live 2 (rows.take i ++ rows.drop j) false), (0, .dead)]⟩ : AState) = bare [.dead, .live 2 (rows.take i ++ rows.drop j) false] := by
        unfold bare
        congr 1
        funext t
        match t with
        | 0 => rfl
        | 1 => rfl
        | t + 2 => simp [updM, objsOf]
      rw [hst] at hre
      refine ⟨_, _, rfl, hre, ?_⟩
      have := Rep.own (W := Wr W0 (setMu L 1 ⟨B.b, B.o + 0 * 2, 2, false, false⟩) (objsOf [.dead, .live 2 (rows.take i ++ rows.drop j) false])) (μ := setMu L 1 ⟨B.b, B.o + 0 * 2, 2, false, false⟩)
        (w := w.drew.setRow B.b C') (t := 1) (off := 0) (len := i + (rows.length - j)) (cap := cap) (e := e) (n := C.size) (B := ⟨B.b, B.o + 0 * 2, 2, false, false⟩) (by simp [setMu]) rfl rfl (by omega)
        (by simp [World.shape?, setRow_heap w.drew B.b C C' e (0, 0) c1, hsz]) (by simp only [Nat.zero_add]; omega)
      simpa using this
end Go.Proofs.Heir
namespace Go.Proofs.Heir
open Go.Am Go.RowKit Go.Lib
set_option maxRecDepth 100000
theorem f59_ok (l : List AttrM) (hl : l.length ≤ 100000) (n v : ByteArray) : FnOK Tryz.prog 59 [] [eAttrs l, eStr n, eStr v] [] (.tup [eAttrs (setA l n v).1, eInt (setA l n v).2]) := by
  have hlm : (l.map oAttr).length = l.length := List.length_map ..
  refine FnOK.startC (rvs := [.tmp 6, .tmp 7]) G G_good Tryz.func59 rfl Tryz.ntmps59 rfl rfl ?_; with_reducible refine wD ?_
  refine CallK.lit [] (f65_ok l hl n) c65 ⟨rfl, rfl, trivial⟩ rfl rfl ?_; with_reducible refine wK ?_
  refine CallK.new 201 [] (f123_ok l hl) c123 ⟨rfl, trivial⟩ rfl rfl rfl (attrs_outs l) rfl ?_; with_reducible refine wK ?_
  refine IfK.mk (fun h1 => ?_) (fun h1 => ?_) <;> (try simp only [castN] at h1) <;> with_reducible refine wK ?_
  · have e : setA l n v = (l, findE l n) := by unfold setA; rw [if_neg (by simpa using h1)]
    rw [e]
    (refine eK ?_ ?_ <;> with_reducible repeat' (first | exact trivial | (show _ ∧ _; refine aK ?_ ?_)))
    exact frz_attrs rfl rfl rfl rfl
  · have h1' : findE l n = 0 := by simpa using h1
    obtain ⟨hr, hn, hs⟩ := findE_zero h1'
    refine IfK.mk (fun h2 => ?_) (fun h2 => ?_) <;> (try simp only [castN] at h2) <;> with_reducible refine wK ?_
    · have e : setA l n v = (l, 3) := by unfold setA; rw [if_pos h1', if_neg (by simp only [decide_eq_true_eq] at h2; omega)]
      rw [e]
      (refine eK ?_ ?_ <;> with_reducible repeat' (first | exact trivial | (show _ ∧ _; refine aK ?_ ?_)))
      exact frz_attrs rfl rfl rfl rfl
    · have hv : v.size ≤ 200 := by simp only [decide_eq_false_iff_not] at h2; omega
      rcases findP_cases l n with h | ⟨k, a, h, ha, hnm⟩
      · simp only [h]
        refine IfK.no rfl ?_; with_reducible refine wK ?_
        refine IfK.mk (fun h3 => ?_) (fun h3 => ?_) <;> (try simp only [castN] at h3) <;> with_reducible refine wK ?_
        · have e : setA l n v = (l, 3) := by unfold setA; rw [if_pos h1', if_pos hv, h, if_neg (by decide), if_pos (by simp only [decide_eq_true_eq] at h3; omega)]
          rw [e]
          (refine eK ?_ ?_ <;> with_reducible repeat' (first | exact trivial | (show _ ∧ _; refine aK ?_ ?_)))
          exact frz_attrs rfl rfl rfl rfl
        · have e : setA l n v = (l ++ [⟨lowS n, v⟩], 0) := by unfold setA; rw [if_pos h1', if_pos hv, h, if_neg (by decide), if_neg (by simp only [decide_eq_false_iff_not] at h3; omega)]
          rw [e]
          simp only [hs]
          refine AppK.mk (l.map oAttr) [eAttr ⟨lowS n, v⟩] ⟨rfl, hlm.symm, rfl⟩ ⟨rfl, rfl, rfl⟩ rfl (by simp; omega) (by simp; omega) ?_; with_reducible refine wK ?_
          (refine eK ?_ ?_ <;> with_reducible repeat' (first | exact trivial | (show _ ∧ _; refine aK ?_ ?_)))
          exact frz_attrs rfl rfl (snoc_attrs l _ v) (by simp)
      · simp only [h]
        refine IfK.yes (decide_eq_true (by (try simp only [castN]); omega)) ?_; with_reducible refine wK ?_
        have hk := (List.getElem?_eq_some_iff.1 ha).1
        have e : setA l n v = (l.set k ⟨lowS n, v⟩, 0) := by unfold setA; rw [if_pos h1', if_pos hv, h, if_pos (by omega), Int.toNat_natCast]
        rw [e]
        refine LtK.mk k rfl hk ?_; with_reducible refine wK ?_
        obtain ⟨an, av⟩ := a
        refine ElemK.mk (eAttr ⟨an, av⟩) (by rw [Nat.zero_add]; exact attr_get ha) ?_; with_reducible refine wK ?_
        (refine eK ?_ ?_ <;> with_reducible repeat' (first | exact trivial | (show _ ∧ _; refine aK ?_ ?_)))
        simp only at hnm
        subst hnm
        exact frz_attrs rfl rfl (by rw [Nat.zero_add]; exact set_attrs l k _ v) (by simp)
end Go.Proofs.Heir
namespace Go.Proofs.Heir
open Go.Am Go.RowKit Go.Lib
set_option maxRecDepth 100000
set_option maxHeartbeats 8000000
def cutA (l : List AttrM) (k : Nat) : List AttrM := l.take k ++ l.drop (k + 1)
def removeA (l : List AttrM) (n : ByteArray) : List AttrM × Bool := if 0 ≤ findP l n then (cutA l (findP l n).toNat, true) else (l, false)
theorem cut_attrs (l : List AttrM) (k : Nat) : (l.map oAttr).take k ++ (l.map oAttr).drop (k + 1) = (cutA l k).map oAttr := by rw [cutA, List.map_append, List.map_take, List.map_drop]
theorem cutA_len {l : List AttrM} {k : Nat} (hk : k < l.length) : (cutA l k).length = k + (l.length - (k + 1)) := by simp [cutA]; omega
theorem f68_ok (l : List AttrM) (hl : l.length ≤ 100000) (n : ByteArray) : FnOK Tryz.prog 68 [] [eAttrs l, eStr n] [] (.tup [eAttrs (removeA l n).1, eBool (removeA l n).2]) := by
  have hlm : (l.map oAttr).length = l.length := List.length_map ..
  refine FnOK.startC (rvs := [.tmp 4, .tmp 5]) G G_good Tryz.func68 rfl Tryz.ntmps68 rfl rfl ?_; with_reducible refine wD ?_
  refine CallK.lit [] (f65_ok l hl n) c65 ⟨rfl, rfl, trivial⟩ rfl rfl ?_; with_reducible refine wK ?_
  refine CallK.new 181 [] (f123_ok l hl) c123 ⟨rfl, trivial⟩ rfl rfl rfl (attrs_outs l) rfl ?_; with_reducible refine wK ?_
  rcases findP_cases l n with h | ⟨k, a, h, ha, hnm⟩
  · simp only [h]
    refine IfK.yes rfl ?_; with_reducible refine wK ?_
    have e : removeA l n = (l, false) := by unfold removeA; rw [h, if_neg (by decide)]
    rw [e]
    (refine eK ?_ ?_ <;> with_reducible repeat' (first | exact trivial | (show _ ∧ _; refine aK ?_ ?_)))
    exact frz_attrs rfl rfl rfl rfl
  · simp only [h]
    have hk := (List.getElem?_eq_some_iff.1 ha).1
    refine IfK.no (decide_eq_false (by (try simp only [castN]); omega)) ?_; with_reducible refine wK ?_
    have e : removeA l n = (cutA l k, true) := by unfold removeA; rw [h, if_pos (by omega), Int.toNat_natCast]
    rw [e]
    refine nK ?_; with_reducible refine wK ?_
    refine CallK.lend (news := [.dead, .live 2 ((cutA l k).map oAttr) false]) [181, 261] [] (delete_ok (rows := l.map oAttr) (one_attrs l) k (k + 1) (by omega) (by omega)) c134 ⟨⟨rfl, hlm⟩, rfl, by show ((k + 1 : Nat) : Int) = (k : Int) + 1; omega, trivial⟩ ⟨⟨rfl, .inl ⟨rfl, noRef_attrs l⟩⟩, trivial⟩ rfl ⟨⟨rfl, rfl⟩, rfl⟩ rfl
      ⟨⟨rfl, .inl ⟨(cut_attrs l k).symm, by rw [cut_attrs]; exact noRef_attrs _⟩⟩, trivial⟩ rfl rfl ?_; with_reducible refine wK ?_
    (refine eK ?_ ?_ <;> with_reducible repeat' (first | exact trivial | (show _ ∧ _; refine aK ?_ ?_)))
    exact frz_attrs rfl rfl rfl (by rw [cutA_len hk, hlm])
def wantA (l : List AttrM) (n : ByteArray) (f : Int) : Bool := decide (0 < f) || (decide (f = 0) && !decide (0 ≤ findP l n))
def toggleA (l : List AttrM) (n : ByteArray) (f : Int) : List AttrM × Bool × Int :=
  if findE l n = 0 then
    (if wantA l n f = decide (0 ≤ findP l n) then (l, decide (0 ≤ findP l n), 0)
     else if wantA l n f = true then ((setA l n noS).1, decide ((setA l n noS).2 = 0), (setA l n noS).2) else ((removeA l n).1, false, 0))
  else (l, false, findE l n)
theorem f95_ok (l : List AttrM) (hl : l.length ≤ 100000) (n : ByteArray) (f : Int) : FnOK Tryz.prog 95 [] [eAttrs l, eStr n, eInt f] [] (.tup [eAttrs (toggleA l n f).1, eBool (toggleA l n f).2.1, eInt (toggleA l n f).2.2]) := by
  have hlm : (l.map oAttr).length = l.length := List.length_map ..
  refine FnOK.startC (rvs := [.tmp 6, .tmp 7, .tmp 8]) G G_good Tryz.func95 rfl Tryz.ntmps95 rfl rfl ?_; with_reducible refine wD ?_
  refine CallK.lit [] (f65_ok l hl n) c65 ⟨rfl, rfl, trivial⟩ rfl rfl ?_; with_reducible refine wK ?_
  obtain ⟨P, hP⟩ : ∃ P, decide (0 ≤ findP l n) = P := ⟨_, rfl⟩
  obtain ⟨E, hE⟩ : ∃ E, decide (findE l n = 0) = E := ⟨_, rfl⟩
  obtain ⟨F0, h0⟩ : ∃ F0, decide (0 < f) = F0 := ⟨_, rfl⟩
  obtain ⟨Fz, hz⟩ : ∃ Fz, decide (f = 0) = Fz := ⟨_, rfl⟩
  have b1 : (!decide (findE l n = 0)) = !E := by rw [hE]
  have b2 : (!decide (0 ≤ findP l n)) = !P := by rw [hP]
  have b3 : (true == decide (0 ≤ findP l n)) = P := by rw [hP]; cases P <;> rfl
  have b4 : (false == decide (0 ≤ findP l n)) = !P := by rw [hP]; cases P <;> rfl
  have b5 : ((!decide (0 ≤ findP l n)) == decide (0 ≤ findP l n)) = false := by rw [hP]; cases P <;> rfl
  have hw : wantA l n f = (F0 || (Fz && !P)) := by unfold wantA; rw [h0, hz, hP]
  have ht : toggleA l n f = if E = true then (if (F0 || (Fz && !P)) = P then (l, P, 0) else if (F0 || (Fz && !P)) = true then ((setA l n noS).1, decide ((setA l n noS).2 = 0), (setA l n noS).2) else ((removeA l n).1, false, 0)) else (l, false, findE l n) := by
    unfold toggleA
    rw [hw, hP]
    cases E with
    | true => rw [if_pos (of_decide_eq_true hE), if_pos rfl]
    | false => rw [if_neg (of_decide_eq_false hE), if_neg (by decide)]
  rw [ht]
  clear ht hw
  cases E <;> cases P <;> cases F0 <;> cases Fz
  all_goals first
    | (exfalso; simp only [decide_eq_true_eq] at h0 hz; omega)
    | skip
  all_goals (repeat' (first
    | ((with_reducible show IfK _ _ _ _); first | refine iK ?_ | (refine IfK.mk (fun _ => ?_) (fun _ => ?_) <;> with_reducible refine wK ?_))
    | ((with_reducible show CallK _ _ 123 _ _ _ _); refine CallK.new 411 [] (f123_ok l hl) c123 ⟨rfl, trivial⟩ rfl rfl rfl (attrs_outs l) rfl ?_; with_reducible refine wK ?_)
    | ((with_reducible show CallK _ _ 59 _ _ _ _); refine CallK.val [] (f59_ok l hl n noS) c59 ⟨rfl, rfl, rfl, trivial⟩ rfl rfl rfl ?_; with_reducible refine wK ?_)
    | ((with_reducible show CallK _ _ 68 _ _ _ _); refine CallK.val [] (f68_ok l hl n) c68 ⟨rfl, rfl, trivial⟩ rfl rfl rfl ?_; with_reducible refine wK ?_)
    | ((with_reducible show (_ ∧ _) ∧ _ ∧ _); (refine eK ?_ ?_ <;> with_reducible repeat' (first | exact trivial | (show _ ∧ _; refine aK ?_ ?_))))))
  all_goals first
    | exact frz_attrs rfl rfl rfl rfl
    | rfl
    | assumption
    | exact hP.symm
    | exact hP
    | trace_state
end Go.Proofs.Heir
namespace Go.Proofs.Heir
open Go.Am Go.RowKit Go.Lib
set_option maxRecDepth 100000
theorem f100_ok (l : List AttrM) (hl : l.length ≤ 100000) (n : ByteArray) : FnOK Tryz.prog 100 [] [eAttrs l, eStr n] [] (.tup [eStr (getS l n), eBool (decide (0 ≤ findP l n))]) := by
  have hlm : (l.map oAttr).length = l.length := List.length_map ..
  refine FnOK.startC (rvs := [.tmp 4, .tmp 5]) G G_good Tryz.func100 rfl Tryz.ntmps100 rfl rfl ?_; with_reducible refine wD ?_
  refine CallK.lit [] (f153_ok l hl) c153 ⟨rfl, trivial⟩ rfl rfl ?_; with_reducible refine wK ?_
  have bad : findP l n = -1 → getS l n = noS ∧ decide (0 ≤ findP l n) = false := by
    intro h
    unfold getS
    rw [h]
    exact ⟨rfl, rfl⟩
  have cs : findP l n = -1 ∨ ∃ (k : Nat) (a : AttrM), findP l n = k ∧ l[k]? = some a ∧ a.name = lowS n := findP_cases l n
  cases h1 : rightA l with
  | false =>
    have b := bad (findP_bad (.inl h1))
    rw [b.1, b.2]
    repeat' (first
    | ((with_reducible show IfK _ _ _ _); first | refine iK ?_ | (refine IfK.mk (fun _ => ?_) (fun _ => ?_) <;> with_reducible refine wK ?_))
    | ((with_reducible show (_ ∧ _) ∧ _ ∧ _); (refine eK ?_ ?_ <;> with_reducible repeat' (first | exact trivial | (show _ ∧ _; refine aK ?_ ?_)))))
    all_goals rfl
  | true =>
    cases h2 : rightS n with
    | false =>
      have b := bad (findP_bad (.inr h2))
      rw [b.1, b.2]
      repeat' (first
    | ((with_reducible show IfK _ _ _ _); first | refine iK ?_ | (refine IfK.mk (fun _ => ?_) (fun _ => ?_) <;> with_reducible refine wK ?_))
    | ((with_reducible show CallK _ _ 98 _ _ _ _); refine CallK.lit [] (f98_ok _) c98 ⟨rfl, trivial⟩ rfl rfl ?_; with_reducible refine wK ?_)
    | ((with_reducible show (_ ∧ _) ∧ _ ∧ _); (refine eK ?_ ?_ <;> with_reducible repeat' (first | exact trivial | (show _ ∧ _; refine aK ?_ ?_)))))
      all_goals rfl
    | true =>
      have hsm := right_small (s := n) (by rw [h2]; rfl)
      have hp := findP_ref h1 h2
      rcases cs with h | ⟨k, a, h, ha, hn⟩
      · have b := bad h
        rw [b.1, b.2]
        have hq : decide (posA l (lowS n) < 0) = true := by rw [← hp, h]; rfl
        repeat' (first
    | ((with_reducible show IfK _ _ _ _); first | refine iK ?_ | (refine IfK.mk (fun _ => ?_) (fun _ => ?_) <;> with_reducible refine wK ?_))
    | ((with_reducible show CallK _ _ 98 _ _ _ _); refine CallK.lit [] (f98_ok _) c98 ⟨rfl, trivial⟩ rfl rfl ?_; with_reducible refine wK ?_)
    | ((with_reducible show CallK _ _ 151 _ _ _ _); refine CallK.lit [] (f151_ok _ hsm) c151 ⟨rfl, trivial⟩ rfl rfl ?_; with_reducible refine wK ?_)
    | ((with_reducible show CallK _ _ 162 _ _ _ _); refine CallK.lit [] (f162_ok l hl _) c162 ⟨rfl, rfl, trivial⟩ rfl rfl ?_; with_reducible refine wK ?_)
    | ((with_reducible show (_ ∧ _) ∧ _ ∧ _); (refine eK ?_ ?_ <;> with_reducible repeat' (first | exact trivial | (show _ ∧ _; refine aK ?_ ?_)))))
        all_goals rfl
      · have hq : decide (posA l (lowS n) < 0) = false := by rw [← hp, h]; exact decide_eq_false (by omega)
        have e1 : getS l n = a.value := by unfold getS; rw [h, if_pos (by omega), Int.toNat_natCast, ha]; rfl
        have e2 : decide (0 ≤ findP l n) = true := by rw [h]; exact decide_eq_true (by omega)
        rw [e1, e2]
        have hk : posA l (lowS n) = (k : Int) := by rw [← hp, h]
        obtain ⟨an, av⟩ := a
        repeat' (first
    | ((with_reducible show IfK _ _ _ _); first | refine iK ?_ | (refine IfK.mk (fun _ => ?_) (fun _ => ?_) <;> with_reducible refine wK ?_))
    | ((with_reducible show CallK _ _ 98 _ _ _ _); refine CallK.lit [] (f98_ok _) c98 ⟨rfl, trivial⟩ rfl rfl ?_; with_reducible refine wK ?_)
    | ((with_reducible show CallK _ _ 151 _ _ _ _); refine CallK.lit [] (f151_ok _ hsm) c151 ⟨rfl, trivial⟩ rfl rfl ?_; with_reducible refine wK ?_)
    | ((with_reducible show CallK _ _ 162 _ _ _ _); refine CallK.lit [] (f162_ok l hl _) c162 ⟨rfl, rfl, trivial⟩ rfl rfl ?_; with_reducible refine wK ?_)
    | ((with_reducible show IdxK _ _ _ _ _); refine IdxK.mk k (eAttr ⟨an, av⟩) hk (attr_get ha) ?_; with_reducible refine wK ?_)
    | ((with_reducible show (_ ∧ _) ∧ _ ∧ _); (refine eK ?_ ?_ <;> with_reducible repeat' (first | exact trivial | (show _ ∧ _; refine aK ?_ ?_)))))
end Go.Proofs.Heir
namespace Go.Proofs.Heir
open Go.Am Go.RowKit Go.Lib
set_option maxRecDepth 100000
set_option maxHeartbeats 8000000
def attrEq (a b : AttrM) : Bool := (a.name.toList == b.name.toList) && (a.value.toList == b.value.toList)
theorem attr_eq (a b : AttrM) (w : World) : (Op.equalIn 10000 90 (.agg #[.string a.name, .string a.value]) (.agg #[.string b.name, .string b.value])).run Tryz.prog w = .ok (attrEq a b) w := by
  have hS : Tryz.prog.underlying 90 = some (.struct (Tryz.prog.fieldsOf 90)) := by kernel_rfl
  have hp : Tryz.prog.stoodInHeld 90 = false := by kernel_rfl
  have u9 := Tryz.underlying9
  have a9 := Tryz.isAgg9
  have z9 := Tryz.sizeOf9
  rw [show (10000 : Nat) = 9999 + 1 from rfl, run_equalIn_agg w 9999 90 _ _ hS hp]
  clear hS hp
  simp only [Program.fieldsOf, Tryz.underlying90]
  go_simp
  clear u9 a9 z9
  unfold attrEq
  by_cases h1 : a.name.toList = b.name.toList <;> by_cases h2 : a.value.toList = b.value.toList <;> simp [h1, h2]
theorem bytes_inj {a b : ByteArray} (h : a.toList = b.toList) : a = b := by
  rw [ByteArray.toList_eq, ByteArray.toList_eq] at h
  cases a; cases b
  simp only [ByteArray.mk.injEq]
  exact Array.toList_inj.1 h
theorem attrEq_iff (a b : AttrM) : attrEq a b = decide (a = b) := by
  rw [Bool.eq_iff_iff, decide_eq_true_eq]
  unfold attrEq
  simp only [Bool.and_eq_true, beq_iff_eq]
  constructor
  · rintro ⟨h1, h2⟩
    cases a; cases b
    simp only at *
    rw [bytes_inj h1, bytes_inj h2]
  · rintro rfl; simp
theorem attr_neq (a b : AttrM) (y z : Operand) (w : World) : ((do eqGuard .neq 90 y z (.agg #[.string a.name, .string a.value]) (.agg #[.string b.name, .string b.value]); binOp .neq 90 (.agg #[.string a.name, .string a.value]) (.agg #[.string b.name, .string b.value]) : Sem Value)).run Tryz.prog w = .ok (.bool (!decide (a = b))) w := by
  rw [Sem.run_bind, run_eqGuard_agg w .neq 90 y z _ _ (by kernel_rfl), Result.andThen_ok, run_neq_struct, attr_eq, attrEq_iff]; rfl
theorem f146_ok (x y : List AttrM) (hx : x.length ≤ 100000) : FnOK Tryz.prog 146 [] [eAttrs x, eAttrs y] [] (eBool (decide (x = y))) := by
  have hlx : (x.map oAttr).length = x.length := List.length_map ..
  have hly : (y.map oAttr).length = y.length := List.length_map ..
  refine FnOK.startC (rvs := [.tmp 4]) G G_good Tryz.func146 rfl Tryz.ntmps146 rfl rfl ?_; with_reducible refine wD ?_
  refine IfK.mk (fun h0 => ?_) (fun h0 => ?_) <;> (try simp only [castN] at h0) <;> with_reducible refine wK ?_
  · (refine eK ?_ ?_ <;> with_reducible repeat' (first | exact trivial | (show _ ∧ _; refine aK ?_ ?_)))
    have : x ≠ y := by
      rintro rfl
      simp at h0
    exact decide_eq_false this
  · have hxy : x.length = y.length := by simp only [hlx, hly, Bool.not_eq_false', decide_eq_true_eq] at h0; omega
    refine LoopK.use G G_good (fun (k : Nat) => [(0, eAttrs x), (1, eAttrs y), (5, eInt k)]) (fun _ => []) (fun k => k ≤ x.length ∧ ∀ (j : Nat), j < k → x[j]? = y[j]?) (fun k => x.length - k) 0 ⟨Nat.zero_le _, fun j h => by omega⟩
      ⟨⟨rfl, rfl⟩, ⟨rfl, rfl, rfl, trivial⟩, trivial⟩ ?_
    rintro k ⟨hk, hok⟩
    with_reducible refine wK ?_
    refine IfK.mk (fun h1 => ?_) (fun h1 => ?_) <;> (try simp only [castN] at h1) <;> with_reducible refine wK ?_
    · simp only [decide_eq_true_eq] at h1
      have hk' : k < x.length := by omega
      obtain ⟨⟨an, av⟩, ha⟩ : ∃ a, x[k]? = some a := ⟨_, List.getElem?_eq_getElem hk'⟩
      obtain ⟨⟨bn, bv⟩, hb⟩ : ∃ a, y[k]? = some a := ⟨_, List.getElem?_eq_getElem (by omega)⟩
      refine IdxK.mk k (eAttr ⟨an, av⟩) rfl (attr_get ha) ?_; with_reducible refine wK ?_
      refine IdxK.mk k (eAttr ⟨bn, bv⟩) rfl (attr_get hb) ?_; with_reducible refine wK ?_
      refine EqK.mk _ (fun y z w => attr_neq ⟨an, av⟩ ⟨bn, bv⟩ y z w) ?_; with_reducible refine wK ?_
      refine dK ?_; with_reducible refine wK ?_
      refine IfK.mk (fun h2 => ?_) (fun h2 => ?_) <;> (try simp only [castN] at h2) <;> with_reducible refine wK ?_
      · (refine eK ?_ ?_ <;> with_reducible repeat' (first | exact trivial | (show _ ∧ _; refine aK ?_ ?_)))
        have : x ≠ y := by
          rintro rfl
          rw [ha] at hb; cases hb
          simp at h2
        exact decide_eq_false this
      · have he : (⟨an, av⟩ : AttrM) = ⟨bn, bv⟩ := by simpa using h2
        refine nK ?_; with_reducible refine wK ?_
        refine NextK.mk (k + 1) ⟨by omega, fun j hj => ?_⟩ (by omega) ⟨⟨rfl, rfl⟩, ⟨rfl, rfl, by show ((k + 1 : Nat) : Int) = (k : Int) + 1; omega, trivial⟩, trivial⟩
        rcases Nat.lt_or_ge j k with h6 | h6
        · exact hok j h6
        · have : j = k := by omega
          subst this
          rw [ha, hb, he]
    · (refine eK ?_ ?_ <;> with_reducible repeat' (first | exact trivial | (show _ ∧ _; refine aK ?_ ?_)))
      have hk2 : k = x.length := by simp only [hlx, decide_eq_false_iff_not] at h1; omega
      refine decide_eq_true (List.ext_getElem? fun j => ?_)
      rcases Nat.lt_or_ge j x.length with h6 | h6
      · exact hok j (by omega)
      · rw [List.getElem?_eq_none h6, List.getElem?_eq_none (by omega)]
theorem f96_ok (l : List AttrM) (hl : l.length ≤ 100000) (n v : ByteArray) : FnOK Tryz.prog 96 [] [eAttrs l, eStr n, eStr v] [] (.tup [eAttrs (setA l n v).1, eInt (setA l n v).2]) := by
  have hlm : (l.map oAttr).length = l.length := List.length_map ..
  refine FnOK.startC (rvs := [.tmp 6, .tmp 7]) G G_good Tryz.func96 rfl Tryz.ntmps96 rfl rfl ?_; with_reducible refine wD ?_
  refine CallK.lit [] (f153_ok l hl) c153 ⟨rfl, trivial⟩ rfl rfl ?_; with_reducible refine wK ?_
  cases h1 : rightA l with
  | false =>
    have e : setA l n v = (l, 1) := by simp [setA, findE, h1]
    rw [e]
    repeat' (first
    | ((with_reducible show IfK _ _ _ _); first | refine iK ?_ | (refine IfK.mk (fun _ => ?_) (fun _ => ?_) <;> with_reducible refine wK ?_))
    | ((with_reducible show (_ ∧ _) ∧ _ ∧ _); (refine eK ?_ ?_ <;> with_reducible repeat' (first | exact trivial | (show _ ∧ _; refine aK ?_ ?_)))))
  | true =>
    cases h2 : rightS n with
    | false =>
      have e : setA l n v = (l, 4) := by simp [setA, findE, h1, h2]
      rw [e]
      repeat' (first
    | ((with_reducible show IfK _ _ _ _); first | refine iK ?_ | (refine IfK.mk (fun _ => ?_) (fun _ => ?_) <;> with_reducible refine wK ?_))
    | ((with_reducible show CallK _ _ 98 _ _ _ _); refine CallK.lit [] (f98_ok _) c98 ⟨rfl, trivial⟩ rfl rfl ?_; with_reducible refine wK ?_)
    | ((with_reducible show (_ ∧ _) ∧ _ ∧ _); (refine eK ?_ ?_ <;> with_reducible repeat' (first | exact trivial | (show _ ∧ _; refine aK ?_ ?_)))))
    | true =>
      have hsm := right_small (s := n) (by rw [h2]; rfl)
      have hp := findP_ref h1 h2
      have h40 : l.length ≤ 40 := by
        unfold rightA at h1
        simp only [Bool.and_eq_true, decide_eq_true_eq] at h1
        exact h1.1.1
      have hE : findE l n = 0 := by simp [findE, h1, h2]
      have hlt : ∀ b, decide (posA l (lowS n) < 0) = b → decide (0 ≤ posA l (lowS n)) = !b := by
        intro b hb
        rw [← hb]
        rcases Int.lt_or_le (posA l (lowS n)) 0 with h | h
        · rw [decide_eq_true h, decide_eq_false (show ¬ 0 ≤ posA l (lowS n) by omega)]; rfl
        · rw [decide_eq_false (show ¬ posA l (lowS n) < 0 by omega), decide_eq_true h]; rfl
      by_cases hv : v.size ≤ 200
      · have b1 : decide ((200 : Int) < (v.size : Int)) = false := decide_eq_false (by omega)
        rcases findP_cases l n with h | ⟨k, a, h, ha, hnm⟩
        · rw [hp] at h
          have b2 : decide (posA l (lowS n) < 0) = true := by rw [h]; rfl
          have b3 := hlt _ b2
          by_cases h4 : l.length = 40
          · have b4 : decide ((40 : Int) ≤ ((l.map oAttr).length : Int)) = true := decide_eq_true (by omega)
            have e : setA l n v = (l, 3) := by simp [setA, hE, hp, h, hv, h4]
            rw [e]
            repeat' (first
    | ((with_reducible show IfK _ _ _ _); first | refine iK ?_ | (refine IfK.mk (fun _ => ?_) (fun _ => ?_) <;> with_reducible refine wK ?_))
    | ((with_reducible show CallK _ _ 98 _ _ _ _); refine CallK.lit [] (f98_ok _) c98 ⟨rfl, trivial⟩ rfl rfl ?_; with_reducible refine wK ?_)
    | ((with_reducible show CallK _ _ 151 _ _ _ _); refine CallK.lit [] (f151_ok _ hsm) c151 ⟨rfl, trivial⟩ rfl rfl ?_; with_reducible refine wK ?_)
    | ((with_reducible show CallK _ _ 162 _ _ _ _); refine CallK.lit [] (f162_ok l hl _) c162 ⟨rfl, rfl, trivial⟩ rfl rfl ?_; with_reducible refine wK ?_)
    | ((with_reducible show (_ ∧ _) ∧ _ ∧ _); (refine eK ?_ ?_ <;> with_reducible repeat' (first | exact trivial | (show _ ∧ _; refine aK ?_ ?_)))))
          · have b4 : decide ((40 : Int) ≤ ((l.map oAttr).length : Int)) = false := decide_eq_false (by omega)
            have e : setA l n v = (l ++ [⟨lowS n, v⟩], 0) := by simp [setA, hE, hp, h, hv, h4]
            rw [e]
            repeat' (first
    | ((with_reducible show IfK _ _ _ _); first | refine iK ?_ | (refine IfK.mk (fun _ => ?_) (fun _ => ?_) <;> with_reducible refine wK ?_))
    | ((with_reducible show CallK _ _ 98 _ _ _ _); refine CallK.lit [] (f98_ok _) c98 ⟨rfl, trivial⟩ rfl rfl ?_; with_reducible refine wK ?_)
    | ((with_reducible show CallK _ _ 151 _ _ _ _); refine CallK.lit [] (f151_ok _ hsm) c151 ⟨rfl, trivial⟩ rfl rfl ?_; with_reducible refine wK ?_)
    | ((with_reducible show CallK _ _ 162 _ _ _ _); refine CallK.lit [] (f162_ok l hl _) c162 ⟨rfl, rfl, trivial⟩ rfl rfl ?_; with_reducible refine wK ?_)
    | ((with_reducible show AppK _ _ _ _ _ _ _ _ _ _); refine AppK.mk [] (l.map oAttr) ⟨rfl, rfl, rfl⟩ ⟨rfl, rfl, rfl⟩ (one_attrs l) (by simp; omega) (by simp; omega) ?_; with_reducible refine wK ?_)
    | ((with_reducible show AppK _ _ _ _ _ _ _ _ _ _); refine AppK.mk ([] ++ l.map oAttr) [eAttr ⟨lowS n, v⟩] ⟨rfl, rfl, rfl⟩ ⟨rfl, rfl, rfl⟩ rfl (by simp; omega) (by simp; omega) ?_; with_reducible refine wK ?_)
    | ((with_reducible show (_ ∧ _) ∧ _ ∧ _); (refine eK ?_ ?_ <;> with_reducible repeat' (first | exact trivial | (show _ ∧ _; refine aK ?_ ?_)))))
            all_goals exact frz_attrs rfl rfl (snoc_attrs l (lowS n) v) (by simp)
        · rw [hp] at h
          have b2 : decide (posA l (lowS n) < 0) = false := by rw [h]; exact decide_eq_false (by omega)
          have b3 := hlt _ b2
          have hk := (List.getElem?_eq_some_iff.1 ha).1
          have e : setA l n v = (l.set k ⟨lowS n, v⟩, 0) := by simp [setA, hE, hp, h, hv]
          rw [e]
          obtain ⟨an, av⟩ := a
          simp only at hnm
          subst hnm
          repeat' (first
    | ((with_reducible show IfK _ _ _ _); first | refine iK ?_ | (refine IfK.mk (fun _ => ?_) (fun _ => ?_) <;> with_reducible refine wK ?_))
    | ((with_reducible show CallK _ _ 98 _ _ _ _); refine CallK.lit [] (f98_ok _) c98 ⟨rfl, trivial⟩ rfl rfl ?_; with_reducible refine wK ?_)
    | ((with_reducible show CallK _ _ 151 _ _ _ _); refine CallK.lit [] (f151_ok _ hsm) c151 ⟨rfl, trivial⟩ rfl rfl ?_; with_reducible refine wK ?_)
    | ((with_reducible show CallK _ _ 162 _ _ _ _); refine CallK.lit [] (f162_ok l hl _) c162 ⟨rfl, rfl, trivial⟩ rfl rfl ?_; with_reducible refine wK ?_)
    | ((with_reducible show AppK _ _ _ _ _ _ _ _ _ _); refine AppK.mk [] (l.map oAttr) ⟨rfl, rfl, rfl⟩ ⟨rfl, rfl, rfl⟩ (one_attrs l) (by simp; omega) (by simp; omega) ?_; with_reducible refine wK ?_)
    | ((with_reducible show LtK _ _ _ _ _); refine LtK.mk k h (by simp; omega) ?_; with_reducible refine wK ?_)
    | ((with_reducible show ElemK _ _ _ _ _); refine ElemK.mk (eAttr ⟨lowS n, av⟩) (by rw [Nat.zero_add]; exact attr_get ha) ?_; with_reducible refine wK ?_)
    | ((with_reducible show (_ ∧ _) ∧ _ ∧ _); (refine eK ?_ ?_ <;> with_reducible repeat' (first | exact trivial | (show _ ∧ _; refine aK ?_ ?_)))))
          all_goals exact frz_attrs rfl rfl (by rw [Nat.zero_add]; exact set_attrs l k _ v) (by simp)
      · have b1 : decide ((200 : Int) < (v.size : Int)) = true := decide_eq_true (by omega)
        have e : setA l n v = (l, 3) := by simp [setA, hE, hv]
        rw [e]
        repeat' (first
    | ((with_reducible show IfK _ _ _ _); first | refine iK ?_ | (refine IfK.mk (fun _ => ?_) (fun _ => ?_) <;> with_reducible refine wK ?_))
    | ((with_reducible show CallK _ _ 98 _ _ _ _); refine CallK.lit [] (f98_ok _) c98 ⟨rfl, trivial⟩ rfl rfl ?_; with_reducible refine wK ?_)
    | ((with_reducible show CallK _ _ 151 _ _ _ _); refine CallK.lit [] (f151_ok _ hsm) c151 ⟨rfl, trivial⟩ rfl rfl ?_; with_reducible refine wK ?_)
    | ((with_reducible show CallK _ _ 162 _ _ _ _); refine CallK.lit [] (f162_ok l hl _) c162 ⟨rfl, rfl, trivial⟩ rfl rfl ?_; with_reducible refine wK ?_)
    | ((with_reducible show (_ ∧ _) ∧ _ ∧ _); (refine eK ?_ ?_ <;> with_reducible repeat' (first | exact trivial | (show _ ∧ _; refine aK ?_ ?_)))))
def restA (l : List AttrM) (n : ByteArray) : List AttrM := l.filter (fun a => !hasName n a)
theorem restA_snoc {l : List AttrM} {n : ByteArray} {k : Nat} {a : AttrM} (h : l[k]? = some a) : restA (l.take (k + 1)) n = if hasName n a = true then restA (l.take k) n else restA (l.take k) n ++ [a] := by
  have hk := (List.getElem?_eq_some_iff.1 h).1
  rw [List.take_succ_eq_append_getElem hk, (List.getElem?_eq_some_iff.1 h).2]
  unfold restA
  rw [List.filter_append]
  cases hh : hasName n a <;> simp [hh]
theorem restA_len (l : List AttrM) (n : ByteArray) (k : Nat) : (restA (l.take k) n).length ≤ k := by
  unfold restA
  refine Nat.le_trans (List.length_filter_le ..) ?_
  simp; omega
theorem f99_ok (l : List AttrM) (hl : l.length ≤ 100000) (n : ByteArray) : FnOK Tryz.prog 99 [] [eAttrs l, eStr n] [] (.tup [eAttrs (if 0 ≤ findP l n then restA l (lowS n) else l), eBool (decide (0 ≤ findP l n))]) := by
  have hlm : (l.map oAttr).length = l.length := List.length_map ..
  refine FnOK.startC (rvs := [.tmp 4, .tmp 5]) G G_good Tryz.func99 rfl Tryz.ntmps99 rfl rfl ?_; with_reducible refine wD ?_
  refine CallK.lit [] (f100_ok l hl n) c100 ⟨rfl, rfl, trivial⟩ rfl rfl ?_; with_reducible refine wK ?_
  refine IfK.mk (fun h0 => ?_) (fun h0 => ?_) <;> (try simp only [castN] at h0) <;> with_reducible refine wK ?_
  · have h : ¬ 0 ≤ findP l n := by simpa using h0
    rw [if_neg h]
    (refine eK ?_ ?_ <;> with_reducible repeat' (first | exact trivial | (show _ ∧ _; refine aK ?_ ?_)))
    exact decide_eq_false h
  · have h : 0 ≤ findP l n := by simpa using h0
    rw [if_pos h]
    have hsm : n.size ≤ 100000 := right_small (s := n) (by have := (findE_zero (findE_pos h).1).2.1; rw [this]; rfl)
    refine LoopK.ghost 8 81 2 rfl rfl ?_
    refine LoopK.use G G_good (fun (k : Nat) => [(0, eAttrs l), (1, eStr n), (8, .own 81 0 (restA (l.take k) (lowS n)).length), (9, eInt k)]) (fun k => [(81, rAttrs (restA (l.take k) (lowS n)))]) (fun k => k ≤ l.length) (fun k => l.length - k) 0 (Nat.zero_le _)
      ⟨⟨rfl, rfl⟩, ⟨rfl, rfl, ⟨rfl, rfl⟩, rfl, trivial⟩, ⟨.refl rfl, rfl⟩, trivial⟩ ?_
    intro k hk
    with_reducible refine wK ?_
    refine IfK.mk (fun h1 => ?_) (fun h1 => ?_) <;> (try simp only [castN] at h1) <;> with_reducible refine wK ?_
    · simp only [decide_eq_true_eq] at h1
      have hk' : k < l.length := by omega
      obtain ⟨⟨an, av⟩, ha⟩ : ∃ a, l[k]? = some a := ⟨_, List.getElem?_eq_getElem hk'⟩
      have hln := restA_len l (lowS n) k
      have hs := restA_snoc (n := lowS n) ha
      refine IdxK.mk k (eAttr ⟨an, av⟩) rfl (attr_get ha) ?_; with_reducible refine wK ?_
      refine CallK.lit [] (f151_ok _ hsm) c151 ⟨rfl, trivial⟩ rfl rfl ?_; with_reducible refine wK ?_
      refine dK ?_; with_reducible refine wK ?_
      have hrl : ((restA (l.take k) (lowS n)).map oAttr).length = (restA (l.take k) (lowS n)).length := List.length_map ..
      refine IfK.mk (fun h2 => ?_) (fun h2 => ?_) <;> (try simp only [castN] at h2) <;> with_reducible refine wK ?_
      · have hn : hasName (lowS n) ⟨an, av⟩ = false := by unfold hasName; simpa using h2
        rw [hn, if_neg (by decide)] at hs
        refine IdxK.mk k (eAttr ⟨an, av⟩) rfl (attr_get ha) ?_; with_reducible refine wK ?_
        refine AppK.mk ((restA (l.take k) (lowS n)).map oAttr) [eAttr ⟨an, av⟩] ⟨rfl, hrl.symm, rfl⟩ ⟨rfl, rfl, rfl⟩ rfl (by simp; omega) (by simp; omega) ?_; with_reducible refine wK ?_
        refine nK ?_; with_reducible refine wK ?_
        refine NextK.mk (k + 1) (by omega) (by omega) ⟨⟨rfl, rfl⟩, ⟨rfl, rfl, ⟨rfl, ?_⟩, by show ((k + 1 : Nat) : Int) = (k : Int) + 1; omega, trivial⟩, ⟨?_, noRef_attrs _⟩, trivial⟩
        · rw [hs]; simp
        · rw [hs, ← snoc_attrs]; exact .refl (by rw [snoc_attrs]; exact noRef_attrs _)
      · have hn : hasName (lowS n) ⟨an, av⟩ = true := by unfold hasName; simpa using h2
        rw [hn, if_pos rfl] at hs
        refine nK ?_; with_reducible refine wK ?_
        refine NextK.mk (k + 1) (by omega) (by omega) ⟨⟨rfl, rfl⟩, ⟨rfl, rfl, ⟨rfl, ?_⟩, by show ((k + 1 : Nat) : Int) = (k : Int) + 1; omega, trivial⟩, ⟨?_, noRef_attrs _⟩, trivial⟩
        · rw [hs]
        · rw [hs]; exact .refl (noRef_attrs _)
    · (refine eK ?_ ?_ <;> with_reducible repeat' (first | exact trivial | (show _ ∧ _; refine aK ?_ ?_)))
      · have hkl : k = l.length := by simp only [hlm, decide_eq_false_iff_not] at h1; omega
        subst hkl
        rw [List.take_length]
        exact frz_attrs rfl rfl rfl rfl
      · exact decide_eq_true h
theorem filter_cut {l : List AttrM} {n : ByteArray} {k : Nat} {a : AttrM} (hn : (l.map AttrM.name).Nodup) (ha : l[k]? = some a) (hk : a.name = n) : restA l n = cutA l k := by
  unfold restA cutA
  have hlt := (List.getElem?_eq_some_iff.1 ha).1
  have hget := (List.getElem?_eq_some_iff.1 ha).2
  have hsplit : l = l.take k ++ a :: l.drop (k + 1) := by
    rw [← hget, List.getElem_cons_drop, List.take_append_drop]
  have hne : ∀ x, x ∈ l.take k ++ l.drop (k + 1) → hasName n x = false := by
    intro x hx
    rw [hsplit] at hn
    simp only [List.map_append, List.map_cons] at hn
    obtain ⟨_, h2, h3⟩ := List.nodup_append.1 hn
    rw [List.nodup_cons] at h2
    simp only [hasName, decide_eq_false_iff_not]
    intro e
    rcases List.mem_append.1 hx with hx | hx
    · exact h3 x.name (List.mem_map.2 ⟨x, hx, rfl⟩) a.name (by simp) (by rw [e, hk])
    · exact h2.1 (List.mem_map.2 ⟨x, hx, by rw [e, hk]⟩)
  have key : (l.take k ++ a :: l.drop (k + 1)).filter (fun x => !hasName n x) = l.take k ++ l.drop (k + 1) := by
    rw [List.filter_append, List.filter_cons]
    have h1 : hasName n a = true := by simp [hasName, hk]
    rw [h1]
    simp only [Bool.not_true, Bool.false_eq_true, if_false]
    rw [List.filter_eq_self.2 (fun x hx => by rw [hne x (List.mem_append_left _ hx)]; rfl), List.filter_eq_self.2 (fun x hx => by rw [hne x (List.mem_append_right _ hx)]; rfl)]
  rw [← hsplit] at key
  exact key
theorem rest_remove (l : List AttrM) (n : ByteArray) : (if 0 ≤ findP l n then restA l (lowS n) else l) = (removeA l n).1 := by
  unfold removeA
  rcases findP_cases l n with h | ⟨k, a, h, ha, hn⟩
  · rw [h]; rfl
  · rw [h, if_pos (by omega), if_pos (by omega), Int.toNat_natCast]
    have hr := (findE_zero (findE_pos (l := l) (n := n) (by omega)).1).1
    unfold rightA at hr
    simp only [Bool.and_eq_true, decide_eq_true_eq] at hr
    exact filter_cut hr.2 ha hn
theorem f99_ok' (l : List AttrM) (hl : l.length ≤ 100000) (n : ByteArray) : FnOK Tryz.prog 99 [] [eAttrs l, eStr n] [] (.tup [eAttrs (removeA l n).1, eBool (decide (0 ≤ findP l n))]) := by
  rw [← rest_remove]; exact f99_ok l hl n
theorem f101_ok (l : List AttrM) (hl : l.length ≤ 100000) (n : ByteArray) (f : Int) : FnOK Tryz.prog 101 [] [eAttrs l, eStr n, eInt f] [] (.tup [eAttrs (toggleA l n f).1, eBool (toggleA l n f).2.1, eInt (toggleA l n f).2.2]) := by
  refine FnOK.startC (rvs := [.tmp 6, .tmp 7, .tmp 8]) G G_good Tryz.func101 rfl Tryz.ntmps101 rfl rfl ?_; with_reducible refine wD ?_
  refine CallK.lit [] (f153_ok l hl) c153 ⟨rfl, trivial⟩ rfl rfl ?_; with_reducible refine wK ?_
  cases h1 : rightA l with
  | false =>
    have e : toggleA l n f = (l, false, 1) := by simp [toggleA, findE, h1]
    rw [e]
    repeat' (first
    | ((with_reducible show IfK _ _ _ _); first | refine iK ?_ | (refine IfK.mk (fun _ => ?_) (fun _ => ?_) <;> with_reducible refine wK ?_))
    | ((with_reducible show (_ ∧ _) ∧ _ ∧ _); (refine eK ?_ ?_ <;> with_reducible repeat' (first | exact trivial | (show _ ∧ _; refine aK ?_ ?_)))))
  | true =>
    cases h2 : rightS n with
    | false =>
      have e : toggleA l n f = (l, false, 4) := by simp [toggleA, findE, h1, h2]
      rw [e]
      repeat' (first
    | ((with_reducible show IfK _ _ _ _); first | refine iK ?_ | (refine IfK.mk (fun _ => ?_) (fun _ => ?_) <;> with_reducible refine wK ?_))
    | ((with_reducible show CallK _ _ 98 _ _ _ _); refine CallK.lit [] (f98_ok _) c98 ⟨rfl, trivial⟩ rfl rfl ?_; with_reducible refine wK ?_)
    | ((with_reducible show (_ ∧ _) ∧ _ ∧ _); (refine eK ?_ ?_ <;> with_reducible repeat' (first | exact trivial | (show _ ∧ _; refine aK ?_ ?_)))))
    | true =>
      have hE : findE l n = 0 := by simp [findE, h1, h2]
      by_cases hP : 0 ≤ findP l n
      · have p1 : decide (0 ≤ findP l n) = true := decide_eq_true hP
        by_cases hf : 0 < f
        · have q1 : decide (0 < f) = true := decide_eq_true hf
          have e : toggleA l n f = (l, decide (0 ≤ findP l n), 0) := by simp [toggleA, hE, wantA, hf, hP]
          rw [e]
          repeat' (first
    | ((with_reducible show IfK _ _ _ _); first | refine iK ?_ | (refine IfK.mk (fun _ => ?_) (fun _ => ?_) <;> with_reducible refine wK ?_))
    | ((with_reducible show CallK _ _ 98 _ _ _ _); refine CallK.lit [] (f98_ok _) c98 ⟨rfl, trivial⟩ rfl rfl ?_; with_reducible refine wK ?_)
    | ((with_reducible show CallK _ _ 100 _ _ _ _); refine CallK.lit [] (f100_ok l hl n) c100 ⟨rfl, rfl, trivial⟩ rfl rfl ?_; with_reducible refine wK ?_)
    | ((with_reducible show (_ ∧ _) ∧ _ ∧ _); (refine eK ?_ ?_ <;> with_reducible repeat' (first | exact trivial | (show _ ∧ _; refine aK ?_ ?_)))))
        · have q1 : decide (0 < f) = false := decide_eq_false hf
          have e : toggleA l n f = ((removeA l n).1, false, 0) := by simp [toggleA, hE, wantA, hf, hP]
          rw [e]
          repeat' (first
    | ((with_reducible show IfK _ _ _ _); first | refine iK ?_ | (refine IfK.mk (fun _ => ?_) (fun _ => ?_) <;> with_reducible refine wK ?_))
    | ((with_reducible show CallK _ _ 98 _ _ _ _); refine CallK.lit [] (f98_ok _) c98 ⟨rfl, trivial⟩ rfl rfl ?_; with_reducible refine wK ?_)
    | ((with_reducible show CallK _ _ 100 _ _ _ _); refine CallK.lit [] (f100_ok l hl n) c100 ⟨rfl, rfl, trivial⟩ rfl rfl ?_; with_reducible refine wK ?_)
    | ((with_reducible show CallK _ _ 99 _ _ _ _); refine CallK.val [] (f99_ok l hl n) c99 ⟨rfl, rfl, trivial⟩ rfl rfl rfl ?_; with_reducible refine wK ?_)
    | ((with_reducible show (_ ∧ _) ∧ _ ∧ _); (refine eK ?_ ?_ <;> with_reducible repeat' (first | exact trivial | (show _ ∧ _; refine aK ?_ ?_)))))
          all_goals exact congrArg (List.map oAttr) (rest_remove l n).symm
      · have p1 : decide (0 ≤ findP l n) = false := decide_eq_false hP
        by_cases hf : f < 0
        · have q1 : decide (f < 0) = true := decide_eq_true hf
          have e : toggleA l n f = (l, decide (0 ≤ findP l n), 0) := by simp [toggleA, hE, wantA, hP]; omega
          rw [e]
          repeat' (first
    | ((with_reducible show IfK _ _ _ _); first | refine iK ?_ | (refine IfK.mk (fun _ => ?_) (fun _ => ?_) <;> with_reducible refine wK ?_))
    | ((with_reducible show CallK _ _ 98 _ _ _ _); refine CallK.lit [] (f98_ok _) c98 ⟨rfl, trivial⟩ rfl rfl ?_; with_reducible refine wK ?_)
    | ((with_reducible show CallK _ _ 100 _ _ _ _); refine CallK.lit [] (f100_ok l hl n) c100 ⟨rfl, rfl, trivial⟩ rfl rfl ?_; with_reducible refine wK ?_)
    | ((with_reducible show (_ ∧ _) ∧ _ ∧ _); (refine eK ?_ ?_ <;> with_reducible repeat' (first | exact trivial | (show _ ∧ _; refine aK ?_ ?_)))))
        · have q1 : decide (f < 0) = false := decide_eq_false hf
          have e : toggleA l n f = ((setA l n noS).1, decide ((setA l n noS).2 = 0), (setA l n noS).2) := by
            have : (0 < f) ∨ f = 0 := by omega
            rcases this with h | h <;> simp [toggleA, hE, wantA, hP, h]
          rw [e]
          repeat' (first
    | ((with_reducible show IfK _ _ _ _); first | refine iK ?_ | (refine IfK.mk (fun _ => ?_) (fun _ => ?_) <;> with_reducible refine wK ?_))
    | ((with_reducible show CallK _ _ 98 _ _ _ _); refine CallK.lit [] (f98_ok _) c98 ⟨rfl, trivial⟩ rfl rfl ?_; with_reducible refine wK ?_)
    | ((with_reducible show CallK _ _ 100 _ _ _ _); refine CallK.lit [] (f100_ok l hl n) c100 ⟨rfl, rfl, trivial⟩ rfl rfl ?_; with_reducible refine wK ?_)
    | ((with_reducible show CallK _ _ 96 _ _ _ _); refine CallK.val [] (f96_ok l hl n noS) c96 ⟨rfl, rfl, rfl, trivial⟩ rfl rfl rfl ?_; with_reducible refine wK ?_)
    | ((with_reducible show (_ ∧ _) ∧ _ ∧ _); (refine eK ?_ ?_ <;> with_reducible repeat' (first | exact trivial | (show _ ∧ _; refine aK ?_ ?_)))))
end Go.Proofs.Heir
namespace Go.Proofs.Heir
open Go Go.Am Go.RowKit Go.Lib
set_option maxRecDepth 100000
theorem rightA_nodup {l : List AttrM} (h : rightA l = true) : (l.map AttrM.name).Nodup := by
  unfold rightA at h; simp only [Bool.and_eq_true, decide_eq_true_eq] at h; exact h.2
theorem posA_missH {l : List AttrM} {n : ByteArray} (h : ∀ a ∈ l, a.name ≠ n) : posA l n = -1 :=
  idxI_none fun j x hx => by unfold hasName; exact decide_eq_false (h x (List.mem_of_getElem? hx))
theorem posA_atH {l : List AttrM} (hn : (l.map AttrM.name).Nodup) {i : Nat} {a : AttrM} (h : l[i]? = some a) : posA l a.name = i := (nodup_pos l).1 hn i a h
theorem posA_casesH (l : List AttrM) (n : ByteArray) : (posA l n = -1 ∧ ∀ a ∈ l, a.name ≠ n) ∨ ∃ (k : Nat) (a : AttrM), posA l n = k ∧ l[k]? = some a ∧ a.name = n := by
  by_cases hx : ∃ b ∈ l, b.name = n
  · right
    rcases idxI_cases (hasName n) l with h | ⟨k, a, h1, h2, h3⟩
    · obtain ⟨b, hb, e⟩ := hx
      exfalso
      unfold idxI at h
      cases hf : l.findIdx? (hasName n) with
      | some i => rw [hf] at h; simp only at h; omega
      | none =>
        rw [List.findIdx?_eq_none_iff] at hf
        have := hf b hb
        unfold hasName at this; simp [e] at this
    · exact ⟨k, a, h1, h2, by unfold hasName at h3; simpa using h3⟩
  · have h : ∀ a ∈ l, a.name ≠ n := fun a ha e => hx ⟨a, ha, e⟩
    exact .inl ⟨posA_missH h, h⟩
theorem okA_new {n v : ByteArray} (hn : rightS n = true) (hv : v.size ≤ 200) : okA ⟨lowS n, v⟩ = true := by
  unfold okA; simp only [rightS_low, hn, lowS_low, hv, decide_true, Bool.and_self]
theorem rightA_of {l : List AttrM} (h1 : l.length ≤ 40) (h2 : ∀ a ∈ l, okA a = true) (h3 : (l.map AttrM.name).Nodup) : rightA l = true := by
  unfold rightA
  rw [decide_eq_true h1, decide_eq_true h3, List.all_eq_true.2 h2]; rfl
theorem rightA_all {l : List AttrM} (h : rightA l = true) : l.length ≤ 40 ∧ (∀ a ∈ l, okA a = true) ∧ (l.map AttrM.name).Nodup := by
  unfold rightA at h; simp only [Bool.and_eq_true, decide_eq_true_eq, List.all_eq_true] at h; exact ⟨h.1.1, h.1.2, h.2⟩
theorem names_inj {l : List AttrM} (hn : (l.map AttrM.name).Nodup) {i j : Nat} {a b : AttrM} (ha : l[i]? = some a) (hb : l[j]? = some b) (e : a.name = b.name) : i = j := by
  have h1 := posA_atH hn ha
  have h2 := posA_atH hn hb
  rw [e] at h1; omega
theorem set_get {l : List AttrM} {k : Nat} (hk : k < l.length) (x : AttrM) (i : Nat) : (l.set k x)[i]? = if i = k then some x else l[i]? := by
  by_cases h : i = k
  · subst h; simp [hk]
  · rw [if_neg h, List.getElem?_set_ne (by omega)]
theorem mem_set_iff {l : List AttrM} {k : Nat} {o : AttrM} (hn : (l.map AttrM.name).Nodup) (hk : l[k]? = some o) (v : ByteArray) (a : AttrM) : a ∈ l.set k ⟨o.name, v⟩ ↔ a = ⟨o.name, v⟩ ∨ (a ∈ l ∧ a.name ≠ o.name) := by
  have hkl := (List.getElem?_eq_some_iff.1 hk).1
  constructor
  · intro h
    obtain ⟨i, hi⟩ := List.getElem?_of_mem h
    rw [set_get hkl] at hi
    split at hi
    · exact .inl (Option.some.inj hi).symm
    · rename_i hne
      exact .inr ⟨List.mem_of_getElem? hi, fun e => hne (names_inj hn hi hk e)⟩
  · rintro (rfl | ⟨h1, h2⟩)
    · exact List.mem_of_getElem? (i := k) (by rw [set_get hkl, if_pos rfl])
    · obtain ⟨i, hi⟩ := List.getElem?_of_mem h1
      refine List.mem_of_getElem? (i := i) ?_
      rw [set_get hkl, if_neg, hi]
      rintro rfl
      rw [hi] at hk; cases hk; exact h2 rfl
theorem set_names {l : List AttrM} {k : Nat} {o : AttrM} (hk : l[k]? = some o) (v : ByteArray) : (l.set k ⟨o.name, v⟩).map AttrM.name = l.map AttrM.name := by
  apply List.ext_getElem?
  intro i
  have hkl := (List.getElem?_eq_some_iff.1 hk).1
  rw [List.getElem?_map, List.getElem?_map, set_get hkl]
  split
  · rename_i h; subst h; rw [hk]; rfl
  · rfl
structure SetOK (l : List AttrM) (n v : ByteArray) (m : List AttrM) : Prop where
  right : rightA m = true
  name : rightS n = true
  value : v.size ≤ 200
  mem : ∀ a, a ∈ m ↔ a = ⟨lowS n, v⟩ ∨ (a ∈ l ∧ a.name ≠ lowS n)
theorem set_ok {l : List AttrM} {n v : ByteArray} (h : (setA l n v).2 = 0) : rightA l = true ∧ SetOK l n v (setA l n v).1 := by
  unfold setA at h ⊢
  split at h
  · rename_i hE
    obtain ⟨h1, h2, _⟩ := findE_zero hE
    obtain ⟨r1, r2, r3⟩ := rightA_all h1
    refine ⟨h1, ?_⟩
    rw [if_pos hE]
    split at h
    · rename_i hv
      rw [if_pos hv]
      split at h
      · rename_i hP
        rw [if_pos hP]
        rw [findP_ref h1 h2] at hP ⊢
        rcases posA_casesH l (lowS n) with ⟨e, _⟩ | ⟨k, o, e1, e2, e3⟩
        · omega
        · rw [e1, Int.toNat_natCast]
          rw [← e3]
          refine ⟨rightA_of (by simpa using r1) (fun a ha => ?_) (by rw [set_names e2]; exact r3), h2, hv, fun a => by rw [e3, ← e3]; exact mem_set_iff r3 e2 v a⟩
          rcases (mem_set_iff r3 e2 v a).1 ha with rfl | ⟨ha, _⟩
          · rw [e3]; exact okA_new h2 hv
          · exact r2 a ha
      · rename_i hP
        rw [if_neg hP]
        split at h
        · cases h
        · rename_i hl
          rw [if_neg hl]
          rw [findP_ref h1 h2] at hP
          have hno : ∀ a ∈ l, a.name ≠ lowS n := by
            rcases posA_casesH l (lowS n) with ⟨_, e⟩ | ⟨k, o, e1, _, _⟩
            · exact e
            · omega
          refine ⟨rightA_of (by simp; omega) (fun a ha => ?_) ?_, h2, hv, fun a => ?_⟩
          · rcases List.mem_append.1 ha with ha | ha
            · exact r2 a ha
            · simp at ha; subst ha; exact okA_new h2 hv
          · rw [List.map_append, List.nodup_append]
            refine ⟨r3, by simp, fun x hx y hy => ?_⟩
            simp at hy; subst hy
            obtain ⟨a, ha, rfl⟩ := List.mem_map.1 hx
            exact hno a ha
          · rw [List.mem_append]
            constructor
            · rintro (h | h)
              · exact .inr ⟨h, hno a h⟩
              · simp at h; exact .inl h
            · rintro (h | h)
              · right; simp [h]
              · exact .inl h.1
    · cases h
  · exact absurd h (by assumption)
theorem setA_len (l : List AttrM) (n v : ByteArray) : (setA l n v).1.length ≤ l.length + 1 := by
  unfold setA; repeat' split
  all_goals simp
theorem removeA_len (l : List AttrM) (n : ByteArray) : (removeA l n).1.length ≤ l.length := by
  unfold removeA; split
  · simp [cutA]; omega
  · simp
theorem toggleA_len (l : List AttrM) (n : ByteArray) (f : Int) : (toggleA l n f).1.length ≤ l.length + 1 := by
  have h1 := setA_len l n noS
  have h2 := removeA_len l n
  unfold toggleA; repeat' split
  all_goals (try dsimp only)
  all_goals omega
end Go.Proofs.Heir
namespace Go.Proofs.Heir
open Go Go.Am Go.RowKit Go.Lib
set_option maxRecDepth 100000
set_option maxHeartbeats 8000000
set_option maxHeartbeats 8000000
def changeN (old new : List AttrM) (n : Int) (s : ByteArray) : List NoteM := if 0 ≤ findP old s ∨ 0 ≤ findP new s then [⟨4, n, 0, 0, lowS s, decide (0 ≤ findP old s), decide (0 ≤ findP new s), getS old s, getS new s⟩] else []
def changeM (f : ForM) (n : Int) (s : ByteArray) (l : List AttrM) : ForM × List NoteM × Int := (⟨attL f.nodes n l, f.most⟩, changeN (nd f.nodes n).attrs l n s, 0)
def elemE (f : ForM) (n : Int) : Int := if (rightF f && thereN f.nodes n) = true then (if (nd f.nodes n).kind = 1 then 0 else 5) else 1
def setM (f : ForM) (n : Int) (s v : ByteArray) : ForM × List NoteM × Int := if elemE f n ≠ 0 then (f, [], elemE f n) else if (setA (nd f.nodes n).attrs s v).2 ≠ 0 then (f, [], (setA (nd f.nodes n).attrs s v).2) else changeM f n s (setA (nd f.nodes n).attrs s v).1
def unsetM (f : ForM) (n : Int) (s : ByteArray) : ForM × List NoteM × Int := if elemE f n ≠ 0 then (f, [], elemE f n) else if rightS s = false then (f, [], 4) else changeM f n s (removeA (nd f.nodes n).attrs s).1
def toggleM (f : ForM) (n : Int) (s : ByteArray) (c : Int) : ForM × List NoteM × Int := if elemE f n ≠ 0 then (f, [], elemE f n) else if (toggleA (nd f.nodes n).attrs s c).2.2 ≠ 0 then (f, [], (toggleA (nd f.nodes n).attrs s c).2.2) else if decide (0 ≤ findP (nd f.nodes n).attrs s) = (toggleA (nd f.nodes n).attrs s c).2.1 then (f, [], 0) else changeM f n s (toggleA (nd f.nodes n).attrs s c).1
section
variable {l l' : List NodeM} {m : Int}
theorem RF.attrs (R : RF l m) {n : Int} (hn : thereN l n = true) (hk : (nd l n).kind = 1) : rightA (nd l n).attrs = true := by
  have h := R.nam n hn
  unfold namedN at h
  rw [if_pos hk] at h
  simp only [Bool.and_eq_true] at h
  exact h.2
theorem RF.none (R : RF l m) {n : Int} (hn : thereN l n = true) (hk : (nd l n).kind ≠ 1) : (nd l n).attrs = [] ∧ (nd l n).name = ⟨#[]⟩ := by
  rcases nam_kind R.ptree hn with h | h
  · exact absurd h hk
  · exact ⟨h.2.2, h.2.1⟩
end
end Go.Proofs.Heir
namespace Go.Proofs.Heir
open Go Go.Am Go.RowKit Go.Lib
set_option maxRecDepth 100000
set_option maxHeartbeats 8000000
@[reducible] def nilNs : AV := .lit (.slice none 0 0)
theorem att_row {l : List NodeM} {k : Nat} {y : NodeM} (hy : l[k]? = some y) (xs : List AttrM) : (l.map oNode).set (0 + k) (oNode { y with attrs := xs }) = (attL l k xs).map oNode := by
  show _ = (l.set ((k : Int).toNat) { nd l k with attrs := xs }).map oNode
  rw [nd_get hy, Int.toNat_natCast, Nat.zero_add, List.map_set]
@[reducible] def chNote (y : NodeM) (k : Nat) (s : ByteArray) (xs : List AttrM) : NoteM := ⟨4, k, 0, 0, lowS s, decide (0 ≤ findP y.attrs s), decide (0 ≤ findP xs s), getS y.attrs s, getS xs s⟩
theorem change_yes (l : List NodeM) (m : Int) (hs : SmallN l) (k : Nat) (y : NodeM) (hy : l[k]? = some y) (s : ByteArray) (hs3 : s.size ≤ 100000) (xs : List AttrM) (hx : xs.length ≤ 100000) (hh : 0 ≤ findP y.attrs s ∨ 0 ≤ findP xs s) :
    FnOK Tryz.prog 61 [mHand m l.length 1 nilNs, mNodes l] [.ptr 0 0 0, eInt k, eStr s, eAttrs xs] [mHand m l.length 1 (.own 2 0 1), mNodes (attL l k xs), .live 9 [oNote (chNote y k s xs)] false] (.tup []) := by
  have h124 := f124_ok s hs3
  have h23 := f23_ok y.attrs (by have := hs.attrs y (List.mem_of_getElem? hy); omega) s
  have h23x := f23_ok xs hx s
  have hkl : k < l.length := (List.getElem?_eq_some_iff.1 hy).1
  have hrow := att_row hy xs
  have hlm : (l.map oNode).length = l.length := List.length_map ..
  have ha : (attL l k xs).length = l.length := len_att ..
  generalize attL l k xs = l' at hrow ha
  obtain ⟨y1, y2, y3, y4, y5, y6, y7, y8, y9, y10⟩ := y
  simp only at h23 hh hrow
  refine FnOK.startN [(2, 591)] (rvs := []) G G_good Tryz.func61 rfl Tryz.ntmps61 rfl rfl ?_; with_reducible refine wD ?_
  cases hb : decide (0 ≤ findP y5 s) with
  | true =>
    (have fct := hb; (repeat' (first
    | refine gF ?_
    | ((first
      | ((with_reducible show CallK _ _ 124 _ _ _ _); refine CallK.lit [] h124 c124 ⟨rfl, trivial⟩ rfl rfl ?_)
      | ((with_reducible show LtK _ _ _ _ _); refine LtK.mk k rfl hkl ?_)
      | ((with_reducible show ElemK _ _ _ _ _); first | refine ElemK.mk (eNode ⟨y1, y2, y3, y4, y5, y6, y7, y8, y9, y10⟩) (by first | exact node_get hy | (rw [Nat.zero_add]; exact node_get hy)) ?_ | refine ElemK.mk _ rfl ?_)
      | ((with_reducible show AppK _ _ _ _ _ _ _ _ _ _); refine AppK.mk [] [_] ⟨rfl, rfl, rfl⟩ ⟨rfl, rfl, rfl⟩ rfl (by simp) (by simp) ?_)
      | ((with_reducible show DrawK _ _ _ _); refine dK ?_)
      | ((with_reducible show CallK _ _ 23 _ _ _ _); first | (refine CallK.lit [] h23 c23 ⟨rfl, rfl, trivial⟩ rfl rfl ?_) | (refine CallK.lit [] h23x c23 ⟨rfl, rfl, trivial⟩ rfl rfl ?_))) <;> with_reducible refine wK ?_)
    | ((with_reducible show (_ ∧ _) ∧ _ ∧ _); (refine eK ?_ ?_ <;> with_reducible repeat' (first | exact trivial | (show _ ∧ _; refine aK ?_ ?_)))))); all_goals clear fct)
    all_goals first
      | rfl
      | exact ⟨.refl rfl, rfl⟩
      | exact (.inl rfl : NilK _)
      | (refine cast (congrArg (ObjK _ _) hrow.symm) ?_; exact ⟨.refl (noRef_nodes _), noRef_nodes _⟩)
      | trace_state
  | false =>
    have hbx : decide (0 ≤ findP xs s) = true := decide_eq_true (hh.resolve_left (of_decide_eq_false hb))
    (have fct := And.intro hb (hbx); (repeat' (first
    | refine gF ?_
    | ((first
      | ((with_reducible show CallK _ _ 124 _ _ _ _); refine CallK.lit [] h124 c124 ⟨rfl, trivial⟩ rfl rfl ?_)
      | ((with_reducible show LtK _ _ _ _ _); refine LtK.mk k rfl hkl ?_)
      | ((with_reducible show ElemK _ _ _ _ _); first | refine ElemK.mk (eNode ⟨y1, y2, y3, y4, y5, y6, y7, y8, y9, y10⟩) (by first | exact node_get hy | (rw [Nat.zero_add]; exact node_get hy)) ?_ | refine ElemK.mk _ rfl ?_)
      | ((with_reducible show AppK _ _ _ _ _ _ _ _ _ _); refine AppK.mk [] [_] ⟨rfl, rfl, rfl⟩ ⟨rfl, rfl, rfl⟩ rfl (by simp) (by simp) ?_)
      | ((with_reducible show DrawK _ _ _ _); refine dK ?_)
      | ((with_reducible show CallK _ _ 23 _ _ _ _); first | (refine CallK.lit [] h23 c23 ⟨rfl, rfl, trivial⟩ rfl rfl ?_) | (refine CallK.lit [] h23x c23 ⟨rfl, rfl, trivial⟩ rfl rfl ?_))) <;> with_reducible refine wK ?_)
    | ((with_reducible show (_ ∧ _) ∧ _ ∧ _); (refine eK ?_ ?_ <;> with_reducible repeat' (first | exact trivial | (show _ ∧ _; refine aK ?_ ?_)))))); all_goals clear fct)
    all_goals first
      | rfl
      | exact ⟨.refl rfl, rfl⟩
      | exact (.inl rfl : NilK _)
      | (refine cast (congrArg (ObjK _ _) hrow.symm) ?_; exact ⟨.refl (noRef_nodes _), noRef_nodes _⟩)
      | trace_state
theorem change_no (l : List NodeM) (m : Int) (hs : SmallN l) (k : Nat) (y : NodeM) (hy : l[k]? = some y) (s : ByteArray) (hs3 : s.size ≤ 100000) (xs : List AttrM) (hx : xs.length ≤ 100000) (hh : ¬ 0 ≤ findP y.attrs s ∧ ¬ 0 ≤ findP xs s) :
    FnOK Tryz.prog 61 [mHand m l.length 1 nilNs, mNodes l] [.ptr 0 0 0, eInt k, eStr s, eAttrs xs] [mHand m l.length 1 nilNs, mNodes (attL l k xs)] (.tup []) := by
  have h124 := f124_ok s hs3
  have h23 := f23_ok y.attrs (by have := hs.attrs y (List.mem_of_getElem? hy); omega) s
  have h23x := f23_ok xs hx s
  have hkl : k < l.length := (List.getElem?_eq_some_iff.1 hy).1
  have hrow := att_row hy xs
  have hlm : (l.map oNode).length = l.length := List.length_map ..
  have ha : (attL l k xs).length = l.length := len_att ..
  generalize attL l k xs = l' at hrow ha
  obtain ⟨y1, y2, y3, y4, y5, y6, y7, y8, y9, y10⟩ := y
  simp only at h23 hh hrow
  refine FnOK.startN [] (rvs := []) G G_good Tryz.func61 rfl Tryz.ntmps61 rfl rfl ?_; with_reducible refine wD ?_
  have hb : decide (0 ≤ findP y5 s) = false := decide_eq_false hh.1
  have hbx : decide (0 ≤ findP xs s) = false := decide_eq_false hh.2
  (have fct := And.intro hb (hbx); (repeat' (first
    | refine gF ?_
    | ((first
      | ((with_reducible show CallK _ _ 124 _ _ _ _); refine CallK.lit [] h124 c124 ⟨rfl, trivial⟩ rfl rfl ?_)
      | ((with_reducible show LtK _ _ _ _ _); refine LtK.mk k rfl hkl ?_)
      | ((with_reducible show ElemK _ _ _ _ _); first | refine ElemK.mk (eNode ⟨y1, y2, y3, y4, y5, y6, y7, y8, y9, y10⟩) (by first | exact node_get hy | (rw [Nat.zero_add]; exact node_get hy)) ?_ | refine ElemK.mk _ rfl ?_)
      | ((with_reducible show AppK _ _ _ _ _ _ _ _ _ _); refine AppK.mk [] [_] ⟨rfl, rfl, rfl⟩ ⟨rfl, rfl, rfl⟩ rfl (by simp) (by simp) ?_)
      | ((with_reducible show DrawK _ _ _ _); refine dK ?_)
      | ((with_reducible show CallK _ _ 23 _ _ _ _); first | (refine CallK.lit [] h23 c23 ⟨rfl, rfl, trivial⟩ rfl rfl ?_) | (refine CallK.lit [] h23x c23 ⟨rfl, rfl, trivial⟩ rfl rfl ?_))) <;> with_reducible refine wK ?_)
    | ((with_reducible show (_ ∧ _) ∧ _ ∧ _); (refine eK ?_ ?_ <;> with_reducible repeat' (first | exact trivial | (show _ ∧ _; refine aK ?_ ?_)))))); all_goals clear fct)
  all_goals first
    | rfl
    | exact ⟨.refl rfl, rfl⟩
    | exact (.inl rfl : NilK _)
    | (refine cast (congrArg (ObjK _ _) hrow.symm) ?_; exact ⟨.refl (noRef_nodes _), noRef_nodes _⟩)
    | trace_state
end Go.Proofs.Heir
namespace Go.Proofs.Heir
open Go Go.Am Go.RowKit Go.Lib Go.Extern.Stop Go.Stop Go.Extern
set_option maxRecDepth 100000
set_option maxHeartbeats 8000000
theorem as_valueOfT (t : Addr) (w : World) : (ReflectliteValue.unpack (.iface 220 (.pointer (some t)))).run Tryz.prog w
    = .ok (.agg #[.pointer (some ⟨5, 220, none⟩), .pointer (some ⟨w.heap.size, 0, none⟩), .int .u64 150]) (w.alloc (.cells #[.pointer (some t)] 220)) := by kernel_rfl
theorem as_typeT (a : Addr) (w : World) : (ReflectliteValue.methodAny (ReflectliteValue.valueError "reflectlite.Value.Type" 0) (fun t _ _ _ => ReflectliteType.toType t) #[.agg #[.pointer (some ⟨5, 220, none⟩), .pointer (some a), .int .u64 150]]).run Tryz.prog w
    = .ok (.iface 264 (.agg #[.pointer (some ⟨5, 220, none⟩)])) w := by kernel_rfl
theorem as_methodKind (h : Value) (w : World) : (Go.method 435 264 (.agg #[h]) "Kind").run Tryz.prog w = .ok (263, h) w := by kernel_rfl
theorem as_kindT (w : World) : ((ReflectliteType.abiMethod fun t => (fun a : Nat => Value.int IntKind.u8 (a : Int)) <$> Rtype.kind t) #[.pointer (some ⟨5, 220, none⟩)]).run Tryz.prog w = .ok (.int .u8 22) w := by kernel_rfl
theorem as_kindC (w : World) : ((ReflectliteType.abiMethod fun t => (fun a : Nat => Value.int IntKind.u8 (a : Int)) <$> Rtype.kind t) #[.pointer (some ⟨5, 176, none⟩)]).run Tryz.prog w = .ok (.int .u8 25) w := by kernel_rfl
theorem as_rlm (z : Sem Value) (f : TypeId → Addr → Nat → Nat → Sem Value) (v : Value) :
    ReflectliteValue.method z f #[v] = (do match ← ReflectliteValue.parts v with | none => z | some (t, a, fl) => f t a fl (fl % 32)) := rfl
theorem as_partsT (a : Addr) (w : World) : (ReflectliteValue.parts (.agg #[.pointer (some ⟨5, 220, none⟩), .pointer (some a), .int .u64 150])).run Tryz.prog w = .ok (some (220, a, 150)) w := by kernel_rfl
theorem as_isNilT (a p : Addr) (W : World) (ha : W.cell? a = some (.pointer (some p))) :
    (ReflectliteValue.method (ReflectliteValue.valueError "reflectlite.Value.IsNil" 0) ReflectliteValue.isNil #[.agg #[.pointer (some ⟨5, 220, none⟩), .pointer (some a), .int .u64 150]]).run Tryz.prog W = .ok (.bool false) W := by
  rw [as_rlm]
  simp only [Sem.run_bind, as_partsT, Result.andThen]
  simp [ReflectliteValue.isNil, loadVar, isAgg, underlying, Tryz.underlying220, ha, Result.andThen]
theorem as_methodElem (h : Value) (w : World) : (Go.method 435 264 (.agg #[h]) "Elem").run Tryz.prog w = .ok (276, .agg #[h]) w := by kernel_rfl
theorem as_methodImplements (h : Value) (w : World) : (Go.method 435 264 (.agg #[h]) "Implements").run Tryz.prog w = .ok (277, .agg #[h]) w := by kernel_rfl
theorem as_methodAssignableTo (h : Value) (w : World) : (Go.method 435 264 (.agg #[h]) "AssignableTo").run Tryz.prog w = .ok (274, .agg #[h]) w := by kernel_rfl
theorem as_methodUnwrap (h : Value) (w : World) : (Go.method 435 178 h "Unwrap").run Tryz.prog w = .ok (268, h) w := by kernel_rfl
theorem as_elemT (w : World) : (ReflectliteType.method ReflectliteType.elem #[.agg #[.pointer (some ⟨5, 220, none⟩)]]).run Tryz.prog w = .ok (.iface 264 (.agg #[.pointer (some ⟨5, 176, none⟩)])) w := by kernel_rfl
theorem as_implementsC (w : World) : (ReflectliteType.relation "Implements" ReflectliteType.implements_ #[.agg #[.pointer (some ⟨5, 176, none⟩)], .iface 264 (.agg #[.pointer (some ⟨5, 98, none⟩)])]).run Tryz.prog w = .ok (.bool true) w := by kernel_rfl
theorem as_typeOfC (v : Value) (w : World) : (ReflectliteType.typeOf #[.iface 176 v]).run Tryz.prog w = .ok (.iface 264 (.agg #[.pointer (some ⟨5, 176, none⟩)])) w := by kernel_rfl
theorem as_typeOfS (v : Value) (w : World) : (ReflectliteType.typeOf #[.iface 178 v]).run Tryz.prog w = .ok (.iface 264 (.agg #[.pointer (some ⟨5, 178, none⟩)])) w := by kernel_rfl
theorem as_assignableC (w : World) : (ReflectliteType.relation "AssignableTo" ReflectliteType.assignableTo #[.agg #[.pointer (some ⟨5, 176, none⟩)], .iface 264 (.agg #[.pointer (some ⟨5, 176, none⟩)])]).run Tryz.prog w = .ok (.bool true) w := by kernel_rfl
theorem as_assignableS (w : World) : (ReflectliteType.relation "AssignableTo" ReflectliteType.assignableTo #[.agg #[.pointer (some ⟨5, 178, none⟩)], .iface 264 (.agg #[.pointer (some ⟨5, 176, none⟩)])]).run Tryz.prog w = .ok (.bool false) w := by kernel_rfl
theorem as_valueOfC (e : Int) (w : World) : (ReflectliteValue.unpack (.iface 176 (.agg #[.int .i64 e]))).run Tryz.prog w
    = .ok (.agg #[.pointer (some ⟨5, 176, none⟩), .pointer (some ⟨w.heap.size, 0, none⟩), .int .u64 153]) (w.alloc (.cells #[.int .i64 e] 176)) := by kernel_rfl
theorem as_elemOfT (w : World) : (Rtype.elem? 220).run Tryz.prog w = .ok (some 176) w := by kernel_rfl
theorem as_mkC (p : Addr) (w : World) : (ReflectliteValue.mk 176 p ReflectliteValue.flagAddr).run Tryz.prog w = .ok (.agg #[.pointer (some ⟨5, 176, none⟩), .pointer (some p), .int .u64 409]) w := by kernel_rfl
theorem as_elemVT (a p : Addr) (W : World) (ha : W.cell? a = some (.pointer (some p))) :
    (ReflectliteValue.method (ReflectliteValue.valueError "reflectlite.Value.Elem" 0) ReflectliteValue.elem #[.agg #[.pointer (some ⟨5, 220, none⟩), .pointer (some a), .int .u64 150]]).run Tryz.prog W
      = .ok (.agg #[.pointer (some ⟨5, 176, none⟩), .pointer (some p), .int .u64 409]) W := by
  rw [as_rlm]
  simp only [Sem.run_bind, as_partsT, Result.andThen]
  simp [ReflectliteValue.elem, loadVar, isAgg, underlying, Tryz.underlying220, ha, Result.andThen, as_elemOfT, as_mkC]
theorem as_rls (v x : Value) : ReflectliteValue.set #[v, x] = (do
    let (some (dst, a, fl), some (src, b, _)) := (← ReflectliteValue.parts v, ← ReflectliteValue.parts x)
      | unsupported (.noEntry "extern/(internal/reflectlite.Value).Set.zeroValue")
    if fl / ReflectliteValue.flagAddr % 2 == 0 then unsupported (.noEntry "extern/(internal/reflectlite.Value).Set.unaddressable")
    let val ← loadVar src b
    if ← Rtype.directlyAssignable dst src then storeVar dst a val
    else if ← Rtype.implements dst src then
      if (← Rtype.kind src) == 20 then
        match val with
        | .nilIface => unsupported (.noEntry "extern/reflectlite: a nil value of one interface type handed on as a value of another")
        | _ => storeVar dst a val
      else storeVar dst a (.iface src val)
    else panicString ("reflectlite.Set: value of type " ++ (← Rtype.spelt src) ++ " is not assignable to type " ++ (← Rtype.spelt dst))
    pure (.tuple #[])) := rfl
theorem as_partsCa (a : Addr) (w : World) : (ReflectliteValue.parts (.agg #[.pointer (some ⟨5, 176, none⟩), .pointer (some a), .int .u64 409])).run Tryz.prog w = .ok (some (176, a, 409)) w := by kernel_rfl
theorem as_partsC (a : Addr) (w : World) : (ReflectliteValue.parts (.agg #[.pointer (some ⟨5, 176, none⟩), .pointer (some a), .int .u64 153])).run Tryz.prog w = .ok (some (176, a, 153)) w := by kernel_rfl
theorem as_directC (w : World) : (Rtype.directlyAssignable 176 176).run Tryz.prog w = .ok true w := by kernel_rfl
theorem as_loadC (b : Addr) (e : Int) (W : World) (hb : W.cell? b = some (.int .i64 e)) : (loadVar 176 b).run Tryz.prog W = .ok (.agg #[.int .i64 e]) W := by
  simp [loadVar, isAgg, underlying, Tryz.underlying176, Result.andThen, Addr.add]
  rw [run_loadCells W b 1 (fun _ => .int .i64 e) (fun j hj => by rw [Nat.lt_one_iff.1 hj]; simpa [Addr.add] using hb)]
  rfl
theorem as_setC (ta b : Addr) (e : Int) (old : Value) (W : World) (hb : W.cell? b = some (.int .i64 e)) (ht : W.cell? ta = some old) (hf : W.frozen? ta = false) :
    (ReflectliteValue.set #[.agg #[.pointer (some ⟨5, 176, none⟩), .pointer (some ta), .int .u64 409], .agg #[.pointer (some ⟨5, 176, none⟩), .pointer (some b), .int .u64 153]]).run Tryz.prog W
      = .ok (.tuple #[]) (W.setCell ta (.int .i64 e)) := by
  rw [as_rls]
  simp only [Sem.run_bind, as_partsCa, as_partsC, Result.andThen]
  simp [ReflectliteValue.flagAddr, as_loadC b e W hb, Result.andThen, as_directC, storeVar, Value.cells, storeCells, Addr.add]
  rw [run_store Tryz.prog W ta _ _ (by rfl)]
  simp [ht, hf]
theorem as_err {W : World} (ht : Tabs Tryz.prog W fun _ => none) : W.cell? ⟨0, 0, none⟩ = some (.iface 264 (.agg #[.pointer (some ⟨5, 98, none⟩)])) ∧ 0 < W.heap.size := by
  obtain ⟨_, h2, v, ⟨u, ty, hu, hty, hn, rfl⟩, hc⟩ := ht.2 0 (by kernel_rfl)
  have hu' : (Tryz.prog.cutTypes.find? (·.1 == "internal/reflectlite.rtype")).map (·.2) = some 264 := by kernel_rfl
  obtain rfl := Option.some.inj (hu.symm.trans hu')
  have hall : (List.range Tryz.prog.types.size).all (fun t => !(Tryz.prog.rowNamed t [101, 114, 114, 111, 114]) || Nat.beq t 98) = true := by kernel_rfl
  have h98 := List.all_eq_true.1 hall ty (List.mem_range.2 hty)
  rw [hn] at h98
  obtain rfl : ty = 98 := by simpa using Nat.eq_of_beq_eq_true h98
  exact ⟨hc, h2⟩
theorem as_noAs (v : Value) (w : World) : (Instr.typeAssert (.iface 178 v) 98 269 true).run Tryz.prog w = .ok (.tuple #[.nilIface, .bool false]) w := run_typeAssert_lacksB Tryz.underlying269 (by kernel_rfl) (by kernel_rfl) v 98 w
theorem as_hasU (v : Value) (w : World) : (Instr.typeAssert (.iface 178 v) 98 272 true).run Tryz.prog w = .ok (.tuple #[.iface 178 v, .bool true]) w := run_typeAssert_hasB Tryz.underlying272 (by kernel_rfl) v 98 w
theorem as_two (what : ByteArray) (e : Int) (t : Addr) (old : Value) (w : World) (hg : w.cell? ⟨0, 0, none⟩ = some (.iface 264 (.agg #[.pointer (some ⟨5, 98, none⟩)]))) (ht0 : w.cell? t = some old) (hf0 : w.frozen? t = false) :
    Calls Tryz.prog 178 #[.iface 178 (.agg #[.string what, .iface 176 (.agg #[.int .i64 e])]), .iface 220 (.pointer (some t))] w fun ev w' => ev = .returned (.bool true) ∧ w' = (((((w.alloc (.cells #[.pointer (some t)] 220)).alloc (.cells #[.pointer (some ⟨5, 220, none⟩), .pointer (some ⟨w.heap.size, 0, none⟩), .int .u64 150] 242)).alloc (.cells #[.pointer (some ⟨5, 220, none⟩), .pointer (some ⟨w.heap.size, 0, none⟩), .int .u64 150] 242)).alloc (.cells #[.string what, .iface 176 (.agg #[.int .i64 e])] 178)).alloc (.cells #[.int .i64 e] 176)).setCell t (.int .i64 e) := by
  have h209 := @run_callFunc_extern Tryz.prog 209 _ (fun args => ReflectliteValue.unpack (args.getD 0 (.tuple #[]))) Tryz.func209 (by kernel_rfl) (by kernel_rfl) (by kernel_rfl) (by kernel_rfl)
  have h210 := @run_callFunc_extern Tryz.prog 210 _ (ReflectliteValue.methodAny (ReflectliteValue.valueError "reflectlite.Value.Type" 0) (fun t _ _ _ => ReflectliteType.toType t)) Tryz.func210 (by kernel_rfl) (by kernel_rfl) (by kernel_rfl) (by kernel_rfl)
  have h211 := @run_callFunc_extern Tryz.prog 211 _ (ReflectliteValue.method (ReflectliteValue.valueError "reflectlite.Value.IsNil" 0) ReflectliteValue.isNil) Tryz.func211 (by kernel_rfl) (by kernel_rfl) (by kernel_rfl) (by kernel_rfl)
  have h263 := @run_callFunc_extern Tryz.prog 263 _ (ReflectliteType.abiMethod fun t => do pure (.int .u8 (← Rtype.kind t))) Tryz.func263 (by kernel_rfl) (by kernel_rfl) (by kernel_rfl) (by kernel_rfl)
  have h276 := @run_callFunc_extern Tryz.prog 276 _ (ReflectliteType.method ReflectliteType.elem) Tryz.func276 (by kernel_rfl) (by kernel_rfl) (by kernel_rfl) (by kernel_rfl)
  have h277 := @run_callFunc_extern Tryz.prog 277 _ (ReflectliteType.relation "Implements" ReflectliteType.implements_) Tryz.func277 (by kernel_rfl) (by kernel_rfl) (by kernel_rfl) (by kernel_rfl)
  have h224 := @run_callFunc_extern Tryz.prog 224 _ ReflectliteType.typeOf Tryz.func224 (by kernel_rfl) (by kernel_rfl) (by kernel_rfl) (by kernel_rfl)
  have h274 := @run_callFunc_extern Tryz.prog 274 _ (ReflectliteType.relation "AssignableTo" ReflectliteType.assignableTo) Tryz.func274 (by kernel_rfl) (by kernel_rfl) (by kernel_rfl) (by kernel_rfl)
  have h225 := @run_callFunc_extern Tryz.prog 225 _ (ReflectliteValue.method (ReflectliteValue.valueError "reflectlite.Value.Elem" 0) ReflectliteValue.elem) Tryz.func225 (by kernel_rfl) (by kernel_rfl) (by kernel_rfl) (by kernel_rfl)
  have h226 := @run_callFunc_extern Tryz.prog 226 _ ReflectliteValue.set Tryz.func226 (by kernel_rfl) (by kernel_rfl) (by kernel_rfl) (by kernel_rfl)
  have f209 := as_valueOfT
  have f209c := as_valueOfC
  have f210 := as_typeT
  have mK := as_methodKind
  have mE := as_methodElem
  have mI := as_methodImplements
  have mA := as_methodAssignableTo
  have mU := as_methodUnwrap
  have kT := as_kindT
  have kC := as_kindC
  have eT := as_elemT
  have iC := as_implementsC
  have tC := as_typeOfC
  have tS := as_typeOfS
  have aC := as_assignableC
  have aS := as_assignableS
  have nA := as_noAs
  have hU := as_hasU
  have n211 := as_isNilT ⟨w.heap.size, 0, none⟩ t ((w.alloc (.cells #[.pointer (some t)] 220)).alloc (.cells #[.pointer (some ⟨5, 220, none⟩), .pointer (some ⟨w.heap.size, 0, none⟩), .int .u64 150] 242)) (by simp)
  have hlt : 0 < w.heap.size := by
    rcases Nat.eq_zero_or_pos w.heap.size with h0 | h
    · simp [World.cell?, h0] at hg
    · exact h
  have hg2 : ((w.alloc (.cells #[.pointer (some t)] 220)).alloc (.cells #[.pointer (some ⟨5, 220, none⟩), .pointer (some ⟨w.heap.size, 0, none⟩), .int .u64 150] 242)).cell? ⟨0, 0, none⟩ = some (.iface 264 (.agg #[.pointer (some ⟨5, 98, none⟩)])) := by
    rw [World.cell?_alloc_lt _ _ ⟨0, 0, none⟩ (by simp), World.cell?_alloc_lt _ _ ⟨0, 0, none⟩ hlt]; exact hg
  have htl : t.block < w.heap.size := by
    rcases Nat.lt_or_ge t.block w.heap.size with h | h
    · exact h
    · simp [World.cell?, Array.getElem?_eq_none h] at ht0
  have el := as_elemVT ⟨w.heap.size, 0, none⟩ t ((((w.alloc (.cells #[.pointer (some t)] 220)).alloc (.cells #[.pointer (some ⟨5, 220, none⟩), .pointer (some ⟨w.heap.size, 0, none⟩), .int .u64 150] 242)).alloc (.cells #[.pointer (some ⟨5, 220, none⟩), .pointer (some ⟨w.heap.size, 0, none⟩), .int .u64 150] 242)).alloc (.cells #[.string what, .iface 176 (.agg #[.int .i64 e])] 178)) (by
    rw [World.cell?_alloc_lt _ _ ⟨w.heap.size, 0, none⟩ (by simp; omega), World.cell?_alloc_lt _ _ ⟨w.heap.size, 0, none⟩ (by simp; omega), World.cell?_alloc_lt _ _ ⟨w.heap.size, 0, none⟩ (by simp), World.cell?_alloc_at _ _ _ _ (by simp)]; rfl)
  have st := as_setC t ⟨w.heap.size + 1 + 1 + 1 + 1, 0, none⟩ e old (((((w.alloc (.cells #[.pointer (some t)] 220)).alloc (.cells #[.pointer (some ⟨5, 220, none⟩), .pointer (some ⟨w.heap.size, 0, none⟩), .int .u64 150] 242)).alloc (.cells #[.pointer (some ⟨5, 220, none⟩), .pointer (some ⟨w.heap.size, 0, none⟩), .int .u64 150] 242)).alloc (.cells #[.string what, .iface 176 (.agg #[.int .i64 e])] 178)).alloc (.cells #[.int .i64 e] 176))
    (by rw [World.cell?_alloc_at _ _ _ _ (by simp)]; rfl)
    (by rw [World.cell?_alloc_lt _ _ t (by simp; omega), World.cell?_alloc_lt _ _ t (by simp; omega), World.cell?_alloc_lt _ _ t (by simp; omega), World.cell?_alloc_lt _ _ t (by simp; omega), World.cell?_alloc_lt _ _ t htl]; exact ht0)
    (by rw [World.frozen?_alloc_old _ _ t (by simp; omega), World.frozen?_alloc_old _ _ t (by simp; omega), World.frozen?_alloc_old _ _ t (by simp; omega), World.frozen?_alloc_old _ _ t (by simp; omega), World.frozen?_alloc_old _ _ t (Nat.ne_of_lt htl)]; exact hf0)
  go_enter Tryz.func178, Tryz.ntmps178
  go_wp2
  refine wp_loop_rounds 2 ?_
  rw [rounds_succ]
  go_wp2
  rw [rounds_succ]
  go_wp2
  go_ret
  exact ⟨rfl, rfl⟩
end Go.Proofs.Heir
namespace Go.Proofs.Heir
open Go Go.Am Go.RowKit Go.Lib
set_option maxRecDepth 100000
set_option maxHeartbeats 8000000
theorem as_two' (what : ByteArray) (e : Int) (t : Addr) (old : Value) (w : World) (hg : w.cell? ⟨0, 0, none⟩ = some (.iface 264 (.agg #[.pointer (some ⟨5, 98, none⟩)]))) (ht0 : w.cell? t = some old) (hf0 : w.frozen? t = false) :
    Calls Tryz.prog 178 #[.iface 178 (.agg #[.string what, .iface 176 (.agg #[.int .i64 e])]), .iface 220 (.pointer (some t))] w fun ev w' => ev = .returned (.bool true) ∧ ∃ W : World, w' = W.setCell t (.int .i64 e) ∧ Below w.heap.size w W := by
  refine (as_two what e t old w hg ht0 hf0).mono ?_
  rintro ev w' ⟨rfl, rfl⟩
  exact ⟨rfl, _, rfl, (((((Below.refl _ _).alloc (Nat.le_refl _) _).alloc (by simp) _).alloc (by simp; omega) _).alloc (by simp; omega) _).alloc (by simp; omega) _⟩
theorem cell_set {W : World} {a : Addr} {v : Value} (h : (W.cell? a).isSome = true) : (W.setCell a v).cell? a = some v := by
  obtain ⟨u, hu⟩ := Option.isSome_iff_exists.1 h
  exact World.cell?_setCell_same W _ _ hu
theorem why_calls (what : ByteArray) (e : Int) (w : World) (ht : Tabs Tryz.prog w fun _ => none) :
    Calls Tryz.prog 122 #[.iface 178 (.agg #[.string what, .iface 176 (.agg #[.int .i64 e])])] w fun ev w' => ev = .returned (.int .i64 e) ∧ Below w.heap.size w w' := by
  obtain ⟨hg, hlt⟩ := as_err ht
  have hg1 : (w.alloc (.cells #[.int .i64 0] 176)).cell? ⟨0, 0, none⟩ = some (.iface 264 (.agg #[.pointer (some ⟨5, 98, none⟩)])) := by
    rw [World.cell?_alloc_lt _ _ ⟨0, 0, none⟩ hlt]; exact hg
  have hc1 : (w.alloc (.cells #[.int .i64 0] 176)).cell? ⟨w.heap.size, 0, none⟩ = some (.int .i64 0) := by rw [World.cell?_alloc_at _ _ _ _ (by simp)]; rfl
  have hf1 : (w.alloc (.cells #[.int .i64 0] 176)).frozen? ⟨w.heap.size, 0, none⟩ = false := World.frozen?_alloc_at _ _ _ _ rfl
  have h2 := as_two' what e ⟨w.heap.size, 0, none⟩ (.int .i64 0) (w.alloc (.cells #[.int .i64 0] 176)) hg1 hc1 hf1
  go_enter Tryz.func122, Tryz.ntmps122
  go_wp2_with (go_at_call 178; refine h2.mono ?_; rintro ev w1 ⟨rfl, W, rfl, hb⟩; have hcW : (W.cell? ⟨w.heap.size, 0, none⟩) = some (.int .i64 0) := (hb.cell (by simp)).trans hc1; have hcS : (W.setCell ⟨w.heap.size, 0, none⟩ (.int .i64 e)).cell? ⟨w.heap.size, 0, none⟩ = some (.int .i64 e) := cell_set (by rw [hcW]; rfl))
  go_wp2
  go_ret
  refine ⟨rfl, ?_⟩
  exact ((((Below.refl _ _).alloc (Nat.le_refl _) _).trans (hb.mono (by simp)))).setCell (Nat.le_refl _) _
theorem why_ok (what : ByteArray) (e : Int) : FnOK Tryz.prog 122 [] [.lit (.iface 178 (.agg #[.string what, .iface 176 (.agg #[.int .i64 e])]))] [] (eInt e) :=
  FnOK.of_calls (vs := [.iface 178 (.agg #[.string what, .iface 176 (.agg #[.int .i64 e])])]) fun w ht => why_calls what e w ht
end Go.Proofs.Heir
