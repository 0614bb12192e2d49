/- Models, plain laws and contracts of functions of the given program; conditions as stated in each theorem. By an AI agent. -/
import Derived.Test.YtpogpigciaajoaaGreatDoorW4
import Derived.RangeFuncNested
import Derived.RangeFuncBound
import Derived.RangeFuncCalls
import Derived.Shelf.Abstract
import Derived.Shelf.RegionOpen
import Derived.WalkKit
import Derived.OwnWalkIn
import Derived.TacticsInMore
import Derived.LoopNIn
import Derived.LoopIn
section
set_option linter.unusedSimpArgs false
set_option linter.unusedVariables false
namespace Go.Proofs.Heir
open Go Go.Am Go.RowKit Go.Lib
set_option maxRecDepth 100000
set_option maxHeartbeats 8000000
def finN (l : List NodeM) : Nat → Int → Bool
  | 0, _ => false
  | m + 1, n => if (nd l n).parent = -1 then true else finN l m (nd l n).parent
def chN (l : List NodeM) : Nat → Int → List Int
  | 0, _ => []
  | m + 1, n => n :: if (nd l n).parent = -1 then [] else chN l m (nd l n).parent
def ordN (l : List NodeM) : Nat → Int → List Int
  | 0, _ => []
  | m + 1, n => n :: (nd l n).kids.flatMap (ordN l m)
def wayN (l : List NodeM) (n : Int) : List Int := chN l l.length n
theorem fin_of_ends {l : List NodeM} : ∀ {m : Nat} {n : Int}, endsN l m n = true → finN l m n = true
  | 0, n, h => by simp [endsN] at h
  | m + 1, n, h => by
    unfold finN
    by_cases hp : (nd l n).parent = -1
    · rw [if_pos hp]
    · rw [if_neg hp]
      have hu : upN (nd l n) = (nd l n).parent := if_neg hp
      unfold endsN at h
      rw [hu, if_neg hp] at h
      exact fin_of_ends h
theorem ch_len (l : List NodeM) : ∀ (m : Nat) (n : Int), (chN l m n).length ≤ m
  | 0, _ => Nat.le_refl _
  | m + 1, n => by
    unfold chN
    split
    · simp
    · have := ch_len l m (nd l n).parent
      simp; omega
theorem ch_more {l : List NodeM} : ∀ {m k : Nat} {n : Int}, finN l m n = true → m ≤ k → chN l k n = chN l m n
  | 0, k, n, h, _ => by simp [finN] at h
  | m + 1, k, n, h, hk => by
    obtain ⟨k, rfl⟩ : ∃ j, k = j + 1 := ⟨k - 1, by omega⟩
    unfold finN at h
    unfold chN
    by_cases hp : (nd l n).parent = -1
    · rw [if_pos hp, if_pos hp]
    · rw [if_neg hp] at h
      rw [if_neg hp, if_neg hp, ch_more h (by omega)]
structure Tree (l : List NodeM) : Prop where
  par : ∀ n, thereN l n = true → (nd l n).parent ≠ -1 → thereN l (nd l n).parent = true ∧ n ∈ (nd l (nd l n).parent).kids
  kid : ∀ n, thereN l n = true → ∀ k ∈ (nd l n).kids, thereN l k = true ∧ (nd l k).parent = n
  dup : ∀ n, thereN l n = true → (nd l n).kids.Nodup
  fin : ∀ n, thereN l n = true → finN l l.length n = true
  nam : ∀ n, thereN l n = true → namedN (nd l n) = true
theorem there_pos {l : List NodeM} {n : Int} (h : thereN l n = true) : 0 ≤ n ∧ n < (l.length : Int) := by
  unfold thereN at h; simpa using h
variable {l : List NodeM}
theorem up_ind (T : Tree l) {P : Int → Prop} (h0 : ∀ n, thereN l n = true → (nd l n).parent = -1 → P n) (h1 : ∀ n, thereN l n = true → (nd l n).parent ≠ -1 → thereN l (nd l n).parent = true → P (nd l n).parent → P n) : ∀ n, thereN l n = true → P n := by
  have H : ∀ (m : Nat) (n : Int), thereN l n = true → finN l m n = true → P n := by
    intro m
    induction m with
    | zero => intro n _ h; simp [finN] at h
    | succ m ih =>
      intro n hn h
      unfold finN at h
      by_cases hp : (nd l n).parent = -1
      · exact h0 n hn hp
      · rw [if_neg hp] at h
        have hq := (T.par n hn hp).1
        exact h1 n hn hp hq (ih _ hq h)
  exact fun n hn => H _ n hn (T.fin n hn)
theorem way_top (T : Tree l) {n : Int} (hn : thereN l n = true) (hp : (nd l n).parent = -1) : wayN l n = [n] := by
  have := there_pos hn
  obtain ⟨m, hm⟩ : ∃ m, l.length = m + 1 := ⟨l.length - 1, by omega⟩
  unfold wayN; rw [hm]; unfold chN; rw [if_pos hp]
theorem way_step (T : Tree l) {n : Int} (hn : thereN l n = true) (hp : (nd l n).parent ≠ -1) : wayN l n = n :: wayN l (nd l n).parent := by
  have := there_pos hn
  obtain ⟨m, hm⟩ : ∃ m, l.length = m + 1 := ⟨l.length - 1, by omega⟩
  have hf := T.fin n hn
  unfold wayN; rw [hm] at hf ⊢
  unfold finN at hf
  rw [if_neg hp] at hf
  rw [chN, if_neg hp, ch_more hf (Nat.le_succ m)]
theorem way_kid (T : Tree l) {n k : Int} (hn : thereN l n = true) (hk : k ∈ (nd l n).kids) : wayN l k = k :: wayN l n := by
  have h := T.kid n hn k hk
  have h0 := there_pos hn
  have hp : (nd l k).parent ≠ -1 := by rw [h.2]; omega
  rw [way_step T h.1 hp, h.2]
theorem way_head (T : Tree l) {n : Int} (hn : thereN l n = true) : ∃ r, wayN l n = n :: r := by
  by_cases hp : (nd l n).parent = -1
  · exact ⟨[], way_top T hn hp⟩
  · exact ⟨_, way_step T hn hp⟩
theorem way_self (T : Tree l) {n : Int} (hn : thereN l n = true) : n ∈ wayN l n := by
  obtain ⟨r, hr⟩ := way_head T hn; rw [hr]; exact List.mem_cons_self
theorem way_len (n : Int) : (wayN l n).length ≤ l.length := ch_len l _ n
theorem way_there (T : Tree l) : ∀ n, thereN l n = true → ∀ a ∈ wayN l n, thereN l a = true := by
  refine up_ind T (fun n hn hp a ha => ?_) (fun n hn hp hq ih a ha => ?_)
  · rw [way_top T hn hp] at ha; rw [List.mem_singleton.1 ha]; exact hn
  · rw [way_step T hn hp] at ha
    rcases List.mem_cons.1 ha with rfl | h
    · exact hn
    · exact ih a h
theorem way_cut (T : Tree l) : ∀ n, thereN l n = true → ∀ a ∈ wayN l n, ∃ t, wayN l n = t ++ wayN l a := by
  refine up_ind T (fun n hn hp a ha => ?_) (fun n hn hp hq ih a ha => ?_)
  · have h := ha; rw [way_top T hn hp] at h; rw [List.mem_singleton.1 h]; exact ⟨[], rfl⟩
  · have h := ha
    rw [way_step T hn hp] at h
    rcases List.mem_cons.1 h with rfl | h
    · exact ⟨[], rfl⟩
    · obtain ⟨t, ht⟩ := ih a h
      exact ⟨n :: t, by rw [way_step T hn hp, ht]; rfl⟩
theorem way_trans (T : Tree l) {a b c : Int} (hc : thereN l c = true) (h1 : a ∈ wayN l b) (h2 : b ∈ wayN l c) : a ∈ wayN l c := by
  obtain ⟨t, ht⟩ := way_cut T c hc b h2
  rw [ht]; exact List.mem_append_right _ h1
theorem way_eq (T : Tree l) {n a b : Int} (hn : thereN l n = true) (ha : a ∈ wayN l n) (hb : b ∈ wayN l n) (he : (wayN l a).length = (wayN l b).length) : a = b := by
  obtain ⟨t, ht⟩ := way_cut T n hn a ha
  obtain ⟨s, hs⟩ := way_cut T n hn b hb
  rw [ht] at hs
  have h := (List.append_inj' hs he).2
  obtain ⟨r, hr⟩ := way_head T (way_there T n hn a ha)
  obtain ⟨q, hq⟩ := way_head T (way_there T n hn b hb)
  rw [hr, hq] at h
  exact (List.cons.inj h).1
theorem ord_way (T : Tree l) : ∀ (m : Nat) (n : Int), thereN l n = true → ∀ b ∈ ordN l m n, thereN l b = true ∧ n ∈ wayN l b
  | 0, n, _, b, hb => by simp [ordN] at hb
  | m + 1, n, hn, b, hb => by
    unfold ordN at hb
    rcases List.mem_cons.1 hb with rfl | h
    · exact ⟨hn, way_self T hn⟩
    · obtain ⟨k, hk, hbk⟩ := List.mem_flatMap.1 h
      have hkk := T.kid n hn k hk
      obtain ⟨h1, h2⟩ := ord_way T m k hkk.1 b hbk
      refine ⟨h1, way_trans T h1 ?_ h2⟩
      rw [way_kid T hn hk]
      exact List.mem_cons_of_mem _ (way_self T hn)
theorem ord_kid (T : Tree l) : ∀ (m : Nat) (n : Int), thereN l n = true → l.length + 1 ≤ m + (wayN l n).length → ∀ x ∈ ordN l m n, ∀ k ∈ (nd l x).kids, k ∈ ordN l m n
  | 0, n, _, _, x, hx, _, _ => by simp [ordN] at hx
  | m + 1, n, hn, hm, x, hx, k, hk => by
    unfold ordN at hx ⊢
    refine List.mem_cons_of_mem _ (List.mem_flatMap.2 ?_)
    rcases List.mem_cons.1 hx with rfl | h
    · have hkk := T.kid x hn k hk
      have h1 := way_len (l := l) k
      rw [way_kid T hn hk] at h1
      have h2 : (wayN l x).length + 1 ≤ l.length := h1
      obtain ⟨j, hj⟩ : ∃ j, m = j + 1 := ⟨m - 1, by omega⟩
      refine ⟨k, hk, ?_⟩
      rw [hj]; unfold ordN; exact List.mem_cons_self
    · obtain ⟨c, hc, hxc⟩ := List.mem_flatMap.1 h
      have hcc := T.kid n hn c hc
      refine ⟨c, hc, ord_kid T m c hcc.1 ?_ x hxc k hk⟩
      rw [way_kid T hn hc]; simp; omega
theorem way_ord (T : Tree l) {m : Nat} {n : Int} (hn : thereN l n = true) (hm : l.length + 1 ≤ m + (wayN l n).length) : ∀ b, thereN l b = true → n ∈ wayN l b → b ∈ ordN l m n := by
  have hself : n ∈ ordN l m n := by
    have := way_len (l := l) n
    obtain ⟨j, hj⟩ : ∃ j, m = j + 1 := ⟨m - 1, by omega⟩
    rw [hj]; unfold ordN; exact List.mem_cons_self
  refine up_ind T (fun b hb hp h => ?_) (fun b hb hp hq ih h => ?_)
  · rw [way_top T hb hp] at h; rw [← List.mem_singleton.1 h]; exact hself
  · rw [way_step T hb hp] at h
    rcases List.mem_cons.1 h with rfl | h
    · exact hself
    · exact ord_kid T m n hn hm _ (ih h) _ (T.par b hb hp).2
theorem ord_fuel (T : Tree l) {n : Int} (hn : thereN l n = true) : l.length + 1 ≤ l.length + (wayN l n).length := by
  obtain ⟨r, hr⟩ := way_head T hn
  rw [hr]; simp
theorem ord_iff (T : Tree l) {a b : Int} (ha : thereN l a = true) (hb : thereN l b = true) : b ∈ ordN l l.length a ↔ a ∈ wayN l b :=
  ⟨fun h => (ord_way T _ a ha b h).2, fun h => way_ord T ha (ord_fuel T ha) b hb h⟩
theorem ord_nodup (T : Tree l) : ∀ (m : Nat) (n : Int), thereN l n = true → (ordN l m n).Nodup
  | 0, _, _ => List.nodup_nil
  | m + 1, n, hn => by
    unfold ordN
    refine List.nodup_cons.2 ⟨fun h => ?_, ?_⟩
    · obtain ⟨k, hk, hnk⟩ := List.mem_flatMap.1 h
      have hkk := T.kid n hn k hk
      have h1 := (ord_way T m k hkk.1 n hnk).2
      obtain ⟨t, ht⟩ := way_cut T n hn k h1
      have h2 := congrArg List.length ht
      rw [way_kid T hn hk] at h2
      simp at h2
      omega
    · refine List.pairwise_flatMap.2 ⟨fun k hk => ord_nodup T m k (T.kid n hn k hk).1, ?_⟩
      refine List.Pairwise.imp_of_mem (fun {a b} ha hb hab x hx y hy e => ?_) (T.dup n hn)
      subst e
      have h1 := ord_way T m a (T.kid n hn a ha).1 x hx
      have h2 := ord_way T m b (T.kid n hn b hb).1 x hy
      refine hab (way_eq T h1.1 h1.2 h2.2 ?_)
      rw [way_kid T hn ha, way_kid T hn hb]; rfl
theorem nodup_len : ∀ (s t : List Int), t.Nodup → (∀ x ∈ t, x ∈ s) → t.length ≤ s.length
  | [], t, _, h => by
    cases t with
    | nil => exact Nat.le_refl _
    | cons a r => exact absurd (h a List.mem_cons_self) (by simp)
  | a :: s, t, hd, h => by
    have h1 := nodup_len s (t.erase a) (hd.erase a) (fun x hx => by
      have h2 := (hd.mem_erase_iff).1 hx
      rcases List.mem_cons.1 (h x h2.2) with e | e
      · exact absurd e h2.1
      · exact e)
    have h3 : t.length ≤ (t.erase a).length + 1 := by rw [List.length_erase]; split <;> omega
    simp; omega
theorem ints_len {t : List Int} {n : Nat} (hd : t.Nodup) (h : ∀ x ∈ t, 0 ≤ x ∧ x < (n : Int)) : t.length ≤ n := by
  have := nodup_len ((List.range n).map (fun k : Nat => (k : Int))) t hd (fun x hx => by
    have := h x hx
    exact List.mem_map.2 ⟨x.toNat, List.mem_range.2 (by omega), by omega⟩)
  simpa using this
theorem ord_len (T : Tree l) (m : Nat) {n : Int} (hn : thereN l n = true) : (ordN l m n).length ≤ l.length :=
  ints_len (ord_nodup T m n hn) fun x hx => there_pos (ord_way T m n hn x hx).1
def kidP (l : List NodeM) (n : Int) (x : NodeM) (c : Int) : Bool :=
  thereN l c && (decide ((nd l c).parent = n) && (decide ((nd l c).doc = x.doc) && (decide ((nd l c).kind = 1) || (decide ((nd l c).kind = 2) && decide (x.kind ≠ 0)))))
theorem kidsOK_iff {n : Int} {x : NodeM} : ∀ {cs pre : List Int}, kidsOK l n x pre cs = true ↔ (∀ c ∈ cs, kidP l n x c = true) ∧ cs.Nodup ∧ (∀ c ∈ cs, c ∉ pre)
  | [], pre => by simp [kidsOK]
  | a :: r, pre => by
    have hk : kidOK l n x pre a = true ↔ kidP l n x a = true ∧ a ∉ pre := by
      unfold kidOK kidP hasI
      simp only [Bool.and_eq_true, Bool.or_eq_true, decide_eq_true_eq, Bool.not_eq_true', decide_eq_false_iff_not]
      constructor
      · rintro ⟨⟨⟨⟨h1, h2⟩, h3⟩, h4⟩, h5⟩; exact ⟨⟨h1, h3, h4, h5⟩, h2⟩
      · rintro ⟨⟨h1, h3, h4, h5⟩, h2⟩; exact ⟨⟨⟨⟨h1, h2⟩, h3⟩, h4⟩, h5⟩
    unfold kidsOK
    rw [Bool.and_eq_true, hk, kidsOK_iff, List.nodup_cons]
    constructor
    · rintro ⟨⟨h1, h2⟩, h3, h4, h5⟩
      refine ⟨fun c hc => ?_, ⟨fun h => ?_, h4⟩, fun c hc => ?_⟩
      · rcases List.mem_cons.1 hc with rfl | h
        · exact h1
        · exact h3 c h
      · exact h5 a h (by simp)
      · rcases List.mem_cons.1 hc with rfl | h
        · exact h2
        · exact fun h6 => h5 c h (List.mem_append_left _ h6)
    · rintro ⟨h1, ⟨h2, h3⟩, h4⟩
      refine ⟨⟨h1 a List.mem_cons_self, h4 a List.mem_cons_self⟩, fun c hc => h1 c (List.mem_cons_of_mem _ hc), h3, fun c hc h => ?_⟩
      rcases List.mem_append.1 h with h | h
      · exact h4 c (List.mem_cons_of_mem _ hc) h
      · rw [List.mem_singleton] at h; subst h; exact h2 hc
theorem right_nodes {f : ForM} (h : rightF f = true) : ∀ n, thereN f.nodes n = true → nodeOK f.nodes n (nd f.nodes n) = true := by
  intro n hn
  obtain ⟨k, x, rfl, hk, hx⟩ := there_iff.1 hn
  unfold rightF at h
  simp only [Bool.and_eq_true] at h
  have := allIx_iff.1 h.2.1 k x hk
  rw [hx]; simpa using this
theorem right_ends {f : ForM} (h : rightF f = true) : ∀ n, thereN f.nodes n = true → endsN f.nodes f.nodes.length n = true := by
  intro n hn
  obtain ⟨k, x, rfl, hk, hx⟩ := there_iff.1 hn
  unfold rightF at h
  simp only [Bool.and_eq_true] at h
  simpa using allIx_iff.1 h.2.2 k x hk
theorem tree_of {f : ForM} (h : rightF f = true) : Tree f.nodes := by
  have hN := right_nodes h
  have hB : ∀ n, thereN f.nodes n = true → (∀ c ∈ (nd f.nodes n).kids, kidP f.nodes n (nd f.nodes n) c = true) ∧ (nd f.nodes n).kids.Nodup := by
    intro n hn
    have h1 := hN n hn
    unfold nodeOK bearsN at h1
    simp only [Bool.and_eq_true] at h1
    have := kidsOK_iff.1 h1.2.2.2.1.1
    exact ⟨this.1, this.2.1⟩
  refine ⟨fun n hn hp => ?_, fun n hn k hk => ?_, fun n hn => (hB n hn).2, fun n hn => fin_of_ends (right_ends h n hn), fun n hn => ?_⟩
  · have h1 := hN n hn
    unfold nodeOK hungN at h1
    simp only [Bool.and_eq_true, Bool.or_eq_true, decide_eq_true_eq] at h1
    rcases h1.2.2.1 with h2 | h2
    · exact absurd h2 hp
    · refine ⟨h2.1.1.2, ?_⟩
      have := h2.2
      unfold hasI at this; simpa using this
  · have h1 := (hB n hn).1 k hk
    unfold kidP at h1
    simp only [Bool.and_eq_true, decide_eq_true_eq] at h1
    exact ⟨h1.1, h1.2.1⟩
  · have h1 := hN n hn
    unfold nodeOK at h1
    simp only [Bool.and_eq_true] at h1
    exact h1.1
end Go.Proofs.Heir
end
section
set_option linter.unusedSimpArgs false
set_option linter.unusedVariables false
namespace Go.Proofs.Heir
open Go Go.Am Go.RowKit Go.Lib
set_option maxRecDepth 100000
set_option maxHeartbeats 8000000
variable {l : List NodeM}
end Go.Proofs.Heir
end
section
set_option linter.unusedSimpArgs false
set_option linter.unusedVariables false
namespace Go.Proofs.Heir
open Go Go.Am Go.RowKit Go.Lib
set_option maxRecDepth 100000
set_option maxHeartbeats 8000000
variable {l : List NodeM}
theorem node_up (h : ∀ n, thereN l n = true → nodeOK l n (nd l n) = true) : ∀ n, thereN l n = true → upN (nd l n) = -1 ∨ thereN l (upN (nd l n)) = true := by
  intro n hn
  have h0 := h n hn
  unfold nodeOK at h0
  simp only [Bool.and_eq_true] at h0
  obtain ⟨_, _, hH, _, hS⟩ := h0
  unfold upN
  unfold hungN at hH
  simp only [Bool.and_eq_true, Bool.or_eq_true, decide_eq_true_eq] at hH
  by_cases e : (nd l n).parent = -1
  · rw [if_pos e]
    unfold shadedN at hS
    rw [Bool.and_eq_true] at hS
    by_cases e4 : (nd l n).kind = 4
    · rw [if_pos e4] at hS
      unfold isN at hS
      simp only [Bool.and_eq_true] at hS
      exact .inr hS.1.1.1.1
    · rw [if_neg e4] at hS
      exact .inl (by simpa using hS.1)
  · rw [if_neg e]
    rcases hH with h | h
    · exact absurd h e
    · exact .inr h.1.1.2
end Go.Proofs.Heir
end
section
set_option linter.unusedSimpArgs false
set_option linter.unusedVariables false
namespace Go.Proofs.Heir
open Go Go.Am Go.RowKit Go.Lib
set_option maxRecDepth 100000
set_option maxHeartbeats 8000000
def chU (x : NodeM) : List Int := (if x.under = -1 then [] else [x.under]) ++ x.kids
namespace U
def finN (l : List NodeM) : Nat → Int → Bool
  | 0, _ => false
  | m + 1, n => if (upN (nd l n)) = -1 then true else finN l m (upN (nd l n))
def chN (l : List NodeM) : Nat → Int → List Int
  | 0, _ => []
  | m + 1, n => n :: if (upN (nd l n)) = -1 then [] else chN l m (upN (nd l n))
def ordN (l : List NodeM) : Nat → Int → List Int
  | 0, _ => []
  | m + 1, n => n :: (chU (nd l n)).flatMap (ordN l m)
def wayN (l : List NodeM) (n : Int) : List Int := chN l l.length n
theorem fin_of_ends {l : List NodeM} : ∀ {m : Nat} {n : Int}, endsN l m n = true → finN l m n = true
  | 0, n, h => by simp [endsN] at h
  | m + 1, n, h => by
    unfold finN; unfold endsN at h
    by_cases hp : upN (nd l n) = -1
    · rw [if_pos hp]
    · rw [if_neg hp] at h ⊢; exact fin_of_ends h
theorem ch_len (l : List NodeM) : ∀ (m : Nat) (n : Int), (chN l m n).length ≤ m
  | 0, _ => Nat.le_refl _
  | m + 1, n => by
    unfold chN
    split
    · simp
    · have := ch_len l m (upN (nd l n))
      simp; omega
theorem ch_more {l : List NodeM} : ∀ {m k : Nat} {n : Int}, finN l m n = true → m ≤ k → chN l k n = chN l m n
  | 0, k, n, h, _ => by simp [finN] at h
  | m + 1, k, n, h, hk => by
    obtain ⟨k, rfl⟩ : ∃ j, k = j + 1 := ⟨k - 1, by omega⟩
    unfold finN at h
    unfold chN
    by_cases hp : (upN (nd l n)) = -1
    · rw [if_pos hp, if_pos hp]
    · rw [if_neg hp] at h
      rw [if_neg hp, if_neg hp, ch_more h (by omega)]
structure Tree (l : List NodeM) : Prop where
  par : ∀ n, thereN l n = true → (upN (nd l n)) ≠ -1 → thereN l (upN (nd l n)) = true ∧ n ∈ (chU (nd l (upN (nd l n))))
  kid : ∀ n, thereN l n = true → ∀ k ∈ (chU (nd l n)), thereN l k = true ∧ (upN (nd l k)) = n
  dup : ∀ n, thereN l n = true → (chU (nd l n)).Nodup
  fin : ∀ n, thereN l n = true → finN l l.length n = true
variable {l : List NodeM}
theorem up_ind (T : Tree l) {P : Int → Prop} (h0 : ∀ n, thereN l n = true → (upN (nd l n)) = -1 → P n) (h1 : ∀ n, thereN l n = true → (upN (nd l n)) ≠ -1 → thereN l (upN (nd l n)) = true → P (upN (nd l n)) → P n) : ∀ n, thereN l n = true → P n := by
  have H : ∀ (m : Nat) (n : Int), thereN l n = true → finN l m n = true → P n := by
    intro m
    induction m with
    | zero => intro n _ h; simp [finN] at h
    | succ m ih =>
      intro n hn h
      unfold finN at h
      by_cases hp : (upN (nd l n)) = -1
      · exact h0 n hn hp
      · rw [if_neg hp] at h
        have hq := (T.par n hn hp).1
        exact h1 n hn hp hq (ih _ hq h)
  exact fun n hn => H _ n hn (T.fin n hn)
theorem way_top (T : Tree l) {n : Int} (hn : thereN l n = true) (hp : (upN (nd l n)) = -1) : wayN l n = [n] := by
  have := there_pos hn
  obtain ⟨m, hm⟩ : ∃ m, l.length = m + 1 := ⟨l.length - 1, by omega⟩
  unfold wayN; rw [hm]; unfold chN; rw [if_pos hp]
theorem way_step (T : Tree l) {n : Int} (hn : thereN l n = true) (hp : (upN (nd l n)) ≠ -1) : wayN l n = n :: wayN l (upN (nd l n)) := by
  have := there_pos hn
  obtain ⟨m, hm⟩ : ∃ m, l.length = m + 1 := ⟨l.length - 1, by omega⟩
  have hf := T.fin n hn
  unfold wayN; rw [hm] at hf ⊢
  unfold finN at hf
  rw [if_neg hp] at hf
  rw [chN, if_neg hp, ch_more hf (Nat.le_succ m)]
theorem way_kid (T : Tree l) {n k : Int} (hn : thereN l n = true) (hk : k ∈ (chU (nd l n))) : wayN l k = k :: wayN l n := by
  have h := T.kid n hn k hk
  have h0 := there_pos hn
  have hp : (upN (nd l k)) ≠ -1 := by rw [h.2]; omega
  rw [way_step T h.1 hp, h.2]
theorem way_head (T : Tree l) {n : Int} (hn : thereN l n = true) : ∃ r, wayN l n = n :: r := by
  by_cases hp : (upN (nd l n)) = -1
  · exact ⟨[], way_top T hn hp⟩
  · exact ⟨_, way_step T hn hp⟩
theorem way_self (T : Tree l) {n : Int} (hn : thereN l n = true) : n ∈ wayN l n := by
  obtain ⟨r, hr⟩ := way_head T hn; rw [hr]; exact List.mem_cons_self
theorem way_len (n : Int) : (wayN l n).length ≤ l.length := ch_len l _ n
theorem way_there (T : Tree l) : ∀ n, thereN l n = true → ∀ a ∈ wayN l n, thereN l a = true := by
  refine up_ind T (fun n hn hp a ha => ?_) (fun n hn hp hq ih a ha => ?_)
  · rw [way_top T hn hp] at ha; rw [List.mem_singleton.1 ha]; exact hn
  · rw [way_step T hn hp] at ha
    rcases List.mem_cons.1 ha with rfl | h
    · exact hn
    · exact ih a h
theorem way_cut (T : Tree l) : ∀ n, thereN l n = true → ∀ a ∈ wayN l n, ∃ t, wayN l n = t ++ wayN l a := by
  refine up_ind T (fun n hn hp a ha => ?_) (fun n hn hp hq ih a ha => ?_)
  · have h := ha; rw [way_top T hn hp] at h; rw [List.mem_singleton.1 h]; exact ⟨[], rfl⟩
  · have h := ha
    rw [way_step T hn hp] at h
    rcases List.mem_cons.1 h with rfl | h
    · exact ⟨[], rfl⟩
    · obtain ⟨t, ht⟩ := ih a h
      exact ⟨n :: t, by rw [way_step T hn hp, ht]; rfl⟩
theorem way_trans (T : Tree l) {a b c : Int} (hc : thereN l c = true) (h1 : a ∈ wayN l b) (h2 : b ∈ wayN l c) : a ∈ wayN l c := by
  obtain ⟨t, ht⟩ := way_cut T c hc b h2
  rw [ht]; exact List.mem_append_right _ h1
theorem way_eq (T : Tree l) {n a b : Int} (hn : thereN l n = true) (ha : a ∈ wayN l n) (hb : b ∈ wayN l n) (he : (wayN l a).length = (wayN l b).length) : a = b := by
  obtain ⟨t, ht⟩ := way_cut T n hn a ha
  obtain ⟨s, hs⟩ := way_cut T n hn b hb
  rw [ht] at hs
  have h := (List.append_inj' hs he).2
  obtain ⟨r, hr⟩ := way_head T (way_there T n hn a ha)
  obtain ⟨q, hq⟩ := way_head T (way_there T n hn b hb)
  rw [hr, hq] at h
  exact (List.cons.inj h).1
theorem ord_way (T : Tree l) : ∀ (m : Nat) (n : Int), thereN l n = true → ∀ b ∈ ordN l m n, thereN l b = true ∧ n ∈ wayN l b
  | 0, n, _, b, hb => by simp [ordN] at hb
  | m + 1, n, hn, b, hb => by
    unfold ordN at hb
    rcases List.mem_cons.1 hb with rfl | h
    · exact ⟨hn, way_self T hn⟩
    · obtain ⟨k, hk, hbk⟩ := List.mem_flatMap.1 h
      have hkk := T.kid n hn k hk
      obtain ⟨h1, h2⟩ := ord_way T m k hkk.1 b hbk
      refine ⟨h1, way_trans T h1 ?_ h2⟩
      rw [way_kid T hn hk]
      exact List.mem_cons_of_mem _ (way_self T hn)
theorem ord_kid (T : Tree l) : ∀ (m : Nat) (n : Int), thereN l n = true → l.length + 1 ≤ m + (wayN l n).length → ∀ x ∈ ordN l m n, ∀ k ∈ (chU (nd l x)), k ∈ ordN l m n
  | 0, n, _, _, x, hx, _, _ => by simp [ordN] at hx
  | m + 1, n, hn, hm, x, hx, k, hk => by
    unfold ordN at hx ⊢
    refine List.mem_cons_of_mem _ (List.mem_flatMap.2 ?_)
    rcases List.mem_cons.1 hx with rfl | h
    · have hkk := T.kid x hn k hk
      have h1 := way_len (l := l) k
      rw [way_kid T hn hk] at h1
      have h2 : (wayN l x).length + 1 ≤ l.length := h1
      obtain ⟨j, hj⟩ : ∃ j, m = j + 1 := ⟨m - 1, by omega⟩
      refine ⟨k, hk, ?_⟩
      rw [hj]; unfold ordN; exact List.mem_cons_self
    · obtain ⟨c, hc, hxc⟩ := List.mem_flatMap.1 h
      have hcc := T.kid n hn c hc
      refine ⟨c, hc, ord_kid T m c hcc.1 ?_ x hxc k hk⟩
      rw [way_kid T hn hc]; simp; omega
theorem way_ord (T : Tree l) {m : Nat} {n : Int} (hn : thereN l n = true) (hm : l.length + 1 ≤ m + (wayN l n).length) : ∀ b, thereN l b = true → n ∈ wayN l b → b ∈ ordN l m n := by
  have hself : n ∈ ordN l m n := by
    have := way_len (l := l) n
    obtain ⟨j, hj⟩ : ∃ j, m = j + 1 := ⟨m - 1, by omega⟩
    rw [hj]; unfold ordN; exact List.mem_cons_self
  refine up_ind T (fun b hb hp h => ?_) (fun b hb hp hq ih h => ?_)
  · rw [way_top T hb hp] at h; rw [← List.mem_singleton.1 h]; exact hself
  · rw [way_step T hb hp] at h
    rcases List.mem_cons.1 h with rfl | h
    · exact hself
    · exact ord_kid T m n hn hm _ (ih h) _ (T.par b hb hp).2
theorem ord_fuel (T : Tree l) {n : Int} (hn : thereN l n = true) : l.length + 1 ≤ l.length + (wayN l n).length := by
  obtain ⟨r, hr⟩ := way_head T hn
  rw [hr]; simp
theorem ord_iff (T : Tree l) {a b : Int} (ha : thereN l a = true) (hb : thereN l b = true) : b ∈ ordN l l.length a ↔ a ∈ wayN l b :=
  ⟨fun h => (ord_way T _ a ha b h).2, fun h => way_ord T ha (ord_fuel T ha) b hb h⟩
theorem ord_nodup (T : Tree l) : ∀ (m : Nat) (n : Int), thereN l n = true → (ordN l m n).Nodup
  | 0, _, _ => List.nodup_nil
  | m + 1, n, hn => by
    unfold ordN
    refine List.nodup_cons.2 ⟨fun h => ?_, ?_⟩
    · obtain ⟨k, hk, hnk⟩ := List.mem_flatMap.1 h
      have hkk := T.kid n hn k hk
      have h1 := (ord_way T m k hkk.1 n hnk).2
      obtain ⟨t, ht⟩ := way_cut T n hn k h1
      have h2 := congrArg List.length ht
      rw [way_kid T hn hk] at h2
      simp at h2
      omega
    · refine List.pairwise_flatMap.2 ⟨fun k hk => ord_nodup T m k (T.kid n hn k hk).1, ?_⟩
      refine List.Pairwise.imp_of_mem (fun {a b} ha hb hab x hx y hy e => ?_) (T.dup n hn)
      subst e
      have h1 := ord_way T m a (T.kid n hn a ha).1 x hx
      have h2 := ord_way T m b (T.kid n hn b hb).1 x hy
      refine hab (way_eq T h1.1 h1.2 h2.2 ?_)
      rw [way_kid T hn ha, way_kid T hn hb]; rfl
theorem ord_len (T : Tree l) (m : Nat) {n : Int} (hn : thereN l n = true) : (ordN l m n).length ≤ l.length :=
  ints_len (ord_nodup T m n hn) fun x hx => there_pos (ord_way T m n hn x hx).1
theorem tree_of {f : ForM} (h : rightF f = true) : Tree f.nodes := by
  have hN := right_nodes h
  have T := Heir.tree_of h
  have kidK : ∀ n, thereN f.nodes n = true → ∀ c ∈ (nd f.nodes n).kids, (nd f.nodes c).kind = 1 ∨ (nd f.nodes c).kind = 2 := by
    intro n hn c hc
    have h1 := hN n hn
    unfold nodeOK bearsN at h1
    simp only [Bool.and_eq_true] at h1
    have h2 := (kidsOK_iff.1 h1.2.2.2.1.1).1 c hc
    unfold kidP at h2
    simp only [Bool.and_eq_true, Bool.or_eq_true, decide_eq_true_eq] at h2
    rcases h2.2.2.2 with h3 | h3
    · exact .inl h3
    · exact .inr h3.1
  have und : ∀ n, thereN f.nodes n = true → (nd f.nodes n).under ≠ -1 → thereN f.nodes (nd f.nodes n).under = true ∧ (nd f.nodes (nd f.nodes n).under).kind = 4 ∧ (nd f.nodes (nd f.nodes n).under).host = n := by
    intro n hn hu
    have h1 := hN n hn
    unfold nodeOK shadedN isN at h1
    simp only [Bool.and_eq_true, Bool.or_eq_true, decide_eq_true_eq] at h1
    rcases h1.2.2.2.2.2 with h2 | h2
    · exact absurd h2 hu
    · exact ⟨h2.1.2.1, h2.1.2.2, h2.2⟩
  have top4 : ∀ n, thereN f.nodes n = true → (nd f.nodes n).kind = 4 → (nd f.nodes n).parent = -1 := by
    intro n hn hk
    have h1 := hN n hn
    unfold nodeOK hungN at h1
    simp only [Bool.and_eq_true, Bool.or_eq_true, decide_eq_true_eq] at h1
    rcases h1.2.2.1 with h2 | h2
    · exact h2
    · rcases h2.1.1.1 with h3 | h3 <;> (rw [hk] at h3; cases h3)
  have mem : ∀ (x : NodeM) (k : Int), k ∈ chU x ↔ (x.under ≠ -1 ∧ k = x.under) ∨ k ∈ x.kids := by
    intro x k
    unfold chU
    rw [List.mem_append]
    by_cases hu : x.under = -1
    · simp [hu]
    · simp [hu]
  refine ⟨fun n hn hp => ?_, fun n hn k hk => ?_, fun n hn => ?_, fun n hn => fin_of_ends (right_ends h n hn)⟩
  · unfold upN at hp ⊢
    by_cases hq : (nd f.nodes n).parent = -1
    · rw [if_pos hq] at hp ⊢
      have h1 := hN n hn
      unfold nodeOK shadedN at h1
      simp only [Bool.and_eq_true] at h1
      have h2 := h1.2.2.2.2.1
      by_cases hk : (nd f.nodes n).kind = 4
      · rw [if_pos hk] at h2
        unfold isN at h2
        simp only [Bool.and_eq_true, decide_eq_true_eq] at h2
        refine ⟨h2.1.1.1, (mem _ _).2 (.inl ⟨?_, h2.1.2.symm⟩)⟩
        rw [h2.1.2]
        have := there_pos hn
        omega
      · rw [if_neg hk] at h2
        exact absurd (by simpa using h2) hp
    · rw [if_neg hq]
      have h1 := T.par n hn hq
      exact ⟨h1.1, (mem _ _).2 (.inr h1.2)⟩
  · have hn0 := there_pos hn
    rcases (mem _ _).1 hk with ⟨h1, rfl⟩ | h1
    · obtain ⟨h2, h3, h4⟩ := und n hn h1
      exact ⟨h2, by unfold upN; rw [if_pos (top4 _ h2 h3)]; exact h4⟩
    · obtain ⟨h2, h3⟩ := T.kid n hn k h1
      exact ⟨h2, by unfold upN; rw [if_neg (by rw [h3]; omega)]; exact h3⟩
  · unfold chU
    by_cases hu : (nd f.nodes n).under = -1
    · rw [if_pos hu]; exact T.dup n hn
    · rw [if_neg hu]
      refine List.nodup_cons.2 ⟨fun hm => ?_, T.dup n hn⟩
      have h1 := (und n hn hu).2.1
      rcases kidK n hn _ hm with h2 | h2 <;> (rw [h1] at h2; cases h2)
end U
end Go.Proofs.Heir
end
section
set_option linter.unusedSimpArgs false
set_option linter.unusedVariables false
namespace Go.Proofs.Heir
open Go Go.Am Go.RowKit Go.Lib
set_option maxRecDepth 100000
set_option maxHeartbeats 8000000
theorem AppK.take {rb rs : List AV} {off len off' len' bytes : Nat} {acc : Tk} {sl : SL} {m : ML} {A : List AV → Tk → SL → ML → Prop} (rows0 news : List AV) (h0 : off = 0 ∧ len ≤ rb.length ∧ rows0 = rb.take len) (h1 : off' = 0 ∧ len' = rs.length ∧ news = rs) (h2 : oneL (flat news) = true)
    (h3 : (rows0.length + news.length) * bytes ≤ 140737488355328) (h4 : rows0.length + news.length ≤ 9223372036854775807) (h : A (rows0 ++ news) acc sl m) : AppK rb off len rs off' len' bytes acc sl m (A := A) := by
  obtain ⟨rfl, hl, rfl⟩ := h0
  obtain ⟨rfl, rfl, rfl⟩ := h1
  exact ⟨_, _, by omega, by simp, by omega, by simp, h2, h3, h4, h⟩
theorem flatMap_congrI {α β : Type} {f g : α → List β} : ∀ {l : List α}, (∀ a ∈ l, f a = g a) → l.flatMap f = l.flatMap g
  | [], _ => rfl
  | a :: r, h => by rw [List.flatMap_cons, List.flatMap_cons, h a List.mem_cons_self, flatMap_congrI fun b hb => h b (List.mem_cons_of_mem _ hb)]
namespace U
variable {l : List NodeM}
theorem ord_more (T : Tree l) : ∀ (m : Nat) (n : Int), thereN l n = true → l.length + 1 ≤ m + (wayN l n).length → ordN l (m + 1) n = ordN l m n
  | 0, n, _, h => by have := way_len (l := l) n; omega
  | m + 1, n, hn, h => by
    rw [ordN, ordN]
    congr 1
    refine flatMap_congrI fun k hk => ?_
    refine ord_more T m k (T.kid n hn k hk).1 ?_
    rw [way_kid T hn hk]; simp; omega
theorem ord_eq (T : Tree l) {n : Int} (hn : thereN l n = true) : ordN l l.length n = n :: (chU (nd l n)).flatMap (ordN l l.length) := by
  have h0 := there_pos hn
  obtain ⟨m, hm⟩ : ∃ m, l.length = m + 1 := ⟨l.length - 1, by omega⟩
  have h1 : ∀ k ∈ chU (nd l n), ordN l l.length k = ordN l m k := fun k hk => by
    rw [hm]
    refine ord_more T m k (T.kid n hn k hk).1 ?_
    obtain ⟨r, hr⟩ := way_head T hn
    rw [way_kid T hn hk, hr]; simp; omega
  conv => lhs; rw [hm, ordN]
  congr 1
  exact flatMap_congrI fun k hk => (h1 k hk).symm
def rest (l : List NodeM) (st : List Int) : List Int := st.reverse.flatMap (ordN l l.length)
theorem rest_pop (T : Tree l) {st : List Int} {t : Int} (ht : thereN l t = true) : rest l (st ++ [t]) = t :: rest l (st ++ (chU (nd l t)).reverse) := by
  unfold rest
  rw [List.reverse_append, List.reverse_append, List.reverse_reverse]
  simp only [List.reverse_cons, List.reverse_nil, List.nil_append, List.cons_append, List.flatMap_cons, List.flatMap_append]
  rw [ord_eq T ht]; rfl
theorem rest_len (T : Tree l) : ∀ {st : List Int}, (∀ c ∈ st, thereN l c = true) → st.length ≤ (rest l st).length := by
  intro st h
  unfold rest
  have : ∀ s : List Int, (∀ c ∈ s, thereN l c = true) → s.length ≤ (s.flatMap (ordN l l.length)).length := by
    intro s
    induction s with
    | nil => intro _; exact Nat.le_refl _
    | cons a r ih =>
      intro h
      have h1 := ih fun c hc => h c (List.mem_cons_of_mem _ hc)
      rw [List.flatMap_cons, List.length_append, ord_eq T (h a List.mem_cons_self), List.length_cons, List.length_cons]
      omega
  have := this st.reverse fun c hc => h c (by simpa using hc)
  simpa using this
end U
end Go.Proofs.Heir
end
section
set_option linter.unusedSimpArgs false
set_option linter.unusedVariables false
namespace Go.Proofs.Heir
open Go Go.Am Go.RowKit Go.Lib
set_option maxRecDepth 100000
set_option maxHeartbeats 8000000
end Go.Proofs.Heir
end
section
set_option linter.unusedSimpArgs false
set_option linter.unusedVariables false
namespace Go.Proofs.Heir
open Go Go.Am Go.RowKit Go.Lib
set_option maxRecDepth 100000
set_option maxHeartbeats 8000000
theorem f122_ok (f : ForM) (n : Int) : FnOK Tryz.prog 122 [] [eFor f, eInt n] [] (eBool (thereN f.nodes n)) := by
  obtain ⟨l, m⟩ := f
  have hlm : (l.map oNode).length = l.length := List.length_map ..
  refine FnOK.startC (rvs := [.tmp 4]) G G_good Tryz.func122 rfl Tryz.ntmps122 rfl rfl ?_; with_reducible refine wD ?_
  by_cases h : (0 : Int) ≤ n
  · (have fct := h; (repeat' (first
    | refine gF ?_
    | ((with_reducible show (_ ∧ _) ∧ _ ∧ _); (refine eK ?_ ?_ <;> with_reducible repeat' (first | exact trivial | (show _ ∧ _; refine aK ?_ ?_)))))); all_goals clear fct)
    all_goals simp [thereN, h]
  · (have fct := (eq_false h); (repeat' (first
    | refine gF ?_
    | ((with_reducible show (_ ∧ _) ∧ _ ∧ _); (refine eK ?_ ?_ <;> with_reducible repeat' (first | exact trivial | (show _ ∧ _; refine aK ?_ ?_)))))); all_goals clear fct)
    all_goals simp [thereN, h]
theorem f147_ok (k : Int) : FnOK Tryz.prog 147 [] [eInt k] [] (eBool (holdK k)) := by
  refine FnOK.startC (rvs := [.tmp 2]) G G_good Tryz.func147 rfl Tryz.ntmps147 rfl rfl ?_; with_reducible refine wD ?_
  by_cases e0 : k = 0
  · (have fct := e0; (repeat' (first
    | refine gF ?_
    | ((with_reducible show (_ ∧ _) ∧ _ ∧ _); (refine eK ?_ ?_ <;> with_reducible repeat' (first | exact trivial | (show _ ∧ _; refine aK ?_ ?_)))))); all_goals clear fct)
    all_goals simp [holdK, e0]
  · by_cases e1 : k = 1
    · (have fct := e1; (repeat' (first
    | refine gF ?_
    | ((with_reducible show (_ ∧ _) ∧ _ ∧ _); (refine eK ?_ ?_ <;> with_reducible repeat' (first | exact trivial | (show _ ∧ _; refine aK ?_ ?_)))))); all_goals clear fct)
      all_goals simp [holdK, e1]
    · by_cases e3 : k = 3
      · (have fct := e3; (repeat' (first
    | refine gF ?_
    | ((with_reducible show (_ ∧ _) ∧ _ ∧ _); (refine eK ?_ ?_ <;> with_reducible repeat' (first | exact trivial | (show _ ∧ _; refine aK ?_ ?_)))))); all_goals clear fct)
        all_goals simp [holdK, e3]
      · by_cases e4 : k = 4
        · (have fct := e4; (repeat' (first
    | refine gF ?_
    | ((with_reducible show (_ ∧ _) ∧ _ ∧ _); (refine eK ?_ ?_ <;> with_reducible repeat' (first | exact trivial | (show _ ∧ _; refine aK ?_ ?_)))))); all_goals clear fct)
          all_goals simp [holdK, e4]
        · (have fct := And.intro e0 (And.intro e1 (And.intro e3 (e4))); (repeat' (first
    | refine gF ?_
    | ((with_reducible show (_ ∧ _) ∧ _ ∧ _); (refine eK ?_ ?_ <;> with_reducible repeat' (first | exact trivial | (show _ ∧ _; refine aK ?_ ?_)))))); all_goals clear fct)
          all_goals simp [holdK, e0, e1, e3, e4]
theorem f146_ok (f : ForM) (n k : Int) : FnOK Tryz.prog 146 [] [eFor f, eInt n, eInt k] [] (eBool (isN f.nodes n k)) := by
  have h49 := f122_ok f n
  obtain ⟨l, m⟩ := f
  refine FnOK.startC (rvs := [.tmp 6]) G G_good Tryz.func146 rfl Tryz.ntmps146 rfl rfl ?_; with_reducible refine wD ?_
  refine CallK.lit [] h49 c122 ⟨⟨rfl, rfl, trivial⟩, rfl, trivial⟩ rfl rfl ?_; with_reducible refine wK ?_
  cases ht : thereN l n with
  | false =>
    (have fct := ht; (repeat' (first
    | refine gF ?_
    | ((with_reducible show (_ ∧ _) ∧ _ ∧ _); (refine eK ?_ ?_ <;> with_reducible repeat' (first | exact trivial | (show _ ∧ _; refine aK ?_ ?_)))))); all_goals clear fct)
    all_goals simp [isN, ht]
  | true =>
    obtain ⟨i, x, rfl, hx, hnd⟩ := there_iff.1 ht
    obtain ⟨a1, a2, a3, a4, a5, a6, a7, a8, a9, a10⟩ := x
    (have fct := ht; (repeat' (first
    | refine gF ?_
    | ((refine IdxK.mk i (eNode ⟨a1, a2, a3, a4, a5, a6, a7, a8, a9, a10⟩) rfl (node_get hx) ?_) <;> with_reducible refine wK ?_)
    | ((with_reducible show (_ ∧ _) ∧ _ ∧ _); (refine eK ?_ ?_ <;> with_reducible repeat' (first | exact trivial | (show _ ∧ _; refine aK ?_ ?_)))))); all_goals clear fct)
    all_goals simp [isN, ht, hnd]
theorem f79_ok (l : List Int) (hl : l.length ≤ 100000) (n : Int) : FnOK Tryz.prog 79 [] [eInts l, eInt n] [] (eInt (idxI (fun x => decide (x = n)) l)) := by
  have hlm : (l.map oInt).length = l.length := List.length_map ..
  refine FnOK.startC (rvs := [.tmp 4]) G G_good Tryz.func79 rfl Tryz.ntmps79 rfl rfl ?_; with_reducible refine wD ?_
  refine LoopK.use G G_good (fun (k : Nat) => [(0, eInts l), (1, eInt n), (7, eInt l.length), (8, eInt k)]) (fun _ => []) (fun k => k ≤ l.length ∧ ∀ j x, j < k → l[j]? = some x → decide (x = n) = false) (fun k => l.length - k) 0 ⟨Nat.zero_le _, fun j x h => by omega⟩
    ⟨⟨rfl, rfl⟩, ⟨rfl, rfl, by show (l.length : Int) = ((l.map oInt).length : Int); rw [hlm], rfl, trivial⟩, trivial⟩ ?_
  rintro k ⟨hk, hno⟩
  with_reducible refine wK ?_
  refine IfK.mk (fun h1 => ?_) (fun h1 => ?_) <;> (try simp only [castN] at h1) <;> with_reducible refine wK ?_
  · have hk' : k < l.length := by simp only [decide_eq_true_eq] at h1; omega
    obtain ⟨a, ha⟩ : ∃ a, l[k]? = some a := ⟨_, List.getElem?_eq_getElem hk'⟩
    refine IdxK.mk k (eInt a) rfl (int_get ha) ?_; with_reducible refine wK ?_
    refine IfK.mk (fun h2 => ?_) (fun h2 => ?_) <;> (try simp only [castN] at h2) <;> with_reducible refine wK ?_
    · (refine eK ?_ ?_ <;> with_reducible repeat' (first | exact trivial | (show _ ∧ _; refine aK ?_ ?_)))
      refine idxI_hit (p := fun x => decide (x = n)) ha ?_ hno
      simp only [decide_eq_true_eq] at h2 ⊢; exact h2.symm
    · refine nK ?_; with_reducible refine wK ?_
      refine NextK.mk (k + 1) ⟨by omega, fun j x hj hx => ?_⟩ (by omega) ⟨⟨rfl, rfl⟩, ⟨rfl, rfl, rfl, by show ((k + 1 : Nat) : Int) = (k : Int) + 1; omega, trivial⟩, trivial⟩
      rcases Nat.lt_or_ge j k with h3 | h3
      · exact hno j x h3 hx
      · have : j = k := by omega
        subst this
        rw [ha] at hx; cases hx
        simp only [decide_eq_false_iff_not] at h2 ⊢; exact fun e => h2 e.symm
  · (refine eK ?_ ?_ <;> with_reducible repeat' (first | exact trivial | (show _ ∧ _; refine aK ?_ ?_)))
    exact idxI_none fun j x hx => hno j x (by have := (List.getElem?_eq_some_iff.1 hx).1; simp only [decide_eq_false_iff_not] at h1; omega) hx
theorem idxI_has {l : List Int} {n : Int} : decide (0 ≤ idxI (fun x => decide (x = n)) l) = hasI l n := by
  rw [Bool.eq_iff_iff, decide_eq_true_eq]
  unfold hasI
  rw [decide_eq_true_eq]
  unfold idxI
  cases h : l.findIdx? (fun x => decide (x = n)) with
  | none =>
    rw [List.findIdx?_eq_none_iff] at h
    simp only
    refine ⟨fun h' => by omega, fun hs => ?_⟩
    have := h n hs
    simp at this
  | some k =>
    rw [List.findIdx?_eq_some_iff_getElem] at h
    obtain ⟨hk, h2, _⟩ := h
    simp only
    exact ⟨fun _ => by rw [← of_decide_eq_true h2]; exact List.getElem_mem hk, fun _ => by omega⟩
theorem f148_ok (l : List Int) (hl : l.length ≤ 100000) (n : Int) : FnOK Tryz.prog 148 [] [eInts l, eInt n] [] (eBool (hasI l n)) := by
  rw [← idxI_has]
  refine FnOK.startC (rvs := [.tmp 4]) G G_good Tryz.func148 rfl Tryz.ntmps148 rfl rfl ?_; with_reducible refine wD ?_
  refine CallK.lit [] (f79_ok l hl n) c79 ⟨rfl, rfl, trivial⟩ rfl rfl ?_; with_reducible refine wK ?_
  (refine eK ?_ ?_ <;> with_reducible repeat' (first | exact trivial | (show _ ∧ _; refine aK ?_ ?_)))
theorem f149_ok (f : ForM) (k : Nat) (x : NodeM) (hx : f.nodes[k]? = some x) : FnOK Tryz.prog 149 [] [eFor f, eInt k] [] (eInt (upN x)) := by
  obtain ⟨l, m⟩ := f
  obtain ⟨a1, a2, a3, a4, a5, a6, a7, a8, a9, a10⟩ := x
  refine FnOK.startC (rvs := [.tmp 4]) G G_good Tryz.func149 rfl Tryz.ntmps149 rfl rfl ?_; with_reducible refine wD ?_
  refine IdxK.mk k (eNode ⟨a1, a2, a3, a4, a5, a6, a7, a8, a9, a10⟩) rfl (node_get hx) ?_; with_reducible refine wK ?_
  unfold upN
  by_cases e : a6 = -1
  · (have fct := e; (repeat' (first
    | refine gF ?_
    | ((refine IdxK.mk k (eNode ⟨a1, a2, a3, a4, a5, a6, a7, a8, a9, a10⟩) rfl (node_get hx) ?_) <;> with_reducible refine wK ?_)
    | ((with_reducible show (_ ∧ _) ∧ _ ∧ _); (refine eK ?_ ?_ <;> with_reducible repeat' (first | exact trivial | (show _ ∧ _; refine aK ?_ ?_)))))); all_goals clear fct)
    all_goals simp [e]
  · (have fct := (eq_false e); (repeat' (first
    | refine gF ?_
    | ((refine IdxK.mk k (eNode ⟨a1, a2, a3, a4, a5, a6, a7, a8, a9, a10⟩) rfl (node_get hx) ?_) <;> with_reducible refine wK ?_)
    | ((with_reducible show (_ ∧ _) ∧ _ ∧ _); (refine eK ?_ ?_ <;> with_reducible repeat' (first | exact trivial | (show _ ∧ _; refine aK ?_ ?_)))))); all_goals clear fct)
    all_goals simp [e]
end Go.Proofs.Heir
end
section
set_option linter.unusedSimpArgs false
set_option linter.unusedVariables false
namespace Go.Proofs.Heir
open Go Go.Am Go.RowKit Go.Lib
set_option maxRecDepth 100000
set_option maxHeartbeats 8000000
theorem f93_ok (f : ForM) (k : Nat) (x : NodeM) (hx : f.nodes[k]? = some x) : FnOK Tryz.prog 93 [] [eFor f, eInt k] [] (eBool (ownedN f.nodes k x)) := by
  have h55 := f146_ok f x.doc 0
  obtain ⟨l, m⟩ := f
  obtain ⟨a1, a2, a3, a4, a5, a6, a7, a8, a9, a10⟩ := x
  unfold ownedN
  simp only at h55 hx ⊢
  refine FnOK.startC (rvs := [.tmp 4]) G G_good Tryz.func93 rfl Tryz.ntmps93 rfl rfl ?_; with_reducible refine wD ?_
  refine IdxK.mk k (eNode ⟨a1, a2, a3, a4, a5, a6, a7, a8, a9, a10⟩) rfl (node_get hx) ?_; with_reducible refine wK ?_
  refine CallK.lit [] h55 c146 ⟨⟨rfl, rfl, trivial⟩, rfl, rfl, trivial⟩ rfl rfl ?_; with_reducible refine wK ?_
  cases hi : isN l a10 0 with
  | false =>
    (have fct := hi; (repeat' (first
    | refine gF ?_
    | ((with_reducible show (_ ∧ _) ∧ _ ∧ _); (refine eK ?_ ?_ <;> with_reducible repeat' (first | exact trivial | (show _ ∧ _; refine aK ?_ ?_)))))); all_goals clear fct)
    all_goals simp [hi]
  | true =>
    by_cases e : a1 = 0
    · (have fct := And.intro hi (e); (repeat' (first
    | refine gF ?_
    | ((with_reducible show (_ ∧ _) ∧ _ ∧ _); (refine eK ?_ ?_ <;> with_reducible repeat' (first | exact trivial | (show _ ∧ _; refine aK ?_ ?_)))))); all_goals clear fct)
      all_goals simp [hi, e]
    · (have fct := And.intro hi ((eq_false e)); (repeat' (first
    | refine gF ?_
    | ((with_reducible show (_ ∧ _) ∧ _ ∧ _); (refine eK ?_ ?_ <;> with_reducible repeat' (first | exact trivial | (show _ ∧ _; refine aK ?_ ?_)))))); all_goals clear fct)
      all_goals simp [hi, e]
theorem f94_ok (f : ForM) (hs : SmallN f.nodes) (k : Nat) (x : NodeM) (hx : f.nodes[k]? = some x) : FnOK Tryz.prog 94 [] [eFor f, eInt k] [] (eBool (hungN f.nodes k x)) := by
  have h49 := f122_ok f x.parent
  have h56 := f147_ok (nd f.nodes x.parent).kind
  have h57 : thereN f.nodes x.parent = true → FnOK Tryz.prog 148 [] [eInts (nd f.nodes x.parent).kids, eInt k] [] (eBool (hasI (nd f.nodes x.parent).kids k)) := fun ht => by
    obtain ⟨i, y, _, hy, hnd⟩ := there_iff.1 ht
    rw [hnd]
    exact f148_ok y.kids (by have := hs.kids y (List.mem_of_getElem? hy); omega) k
  obtain ⟨l, m⟩ := f
  obtain ⟨a1, a2, a3, a4, a5, a6, a7, a8, a9, a10⟩ := x
  unfold hungN
  simp only at h49 h56 h57 hx ⊢
  refine FnOK.startC (rvs := [.tmp 4]) G G_good Tryz.func94 rfl Tryz.ntmps94 rfl rfl ?_; with_reducible refine wD ?_
  refine IdxK.mk k (eNode ⟨a1, a2, a3, a4, a5, a6, a7, a8, a9, a10⟩) rfl (node_get hx) ?_; with_reducible refine wK ?_
  by_cases e6 : a6 = -1
  · (have fct := e6; (repeat' (first
    | refine gF ?_
    | ((with_reducible show (_ ∧ _) ∧ _ ∧ _); (refine eK ?_ ?_ <;> with_reducible repeat' (first | exact trivial | (show _ ∧ _; refine aK ?_ ?_)))))); all_goals clear fct)
    all_goals simp [e6]
  · refine IfK.no (by simp [e6]) ?_; with_reducible refine wK ?_
    have rest : ∀ b : Bool, (decide (a1 = 1) || decide (a1 = 2)) = b → (b = false ∨ b = true) := fun b _ => by cases b <;> simp
    cases ht : thereN l a6 with
    | false =>
      by_cases e1 : a1 = 1
      · (have fct := And.intro e1 (And.intro ht ((eq_false e6))); (repeat' (first
    | refine gF ?_
    | (((with_reducible show CallK _ _ 122 _ _ _ _); refine CallK.lit [] h49 c122 ⟨⟨rfl, rfl, trivial⟩, rfl, trivial⟩ rfl rfl ?_) <;> with_reducible refine wK ?_)
    | ((with_reducible show (_ ∧ _) ∧ _ ∧ _); (refine eK ?_ ?_ <;> with_reducible repeat' (first | exact trivial | (show _ ∧ _; refine aK ?_ ?_)))))); all_goals clear fct)
        all_goals simp [e1, ht, e6]
      · by_cases e2 : a1 = 2
        · (have fct := And.intro e2 (And.intro ht ((eq_false e6))); (repeat' (first
    | refine gF ?_
    | (((with_reducible show CallK _ _ 122 _ _ _ _); refine CallK.lit [] h49 c122 ⟨⟨rfl, rfl, trivial⟩, rfl, trivial⟩ rfl rfl ?_) <;> with_reducible refine wK ?_)
    | ((with_reducible show (_ ∧ _) ∧ _ ∧ _); (refine eK ?_ ?_ <;> with_reducible repeat' (first | exact trivial | (show _ ∧ _; refine aK ?_ ?_)))))); all_goals clear fct)
          all_goals simp [e2, ht, e6]
        · (have fct := And.intro (eq_false e1) (And.intro (eq_false e2) (And.intro ht ((eq_false e6)))); (repeat' (first
    | refine gF ?_
    | ((with_reducible show (_ ∧ _) ∧ _ ∧ _); (refine eK ?_ ?_ <;> with_reducible repeat' (first | exact trivial | (show _ ∧ _; refine aK ?_ ?_)))))); all_goals clear fct)
          all_goals simp [e1, e2, ht, e6]
    | true =>
      obtain ⟨i, y, rfl, hy, hnd⟩ := there_iff.1 ht
      have h57' := h57 ht
      rw [hnd] at h56 h57' ⊢
      obtain ⟨b1, b2, b3, b4, b5, b6, b7, b8, b9, b10⟩ := y
      simp only at h56 h57'
      cases hh : holdK b1 with
      | false =>
        by_cases e1 : a1 = 1
        · (have fct := And.intro e1 (And.intro ht (And.intro hh ((eq_false e6)))); (repeat' (first
    | refine gF ?_
    | ((first
      | ((with_reducible show CallK _ _ 122 _ _ _ _); refine CallK.lit [] h49 c122 ⟨⟨rfl, rfl, trivial⟩, rfl, trivial⟩ rfl rfl ?_)
      | ((with_reducible show CallK _ _ 147 _ _ _ _); refine CallK.lit [] h56 c147 ⟨rfl, trivial⟩ rfl rfl ?_)
      | (refine IdxK.mk i (eNode ⟨b1, b2, b3, b4, b5, b6, b7, b8, b9, b10⟩) rfl (node_get hy) ?_)) <;> with_reducible refine wK ?_)
    | ((with_reducible show (_ ∧ _) ∧ _ ∧ _); (refine eK ?_ ?_ <;> with_reducible repeat' (first | exact trivial | (show _ ∧ _; refine aK ?_ ?_)))))); all_goals clear fct)
          all_goals simp [e1, ht, e6, hh]
        · by_cases e2 : a1 = 2
          · (have fct := And.intro e2 (And.intro ht (And.intro hh ((eq_false e6)))); (repeat' (first
    | refine gF ?_
    | ((first
      | ((with_reducible show CallK _ _ 122 _ _ _ _); refine CallK.lit [] h49 c122 ⟨⟨rfl, rfl, trivial⟩, rfl, trivial⟩ rfl rfl ?_)
      | ((with_reducible show CallK _ _ 147 _ _ _ _); refine CallK.lit [] h56 c147 ⟨rfl, trivial⟩ rfl rfl ?_)
      | (refine IdxK.mk i (eNode ⟨b1, b2, b3, b4, b5, b6, b7, b8, b9, b10⟩) rfl (node_get hy) ?_)) <;> with_reducible refine wK ?_)
    | ((with_reducible show (_ ∧ _) ∧ _ ∧ _); (refine eK ?_ ?_ <;> with_reducible repeat' (first | exact trivial | (show _ ∧ _; refine aK ?_ ?_)))))); all_goals clear fct)
            all_goals simp [e2, ht, e6, hh]
          · (have fct := And.intro (eq_false e1) (And.intro (eq_false e2) (And.intro ht (And.intro hh ((eq_false e6))))); (repeat' (first
    | refine gF ?_
    | ((with_reducible show (_ ∧ _) ∧ _ ∧ _); (refine eK ?_ ?_ <;> with_reducible repeat' (first | exact trivial | (show _ ∧ _; refine aK ?_ ?_)))))); all_goals clear fct)
            all_goals simp [e1, e2, ht, e6]
      | true =>
        by_cases e1 : a1 = 1
        · (have fct := And.intro e1 (And.intro ht (And.intro hh ((eq_false e6)))); (repeat' (first
    | refine gF ?_
    | ((first
      | ((with_reducible show CallK _ _ 122 _ _ _ _); refine CallK.lit [] h49 c122 ⟨⟨rfl, rfl, trivial⟩, rfl, trivial⟩ rfl rfl ?_)
      | ((with_reducible show CallK _ _ 147 _ _ _ _); refine CallK.lit [] h56 c147 ⟨rfl, trivial⟩ rfl rfl ?_)
      | ((with_reducible show CallK _ _ 148 _ _ _ _); refine CallK.lit [] h57' c148 ⟨rfl, rfl, trivial⟩ rfl rfl ?_)
      | (refine IdxK.mk i (eNode ⟨b1, b2, b3, b4, b5, b6, b7, b8, b9, b10⟩) rfl (node_get hy) ?_)) <;> with_reducible refine wK ?_)
    | ((with_reducible show (_ ∧ _) ∧ _ ∧ _); (refine eK ?_ ?_ <;> with_reducible repeat' (first | exact trivial | (show _ ∧ _; refine aK ?_ ?_)))))); all_goals clear fct)
          all_goals simp [e1, ht, e6, hh]
        · by_cases e2 : a1 = 2
          · (have fct := And.intro e2 (And.intro ht (And.intro hh ((eq_false e6)))); (repeat' (first
    | refine gF ?_
    | ((first
      | ((with_reducible show CallK _ _ 122 _ _ _ _); refine CallK.lit [] h49 c122 ⟨⟨rfl, rfl, trivial⟩, rfl, trivial⟩ rfl rfl ?_)
      | ((with_reducible show CallK _ _ 147 _ _ _ _); refine CallK.lit [] h56 c147 ⟨rfl, trivial⟩ rfl rfl ?_)
      | ((with_reducible show CallK _ _ 148 _ _ _ _); refine CallK.lit [] h57' c148 ⟨rfl, rfl, trivial⟩ rfl rfl ?_)
      | (refine IdxK.mk i (eNode ⟨b1, b2, b3, b4, b5, b6, b7, b8, b9, b10⟩) rfl (node_get hy) ?_)) <;> with_reducible refine wK ?_)
    | ((with_reducible show (_ ∧ _) ∧ _ ∧ _); (refine eK ?_ ?_ <;> with_reducible repeat' (first | exact trivial | (show _ ∧ _; refine aK ?_ ?_)))))); all_goals clear fct)
            all_goals simp [e2, ht, e6, hh]
          · (have fct := And.intro (eq_false e1) (And.intro (eq_false e2) (And.intro ht (And.intro hh ((eq_false e6))))); (repeat' (first
    | refine gF ?_
    | ((with_reducible show (_ ∧ _) ∧ _ ∧ _); (refine eK ?_ ?_ <;> with_reducible repeat' (first | exact trivial | (show _ ∧ _; refine aK ?_ ?_)))))); all_goals clear fct)
            all_goals simp [e1, e2, ht, e6]
theorem endsN_succ (l : List NodeM) (m : Nat) (n : Int) : endsN l (m + 1) n = if upN (nd l n) = -1 then true else endsN l m (upN (nd l n)) := rfl
theorem f97_ok (f : ForM) (hl : f.nodes.length ≤ 100000) (hup : ∀ (k : Nat) (x : NodeM), f.nodes[k]? = some x → upN x = -1 ∨ thereN f.nodes (upN x) = true) (k : Nat) (hk : k < f.nodes.length) : FnOK Tryz.prog 97 [] [eFor f, eInt k] [] (eBool (endsN f.nodes f.nodes.length k)) := by
  have h58 := f149_ok f
  obtain ⟨l, m⟩ := f
  simp only at h58 hup hk hl ⊢
  have hlm : (l.map oNode).length = l.length := List.length_map ..
  refine FnOK.startC (rvs := [.tmp 4]) G G_good Tryz.func97 rfl Tryz.ntmps97 rfl rfl ?_; with_reducible refine wD ?_
  refine LoopK.use G G_good (fun (i : Nat × Nat) => [(1, eInt i.2), (2, .ptr 20 0 0), (8, eInt l.length), (9, eInt i.1)]) (fun _ => [(20, .live 2 [eFor ⟨l, m⟩] false)]) (fun i => i.1 ≤ l.length ∧ i.2 < l.length ∧ endsN l l.length k = endsN l (l.length - i.1) i.2) (fun i => l.length - i.1) (0, k) ⟨Nat.zero_le _, hk, rfl⟩
    ⟨⟨rfl, rfl⟩, ⟨rfl, ⟨rfl, rfl⟩, by show (l.length : Int) = ((l.map oNode).length : Int); rw [hlm], rfl, trivial⟩, ⟨⟨rfl, rfl, trivial⟩, trivial⟩, trivial⟩ ?_
  rintro ⟨i, j⟩ ⟨hi, hj, he⟩
  simp only at hi hj he
  with_reducible refine wK ?_
  refine IfK.mk (fun h1 => ?_) (fun h1 => ?_) <;> (try simp only [castN] at h1) <;> with_reducible refine wK ?_
  · have hi' : i < l.length := by simp only [decide_eq_true_eq] at h1; omega
    obtain ⟨x, hx⟩ : ∃ x, l[j]? = some x := ⟨_, List.getElem?_eq_getElem hj⟩
    have h58' := h58 j x hx
    refine CallK.lit [] h58' c149 ⟨⟨rfl, rfl, trivial⟩, rfl, trivial⟩ rfl rfl ?_; with_reducible refine wK ?_
    rw [show l.length - i = (l.length - (i + 1)) + 1 from by omega] at he
    rw [endsN_succ, nd_get hx] at he
    by_cases e : upN x = -1
    · rw [if_pos e] at he
      (have fct := e; (repeat' (first
    | refine gF ?_
    | ((with_reducible show (_ ∧ _) ∧ _ ∧ _); (refine eK ?_ ?_ <;> with_reducible repeat' (first | exact trivial | (show _ ∧ _; refine aK ?_ ?_)))))); all_goals clear fct)
      all_goals rw [he]
    · rw [if_neg e] at he
      rcases hup j x hx with h | h
      · exact absurd h e
      obtain ⟨j', y, hj1, hj2, _⟩ := there_iff.1 h
      rw [hj1] at he
      have hlt := (List.getElem?_eq_some_iff.1 hj2).1
      refine IfK.no (decide_eq_false e) ?_; with_reducible refine wK ?_
      refine nK ?_; with_reducible refine wK ?_
      refine NextK.mk (i + 1, j') ⟨by show i + 1 ≤ l.length; omega, hlt, he⟩ (by show l.length - (i + 1) < l.length - i; omega) ⟨⟨rfl, rfl⟩, ⟨hj1.symm, ⟨rfl, rfl⟩, rfl, by show ((i + 1 : Nat) : Int) = (i : Int) + 1; omega, trivial⟩, ⟨⟨rfl, rfl, trivial⟩, trivial⟩, trivial⟩
  · (refine eK ?_ ?_ <;> with_reducible repeat' (first | exact trivial | (show _ ∧ _; refine aK ?_ ?_)))
    have : i = l.length := by simp only [decide_eq_false_iff_not] at h1; omega
    rw [he, this, Nat.sub_self]; rfl
end Go.Proofs.Heir
end
section
set_option linter.unusedSimpArgs false
set_option linter.unusedVariables false
namespace Go.Proofs.Heir
open Go Go.Am Go.RowKit Go.Lib
set_option maxRecDepth 100000
set_option maxHeartbeats 8000000
theorem is_there {l : List NodeM} {n k : Int} (h : isN l n k = true) : ∃ (i : Nat) (x : NodeM), n = (i : Int) ∧ l[i]? = some x ∧ nd l n = x := by
  unfold isN at h
  simp only [Bool.and_eq_true] at h
  exact there_iff.1 h.1
theorem f96_ok (f : ForM) (k : Nat) (x : NodeM) (hx : f.nodes[k]? = some x) : FnOK Tryz.prog 96 [] [eFor f, eInt k] [] (eBool (shadedN f.nodes k x)) := by
  have h1 := f146_ok f x.host 1
  have h4 := f146_ok f x.under 4
  obtain ⟨l, m⟩ := f
  obtain ⟨a1, a2, a3, a4, a5, a6, a7, a8, a9, a10⟩ := x
  unfold shadedN
  simp only at h1 h4 hx ⊢
  refine FnOK.startC (rvs := [.tmp 4]) G G_good Tryz.func96 rfl Tryz.ntmps96 rfl rfl ?_; with_reducible refine wD ?_
  refine IdxK.mk k (eNode ⟨a1, a2, a3, a4, a5, a6, a7, a8, a9, a10⟩) rfl (node_get hx) ?_; with_reducible refine wK ?_
  by_cases e4 : a1 = 4
  · have e1 : ¬ a1 = 1 := by omega
    refine IfK.yes (by simp [e4]) ?_; with_reducible refine wK ?_
    rw [if_pos e4]
    cases hi : isN l a8 1 with
    | false =>
      rw [hi] at h1
      by_cases e9 : a9 = -1
      · (have fct := And.intro e4 (e9); (repeat' (first
    | refine gF ?_
    | (((with_reducible show CallK _ _ 146 _ _ _ _); refine CallK.lit [] h1 c146 ⟨⟨rfl, rfl, trivial⟩, rfl, rfl, trivial⟩ rfl rfl ?_) <;> with_reducible refine wK ?_)
    | ((with_reducible show (_ ∧ _) ∧ _ ∧ _); (refine eK ?_ ?_ <;> with_reducible repeat' (first | exact trivial | (show _ ∧ _; refine aK ?_ ?_)))))); all_goals clear fct)
        all_goals simp [e9]
      · (have fct := And.intro e4 (And.intro (eq_false e9) ((eq_false e1))); (repeat' (first
    | refine gF ?_
    | (((with_reducible show CallK _ _ 146 _ _ _ _); refine CallK.lit [] h1 c146 ⟨⟨rfl, rfl, trivial⟩, rfl, rfl, trivial⟩ rfl rfl ?_) <;> with_reducible refine wK ?_)
    | ((with_reducible show (_ ∧ _) ∧ _ ∧ _); (refine eK ?_ ?_ <;> with_reducible repeat' (first | exact trivial | (show _ ∧ _; refine aK ?_ ?_)))))); all_goals clear fct)
        all_goals simp [e9, e1]
    | true =>
      rw [hi] at h1
      obtain ⟨i, y, rfl, hy, hnd⟩ := is_there hi
      rw [hnd]
      obtain ⟨b1, b2, b3, b4, b5, b6, b7, b8, b9, b10⟩ := y
      by_cases e9 : a9 = -1
      · by_cases u9 : b9 = k
        · by_cases u10 : b10 = a10
          · (have fct := And.intro e4 (And.intro e9 (And.intro u9 (u10))); (repeat' (first
    | refine gF ?_
    | ((first
      | ((with_reducible show CallK _ _ 146 _ _ _ _); refine CallK.lit [] h1 c146 ⟨⟨rfl, rfl, trivial⟩, rfl, rfl, trivial⟩ rfl rfl ?_)
      | (refine IdxK.mk i (eNode ⟨b1, b2, b3, b4, b5, b6, b7, b8, b9, b10⟩) rfl (node_get hy) ?_)) <;> with_reducible refine wK ?_)
    | ((with_reducible show (_ ∧ _) ∧ _ ∧ _); (refine eK ?_ ?_ <;> with_reducible repeat' (first | exact trivial | (show _ ∧ _; refine aK ?_ ?_)))))); all_goals clear fct)
            all_goals simp [e9, u9, u10]
          · (have fct := And.intro e4 (And.intro e9 (And.intro u9 ((eq_false u10)))); (repeat' (first
    | refine gF ?_
    | ((first
      | ((with_reducible show CallK _ _ 146 _ _ _ _); refine CallK.lit [] h1 c146 ⟨⟨rfl, rfl, trivial⟩, rfl, rfl, trivial⟩ rfl rfl ?_)
      | (refine IdxK.mk i (eNode ⟨b1, b2, b3, b4, b5, b6, b7, b8, b9, b10⟩) rfl (node_get hy) ?_)) <;> with_reducible refine wK ?_)
    | ((with_reducible show (_ ∧ _) ∧ _ ∧ _); (refine eK ?_ ?_ <;> with_reducible repeat' (first | exact trivial | (show _ ∧ _; refine aK ?_ ?_)))))); all_goals clear fct)
            all_goals simp [e9, u9, u10]
        · (have fct := And.intro e4 (And.intro e9 ((eq_false u9))); (repeat' (first
    | refine gF ?_
    | ((first
      | ((with_reducible show CallK _ _ 146 _ _ _ _); refine CallK.lit [] h1 c146 ⟨⟨rfl, rfl, trivial⟩, rfl, rfl, trivial⟩ rfl rfl ?_)
      | (refine IdxK.mk i (eNode ⟨b1, b2, b3, b4, b5, b6, b7, b8, b9, b10⟩) rfl (node_get hy) ?_)) <;> with_reducible refine wK ?_)
    | ((with_reducible show (_ ∧ _) ∧ _ ∧ _); (refine eK ?_ ?_ <;> with_reducible repeat' (first | exact trivial | (show _ ∧ _; refine aK ?_ ?_)))))); all_goals clear fct)
          all_goals simp [e9, u9]
      · by_cases u9 : b9 = k
        · by_cases u10 : b10 = a10
          · (have fct := And.intro e4 (And.intro (eq_false e9) (And.intro (eq_false e1) (And.intro u9 (u10)))); (repeat' (first
    | refine gF ?_
    | ((first
      | ((with_reducible show CallK _ _ 146 _ _ _ _); refine CallK.lit [] h1 c146 ⟨⟨rfl, rfl, trivial⟩, rfl, rfl, trivial⟩ rfl rfl ?_)
      | (refine IdxK.mk i (eNode ⟨b1, b2, b3, b4, b5, b6, b7, b8, b9, b10⟩) rfl (node_get hy) ?_)) <;> with_reducible refine wK ?_)
    | ((with_reducible show (_ ∧ _) ∧ _ ∧ _); (refine eK ?_ ?_ <;> with_reducible repeat' (first | exact trivial | (show _ ∧ _; refine aK ?_ ?_)))))); all_goals clear fct)
            all_goals simp [e9, e1, u9, u10]
          · (have fct := And.intro e4 (And.intro (eq_false e9) (And.intro (eq_false e1) (And.intro u9 ((eq_false u10))))); (repeat' (first
    | refine gF ?_
    | ((first
      | ((with_reducible show CallK _ _ 146 _ _ _ _); refine CallK.lit [] h1 c146 ⟨⟨rfl, rfl, trivial⟩, rfl, rfl, trivial⟩ rfl rfl ?_)
      | (refine IdxK.mk i (eNode ⟨b1, b2, b3, b4, b5, b6, b7, b8, b9, b10⟩) rfl (node_get hy) ?_)) <;> with_reducible refine wK ?_)
    | ((with_reducible show (_ ∧ _) ∧ _ ∧ _); (refine eK ?_ ?_ <;> with_reducible repeat' (first | exact trivial | (show _ ∧ _; refine aK ?_ ?_)))))); all_goals clear fct)
            all_goals simp [e9, e1, u9, u10]
        · (have fct := And.intro e4 (And.intro (eq_false e9) (And.intro (eq_false e1) ((eq_false u9)))); (repeat' (first
    | refine gF ?_
    | ((first
      | ((with_reducible show CallK _ _ 146 _ _ _ _); refine CallK.lit [] h1 c146 ⟨⟨rfl, rfl, trivial⟩, rfl, rfl, trivial⟩ rfl rfl ?_)
      | (refine IdxK.mk i (eNode ⟨b1, b2, b3, b4, b5, b6, b7, b8, b9, b10⟩) rfl (node_get hy) ?_)) <;> with_reducible refine wK ?_)
    | ((with_reducible show (_ ∧ _) ∧ _ ∧ _); (refine eK ?_ ?_ <;> with_reducible repeat' (first | exact trivial | (show _ ∧ _; refine aK ?_ ?_)))))); all_goals clear fct)
          all_goals simp [e9, e1, u9]
  · refine IfK.no (by simp [e4]) ?_; with_reducible refine wK ?_
    rw [if_neg e4]
    by_cases e8 : a8 = -1
    · by_cases e9 : a9 = -1
      · (have fct := And.intro (eq_false e4) (And.intro e8 (e9)); (repeat' (first
    | refine gF ?_
    | ((with_reducible show (_ ∧ _) ∧ _ ∧ _); (refine eK ?_ ?_ <;> with_reducible repeat' (first | exact trivial | (show _ ∧ _; refine aK ?_ ?_)))))); all_goals clear fct)
        all_goals simp [e9, e8]
      · by_cases e1 : a1 = 1
        · cases hu : isN l a9 4 with
          | false =>
            rw [hu] at h4
            (have fct := And.intro (eq_false e4) (And.intro e8 (And.intro (eq_false e9) (e1))); (repeat' (first
    | refine gF ?_
    | (((with_reducible show CallK _ _ 146 _ _ _ _); refine CallK.lit [] h4 c146 ⟨⟨rfl, rfl, trivial⟩, rfl, rfl, trivial⟩ rfl rfl ?_) <;> with_reducible refine wK ?_)
    | ((with_reducible show (_ ∧ _) ∧ _ ∧ _); (refine eK ?_ ?_ <;> with_reducible repeat' (first | exact trivial | (show _ ∧ _; refine aK ?_ ?_)))))); all_goals clear fct)
            all_goals simp [e9, e8, e1]
          | true =>
            rw [hu] at h4
            obtain ⟨j, z, rfl, hz, hnd⟩ := is_there hu
            rw [hnd]
            obtain ⟨d1, d2, d3, d4, d5, d6, d7, d8, d9, d10⟩ := z
            (have fct := And.intro (eq_false e4) (And.intro e8 (And.intro (eq_false e9) (e1))); (repeat' (first
    | refine gF ?_
    | ((first
      | ((with_reducible show CallK _ _ 146 _ _ _ _); refine CallK.lit [] h4 c146 ⟨⟨rfl, rfl, trivial⟩, rfl, rfl, trivial⟩ rfl rfl ?_)
      | (refine IdxK.mk j (eNode ⟨d1, d2, d3, d4, d5, d6, d7, d8, d9, d10⟩) rfl (node_get hz) ?_)) <;> with_reducible refine wK ?_)
    | ((with_reducible show (_ ∧ _) ∧ _ ∧ _); (refine eK ?_ ?_ <;> with_reducible repeat' (first | exact trivial | (show _ ∧ _; refine aK ?_ ?_)))))); all_goals clear fct)
            all_goals simp [e9, e8, e1]
        · (have fct := And.intro (eq_false e4) (And.intro e8 (And.intro (eq_false e9) ((eq_false e1)))); (repeat' (first
    | refine gF ?_
    | ((with_reducible show (_ ∧ _) ∧ _ ∧ _); (refine eK ?_ ?_ <;> with_reducible repeat' (first | exact trivial | (show _ ∧ _; refine aK ?_ ?_)))))); all_goals clear fct)
          all_goals simp [e9, e8, e1]
    · by_cases e9 : a9 = -1
      · (have fct := And.intro (eq_false e4) (And.intro (eq_false e8) (e9)); (repeat' (first
    | refine gF ?_
    | ((with_reducible show (_ ∧ _) ∧ _ ∧ _); (refine eK ?_ ?_ <;> with_reducible repeat' (first | exact trivial | (show _ ∧ _; refine aK ?_ ?_)))))); all_goals clear fct)
        all_goals simp [e9, e8]
      · by_cases e1 : a1 = 1
        · cases hu : isN l a9 4 with
          | false =>
            rw [hu] at h4
            (have fct := And.intro (eq_false e4) (And.intro (eq_false e8) (And.intro (eq_false e9) (e1))); (repeat' (first
    | refine gF ?_
    | (((with_reducible show CallK _ _ 146 _ _ _ _); refine CallK.lit [] h4 c146 ⟨⟨rfl, rfl, trivial⟩, rfl, rfl, trivial⟩ rfl rfl ?_) <;> with_reducible refine wK ?_)
    | ((with_reducible show (_ ∧ _) ∧ _ ∧ _); (refine eK ?_ ?_ <;> with_reducible repeat' (first | exact trivial | (show _ ∧ _; refine aK ?_ ?_)))))); all_goals clear fct)
            all_goals simp [e9, e8, e1]
          | true =>
            rw [hu] at h4
            obtain ⟨j, z, rfl, hz, hnd⟩ := is_there hu
            rw [hnd]
            obtain ⟨d1, d2, d3, d4, d5, d6, d7, d8, d9, d10⟩ := z
            (have fct := And.intro (eq_false e4) (And.intro (eq_false e8) (And.intro (eq_false e9) (e1))); (repeat' (first
    | refine gF ?_
    | ((first
      | ((with_reducible show CallK _ _ 146 _ _ _ _); refine CallK.lit [] h4 c146 ⟨⟨rfl, rfl, trivial⟩, rfl, rfl, trivial⟩ rfl rfl ?_)
      | (refine IdxK.mk j (eNode ⟨d1, d2, d3, d4, d5, d6, d7, d8, d9, d10⟩) rfl (node_get hz) ?_)) <;> with_reducible refine wK ?_)
    | ((with_reducible show (_ ∧ _) ∧ _ ∧ _); (refine eK ?_ ?_ <;> with_reducible repeat' (first | exact trivial | (show _ ∧ _; refine aK ?_ ?_)))))); all_goals clear fct)
            all_goals simp [e9, e8, e1]
        · (have fct := And.intro (eq_false e4) (And.intro (eq_false e8) (And.intro (eq_false e9) ((eq_false e1)))); (repeat' (first
    | refine gF ?_
    | ((with_reducible show (_ ∧ _) ∧ _ ∧ _); (refine eK ?_ ?_ <;> with_reducible repeat' (first | exact trivial | (show _ ∧ _; refine aK ?_ ?_)))))); all_goals clear fct)
          all_goals simp [e9, e8, e1]
end Go.Proofs.Heir
end
section
set_option linter.unusedSimpArgs false
set_option linter.unusedVariables false
namespace Go.Proofs.Heir
open Go Go.Am Go.RowKit Go.Lib
set_option maxRecDepth 100000
set_option maxHeartbeats 8000000
theorem f92_ok (x : NodeM) (hx : x.attrs.length ≤ 100000) : FnOK Tryz.prog 92 [] [eNode x] [] (eBool (namedN x)) := by
  have h45 := f134_ok x.name
  have h54 := f91_ok x.is
  have h44 := f133_ok x.attrs hx
  obtain ⟨a1, a2, a3, a4, a5, a6, a7, a8, a9, a10⟩ := x
  have hlm : (a5.map oAttr).length = a5.length := List.length_map ..
  unfold namedN
  simp only at h45 h54 h44 hx ⊢
  refine FnOK.startC (rvs := [.tmp 2]) G G_good Tryz.func92 rfl Tryz.ntmps92 rfl rfl ?_; with_reducible refine wD ?_
  by_cases e1 : a1 = 1
  · rw [if_pos e1]
    cases hr : rightS a2 with
    | false =>
      rw [hr] at h45
      simp only [Bool.false_eq_true, if_false] at h45
      (have fct := And.intro e1 (hr); (repeat' (first
    | refine gF ?_
    | (((with_reducible show CallK _ _ 134 _ _ _ _); refine CallK.lit [] h45 c134 ⟨rfl, trivial⟩ rfl rfl ?_) <;> with_reducible refine wK ?_)
    | ((with_reducible show (_ ∧ _) ∧ _ ∧ _); (refine eK ?_ ?_ <;> with_reducible repeat' (first | exact trivial | (show _ ∧ _; refine aK ?_ ?_)))))); all_goals clear fct)
      all_goals simp [hr]
    | true =>
      rw [hr] at h45
      simp only [if_true] at h45
      by_cases hl : lowS a2 = a2
      · by_cases h3 : a3 = ⟨#[]⟩
        · by_cases h4 : a4 = ⟨#[]⟩
          · (have fct := And.intro e1 (And.intro hr (And.intro hl (And.intro h3 (h4)))); (repeat' (first
    | refine gF ?_
    | ((first
      | ((with_reducible show CallK _ _ 134 _ _ _ _); refine CallK.lit [] h45 c134 ⟨rfl, trivial⟩ rfl rfl ?_)
      | ((with_reducible show CallK _ _ 133 _ _ _ _); refine CallK.lit [] h44 c133 ⟨rfl, trivial⟩ rfl rfl ?_)) <;> with_reducible refine wK ?_)
    | ((with_reducible show (_ ∧ _) ∧ _ ∧ _); (refine eK ?_ ?_ <;> with_reducible repeat' (first | exact trivial | (show _ ∧ _; refine aK ?_ ?_)))))); all_goals clear fct)
            all_goals simp [hr, hl, h3, h4]
          · (have fct := And.intro e1 (And.intro hr (And.intro hl (And.intro h3 ((eq_false h4))))); (repeat' (first
    | refine gF ?_
    | (((with_reducible show CallK _ _ 134 _ _ _ _); refine CallK.lit [] h45 c134 ⟨rfl, trivial⟩ rfl rfl ?_) <;> with_reducible refine wK ?_)
    | ((with_reducible show (_ ∧ _) ∧ _ ∧ _); (refine eK ?_ ?_ <;> with_reducible repeat' (first | exact trivial | (show _ ∧ _; refine aK ?_ ?_)))))); all_goals clear fct)
            all_goals simp [hr, hl, h3, h4]
        · cases hc : customS a3 with
          | false =>
            rw [hc] at h54
            (have fct := And.intro e1 (And.intro hr (And.intro hl (And.intro (eq_false h3) (hc)))); (repeat' (first
    | refine gF ?_
    | ((first
      | ((with_reducible show CallK _ _ 134 _ _ _ _); refine CallK.lit [] h45 c134 ⟨rfl, trivial⟩ rfl rfl ?_)
      | ((with_reducible show CallK _ _ 91 _ _ _ _); refine CallK.lit [] h54 c91 ⟨rfl, trivial⟩ rfl rfl ?_)) <;> with_reducible refine wK ?_)
    | ((with_reducible show (_ ∧ _) ∧ _ ∧ _); (refine eK ?_ ?_ <;> with_reducible repeat' (first | exact trivial | (show _ ∧ _; refine aK ?_ ?_)))))); all_goals clear fct)
            all_goals simp [hr, hl, h3, hc]
          | true =>
            rw [hc] at h54
            by_cases h4 : a4 = ⟨#[]⟩
            · (have fct := And.intro e1 (And.intro hr (And.intro hl (And.intro (eq_false h3) (And.intro hc (h4))))); (repeat' (first
    | refine gF ?_
    | ((first
      | ((with_reducible show CallK _ _ 134 _ _ _ _); refine CallK.lit [] h45 c134 ⟨rfl, trivial⟩ rfl rfl ?_)
      | ((with_reducible show CallK _ _ 91 _ _ _ _); refine CallK.lit [] h54 c91 ⟨rfl, trivial⟩ rfl rfl ?_)
      | ((with_reducible show CallK _ _ 133 _ _ _ _); refine CallK.lit [] h44 c133 ⟨rfl, trivial⟩ rfl rfl ?_)) <;> with_reducible refine wK ?_)
    | ((with_reducible show (_ ∧ _) ∧ _ ∧ _); (refine eK ?_ ?_ <;> with_reducible repeat' (first | exact trivial | (show _ ∧ _; refine aK ?_ ?_)))))); all_goals clear fct)
              all_goals simp [hr, hl, h3, hc, h4]
            · (have fct := And.intro e1 (And.intro hr (And.intro hl (And.intro (eq_false h3) (And.intro hc ((eq_false h4)))))); (repeat' (first
    | refine gF ?_
    | ((first
      | ((with_reducible show CallK _ _ 134 _ _ _ _); refine CallK.lit [] h45 c134 ⟨rfl, trivial⟩ rfl rfl ?_)
      | ((with_reducible show CallK _ _ 91 _ _ _ _); refine CallK.lit [] h54 c91 ⟨rfl, trivial⟩ rfl rfl ?_)) <;> with_reducible refine wK ?_)
    | ((with_reducible show (_ ∧ _) ∧ _ ∧ _); (refine eK ?_ ?_ <;> with_reducible repeat' (first | exact trivial | (show _ ∧ _; refine aK ?_ ?_)))))); all_goals clear fct)
              all_goals simp [hr, hl, h3, hc, h4]
      · (have fct := And.intro e1 (And.intro hr ((eq_false hl))); (repeat' (first
    | refine gF ?_
    | (((with_reducible show CallK _ _ 134 _ _ _ _); refine CallK.lit [] h45 c134 ⟨rfl, trivial⟩ rfl rfl ?_) <;> with_reducible refine wK ?_)
    | ((with_reducible show (_ ∧ _) ∧ _ ∧ _); (refine eK ?_ ?_ <;> with_reducible repeat' (first | exact trivial | (show _ ∧ _; refine aK ?_ ?_)))))); all_goals clear fct)
        all_goals simp [hr, hl]
  · rw [if_neg e1]
    by_cases e2 : a1 = 2
    · rw [if_pos e2]
      by_cases hd : a4.size ≤ 200
      · by_cases h2 : a2 = ⟨#[]⟩
        · by_cases h3 : a3 = ⟨#[]⟩
          · (have fct := And.intro e2 (And.intro hd (And.intro h2 (h3))); (repeat' (first
    | refine gF ?_
    | ((with_reducible show (_ ∧ _) ∧ _ ∧ _); (refine eK ?_ ?_ <;> with_reducible repeat' (first | exact trivial | (show _ ∧ _; refine aK ?_ ?_)))))); all_goals clear fct)
            all_goals simp [hd, h2, h3]
          · (have fct := And.intro e2 (And.intro hd (And.intro h2 ((eq_false h3)))); (repeat' (first
    | refine gF ?_
    | ((with_reducible show (_ ∧ _) ∧ _ ∧ _); (refine eK ?_ ?_ <;> with_reducible repeat' (first | exact trivial | (show _ ∧ _; refine aK ?_ ?_)))))); all_goals clear fct)
            all_goals simp [hd, h2, h3]
        · (have fct := And.intro e2 (And.intro hd ((eq_false h2))); (repeat' (first
    | refine gF ?_
    | ((with_reducible show (_ ∧ _) ∧ _ ∧ _); (refine eK ?_ ?_ <;> with_reducible repeat' (first | exact trivial | (show _ ∧ _; refine aK ?_ ?_)))))); all_goals clear fct)
          all_goals simp [hd, h2]
      · (have fct := And.intro e2 ((eq_false hd)); (repeat' (first
    | refine gF ?_
    | ((with_reducible show (_ ∧ _) ∧ _ ∧ _); (refine eK ?_ ?_ <;> with_reducible repeat' (first | exact trivial | (show _ ∧ _; refine aK ?_ ?_)))))); all_goals clear fct)
        all_goals simp [hd]
    · rw [if_neg e2]
      by_cases ho : a1 = 0 ∨ a1 = 3 ∨ a1 = 4
      · rw [if_pos ho]
        by_cases h2 : a2 = ⟨#[]⟩
        · by_cases h3 : a3 = ⟨#[]⟩
          · by_cases h4 : a4 = ⟨#[]⟩
            · rcases ho with e | e | e
              · (have fct := And.intro e (And.intro h2 (And.intro h3 (h4))); (repeat' (first
    | refine gF ?_
    | ((with_reducible show (_ ∧ _) ∧ _ ∧ _); (refine eK ?_ ?_ <;> with_reducible repeat' (first | exact trivial | (show _ ∧ _; refine aK ?_ ?_)))))); all_goals clear fct)
                all_goals simp [h2, h3, h4]
              · (have fct := And.intro e (And.intro h2 (And.intro h3 (h4))); (repeat' (first
    | refine gF ?_
    | ((with_reducible show (_ ∧ _) ∧ _ ∧ _); (refine eK ?_ ?_ <;> with_reducible repeat' (first | exact trivial | (show _ ∧ _; refine aK ?_ ?_)))))); all_goals clear fct)
                all_goals simp [h2, h3, h4]
              · (have fct := And.intro e (And.intro h2 (And.intro h3 (h4))); (repeat' (first
    | refine gF ?_
    | ((with_reducible show (_ ∧ _) ∧ _ ∧ _); (refine eK ?_ ?_ <;> with_reducible repeat' (first | exact trivial | (show _ ∧ _; refine aK ?_ ?_)))))); all_goals clear fct)
                all_goals simp [h2, h3, h4]
            · rcases ho with e | e | e
              · (have fct := And.intro e (And.intro h2 (And.intro h3 ((eq_false h4)))); (repeat' (first
    | refine gF ?_
    | ((with_reducible show (_ ∧ _) ∧ _ ∧ _); (refine eK ?_ ?_ <;> with_reducible repeat' (first | exact trivial | (show _ ∧ _; refine aK ?_ ?_)))))); all_goals clear fct)
                all_goals simp [h2, h3, h4]
              · (have fct := And.intro e (And.intro h2 (And.intro h3 ((eq_false h4)))); (repeat' (first
    | refine gF ?_
    | ((with_reducible show (_ ∧ _) ∧ _ ∧ _); (refine eK ?_ ?_ <;> with_reducible repeat' (first | exact trivial | (show _ ∧ _; refine aK ?_ ?_)))))); all_goals clear fct)
                all_goals simp [h2, h3, h4]
              · (have fct := And.intro e (And.intro h2 (And.intro h3 ((eq_false h4)))); (repeat' (first
    | refine gF ?_
    | ((with_reducible show (_ ∧ _) ∧ _ ∧ _); (refine eK ?_ ?_ <;> with_reducible repeat' (first | exact trivial | (show _ ∧ _; refine aK ?_ ?_)))))); all_goals clear fct)
                all_goals simp [h2, h3, h4]
          · rcases ho with e | e | e
            · (have fct := And.intro e (And.intro h2 ((eq_false h3))); (repeat' (first
    | refine gF ?_
    | ((with_reducible show (_ ∧ _) ∧ _ ∧ _); (refine eK ?_ ?_ <;> with_reducible repeat' (first | exact trivial | (show _ ∧ _; refine aK ?_ ?_)))))); all_goals clear fct)
              all_goals simp [h2, h3]
            · (have fct := And.intro e (And.intro h2 ((eq_false h3))); (repeat' (first
    | refine gF ?_
    | ((with_reducible show (_ ∧ _) ∧ _ ∧ _); (refine eK ?_ ?_ <;> with_reducible repeat' (first | exact trivial | (show _ ∧ _; refine aK ?_ ?_)))))); all_goals clear fct)
              all_goals simp [h2, h3]
            · (have fct := And.intro e (And.intro h2 ((eq_false h3))); (repeat' (first
    | refine gF ?_
    | ((with_reducible show (_ ∧ _) ∧ _ ∧ _); (refine eK ?_ ?_ <;> with_reducible repeat' (first | exact trivial | (show _ ∧ _; refine aK ?_ ?_)))))); all_goals clear fct)
              all_goals simp [h2, h3]
        · rcases ho with e | e | e
          · (have fct := And.intro e ((eq_false h2)); (repeat' (first
    | refine gF ?_
    | ((with_reducible show (_ ∧ _) ∧ _ ∧ _); (refine eK ?_ ?_ <;> with_reducible repeat' (first | exact trivial | (show _ ∧ _; refine aK ?_ ?_)))))); all_goals clear fct)
            all_goals simp [h2]
          · (have fct := And.intro e ((eq_false h2)); (repeat' (first
    | refine gF ?_
    | ((with_reducible show (_ ∧ _) ∧ _ ∧ _); (refine eK ?_ ?_ <;> with_reducible repeat' (first | exact trivial | (show _ ∧ _; refine aK ?_ ?_)))))); all_goals clear fct)
            all_goals simp [h2]
          · (have fct := And.intro e ((eq_false h2)); (repeat' (first
    | refine gF ?_
    | ((with_reducible show (_ ∧ _) ∧ _ ∧ _); (refine eK ?_ ?_ <;> with_reducible repeat' (first | exact trivial | (show _ ∧ _; refine aK ?_ ?_)))))); all_goals clear fct)
            all_goals simp [h2]
      · rw [if_neg ho]
        have e0 : ¬ a1 = 0 := fun h => ho (.inl h)
        have e3 : ¬ a1 = 3 := fun h => ho (.inr (.inl h))
        have e4 : ¬ a1 = 4 := fun h => ho (.inr (.inr h))
        (have fct := And.intro e0 (And.intro e1 (And.intro e2 (And.intro e3 (e4)))); (repeat' (first
    | refine gF ?_
    | ((with_reducible show (_ ∧ _) ∧ _ ∧ _); (refine eK ?_ ?_ <;> with_reducible repeat' (first | exact trivial | (show _ ∧ _; refine aK ?_ ?_)))))); all_goals clear fct)
end Go.Proofs.Heir
end
section
set_option linter.unusedSimpArgs false
set_option linter.unusedVariables false
namespace Go.Proofs.Heir
open Go Go.Am Go.RowKit Go.Lib
set_option maxRecDepth 100000
set_option maxHeartbeats 8000000
def seenT (l : List Int) : List (Int × Int) := l.map fun c => (c, 1)
theorem tget_seen (c : Int) : ∀ l : List Int, tget c (seenT l) = if c ∈ l then some 1 else none
  | [] => rfl
  | a :: r => by
    show (if a = c then some 1 else tget c (seenT r)) = _
    rw [tget_seen c r]
    by_cases e : a = c
    · rw [if_pos e, if_pos (by simp [e])]
    · rw [if_neg e]
      by_cases h : c ∈ r
      · rw [if_pos h, if_pos (List.mem_cons_of_mem _ h)]
      · rw [if_neg h, if_neg (by simp [h]; exact fun e' => e e'.symm)]
theorem seen_snoc {l : List Int} {c : Int} (h : c ∉ l) : tput c 1 (seenT l) = seenT (l ++ [c]) := by
  rw [tput_new (by rw [tget_seen, if_neg h])]
  simp [seenT]
theorem take_snocI {α : Type} {l : List α} {k : Nat} {x : α} (h : l[k]? = some x) : l.take (k + 1) = l.take k ++ [x] := by
  obtain ⟨hk, rfl⟩ := List.getElem?_eq_some_iff.1 h
  rw [List.take_add_one, List.getElem?_eq_getElem hk]; rfl
theorem kids_step {l : List NodeM} {n : Int} {x : NodeM} {cs : List Int} {j : Nat} {c : Int} (h : cs[j]? = some c) : kidsOK l n x (cs.take j) (cs.drop j) = (kidOK l n x (cs.take j) c && kidsOK l n x (cs.take (j + 1)) (cs.drop (j + 1))) := by
  obtain ⟨hk, rfl⟩ := List.getElem?_eq_some_iff.1 h
  rw [List.drop_eq_getElem_cons hk, take_snocI h]
  rfl
theorem elems_step {l : List NodeM} {cs : List Int} {j : Nat} {c : Int} (h : cs[j]? = some c) : elemsN l (cs.take (j + 1)) = elemsN l (cs.take j) + if (nd l c).kind = 1 then 1 else 0 := by
  rw [take_snocI h]
  unfold elemsN
  rw [List.countP_append, List.countP_cons]; simp
theorem elems_le (l : List NodeM) (cs : List Int) (j : Nat) : elemsN l (cs.take j) ≤ j := by
  unfold elemsN
  refine Nat.le_trans List.countP_le_length ?_
  simp; omega
@[reducible] def rSeen (t : List (Int × Int)) : MS := .live 2 (tRows vInt oInt t) false
theorem noRef_seen (t : List (Int × Int)) : noRefL (tRows vInt oInt t) = true := by
  rw [noRefL_iff]; intro x hx
  obtain ⟨a, _, rfl⟩ := List.mem_map.1 hx
  rfl
theorem f95_ok (f : ForM) (hs : SmallN f.nodes) (k : Nat) (x : NodeM) (hx : f.nodes[k]? = some x) : FnOK Tryz.prog 95 [] [eFor f, eInt k] [] (eBool (bearsN f.nodes k x)) := by
  have h49 := f122_ok f
  have h56 := f147_ok x.kind
  have h7 := hs.kids x (List.mem_of_getElem? hx)
  have hl := hs.len
  obtain ⟨l, m⟩ := f
  have hst := fun j c => @kids_step l k x x.kids j c
  have hse := fun j c => @elems_step l x.kids j c
  unfold bearsN
  simp only at h49 h56 hx h7 hl ⊢
  obtain ⟨⟨a1, a2, a3, a4, a5, a6, a7, a8, a9, a10⟩, hx0⟩ : ∃ y, y = x := ⟨x, rfl⟩
  rw [← hx0] at hx h56 h7 hst hse ⊢
  simp only at h56 h7 hst hse ⊢
  have hlm : (a7.map oInt).length = a7.length := List.length_map ..
  refine FnOK.startC (rvs := [.tmp 4]) G G_good Tryz.func95 rfl Tryz.ntmps95 rfl rfl ?_; with_reducible refine wD ?_
  refine IdxK.mk k (eNode ⟨a1, a2, a3, a4, a5, a6, a7, a8, a9, a10⟩) rfl (node_get hx) ?_; with_reducible refine wK ?_
  refine LoopK.use G G_good (fun (j : Nat) => [(1, eInt k), (2, .ptr 20 0 0), (5, .ptr 50 0 0), (6, .mapr 161), (7, eInt (elemsN l (a7.take j))), (18, eInts a7), (19, eInt a7.length), (20, eInt j)])
    (fun j => [(20, .live 2 [eFor ⟨l, m⟩] false), (50, .live 10 [eNode ⟨a1, a2, a3, a4, a5, a6, a7, a8, a9, a10⟩] false), (161, rSeen (seenT (a7.take j)))])
    (fun j => j ≤ a7.length ∧ kidsOK l k ⟨a1, a2, a3, a4, a5, a6, a7, a8, a9, a10⟩ [] a7 = kidsOK l k ⟨a1, a2, a3, a4, a5, a6, a7, a8, a9, a10⟩ (a7.take j) (a7.drop j)) (fun j => a7.length - j) 0 ⟨Nat.zero_le _, rfl⟩
    ⟨⟨rfl, rfl⟩, ⟨rfl, ⟨rfl, rfl⟩, ⟨rfl, rfl⟩, trivial, rfl, rfl, by show (a7.length : Int) = ((a7.map oInt).length : Int); rw [hlm], rfl, trivial⟩, ⟨⟨rfl, rfl, trivial⟩, trivial⟩, ⟨⟨rfl, rfl, rfl, rfl, rfl, rfl, rfl, rfl, rfl, rfl, trivial⟩, trivial⟩, ⟨.refl rfl, rfl⟩, trivial⟩ ?_
  rintro j ⟨hj, hok⟩
  with_reducible refine wK ?_
  refine IfK.mk (fun h1 => ?_) (fun h1 => ?_) <;> (try simp only [castN] at h1) <;> with_reducible refine wK ?_
  · have hj' : j < a7.length := by simp only [decide_eq_true_eq] at h1; omega
    obtain ⟨c, hc⟩ : ∃ c, a7[j]? = some c := ⟨_, List.getElem?_eq_getElem hj'⟩
    rw [hst j c hc] at hok
    have hse' := hse j c hc
    have hel := elems_le l a7 j
    have h49' := h49 c
    unfold kidOK at hok
    refine IdxK.mk j (eInt c) rfl (int_get hc) ?_; with_reducible refine wK ?_
    refine CallK.lit [] h49' c122 ⟨⟨rfl, rfl, trivial⟩, rfl, trivial⟩ rfl rfl ?_; with_reducible refine wK ?_
    cases ht : thereN l c with
    | false =>
      rw [ht] at hok
      simp only [Bool.false_and] at hok
      rw [hok, Bool.false_and]
      (have fct := ht; (repeat' (first
    | refine gF ?_
    | ((with_reducible show (_ ∧ _) ∧ _ ∧ _); (refine eK ?_ ?_ <;> with_reducible repeat' (first | exact trivial | (show _ ∧ _; refine aK ?_ ?_)))))); all_goals clear fct)
    | true =>
      obtain ⟨i, y, rfl, hy, hnd⟩ := there_iff.1 ht
      rw [ht, hnd] at hok
      rw [hnd] at hse'
      obtain ⟨b1, b2, b3, b4, b5, b6, b7, b8, b9, b10⟩ := y
      simp only [Bool.true_and] at hok hse'
      refine IfK.ff ?_; with_reducible refine wK ?_
      have hts := tget_seen (i : Int) (a7.take j)
      refine LookK.tab vInt oInt (seenT (a7.take j)) (k := (i : Int)) (zv := eInt 0) mt74 ⟨_, _, rfl⟩ key_int inj_int rfl rfl (fun z hxx => ?_) (fun hxx => ?_)
      · rw [hxx] at hts
        have hin : (i : Int) ∈ a7.take j := by by_cases h : (i : Int) ∈ a7.take j; exact h; rw [if_neg h] at hts; cases hts
        rw [if_pos hin] at hts
        cases hts
        rw [show hasI (a7.take j) (i : Int) = true from decide_eq_true hin] at hok
        simp only [Bool.not_true, Bool.false_and] at hok
        rw [hok, Bool.false_and]
        rw [show oInt 1 = eInt 1 from rfl]
        with_reducible refine wK ?_
        (have fct := ht; (repeat' (first
    | refine gF ?_
    | ((with_reducible show (_ ∧ _) ∧ _ ∧ _); (refine eK ?_ ?_ <;> with_reducible repeat' (first | exact trivial | (show _ ∧ _; refine aK ?_ ?_)))))); all_goals clear fct)
      · rw [hxx] at hts
        have hin : (i : Int) ∉ a7.take j := by intro h; rw [if_pos h] at hts; cases hts
        rw [show hasI (a7.take j) (i : Int) = false from decide_eq_false hin] at hok
        simp only [Bool.not_false, Bool.true_and] at hok
        with_reducible refine wK ?_
        by_cases e6 : b6 = k
        · by_cases e10 : b10 = a10
          · simp only [e6, e10, decide_true, Bool.true_and] at hok
            (have fct := And.intro e6 (e10); (repeat' (first
    | refine gF ?_
    | ((refine IdxK.mk i (eNode ⟨b1, b2, b3, b4, b5, b6, b7, b8, b9, b10⟩) rfl (node_get hy) ?_) <;> with_reducible refine wK ?_)
    | ((with_reducible show (_ ∧ _) ∧ _ ∧ _); (refine eK ?_ ?_ <;> with_reducible repeat' (first | exact trivial | (show _ ∧ _; refine aK ?_ ?_)))))); all_goals clear fct)
            refine LookK.tab vInt oInt (seenT (a7.take j)) (k := (i : Int)) (zv := eInt 0) mt74 ⟨_, _, rfl⟩ key_int inj_int rfl rfl (fun z hyy => ?_) (fun hyy => ?_)
            · rw [hxx] at hyy; cases hyy
            with_reducible refine wK ?_
            have hln : (seenT (a7.take j)).length ≤ j := by unfold seenT; simp; omega
            have hsn := seen_snoc hin
            rw [← take_snocI hc] at hsn
            refine nK ?_; with_reducible refine wK ?_
            refine PutK.tab vInt oInt (seenT (a7.take j)) (k := (i : Int)) (1 : Int) mt74 rfl key_int inj_int (by unfold maxLen; omega) rfl ?_; with_reducible refine wK ?_
            rw [hsn]
            refine IdxK.mk i (eNode ⟨b1, b2, b3, b4, b5, b6, b7, b8, b9, b10⟩) rfl (node_get hy) ?_; with_reducible refine wK ?_
            by_cases f1 : b1 = 1
            · have hs1 : (elemsN l (a7.take (j + 1)) : Int) = elemsN l (a7.take j) + 1 := by rw [hse', if_pos f1]; rfl
              simp only [f1, decide_true, Bool.true_or, Bool.true_and] at hok
              (have fct := f1; (repeat' (first
    | refine gF ?_
    | (((with_reducible show NextK _ _); refine NextK.mk (j + 1) ⟨by omega, hok⟩ (by omega) ⟨⟨rfl, rfl⟩, ⟨rfl, ⟨rfl, rfl⟩, ⟨rfl, rfl⟩, trivial, hs1, rfl, rfl, by show ((j + 1 : Nat) : Int) = (j : Int) + 1; omega, trivial⟩, ⟨⟨rfl, rfl, trivial⟩, trivial⟩, ⟨⟨rfl, rfl, rfl, rfl, rfl, rfl, rfl, rfl, rfl, rfl, trivial⟩, trivial⟩, ⟨.refl (noRef_seen _), noRef_seen _⟩, trivial⟩) <;> with_reducible refine wK ?_)
    | ((with_reducible show (_ ∧ _) ∧ _ ∧ _); (refine eK ?_ ?_ <;> with_reducible repeat' (first | exact trivial | (show _ ∧ _; refine aK ?_ ?_)))))); all_goals clear fct)
            · have hs1 : (elemsN l (a7.take (j + 1)) : Int) = elemsN l (a7.take j) := by rw [hse', if_neg f1]; rfl
              by_cases f2 : b1 = 2
              · by_cases e0 : a1 = 0
                · have hkk : (decide (b1 = 1) || decide (b1 = 2) && decide (a1 ≠ 0)) = false := by simp [f2, e0]
                  rw [hkk, Bool.false_and] at hok
                  rw [hok, Bool.false_and]
                  (have fct := And.intro (eq_false f1) (And.intro f2 (e0)); (repeat' (first
    | refine gF ?_
    | ((with_reducible show (_ ∧ _) ∧ _ ∧ _); (refine eK ?_ ?_ <;> with_reducible repeat' (first | exact trivial | (show _ ∧ _; refine aK ?_ ?_)))))); all_goals clear fct)
                · have hkk : (decide (b1 = 1) || decide (b1 = 2) && decide (a1 ≠ 0)) = true := by simp [f2, e0]
                  rw [hkk, Bool.true_and] at hok
                  (have fct := And.intro (eq_false f1) (And.intro f2 ((eq_false e0))); (repeat' (first
    | refine gF ?_
    | (((with_reducible show NextK _ _); refine NextK.mk (j + 1) ⟨by omega, hok⟩ (by omega) ⟨⟨rfl, rfl⟩, ⟨rfl, ⟨rfl, rfl⟩, ⟨rfl, rfl⟩, trivial, hs1, rfl, rfl, by show ((j + 1 : Nat) : Int) = (j : Int) + 1; omega, trivial⟩, ⟨⟨rfl, rfl, trivial⟩, trivial⟩, ⟨⟨rfl, rfl, rfl, rfl, rfl, rfl, rfl, rfl, rfl, rfl, trivial⟩, trivial⟩, ⟨.refl (noRef_seen _), noRef_seen _⟩, trivial⟩) <;> with_reducible refine wK ?_)
    | ((with_reducible show (_ ∧ _) ∧ _ ∧ _); (refine eK ?_ ?_ <;> with_reducible repeat' (first | exact trivial | (show _ ∧ _; refine aK ?_ ?_)))))); all_goals clear fct)
              · simp only [eq_false f1, eq_false f2, decide_false, Bool.false_and, Bool.or_false] at hok
                rw [hok, Bool.false_and]
                (have fct := And.intro f1 (f2); (repeat' (first
    | refine gF ?_
    | ((with_reducible show (_ ∧ _) ∧ _ ∧ _); (refine eK ?_ ?_ <;> with_reducible repeat' (first | exact trivial | (show _ ∧ _; refine aK ?_ ?_)))))); all_goals clear fct)
          · simp only [e6, eq_false e10, decide_true, decide_false, Bool.true_and, Bool.false_and] at hok
            rw [hok, Bool.false_and]
            (have fct := And.intro e6 ((eq_false e10)); (repeat' (first
    | refine gF ?_
    | ((refine IdxK.mk i (eNode ⟨b1, b2, b3, b4, b5, b6, b7, b8, b9, b10⟩) rfl (node_get hy) ?_) <;> with_reducible refine wK ?_)
    | ((with_reducible show (_ ∧ _) ∧ _ ∧ _); (refine eK ?_ ?_ <;> with_reducible repeat' (first | exact trivial | (show _ ∧ _; refine aK ?_ ?_)))))); all_goals clear fct)
        · simp only [eq_false e6, decide_false, Bool.false_and] at hok
          rw [hok, Bool.false_and]
          (have fct := (eq_false e6); (repeat' (first
    | refine gF ?_
    | ((refine IdxK.mk i (eNode ⟨b1, b2, b3, b4, b5, b6, b7, b8, b9, b10⟩) rfl (node_get hy) ?_) <;> with_reducible refine wK ?_)
    | ((with_reducible show (_ ∧ _) ∧ _ ∧ _); (refine eK ?_ ?_ <;> with_reducible repeat' (first | exact trivial | (show _ ∧ _; refine aK ?_ ?_)))))); all_goals clear fct)
  · have hjl : j = a7.length := by simp only [decide_eq_false_iff_not] at h1; omega
    rw [hjl, List.take_length, List.drop_length] at hok
    rw [hjl, List.take_length]
    rw [hok]
    simp only [kidsOK, Bool.true_and]
    refine CallK.lit [] h56 c147 ⟨rfl, trivial⟩ rfl rfl ?_; with_reducible refine wK ?_
    by_cases e7 : a7.length = 0
    · have e7' : a7 = [] := List.eq_nil_of_length_eq_zero e7
      cases hh : holdK a1 with
      | false =>
        by_cases e0 : a1 = 0
        · (have fct := And.intro hh (And.intro e0 (And.intro e7 (hlm))); (repeat' (first
    | refine gF ?_
    | ((with_reducible show (_ ∧ _) ∧ _ ∧ _); (refine eK ?_ ?_ <;> with_reducible repeat' (first | exact trivial | (show _ ∧ _; refine aK ?_ ?_)))))); all_goals clear fct)
          all_goals first | (simp [hh, e0, e7']; done) | ((try simp only [castN]); simp [hh, e0, e7']; omega)
        · (have fct := And.intro hh (And.intro (eq_false e0) (And.intro e7 (hlm))); (repeat' (first
    | refine gF ?_
    | ((with_reducible show (_ ∧ _) ∧ _ ∧ _); (refine eK ?_ ?_ <;> with_reducible repeat' (first | exact trivial | (show _ ∧ _; refine aK ?_ ?_)))))); all_goals clear fct)
          all_goals first | (simp [hh, e0, e7']; done) | ((try simp only [castN]); simp [hh, e0, e7']; omega)
      | true =>
        by_cases e0 : a1 = 0
        · (have fct := And.intro hh (And.intro e0 (And.intro e7 (hlm))); (repeat' (first
    | refine gF ?_
    | ((with_reducible show (_ ∧ _) ∧ _ ∧ _); (refine eK ?_ ?_ <;> with_reducible repeat' (first | exact trivial | (show _ ∧ _; refine aK ?_ ?_)))))); all_goals clear fct)
          all_goals first | (simp [hh, e0, e7']; done) | ((try simp only [castN]); simp [hh, e0, e7']; omega)
        · (have fct := And.intro hh (And.intro (eq_false e0) (And.intro e7 (hlm))); (repeat' (first
    | refine gF ?_
    | ((with_reducible show (_ ∧ _) ∧ _ ∧ _); (refine eK ?_ ?_ <;> with_reducible repeat' (first | exact trivial | (show _ ∧ _; refine aK ?_ ?_)))))); all_goals clear fct)
          all_goals first | (simp [hh, e0, e7']; done) | ((try simp only [castN]); simp [hh, e0, e7']; omega)
    · have e7' : ¬ a7 = [] := fun h => e7 (by rw [h]; rfl)
      cases hh : holdK a1 with
      | false =>
        by_cases e0 : a1 = 0
        · (have fct := And.intro hh (And.intro e0 (And.intro e7 (hlm))); (repeat' (first
    | refine gF ?_
    | ((with_reducible show (_ ∧ _) ∧ _ ∧ _); (refine eK ?_ ?_ <;> with_reducible repeat' (first | exact trivial | (show _ ∧ _; refine aK ?_ ?_)))))); all_goals clear fct)
          all_goals first | (simp [hh, e0, e7']; done) | ((try simp only [castN]); simp [hh, e0, e7']; omega)
        · (have fct := And.intro hh (And.intro (eq_false e0) (And.intro e7 (hlm))); (repeat' (first
    | refine gF ?_
    | ((with_reducible show (_ ∧ _) ∧ _ ∧ _); (refine eK ?_ ?_ <;> with_reducible repeat' (first | exact trivial | (show _ ∧ _; refine aK ?_ ?_)))))); all_goals clear fct)
          all_goals first | (simp [hh, e0, e7']; done) | ((try simp only [castN]); simp [hh, e0, e7']; omega)
      | true =>
        by_cases e0 : a1 = 0
        · (have fct := And.intro hh (And.intro e0 (And.intro e7 (hlm))); (repeat' (first
    | refine gF ?_
    | ((with_reducible show (_ ∧ _) ∧ _ ∧ _); (refine eK ?_ ?_ <;> with_reducible repeat' (first | exact trivial | (show _ ∧ _; refine aK ?_ ?_)))))); all_goals clear fct)
          all_goals first | (simp [hh, e0, e7']; done) | ((try simp only [castN]); simp [hh, e0, e7']; omega)
        · (have fct := And.intro hh (And.intro (eq_false e0) (And.intro e7 (hlm))); (repeat' (first
    | refine gF ?_
    | ((with_reducible show (_ ∧ _) ∧ _ ∧ _); (refine eK ?_ ?_ <;> with_reducible repeat' (first | exact trivial | (show _ ∧ _; refine aK ?_ ?_)))))); all_goals clear fct)
          all_goals first | (simp [hh, e0, e7']; done) | ((try simp only [castN]); simp [hh, e0, e7']; omega)
end Go.Proofs.Heir
end
section
set_option linter.unusedSimpArgs false
set_option linter.unusedVariables false
namespace Go.Proofs.Heir
open Go Go.Am Go.RowKit Go.Lib
set_option maxRecDepth 100000
set_option maxHeartbeats 8000000
theorem allIx_no {α : Type} {p : Nat → α → Bool} {l : List α} {k : Nat} {x : α} (h : l[k]? = some x) (hp : p k x = false) : allIx p 0 l = false := by
  rw [Bool.eq_false_iff]
  intro h1
  have := allIx_iff.1 h1 k x h
  rw [Nat.zero_add, hp] at this
  cases this
theorem allIx_yes {α : Type} {p : Nat → α → Bool} {l : List α} (h : ∀ k x, l[k]? = some x → p k x = true) : allIx p 0 l = true :=
  allIx_iff.2 fun k x hx => by rw [Nat.zero_add]; exact h k x hx
theorem f54_ok (f : ForM) (hs : SmallN f.nodes) : FnOK Tryz.prog 54 [] [eFor f] [] (eBool (rightF f)) := by
  have hl := hs.len
  have h38 : ∀ x ∈ f.nodes, FnOK Tryz.prog 92 [] [eNode x] [] (eBool (namedN x)) := fun x hx => f92_ok x (by have := hs.attrs x hx; omega)
  have h39 := f93_ok f
  have h40 := f94_ok f hs
  have h41 := f95_ok f hs
  have h42 := f96_ok f
  have h43 : (∀ n, thereN f.nodes n = true → nodeOK f.nodes n (nd f.nodes n) = true) → ∀ k, k < f.nodes.length → FnOK Tryz.prog 97 [] [eFor f, eInt k] [] (eBool (endsN f.nodes f.nodes.length k)) := fun hN k hk => f97_ok f (by omega) (fun k x hx => by have := node_up hN k (there_get hx); rwa [nd_get hx] at this) k hk
  obtain ⟨l, m⟩ := f
  unfold rightF headOK
  simp only at hl h38 h39 h40 h41 h42 h43 ⊢
  have hlm : (l.map oNode).length = l.length := List.length_map ..
  refine FnOK.startC (rvs := [.tmp 2]) G G_good Tryz.func54 rfl Tryz.ntmps54 rfl rfl ?_; with_reducible refine wD ?_
  by_cases e1 : m < 1
  · have c1 : decide (1 ≤ m) = false := decide_eq_false (by omega)
    rw [c1]
    (have fct := e1; (repeat' (first
    | refine gF ?_
    | ((with_reducible show (_ ∧ _) ∧ _ ∧ _); (refine eK ?_ ?_ <;> with_reducible repeat' (first | exact trivial | (show _ ∧ _; refine aK ?_ ?_)))))); all_goals clear fct)
    all_goals simp
  by_cases e2 : 400 < m
  · have c1 : decide (m ≤ 400) = false := decide_eq_false (by omega)
    rw [c1]
    (have fct := And.intro (eq_false e1) (e2); (repeat' (first
    | refine gF ?_
    | ((with_reducible show (_ ∧ _) ∧ _ ∧ _); (refine eK ?_ ?_ <;> with_reducible repeat' (first | exact trivial | (show _ ∧ _; refine aK ?_ ?_)))))); all_goals clear fct)
    all_goals simp
  by_cases e3 : l.length < 1
  · have c1 : decide (1 ≤ l.length) = false := decide_eq_false (by omega)
    have e3' : (l.length : Int) < 1 := by omega
    rw [c1]
    (have fct := And.intro (eq_false e1) (And.intro (eq_false e2) (And.intro hlm (e3'))); (repeat' (first
    | refine gF ?_
    | ((with_reducible show (_ ∧ _) ∧ _ ∧ _); (refine eK ?_ ?_ <;> with_reducible repeat' (first | exact trivial | (show _ ∧ _; refine aK ?_ ?_)))))); all_goals clear fct)
    all_goals simp
  have e3' : ¬ (l.length : Int) < 1 := by omega
  by_cases e4 : m < (l.length : Int)
  · have c1 : decide ((l.length : Int) ≤ m) = false := decide_eq_false (by omega)
    rw [c1]
    (have fct := And.intro (eq_false e1) (And.intro (eq_false e2) (And.intro hlm (And.intro (eq_false e3') (e4)))); (repeat' (first
    | refine gF ?_
    | ((with_reducible show (_ ∧ _) ∧ _ ∧ _); (refine eK ?_ ?_ <;> with_reducible repeat' (first | exact trivial | (show _ ∧ _; refine aK ?_ ?_)))))); all_goals clear fct)
    all_goals simp
  obtain ⟨x0, hx0⟩ : ∃ x, l[0]? = some x := ⟨_, List.getElem?_eq_getElem (by omega)⟩
  have hn0 : nd l 0 = x0 := nd_get (k := 0) hx0
  rw [hn0]
  obtain ⟨z1, z2, z3, z4, z5, z6, z7, z8, z9, z10⟩ := x0
  by_cases e5 : ¬ z1 = 0
  · (have fct := And.intro (eq_false e1) (And.intro (eq_false e2) (And.intro hlm (And.intro (eq_false e3') (And.intro (eq_false e4) ((eq_false e5)))))); (repeat' (first
    | refine gF ?_
    | ((refine IdxK.mk 0 (eNode ⟨z1, z2, z3, z4, z5, z6, z7, z8, z9, z10⟩) rfl (node_get hx0) ?_) <;> with_reducible refine wK ?_)
    | ((with_reducible show (_ ∧ _) ∧ _ ∧ _); (refine eK ?_ ?_ <;> with_reducible repeat' (first | exact trivial | (show _ ∧ _; refine aK ?_ ?_)))))); all_goals clear fct)
    all_goals simp [e5]
  have e5 := Decidable.not_not.1 e5
  have c1 : (decide (1 ≤ m) && decide (m ≤ 400) && decide (1 ≤ l.length) && decide ((l.length : Int) ≤ m) && decide (z1 = 0)) = true := by
    simp only [Bool.and_eq_true, decide_eq_true_eq]; omega
  simp only at c1 ⊢
  rw [c1, Bool.true_and]
  (have fct := And.intro (eq_false e1) (And.intro (eq_false e2) (And.intro hlm (And.intro (eq_false e3') (And.intro (eq_false e4) (e5))))); (repeat' (first
    | refine gF ?_
    | ((refine IdxK.mk 0 (eNode ⟨z1, z2, z3, z4, z5, z6, z7, z8, z9, z10⟩) rfl (node_get hx0) ?_) <;> with_reducible refine wK ?_)
    | ((with_reducible show (_ ∧ _) ∧ _ ∧ _); (refine eK ?_ ?_ <;> with_reducible repeat' (first | exact trivial | (show _ ∧ _; refine aK ?_ ?_)))))); all_goals clear fct)
  refine LoopK.use G G_good (fun (k : Nat) => [(1, .ptr 10 0 0), (44, eNodes l), (45, eInt l.length), (46, eInt k)]) (fun _ => [(10, .live 2 [eFor ⟨l, m⟩] false)])
    (fun k => k ≤ l.length ∧ ∀ j x, j < k → l[j]? = some x → nodeOK l j x = true) (fun k => l.length - k) 0 ⟨Nat.zero_le _, fun j x h => by omega⟩
    ⟨⟨rfl, rfl⟩, ⟨⟨rfl, rfl⟩, rfl, by show (l.length : Int) = ((l.map oNode).length : Int); rw [hlm], rfl, trivial⟩, ⟨⟨rfl, rfl, trivial⟩, trivial⟩, trivial⟩ ?_
  rintro k ⟨hk, hok⟩
  with_reducible refine wK ?_
  refine IfK.mk (fun g1 => ?_) (fun g1 => ?_) <;> (try simp only [castN] at g1) <;> with_reducible refine wK ?_
  · have hk' : k < l.length := by simp only [decide_eq_true_eq] at g1; omega
    obtain ⟨x, hx⟩ : ∃ x, l[k]? = some x := ⟨_, List.getElem?_eq_getElem hk'⟩
    have h38' := h38 x (List.mem_of_getElem? hx)
    have h39' := h39 k x hx
    have h40' := h40 k x hx
    have h41' := h41 k x hx
    have h42' := h42 k x hx
    have bad : nodeOK l k x = false → allIx (fun k x => nodeOK l k x) 0 l = false := fun h => allIx_no hx h
    have good : nodeOK l k x = true → ∀ j y, j < k + 1 → l[j]? = some y → nodeOK l j y = true := fun h j y hj hy => by
      rcases Nat.lt_or_ge j k with h6 | h6
      · exact hok j y h6 hy
      · have : j = k := by omega
        subst this
        rw [hx] at hy; cases hy; exact h
    obtain ⟨a1, a2, a3, a4, a5, a6, a7, a8, a9, a10⟩ := x
    refine IdxK.mk k (eNode ⟨a1, a2, a3, a4, a5, a6, a7, a8, a9, a10⟩) rfl (node_get hx) ?_; with_reducible refine wK ?_
    cases q1 : namedN ⟨a1, a2, a3, a4, a5, a6, a7, a8, a9, a10⟩ with
    | false =>
      rw [bad (by unfold nodeOK; rw [q1]; rfl), Bool.false_and]
      (have fct := q1; (repeat' (first
    | refine gF ?_
    | (((with_reducible show CallK _ _ 92 _ _ _ _); refine CallK.lit [] h38' c92 ⟨⟨rfl, rfl, rfl, rfl, rfl, rfl, rfl, rfl, rfl, rfl, trivial⟩, trivial⟩ rfl rfl ?_) <;> with_reducible refine wK ?_)
    | ((with_reducible show (_ ∧ _) ∧ _ ∧ _); (refine eK ?_ ?_ <;> with_reducible repeat' (first | exact trivial | (show _ ∧ _; refine aK ?_ ?_)))))); all_goals clear fct)
    | true =>
      cases q2 : ownedN l k ⟨a1, a2, a3, a4, a5, a6, a7, a8, a9, a10⟩ with
      | false =>
        rw [bad (by unfold nodeOK; rw [q1, q2]; rfl), Bool.false_and]
        (have fct := And.intro q1 (q2); (repeat' (first
    | refine gF ?_
    | ((first
      | ((with_reducible show CallK _ _ 92 _ _ _ _); refine CallK.lit [] h38' c92 ⟨⟨rfl, rfl, rfl, rfl, rfl, rfl, rfl, rfl, rfl, rfl, trivial⟩, trivial⟩ rfl rfl ?_)
      | ((with_reducible show CallK _ _ 93 _ _ _ _); refine CallK.lit [] h39' c93 ⟨⟨rfl, rfl, trivial⟩, rfl, trivial⟩ rfl rfl ?_)) <;> with_reducible refine wK ?_)
    | ((with_reducible show (_ ∧ _) ∧ _ ∧ _); (refine eK ?_ ?_ <;> with_reducible repeat' (first | exact trivial | (show _ ∧ _; refine aK ?_ ?_)))))); all_goals clear fct)
      | true =>
        cases q3 : hungN l k ⟨a1, a2, a3, a4, a5, a6, a7, a8, a9, a10⟩ with
        | false =>
          rw [bad (by unfold nodeOK; rw [q1, q2, q3]; rfl), Bool.false_and]
          (have fct := And.intro q1 (And.intro q2 (q3)); (repeat' (first
    | refine gF ?_
    | ((first
      | ((with_reducible show CallK _ _ 92 _ _ _ _); refine CallK.lit [] h38' c92 ⟨⟨rfl, rfl, rfl, rfl, rfl, rfl, rfl, rfl, rfl, rfl, trivial⟩, trivial⟩ rfl rfl ?_)
      | ((with_reducible show CallK _ _ 93 _ _ _ _); refine CallK.lit [] h39' c93 ⟨⟨rfl, rfl, trivial⟩, rfl, trivial⟩ rfl rfl ?_)
      | ((with_reducible show CallK _ _ 94 _ _ _ _); refine CallK.lit [] h40' c94 ⟨⟨rfl, rfl, trivial⟩, rfl, trivial⟩ rfl rfl ?_)) <;> with_reducible refine wK ?_)
    | ((with_reducible show (_ ∧ _) ∧ _ ∧ _); (refine eK ?_ ?_ <;> with_reducible repeat' (first | exact trivial | (show _ ∧ _; refine aK ?_ ?_)))))); all_goals clear fct)
        | true =>
          cases q4 : bearsN l k ⟨a1, a2, a3, a4, a5, a6, a7, a8, a9, a10⟩ with
          | false =>
            rw [bad (by unfold nodeOK; rw [q1, q2, q3, q4]; rfl), Bool.false_and]
            (have fct := And.intro q1 (And.intro q2 (And.intro q3 (q4))); (repeat' (first
    | refine gF ?_
    | ((first
      | ((with_reducible show CallK _ _ 92 _ _ _ _); refine CallK.lit [] h38' c92 ⟨⟨rfl, rfl, rfl, rfl, rfl, rfl, rfl, rfl, rfl, rfl, trivial⟩, trivial⟩ rfl rfl ?_)
      | ((with_reducible show CallK _ _ 93 _ _ _ _); refine CallK.lit [] h39' c93 ⟨⟨rfl, rfl, trivial⟩, rfl, trivial⟩ rfl rfl ?_)
      | ((with_reducible show CallK _ _ 94 _ _ _ _); refine CallK.lit [] h40' c94 ⟨⟨rfl, rfl, trivial⟩, rfl, trivial⟩ rfl rfl ?_)
      | ((with_reducible show CallK _ _ 95 _ _ _ _); refine CallK.lit [] h41' c95 ⟨⟨rfl, rfl, trivial⟩, rfl, trivial⟩ rfl rfl ?_)) <;> with_reducible refine wK ?_)
    | ((with_reducible show (_ ∧ _) ∧ _ ∧ _); (refine eK ?_ ?_ <;> with_reducible repeat' (first | exact trivial | (show _ ∧ _; refine aK ?_ ?_)))))); all_goals clear fct)
          | true =>
            cases q5 : shadedN l k ⟨a1, a2, a3, a4, a5, a6, a7, a8, a9, a10⟩ with
            | false =>
              rw [bad (by unfold nodeOK; rw [q1, q2, q3, q4, q5]; rfl), Bool.false_and]
              (have fct := And.intro q1 (And.intro q2 (And.intro q3 (And.intro q4 (q5)))); (repeat' (first
    | refine gF ?_
    | ((first
      | ((with_reducible show CallK _ _ 92 _ _ _ _); refine CallK.lit [] h38' c92 ⟨⟨rfl, rfl, rfl, rfl, rfl, rfl, rfl, rfl, rfl, rfl, trivial⟩, trivial⟩ rfl rfl ?_)
      | ((with_reducible show CallK _ _ 93 _ _ _ _); refine CallK.lit [] h39' c93 ⟨⟨rfl, rfl, trivial⟩, rfl, trivial⟩ rfl rfl ?_)
      | ((with_reducible show CallK _ _ 94 _ _ _ _); refine CallK.lit [] h40' c94 ⟨⟨rfl, rfl, trivial⟩, rfl, trivial⟩ rfl rfl ?_)
      | ((with_reducible show CallK _ _ 95 _ _ _ _); refine CallK.lit [] h41' c95 ⟨⟨rfl, rfl, trivial⟩, rfl, trivial⟩ rfl rfl ?_)
      | ((with_reducible show CallK _ _ 96 _ _ _ _); refine CallK.lit [] h42' c96 ⟨⟨rfl, rfl, trivial⟩, rfl, trivial⟩ rfl rfl ?_)) <;> with_reducible refine wK ?_)
    | ((with_reducible show (_ ∧ _) ∧ _ ∧ _); (refine eK ?_ ?_ <;> with_reducible repeat' (first | exact trivial | (show _ ∧ _; refine aK ?_ ?_)))))); all_goals clear fct)
            | true =>
              have hnx := good (by unfold nodeOK; rw [q1, q2, q3, q4, q5]; rfl)
              (have fct := And.intro q1 (And.intro q2 (And.intro q3 (And.intro q4 (q5)))); (repeat' (first
    | refine gF ?_
    | ((first
      | ((with_reducible show CallK _ _ 92 _ _ _ _); refine CallK.lit [] h38' c92 ⟨⟨rfl, rfl, rfl, rfl, rfl, rfl, rfl, rfl, rfl, rfl, trivial⟩, trivial⟩ rfl rfl ?_)
      | ((with_reducible show CallK _ _ 93 _ _ _ _); refine CallK.lit [] h39' c93 ⟨⟨rfl, rfl, trivial⟩, rfl, trivial⟩ rfl rfl ?_)
      | ((with_reducible show CallK _ _ 94 _ _ _ _); refine CallK.lit [] h40' c94 ⟨⟨rfl, rfl, trivial⟩, rfl, trivial⟩ rfl rfl ?_)
      | ((with_reducible show CallK _ _ 95 _ _ _ _); refine CallK.lit [] h41' c95 ⟨⟨rfl, rfl, trivial⟩, rfl, trivial⟩ rfl rfl ?_)
      | ((with_reducible show CallK _ _ 96 _ _ _ _); refine CallK.lit [] h42' c96 ⟨⟨rfl, rfl, trivial⟩, rfl, trivial⟩ rfl rfl ?_)
      | ((with_reducible show NextK _ _); refine NextK.mk (k + 1) ⟨by omega, hnx⟩ (by omega) ⟨⟨rfl, rfl⟩, ⟨⟨rfl, rfl⟩, rfl, rfl, by show ((k + 1 : Nat) : Int) = (k : Int) + 1; omega, trivial⟩, ⟨⟨rfl, rfl, trivial⟩, trivial⟩, trivial⟩)) <;> with_reducible refine wK ?_)
    | ((with_reducible show (_ ∧ _) ∧ _ ∧ _); (refine eK ?_ ?_ <;> with_reducible repeat' (first | exact trivial | (show _ ∧ _; refine aK ?_ ?_)))))); all_goals clear fct)
  · have hkl : k = l.length := by simp only [decide_eq_false_iff_not] at g1; omega
    have hall : ∀ (j : Nat) (x : NodeM), l[j]? = some x → nodeOK l j x = true := fun j x hx => hok j x (by have := (List.getElem?_eq_some_iff.1 hx).1; omega) hx
    rw [allIx_yes hall, Bool.true_and]
    have h43' := h43 fun n hn => by
      obtain ⟨k, x, rfl, hk, hx⟩ := there_iff.1 hn
      rw [hx]; exact hall k x hk
    refine LoopK.use G G_good (fun (k : Nat) => [(1, .ptr 10 0 0), (82, eInt l.length), (83, eInt k)]) (fun _ => [(10, .live 2 [eFor ⟨l, m⟩] false)])
      (fun k => k ≤ l.length ∧ ∀ (j : Nat) (x : NodeM), j < k → l[j]? = some x → endsN l l.length j = true) (fun k => l.length - k) 0 ⟨Nat.zero_le _, fun j x h => by omega⟩
      ⟨⟨rfl, rfl⟩, ⟨⟨rfl, rfl⟩, by show (l.length : Int) = ((l.map oNode).length : Int); rw [hlm], rfl, trivial⟩, ⟨⟨rfl, rfl, trivial⟩, trivial⟩, trivial⟩ ?_
    rintro i ⟨hi, hends⟩
    with_reducible refine wK ?_
    refine IfK.mk (fun g2 => ?_) (fun g2 => ?_) <;> (try simp only [castN] at g2) <;> with_reducible refine wK ?_
    · have hi' : i < l.length := by simp only [decide_eq_true_eq] at g2; omega
      obtain ⟨y, hy⟩ : ∃ y, l[i]? = some y := ⟨_, List.getElem?_eq_getElem hi'⟩
      have h43'' := h43' i hi'
      refine CallK.lit [] h43'' c97 ⟨⟨rfl, rfl, trivial⟩, rfl, trivial⟩ rfl rfl ?_; with_reducible refine wK ?_
      cases q : endsN l l.length i with
      | false =>
        rw [allIx_no hy q]
        (have fct := q; (repeat' (first
    | refine gF ?_
    | ((with_reducible show (_ ∧ _) ∧ _ ∧ _); (refine eK ?_ ?_ <;> with_reducible repeat' (first | exact trivial | (show _ ∧ _; refine aK ?_ ?_)))))); all_goals clear fct)
      | true =>
        (have fct := q; (repeat' (first
    | refine gF ?_
    | (((with_reducible show NextK _ _); refine NextK.mk (i + 1) ⟨by omega, fun j x hj hx => ?_⟩ (by omega) ⟨⟨rfl, rfl⟩, ⟨⟨rfl, rfl⟩, rfl, by show ((i + 1 : Nat) : Int) = (i : Int) + 1; omega, trivial⟩, ⟨⟨rfl, rfl, trivial⟩, trivial⟩, trivial⟩) <;> with_reducible refine wK ?_)
    | ((with_reducible show (_ ∧ _) ∧ _ ∧ _); (refine eK ?_ ?_ <;> with_reducible repeat' (first | exact trivial | (show _ ∧ _; refine aK ?_ ?_)))))); all_goals clear fct)
        rcases Nat.lt_or_ge j i with h6 | h6
        · exact hends j x h6 hx
        · have : j = i := by omega
          rw [this]; exact q
    · have hil : i = l.length := by simp only [decide_eq_false_iff_not] at g2; omega
      rw [allIx_yes fun j x hx => hends j x (by have := (List.getElem?_eq_some_iff.1 hx).1; omega) hx]
      (refine eK ?_ ?_ <;> with_reducible repeat' (first | exact trivial | (show _ ∧ _; refine aK ?_ ?_)))
theorem f15_ok (f : ForM) (hs : SmallN f.nodes) : FnOK Tryz.prog 15 [] [eFor f] [] (eBool (rightF f)) := by
  have h23 := f54_ok f hs
  obtain ⟨l, m⟩ := f
  refine FnOK.startC (rvs := [.tmp 2]) G G_good Tryz.func15 rfl Tryz.ntmps15 rfl rfl ?_; with_reducible refine wD ?_
  refine CallK.lit [] h23 c54 ⟨⟨rfl, rfl, trivial⟩, trivial⟩ rfl rfl ?_; with_reducible refine wK ?_
  (refine eK ?_ ?_ <;> with_reducible repeat' (first | exact trivial | (show _ ∧ _; refine aK ?_ ?_)))
end Go.Proofs.Heir
end
section
set_option linter.unusedSimpArgs false
set_option linter.unusedVariables false
namespace Go.Proofs.Heir
open Go Go.Am Go.RowKit Go.Lib
set_option maxRecDepth 100000
set_option maxHeartbeats 8000000
theorem noRef_ints (l : List Int) : noRefL (l.map oInt) = true := by
  rw [noRefL_iff]; intro x hx
  obtain ⟨a, _, rfl⟩ := List.mem_map.1 hx
  rfl
theorem frz_ints {m : ML} {fz : Nat → Bool} {tab : List (Nat × Nat)} {n t len : Nat} {ro : Bool} {rows : List AV} {l : List Int} (h1 : lkM m t = .live 1 rows ro) (h2 : fz t = true) (h3 : rows = l.map oInt) (h4 : len = l.length) : FrzK m fz (MF tab fz m n) (eInts l) t 0 len := by
  subst h3; subst h4
  have e : (l.map oInt).length = l.length := List.length_map ..
  exact .cut h1 h2 (by omega) (by rw [List.drop_zero, List.take_of_length_le (by omega)]) (noRef_ints l)
@[reducible] def rInts (l : List Int) : MS := .live 1 (l.map oInt) false
theorem count_step {l : List Int} {n c : Int} {k : Nat} (h : l[k]? = some c) : (l.take (k + 1)).count n = (l.take k).count n + if c = n then 1 else 0 := by
  rw [take_snocI h, List.count_append, List.count_singleton]
  by_cases e : c = n <;> simp [e]
theorem f20_ok (l : List Int) (hl : l.length ≤ 100000) (n : Int) : FnOK Tryz.prog 20 [] [eInts l, eInt n] [] (eInt (l.count n)) := by
  have hlm : (l.map oInt).length = l.length := List.length_map ..
  refine FnOK.startC (rvs := [.tmp 4]) G G_good Tryz.func20 rfl Tryz.ntmps20 rfl rfl ?_; with_reducible refine wD ?_
  refine LoopK.use G G_good (fun (k : Nat) => [(0, eInts l), (1, eInt n), (5, eInt ((l.take k).count n)), (6, eInt k)]) (fun _ => []) (fun k => k ≤ l.length) (fun k => l.length - k) 0 (Nat.zero_le _)
    ⟨⟨rfl, rfl⟩, ⟨rfl, rfl, rfl, rfl, trivial⟩, trivial⟩ ?_
  rintro k hk
  with_reducible refine wK ?_
  refine IfK.mk (fun h1 => ?_) (fun h1 => ?_) <;> (try simp only [castN] at h1) <;> with_reducible refine wK ?_
  · have hk' : k < l.length := by simp only [decide_eq_true_eq] at h1; omega
    obtain ⟨c, hc⟩ : ∃ a, l[k]? = some a := ⟨_, List.getElem?_eq_getElem hk'⟩
    have hst := count_step (n := n) hc
    have hle : (l.take k).count n ≤ k := Nat.le_trans List.count_le_length (by simp; omega)
    refine IdxK.mk k (eInt c) rfl (int_get hc) ?_; with_reducible refine wK ?_
    by_cases e : c = n
    · rw [if_pos e] at hst
      (have fct := e; (repeat' (first
    | refine gF ?_
    | (((with_reducible show NextK _ _); refine NextK.mk (k + 1) (by omega) (by omega) ⟨⟨rfl, rfl⟩, ⟨rfl, rfl, by show (((l.take (k + 1)).count n : Nat) : Int) = _; rw [hst]; rfl, by show ((k + 1 : Nat) : Int) = (k : Int) + 1; omega, trivial⟩, trivial⟩) <;> with_reducible refine wK ?_)
    | ((with_reducible show (_ ∧ _) ∧ _ ∧ _); (refine eK ?_ ?_ <;> with_reducible repeat' (first | exact trivial | (show _ ∧ _; refine aK ?_ ?_)))))); all_goals clear fct)
    · rw [if_neg e] at hst
      (have fct := (eq_false e); (repeat' (first
    | refine gF ?_
    | (((with_reducible show NextK _ _); refine NextK.mk (k + 1) (by omega) (by omega) ⟨⟨rfl, rfl⟩, ⟨rfl, rfl, by show (((l.take (k + 1)).count n : Nat) : Int) = _; rw [hst]; simp, by show ((k + 1 : Nat) : Int) = (k : Int) + 1; omega, trivial⟩, trivial⟩) <;> with_reducible refine wK ?_)
    | ((with_reducible show (_ ∧ _) ∧ _ ∧ _); (refine eK ?_ ?_ <;> with_reducible repeat' (first | exact trivial | (show _ ∧ _; refine aK ?_ ?_)))))); all_goals clear fct)
  · (refine eK ?_ ?_ <;> with_reducible repeat' (first | exact trivial | (show _ ∧ _; refine aK ?_ ?_)))
    have : k = l.length := by simp only [decide_eq_false_iff_not] at h1; omega
    rw [this, List.take_length]
theorem snoc_ints (l : List Int) (n : Int) : l.map oInt ++ [eInt n] = (l ++ [n]).map oInt := by rw [List.map_append]; rfl
end Go.Proofs.Heir
end
section
set_option linter.unusedSimpArgs false
set_option linter.unusedVariables false
namespace Go.Proofs.Heir
open Go Go.Am Go.RowKit Go.Lib
set_option maxRecDepth 100000
set_option maxHeartbeats 8000000
def smallX (x : NodeM) : Bool := decide (x.kids.length ≤ 60) && decide (x.attrs.length ≤ 60) && decide (x.name.size ≤ 300)
theorem short_eq (f : ForM) : shortF f = (decide (f.nodes.length ≤ 60) && f.nodes.all smallX) := rfl
theorem all_no {α : Type} {p : α → Bool} {l : List α} {k : Nat} {x : α} (h : l[k]? = some x) (hp : p x = false) : l.all p = false := by
  rw [Bool.eq_false_iff]
  intro h1
  rw [List.all_eq_true] at h1
  rw [h1 x (List.mem_of_getElem? h)] at hp; cases hp
theorem all_yes {α : Type} {p : α → Bool} {l : List α} (h : ∀ (k : Nat) (x : α), l[k]? = some x → p x = true) : l.all p = true := by
  rw [List.all_eq_true]
  intro x hx
  obtain ⟨k, hk⟩ := List.getElem?_of_mem hx
  exact h k x hk
theorem f13_ok (f : ForM) : FnOK Tryz.prog 13 [] [eFor f] [] (eBool (shortF f)) := by
  rw [short_eq]
  obtain ⟨l, m⟩ := f
  simp only
  have hlm : (l.map oNode).length = l.length := List.length_map ..
  refine FnOK.startC (rvs := [.tmp 2]) G G_good Tryz.func13 rfl Tryz.ntmps13 rfl rfl ?_; with_reducible refine wD ?_
  by_cases e0 : (60 : Int) < (l.length : Int)
  · rw [decide_eq_false (show ¬ l.length ≤ 60 by omega)]
    (have fct := And.intro hlm (e0); (repeat' (first
    | refine gF ?_
    | ((with_reducible show (_ ∧ _) ∧ _ ∧ _); (refine eK ?_ ?_ <;> with_reducible repeat' (first | exact trivial | (show _ ∧ _; refine aK ?_ ?_)))))); all_goals clear fct)
    all_goals rfl
  rw [decide_eq_true (show l.length ≤ 60 by omega), Bool.true_and]
  (have fct := And.intro hlm ((eq_false e0)); (repeat' (first
    | refine gF ?_
    | ((with_reducible show (_ ∧ _) ∧ _ ∧ _); (refine eK ?_ ?_ <;> with_reducible repeat' (first | exact trivial | (show _ ∧ _; refine aK ?_ ?_)))))); all_goals clear fct)
  refine LoopK.use G G_good (fun (k : Nat) => [(1, .ptr 10 0 0), (3, eInt k)]) (fun _ => [(10, .live 2 [eFor ⟨l, m⟩] false)])
    (fun k => k ≤ l.length ∧ ∀ (j : Nat) (y : NodeM), j < k → l[j]? = some y → smallX y = true) (fun k => l.length - k) 0 ⟨Nat.zero_le _, fun j y h => by omega⟩
    ⟨⟨rfl, rfl⟩, ⟨⟨rfl, rfl⟩, rfl, trivial⟩, ⟨⟨rfl, rfl, trivial⟩, trivial⟩, trivial⟩ ?_
  rintro k ⟨hk, hok⟩
  with_reducible refine wK ?_
  refine IfK.mk (fun h1 => ?_) (fun h1 => ?_) <;> (try simp only [castN] at h1) <;> with_reducible refine wK ?_
  · have hk' : k < l.length := by simp only [decide_eq_true_eq] at h1; omega
    obtain ⟨x, hx⟩ : ∃ x, l[k]? = some x := ⟨_, List.getElem?_eq_getElem hk'⟩
    have bad : smallX x = false → l.all smallX = false := fun h => all_no hx h
    have good : smallX x = true → ∀ (j : Nat) (y : NodeM), j < k + 1 → l[j]? = some y → smallX y = true := fun h j y hj hy => by
      rcases Nat.lt_or_ge j k with h6 | h6
      · exact hok j y h6 hy
      · have : j = k := by omega
        subst this
        rw [hx] at hy; cases hy; exact h
    obtain ⟨a1, a2, a3, a4, a5, a6, a7, a8, a9, a10⟩ := x
    have hla : (a5.map oAttr).length = a5.length := List.length_map ..
    have hlk : (a7.map oInt).length = a7.length := List.length_map ..
    have sm : smallX ⟨a1, a2, a3, a4, a5, a6, a7, a8, a9, a10⟩ = (decide (a7.length ≤ 60) && decide (a5.length ≤ 60) && decide (a2.size ≤ 300)) := rfl
    rw [sm] at bad good
    refine IdxK.mk k (eNode ⟨a1, a2, a3, a4, a5, a6, a7, a8, a9, a10⟩) rfl (node_get hx) ?_; with_reducible refine wK ?_
    by_cases e1 : (60 : Int) < (a7.length : Int)
    · rw [bad (by rw [decide_eq_false (show ¬ a7.length ≤ 60 by omega)]; rfl)]
      (have fct := And.intro hlk (e1); (repeat' (first
    | refine gF ?_
    | ((with_reducible show (_ ∧ _) ∧ _ ∧ _); (refine eK ?_ ?_ <;> with_reducible repeat' (first | exact trivial | (show _ ∧ _; refine aK ?_ ?_)))))); all_goals clear fct)
    by_cases e2 : (60 : Int) < (a5.length : Int)
    · rw [bad (by rw [decide_eq_false (show ¬ a5.length ≤ 60 by omega), Bool.and_false]; rfl)]
      (have fct := And.intro hlk (And.intro hla (And.intro (eq_false e1) (e2))); (repeat' (first
    | refine gF ?_
    | ((refine IdxK.mk k (eNode ⟨a1, a2, a3, a4, a5, a6, a7, a8, a9, a10⟩) rfl (node_get hx) ?_) <;> with_reducible refine wK ?_)
    | ((with_reducible show (_ ∧ _) ∧ _ ∧ _); (refine eK ?_ ?_ <;> with_reducible repeat' (first | exact trivial | (show _ ∧ _; refine aK ?_ ?_)))))); all_goals clear fct)
    by_cases e3 : (300 : Int) < (a2.size : Int)
    · rw [bad (by rw [decide_eq_false (show ¬ a2.size ≤ 300 by omega), Bool.and_false])]
      (have fct := And.intro hlk (And.intro hla (And.intro (eq_false e1) (And.intro (eq_false e2) (e3)))); (repeat' (first
    | refine gF ?_
    | ((refine IdxK.mk k (eNode ⟨a1, a2, a3, a4, a5, a6, a7, a8, a9, a10⟩) rfl (node_get hx) ?_) <;> with_reducible refine wK ?_)
    | ((with_reducible show (_ ∧ _) ∧ _ ∧ _); (refine eK ?_ ?_ <;> with_reducible repeat' (first | exact trivial | (show _ ∧ _; refine aK ?_ ?_)))))); all_goals clear fct)
    have hnx := good (by simp only [Bool.and_eq_true, decide_eq_true_eq]; omega)
    (have fct := And.intro hlk (And.intro hla (And.intro (eq_false e1) (And.intro (eq_false e2) ((eq_false e3))))); (repeat' (first
    | refine gF ?_
    | ((first
      | (refine IdxK.mk k (eNode ⟨a1, a2, a3, a4, a5, a6, a7, a8, a9, a10⟩) rfl (node_get hx) ?_)
      | ((with_reducible show NextK _ _); refine NextK.mk (k + 1) ⟨by omega, hnx⟩ (by omega) ⟨⟨rfl, rfl⟩, ⟨⟨rfl, rfl⟩, by show ((k + 1 : Nat) : Int) = (k : Int) + 1; omega, trivial⟩, ⟨⟨rfl, rfl, trivial⟩, trivial⟩, trivial⟩)) <;> with_reducible refine wK ?_)
    | ((with_reducible show (_ ∧ _) ∧ _ ∧ _); (refine eK ?_ ?_ <;> with_reducible repeat' (first | exact trivial | (show _ ∧ _; refine aK ?_ ?_)))))); all_goals clear fct)
  · have hkl : k = l.length := by simp only [decide_eq_false_iff_not] at h1; omega
    rw [all_yes fun j y hy => hok j y (by have := (List.getElem?_eq_some_iff.1 hy).1; omega) hy]
    (refine eK ?_ ?_ <;> with_reducible repeat' (first | exact trivial | (show _ ∧ _; refine aK ?_ ?_)))
end Go.Proofs.Heir
end
section
set_option linter.unusedSimpArgs false
set_option linter.unusedVariables false
namespace Go.Proofs.Heir
open Go Go.Am Go.RowKit Go.Lib
set_option maxRecDepth 100000
theorem CutK {P : Program} {N nL : Nat} {sl : SL} {m : ML} {c : Code} {Q : Exit → SL → ML → Prop} {F G : Prop} (main : (F → LoopK P N nL sl m (c := c) (Q := Q)) → G) (rest : F → LoopK P N nL sl m (c := c) (Q := Q)) : G := main rest
end Go.Proofs.Heir
end
section
set_option linter.unusedSimpArgs false
set_option linter.unusedVariables false
namespace Go.Proofs.Heir
open Go Go.Am Go.RowKit Go.Lib
set_option maxRecDepth 100000
end Go.Proofs.Heir
end
section
set_option linter.unusedSimpArgs false
set_option linter.unusedVariables false
namespace Go.Proofs.Heir
open Go Go.Am Go.RowKit Go.Lib
set_option maxRecDepth 100000
set_option maxHeartbeats 8000000
theorem f130_ok (g : Nat) (cg : Callable Tryz.prog g) (caps : List AV) (hcaps : noRefL caps = true) (p : Int → Bool) (l : List Int) (hl : l.length ≤ 100000) (hf : ∀ a, a ∈ l → FnOK Tryz.prog g [] (eInt a :: caps) [] (eBool (p a))) :
    FnOK Tryz.prog 130 [] [eInts l, .clo (.func g) [] caps] [] (eInt (idxI p l)) := by
  have hlm : (l.map oInt).length = l.length := List.length_map ..
  refine FnOK.startC (rvs := [.tmp 4]) G G_good Tryz.func130 rfl Tryz.ntmps130 rfl rfl ?_; with_reducible refine wD ?_
  refine LoopK.use G G_good (fun (k : Nat) => [(0, eInts l), (1, .clo (.func g) [] caps), (7, eInt l.length), (8, eInt k)]) (fun _ => []) (fun k => k ≤ l.length ∧ ∀ j x, j < k → l[j]? = some x → p x = false) (fun k => l.length - k) 0 ⟨Nat.zero_le _, fun j x h => by omega⟩
    ⟨⟨rfl, rfl⟩, ⟨rfl, ⟨rfl, trivial, MFL_refl hcaps⟩, by show (l.length : Int) = ((l.map oInt).length : Int); rw [hlm], rfl, trivial⟩, trivial⟩ ?_
  rintro k ⟨hk, hno⟩
  with_reducible refine wK ?_
  refine IfK.mk (fun h1 => ?_) (fun h1 => ?_) <;> (try simp only [castN] at h1) <;> with_reducible refine wK ?_
  · simp only [decide_eq_true_eq] at h1
    have hk' : k < l.length := by omega
    obtain ⟨a, ha⟩ : ∃ a, l[k]? = some a := ⟨_, List.getElem?_eq_getElem hk'⟩
    refine IdxK.mk k (eInt a) rfl (int_get ha) ?_; with_reducible refine wK ?_
    refine CallK.lit [] (hf a (List.mem_of_getElem? ha)) cg ⟨rfl, MFL_refl hcaps⟩ rfl rfl ?_; with_reducible refine wK ?_
    refine IfK.mk (fun h2 => ?_) (fun h2 => ?_) <;> (try simp only [castN] at h2) <;> with_reducible refine wK ?_
    · (refine eK ?_ ?_ <;> with_reducible repeat' (first | exact trivial | (show _ ∧ _; refine aK ?_ ?_)))
      exact idxI_hit ha h2 hno
    · refine nK ?_; with_reducible refine wK ?_
      refine NextK.mk (k + 1) ⟨by omega, fun j x hj hx => ?_⟩ (by omega) ⟨⟨rfl, rfl⟩, ⟨rfl, ⟨rfl, trivial, MFL_refl hcaps⟩, rfl, by show ((k + 1 : Nat) : Int) = (k : Int) + 1; omega, trivial⟩, trivial⟩
      rcases Nat.lt_or_ge j k with h6 | h6
      · exact hno j x h6 hx
      · have : j = k := by omega
        subst this
        rw [ha] at hx; cases hx; exact h2
  · (refine eK ?_ ?_ <;> with_reducible repeat' (first | exact trivial | (show _ ∧ _; refine aK ?_ ?_)))
    have : k = l.length := by simp only [decide_eq_false_iff_not] at h1; omega
    exact idxI_none fun j x hx => hno j x (by have := (List.getElem?_eq_some_iff.1 hx).1; omega) hx
end Go.Proofs.Heir
end
section
set_option linter.unusedSimpArgs false
set_option linter.unusedVariables false
namespace Go.Proofs.Heir
open Go Go.Am Go.RowKit Go.Lib
set_option maxRecDepth 100000
set_option maxHeartbeats 8000000
theorem f120_ok (g : Nat) (cg : Callable Tryz.prog g) (caps : List AV) (hcaps : noRefL caps = true) (p : Int → Bool) (l : List Int) (hl : l.length ≤ 100000) (hf : ∀ a, a ∈ l → FnOK Tryz.prog g [] (eInt a :: caps) [] (eBool (p a))) :
    FnOK Tryz.prog 120 [] [eInts l, .clo (.func g) [] caps] [] (eBool (decide (0 ≤ idxI p l))) := by
  have h34 := f130_ok g cg caps hcaps p l hl hf
  refine FnOK.startC (rvs := [.tmp 4]) G G_good Tryz.func120 rfl Tryz.ntmps120 rfl rfl ?_; with_reducible refine wD ?_
  refine CallK.lit [] h34 c130 ⟨rfl, ⟨rfl, trivial, MFL_refl hcaps⟩, trivial⟩ rfl rfl ?_; with_reducible refine wK ?_
  (refine eK ?_ ?_ <;> with_reducible repeat' (first | exact trivial | (show _ ∧ _; refine aK ?_ ?_)))
  all_goals rfl
end Go.Proofs.Heir
end
section
set_option linter.unusedSimpArgs false
set_option linter.unusedVariables false
namespace Go.Proofs.Heir
open Go Go.Am Go.RowKit Go.Shelf
set_option maxRecDepth 100000
set_option maxHeartbeats 8000000
theorem ints_box {Wn : Nat → Prop} {μ : Mu} {W : World} {l : List Int} {b o : Nat} (h : Rep Wn μ W (.fptr (.sl 1 (l.map oInt)) 0) (.pointer (some ⟨b, o, none⟩))) :
    ∃ ad cap, W.cell? ⟨b, o, none⟩ = some (.slice ad l.length cap) ∧ l.length ≤ cap ∧ ∀ (j : Nat) (x : Int), l[j]? = some x → ∃ b2 o2, ad = some ⟨b2, o2, none⟩ ∧ W.cell? ⟨b2, o2 + j, none⟩ = some (.int .i64 x) := by
  generalize hv : Value.pointer (some ⟨b, o, none⟩) = v at h
  cases h with
  | @fptr _ _ b' o' f h1 h2 h3 h4 h5 =>
    cases hv
    have k3 := h3 0 _ rfl
    have k4 := h4 0 _ rfl
    rw [Nat.add_zero] at k3
    rw [Nat.add_zero, k3]
    generalize f 0 = s at k4
    cases hl : l with
    | nil =>
      subst hl
      cases k4 with
      | slNil => exact ⟨_, _, rfl, Nat.zero_le _, fun j x h => by simp at h⟩
      | sl a1 a2 a3 a4 a5 a6 a7 a8 => subst a3; exact ⟨_, _, rfl, Nat.zero_le _, fun j x h => by simp at h⟩
    | cons y r =>
      rw [← hl]
      generalize hrows : l.map oInt = rows at k4
      have hne : rows ≠ [] := by rw [← hrows, hl]; simp
      cases k4 with
      | slNil => exact absurd rfl hne
      | sl a1 a2 a3 a4 a5 a6 a7 a8 =>
        subst a3
        have hlen : rows.length = l.length := by rw [← hrows]; simp
        refine ⟨_, _, by rw [hlen], by rw [← hlen]; exact a4, fun j x hx => ⟨_, _, rfl, ?_⟩⟩
        have hr : rows[j]? = some (oInt x) := by rw [← hrows, List.getElem?_map, hx]; rfl
        have hq := flat_get (wd := 1) (fun i r hr => a5 i r hr) hr (show (cells (oInt x))[0]? = some (oInt x) from rfl)
        rw [Nat.mul_one, Nat.add_zero] at hq
        have c1 := a6 j _ hq
        have c2 := a7 j _ hq
        have one : ∀ v, Rep Wn μ W (oInt x) v → v = .int .i64 x := by intro v hv; unfold oInt at hv; cases hv; rfl
        rw [c1, one _ c2]
theorem back_it (l : List Int) (hl : l.length ≤ 100000) : ItOK Tryz.prog 155 [.fptr (.sl 1 (l.map oInt)) 0] l.length (fun k => [oInt ((l.length : Int) - 1 - k), oInt ((l.reverse[k]?).getD 0)]) := by
  intro vals y J Jx hJ hJm hJxm _ hY Wn w h0
  obtain ⟨⟨μ, hr⟩, _⟩ := hJ 0 Wn w h0
  obtain ⟨vb, us, rfl, hvb, hus⟩ := RepL.uncons hr
  obtain rfl := RepL.unnil hus
  obtain ⟨b, o, rfl⟩ : ∃ b o, vb = .pointer (some ⟨b, o, none⟩) := by cases hvb; exact ⟨_, _, rfl⟩
  have box : ∀ k Wn W, J k Wn W → ∃ ad cap, W.cell? ⟨b, o, none⟩ = some (.slice ad l.length cap) ∧ l.length ≤ cap ∧ ∀ (j : Nat) (x : Int), l[j]? = some x → ∃ b2 o2, ad = some ⟨b2, o2, none⟩ ∧ W.cell? ⟨b2, o2 + j, none⟩ = some (.int .i64 x) := by
    intro k Wn W hJk
    obtain ⟨⟨μ, hr⟩, _⟩ := hJ k Wn W hJk
    obtain ⟨v1, us, e, hv1, _⟩ := RepL.uncons hr
    cases e
    exact ints_box hv1
  refine (callsIn_wide (n := 1)).1 ?_
  refine callsIn_of_wp Tryz.func155 rfl trivial ?_ rfl
  simp only [Tryz.ntmps155, List.size_toArray, List.length_cons, List.length_nil, Nat.reduceAdd, Nat.reduceSub, Array.replicate_succ, Array.replicate_zero, List.push_toArray, List.append_toArray, List.nil_append, List.cons_append]
  obtain ⟨ad, cap, hbx, hcap, hel⟩ := box 0 Wn w h0
  gi_wp2
  gi_loopw [3] (fun i wr => ∃ k : Nat, k ≤ l.length ∧ i = .int .i64 ((l.length : Int) - 1 - k) ∧ ∃ Wn, J k Wn wr) (fun i _ => (intOf i + 1).toNat)
  case atStart => exact ⟨0, Nat.zero_le _, by simp, Wn, h0⟩
  case round =>
    obtain ⟨k, hk, rfl, Wn', hJk⟩ := hrel
    obtain ⟨ad', cap', hbx', hcap', hel'⟩ := box k Wn' wr hJk
    by_cases hlt : k < l.length
    · have hix : l.length - 1 - k < l.length := by omega
      obtain ⟨b2, o2, rfl, hcx⟩ := hel' (l.length - 1 - k) l[l.length - 1 - k] (List.getElem?_eq_getElem hix)
      have hrev : (l.reverse[k]?).getD 0 = l[l.length - 1 - k] := by
        rw [List.getElem?_eq_getElem (by simpa using hlt)]; simp
      obtain ⟨fn, tmps, assign, body, hy, hR⟩ := hY k Wn' wr [.int .i64 ((l.length : Int) - 1 - k), .int .i64 (l[l.length - 1 - k])] hlt hJk (fun _ _ _ => by rw [hrev]; exact .cons .lit (.cons .lit .nil))
      have hz : ((l.length : Int) - 1 - k).toNat = l.length - 1 - k := by omega
      gi_wp2
      refine hR.mono ?_
      rintro e W3 (⟨rfl, Wn3, hJ3, _⟩ | ⟨rfl, hJx3⟩)
      · gi_wp2
        go_roundw
        case rel => exact ⟨k + 1, by omega, by congr 1; omega, Wn3, hJ3⟩
        case measure => simp [intOf]; omega
      · gi_wp2
        refine bodyPost_ret (results_none rfl _ _ _) rfl ?_
        exact ⟨⟨_, rfl⟩, .inr hJx3⟩
    · obtain rfl : k = l.length := by omega
      gi_wp2
      go_end0
      exact ⟨⟨_, rfl⟩, .inl ⟨_, hJk⟩⟩
end Go.Proofs.Heir
end
section
set_option linter.unusedSimpArgs false
set_option linter.unusedVariables false
namespace Go.Proofs.Heir
open Go Go.Am Go.RowKit Go.Lib
set_option maxRecDepth 100000
set_option maxHeartbeats 8000000
theorem f152_ok (f : ForM) (n : Int) : FnOK Tryz.prog 152 [] [eInt n, .fptr (eFor f) 0] [] (eBool (!thereN f.nodes n)) := by
  obtain ⟨l, m⟩ := f
  have hlm : (l.map oNode).length = l.length := List.length_map ..
  refine FnOK.startC (rvs := [.tmp 3]) G G_good Tryz.func152 rfl Tryz.ntmps152 rfl rfl ?_; with_reducible refine wD ?_
  repeat' (first
    | refine pK ?_
    | ((first
      | ((with_reducible show IfK _ _ _ _); (refine IfK.mk (fun hp => ?_) (fun hp => ?_) <;> (try simp only [castN, decide_eq_true_eq, decide_eq_false_iff_not, Bool.not_eq_true', Bool.not_eq_false', Decidable.not_not, Int.not_lt, Int.not_le] at hp)))) <;> with_reducible refine wK ?_)
    | ((with_reducible show (_ ∧ _) ∧ _ ∧ _); (refine eK ?_ ?_ <;> with_reducible repeat' (first | exact trivial | (show _ ∧ _; refine aK ?_ ?_)))))
  · unfold thereN; rw [decide_eq_false (show ¬ 0 ≤ n by omega)]; rfl
  · unfold thereN; rw [decide_eq_true hp, hlm, Bool.true_and, ← decide_not]
    exact decide_eq_decide.2 Int.not_lt
theorem f106_ok (f : ForM) (hs : SmallN f.nodes) (l : List Int) (hl : l.length ≤ 100000) : FnOK Tryz.prog 106 [] [eFor f, eInts l] [] (eBool (rightF f && !decide (0 ≤ idxI (fun n => !thereN f.nodes n) l))) := by
  have h48 := f15_ok f hs
  have h106 := f120_ok 152 c152 [.fptr (eFor f) 0] rfl (fun n => !thereN f.nodes n) l hl (fun a _ => f152_ok f a)
  obtain ⟨ns, m⟩ := f
  simp only at h48 h106 ⊢
  refine FnOK.startC (rvs := [.tmp 4]) G G_good Tryz.func106 rfl Tryz.ntmps106 rfl rfl ?_; with_reducible refine wD ?_
  refine CallK.lit [] h48 c15 ⟨⟨rfl, rfl, trivial⟩, trivial⟩ rfl rfl ?_; with_reducible refine wK ?_
  cases h0 : rightF ⟨ns, m⟩ with
  | false =>
    repeat' (first
    | refine gK ?_
    | ((with_reducible show (_ ∧ _) ∧ _ ∧ _); (refine eK ?_ ?_ <;> with_reducible repeat' (first | exact trivial | (show _ ∧ _; refine aK ?_ ?_)))))
    all_goals rfl
  | true =>
    repeat' (first
    | refine gK ?_
    | ((with_reducible show (_ ∧ _) ∧ _ ∧ _); (refine eK ?_ ?_ <;> with_reducible repeat' (first | exact trivial | (show _ ∧ _; refine aK ?_ ?_)))))
    refine CallK.lit [20] h106 c120 ⟨rfl, ⟨rfl, trivial, ⟨_, _, _, _, _, rfl, rfl, rfl, rfl, rfl, ⟨rfl, rfl, trivial⟩⟩, trivial⟩, trivial⟩ rfl rfl ?_; with_reducible refine wK ?_
    repeat' (first
    | refine gK ?_
    | ((with_reducible show (_ ∧ _) ∧ _ ∧ _); (refine eK ?_ ?_ <;> with_reducible repeat' (first | exact trivial | (show _ ∧ _; refine aK ?_ ?_)))))
    all_goals rfl
end Go.Proofs.Heir
end
section
set_option linter.unusedSimpArgs false
set_option linter.unusedVariables false
namespace Go.Proofs.Heir
open Go Go.Am Go.RowKit Go.Lib
set_option maxRecDepth 100000
set_option maxHeartbeats 8000000
theorem f123_ok (l : List Int) : FnOK Tryz.prog 123 [] [eInts l] [] (.clo (.func 155) [] [.fptr (eInts l) 0]) := by
  refine FnOK.startC (rvs := [.tmp 2]) G G_good Tryz.func123 rfl Tryz.ntmps123 rfl rfl ?_; with_reducible refine wD ?_
  refine ⟨⟨rfl, rfl⟩, ⟨rfl, trivial, ⟨_, _, _, _, _, rfl, rfl, rfl, rfl, rfl, rfl⟩, trivial⟩, ?_⟩
  exact trivial
end Go.Proofs.Heir
end
section
set_option linter.unusedSimpArgs false
set_option linter.unusedVariables false
namespace Go.Proofs.Heir
open Go Go.Am Go.RowKit Go.Lib
set_option maxRecDepth 100000
def allU (f : ForM) (n : Int) : List Int := if (rightF f && thereN f.nodes n) = true then U.ordN f.nodes f.nodes.length n else []
theorem f104_ok (f : ForM) (hs : SmallN f.nodes) (n : Int) : FnOK Tryz.prog 104 [] [eFor f, eInt n] [] (eInts (allU f n)) := by
  have h86 := f106_ok f hs [n] (by simp)
  have e1 : (rightF f && !decide (0 ≤ idxI (fun n => !thereN f.nodes n) [n])) = (rightF f && thereN f.nodes n) := by
    congr 1
    unfold idxI
    cases h : thereN f.nodes n <;> simp [List.findIdx?_cons, h]
  rw [e1] at h86
  obtain ⟨l, m⟩ := f
  unfold allU
  simp only at h86 ⊢
  have hlm : (l.map oNode).length = l.length := List.length_map ..
  refine FnOK.startC (rvs := [.tmp 4]) G G_good Tryz.func104 rfl Tryz.ntmps104 rfl rfl ?_; delta List.toArray; ((with_reducible conv => whnf); (with_reducible conv => congr <;> reduce); repeat ((first | (with_reducible refine HaltK.mk ?_) | (with_reducible refine StopK.mk ?_)); (with_reducible conv => whnf); (with_reducible conv => congr <;> reduce)))
  cases e0 : (rightF ⟨l, m⟩ && thereN l n) with
  | false =>
    rw [e0] at h86
    refine CallK.lit [141] h86 c106 ⟨⟨rfl, rfl, trivial⟩, frz_ints (l := [n]) rfl rfl rfl rfl, trivial⟩ rfl rfl ?_; ((with_reducible conv => whnf); (with_reducible conv => congr <;> reduce); repeat ((first | (with_reducible refine HaltK.mk ?_) | (with_reducible refine StopK.mk ?_)); (with_reducible conv => whnf); (with_reducible conv => congr <;> reduce)))
    repeat' (first
    | (first
    | ((with_reducible show IfK _ _ _ _); first | refine IfK.ff ?_ | refine IfK.tt ?_ | refine IfK.no (by first | rfl | assumption | exact nf (by assumption) | exact nt (by assumption) | ((try simp only [castN]); first | (simp []; done) | (simp []; omega))) ?_ | refine IfK.yes (by first | rfl | assumption | exact nf (by assumption) | exact nt (by assumption) | ((try simp only [castN]); first | (simp []; done) | (simp []; omega))) ?_)
    | ((with_reducible show NeedK _ _ _ _); refine NeedK.mk (by (try simp only [castN]); omega) ?_)
    | ((with_reducible show DrawK _ _ _ _); refine DrawK.mk (by kernel_rfl) (by kernel_rfl) (by kernel_rfl) ?_)) <;> ((with_reducible conv => whnf); (with_reducible conv => congr <;> reduce); repeat ((first | (with_reducible refine HaltK.mk ?_) | (with_reducible refine StopK.mk ?_)); (with_reducible conv => whnf); (with_reducible conv => congr <;> reduce)))
    | ((with_reducible show (_ ∧ _) ∧ _ ∧ _); refine ⟨⟨rfl, rfl⟩, ?_, ?_⟩ <;> (with_reducible conv => whnf) <;> repeat' (first | (with_reducible exact trivial) | (with_reducible refine And.intro ?_ ?_ <;> with_reducible conv => whnf))))
    all_goals exact .inr (.inr ⟨1, rfl⟩)
  | true =>
    rw [e0] at h86
    refine CallK.lit [141] h86 c106 ⟨⟨rfl, rfl, trivial⟩, frz_ints (l := [n]) rfl rfl rfl rfl, trivial⟩ rfl rfl ?_; ((with_reducible conv => whnf); (with_reducible conv => congr <;> reduce); repeat ((first | (with_reducible refine HaltK.mk ?_) | (with_reducible refine StopK.mk ?_)); (with_reducible conv => whnf); (with_reducible conv => congr <;> reduce)))
    rw [if_pos rfl]
    obtain ⟨hr, hn⟩ : rightF ⟨l, m⟩ = true ∧ thereN l n = true := by simpa using e0
    have T := U.tree_of hr
    have hol := U.ord_len T l.length hn
    simp only at T hol
    repeat' (first
    | (first
    | ((with_reducible show IfK _ _ _ _); first | refine IfK.ff ?_ | refine IfK.tt ?_ | refine IfK.no (by first | rfl | assumption | exact nf (by assumption) | exact nt (by assumption) | ((try simp only [castN]); first | (simp []; done) | (simp []; omega))) ?_ | refine IfK.yes (by first | rfl | assumption | exact nf (by assumption) | exact nt (by assumption) | ((try simp only [castN]); first | (simp []; done) | (simp []; omega))) ?_)
    | ((with_reducible show NeedK _ _ _ _); refine NeedK.mk (by (try simp only [castN]); omega) ?_)
    | ((with_reducible show DrawK _ _ _ _); refine DrawK.mk (by kernel_rfl) (by kernel_rfl) (by kernel_rfl) ?_)) <;> ((with_reducible conv => whnf); (with_reducible conv => congr <;> reduce); repeat ((first | (with_reducible refine HaltK.mk ?_) | (with_reducible refine StopK.mk ?_)); (with_reducible conv => whnf); (with_reducible conv => congr <;> reduce)))
    | ((with_reducible show (_ ∧ _) ∧ _ ∧ _); refine ⟨⟨rfl, rfl⟩, ?_, ?_⟩ <;> (with_reducible conv => whnf) <;> repeat' (first | (with_reducible exact trivial) | (with_reducible refine And.intro ?_ ?_ <;> with_reducible conv => whnf))))
    refine LoopK.ghost 5 51 1 rfl rfl ?_
    refine LoopK.use G G_good (fun (i : List Int × List Int × List Int) => [(2, .ptr 20 0 0), (5, .own 51 0 i.1.length), (6, .ptr 60 0 0)])
      (fun i => [(20, .live 2 [eFor ⟨l, m⟩] false), (51, rInts i.1), (60, .live 1 [.own 181 0 i.2.1.length] false), (181, rInts (i.2.1 ++ i.2.2))])
      (fun i => U.ordN l l.length n = i.1 ++ U.rest l i.2.1 ∧ ∀ c ∈ i.2.1, thereN l c = true) (fun i => l.length - i.1.length) ([], [n], []) ⟨by simp [U.rest], fun c hc => by rw [List.mem_singleton] at hc; subst hc; exact hn⟩
      (by refine ⟨⟨rfl, rfl⟩, ⟨⟨rfl, rfl⟩, ⟨rfl, rfl⟩, ⟨rfl, rfl⟩, trivial⟩, ⟨⟨rfl, rfl, trivial⟩, trivial⟩, ⟨.refl rfl, noRef_ints _⟩, ⟨⟨rfl, rfl⟩, trivial⟩, ⟨.refl rfl, noRef_ints _⟩, trivial⟩) ?_
    rintro ⟨out, st, sp⟩ ⟨ho, hst⟩
    simp only at ho hst
    ((with_reducible conv => whnf); (with_reducible conv => congr <;> reduce); repeat ((first | (with_reducible refine HaltK.mk ?_) | (with_reducible refine StopK.mk ?_)); (with_reducible conv => whnf); (with_reducible conv => congr <;> reduce)))
    have hoL := congrArg List.length ho
    rw [List.length_append] at hoL
    have hol' : out.length = (out.map oInt).length := (List.length_map ..).symm
    have hrl := U.rest_len T hst
    have hl60 := hs.len
    simp only at hl60
    obtain h | ⟨st', t, h⟩ := List.eq_nil_or_concat st <;> (try rw [List.concat_eq_append] at h) <;> subst h
    · repeat' (first
    | (first
    | ((with_reducible show IfK _ _ _ _); first | refine IfK.ff ?_ | refine IfK.tt ?_ | refine IfK.no (by first | rfl | assumption | exact nf (by assumption) | exact nt (by assumption) | ((try simp only [castN]); first | (simp []; done) | (simp []; omega))) ?_ | refine IfK.yes (by first | rfl | assumption | exact nf (by assumption) | exact nt (by assumption) | ((try simp only [castN]); first | (simp []; done) | (simp []; omega))) ?_)
    | ((with_reducible show NeedK _ _ _ _); refine NeedK.mk (by (try simp only [castN]); omega) ?_)
    | ((with_reducible show DrawK _ _ _ _); refine DrawK.mk (by kernel_rfl) (by kernel_rfl) (by kernel_rfl) ?_)) <;> ((with_reducible conv => whnf); (with_reducible conv => congr <;> reduce); repeat ((first | (with_reducible refine HaltK.mk ?_) | (with_reducible refine StopK.mk ?_)); (with_reducible conv => whnf); (with_reducible conv => congr <;> reduce)))
    | ((with_reducible show (_ ∧ _) ∧ _ ∧ _); refine ⟨⟨rfl, rfl⟩, ?_, ?_⟩ <;> (with_reducible conv => whnf) <;> repeat' (first | (with_reducible exact trivial) | (with_reducible refine And.intro ?_ ?_ <;> with_reducible conv => whnf))))
      all_goals exact frz_ints rfl rfl (by rw [ho]; simp [U.rest]) (by rw [ho]; simp [U.rest])
    · have ht := hst t (by simp)
      have hlen : (st' ++ [t]).length = st'.length + 1 := by simp
      obtain ⟨k, x, rfl, hx, hnx⟩ := there_iff.1 ht
      rw [hlen]
      rw [hlen] at hrl
      repeat' (first
    | (first
    | ((with_reducible show IfK _ _ _ _); first | refine IfK.ff ?_ | refine IfK.tt ?_ | refine IfK.no (by first | rfl | assumption | exact nf (by assumption) | exact nt (by assumption) | ((try simp only [castN]); first | (simp []; done) | (simp []; omega))) ?_ | refine IfK.yes (by first | rfl | assumption | exact nf (by assumption) | exact nt (by assumption) | ((try simp only [castN]); first | (simp []; done) | (simp []; omega))) ?_)
    | ((with_reducible show NeedK _ _ _ _); refine NeedK.mk (by (try simp only [castN]); omega) ?_)
    | ((with_reducible show DrawK _ _ _ _); refine DrawK.mk (by kernel_rfl) (by kernel_rfl) (by kernel_rfl) ?_)) <;> ((with_reducible conv => whnf); (with_reducible conv => congr <;> reduce); repeat ((first | (with_reducible refine HaltK.mk ?_) | (with_reducible refine StopK.mk ?_)); (with_reducible conv => whnf); (with_reducible conv => congr <;> reduce)))
    | ((with_reducible show (_ ∧ _) ∧ _ ∧ _); refine ⟨⟨rfl, rfl⟩, ?_, ?_⟩ <;> (with_reducible conv => whnf) <;> repeat' (first | (with_reducible exact trivial) | (with_reducible refine And.intro ?_ ?_ <;> with_reducible conv => whnf))))
      refine LtK.mk st'.length (by (try simp only [castN]); omega) (by omega) ?_; ((with_reducible conv => whnf); (with_reducible conv => congr <;> reduce); repeat ((first | (with_reducible refine HaltK.mk ?_) | (with_reducible refine StopK.mk ?_)); (with_reducible conv => whnf); (with_reducible conv => congr <;> reduce)))
      refine ElemK.mk (eInt (k : Int)) (by rw [Nat.zero_add, List.getElem?_map, List.append_assoc, List.getElem?_append_right (Nat.le_refl _), Nat.sub_self]; rfl) ?_; ((with_reducible conv => whnf); (with_reducible conv => congr <;> reduce); repeat ((first | (with_reducible refine HaltK.mk ?_) | (with_reducible refine StopK.mk ?_)); (with_reducible conv => whnf); (with_reducible conv => congr <;> reduce)))
      repeat' (first
    | (first
    | ((with_reducible show IfK _ _ _ _); first | refine IfK.ff ?_ | refine IfK.tt ?_ | refine IfK.no (by first | rfl | assumption | exact nf (by assumption) | exact nt (by assumption) | ((try simp only [castN]); first | (simp []; done) | (simp []; omega))) ?_ | refine IfK.yes (by first | rfl | assumption | exact nf (by assumption) | exact nt (by assumption) | ((try simp only [castN]); first | (simp []; done) | (simp []; omega))) ?_)
    | ((with_reducible show NeedK _ _ _ _); refine NeedK.mk (by (try simp only [castN]); omega) ?_)
    | ((with_reducible show DrawK _ _ _ _); refine DrawK.mk (by kernel_rfl) (by kernel_rfl) (by kernel_rfl) ?_)) <;> ((with_reducible conv => whnf); (with_reducible conv => congr <;> reduce); repeat ((first | (with_reducible refine HaltK.mk ?_) | (with_reducible refine StopK.mk ?_)); (with_reducible conv => whnf); (with_reducible conv => congr <;> reduce)))
    | ((with_reducible show (_ ∧ _) ∧ _ ∧ _); refine ⟨⟨rfl, rfl⟩, ?_, ?_⟩ <;> (with_reducible conv => whnf) <;> repeat' (first | (with_reducible exact trivial) | (with_reducible refine And.intro ?_ ?_ <;> with_reducible conv => whnf))))
      refine CutK.mk 0 st'.length rfl (by (try simp only [castN]); omega) (by omega) ?_; ((with_reducible conv => whnf); (with_reducible conv => congr <;> reduce); repeat ((first | (with_reducible refine HaltK.mk ?_) | (with_reducible refine StopK.mk ?_)); (with_reducible conv => whnf); (with_reducible conv => congr <;> reduce)))
      repeat' (first
    | (first
    | ((with_reducible show IfK _ _ _ _); first | refine IfK.ff ?_ | refine IfK.tt ?_ | refine IfK.no (by first | rfl | assumption | exact nf (by assumption) | exact nt (by assumption) | ((try simp only [castN]); first | (simp []; done) | (simp []; omega))) ?_ | refine IfK.yes (by first | rfl | assumption | exact nf (by assumption) | exact nt (by assumption) | ((try simp only [castN]); first | (simp []; done) | (simp []; omega))) ?_)
    | ((with_reducible show NeedK _ _ _ _); refine NeedK.mk (by (try simp only [castN]); omega) ?_)
    | ((with_reducible show DrawK _ _ _ _); refine DrawK.mk (by kernel_rfl) (by kernel_rfl) (by kernel_rfl) ?_)) <;> ((with_reducible conv => whnf); (with_reducible conv => congr <;> reduce); repeat ((first | (with_reducible refine HaltK.mk ?_) | (with_reducible refine StopK.mk ?_)); (with_reducible conv => whnf); (with_reducible conv => congr <;> reduce)))
    | ((with_reducible show (_ ∧ _) ∧ _ ∧ _); refine ⟨⟨rfl, rfl⟩, ?_, ?_⟩ <;> (with_reducible conv => whnf) <;> repeat' (first | (with_reducible exact trivial) | (with_reducible refine And.intro ?_ ?_ <;> with_reducible conv => whnf))))
      refine AppK.mk (out.map oInt) [eInt (k : Int)] ⟨rfl, hol', rfl⟩ ⟨rfl, rfl, rfl⟩ rfl (by simp; omega) (by simp; omega) ?_; ((with_reducible conv => whnf); (with_reducible conv => congr <;> reduce); repeat ((first | (with_reducible refine HaltK.mk ?_) | (with_reducible refine StopK.mk ?_)); (with_reducible conv => whnf); (with_reducible conv => congr <;> reduce)))
      repeat' (first
    | (first
    | ((with_reducible show IfK _ _ _ _); first | refine IfK.ff ?_ | refine IfK.tt ?_ | refine IfK.no (by first | rfl | assumption | exact nf (by assumption) | exact nt (by assumption) | ((try simp only [castN]); first | (simp []; done) | (simp []; omega))) ?_ | refine IfK.yes (by first | rfl | assumption | exact nf (by assumption) | exact nt (by assumption) | ((try simp only [castN]); first | (simp []; done) | (simp []; omega))) ?_)
    | ((with_reducible show NeedK _ _ _ _); refine NeedK.mk (by (try simp only [castN]); omega) ?_)
    | ((with_reducible show DrawK _ _ _ _); refine DrawK.mk (by kernel_rfl) (by kernel_rfl) (by kernel_rfl) ?_)) <;> ((with_reducible conv => whnf); (with_reducible conv => congr <;> reduce); repeat ((first | (with_reducible refine HaltK.mk ?_) | (with_reducible refine StopK.mk ?_)); (with_reducible conv => whnf); (with_reducible conv => congr <;> reduce)))
    | ((with_reducible show (_ ∧ _) ∧ _ ∧ _); refine ⟨⟨rfl, rfl⟩, ?_, ?_⟩ <;> (with_reducible conv => whnf) <;> repeat' (first | (with_reducible exact trivial) | (with_reducible refine And.intro ?_ ?_ <;> with_reducible conv => whnf))))
      obtain ⟨a1, a2, a3, a4, a5, a6, a7, a8, a9, a10⟩ := x
      refine IdxK.mk k (eNode ⟨a1, a2, a3, a4, a5, a6, a7, a8, a9, a10⟩) rfl (node_get hx) ?_; ((with_reducible conv => whnf); (with_reducible conv => congr <;> reduce); repeat ((first | (with_reducible refine HaltK.mk ?_) | (with_reducible refine StopK.mk ?_)); (with_reducible conv => whnf); (with_reducible conv => congr <;> reduce)))
      repeat' (first
    | (first
    | ((with_reducible show IfK _ _ _ _); first | refine IfK.ff ?_ | refine IfK.tt ?_ | refine IfK.no (by first | rfl | assumption | exact nf (by assumption) | exact nt (by assumption) | ((try simp only [castN]); first | (simp []; done) | (simp []; omega))) ?_ | refine IfK.yes (by first | rfl | assumption | exact nf (by assumption) | exact nt (by assumption) | ((try simp only [castN]); first | (simp []; done) | (simp []; omega))) ?_)
    | ((with_reducible show NeedK _ _ _ _); refine NeedK.mk (by (try simp only [castN]); omega) ?_)
    | ((with_reducible show DrawK _ _ _ _); refine DrawK.mk (by kernel_rfl) (by kernel_rfl) (by kernel_rfl) ?_)) <;> ((with_reducible conv => whnf); (with_reducible conv => congr <;> reduce); repeat ((first | (with_reducible refine HaltK.mk ?_) | (with_reducible refine StopK.mk ?_)); (with_reducible conv => whnf); (with_reducible conv => congr <;> reduce)))
    | ((with_reducible show (_ ∧ _) ∧ _ ∧ _); refine ⟨⟨rfl, rfl⟩, ?_, ?_⟩ <;> (with_reducible conv => whnf) <;> repeat' (first | (with_reducible exact trivial) | (with_reducible refine And.intro ?_ ?_ <;> with_reducible conv => whnf))))
      refine CallK.val [] (f123_ok a7) c123 ⟨rfl, trivial⟩ rfl rfl rfl ?_; ((with_reducible conv => whnf); (with_reducible conv => congr <;> reduce); repeat ((first | (with_reducible refine HaltK.mk ?_) | (with_reducible refine StopK.mk ?_)); (with_reducible conv => whnf); (with_reducible conv => congr <;> reduce)))
      repeat' (first
    | (first
    | ((with_reducible show IfK _ _ _ _); first | refine IfK.ff ?_ | refine IfK.tt ?_ | refine IfK.no (by first | rfl | assumption | exact nf (by assumption) | exact nt (by assumption) | ((try simp only [castN]); first | (simp []; done) | (simp []; omega))) ?_ | refine IfK.yes (by first | rfl | assumption | exact nf (by assumption) | exact nt (by assumption) | ((try simp only [castN]); first | (simp []; done) | (simp []; omega))) ?_)
    | ((with_reducible show NeedK _ _ _ _); refine NeedK.mk (by (try simp only [castN]); omega) ?_)
    | ((with_reducible show DrawK _ _ _ _); refine DrawK.mk (by kernel_rfl) (by kernel_rfl) (by kernel_rfl) ?_)) <;> ((with_reducible conv => whnf); (with_reducible conv => congr <;> reduce); repeat ((first | (with_reducible refine HaltK.mk ?_) | (with_reducible refine StopK.mk ?_)); (with_reducible conv => whnf); (with_reducible conv => congr <;> reduce)))
    | ((with_reducible show (_ ∧ _) ∧ _ ∧ _); refine ⟨⟨rfl, rfl⟩, ?_, ?_⟩ <;> (with_reducible conv => whnf) <;> repeat' (first | (with_reducible exact trivial) | (with_reducible refine And.intro ?_ ?_ <;> with_reducible conv => whnf))))
      obtain ⟨spF, hs0, hs1⟩ : ∃ spF : Nat → List Int, spF 0 = (k : Int) :: sp ∧ ∀ j, spF (j + 1) = [] := ⟨fun j => match j with | 0 => (k : Int) :: sp | _ + 1 => [], rfl, fun _ => rfl⟩
      have hk7 := hs.kids _ (List.mem_of_getElem? hx)
      simp only at hk7
      refine LoopK.range G G_good 4 [(2, .ptr 1 0 0), (5, .own 3 0 (out.length + 1)), (6, .ptr 0 0 0), (9, .ptr 2 0 0), (43, .clo (.func 155) [] [.fptr (eInts a7) 0])]
        (fun j => [(0, .live 1 [.own 181 0 (st'.length + j)] false), (1, .live 2 [eFor ⟨l, m⟩] false), (2, .live 10 [eNode ⟨a1, a2, a3, a4, a5, a6, a7, a8, a9, a10⟩] false), (3, rInts (out ++ [(k : Int)])), (181, rInts (st' ++ a7.reverse.take j ++ spF j))])
        (back_it a7 (by omega)) c155 ?_ rfl ⟨⟨rfl, rfl⟩, rfl⟩ (fun _ _ => rfl) (fun _ _ => rfl) ⟨⟨rfl, rfl⟩, rfl, rfl⟩ ?_ ?_
      · refine ⟨⟨rfl, rfl⟩, ?_⟩
        (with_reducible conv => whnf)
        repeat' (first | (with_reducible exact trivial) | (with_reducible refine And.intro ?_ ?_ <;> with_reducible conv => whnf))
        all_goals try rfl
        · simp
        · exact ⟨.refl rfl, rfl⟩
        · exact ⟨.refl rfl, rfl⟩
        · refine ⟨?_, noRef_ints _⟩
          rw [← show (out ++ [(k : Int)]).map oInt = out.map oInt ++ [AV.lit (.int .i64 k)] by simp; rfl]
          exact .refl (noRef_ints _)
        · refine ⟨?_, noRef_ints _⟩
          rw [hs0, List.take_zero, List.append_nil, show st' ++ [(k : Int)] ++ sp = st' ++ (k : Int) :: sp by simp]; exact .refl (noRef_ints _)
      · intro j hj
        ((with_reducible conv => whnf); (with_reducible conv => congr <;> reduce); repeat ((first | (with_reducible refine HaltK.mk ?_) | (with_reducible refine StopK.mk ?_)); (with_reducible conv => whnf); (with_reducible conv => congr <;> reduce)))
        refine BodyK.mk rfl ?_; ((with_reducible conv => whnf); (with_reducible conv => congr <;> reduce); repeat ((first | (with_reducible refine HaltK.mk ?_) | (with_reducible refine StopK.mk ?_)); (with_reducible conv => whnf); (with_reducible conv => congr <;> reduce)))
        repeat' (first
    | (first
    | ((with_reducible show IfK _ _ _ _); first | refine IfK.ff ?_ | refine IfK.tt ?_ | refine IfK.no (by first | rfl | assumption | exact nf (by assumption) | exact nt (by assumption) | ((try simp only [castN]); first | (simp []; done) | (simp []; omega))) ?_ | refine IfK.yes (by first | rfl | assumption | exact nf (by assumption) | exact nt (by assumption) | ((try simp only [castN]); first | (simp []; done) | (simp []; omega))) ?_)
    | ((with_reducible show NeedK _ _ _ _); refine NeedK.mk (by (try simp only [castN]); omega) ?_)
    | ((with_reducible show DrawK _ _ _ _); refine DrawK.mk (by kernel_rfl) (by kernel_rfl) (by kernel_rfl) ?_)) <;> ((with_reducible conv => whnf); (with_reducible conv => congr <;> reduce); repeat ((first | (with_reducible refine HaltK.mk ?_) | (with_reducible refine StopK.mk ?_)); (with_reducible conv => whnf); (with_reducible conv => congr <;> reduce)))
    | ((with_reducible show (_ ∧ _) ∧ _ ∧ _); refine ⟨⟨rfl, rfl⟩, ?_, ?_⟩ <;> (with_reducible conv => whnf) <;> repeat' (first | (with_reducible exact trivial) | (with_reducible refine And.intro ?_ ?_ <;> with_reducible conv => whnf))))
        refine AppK.take ((st' ++ a7.reverse.take j).map oInt) [oInt ((a7.reverse[j]?).getD 0)] ⟨rfl, by simp; omega, by rw [List.map_append (l₂ := spF j), List.take_left' (by simp; omega)]⟩ ⟨rfl, rfl, rfl⟩ rfl (by simp; omega) (by simp; omega) ?_
        ((with_reducible conv => whnf); (with_reducible conv => congr <;> reduce); repeat ((first | (with_reducible refine HaltK.mk ?_) | (with_reducible refine StopK.mk ?_)); (with_reducible conv => whnf); (with_reducible conv => congr <;> reduce)))
        repeat' (first
    | (first
    | ((with_reducible show IfK _ _ _ _); first | refine IfK.ff ?_ | refine IfK.tt ?_ | refine IfK.no (by first | rfl | assumption | exact nf (by assumption) | exact nt (by assumption) | ((try simp only [castN]); first | (simp []; done) | (simp []; omega))) ?_ | refine IfK.yes (by first | rfl | assumption | exact nf (by assumption) | exact nt (by assumption) | ((try simp only [castN]); first | (simp []; done) | (simp []; omega))) ?_)
    | ((with_reducible show NeedK _ _ _ _); refine NeedK.mk (by (try simp only [castN]); omega) ?_)
    | ((with_reducible show DrawK _ _ _ _); refine DrawK.mk (by kernel_rfl) (by kernel_rfl) (by kernel_rfl) ?_)) <;> ((with_reducible conv => whnf); (with_reducible conv => congr <;> reduce); repeat ((first | (with_reducible refine HaltK.mk ?_) | (with_reducible refine StopK.mk ?_)); (with_reducible conv => whnf); (with_reducible conv => congr <;> reduce)))
    | ((with_reducible show (_ ∧ _) ∧ _ ∧ _); refine ⟨⟨rfl, rfl⟩, ?_, ?_⟩ <;> (with_reducible conv => whnf) <;> repeat' (first | (with_reducible exact trivial) | (with_reducible refine And.intro ?_ ?_ <;> with_reducible conv => whnf))))
        refine TurnK.mk ?_
        obtain ⟨c, hc⟩ : ∃ c, a7.reverse[j]? = some c := ⟨_, List.getElem?_eq_getElem (by simpa using hj)⟩
        have htk : a7.reverse.take (j + 1) = a7.reverse.take j ++ [c] := by rw [List.take_add_one, hc]; rfl
        rw [hc, Option.getD_some]
        refine ⟨⟨rfl, rfl⟩, ?_⟩
        (with_reducible conv => whnf)
        repeat' (first | (with_reducible exact trivial) | (with_reducible refine And.intro ?_ ?_ <;> with_reducible conv => whnf))
        all_goals try rfl
        · simp; omega
        · exact ⟨.refl rfl, rfl⟩
        · exact ⟨.refl rfl, rfl⟩
        · exact ⟨.refl (noRef_ints _), noRef_ints _⟩
        · refine ⟨?_, noRef_ints _⟩
          rw [hs1, htk, List.append_nil, ← List.append_assoc, List.map_append (l₂ := [c])]; exact .refl (by rw [← List.map_append]; exact noRef_ints _)
      · ((with_reducible conv => whnf); (with_reducible conv => congr <;> reduce); repeat ((first | (with_reducible refine HaltK.mk ?_) | (with_reducible refine StopK.mk ?_)); (with_reducible conv => whnf); (with_reducible conv => congr <;> reduce)))
        refine ElemK.mk (eNode ⟨a1, a2, a3, a4, a5, a6, a7, a8, a9, a10⟩) rfl ?_; ((with_reducible conv => whnf); (with_reducible conv => congr <;> reduce); repeat ((first | (with_reducible refine HaltK.mk ?_) | (with_reducible refine StopK.mk ?_)); (with_reducible conv => whnf); (with_reducible conv => congr <;> reduce)))
        have hT : nd l k = ⟨a1, a2, a3, a4, a5, a6, a7, a8, a9, a10⟩ := hnx
        have hch : chU (nd l k) = (if a9 = -1 then [] else [a9]) ++ a7 := by rw [hT]; rfl
        have hpop := U.rest_pop T (st := st') ht
        rw [hch] at hpop
        have hkid : ∀ c ∈ (if a9 = -1 then [] else [a9]) ++ a7, thereN l c = true := fun c hc => (T.kid k ht c (by rw [hch]; exact hc)).1
        have hta : a7.reverse.take a7.length = a7.reverse := List.take_of_length_le (by simp)
        by_cases e9 : a9 = -1
        · subst e9
          rw [if_pos rfl, List.nil_append] at hpop hkid
          repeat' (first
    | (first
    | ((with_reducible show IfK _ _ _ _); first | refine IfK.ff ?_ | refine IfK.tt ?_ | refine IfK.no (by first | rfl | assumption | exact nf (by assumption) | exact nt (by assumption) | ((try simp only [castN]); first | (simp []; done) | (simp []; omega))) ?_ | refine IfK.yes (by first | rfl | assumption | exact nf (by assumption) | exact nt (by assumption) | ((try simp only [castN]); first | (simp []; done) | (simp []; omega))) ?_)
    | ((with_reducible show NeedK _ _ _ _); refine NeedK.mk (by (try simp only [castN]); omega) ?_)
    | ((with_reducible show DrawK _ _ _ _); refine DrawK.mk (by kernel_rfl) (by kernel_rfl) (by kernel_rfl) ?_)) <;> ((with_reducible conv => whnf); (with_reducible conv => congr <;> reduce); repeat ((first | (with_reducible refine HaltK.mk ?_) | (with_reducible refine StopK.mk ?_)); (with_reducible conv => whnf); (with_reducible conv => congr <;> reduce)))
    | ((with_reducible show (_ ∧ _) ∧ _ ∧ _); refine ⟨⟨rfl, rfl⟩, ?_, ?_⟩ <;> (with_reducible conv => whnf) <;> repeat' (first | (with_reducible exact trivial) | (with_reducible refine And.intro ?_ ?_ <;> with_reducible conv => whnf))))
          refine NextK.mk (out ++ [(k : Int)], st' ++ a7.reverse, spF a7.length) ⟨?_, ?_⟩ ?_ ?_
          · rw [ho, hpop]; simp
          · intro c hc
            rcases List.mem_append.1 hc with h | h
            · exact hst c (by simp [h])
            · exact hkid c (by simpa using h)
          · simp only [List.length_append, List.length_singleton]; omega
          · refine ⟨⟨rfl, rfl⟩, ?_⟩
            (with_reducible conv => whnf)
            repeat' (first | (with_reducible exact trivial) | (with_reducible refine And.intro ?_ ?_ <;> with_reducible conv => whnf))
            all_goals try rfl
            · simp
            · exact ⟨.refl (noRef_ints _), noRef_ints _⟩
            · simp
            · refine ⟨?_, noRef_ints _⟩
              rw [hta]; exact .refl (noRef_ints _)
        · rw [if_neg e9] at hpop hkid
          repeat' (first
    | (first
    | ((with_reducible show IfK _ _ _ _); first | refine IfK.ff ?_ | refine IfK.tt ?_ | refine IfK.no (by first | rfl | assumption | exact nf (by assumption) | exact nt (by assumption) | ((try simp only [castN]); first | (simp [e9]; done) | (simp [e9]; omega))) ?_ | refine IfK.yes (by first | rfl | assumption | exact nf (by assumption) | exact nt (by assumption) | ((try simp only [castN]); first | (simp [e9]; done) | (simp [e9]; omega))) ?_)
    | ((with_reducible show NeedK _ _ _ _); refine NeedK.mk (by (try simp only [castN]); omega) ?_)
    | ((with_reducible show DrawK _ _ _ _); refine DrawK.mk (by kernel_rfl) (by kernel_rfl) (by kernel_rfl) ?_)) <;> ((with_reducible conv => whnf); (with_reducible conv => congr <;> reduce); repeat ((first | (with_reducible refine HaltK.mk ?_) | (with_reducible refine StopK.mk ?_)); (with_reducible conv => whnf); (with_reducible conv => congr <;> reduce)))
    | ((with_reducible show (_ ∧ _) ∧ _ ∧ _); refine ⟨⟨rfl, rfl⟩, ?_, ?_⟩ <;> (with_reducible conv => whnf) <;> repeat' (first | (with_reducible exact trivial) | (with_reducible refine And.intro ?_ ?_ <;> with_reducible conv => whnf))))
          refine ElemK.mk (eNode ⟨a1, a2, a3, a4, a5, a6, a7, a8, a9, a10⟩) rfl ?_; ((with_reducible conv => whnf); (with_reducible conv => congr <;> reduce); repeat ((first | (with_reducible refine HaltK.mk ?_) | (with_reducible refine StopK.mk ?_)); (with_reducible conv => whnf); (with_reducible conv => congr <;> reduce)))
          repeat' (first
    | (first
    | ((with_reducible show IfK _ _ _ _); first | refine IfK.ff ?_ | refine IfK.tt ?_ | refine IfK.no (by first | rfl | assumption | exact nf (by assumption) | exact nt (by assumption) | ((try simp only [castN]); first | (simp [e9]; done) | (simp [e9]; omega))) ?_ | refine IfK.yes (by first | rfl | assumption | exact nf (by assumption) | exact nt (by assumption) | ((try simp only [castN]); first | (simp [e9]; done) | (simp [e9]; omega))) ?_)
    | ((with_reducible show NeedK _ _ _ _); refine NeedK.mk (by (try simp only [castN]); omega) ?_)
    | ((with_reducible show DrawK _ _ _ _); refine DrawK.mk (by kernel_rfl) (by kernel_rfl) (by kernel_rfl) ?_)) <;> ((with_reducible conv => whnf); (with_reducible conv => congr <;> reduce); repeat ((first | (with_reducible refine HaltK.mk ?_) | (with_reducible refine StopK.mk ?_)); (with_reducible conv => whnf); (with_reducible conv => congr <;> reduce)))
    | ((with_reducible show (_ ∧ _) ∧ _ ∧ _); refine ⟨⟨rfl, rfl⟩, ?_, ?_⟩ <;> (with_reducible conv => whnf) <;> repeat' (first | (with_reducible exact trivial) | (with_reducible refine And.intro ?_ ?_ <;> with_reducible conv => whnf))))
          refine AppK.take ((st' ++ a7.reverse).map oInt) [eInt a9] ⟨rfl, by simp, by rw [hta, List.map_append (l₂ := spF a7.length), List.take_left' (by simp)]⟩ ⟨rfl, rfl, rfl⟩ rfl (by simp; omega) (by simp; omega) ?_
          ((with_reducible conv => whnf); (with_reducible conv => congr <;> reduce); repeat ((first | (with_reducible refine HaltK.mk ?_) | (with_reducible refine StopK.mk ?_)); (with_reducible conv => whnf); (with_reducible conv => congr <;> reduce)))
          repeat' (first
    | (first
    | ((with_reducible show IfK _ _ _ _); first | refine IfK.ff ?_ | refine IfK.tt ?_ | refine IfK.no (by first | rfl | assumption | exact nf (by assumption) | exact nt (by assumption) | ((try simp only [castN]); first | (simp [e9]; done) | (simp [e9]; omega))) ?_ | refine IfK.yes (by first | rfl | assumption | exact nf (by assumption) | exact nt (by assumption) | ((try simp only [castN]); first | (simp [e9]; done) | (simp [e9]; omega))) ?_)
    | ((with_reducible show NeedK _ _ _ _); refine NeedK.mk (by (try simp only [castN]); omega) ?_)
    | ((with_reducible show DrawK _ _ _ _); refine DrawK.mk (by kernel_rfl) (by kernel_rfl) (by kernel_rfl) ?_)) <;> ((with_reducible conv => whnf); (with_reducible conv => congr <;> reduce); repeat ((first | (with_reducible refine HaltK.mk ?_) | (with_reducible refine StopK.mk ?_)); (with_reducible conv => whnf); (with_reducible conv => congr <;> reduce)))
    | ((with_reducible show (_ ∧ _) ∧ _ ∧ _); refine ⟨⟨rfl, rfl⟩, ?_, ?_⟩ <;> (with_reducible conv => whnf) <;> repeat' (first | (with_reducible exact trivial) | (with_reducible refine And.intro ?_ ?_ <;> with_reducible conv => whnf))))
          refine NextK.mk (out ++ [(k : Int)], st' ++ a7.reverse ++ [a9], []) ⟨?_, ?_⟩ ?_ ?_
          · rw [ho, hpop]; simp
          · intro c hc
            rcases List.mem_append.1 hc with h | h
            · rcases List.mem_append.1 h with h | h
              · exact hst c (by simp [h])
              · exact hkid c (by simp at h; simp [h])
            · exact hkid c (by simp at h; simp [h])
          · simp only [List.length_append, List.length_singleton]; omega
          · refine ⟨⟨rfl, rfl⟩, ?_⟩
            (with_reducible conv => whnf)
            repeat' (first | (with_reducible exact trivial) | (with_reducible refine And.intro ?_ ?_ <;> with_reducible conv => whnf))
            all_goals try rfl
            · simp
            · exact ⟨.refl (noRef_ints _), noRef_ints _⟩
            · simp
            · refine ⟨?_, noRef_ints _⟩
              rw [List.append_nil, List.map_append (l₂ := [a9])]; exact .refl (by rw [← List.map_append]; exact noRef_ints _)
end Go.Proofs.Heir
end
section
set_option linter.unusedSimpArgs false
set_option linter.unusedVariables false
namespace Go.Proofs.Heir
open Go Go.Am Go.RowKit Go.Shelf
set_option maxRecDepth 100000
set_option maxHeartbeats 8000000
theorem int_box {Wn : Nat → Prop} {μ : Mu} {W : World} {n : Int} {b o : Nat} (h : Rep Wn μ W (.fptr (eInt n) 0) (.pointer (some ⟨b, o, none⟩))) : W.cell? ⟨b, o, none⟩ = some (.int .i64 n) := by
  generalize hv : Value.pointer (some ⟨b, o, none⟩) = v at h
  cases h with
  | @fptr _ _ b' o' f h1 h2 h3 h4 h5 =>
    cases hv
    have k3 := h3 0 _ rfl
    have k4 := h4 0 _ rfl
    rw [Nat.add_zero] at k3
    rw [Nat.add_zero, k3, Rep.val k4]
structure NodeAt (Wn : Nat → Prop) (μ : Mu) (W : World) (b o : Nat) (x : NodeM) (vs : List Value) : Prop where
  len : vs.length = 10
  cell : ∀ j v, vs[j]? = some v → W.cell? ⟨b, o + j, none⟩ = some v
  rep : Rep Wn μ W (eNode x) (.agg vs.toArray)
theorem for_box {Wn : Nat → Prop} {μ : Mu} {W : World} {f : ForM} {b o : Nat} (h : Rep Wn μ W (.fptr (eFor f) 0) (.pointer (some ⟨b, o, none⟩))) :
    ∃ ad cap, W.cell? ⟨b, o, none⟩ = some (.slice ad f.nodes.length cap) ∧ W.cell? ⟨b, o + 1, none⟩ = some (.int .i64 f.most) ∧ f.nodes.length ≤ cap ∧ Rep Wn μ W (eFor f) (.agg #[.slice ad f.nodes.length cap, .int .i64 f.most]) ∧
      ∀ (j : Nat) (x : NodeM), f.nodes[j]? = some x → ∃ b2 o2 vs, ad = some ⟨b2, o2, none⟩ ∧ NodeAt Wn μ W b2 (o2 + j * 10) x vs := by
  generalize hv : Value.pointer (some ⟨b, o, none⟩) = v at h
  cases h with
  | @fptr _ _ b' o' g h1 h2 h3 h4 h5 =>
    cases hv
    have k3 := h3 0 _ rfl
    have k4 := h4 0 _ rfl
    have m3 := h3 1 _ rfl
    have m4 := h4 1 _ rfl
    rw [Nat.add_zero] at k3
    rw [Nat.add_zero, k3, m3]
    have hm : g 1 = .int .i64 f.most := Rep.val m4
    rw [hm] at m4 ⊢
    have hag : ∀ v0, Rep Wn μ W (.sl 10 (f.nodes.map oNode)) v0 → Rep Wn μ W (eFor f) (.agg #[v0, .int .i64 f.most]) := by
      intro v0 h0
      refine Rep.agg (vs := [v0, .int .i64 f.most]) rfl ?_
      rintro (_ | _ | j) c v hc hv
      · cases hc; cases hv; exact h0
      · cases hc; cases hv; exact m4
      · simp at hv
    generalize hs : g 0 = s at k4
    have hg := hag s (by rw [← hs]; exact h4 0 _ rfl)
    cases hl : f.nodes with
    | nil =>
      have e : f.nodes.map oNode = [] := by rw [hl]; rfl
      change Rep Wn μ W (.sl 10 (f.nodes.map oNode)) s at k4
      rw [e] at k4
      rw [← hl]
      have hn : f.nodes.length = 0 := by rw [hl]; rfl
      rw [hn]
      cases k4 with
      | slNil => exact ⟨_, _, rfl, rfl, Nat.zero_le _, hg, fun j x h => by rw [hl] at h; simp at h⟩
      | sl a1 a2 a3 a4 a5 a6 a7 a8 => subst a3; exact ⟨_, _, rfl, rfl, Nat.zero_le _, hg, fun j x h => by rw [hl] at h; simp at h⟩
    | cons y r =>
      rw [← hl]
      change Rep Wn μ W (.sl 10 (f.nodes.map oNode)) s at k4
      generalize hrows : f.nodes.map oNode = rows at k4
      have hne : rows ≠ [] := by rw [← hrows, hl]; simp
      cases k4 with
      | slNil => exact absurd rfl hne
      | @sl _ _ b2 o2 cap _ fv a1 a2 a3 a4 a5 a6 a7 a8 =>
        subst a3
        have hlen : rows.length = f.nodes.length := by rw [← hrows]; simp
        rw [hlen] at hg a4 ⊢
        refine ⟨_, _, rfl, rfl, a4, hg, fun j x hx => ⟨b2, o2, (List.range 10).map fun q => fv (j * 10 + q), rfl, ?_⟩⟩
        have hr : rows[j]? = some (oNode x) := by rw [← hrows, List.getElem?_map, hx]; rfl
        have hq : ∀ q c, (cells (oNode x))[q]? = some c → (flat rows)[j * 10 + q]? = some c := fun q c hc => flat_get (wd := 10) (fun i r hr => a5 i r hr) hr hc
        have hcl : (cells (oNode x)).length = 10 := a5 j _ hr
        refine ⟨by simp, fun q v hv => ?_, ?_⟩
        · have hq10 : q < 10 := by have := (List.getElem?_eq_some_iff.1 hv).1; simpa using this
          obtain ⟨c, hc⟩ : ∃ c, (cells (oNode x))[q]? = some c := ⟨_, List.getElem?_eq_getElem (by omega)⟩
          have := a6 _ _ (hq q c hc)
          rw [Nat.add_assoc, this]
          rw [List.getElem?_map, List.getElem?_range hq10] at hv
          simpa using hv
        · refine Rep.agg (by simp) fun q c v hc hv => ?_
          have hq10 : q < 10 := by have := (List.getElem?_eq_some_iff.1 hv).1; simpa using this
          rw [List.getElem?_map, List.getElem?_range hq10] at hv
          have hv' : fv (j * 10 + q) = v := by simpa using hv
          rw [← hv']
          refine a7 _ _ (hq q c ?_)
          exact hc
end Go.Proofs.Heir
end
section
set_option linter.unusedSimpArgs false
set_option linter.unusedVariables false
namespace Go.Proofs.Heir
open Go Go.Am Go.RowKit Go.Shelf
set_option maxRecDepth 100000
set_option maxHeartbeats 8000000
theorem ints_at {Wn : Nat → Prop} {μ : Mu} {W : World} {l : List Int} {v : Value} (h : Rep Wn μ W (.sl 1 (l.map oInt)) v) :
    ∃ ad cap, v = .slice ad l.length cap ∧ l.length ≤ cap ∧ ∀ (j : Nat) (x : Int), l[j]? = some x → ∃ b2 o2, ad = some ⟨b2, o2, none⟩ ∧ ¬ Wn b2 ∧ b2 < W.heap.size ∧ W.cell? ⟨b2, o2 + j, none⟩ = some (.int .i64 x) := by
  cases hl : l with
  | nil =>
    subst hl
    cases h with
    | slNil => exact ⟨_, _, rfl, Nat.zero_le _, fun j x h => by simp at h⟩
    | sl a1 a2 a3 a4 a5 a6 a7 a8 => subst a3; exact ⟨_, _, rfl, Nat.zero_le _, fun j x h => by simp at h⟩
  | cons y r =>
    rw [← hl]
    generalize hrows : l.map oInt = rows at h
    have hne : rows ≠ [] := by rw [← hrows, hl]; simp
    cases h with
    | slNil => exact absurd rfl hne
    | sl a1 a2 a3 a4 a5 a6 a7 a8 =>
      subst a3
      have hlen : rows.length = l.length := by rw [← hrows]; simp
      refine ⟨_, _, by rw [hlen], by rw [← hlen]; exact a4, fun j x hx => ⟨_, _, rfl, a1, a2, ?_⟩⟩
      have hr : rows[j]? = some (oInt x) := by rw [← hrows, List.getElem?_map, hx]; rfl
      have hq := flat_get (wd := 1) (fun i r hr => a5 i r hr) hr (show (cells (oInt x))[0]? = some (oInt x) from rfl)
      rw [Nat.mul_one, Nat.add_zero] at hq
      have c1 := a6 j _ hq
      have c2 := a7 j _ hq
      have one : ∀ v, Rep Wn μ W (oInt x) v → v = .int .i64 x := by intro v hv; unfold oInt at hv; cases hv; rfl
      rw [c1, one _ c2]
theorem FnOK.at {P : Program} {f : FuncId} {args : List AV} {vs : List Value} {res : AV} {w : World} {Wn : Nat → Prop} {μ : Mu} (h : FnOK P f [] args [] res) (ha : noRefL args = true) (hr : noRef res = true) (hv : RepL Wn μ w args vs) (hlt : ∀ b, Wn b → b < w.heap.size) (ht : Tabs P w fun _ => none) :
    Calls P f vs.toArray w fun e w' => ∃ v μ', e = .returned v ∧ More w w' ∧ Rep Wn μ' w' res v := by
  have hW : ∀ b, Wr Wn (fun _ => none) (objsOf []) b → Wn b := by
    rintro b (h | ⟨t, B, wd, rows, _, h, _⟩)
    · exact h
    · cases h
  have hs : Sim P 0 w Wn (fun _ => none) (fun _ => none) (bare []) noAct w := by
    refine ⟨rfl, .nil, rfl, rfl, rfl, Nat.le_refl _, fun _ _ _ h => h, fun _ _ _ => rfl, hlt, fun _ _ _ h => h, fun t => by simp [bare, objsOf], fun _ => .any, fun t wd rows ro h => ?_, fun t t' wd rows wd' rows' ro' B B' _ h => ?_, fun t wd rows ro B h => ?_, ht⟩ <;> simp [bare, objsOf] at h
  refine (h w Wn (fun _ => none) vs (fun _ _ => rfl) hs ?_).mono ?_
  · exact ⟨hv.1, fun j c v hc hv' => (hv.2 j c v hc hv').noRef (fun b _ hb => hW b hb) (noRefL_iff.1 ha c (List.mem_of_getElem? hc))⟩
  rintro e w' ⟨v, μ', rfl, hs', hv'⟩
  refine ⟨v, μ', rfl, ⟨hs'.os, hs'.tape, hs'.output, hs'.hsize, fun b hb => hs'.keep b hb ?_⟩, hv'.noRef (fun b _ hb => .inl hb) hr⟩
  rintro ⟨t, B, h, _⟩
  cases h
theorem list10 {α : Type} : ∀ {l : List α}, l.length = 10 → ∃ a b c d e f g h i j, l = [a, b, c, d, e, f, g, h, i, j]
  | [a, b, c, d, e, f, g, h, i, j], _ => ⟨a, b, c, d, e, f, g, h, i, j, rfl⟩
theorem sl_val {Wn : Nat → Prop} {μ : Mu} {W : World} {wd : Nat} {rows : List AV} {v : Value} (h : Rep Wn μ W (.sl wd rows) v) : ∃ a n c, v = .slice a n c := by
  cases h <;> exact ⟨_, _, _, rfl⟩
theorem node_vals {Wn : Nat → Prop} {μ : Mu} {W : World} {x : NodeM} {v0 v1 v2 v3 v4 v5 v6 v7 v8 v9 : Value} (h : Rep Wn μ W (eNode x) (.agg [v0, v1, v2, v3, v4, v5, v6, v7, v8, v9].toArray)) :
    v0 = .int .i64 x.kind ∧ v1 = .string x.name ∧ v2 = .string x.is ∧ v3 = .string x.data ∧ (∃ a n c, v4 = .slice a n c) ∧ v5 = .int .i64 x.parent ∧ (∃ a n c, v6 = .slice a n c) ∧ v7 = .int .i64 x.host ∧ v8 = .int .i64 x.under ∧ v9 = .int .i64 x.doc := by
  generalize hw : Value.agg [v0, v1, v2, v3, v4, v5, v6, v7, v8, v9].toArray = w0 at h
  cases h with
  | agg h1 h2 =>
    have e := congrArg (fun x => match x with | Value.agg a => a.toList | _ => []) hw
    simp only at e
    subst e
    exact ⟨(h2 0 _ _ rfl rfl).val, (h2 1 _ _ rfl rfl).val, (h2 2 _ _ rfl rfl).val, (h2 3 _ _ rfl rfl).val, sl_val (h2 4 _ _ rfl rfl), (h2 5 _ _ rfl rfl).val, sl_val (h2 6 _ _ rfl rfl), (h2 7 _ _ rfl rfl).val, (h2 8 _ _ rfl rfl).val, (h2 9 _ _ rfl rfl).val⟩
def elemsU (l : List NodeM) (ms : List Int) : List Int := ms.filter fun c => decide ((nd l c).kind = 1)
theorem elemsU_step {l : List NodeM} {ms : List Int} {j : Nat} {c : Int} (hc : ms[j]? = some c) : elemsU l (ms.take (j + 1)) = elemsU l (ms.take j) ++ (if (nd l c).kind = 1 then [c] else []) := by
  unfold elemsU
  rw [List.take_add_one, hc, List.filter_append]
  congr 1
  show List.filter _ [c] = _
  rw [List.filter_cons]
  by_cases h : (nd l c).kind = 1
  · rw [if_pos (decide_eq_true h), if_pos h]; rfl
  · rw [if_neg (by rw [decide_eq_false h]; simp), if_neg h]; rfl
theorem elemsU_get {l : List NodeM} {ms : List Int} {j : Nat} {c : Int} (hc : ms[j]? = some c) (hk : (nd l c).kind = 1) : (elemsU l ms)[(elemsU l (ms.take j)).length]? = some c := by
  have h1 : elemsU l ms = elemsU l (ms.take (j + 1)) ++ elemsU l (ms.drop (j + 1)) := by
    unfold elemsU; rw [← List.filter_append, List.take_append_drop]
  rw [h1, elemsU_step hc, if_pos hk, List.append_assoc, List.getElem?_append_right (Nat.le_refl _), Nat.sub_self]; rfl
theorem more_cell {w w' : World} (h : More w w') {b o : Nat} {v : Value} (hc : w.cell? ⟨b, o, none⟩ = some v) : w'.cell? ⟨b, o, none⟩ = some v := by
  rw [World.cell?_of_block (h.blk b (World.block_lt_of_cell? w _ hc)), hc]
theorem each_it (f : ForM) (n : Int) (ms : List Int) (hl : ms.length ≤ 100000) (hth : ∀ c ∈ ms, thereN f.nodes c = true) (h80 : FnOK Tryz.prog 104 [] [eFor f, eInt n] [] (eInts ms)) (c104 : Callable Tryz.prog 104) :
    ItOK Tryz.prog 103 [.fptr (eFor f) 0, .fptr (eInt n) 0] (elemsU f.nodes ms).length (fun k => [oInt (((elemsU f.nodes ms)[k]?).getD 0), eNode (nd f.nodes (((elemsU f.nodes ms)[k]?).getD 0))]) := by
  intro vals y J Jx hJ hJm hJxm hJlt hY Wn w h0
  obtain ⟨⟨μ, hr⟩, htab⟩ := hJ 0 Wn w h0
  obtain ⟨vb, us, rfl, hvb, hus⟩ := RepL.uncons hr
  obtain ⟨vc, us', rfl, hvc, hus'⟩ := RepL.uncons hus
  obtain rfl := RepL.unnil hus'
  obtain ⟨b, o, rfl⟩ : ∃ b o, vb = .pointer (some ⟨b, o, none⟩) := by cases hvb; exact ⟨_, _, rfl⟩
  obtain ⟨b', o', rfl⟩ : ∃ b o, vc = .pointer (some ⟨b, o, none⟩) := by cases hvc; exact ⟨_, _, rfl⟩
  have hi := int_box hvc
  obtain ⟨ad, cap, hb0, hb1, hcap, hfr, hel⟩ := for_box hvb
  refine (callsIn_wide (n := 1)).1 ?_
  refine callsIn_of_wp Tryz.func103 rfl trivial ?_ rfl
  simp only [Tryz.ntmps103, List.size_toArray, List.length_cons, List.length_nil, Nat.reduceAdd, Nat.reduceSub, Array.replicate_succ, Array.replicate_zero, List.push_toArray, List.append_toArray, List.nil_append, List.cons_append]
  gi_wp2
  refine ⟨trivial, (callsIn_wide (n := 0)).2 ((FnOK.at (μ := μ) h80 rfl rfl (.cons hfr (.cons (by rw [eInt]; exact .lit) .nil)) (hJlt 0 Wn w h0) htab).mono ?_)⟩
  rintro e w1 ⟨v, μ1, rfl, hm1, hv1⟩
  obtain ⟨ad2, cap2, rfl, hcap2, hl2⟩ := ints_at hv1
  have h1 := hJm 0 Wn w w1 h0 hm1
  gi_wp2
  gi_loopw [11] (fun i wr => ∃ j : Nat, j ≤ ms.length ∧ i = .int .i64 (j : Int) ∧ ∃ Wn', J (elemsU f.nodes (ms.take j)).length Wn' wr ∧ ∀ (j : Nat) (x : Int), ms[j]? = some x → ∃ b2 o2, ad2 = some ⟨b2, o2, none⟩ ∧ ¬ Wn' b2 ∧ b2 < wr.heap.size ∧ wr.cell? ⟨b2, o2 + j, none⟩ = some (.int .i64 x)) (fun i _ => ms.length - (intOf i).toNat)
  case atStart => exact ⟨0, Nat.zero_le _, rfl, Wn, h1, hl2⟩
  case round =>
    obtain ⟨j, hj, rfl, Wn', hJk, hls⟩ := hrel
    by_cases hlt : j < ms.length
    · obtain ⟨c, hc⟩ : ∃ c, ms[j]? = some c := ⟨_, List.getElem?_eq_getElem hlt⟩
      obtain ⟨b2, o2, rfl, hnb2, hb2, hcell⟩ := hls j c hc
      obtain ⟨i, x, rfl, hx, hnx⟩ := there_iff.1 (hth c (List.mem_of_getElem? hc))
      obtain ⟨⟨μk, hrk⟩, _⟩ := hJ _ Wn' wr hJk
      obtain ⟨vb, us, e, hvb', hus⟩ := RepL.uncons hrk
      cases e
      obtain ⟨ad3, cap3, hb0', hb1', hcap', hfr', hel'⟩ := for_box hvb'
      obtain ⟨b3, o3, vs, rfl, hna⟩ := hel' i x hx
      have hi' : i < f.nodes.length := (List.getElem?_eq_some_iff.1 hx).1
      obtain ⟨v0, v1, v2, v3, v4, v5, v6, v7, v8, v9, rfl⟩ := list10 hna.len
      have q0 := hna.cell 0 _ rfl
      have q1 := hna.cell 1 _ rfl
      have q2 := hna.cell 2 _ rfl
      have q3 := hna.cell 3 _ rfl
      have q4 := hna.cell 4 _ rfl
      have q5 := hna.cell 5 _ rfl
      have q6 := hna.cell 6 _ rfl
      have q7 := hna.cell 7 _ rfl
      have q8 := hna.cell 8 _ rfl
      have q9 := hna.cell 9 _ rfl
      have hrep := hna.rep
      obtain ⟨rfl, rfl, rfl, rfl, ⟨p4, n4, c4, rfl⟩, rfl, ⟨p6, n6, c6, rfl⟩, rfl, rfl, rfl⟩ := node_vals hrep
      rw [Nat.add_zero] at q0
      obtain ⟨wA, hwA⟩ : ∃ wA, wA = wr.alloc (.cells #[.int .i64 x.kind, .string x.name, .string x.is, .string x.data, .slice p4 n4 c4, .int .i64 x.parent, .slice p6 n6 c6, .int .i64 x.host, .int .i64 x.under, .int .i64 x.doc] 42) := ⟨_, rfl⟩
      have hmA : More wr wA := by rw [hwA]; exact More.alloc _
      have hJA := hJm _ Wn' wr wA hJk hmA
      have hst := elemsU_step (l := f.nodes) hc
      by_cases hk : x.kind = 1
      · have hge := elemsU_get (l := f.nodes) hc (by rw [hnx]; exact hk)
        rw [hnx, if_pos hk] at hst
        have hkl : (elemsU f.nodes (ms.take j)).length < (elemsU f.nodes ms).length := (List.getElem?_eq_some_iff.1 hge).1
        obtain ⟨fn, tmps, assign, body, hy, hR⟩ := hY _ Wn' wA [.int .i64 i, .agg #[.int .i64 x.kind, .string x.name, .string x.is, .string x.data, .slice p4 n4 c4, .int .i64 x.parent, .slice p6 n6 c6, .int .i64 x.host, .int .i64 x.under, .int .i64 x.doc]] hkl hJA (fun Wn'' μ'' hrA => by
          obtain ⟨vbA, usA, eA, hvbA, _⟩ := RepL.uncons hrA
          cases eA
          obtain ⟨adA, capA, hA0, hA1, _, _, helA⟩ := for_box hvbA
          rw [more_cell hmA hb0'] at hA0
          cases hA0
          obtain ⟨bA, oA, vsA, eA, hnaA⟩ := helA i x hx
          cases eA
          have hvs : vsA = [.int .i64 x.kind, .string x.name, .string x.is, .string x.data, .slice p4 n4 c4, .int .i64 x.parent, .slice p6 n6 c6, .int .i64 x.host, .int .i64 x.under, .int .i64 x.doc] := by
            refine List.ext_getElem? fun q => ?_
            rcases Nat.lt_or_ge q 10 with hq | hq
            · obtain ⟨v, hv⟩ : ∃ v, vsA[q]? = some v := ⟨_, List.getElem?_eq_getElem (by rw [hnaA.len]; exact hq)⟩
              obtain ⟨u, hu⟩ : ∃ u, [Value.int .i64 x.kind, .string x.name, .string x.is, .string x.data, .slice p4 n4 c4, .int .i64 x.parent, .slice p6 n6 c6, .int .i64 x.host, .int .i64 x.under, .int .i64 x.doc][q]? = some u := ⟨_, List.getElem?_eq_getElem (by simpa using hq)⟩
              have e1 := hnaA.cell q v hv
              rw [more_cell hmA (hna.cell q u hu)] at e1
              rw [hv, hu]; exact e1.symm
            · rw [List.getElem?_eq_none (by rw [hnaA.len]; exact hq), List.getElem?_eq_none (by simpa using hq)]
          rw [hge, Option.getD_some, hnx]
          have hrepA := hnaA.rep
          rw [hvs] at hrepA
          exact .cons .lit (.cons hrepA .nil))
        subst hwA
        rw [hk] at hy hR hmA
        gi_wp2
        refine hR.mono ?_
        rintro e W3 (⟨rfl, Wn3, hJ3, hkp⟩ | ⟨rfl, hJx3⟩)
        · gi_wp2
          go_roundw
          case rel =>
            refine ⟨j + 1, by omega, by congr 1, Wn3, by rw [hst, List.length_append]; exact hJ3, ?_⟩
            intro j' x' hx'
            obtain ⟨b5, o5, e5, h51, h52, h53⟩ := hls j' x' hx'
            have hlA : b5 < (wr.alloc _).heap.size := Nat.lt_of_lt_of_le h52 hmA.size
            refine ⟨b5, o5, e5, fun h => h51 (hkp.2.2 b5 hlA h), Nat.lt_of_lt_of_le hlA hkp.1, ?_⟩
            rw [World.cell?_of_block (hkp.2.1 b5 hlA h51)]
            exact more_cell hmA h53
          case measure => simp [intOf]; omega
        · gi_wp2
          refine bodyPost_ret (results_none rfl _ _ _) rfl ?_
          exact ⟨⟨_, rfl⟩, .inr hJx3⟩
      · rw [hnx, if_neg hk, List.append_nil] at hst
        have hk' : (x.kind == 1) = false := by simpa using hk
        subst hwA
        gi_wp2
        refine ⟨fun _ h => (by cases h), ?_⟩
        gi_wp2
        go_roundw
        case rel =>
          refine ⟨j + 1, by omega, by congr 1, Wn', by rw [hst]; exact hJA, ?_⟩
          intro j' x' hx'
          obtain ⟨b5, o5, e5, h51, h52, h53⟩ := hls j' x' hx'
          exact ⟨b5, o5, e5, h51, Nat.lt_of_lt_of_le h52 hmA.size, more_cell hmA h53⟩
        case measure => simp [intOf]; omega
    · obtain rfl : j = ms.length := by omega
      gi_wp2
      go_end0
      rw [List.take_length] at hJk
      exact ⟨⟨_, rfl⟩, .inl ⟨_, hJk⟩⟩
end Go.Proofs.Heir
end
section
set_option linter.unusedSimpArgs false
set_option linter.unusedVariables false
namespace Go.Proofs.Heir
open Go.Am Go.RowKit Go.Lib
structure DefM where
  name : ByteArray
  locl : ByteArray
  cls : Int
  deriving DecidableEq
structure WaitM where
  name : ByteArray
  ticket : Int
  deriving DecidableEq
structure DeskM where
  defs : List DefM
  waits : List WaitM
  next : Int
  busy : Bool
  deriving DecidableEq
def knowS (s : ByteArray) : Bool := hasW knowL s
def localB (x : DefM) : Bool := decide (x.locl = x.name) || knowS x.locl
def goodD (x : DefM) : Bool := customS x.name && localB x && decide (0 ≤ x.cls) && decide (x.cls < 12)
def hasN (s : ByteArray) (x : DefM) : Bool := decide (x.name = s)
def hasC (c : Int) (x : DefM) : Bool := decide (x.cls = c)
def ixI {α : Type} (p : α → Bool) (l : List α) : Int := match l.findIdx? p with
  | some k => (k : Int)
  | none => -1
def posN (l : List DefM) (s : ByteArray) : Int := ixI (hasN s) l
def posC (l : List DefM) (c : Int) : Int := ixI (hasC c) l
def okW (l : List DefM) (next : Int) (w : WaitM) (last : Int) : Bool := customS w.name && decide (posN l w.name = -1) && decide (last < w.ticket) && decide (w.ticket < next)
def waitsB (l : List DefM) (next : Int) : Int → List WaitM → Bool
  | _, [] => true
  | last, w :: r => okW l next w last && waitsB l next w.ticket r
def defsB (l : List DefM) : Bool := l.all goodD && decide ((l.map DefM.name).Nodup) && decide ((l.map DefM.cls).Nodup)
def rightD (d : DeskM) : Bool := defsB d.defs && waitsB d.defs d.next (-1) d.waits && decide (0 ≤ d.next) && decide (d.next ≤ 100000)
theorem ixI_cases {α : Type} (p : α → Bool) (l : List α) : (ixI p l = -1 ∧ ∀ a ∈ l, p a = false) ∨ ∃ (k : Nat) (a : α), ixI p l = k ∧ l[k]? = some a ∧ p a = true ∧ ∀ (j : Nat) (b : α), j < k → l[j]? = some b → p b = false := by
  unfold ixI
  cases h : l.findIdx? p with
  | none => exact .inl ⟨rfl, by simpa using h⟩
  | some k =>
    rw [List.findIdx?_eq_some_iff_getElem] at h
    obtain ⟨hk, h1, h2⟩ := h
    refine .inr ⟨k, l[k], rfl, List.getElem?_eq_getElem hk, h1, fun j b hj hb => ?_⟩
    obtain ⟨hjl, rfl⟩ := List.getElem?_eq_some_iff.1 hb
    simpa using h2 j hj
theorem ixI_at {α : Type} {p : α → Bool} {l : List α} {k : Nat} {a : α} (ha : l[k]? = some a) (hp : p a = true) (hu : ∀ (j : Nat) (b : α), l[j]? = some b → p b = true → j = k) : ixI p l = k := by
  rcases ixI_cases p l with ⟨_, h⟩ | ⟨j, b, h1, h2, h3, _⟩
  · rw [h a (List.mem_of_getElem? ha)] at hp; cases hp
  · rw [h1, hu j b h2 h3]
theorem ixI_none {α : Type} {p : α → Bool} {l : List α} (h : ∀ a ∈ l, p a = false) : ixI p l = -1 := by
  rcases ixI_cases p l with ⟨h1, _⟩ | ⟨j, b, _, h2, h3, _⟩
  · exact h1
  · rw [h b (List.mem_of_getElem? h2)] at h3; cases h3
theorem ixI_neg {α : Type} {p : α → Bool} {l : List α} (h : ixI p l = -1) : ∀ a ∈ l, p a = false := by
  rcases ixI_cases p l with ⟨_, h1⟩ | ⟨j, b, h1, _⟩
  · exact h1
  · omega
theorem nodup_ix {α β : Type} [DecidableEq β] {f : α → β} {l : List α} (h : (l.map f).Nodup) {i j : Nat} {a b : α} (ha : l[i]? = some a) (hb : l[j]? = some b) (e : f a = f b) : i = j := by
  have h1 : (l.map f)[i]? = some (f a) := by rw [List.getElem?_map, ha]; rfl
  have h2 : (l.map f)[j]? = some (f b) := by rw [List.getElem?_map, hb]; rfl
  exact (List.getElem?_inj (List.getElem?_eq_some_iff.1 h1).1 h).1 (by rw [h1, h2, e])
theorem nodup_of_ix {α β : Type} {f : α → β} : ∀ {l : List α}, (∀ (i j : Nat) (a b : α), l[i]? = some a → l[j]? = some b → f a = f b → i = j) → (l.map f).Nodup
  | [], _ => List.nodup_nil
  | x :: r, h => by
    rw [List.map_cons, List.nodup_cons]
    refine ⟨fun hm => ?_, nodup_of_ix fun i j a b ha hb e => ?_⟩
    · obtain ⟨y, hy, he⟩ := List.mem_map.1 hm
      obtain ⟨j, hj⟩ := List.getElem?_of_mem hy
      have := h 0 (j + 1) x y rfl (by simpa using hj) he.symm
      omega
    · have := h (i + 1) (j + 1) a b (by simpa using ha) (by simpa using hb) e
      omega
theorem posN_at {l : List DefM} (h : (l.map DefM.name).Nodup) {k : Nat} {x : DefM} (hx : l[k]? = some x) : posN l x.name = k :=
  ixI_at hx (by simp [hasN]) fun j b hb hp => nodup_ix h hb hx (by simpa [hasN] using hp)
theorem posC_at {l : List DefM} (h : (l.map DefM.cls).Nodup) {k : Nat} {x : DefM} (hx : l[k]? = some x) : posC l x.cls = k :=
  ixI_at hx (by simp [hasC]) fun j b hb hp => nodup_ix h hb hx (by simpa [hasC] using hp)
theorem defsB_iff {l : List DefM} : defsB l = true ↔ (∀ x ∈ l, goodD x = true) ∧ (l.map DefM.name).Nodup ∧ (l.map DefM.cls).Nodup := by
  unfold defsB; simp [List.all_eq_true, and_assoc]
theorem waitsB_iff (l : List DefM) (next : Int) : ∀ (ws : List WaitM) (last : Int), waitsB l next last ws = true ↔ (∀ w ∈ ws, customS w.name = true ∧ posN l w.name = -1 ∧ last < w.ticket ∧ w.ticket < next) ∧ ws.Pairwise (fun a b => a.ticket < b.ticket)
  | [], last => by simp [waitsB]
  | w :: r, last => by
    rw [waitsB, Bool.and_eq_true, waitsB_iff l next r w.ticket, List.pairwise_cons]
    unfold okW
    simp only [Bool.and_eq_true, decide_eq_true_eq, List.mem_cons]
    constructor
    · rintro ⟨⟨⟨⟨a1, a2⟩, a3⟩, a4⟩, b1, b2⟩
      refine ⟨fun v hv => ?_, fun v hv => (b1 v hv).2.2.1, b2⟩
      rcases hv with rfl | hv
      · exact ⟨a1, a2, a3, a4⟩
      · obtain ⟨c1, c2, c3, c4⟩ := b1 v hv
        exact ⟨c1, c2, by omega, c4⟩
    · rintro ⟨h1, h2, h3⟩
      obtain ⟨a1, a2, a3, a4⟩ := h1 w (.inl rfl)
      refine ⟨⟨⟨⟨a1, a2⟩, a3⟩, a4⟩, fun v hv => ?_, h3⟩
      obtain ⟨c1, c2, _, c4⟩ := h1 v (.inr hv)
      exact ⟨c1, c2, h2 v hv, c4⟩
theorem waitsB_false (l : List DefM) (next : Int) {ws : List WaitM} {last : Int} {w : WaitM} (hw : w ∈ ws) (h : ∀ t, okW l next w t = false) : waitsB l next last ws = false := by
  induction ws generalizing last with
  | nil => simp at hw
  | cons v r ih =>
    rw [waitsB]
    rcases List.mem_cons.1 hw with rfl | hw
    · rw [h]; rfl
    · rw [ih hw]; simp
def fitL (a b : ByteArray) (x : DefM) : Bool := decide (x.locl = a) && decide (x.name = b)
def findR (l : List DefM) (a b : ByteArray) : Int := if 0 ≤ ixI (fitL a a) l then ixI (fitL a a) l else ixI (fitL a b) l
def findD (d : DeskM) (a b : ByteArray) : Int := if rightD d then findR d.defs a b else -1
def emptyS : ByteArray := ⟨#[]⟩
def mayD (d : DeskM) (classes : Int) (s base : ByteArray) (c : Int) : Int :=
  if (rightD d && decide (0 ≤ c) && decide (c < classes) && decide (c < 12)) = false then 1
  else if customS s = false then 4
  else if 0 ≤ posN d.defs s ∨ 0 ≤ posC d.defs c then 10
  else if base ≠ emptyS ∧ knowS base = false then 6
  else if d.busy then 7 else 0
def toldW (ws : List WaitM) (s : ByteArray) : List Int := (ws.filter fun w => decide (w.name = s)).map WaitM.ticket
def restW (ws : List WaitM) (s : ByteArray) : List WaitM := ws.filter fun w => !decide (w.name = s)
def newD (s base : ByteArray) (c : Int) : DefM := ⟨s, if base = emptyS then s else base, c⟩
def addD (d : DeskM) (s base : ByteArray) (c : Int) : DeskM := ⟨d.defs ++ [newD s base c], restW d.waits s, d.next, d.busy⟩
def defineD (d : DeskM) (classes : Int) (s base : ByteArray) (c : Int) : DeskM × Int × List Int × Int :=
  if mayD d classes s base c = 0 then (addD d s base c, d.defs.length, toldW d.waits s, 0) else (d, -1, [], mayD d classes s base c)
end Go.Proofs.Heir
end
section
set_option linter.unusedSimpArgs false
set_option linter.unusedVariables false
namespace Go.Proofs.Heir
open Go.Am Go.RowKit Go.Lib
theorem rightD_iff {d : DeskM} : rightD d = true ↔ defsB d.defs = true ∧ waitsB d.defs d.next (-1) d.waits = true ∧ 0 ≤ d.next ∧ d.next ≤ 100000 := by
  unfold rightD; simp [and_assoc]
def fitsB (a b : ByteArray) (x : DefM) : Bool := decide (x.locl = a) && (decide (x.name = a) || decide (x.name = b))
theorem fitsB_iff {a b : ByteArray} {x : DefM} : fitsB a b x = true ↔ x.locl = a ∧ (x.name = a ∨ x.name = b) := by unfold fitsB; simp
theorem goodD_facts {x : DefM} (h : goodD x = true) : customS x.name = true ∧ (x.locl = x.name ∨ knowS x.locl = true) ∧ 0 ≤ x.cls ∧ x.cls < 12 := by
  unfold goodD localB at h; simp only [Bool.and_eq_true, Bool.or_eq_true, decide_eq_true_eq] at h
  exact ⟨h.1.1.1, h.1.1.2, h.1.2, h.2⟩
theorem know_no {s : ByteArray} (h : customS s = true) : knowS s = false := by
  cases hk : knowS s with
  | false => rfl
  | true => rw [know_uncustom hk] at h; cases h
theorem fit_uniq {l : List DefM} (h : defsB l = true) {i j : Nat} {x y : DefM} {a b : ByteArray} (hx : l[i]? = some x) (hy : l[j]? = some y) (fx : fitsB a b x = true) (fy : fitsB a b y = true) : i = j := by
  obtain ⟨h1, h2, h3⟩ := defsB_iff.1 h
  obtain ⟨x1, x2, _⟩ := goodD_facts (h1 x (List.mem_of_getElem? hx))
  obtain ⟨y1, y2, _⟩ := goodD_facts (h1 y (List.mem_of_getElem? hy))
  obtain ⟨p1, p2⟩ := fitsB_iff.1 fx
  obtain ⟨q1, q2⟩ := fitsB_iff.1 fy
  by_cases e : x.name = y.name
  · exact nodup_ix h2 hx hy e
  · exfalso
    have ka : knowS a = true := by
      rcases x2 with x2 | x2
      · rcases y2 with y2 | y2
        · exact absurd (by rw [← x2, ← y2, p1, q1]) e
        · rwa [q1] at y2
      · rwa [p1] at x2
    rcases p2 with p2 | p2
    · rw [p2] at x1; rw [know_no x1] at ka; cases ka
    · rcases q2 with q2 | q2
      · rw [q2] at y1; rw [know_no y1] at ka; cases ka
      · exact e (by rw [p2, q2])
theorem findR_cases (l : List DefM) (a b : ByteArray) : (findR l a b = -1 ∧ ∀ x ∈ l, fitsB a b x = false) ∨ ∃ (k : Nat) (x : DefM), findR l a b = k ∧ l[k]? = some x ∧ fitsB a b x = true := by
  unfold findR
  rcases ixI_cases (fitL a a) l with ⟨h1, h2⟩ | ⟨k, x, h1, h2, h3, _⟩
  · rw [h1, if_neg (by omega)]
    rcases ixI_cases (fitL a b) l with ⟨g1, g2⟩ | ⟨k, x, g1, g2, g3, _⟩
    · refine .inl ⟨g1, fun x hx => ?_⟩
      have u1 := h2 x hx
      have u2 := g2 x hx
      unfold fitL at u1 u2
      unfold fitsB
      cases e : decide (x.locl = a) with
      | false => rfl
      | true => rw [e] at u1 u2; simp only [Bool.true_and] at u1 u2; rw [u1, u2]; rfl
    · refine .inr ⟨k, x, g1, g2, ?_⟩
      unfold fitL at g3; unfold fitsB
      simp only [Bool.and_eq_true] at g3 ⊢
      exact ⟨g3.1, by rw [g3.2]; simp⟩
  · rw [h1, if_pos (by omega)]
    refine .inr ⟨k, x, rfl, h2, ?_⟩
    unfold fitL at h3; unfold fitsB
    simp only [Bool.and_eq_true] at h3 ⊢
    exact ⟨h3.1, by rw [h3.2]; rfl⟩
theorem findR_at {l : List DefM} (h : defsB l = true) {k : Nat} {x : DefM} {a b : ByteArray} (hx : l[k]? = some x) (hf : fitsB a b x = true) : findR l a b = k := by
  rcases findR_cases l a b with ⟨_, h2⟩ | ⟨j, y, h1, h2, h3⟩
  · rw [h2 x (List.mem_of_getElem? hx)] at hf; cases hf
  · rw [h1, fit_uniq h h2 hx h3 hf]
theorem findR_iff {l : List DefM} (h : defsB l = true) {k : Nat} {x : DefM} {a b : ByteArray} (hx : l[k]? = some x) : findR l a b = (k : Int) ↔ fitsB a b x = true := by
  refine ⟨fun he => ?_, findR_at h hx⟩
  rcases findR_cases l a b with ⟨h1, _⟩ | ⟨j, y, h1, h2, h3⟩
  · omega
  · have : j = k := by omega
    subst this
    rw [hx] at h2; cases h2; exact h3
theorem mayD_zero {d : DeskM} {classes c : Int} {s base : ByteArray} (h : mayD d classes s base c = 0) :
    rightD d = true ∧ 0 ≤ c ∧ c < classes ∧ c < 12 ∧ customS s = true ∧ posN d.defs s = -1 ∧ posC d.defs c = -1 ∧ (base = emptyS ∨ knowS base = true) ∧ d.busy = false := by
  unfold mayD at h
  split at h
  · omega
  rename_i h1
  split at h
  · omega
  rename_i h2
  split at h
  · omega
  rename_i h3
  split at h
  · omega
  rename_i h4
  split at h
  · omega
  rename_i h5
  simp only [Bool.not_eq_false, Bool.and_eq_true, decide_eq_true_eq] at h1 h2
  simp only [Bool.not_eq_true] at h5
  have h6 := fun (x : Int) (hx : x = -1 ∨ ∃ k : Nat, x = k) (hn : ¬ 0 ≤ x) => (show x = -1 by rcases hx with hx | ⟨k, hx⟩ <;> omega)
  have hp : posN d.defs s = -1 ∨ ∃ k : Nat, posN d.defs s = k := by
    rcases ixI_cases (hasN s) d.defs with ⟨a, _⟩ | ⟨k, _, a, _⟩
    · exact .inl a
    · exact .inr ⟨k, a⟩
  have hq : posC d.defs c = -1 ∨ ∃ k : Nat, posC d.defs c = k := by
    rcases ixI_cases (hasC c) d.defs with ⟨a, _⟩ | ⟨k, _, a, _⟩
    · exact .inl a
    · exact .inr ⟨k, a⟩
  refine ⟨h1.1.1.1, h1.1.1.2, h1.1.2, h1.2, h2, h6 _ hp fun a => h3 (.inl a), h6 _ hq fun a => h3 (.inr a), ?_, h5⟩
  by_cases e : base = emptyS
  · exact .inl e
  · exact .inr (by cases hk : knowS base with | true => rfl | false => exact absurd ⟨e, hk⟩ h4)
theorem posN_snoc (l : List DefM) (x : DefM) (s : ByteArray) (h : x.name ≠ s) : posN (l ++ [x]) s = posN l s := by
  unfold posN ixI
  rw [List.findIdx?_append]
  have : hasN s x = false := by unfold hasN; exact decide_eq_false h
  cases hh : l.findIdx? (hasN s) <;> simp [List.findIdx?_cons, this]
theorem posN_no {l : List DefM} {s : ByteArray} (h : posN l s = -1) : ∀ x ∈ l, x.name ≠ s := fun x hx => by
  have := ixI_neg h x hx
  unfold hasN at this
  exact of_decide_eq_false this
theorem posC_no {l : List DefM} {c : Int} (h : posC l c = -1) : ∀ x ∈ l, x.cls ≠ c := fun x hx => by
  have := ixI_neg h x hx
  unfold hasC at this
  exact of_decide_eq_false this
theorem nodup_snoc {α β : Type} {f : α → β} {l : List α} {x : α} (h : (l.map f).Nodup) (hx : ∀ y ∈ l, f y ≠ f x) : ((l ++ [x]).map f).Nodup := by
  rw [List.map_append, List.nodup_append]
  refine ⟨h, by simp, fun a ha b hb => ?_⟩
  obtain ⟨y, hy, rfl⟩ := List.mem_map.1 ha
  simp at hb; subst hb
  exact hx y hy
theorem right_add {d : DeskM} {classes c : Int} {s base : ByteArray} (h : mayD d classes s base c = 0) : rightD (addD d s base c) = true := by
  obtain ⟨h1, h2, h3, h4, h5, h6, h7, h8, h9⟩ := mayD_zero h
  obtain ⟨r1, r2, r3, r4⟩ := rightD_iff.1 h1
  obtain ⟨g1, g2, g3⟩ := defsB_iff.1 r1
  obtain ⟨w1, w2⟩ := (waitsB_iff _ _ _ _).1 r2
  refine rightD_iff.2 ⟨defsB_iff.2 ⟨fun x hx => ?_, nodup_snoc g2 (posN_no h6), nodup_snoc g3 (posC_no h7)⟩, (waitsB_iff _ _ _ _).2 ⟨fun w hw => ?_, w2.sublist List.filter_sublist⟩, r3, r4⟩
  · rcases List.mem_append.1 hx with hx | hx
    · exact g1 x hx
    · simp at hx; subst hx
      unfold goodD localB newD
      simp only [h5, h2, h4, decide_true, Bool.and_true, Bool.true_and]
      by_cases e : base = emptyS
      · simp [e]
      · rw [if_neg e, h8.resolve_left e]; simp
  · obtain ⟨hw1, hw2⟩ := List.mem_filter.1 hw
    have hne : w.name ≠ s := by simpa using hw2
    obtain ⟨a1, a2, a3, a4⟩ := w1 w hw1
    refine ⟨a1, ?_, a3, a4⟩
    show posN (d.defs ++ [newD s base c]) w.name = -1
    rw [posN_snoc _ _ _ (fun e => hne e.symm)]; exact a2
end Go.Proofs.Heir
end
section
set_option linter.unusedSimpArgs false
set_option linter.unusedVariables false
namespace Go.Proofs.Heir
open Go.Am Go.RowKit Go.Lib
theorem restW_snoc {l : List WaitM} {s : ByteArray} {k : Nat} {w : WaitM} (h : l[k]? = some w) : restW (l.take (k + 1)) s = if w.name = s then restW (l.take k) s else restW (l.take k) s ++ [w] := by
  have hk := (List.getElem?_eq_some_iff.1 h).1
  rw [List.take_succ_eq_append_getElem hk, (List.getElem?_eq_some_iff.1 h).2]
  unfold restW
  rw [List.filter_append]
  by_cases e : w.name = s <;> simp [e]
theorem toldW_snoc {l : List WaitM} {s : ByteArray} {k : Nat} {w : WaitM} (h : l[k]? = some w) : toldW (l.take (k + 1)) s = if w.name = s then toldW (l.take k) s ++ [w.ticket] else toldW (l.take k) s := by
  have hk := (List.getElem?_eq_some_iff.1 h).1
  rw [List.take_succ_eq_append_getElem hk, (List.getElem?_eq_some_iff.1 h).2]
  unfold toldW
  rw [List.filter_append]
  by_cases e : w.name = s <;> simp [e]
theorem restW_len (l : List WaitM) (s : ByteArray) (k : Nat) : (restW (l.take k) s).length ≤ k := by
  unfold restW
  refine Nat.le_trans (List.length_filter_le ..) ?_
  simp; omega
theorem toldW_len (l : List WaitM) (s : ByteArray) (k : Nat) : (toldW (l.take k) s).length ≤ k := by
  unfold toldW
  rw [List.length_map]
  refine Nat.le_trans (List.length_filter_le ..) ?_
  simp; omega
def xk (k : Nat) : ByteArray := ⟨#[120, 45, UInt8.ofNat (97 + k)]⟩
structure TellInv (d : DeskM) (i : Nat) : Prop where
  right : rightD d = true
  busy : d.busy = false
  names : ∀ w ∈ d.waits, ∃ k < 6, w.name = xk k
  next : d.next ≤ i
theorem TellInv.first : TellInv ⟨[], [], 0, false⟩ 0 := ⟨by decide, rfl, fun w h => by simp at h, by decide⟩
end Go.Proofs.Heir
end
section
set_option linter.unusedSimpArgs false
set_option linter.unusedVariables false
namespace Go.Proofs.Heir
open Go.Am Go.RowKit Go.Lib
section
variable {K : Type} [DecidableEq K] (key : DefM → K)
def ixFrom (i : Nat) (t : List (K × Int)) : List DefM → List (K × Int)
  | [] => t
  | x :: r => ixFrom (i + 1) (tput (key x) (i : Int) t) r
def ixT (l : List DefM) : List (K × Int) := ixFrom key 0 [] l
theorem ixFrom_snoc (x : DefM) : ∀ (l : List DefM) (i : Nat) (t : List (K × Int)), ixFrom key i t (l ++ [x]) = tput (key x) ((i + l.length : Nat) : Int) (ixFrom key i t l)
  | [], i, t => rfl
  | y :: r, i, t => by
    rw [List.cons_append, ixFrom, ixFrom_snoc x r, ixFrom, List.length_cons]
    congr 2
    omega
theorem ixT_snoc {l : List DefM} {k : Nat} {x : DefM} (h : l[k]? = some x) : ixT key (l.take (k + 1)) = tput (key x) (k : Int) (ixT key (l.take k)) := by
  have hk := (List.getElem?_eq_some_iff.1 h).1
  rw [List.take_succ_eq_append_getElem hk, (List.getElem?_eq_some_iff.1 h).2]
  unfold ixT
  rw [ixFrom_snoc, List.length_take]
  congr 2
  omega
theorem tputI_len (k : K) (x : Int) : ∀ t : List (K × Int), (tput k x t).length = if (tget k t).isSome then t.length else t.length + 1
  | [] => rfl
  | p :: r => by
    simp only [tput, tget]
    split
    · simp
    · rw [List.length_cons, tputI_len k x r]; split <;> simp
theorem ixFrom_len : ∀ (l : List DefM) (i : Nat) (t : List (K × Int)), (ixFrom key i t l).length ≤ t.length + l.length ∧ ((ixFrom key i t l).length = t.length + l.length ↔ (l.map key).Nodup ∧ ∀ a ∈ l, (tget (key a) t).isSome = false)
  | [], i, t => by simp [ixFrom]
  | a :: r, i, t => by
    obtain ⟨h1, h2⟩ := ixFrom_len r (i + 1) (tput (key a) (i : Int) t)
    have hl := tputI_len (key a) (i : Int) t
    show (ixFrom key (i + 1) (tput (key a) (i : Int) t) r).length ≤ _ ∧ ((ixFrom key (i + 1) (tput (key a) (i : Int) t) r).length = _ ↔ _)
    cases hg : (tget (key a) t).isSome with
    | true =>
      rw [hg, if_pos rfl] at hl
      refine ⟨by simp only [List.length_cons]; omega, ⟨fun h => ?_, fun h => ?_⟩⟩
      · simp only [List.length_cons] at h; omega
      · have := h.2 a (by simp); rw [hg] at this; cases this
    | false =>
      rw [hg, if_neg (by simp)] at hl
      refine ⟨by simp only [List.length_cons]; omega, ?_⟩
      rw [show (ixFrom key (i + 1) (tput (key a) (i : Int) t) r).length = t.length + (a :: r).length ↔ (ixFrom key (i + 1) (tput (key a) (i : Int) t) r).length = (tput (key a) (i : Int) t).length + r.length from by rw [hl, List.length_cons]; omega, h2]
      simp only [List.map_cons, List.nodup_cons, List.mem_cons, forall_eq_or_imp]
      constructor
      · rintro ⟨k1, k2⟩
        refine ⟨⟨fun hm => ?_, k1⟩, hg, fun b hb => ?_⟩
        · obtain ⟨b, hb, he⟩ := List.mem_map.1 hm
          have := k2 b hb
          rw [tget_put, he, if_pos rfl] at this; cases this
        · have := k2 b hb
          rw [tget_put] at this
          split at this
          · cases this
          · exact this
      · rintro ⟨⟨k1, k2⟩, _, k3⟩
        refine ⟨k2, fun b hb => ?_⟩
        rw [tget_put, if_neg (fun e => k1 (List.mem_map.2 ⟨b, hb, e.symm⟩))]
        exact k3 b hb
theorem ixT_len (l : List DefM) : (ixT key l).length = l.length ↔ (l.map key).Nodup := by
  have := (ixFrom_len key l 0 []).2
  simp only [List.length_nil, Nat.zero_add] at this
  exact this.trans ⟨fun h => h.1, fun h => ⟨h, fun _ _ => rfl⟩⟩
theorem ixT_le (l : List DefM) : (ixT key l).length ≤ l.length := by
  have := (ixFrom_len key l 0 []).1
  simp only [List.length_nil, Nat.zero_add] at this
  exact this
theorem ixFrom_miss {s : K} : ∀ (l : List DefM) (i : Nat) (t : List (K × Int)), (∀ a ∈ l, key a ≠ s) → tget s (ixFrom key i t l) = tget s t
  | [], i, t, _ => rfl
  | a :: r, i, t, h => by
    rw [ixFrom, ixFrom_miss r (i + 1) _ fun b hb => h b (List.mem_cons_of_mem _ hb), tget_put, if_neg (h a (List.mem_cons_self ..))]
theorem ixFrom_hit {s : K} : ∀ (l : List DefM) (i : Nat) (t : List (K × Int)) (j : Nat) (a : DefM), (l.map key).Nodup → l[j]? = some a → key a = s → tget s (ixFrom key i t l) = some ((i + j : Nat) : Int)
  | [], i, t, j, a, _, h, _ => by simp at h
  | x :: r, i, t, 0, a, hn, h, he => by
    simp at h; subst h
    simp only [List.map_cons, List.nodup_cons] at hn
    rw [ixFrom, ixFrom_miss key r (i + 1) _ fun b hb e => hn.1 (List.mem_map.2 ⟨b, hb, e.trans he.symm⟩), tget_put, if_pos he]
    rfl
  | x :: r, i, t, j + 1, a, hn, h, he => by
    simp only [List.map_cons, List.nodup_cons] at hn
    rw [ixFrom, ixFrom_hit r (i + 1) _ j a hn.2 (by simpa using h) he]
    congr 1; omega
theorem ixT_miss {l : List DefM} {s : K} (h : ∀ a ∈ l, key a ≠ s) : tget s (ixT key l) = none := ixFrom_miss key l 0 [] h
theorem ixT_hit {l : List DefM} {s : K} {j : Nat} {a : DefM} (hn : (l.map key).Nodup) (h : l[j]? = some a) (he : key a = s) : tget s (ixT key l) = some (j : Int) := by
  have := ixFrom_hit key l 0 [] j a hn h he
  simpa [ixT] using this
end
def kN (x : DefM) : ByteArray := x.name
def kC (x : DefM) : Int := x.cls
theorem tgetN {l : List DefM} (h : (l.map DefM.name).Nodup) (s : ByteArray) : (tget s (ixT kN l) = none ∧ posN l s = -1) ∨ ∃ (k : Nat) (x : DefM), tget s (ixT kN l) = some (k : Int) ∧ posN l s = k ∧ l[k]? = some x ∧ x.name = s := by
  rcases ixI_cases (hasN s) l with ⟨h1, h2⟩ | ⟨k, x, h1, h2, h3, _⟩
  · exact .inl ⟨ixT_miss kN fun a ha => of_decide_eq_false (h2 a ha), h1⟩
  · have he : x.name = s := of_decide_eq_true h3
    exact .inr ⟨k, x, ixT_hit kN h h2 he, h1, h2, he⟩
theorem tgetC {l : List DefM} (h : (l.map DefM.cls).Nodup) (s : Int) : (tget s (ixT kC l) = none ∧ posC l s = -1) ∨ ∃ (k : Nat) (x : DefM), tget s (ixT kC l) = some (k : Int) ∧ posC l s = k ∧ l[k]? = some x ∧ x.cls = s := by
  rcases ixI_cases (hasC s) l with ⟨h1, h2⟩ | ⟨k, x, h1, h2, h3, _⟩
  · exact .inl ⟨ixT_miss kC fun a ha => of_decide_eq_false (h2 a ha), h1⟩
  · have he : x.cls = s := of_decide_eq_true h3
    exact .inr ⟨k, x, ixT_hit kC h h2 he, h1, h2, he⟩
def procL (l : List DefM) : List DefM := l.take ((l.takeWhile goodD).length + 1)
theorem takeW_all {l : List DefM} (h : ∀ x ∈ l, goodD x = true) : l.takeWhile goodD = l := by
  induction l with
  | nil => rfl
  | cons x r ih => rw [List.takeWhile_cons_of_pos (h x (List.mem_cons_self ..)), ih fun y hy => h y (List.mem_cons_of_mem _ hy)]
theorem procL_all {l : List DefM} (h : ∀ x ∈ l, goodD x = true) : procL l = l := by
  unfold procL
  rw [takeW_all h, List.take_of_length_le (by omega)]
theorem procL_bad {l : List DefM} {k : Nat} {x : DefM} (h : ∀ (j : Nat) (y : DefM), j < k → l[j]? = some y → goodD y = true) (hx : l[k]? = some x) (hb : goodD x = false) : procL l = l.take (k + 1) := by
  unfold procL
  have hk := (List.getElem?_eq_some_iff.1 hx).1
  have e : l = l.take k ++ x :: l.drop (k + 1) := by
    rw [← (List.getElem?_eq_some_iff.1 hx).2, List.getElem_cons_drop, List.take_append_drop]
  have hg : ∀ y ∈ l.take k, goodD y = true := fun y hy => by
    obtain ⟨j, hj⟩ := List.getElem?_of_mem hy
    rw [List.getElem?_take] at hj
    split at hj
    · rename_i hjk; exact h j y hjk hj
    · cases hj
  have : (l.takeWhile goodD).length = k := by
    conv => lhs; rw [e]
    rw [List.takeWhile_append_of_pos hg, List.takeWhile_cons_of_neg (by simp [hb])]
    simp; omega
  rw [this]
end Go.Proofs.Heir
end
section
set_option linter.unusedSimpArgs false
set_option linter.unusedVariables false
namespace Go.Proofs.Heir
open Go.Am Go.RowKit Go.Lib
set_option maxRecDepth 100000
set_option maxHeartbeats 8000000
@[reducible] def eDef (x : DefM) : AV := .agg [eStr x.name, eStr x.locl, eInt x.cls]
def oDef (x : DefM) : AV := eDef x
@[reducible] def eDefs (l : List DefM) : AV := .sl 3 (l.map oDef)
@[reducible] def eWait (w : WaitM) : AV := .agg [eStr w.name, eInt w.ticket]
def oWait (w : WaitM) : AV := eWait w
@[reducible] def eWaits (l : List WaitM) : AV := .sl 2 (l.map oWait)
@[reducible] def eDesk (d : DeskM) : AV := .agg [eDefs d.defs, eWaits d.waits, eInt d.next, eBool d.busy]
theorem def_get {l : List DefM} {k : Nat} {x : DefM} (h : l[k]? = some x) : (l.map oDef)[k]? = some (eDef x) := by rw [List.getElem?_map, h]; rfl
theorem wait_get {l : List WaitM} {k : Nat} {x : WaitM} (h : l[k]? = some x) : (l.map oWait)[k]? = some (eWait x) := by rw [List.getElem?_map, h]; rfl
@[reducible] def rN (l : List DefM) : MS := .live 2 (tRows Value.string oInt (ixT kN l)) false
@[reducible] def rC (l : List DefM) : MS := .live 2 (tRows vInt oInt (ixT kC l)) false
theorem noRef_tab {K : Type} (kv : K → Value) (t : List (K × Int)) : noRefL (tRows kv oInt t) = true := by
  rw [noRefL_iff]; intro x hx
  obtain ⟨a, _, rfl⟩ := List.mem_map.1 hx
  rfl
theorem map62 : MapTy Tryz.prog 134 .string (.int .i64 0) := ⟨9, 3, by kernel_rfl, by kernel_rfl, fun w => Tryz.zeroValue3 w⟩
theorem map63 : MapTy Tryz.prog 135 (.int .i64) (.int .i64 0) := ⟨3, 3, by kernel_rfl, by kernel_rfl, fun w => Tryz.zeroValue3 w⟩
theorem f91_at {s : ByteArray} {b : Bool} (h : customS s = b) : FnOK Tryz.prog 91 [] [eStr s] [] (eBool b) := by have := f91_ok s; rwa [h] at this
theorem f57_at {s : ByteArray} {b : Bool} (hs : s.size ≤ 100000) (h : customS s = b) : FnOK Tryz.prog 57 [] [eStr s] [] (eBool b) := by have := f57_ok s hs; rwa [h] at this
theorem f99_at {s : ByteArray} {b : Bool} (h : knowS s = b) : FnOK Tryz.prog 99 [] [eStr s] [] (eBool b) := by have := f99_ok s; unfold knowS at h; rwa [h] at this
theorem f60_at {s : ByteArray} {b : Bool} (h : knowS s = b) : FnOK Tryz.prog 60 [] [eStr s] [] (eBool b) := by have := f60_ok s; unfold knowS at h; rwa [h] at this
theorem f150_ok (d : DeskM) (hl : d.defs.length ≤ 100000) : FnOK Tryz.prog 150 [] [eDesk d] [rN (procL d.defs), rC (procL d.defs)] (.tup [.agg [.mapr 0, .mapr 1], eBool (defsB d.defs)]) := by
  obtain ⟨l, ws, nx, bz⟩ := d
  have hlm : (l.map oDef).length = l.length := List.length_map ..
  refine FnOK.startC (rvs := [.cell 2 137, .tmp 3]) G G_good Tryz.func150 rfl Tryz.ntmps150 rfl rfl ?_; with_reducible refine wD ?_
  have hl' : l.length ≤ 100000 := hl
  refine LoopK.use G G_good (fun (k : Nat) => [(1, .ptr 10 0 0), (2, .ptr 20 0 0), (4, .ptr 40 0 0), (12, eDefs l), (13, eInt l.length), (14, eInt k)])
    (fun k => [(10, .live 4 [eDesk ⟨l, ws, nx, bz⟩] false), (20, .live 2 [.agg [.lit (.map none), .lit (.map none)]] false), (40, .live 2 [.agg [.mapr 81, .mapr 91]] false), (81, rN (l.take k)), (91, rC (l.take k))])
    (fun k => k ≤ l.length ∧ ∀ (j : Nat) (y : DefM), j < k → l[j]? = some y → goodD y = true) (fun k => l.length - k) 0 ⟨Nat.zero_le _, fun j y h => by omega⟩
    ⟨⟨rfl, rfl⟩, ⟨⟨rfl, rfl⟩, ⟨rfl, rfl⟩, ⟨rfl, rfl⟩, rfl, by show (l.length : Int) = ((l.map oDef).length : Int); rw [hlm], rfl, trivial⟩, ⟨⟨rfl, rfl, rfl, rfl, trivial⟩, trivial⟩, ⟨⟨⟨rfl, rfl⟩, ⟨rfl, rfl⟩, trivial⟩, trivial⟩, ⟨⟨trivial, trivial, trivial⟩, trivial⟩, ⟨.refl rfl, rfl⟩, ⟨.refl rfl, rfl⟩, trivial⟩ ?_
  intro k ⟨hk, hok⟩
  with_reducible refine wK ?_
  refine IfK.mk (fun h1 => ?_) (fun h1 => ?_) <;> (try simp only [castN] at h1) <;> with_reducible refine wK ?_
  · simp only [decide_eq_true_eq] at h1
    have hk' : k < l.length := by omega
    obtain ⟨⟨n, lo, c⟩, hx⟩ : ∃ a, l[k]? = some a := ⟨_, List.getElem?_eq_getElem hk'⟩
    refine IdxK.mk k (eDef ⟨n, lo, c⟩) rfl (def_get hx) ?_; with_reducible refine wK ?_
    have hle1 : (ixT kN (l.take k)).length ≤ k := Nat.le_trans (ixT_le _ _) (by simp; omega)
    have hle2 : (ixT kC (l.take k)).length ≤ k := Nat.le_trans (ixT_le _ _) (by simp; omega)
    refine PutK.tab Value.string oInt (ixT kN (l.take k)) (k := n) (k : Int) map62 rfl key_str inj_str (by unfold maxLen; omega) rfl ?_; with_reducible refine wK ?_
    refine PutK.tab vInt oInt (ixT kC (l.take k)) (k := c) (k : Int) map63 rfl key_int inj_int (by unfold maxLen; omega) rfl ?_; with_reducible refine wK ?_
    have e1 : tput n (k : Int) (ixT kN (l.take k)) = ixT kN (l.take (k + 1)) := (ixT_snoc kN hx).symm
    have e2 : tput c (k : Int) (ixT kC (l.take k)) = ixT kC (l.take (k + 1)) := (ixT_snoc kC hx).symm
    rw [e1, e2]
    refine dK ?_; with_reducible refine wK ?_
    cases hg : goodD ⟨n, lo, c⟩ with
    | true =>
      obtain ⟨g1, g2, g3, g4⟩ := goodD_facts hg
      simp only at g1 g2 g3 g4
      have hnext : ∀ (j : Nat) (y : DefM), j < k + 1 → l[j]? = some y → goodD y = true := fun j y hj hy => by
        by_cases e : j = k
        · subst e; rw [hx] at hy; cases hy; exact hg
        · exact hok j y (by omega) hy
      by_cases e : lo = n
      · (have fct := And.intro e (And.intro g1 (And.intro g3 (g4))); (repeat' (first
    | refine gF ?_
    | ((first
      | ((with_reducible show CallK _ _ 91 _ _ _ _); refine CallK.lit [] (f91_at g1) c91 ⟨rfl, trivial⟩ rfl rfl ?_)
      | ((with_reducible show NextK _ _); refine NextK.mk (k + 1) ⟨by omega, hnext⟩ (by omega) ⟨⟨rfl, rfl⟩, ⟨⟨rfl, rfl⟩, ⟨rfl, rfl⟩, ⟨rfl, rfl⟩, rfl, rfl, by show ((k + 1 : Nat) : Int) = (k : Int) + 1; omega, trivial⟩, ⟨⟨rfl, rfl, rfl, rfl, trivial⟩, trivial⟩, ⟨⟨⟨rfl, rfl⟩, ⟨rfl, rfl⟩, trivial⟩, trivial⟩, ⟨⟨trivial, trivial, trivial⟩, trivial⟩, ⟨.refl (noRef_tab _ _), noRef_tab _ _⟩, ⟨.refl (noRef_tab _ _), noRef_tab _ _⟩, trivial⟩)) <;> with_reducible refine wK ?_)
    | ((with_reducible show (_ ∧ _) ∧ _ ∧ _); (refine eK ?_ ?_ <;> with_reducible repeat' (first | exact trivial | (show _ ∧ _; refine aK ?_ ?_)))))); all_goals clear fct)
      · have g2' := g2.resolve_left e
        (have fct := And.intro e (And.intro g1 (And.intro g2' (And.intro g3 (g4)))); (repeat' (first
    | refine gF ?_
    | ((first
      | ((with_reducible show CallK _ _ 91 _ _ _ _); refine CallK.lit [] (f91_at g1) c91 ⟨rfl, trivial⟩ rfl rfl ?_)
      | ((with_reducible show CallK _ _ 99 _ _ _ _); refine CallK.lit [] (f99_at g2') c99 ⟨rfl, trivial⟩ rfl rfl ?_)
      | ((with_reducible show NextK _ _); refine NextK.mk (k + 1) ⟨by omega, hnext⟩ (by omega) ⟨⟨rfl, rfl⟩, ⟨⟨rfl, rfl⟩, ⟨rfl, rfl⟩, ⟨rfl, rfl⟩, rfl, rfl, by show ((k + 1 : Nat) : Int) = (k : Int) + 1; omega, trivial⟩, ⟨⟨rfl, rfl, rfl, rfl, trivial⟩, trivial⟩, ⟨⟨⟨rfl, rfl⟩, ⟨rfl, rfl⟩, trivial⟩, trivial⟩, ⟨⟨trivial, trivial, trivial⟩, trivial⟩, ⟨.refl (noRef_tab _ _), noRef_tab _ _⟩, ⟨.refl (noRef_tab _ _), noRef_tab _ _⟩, trivial⟩)) <;> with_reducible refine wK ?_)
    | ((with_reducible show (_ ∧ _) ∧ _ ∧ _); (refine eK ?_ ?_ <;> with_reducible repeat' (first | exact trivial | (show _ ∧ _; refine aK ?_ ?_)))))); all_goals clear fct)
    | false =>
      have hpr : procL l = l.take (k + 1) := procL_bad hok hx hg
      have hdb : defsB l = false := by
        cases h : defsB l with
        | false => rfl
        | true => rw [(defsB_iff.1 h).1 _ (List.mem_of_getElem? hx)] at hg; cases hg
      have hgood : ∀ {p : Prop}, (customS n = true ∧ (lo = n ∨ knowS lo = true) ∧ 0 ≤ c ∧ c < 12) → p := fun h => by
        exfalso
        have : goodD ⟨n, lo, c⟩ = true := by
          obtain ⟨a1, a2, a3, a4⟩ := h
          unfold goodD localB
          simp only [a1, a3, a4, decide_true, Bool.and_true, Bool.true_and]
          rcases a2 with a2 | a2
          · rw [decide_eq_true a2]; rfl
          · rw [a2]; simp
        rw [hg] at this; cases this
      rw [hpr, hdb]
      by_cases e : lo = n
      · cases hc : customS n with
        | false => ((have fct := e; (repeat' (first
    | refine gF ?_
    | (((with_reducible show CallK _ _ 91 _ _ _ _); refine CallK.lit [] (f91_at hc) c91 ⟨rfl, trivial⟩ rfl rfl ?_) <;> with_reducible refine wK ?_)
    | ((with_reducible show (_ ∧ _) ∧ _ ∧ _); (refine eK ?_ ?_ <;> with_reducible repeat' (first | exact trivial | (show _ ∧ _; refine aK ?_ ?_)))))); all_goals clear fct)) <;> first | exact MFL_refl (noRef_tab _ _) | exact ⟨.refl (noRef_tab _ _), noRef_tab _ _⟩ | rfl
        | true =>
          by_cases h3 : c < 0
          · ((have fct := And.intro e (h3); (repeat' (first
    | refine gF ?_
    | (((with_reducible show CallK _ _ 91 _ _ _ _); refine CallK.lit [] (f91_at hc) c91 ⟨rfl, trivial⟩ rfl rfl ?_) <;> with_reducible refine wK ?_)
    | ((with_reducible show (_ ∧ _) ∧ _ ∧ _); (refine eK ?_ ?_ <;> with_reducible repeat' (first | exact trivial | (show _ ∧ _; refine aK ?_ ?_)))))); all_goals clear fct)) <;> first | exact MFL_refl (noRef_tab _ _) | exact ⟨.refl (noRef_tab _ _), noRef_tab _ _⟩ | rfl
          · by_cases h4 : c < 12
            · exact hgood ⟨hc, .inl e, by omega, h4⟩
            · ((have fct := And.intro e (And.intro h3 (h4)); (repeat' (first
    | refine gF ?_
    | (((with_reducible show CallK _ _ 91 _ _ _ _); refine CallK.lit [] (f91_at hc) c91 ⟨rfl, trivial⟩ rfl rfl ?_) <;> with_reducible refine wK ?_)
    | ((with_reducible show (_ ∧ _) ∧ _ ∧ _); (refine eK ?_ ?_ <;> with_reducible repeat' (first | exact trivial | (show _ ∧ _; refine aK ?_ ?_)))))); all_goals clear fct)) <;> first | exact MFL_refl (noRef_tab _ _) | exact ⟨.refl (noRef_tab _ _), noRef_tab _ _⟩ | rfl
      · cases hkn : knowS lo with
        | false => cases hc : customS n <;> ((have fct := e; (repeat' (first
    | refine gF ?_
    | ((first
      | ((with_reducible show CallK _ _ 91 _ _ _ _); refine CallK.lit [] (f91_at hc) c91 ⟨rfl, trivial⟩ rfl rfl ?_)
      | ((with_reducible show CallK _ _ 99 _ _ _ _); refine CallK.lit [] (f99_at hkn) c99 ⟨rfl, trivial⟩ rfl rfl ?_)) <;> with_reducible refine wK ?_)
    | ((with_reducible show (_ ∧ _) ∧ _ ∧ _); (refine eK ?_ ?_ <;> with_reducible repeat' (first | exact trivial | (show _ ∧ _; refine aK ?_ ?_)))))); all_goals clear fct)) <;> first | exact MFL_refl (noRef_tab _ _) | exact ⟨.refl (noRef_tab _ _), noRef_tab _ _⟩ | rfl
        | true =>
          cases hc : customS n with
          | false => ((have fct := e; (repeat' (first
    | refine gF ?_
    | ((first
      | ((with_reducible show CallK _ _ 91 _ _ _ _); refine CallK.lit [] (f91_at hc) c91 ⟨rfl, trivial⟩ rfl rfl ?_)
      | ((with_reducible show CallK _ _ 99 _ _ _ _); refine CallK.lit [] (f99_at hkn) c99 ⟨rfl, trivial⟩ rfl rfl ?_)) <;> with_reducible refine wK ?_)
    | ((with_reducible show (_ ∧ _) ∧ _ ∧ _); (refine eK ?_ ?_ <;> with_reducible repeat' (first | exact trivial | (show _ ∧ _; refine aK ?_ ?_)))))); all_goals clear fct)) <;> first | exact MFL_refl (noRef_tab _ _) | exact ⟨.refl (noRef_tab _ _), noRef_tab _ _⟩ | rfl
          | true =>
            by_cases h3 : c < 0
            · ((have fct := And.intro e (h3); (repeat' (first
    | refine gF ?_
    | ((first
      | ((with_reducible show CallK _ _ 91 _ _ _ _); refine CallK.lit [] (f91_at hc) c91 ⟨rfl, trivial⟩ rfl rfl ?_)
      | ((with_reducible show CallK _ _ 99 _ _ _ _); refine CallK.lit [] (f99_at hkn) c99 ⟨rfl, trivial⟩ rfl rfl ?_)) <;> with_reducible refine wK ?_)
    | ((with_reducible show (_ ∧ _) ∧ _ ∧ _); (refine eK ?_ ?_ <;> with_reducible repeat' (first | exact trivial | (show _ ∧ _; refine aK ?_ ?_)))))); all_goals clear fct)) <;> first | exact MFL_refl (noRef_tab _ _) | exact ⟨.refl (noRef_tab _ _), noRef_tab _ _⟩ | rfl
            · by_cases h4 : c < 12
              · exact hgood ⟨hc, .inr hkn, by omega, h4⟩
              · ((have fct := And.intro e (And.intro h3 (h4)); (repeat' (first
    | refine gF ?_
    | ((first
      | ((with_reducible show CallK _ _ 91 _ _ _ _); refine CallK.lit [] (f91_at hc) c91 ⟨rfl, trivial⟩ rfl rfl ?_)
      | ((with_reducible show CallK _ _ 99 _ _ _ _); refine CallK.lit [] (f99_at hkn) c99 ⟨rfl, trivial⟩ rfl rfl ?_)) <;> with_reducible refine wK ?_)
    | ((with_reducible show (_ ∧ _) ∧ _ ∧ _); (refine eK ?_ ?_ <;> with_reducible repeat' (first | exact trivial | (show _ ∧ _; refine aK ?_ ?_)))))); all_goals clear fct)) <;> first | exact MFL_refl (noRef_tab _ _) | exact ⟨.refl (noRef_tab _ _), noRef_tab _ _⟩ | rfl
  · have hkl : k = l.length := by simp only [decide_eq_false_iff_not] at h1; omega
    subst hkl
    have hall : ∀ x ∈ l, goodD x = true := fun x hx => by
      obtain ⟨j, hj⟩ := List.getElem?_of_mem hx
      exact hok j x (List.getElem?_eq_some_iff.1 hj).1 hj
    rw [List.take_length, procL_all hall]
    have en : (tRows Value.string oInt (ixT kN l)).length = (ixT kN l).length := List.length_map ..
    have ec : (tRows vInt oInt (ixT kC l)).length = (ixT kC l).length := List.length_map ..
    have hn := ixT_len kN l
    have hc := ixT_len kC l
    have hd : defsB l = (decide ((l.map DefM.name).Nodup) && decide ((l.map DefM.cls).Nodup)) := by
      unfold defsB
      rw [List.all_eq_true.2 hall]; rfl
    rw [hd]
    by_cases h2 : (l.map DefM.name).Nodup
    · have h2' : (ixT kN l).length = l.length := hn.2 h2
      by_cases h3 : (l.map DefM.cls).Nodup
      · have h3' : (ixT kC l).length = l.length := hc.2 h3
        ((have fct := And.intro en (And.intro ec (And.intro h2' (And.intro h3' (hlm)))); (repeat' (first
    | refine gF ?_
    | ((first
      | ((with_reducible show CountK _ _ 134 _ _ _ _); refine CountK.mk map62 ⟨_, _, rfl⟩ rfl ?_)
      | ((with_reducible show CountK _ _ 135 _ _ _ _); refine CountK.mk map63 ⟨_, _, rfl⟩ rfl ?_)) <;> with_reducible refine wK ?_)
    | ((with_reducible show (_ ∧ _) ∧ _ ∧ _); (refine eK ?_ ?_ <;> with_reducible repeat' (first | exact trivial | (show _ ∧ _; refine aK ?_ ?_)))))); all_goals clear fct)) <;> first | exact MFL_refl (noRef_tab _ _) | exact ⟨.refl (noRef_tab _ _), noRef_tab _ _⟩ | rfl | (simp [h2, h3, en, ec, h2', h3']; done) | (simp [h2, h3, en, ec, h2']; simp only [castN]; omega) | (simp [h2, h3, en, ec, h2']; exact fun hh => h3' (Int.ofNat.inj hh))
      · have h3' : (ixT kC l).length ≠ l.length := fun h => h3 (hc.1 h)
        ((have fct := And.intro en (And.intro ec (And.intro h2' (And.intro h3' (hlm)))); (repeat' (first
    | refine gF ?_
    | ((first
      | ((with_reducible show CountK _ _ 134 _ _ _ _); refine CountK.mk map62 ⟨_, _, rfl⟩ rfl ?_)
      | ((with_reducible show CountK _ _ 135 _ _ _ _); refine CountK.mk map63 ⟨_, _, rfl⟩ rfl ?_)) <;> with_reducible refine wK ?_)
    | ((with_reducible show (_ ∧ _) ∧ _ ∧ _); (refine eK ?_ ?_ <;> with_reducible repeat' (first | exact trivial | (show _ ∧ _; refine aK ?_ ?_)))))); all_goals clear fct)) <;> first | exact MFL_refl (noRef_tab _ _) | exact ⟨.refl (noRef_tab _ _), noRef_tab _ _⟩ | rfl | (simp [h2, h3, en, ec, h2', h3']; done) | (simp [h2, h3, en, ec, h2']; simp only [castN]; omega) | (simp [h2, h3, en, ec, h2']; exact fun hh => h3' (Int.ofNat.inj hh))
    · have h2' : (ixT kN l).length ≠ l.length := fun h => h2 (hn.1 h)
      ((have fct := And.intro en (And.intro ec (And.intro h2' (hlm))); (repeat' (first
    | refine gF ?_
    | ((first
      | ((with_reducible show CountK _ _ 134 _ _ _ _); refine CountK.mk map62 ⟨_, _, rfl⟩ rfl ?_)
      | ((with_reducible show CountK _ _ 135 _ _ _ _); refine CountK.mk map63 ⟨_, _, rfl⟩ rfl ?_)) <;> with_reducible refine wK ?_)
    | ((with_reducible show (_ ∧ _) ∧ _ ∧ _); (refine eK ?_ ?_ <;> with_reducible repeat' (first | exact trivial | (show _ ∧ _; refine aK ?_ ?_)))))); all_goals clear fct)) <;> first | exact MFL_refl (noRef_tab _ _) | exact ⟨.refl (noRef_tab _ _), noRef_tab _ _⟩ | rfl | (simp [h2, en, h2']; done)
end Go.Proofs.Heir
end
section
set_option linter.unusedSimpArgs false
set_option linter.unusedVariables false
namespace Go.Proofs.Heir
open Go.Am Go.RowKit Go.Lib
set_option maxRecDepth 100000
set_option maxHeartbeats 8000000
theorem outs_read (l : List DefM) : okOuts [rN l, rC l] := by
  refine ⟨Wide.of_mem fun r hr => ?_, noRef_tab _ _, Wide.of_mem fun r hr => ?_, noRef_tab _ _, trivial⟩
  · obtain ⟨p, _, rfl⟩ := List.mem_map.1 hr
    rfl
  · obtain ⟨p, _, rfl⟩ := List.mem_map.1 hr
    rfl
def openI (d : DeskM) (i : Nat × Bool × Int) : Prop := i.1 ≤ d.waits.length ∧ (i.2.1 && waitsB d.defs d.next i.2.2 (d.waits.drop i.1)) = (defsB d.defs && waitsB d.defs d.next (-1) d.waits)
theorem openI_next {d : DeskM} {k : Nat} {b : Bool} {last : Int} {w : WaitM} (h : openI d (k, b, last)) (hw : d.waits[k]? = some w) : openI d (k + 1, b && okW d.defs d.next w last, w.ticket) := by
  obtain ⟨h1, h2⟩ := h
  have hk := (List.getElem?_eq_some_iff.1 hw).1
  refine ⟨by show k + 1 ≤ _; omega, ?_⟩
  rw [← h2]
  simp only
  rw [List.drop_eq_getElem_cons hk, (List.getElem?_eq_some_iff.1 hw).2, waitsB, Bool.and_assoc]
theorem tgetP {l : List DefM} (h : defsB l = true) (s : ByteArray) : (tget s (ixT kN (procL l)) = none ∧ posN l s = -1) ∨ ∃ (k : Nat) (x : DefM), tget s (ixT kN (procL l)) = some (k : Int) ∧ posN l s = k ∧ l[k]? = some x ∧ x.name = s := by
  obtain ⟨h1, h2, _⟩ := defsB_iff.1 h
  rw [procL_all h1]; exact tgetN h2 s
theorem tgetQ {l : List DefM} (h : defsB l = true) (s : Int) : (tget s (ixT kC (procL l)) = none ∧ posC l s = -1) ∨ ∃ (k : Nat) (x : DefM), tget s (ixT kC (procL l)) = some (k : Int) ∧ posC l s = k ∧ l[k]? = some x ∧ x.cls = s := by
  obtain ⟨h1, _, h2⟩ := defsB_iff.1 h
  rw [procL_all h1]; exact tgetC h2 s
theorem f98_ok (d : DeskM) (hl : d.defs.length ≤ 100000) (hw : d.waits.length ≤ 100000) : FnOK Tryz.prog 98 [] [eDesk d] [rN (procL d.defs), rC (procL d.defs)] (.tup [.agg [.mapr 0, .mapr 1], eBool (rightD d)]) := by
  have hI0 : openI d (0, defsB d.defs, -1) := ⟨Nat.zero_le _, rfl⟩
  have hI1 := @openI_next d
  have hI2 : ∀ b last, openI d (d.waits.length, b, last) → b = (defsB d.defs && waitsB d.defs d.next (-1) d.waits) := fun b last h => by
    have := h.2
    simp only [List.drop_length] at this
    rw [← this]; simp [waitsB]
  have hI3 : ∀ k b last, openI d (k, b, last) → b = true → defsB d.defs = true ∨ rightD d = false := fun k b last h hb => by
    cases hd : defsB d.defs with
    | true => exact .inl rfl
    | false => right; unfold rightD; rw [hd]; rfl
  have hr44 := f150_ok d hl
  unfold rightD
  obtain ⟨l, ws, nx, bz⟩ := d
  have hlm : (ws.map oWait).length = ws.length := List.length_map ..
  refine FnOK.startC (rvs := [.cell 2 137, .tmp 3]) G G_good Tryz.func98 rfl Tryz.ntmps98 rfl rfl ?_; with_reducible refine wD ?_
  refine CallK.new 131 [] hr44 c150 ⟨⟨rfl, rfl, rfl, rfl, trivial⟩, trivial⟩ rfl rfl rfl (outs_read _) rfl ?_; with_reducible refine wK ?_
  have hwl : ws.length ≤ 100000 := hw
  refine LoopK.use G G_good (fun (i : Nat × Bool × Int) => [(1, .ptr 10 0 0), (2, .ptr 20 0 0), (4, .ptr 40 0 0), (5, eBool i.2.1), (6, eInt i.2.2), (17, eWaits ws), (18, eInt ws.length), (19, eInt i.1)])
    (fun _ => [(10, .live 4 [eDesk ⟨l, ws, nx, bz⟩] false), (20, .live 2 [.agg [.lit (.map none), .lit (.map none)]] false), (40, .live 2 [.agg [.mapr 131, .mapr 132]] false), (131, rN (procL l)), (132, rC (procL l))])
    (fun i => openI ⟨l, ws, nx, bz⟩ i ∧ (i.2.1 = true → defsB l = true)) (fun i => ws.length - i.1) (0, defsB l, -1) ⟨hI0, id⟩
    ⟨⟨rfl, rfl⟩, ⟨⟨rfl, rfl⟩, ⟨rfl, rfl⟩, ⟨rfl, rfl⟩, rfl, rfl, rfl, by show (ws.length : Int) = ((ws.map oWait).length : Int); rw [hlm], rfl, trivial⟩, ⟨⟨rfl, rfl, rfl, rfl, trivial⟩, trivial⟩, ⟨⟨⟨rfl, rfl⟩, ⟨rfl, rfl⟩, trivial⟩, trivial⟩, ⟨⟨trivial, trivial, trivial⟩, trivial⟩, ⟨.refl (noRef_tab _ _), noRef_tab _ _⟩, ⟨.refl (noRef_tab _ _), noRef_tab _ _⟩, trivial⟩ ?_
  rintro ⟨k, b, last⟩ ⟨hI, hbd⟩
  have hkw : k ≤ ws.length := hI.1
  simp only at hbd
  with_reducible refine wK ?_
  refine IfK.mk (fun h1 => ?_) (fun h1 => ?_) <;> (try simp only [castN] at h1) <;> with_reducible refine wK ?_
  · simp only [decide_eq_true_eq] at h1
    have hk' : k < ws.length := by omega
    obtain ⟨⟨n, tk⟩, hx⟩ : ∃ a, ws[k]? = some a := ⟨_, List.getElem?_eq_getElem hk'⟩
    have hst : ∀ v, (b && okW l nx ⟨n, tk⟩ last) = v → openI ⟨l, ws, nx, bz⟩ (k + 1, v, tk) ∧ (v = true → defsB l = true) := fun v hv => by
      have := hI1 hI hx
      refine ⟨by rw [← hv]; exact this, fun h => hbd ?_⟩
      rw [h] at hv
      exact (Bool.and_eq_true_iff.1 hv).1
    refine IdxK.mk k (eWait ⟨n, tk⟩) rfl (wait_get hx) ?_; with_reducible refine wK ?_
    refine LookK.tab Value.string oInt (ixT kN (procL l)) (k := n) (zv := eInt 0) map62 ⟨_, _, rfl⟩ key_str inj_str rfl rfl (fun x hxx => ?_) (fun hxx => ?_)
    · rw [show oInt x = eInt x from rfl]
      with_reducible refine wK ?_
      cases b with
      | false =>
        have hs := hst false rfl
        (have fct := hlm; (repeat' (first
    | refine gF ?_
    | (((with_reducible show NextK _ _); refine NextK.mk (k + 1, false, tk) hs (by show ws.length - (k + 1) < ws.length - k; omega) ⟨⟨rfl, rfl⟩, ⟨⟨rfl, rfl⟩, ⟨rfl, rfl⟩, ⟨rfl, rfl⟩, rfl, rfl, rfl, rfl, by show ((k + 1 : Nat) : Int) = (k : Int) + 1; omega, trivial⟩, ⟨⟨rfl, rfl, rfl, rfl, trivial⟩, trivial⟩, ⟨⟨⟨rfl, rfl⟩, ⟨rfl, rfl⟩, trivial⟩, trivial⟩, ⟨⟨trivial, trivial, trivial⟩, trivial⟩, ⟨.refl (noRef_tab _ _), noRef_tab _ _⟩, ⟨.refl (noRef_tab _ _), noRef_tab _ _⟩, trivial⟩) <;> with_reducible refine wK ?_)
    | ((with_reducible show (_ ∧ _) ∧ _ ∧ _); (refine eK ?_ ?_ <;> with_reducible repeat' (first | exact trivial | (show _ ∧ _; refine aK ?_ ?_)))))); all_goals clear fct)
      | true =>
        have hp : ¬ posN l n = -1 := by
          rcases tgetP (hbd rfl) n with ⟨a1, _⟩ | ⟨j, y, _, a2, _⟩
          · rw [hxx] at a1; cases a1
          · omega
        have hs := hst false (by unfold okW; simp [hp])
        (have fct := hlm; (repeat' (first
    | refine gF ?_
    | (((with_reducible show NextK _ _); refine NextK.mk (k + 1, false, tk) hs (by show ws.length - (k + 1) < ws.length - k; omega) ⟨⟨rfl, rfl⟩, ⟨⟨rfl, rfl⟩, ⟨rfl, rfl⟩, ⟨rfl, rfl⟩, rfl, rfl, rfl, rfl, by show ((k + 1 : Nat) : Int) = (k : Int) + 1; omega, trivial⟩, ⟨⟨rfl, rfl, rfl, rfl, trivial⟩, trivial⟩, ⟨⟨⟨rfl, rfl⟩, ⟨rfl, rfl⟩, trivial⟩, trivial⟩, ⟨⟨trivial, trivial, trivial⟩, trivial⟩, ⟨.refl (noRef_tab _ _), noRef_tab _ _⟩, ⟨.refl (noRef_tab _ _), noRef_tab _ _⟩, trivial⟩) <;> with_reducible refine wK ?_)
    | ((with_reducible show (_ ∧ _) ∧ _ ∧ _); (refine eK ?_ ?_ <;> with_reducible repeat' (first | exact trivial | (show _ ∧ _; refine aK ?_ ?_)))))); all_goals clear fct)
    · with_reducible refine wK ?_
      cases b with
      | false =>
        have hs := hst false rfl
        (have fct := hlm; (repeat' (first
    | refine gF ?_
    | (((with_reducible show NextK _ _); refine NextK.mk (k + 1, false, tk) hs (by show ws.length - (k + 1) < ws.length - k; omega) ⟨⟨rfl, rfl⟩, ⟨⟨rfl, rfl⟩, ⟨rfl, rfl⟩, ⟨rfl, rfl⟩, rfl, rfl, rfl, rfl, by show ((k + 1 : Nat) : Int) = (k : Int) + 1; omega, trivial⟩, ⟨⟨rfl, rfl, rfl, rfl, trivial⟩, trivial⟩, ⟨⟨⟨rfl, rfl⟩, ⟨rfl, rfl⟩, trivial⟩, trivial⟩, ⟨⟨trivial, trivial, trivial⟩, trivial⟩, ⟨.refl (noRef_tab _ _), noRef_tab _ _⟩, ⟨.refl (noRef_tab _ _), noRef_tab _ _⟩, trivial⟩) <;> with_reducible refine wK ?_)
    | ((with_reducible show (_ ∧ _) ∧ _ ∧ _); (refine eK ?_ ?_ <;> with_reducible repeat' (first | exact trivial | (show _ ∧ _; refine aK ?_ ?_)))))); all_goals clear fct)
      | true =>
        have hp : posN l n = -1 := by
          rcases tgetP (hbd rfl) n with ⟨_, a1⟩ | ⟨j, y, a2, _⟩
          · exact a1
          · rw [hxx] at a2; cases a2
        cases hc : customS n with
        | false =>
          have hs := hst false (by unfold okW; simp [hc])
          (have fct := hlm; (repeat' (first
    | refine gF ?_
    | ((first
      | ((with_reducible show CallK _ _ 91 _ _ _ _); refine CallK.lit [] (f91_at hc) c91 ⟨rfl, trivial⟩ rfl rfl ?_)
      | ((with_reducible show NextK _ _); refine NextK.mk (k + 1, false, tk) hs (by show ws.length - (k + 1) < ws.length - k; omega) ⟨⟨rfl, rfl⟩, ⟨⟨rfl, rfl⟩, ⟨rfl, rfl⟩, ⟨rfl, rfl⟩, rfl, rfl, rfl, rfl, by show ((k + 1 : Nat) : Int) = (k : Int) + 1; omega, trivial⟩, ⟨⟨rfl, rfl, rfl, rfl, trivial⟩, trivial⟩, ⟨⟨⟨rfl, rfl⟩, ⟨rfl, rfl⟩, trivial⟩, trivial⟩, ⟨⟨trivial, trivial, trivial⟩, trivial⟩, ⟨.refl (noRef_tab _ _), noRef_tab _ _⟩, ⟨.refl (noRef_tab _ _), noRef_tab _ _⟩, trivial⟩)) <;> with_reducible refine wK ?_)
    | ((with_reducible show (_ ∧ _) ∧ _ ∧ _); (refine eK ?_ ?_ <;> with_reducible repeat' (first | exact trivial | (show _ ∧ _; refine aK ?_ ?_)))))); all_goals clear fct)
        | true =>
          by_cases h3 : last < tk
          · have hs := hst (decide (tk < nx)) (by unfold okW; simp [hc, hp, h3])
            (have fct := And.intro hlm (h3); (repeat' (first
    | refine gF ?_
    | ((first
      | ((with_reducible show CallK _ _ 91 _ _ _ _); refine CallK.lit [] (f91_at hc) c91 ⟨rfl, trivial⟩ rfl rfl ?_)
      | ((with_reducible show NextK _ _); refine NextK.mk (k + 1, decide (tk < nx), tk) hs (by show ws.length - (k + 1) < ws.length - k; omega) ⟨⟨rfl, rfl⟩, ⟨⟨rfl, rfl⟩, ⟨rfl, rfl⟩, ⟨rfl, rfl⟩, rfl, rfl, rfl, rfl, by show ((k + 1 : Nat) : Int) = (k : Int) + 1; omega, trivial⟩, ⟨⟨rfl, rfl, rfl, rfl, trivial⟩, trivial⟩, ⟨⟨⟨rfl, rfl⟩, ⟨rfl, rfl⟩, trivial⟩, trivial⟩, ⟨⟨trivial, trivial, trivial⟩, trivial⟩, ⟨.refl (noRef_tab _ _), noRef_tab _ _⟩, ⟨.refl (noRef_tab _ _), noRef_tab _ _⟩, trivial⟩)) <;> with_reducible refine wK ?_)
    | ((with_reducible show (_ ∧ _) ∧ _ ∧ _); (refine eK ?_ ?_ <;> with_reducible repeat' (first | exact trivial | (show _ ∧ _; refine aK ?_ ?_)))))); all_goals clear fct)
          · have hs := hst false (by unfold okW; simp [hc, hp, h3])
            (have fct := And.intro hlm (h3); (repeat' (first
    | refine gF ?_
    | ((first
      | ((with_reducible show CallK _ _ 91 _ _ _ _); refine CallK.lit [] (f91_at hc) c91 ⟨rfl, trivial⟩ rfl rfl ?_)
      | ((with_reducible show NextK _ _); refine NextK.mk (k + 1, false, tk) hs (by show ws.length - (k + 1) < ws.length - k; omega) ⟨⟨rfl, rfl⟩, ⟨⟨rfl, rfl⟩, ⟨rfl, rfl⟩, ⟨rfl, rfl⟩, rfl, rfl, rfl, rfl, by show ((k + 1 : Nat) : Int) = (k : Int) + 1; omega, trivial⟩, ⟨⟨rfl, rfl, rfl, rfl, trivial⟩, trivial⟩, ⟨⟨⟨rfl, rfl⟩, ⟨rfl, rfl⟩, trivial⟩, trivial⟩, ⟨⟨trivial, trivial, trivial⟩, trivial⟩, ⟨.refl (noRef_tab _ _), noRef_tab _ _⟩, ⟨.refl (noRef_tab _ _), noRef_tab _ _⟩, trivial⟩)) <;> with_reducible refine wK ?_)
    | ((with_reducible show (_ ∧ _) ∧ _ ∧ _); (refine eK ?_ ?_ <;> with_reducible repeat' (first | exact trivial | (show _ ∧ _; refine aK ?_ ?_)))))); all_goals clear fct)
  · have hkl : k = ws.length := by simp only [decide_eq_false_iff_not] at h1; omega
    subst hkl
    have hb := hI2 b last hI
    simp only at hb ⊢
    rw [← hb]
    cases b with
    | false => ((have fct := hlm; (repeat' (first
    | refine gF ?_
    | ((with_reducible show (_ ∧ _) ∧ _ ∧ _); (refine eK ?_ ?_ <;> with_reducible repeat' (first | exact trivial | (show _ ∧ _; refine aK ?_ ?_)))))); all_goals clear fct)) <;> first | exact MFL_refl (noRef_tab _ _) | exact ⟨.refl (noRef_tab _ _), noRef_tab _ _⟩ | rfl
    | true =>
      by_cases h4 : 0 ≤ nx
      · ((have fct := And.intro hlm (h4); (repeat' (first
    | refine gF ?_
    | ((with_reducible show (_ ∧ _) ∧ _ ∧ _); (refine eK ?_ ?_ <;> with_reducible repeat' (first | exact trivial | (show _ ∧ _; refine aK ?_ ?_)))))); all_goals clear fct)) <;> first | exact MFL_refl (noRef_tab _ _) | exact ⟨.refl (noRef_tab _ _), noRef_tab _ _⟩ | simp [h4]
      · ((have fct := And.intro hlm (h4); (repeat' (first
    | refine gF ?_
    | ((with_reducible show (_ ∧ _) ∧ _ ∧ _); (refine eK ?_ ?_ <;> with_reducible repeat' (first | exact trivial | (show _ ∧ _; refine aK ?_ ?_)))))); all_goals clear fct)) <;> first | exact MFL_refl (noRef_tab _ _) | exact ⟨.refl (noRef_tab _ _), noRef_tab _ _⟩ | simp [h4]
end Go.Proofs.Heir
end
