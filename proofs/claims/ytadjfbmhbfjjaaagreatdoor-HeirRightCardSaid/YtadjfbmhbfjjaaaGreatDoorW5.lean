/- Models, plain laws and contracts of functions of the given program; conditions as stated in each theorem. By an AI agent. -/
import Derived.Test.YtadjfbmhbfjjaaaGreatDoorW4
import Derived.RangeFuncNested
import Derived.RangeFuncBound
import Derived.RangeFuncCalls
import Derived.Shelf.Abstract
import Derived.Shelf.RegionOpen
import Derived.WalkKit
import Derived.OwnWalkIn
import Derived.TacticsInMore
import Derived.LoopNIn
import Derived.LoopIn
section
set_option linter.unusedSimpArgs false
set_option linter.unusedVariables false
namespace Go.Proofs.Heir
open Go Go.Am Go.RowKit Go.Lib
set_option maxRecDepth 100000
set_option maxHeartbeats 8000000
def finN (l : List NodeM) : Nat → Int → Bool
  | 0, _ => false
  | m + 1, n => if (nd l n).parent = -1 then true else finN l m (nd l n).parent
def chN (l : List NodeM) : Nat → Int → List Int
  | 0, _ => []
  | m + 1, n => n :: if (nd l n).parent = -1 then [] else chN l m (nd l n).parent
def ordN (l : List NodeM) : Nat → Int → List Int
  | 0, _ => []
  | m + 1, n => n :: (nd l n).kids.flatMap (ordN l m)
def wayN (l : List NodeM) (n : Int) : List Int := chN l l.length n
theorem fin_of_ends {l : List NodeM} : ∀ {m : Nat} {n : Int}, endsN l m n = true → finN l m n = true
  | 0, n, h => by simp [endsN] at h
  | m + 1, n, h => by
    unfold finN
    by_cases hp : (nd l n).parent = -1
    · rw [if_pos hp]
    · rw [if_neg hp]
      have hu : upN (nd l n) = (nd l n).parent := if_neg hp
      unfold endsN at h
      rw [hu, if_neg hp] at h
      exact fin_of_ends h
theorem ch_len (l : List NodeM) : ∀ (m : Nat) (n : Int), (chN l m n).length ≤ m
  | 0, _ => Nat.le_refl _
  | m + 1, n => by
    unfold chN
    split
    · simp
    · have := ch_len l m (nd l n).parent
      simp; omega
theorem ch_more {l : List NodeM} : ∀ {m k : Nat} {n : Int}, finN l m n = true → m ≤ k → chN l k n = chN l m n
  | 0, k, n, h, _ => by simp [finN] at h
  | m + 1, k, n, h, hk => by
    obtain ⟨k, rfl⟩ : ∃ j, k = j + 1 := ⟨k - 1, by omega⟩
    unfold finN at h
    unfold chN
    by_cases hp : (nd l n).parent = -1
    · rw [if_pos hp, if_pos hp]
    · rw [if_neg hp] at h
      rw [if_neg hp, if_neg hp, ch_more h (by omega)]
structure Tree (l : List NodeM) : Prop where
  par : ∀ n, thereN l n = true → (nd l n).parent ≠ -1 → thereN l (nd l n).parent = true ∧ n ∈ (nd l (nd l n).parent).kids
  kid : ∀ n, thereN l n = true → ∀ k ∈ (nd l n).kids, thereN l k = true ∧ (nd l k).parent = n
  dup : ∀ n, thereN l n = true → (nd l n).kids.Nodup
  fin : ∀ n, thereN l n = true → finN l l.length n = true
  nam : ∀ n, thereN l n = true → namedN (nd l n) = true
theorem there_pos {l : List NodeM} {n : Int} (h : thereN l n = true) : 0 ≤ n ∧ n < (l.length : Int) := by
  unfold thereN at h; simpa using h
variable {l : List NodeM}
theorem up_ind (T : Tree l) {P : Int → Prop} (h0 : ∀ n, thereN l n = true → (nd l n).parent = -1 → P n) (h1 : ∀ n, thereN l n = true → (nd l n).parent ≠ -1 → thereN l (nd l n).parent = true → P (nd l n).parent → P n) : ∀ n, thereN l n = true → P n := by
  have H : ∀ (m : Nat) (n : Int), thereN l n = true → finN l m n = true → P n := by
    intro m
    induction m with
    | zero => intro n _ h; simp [finN] at h
    | succ m ih =>
      intro n hn h
      unfold finN at h
      by_cases hp : (nd l n).parent = -1
      · exact h0 n hn hp
      · rw [if_neg hp] at h
        have hq := (T.par n hn hp).1
        exact h1 n hn hp hq (ih _ hq h)
  exact fun n hn => H _ n hn (T.fin n hn)
theorem way_top (T : Tree l) {n : Int} (hn : thereN l n = true) (hp : (nd l n).parent = -1) : wayN l n = [n] := by
  have := there_pos hn
  obtain ⟨m, hm⟩ : ∃ m, l.length = m + 1 := ⟨l.length - 1, by omega⟩
  unfold wayN; rw [hm]; unfold chN; rw [if_pos hp]
theorem way_step (T : Tree l) {n : Int} (hn : thereN l n = true) (hp : (nd l n).parent ≠ -1) : wayN l n = n :: wayN l (nd l n).parent := by
  have := there_pos hn
  obtain ⟨m, hm⟩ : ∃ m, l.length = m + 1 := ⟨l.length - 1, by omega⟩
  have hf := T.fin n hn
  unfold wayN; rw [hm] at hf ⊢
  unfold finN at hf
  rw [if_neg hp] at hf
  rw [chN, if_neg hp, ch_more hf (Nat.le_succ m)]
theorem way_kid (T : Tree l) {n k : Int} (hn : thereN l n = true) (hk : k ∈ (nd l n).kids) : wayN l k = k :: wayN l n := by
  have h := T.kid n hn k hk
  have h0 := there_pos hn
  have hp : (nd l k).parent ≠ -1 := by rw [h.2]; omega
  rw [way_step T h.1 hp, h.2]
theorem way_head (T : Tree l) {n : Int} (hn : thereN l n = true) : ∃ r, wayN l n = n :: r := by
  by_cases hp : (nd l n).parent = -1
  · exact ⟨[], way_top T hn hp⟩
  · exact ⟨_, way_step T hn hp⟩
theorem way_self (T : Tree l) {n : Int} (hn : thereN l n = true) : n ∈ wayN l n := by
  obtain ⟨r, hr⟩ := way_head T hn; rw [hr]; exact List.mem_cons_self
theorem way_len (n : Int) : (wayN l n).length ≤ l.length := ch_len l _ n
theorem way_there (T : Tree l) : ∀ n, thereN l n = true → ∀ a ∈ wayN l n, thereN l a = true := by
  refine up_ind T (fun n hn hp a ha => ?_) (fun n hn hp hq ih a ha => ?_)
  · rw [way_top T hn hp] at ha; rw [List.mem_singleton.1 ha]; exact hn
  · rw [way_step T hn hp] at ha
    rcases List.mem_cons.1 ha with rfl | h
    · exact hn
    · exact ih a h
theorem way_cut (T : Tree l) : ∀ n, thereN l n = true → ∀ a ∈ wayN l n, ∃ t, wayN l n = t ++ wayN l a := by
  refine up_ind T (fun n hn hp a ha => ?_) (fun n hn hp hq ih a ha => ?_)
  · have h := ha; rw [way_top T hn hp] at h; rw [List.mem_singleton.1 h]; exact ⟨[], rfl⟩
  · have h := ha
    rw [way_step T hn hp] at h
    rcases List.mem_cons.1 h with rfl | h
    · exact ⟨[], rfl⟩
    · obtain ⟨t, ht⟩ := ih a h
      exact ⟨n :: t, by rw [way_step T hn hp, ht]; rfl⟩
theorem way_trans (T : Tree l) {a b c : Int} (hc : thereN l c = true) (h1 : a ∈ wayN l b) (h2 : b ∈ wayN l c) : a ∈ wayN l c := by
  obtain ⟨t, ht⟩ := way_cut T c hc b h2
  rw [ht]; exact List.mem_append_right _ h1
theorem way_eq (T : Tree l) {n a b : Int} (hn : thereN l n = true) (ha : a ∈ wayN l n) (hb : b ∈ wayN l n) (he : (wayN l a).length = (wayN l b).length) : a = b := by
  obtain ⟨t, ht⟩ := way_cut T n hn a ha
  obtain ⟨s, hs⟩ := way_cut T n hn b hb
  rw [ht] at hs
  have h := (List.append_inj' hs he).2
  obtain ⟨r, hr⟩ := way_head T (way_there T n hn a ha)
  obtain ⟨q, hq⟩ := way_head T (way_there T n hn b hb)
  rw [hr, hq] at h
  exact (List.cons.inj h).1
theorem ord_way (T : Tree l) : ∀ (m : Nat) (n : Int), thereN l n = true → ∀ b ∈ ordN l m n, thereN l b = true ∧ n ∈ wayN l b
  | 0, n, _, b, hb => by simp [ordN] at hb
  | m + 1, n, hn, b, hb => by
    unfold ordN at hb
    rcases List.mem_cons.1 hb with rfl | h
    · exact ⟨hn, way_self T hn⟩
    · obtain ⟨k, hk, hbk⟩ := List.mem_flatMap.1 h
      have hkk := T.kid n hn k hk
      obtain ⟨h1, h2⟩ := ord_way T m k hkk.1 b hbk
      refine ⟨h1, way_trans T h1 ?_ h2⟩
      rw [way_kid T hn hk]
      exact List.mem_cons_of_mem _ (way_self T hn)
theorem ord_fuel (T : Tree l) {n : Int} (hn : thereN l n = true) : l.length + 1 ≤ l.length + (wayN l n).length := by
  obtain ⟨r, hr⟩ := way_head T hn
  rw [hr]; simp
theorem ord_nodup (T : Tree l) : ∀ (m : Nat) (n : Int), thereN l n = true → (ordN l m n).Nodup
  | 0, _, _ => List.nodup_nil
  | m + 1, n, hn => by
    unfold ordN
    refine List.nodup_cons.2 ⟨fun h => ?_, ?_⟩
    · obtain ⟨k, hk, hnk⟩ := List.mem_flatMap.1 h
      have hkk := T.kid n hn k hk
      have h1 := (ord_way T m k hkk.1 n hnk).2
      obtain ⟨t, ht⟩ := way_cut T n hn k h1
      have h2 := congrArg List.length ht
      rw [way_kid T hn hk] at h2
      simp at h2
      omega
    · refine List.pairwise_flatMap.2 ⟨fun k hk => ord_nodup T m k (T.kid n hn k hk).1, ?_⟩
      refine List.Pairwise.imp_of_mem (fun {a b} ha hb hab x hx y hy e => ?_) (T.dup n hn)
      subst e
      have h1 := ord_way T m a (T.kid n hn a ha).1 x hx
      have h2 := ord_way T m b (T.kid n hn b hb).1 x hy
      refine hab (way_eq T h1.1 h1.2 h2.2 ?_)
      rw [way_kid T hn ha, way_kid T hn hb]; rfl
theorem nodup_len : ∀ (s t : List Int), t.Nodup → (∀ x ∈ t, x ∈ s) → t.length ≤ s.length
  | [], t, _, h => by
    cases t with
    | nil => exact Nat.le_refl _
    | cons a r => exact absurd (h a List.mem_cons_self) (by simp)
  | a :: s, t, hd, h => by
    have h1 := nodup_len s (t.erase a) (hd.erase a) (fun x hx => by
      have h2 := (hd.mem_erase_iff).1 hx
      rcases List.mem_cons.1 (h x h2.2) with e | e
      · exact absurd e h2.1
      · exact e)
    have h3 : t.length ≤ (t.erase a).length + 1 := by rw [List.length_erase]; split <;> omega
    simp; omega
theorem ints_len {t : List Int} {n : Nat} (hd : t.Nodup) (h : ∀ x ∈ t, 0 ≤ x ∧ x < (n : Int)) : t.length ≤ n := by
  have := nodup_len ((List.range n).map (fun k : Nat => (k : Int))) t hd (fun x hx => by
    have := h x hx
    exact List.mem_map.2 ⟨x.toNat, List.mem_range.2 (by omega), by omega⟩)
  simpa using this
theorem ord_len (T : Tree l) (m : Nat) {n : Int} (hn : thereN l n = true) : (ordN l m n).length ≤ l.length :=
  ints_len (ord_nodup T m n hn) fun x hx => there_pos (ord_way T m n hn x hx).1
def kidP (l : List NodeM) (n : Int) (x : NodeM) (c : Int) : Bool :=
  thereN l c && (decide ((nd l c).parent = n) && (decide ((nd l c).doc = x.doc) && (decide ((nd l c).kind = 1) || (decide ((nd l c).kind = 2) && decide (x.kind ≠ 0)))))
theorem kidsOK_iff {n : Int} {x : NodeM} : ∀ {cs pre : List Int}, kidsOK l n x pre cs = true ↔ (∀ c ∈ cs, kidP l n x c = true) ∧ cs.Nodup ∧ (∀ c ∈ cs, c ∉ pre)
  | [], pre => by simp [kidsOK]
  | a :: r, pre => by
    have hk : kidOK l n x pre a = true ↔ kidP l n x a = true ∧ a ∉ pre := by
      unfold kidOK kidP hasI
      simp only [Bool.and_eq_true, Bool.or_eq_true, decide_eq_true_eq, Bool.not_eq_true', decide_eq_false_iff_not]
      constructor
      · rintro ⟨⟨⟨⟨h1, h2⟩, h3⟩, h4⟩, h5⟩; exact ⟨⟨h1, h3, h4, h5⟩, h2⟩
      · rintro ⟨⟨h1, h3, h4, h5⟩, h2⟩; exact ⟨⟨⟨⟨h1, h2⟩, h3⟩, h4⟩, h5⟩
    unfold kidsOK
    rw [Bool.and_eq_true, hk, kidsOK_iff, List.nodup_cons]
    constructor
    · rintro ⟨⟨h1, h2⟩, h3, h4, h5⟩
      refine ⟨fun c hc => ?_, ⟨fun h => ?_, h4⟩, fun c hc => ?_⟩
      · rcases List.mem_cons.1 hc with rfl | h
        · exact h1
        · exact h3 c h
      · exact h5 a h (by simp)
      · rcases List.mem_cons.1 hc with rfl | h
        · exact h2
        · exact fun h6 => h5 c h (List.mem_append_left _ h6)
    · rintro ⟨h1, ⟨h2, h3⟩, h4⟩
      refine ⟨⟨h1 a List.mem_cons_self, h4 a List.mem_cons_self⟩, fun c hc => h1 c (List.mem_cons_of_mem _ hc), h3, fun c hc h => ?_⟩
      rcases List.mem_append.1 h with h | h
      · exact h4 c (List.mem_cons_of_mem _ hc) h
      · rw [List.mem_singleton] at h; subst h; exact h2 hc
theorem right_nodes {f : ForM} (h : rightF f = true) : ∀ n, thereN f.nodes n = true → nodeOK f.nodes n (nd f.nodes n) = true := by
  intro n hn
  obtain ⟨k, x, rfl, hk, hx⟩ := there_iff.1 hn
  unfold rightF at h
  simp only [Bool.and_eq_true] at h
  have := allIx_iff.1 h.2.1 k x hk
  rw [hx]; simpa using this
theorem right_ends {f : ForM} (h : rightF f = true) : ∀ n, thereN f.nodes n = true → endsN f.nodes f.nodes.length n = true := by
  intro n hn
  obtain ⟨k, x, rfl, hk, hx⟩ := there_iff.1 hn
  unfold rightF at h
  simp only [Bool.and_eq_true] at h
  simpa using allIx_iff.1 h.2.2 k x hk
theorem tree_of {f : ForM} (h : rightF f = true) : Tree f.nodes := by
  have hN := right_nodes h
  have hB : ∀ n, thereN f.nodes n = true → (∀ c ∈ (nd f.nodes n).kids, kidP f.nodes n (nd f.nodes n) c = true) ∧ (nd f.nodes n).kids.Nodup := by
    intro n hn
    have h1 := hN n hn
    unfold nodeOK bearsN at h1
    simp only [Bool.and_eq_true] at h1
    have := kidsOK_iff.1 h1.2.2.2.1.1
    exact ⟨this.1, this.2.1⟩
  refine ⟨fun n hn hp => ?_, fun n hn k hk => ?_, fun n hn => (hB n hn).2, fun n hn => fin_of_ends (right_ends h n hn), fun n hn => ?_⟩
  · have h1 := hN n hn
    unfold nodeOK hungN at h1
    simp only [Bool.and_eq_true, Bool.or_eq_true, decide_eq_true_eq] at h1
    rcases h1.2.2.1 with h2 | h2
    · exact absurd h2 hp
    · refine ⟨h2.1.1.2, ?_⟩
      have := h2.2
      unfold hasI at this; simpa using this
  · have h1 := (hB n hn).1 k hk
    unfold kidP at h1
    simp only [Bool.and_eq_true, decide_eq_true_eq] at h1
    exact ⟨h1.1, h1.2.1⟩
  · have h1 := hN n hn
    unfold nodeOK at h1
    simp only [Bool.and_eq_true] at h1
    exact h1.1
end Go.Proofs.Heir
end
section
set_option linter.unusedSimpArgs false
set_option linter.unusedVariables false
namespace Go.Proofs.Heir
open Go Go.Am Go.RowKit Go.Lib
set_option maxRecDepth 100000
set_option maxHeartbeats 8000000
variable {l : List NodeM}
end Go.Proofs.Heir
end
section
set_option linter.unusedSimpArgs false
set_option linter.unusedVariables false
namespace Go.Proofs.Heir
open Go Go.Am Go.RowKit Go.Lib
set_option maxRecDepth 100000
set_option maxHeartbeats 8000000
def finG (g : Int → Int) : Nat → Int → Bool
  | 0, _ => false
  | m + 1, n => if g n = -1 then true else finG g m (g n)
def chG (g : Int → Int) : Nat → Int → List Int
  | 0, _ => []
  | m + 1, n => n :: if g n = -1 then [] else chG g m (g n)
theorem moreG {g : Int → Int} : ∀ {m k : Nat} {n : Int}, finG g m n = true → m ≤ k → chG g k n = chG g m n ∧ finG g k n = true
  | 0, k, n, h, _ => by simp [finG] at h
  | m + 1, k, n, h, hk => by
    obtain ⟨k, rfl⟩ : ∃ j, k = j + 1 := ⟨k - 1, by omega⟩
    unfold finG at h ⊢
    unfold chG
    by_cases hp : g n = -1
    · rw [if_pos hp, if_pos hp, if_pos hp]; exact ⟨rfl, rfl⟩
    · rw [if_neg hp] at h
      rw [if_neg hp, if_neg hp, if_neg hp, (moreG h (Nat.le_of_succ_le_succ hk)).1]
      exact ⟨rfl, (moreG h (Nat.le_of_succ_le_succ hk)).2⟩
theorem cutG {g : Int → Int} : ∀ {m : Nat} {n a : Int}, finG g m n = true → a ∈ chG g m n → finG g m a = true ∧ ∃ t, chG g m n = t ++ chG g m a
  | 0, n, a, h, _ => by simp [finG] at h
  | m + 1, n, a, h, ha => by
    by_cases e : a = n
    · subst e; exact ⟨h, [], rfl⟩
    · unfold finG at h
      unfold chG at ha
      by_cases hp : g n = -1
      · rw [if_pos hp] at ha; exact absurd (List.mem_singleton.1 ha) e
      · rw [if_neg hp] at h ha
        rcases List.mem_cons.1 ha with h1 | h1
        · exact absurd h1 e
        · obtain ⟨h2, t, ht⟩ := cutG h h1
          have h3 := moreG h2 (Nat.le_succ m)
          refine ⟨h3.2, n :: t, ?_⟩
          rw [show m.succ = m + 1 from rfl] at h3
          rw [h3.1, chG, if_neg hp, ht]; rfl
theorem dupG {g : Int → Int} : ∀ {m : Nat} {n : Int}, finG g m n = true → (chG g m n).Nodup
  | 0, n, h => by simp [finG] at h
  | m + 1, n, h => by
    have h0 := h
    unfold finG at h
    unfold chG
    by_cases hp : g n = -1
    · rw [if_pos hp]; simp
    · rw [if_neg hp] at h ⊢
      refine List.nodup_cons.2 ⟨fun hin => ?_, dupG h⟩
      obtain ⟨h2, t, ht⟩ := cutG h hin
      have h3 := (moreG h2 (Nat.le_succ m)).1
      rw [show m.succ = m + 1 from rfl, chG, if_neg hp, ht] at h3
      have := congrArg List.length h3
      simp at this
      omega
theorem lenG {g : Int → Int} : ∀ {m k : Nat} {n : Int}, finG g m n = true → (chG g m n).length ≤ k → finG g k n = true
  | 0, k, n, h, _ => by simp [finG] at h
  | m + 1, 0, n, _, hk => by unfold chG at hk; simp at hk
  | m + 1, k + 1, n, h, hk => by
    unfold finG at h ⊢
    unfold chG at hk
    by_cases hp : g n = -1
    · rw [if_pos hp]
    · rw [if_neg hp] at h hk ⊢
      exact lenG h (by simp at hk; omega)
theorem inG {g : Int → Int} {P : Int → Prop} (hg : ∀ n, P n → g n ≠ -1 → P (g n)) : ∀ {m : Nat} {n : Int}, P n → ∀ a ∈ chG g m n, P a
  | 0, n, _, a, ha => by simp [chG] at ha
  | m + 1, n, hn, a, ha => by
    unfold chG at ha
    rcases List.mem_cons.1 ha with rfl | h
    · exact hn
    · by_cases hp : g n = -1
      · rw [if_pos hp] at h; simp at h
      · rw [if_neg hp] at h
        exact inG hg (hg n hn hp) a h
theorem ends_G (l : List NodeM) : ∀ (m : Nat) (n : Int), endsN l m n = finG (fun n => upN (nd l n)) m n
  | 0, _ => rfl
  | m + 1, n => by unfold endsN finG; rw [ends_G l m]
theorem ends_eq {l : List NodeM} (hup : ∀ n, thereN l n = true → upN (nd l n) = -1 ∨ thereN l (upN (nd l n)) = true) {n : Int} (hn : thereN l n = true) : endsN l (l.length + 1) n = endsN l l.length n := by
  rw [ends_G, ends_G, Bool.eq_iff_iff]
  constructor
  · intro h
    refine lenG h (ints_len (dupG h) fun a ha => ?_)
    have := inG (P := fun n => thereN l n = true) (fun n hn hne => (hup n hn).resolve_left hne) hn a ha
    exact there_pos this
  · intro h; exact (moreG h (Nat.le_succ _)).2
def rDoc (l : List NodeM) (n : Int) (x : NodeM) : Bool := (decide (0 ≤ x.kind) && decide (x.kind ≤ 4)) && (isN l x.doc 0 && (decide (x.kind ≠ 0) || decide (x.doc = n)))
def rPar (l : List NodeM) (n : Int) (x : NodeM) : Bool := decide (x.parent = -1) || ((decide (x.kind = 1) || decide (x.kind = 2)) && (thereN l x.parent && (decide ((nd l x.parent).kind ≠ 2) && decide ((nd l x.parent).kids.count n = 1))))
def rKid (l : List NodeM) (n : Int) (x : NodeM) (c : Int) : Bool := thereN l c && (decide (x.kids.count c = 1) && ((decide ((nd l c).kind = 1) || decide ((nd l c).kind = 2)) && (decide ((nd l c).parent = n) && decide ((nd l c).doc = x.doc))))
def rElems (l : List NodeM) (x : NodeM) : Bool := (decide (x.kind ≠ 2) || decide (x.kids = [])) && (decide (x.kind ≠ 0) || (decide (elemsN l x.kids ≤ 1) && decide (x.kids.length ≤ elemsN l x.kids)))
def rName (x : NodeM) : Bool :=
  if x.kind = 1 then rightS x.name && decide (lowS x.name = x.name) && (decide (x.is = ⟨#[]⟩) || customS x.is) && decide (x.data = ⟨#[]⟩) && rightA x.attrs
  else decide (x.name = ⟨#[]⟩) && decide (x.is = ⟨#[]⟩) && decide (x.attrs = []) && (decide (x.data = ⟨#[]⟩) || (decide (x.kind = 2) && decide (x.data.size ≤ 200)))
def refNode (l : List NodeM) (n : Int) (x : NodeM) : Bool := rDoc l n x && (rPar l n x && (x.kids.all (rKid l n x) && (rElems l x && (shadedN l n x && rName x))))
def rightR (f : ForM) : Bool := headOK f && (allIx (fun k x => refNode f.nodes k x) 0 f.nodes && allIx (fun k _ => endsN f.nodes (f.nodes.length + 1) k) 0 f.nodes)
theorem count_leI {cs : List Int} (h : cs.Nodup) (c : Int) : cs.count c ≤ 1 := by
  induction cs with
  | nil => simp
  | cons a r ih =>
    rw [List.nodup_cons] at h
    rw [List.count_cons]
    by_cases e : a = c
    · subst e
      rw [List.count_eq_zero.2 h.1]; simp
    · simp [e]; exact ih h.2
theorem count_one {cs : List Int} (h : cs.Nodup) {c : Int} (hc : c ∈ cs) : cs.count c = 1 := by
  have h1 := count_leI h c
  have h2 := List.count_pos_iff.2 hc
  omega
theorem nodup_of_count {cs : List Int} (h : ∀ c, cs.count c ≤ 1) : cs.Nodup := by
  induction cs with
  | nil => exact List.nodup_nil
  | cons a r ih =>
    refine List.nodup_cons.2 ⟨fun hin => ?_, ih fun c => ?_⟩
    · have h1 := h a
      rw [List.count_cons_self] at h1
      have h2 := List.count_pos_iff.2 hin
      omega
    · refine Nat.le_trans ?_ (h c)
      rw [List.count_cons]; omega
theorem named_kind {x : NodeM} : namedN x = true ↔ (0 ≤ x.kind ∧ x.kind ≤ 4) ∧ rName x = true := by
  unfold namedN rName
  by_cases e1 : x.kind = 1
  · rw [if_pos e1, if_pos e1]
    exact ⟨fun h => ⟨by omega, h⟩, fun h => h.2⟩
  · rw [if_neg e1, if_neg e1]
    by_cases e2 : x.kind = 2
    · rw [if_pos e2]
      simp only [Bool.and_eq_true, Bool.or_eq_true, decide_eq_true_eq]
      constructor
      · rintro ⟨⟨⟨h1, h2⟩, h3⟩, h4⟩
        exact ⟨by omega, ⟨⟨h2, h3⟩, h4⟩, .inr ⟨e2, h1⟩⟩
      · rintro ⟨_, ⟨⟨h2, h3⟩, h4⟩, h5⟩
        refine ⟨⟨⟨?_, h2⟩, h3⟩, h4⟩
        rcases h5 with h | h
        · rw [h]; exact Nat.zero_le _
        · exact h.2
    · rw [if_neg e2]
      by_cases e3 : x.kind = 0 ∨ x.kind = 3 ∨ x.kind = 4
      · rw [if_pos e3]
        simp only [Bool.and_eq_true, Bool.or_eq_true, decide_eq_true_eq]
        constructor
        · rintro ⟨⟨⟨h1, h2⟩, h3⟩, h4⟩
          exact ⟨by omega, ⟨⟨h1, h2⟩, h4⟩, .inl h3⟩
        · rintro ⟨_, ⟨⟨h1, h2⟩, h4⟩, h3 | h3⟩
          · exact ⟨⟨⟨h1, h2⟩, h3⟩, h4⟩
          · exact absurd h3.1 e2
      · rw [if_neg e3]
        constructor
        · intro h; cases h
        · rintro ⟨h, _⟩; omega
variable {l : List NodeM}
theorem elems_all {cs : List Int} : cs.length ≤ elemsN l cs ↔ ∀ c ∈ cs, (nd l c).kind = 1 := by
  have h1 := List.countP_le_length (p := fun c => decide ((nd l c).kind = 1)) (l := cs)
  have h2 := List.countP_eq_length (p := fun c => decide ((nd l c).kind = 1)) (l := cs)
  unfold elemsN
  constructor
  · intro h c hc
    simpa using h2.1 (by omega) c hc
  · intro h
    have := h2.2 (fun c hc => by simpa using h c hc)
    omega
theorem hold_ne {k : Int} (h : 0 ≤ k ∧ k ≤ 4) : holdK k = true ↔ k ≠ 2 := by
  unfold holdK
  simp only [Bool.or_eq_true, decide_eq_true_eq]
  omega
theorem to_ref (h : ∀ n, thereN l n = true → nodeOK l n (nd l n) = true) : ∀ n, thereN l n = true → refNode l n (nd l n) = true := by
  intro n hn
  have h0 := h n hn
  unfold nodeOK at h0
  simp only [Bool.and_eq_true] at h0
  obtain ⟨hN, hO, hH, hB, hS⟩ := h0
  have hk := named_kind.1 hN
  unfold bearsN at hB
  simp only [Bool.and_eq_true, Bool.or_eq_true, decide_eq_true_eq] at hB
  have hkids := kidsOK_iff.1 hB.1
  unfold refNode
  simp only [Bool.and_eq_true]
  refine ⟨?_, ?_, ?_, ?_, hS, hk.2⟩
  · unfold rDoc; unfold ownedN at hO
    simp only [Bool.and_eq_true, decide_eq_true_eq]
    rw [Bool.and_eq_true] at hO
    exact ⟨hk.1, hO.1, hO.2⟩
  · unfold rPar; unfold hungN at hH
    simp only [Bool.and_eq_true, Bool.or_eq_true, decide_eq_true_eq] at hH ⊢
    rcases hH with hH | ⟨⟨⟨h1, h2⟩, h3⟩, h4⟩
    · exact .inl hH
    · right
      have hp := h _ h2
      unfold nodeOK bearsN at hp
      simp only [Bool.and_eq_true] at hp
      have hpk := (named_kind.1 hp.1).1
      have hpd := (kidsOK_iff.1 hp.2.2.2.1.1).2.1
      unfold hasI at h4
      exact ⟨h1, h2, (hold_ne hpk).1 h3, count_one hpd (by simpa using h4)⟩
  · rw [List.all_eq_true]
    intro c hc
    have h1 := hkids.1 c hc
    unfold kidP at h1; unfold rKid
    simp only [Bool.and_eq_true, Bool.or_eq_true, decide_eq_true_eq] at h1 ⊢
    obtain ⟨a1, a2, a3, a4⟩ := h1
    refine ⟨a1, count_one hkids.2.1 hc, ?_, a2, a3⟩
    rcases a4 with a4 | a4
    · exact .inl a4
    · exact .inr a4.1
  · unfold rElems
    simp only [Bool.and_eq_true, Bool.or_eq_true, decide_eq_true_eq]
    obtain ⟨_, hb1, hb2⟩ := hB
    constructor
    · by_cases e : (nd l n).kind = 2
      · right
        rcases hb1 with h | h
        · exact absurd e ((hold_ne hk.1).1 h)
        · exact h
      · exact .inl e
    · by_cases e : (nd l n).kind = 0
      · right
        refine ⟨hb2.resolve_left (fun h => h e), elems_all.2 fun c hc => ?_⟩
        have h1 := hkids.1 c hc
        unfold kidP at h1
        simp only [Bool.and_eq_true, Bool.or_eq_true, decide_eq_true_eq] at h1
        rcases h1.2.2.2 with h | h
        · exact h
        · exact absurd e h.2
      · exact .inl e
theorem of_ref (h : ∀ n, thereN l n = true → refNode l n (nd l n) = true) : ∀ n, thereN l n = true → nodeOK l n (nd l n) = true := by
  intro n hn
  have hdup : ∀ n, thereN l n = true → (nd l n).kids.Nodup := by
    intro n hn
    have h0 := h n hn
    unfold refNode at h0
    simp only [Bool.and_eq_true, List.all_eq_true] at h0
    refine nodup_of_count fun c => ?_
    by_cases hc : c ∈ (nd l n).kids
    · have h1 := h0.2.2.1 c hc
      unfold rKid at h1
      simp only [Bool.and_eq_true, decide_eq_true_eq] at h1
      omega
    · rw [List.count_eq_zero.2 hc]; omega
  have h0 := h n hn
  unfold refNode at h0
  simp only [Bool.and_eq_true, List.all_eq_true] at h0
  obtain ⟨hD, hP, hK, hE, hS, hN⟩ := h0
  unfold rDoc at hD
  simp only [Bool.and_eq_true, decide_eq_true_eq] at hD
  unfold nodeOK
  simp only [Bool.and_eq_true]
  refine ⟨named_kind.2 ⟨hD.1, hN⟩, ?_, ?_, ?_, hS⟩
  · unfold ownedN; rw [Bool.and_eq_true]; exact hD.2
  · unfold hungN; unfold rPar at hP
    simp only [Bool.and_eq_true, Bool.or_eq_true, decide_eq_true_eq] at hP ⊢
    rcases hP with hP | ⟨h1, h2, h3, h4⟩
    · exact .inl hP
    · right
      have hp := h _ h2
      unfold refNode rDoc at hp
      simp only [Bool.and_eq_true, decide_eq_true_eq] at hp
      refine ⟨⟨⟨h1, h2⟩, (hold_ne hp.1.1).2 h3⟩, ?_⟩
      unfold hasI
      exact decide_eq_true (List.count_pos_iff.1 (by omega))
  · unfold bearsN; unfold rElems at hE
    simp only [Bool.and_eq_true, Bool.or_eq_true, decide_eq_true_eq] at hE ⊢
    refine ⟨kidsOK_iff.2 ⟨fun c hc => ?_, hdup n hn, fun _ _ => by simp⟩, ?_, ?_⟩
    · have h1 := hK c hc
      unfold rKid at h1; unfold kidP
      simp only [Bool.and_eq_true, Bool.or_eq_true, decide_eq_true_eq] at h1 ⊢
      obtain ⟨a1, a2, a3, a4, a5⟩ := h1
      refine ⟨a1, a4, a5, ?_⟩
      rcases a3 with a3 | a3
      · exact .inl a3
      · right
        refine ⟨a3, fun e0 => ?_⟩
        rcases hE.2 with h | h
        · exact h e0
        · have := elems_all.1 h.2 c hc
          omega
    · by_cases e : (nd l n).kind = 2
      · exact .inr (hE.1.resolve_left fun h => h e)
      · exact .inl ((hold_ne hD.1).2 e)
    · rcases hE.2 with h | h
      · exact .inl h
      · exact .inr h.1
theorem node_up (h : ∀ n, thereN l n = true → nodeOK l n (nd l n) = true) : ∀ n, thereN l n = true → upN (nd l n) = -1 ∨ thereN l (upN (nd l n)) = true := by
  intro n hn
  have h0 := h n hn
  unfold nodeOK at h0
  simp only [Bool.and_eq_true] at h0
  obtain ⟨_, _, hH, _, hS⟩ := h0
  unfold upN
  unfold hungN at hH
  simp only [Bool.and_eq_true, Bool.or_eq_true, decide_eq_true_eq] at hH
  by_cases e : (nd l n).parent = -1
  · rw [if_pos e]
    unfold shadedN at hS
    rw [Bool.and_eq_true] at hS
    by_cases e4 : (nd l n).kind = 4
    · rw [if_pos e4] at hS
      unfold isN at hS
      simp only [Bool.and_eq_true] at hS
      exact .inr hS.1.1.1.1
    · rw [if_neg e4] at hS
      exact .inl (by simpa using hS.1)
  · rw [if_neg e]
    rcases hH with h | h
    · exact absurd h e
    · exact .inr h.1.1.2
theorem all_there (p : Int → NodeM → Bool) : allIx (fun k x => p k x) 0 l = true ↔ ∀ n, thereN l n = true → p n (nd l n) = true := by
  rw [allIx_iff]
  constructor
  · intro h n hn
    obtain ⟨k, x, rfl, hk, hx⟩ := there_iff.1 hn
    have := h k x hk
    rw [hx]; simpa using this
  · intro h k x hk
    have := h k (there_get hk)
    rw [nd_get hk] at this
    simpa using this
theorem right_eq (f : ForM) : rightR f = rightF f := by
  unfold rightR rightF
  rw [Bool.eq_iff_iff]
  simp only [Bool.and_eq_true]
  rw [all_there (fun n x => refNode f.nodes n x), all_there (fun n x => nodeOK f.nodes n x), all_there (fun n _ => endsN f.nodes (f.nodes.length + 1) n), all_there (fun n _ => endsN f.nodes f.nodes.length n)]
  constructor
  · rintro ⟨h1, h2, h3⟩
    have h4 := of_ref h2
    exact ⟨h1, h4, fun n hn => by rw [← ends_eq (node_up h4) hn]; exact h3 n hn⟩
  · rintro ⟨h1, h2, h3⟩
    exact ⟨h1, to_ref h2, fun n hn => by rw [ends_eq (node_up h2) hn]; exact h3 n hn⟩
end Go.Proofs.Heir
end
section
set_option linter.unusedSimpArgs false
set_option linter.unusedVariables false
namespace Go.Proofs.Heir
open Go Go.Am Go.RowKit Go.Lib
set_option maxRecDepth 100000
set_option maxHeartbeats 8000000
def chU (x : NodeM) : List Int := (if x.under = -1 then [] else [x.under]) ++ x.kids
namespace U
def finN (l : List NodeM) : Nat → Int → Bool
  | 0, _ => false
  | m + 1, n => if (upN (nd l n)) = -1 then true else finN l m (upN (nd l n))
def chN (l : List NodeM) : Nat → Int → List Int
  | 0, _ => []
  | m + 1, n => n :: if (upN (nd l n)) = -1 then [] else chN l m (upN (nd l n))
def ordN (l : List NodeM) : Nat → Int → List Int
  | 0, _ => []
  | m + 1, n => n :: (chU (nd l n)).flatMap (ordN l m)
def wayN (l : List NodeM) (n : Int) : List Int := chN l l.length n
theorem fin_of_ends {l : List NodeM} : ∀ {m : Nat} {n : Int}, endsN l m n = true → finN l m n = true
  | 0, n, h => by simp [endsN] at h
  | m + 1, n, h => by
    unfold finN; unfold endsN at h
    by_cases hp : upN (nd l n) = -1
    · rw [if_pos hp]
    · rw [if_neg hp] at h ⊢; exact fin_of_ends h
theorem ch_len (l : List NodeM) : ∀ (m : Nat) (n : Int), (chN l m n).length ≤ m
  | 0, _ => Nat.le_refl _
  | m + 1, n => by
    unfold chN
    split
    · simp
    · have := ch_len l m (upN (nd l n))
      simp; omega
theorem ch_more {l : List NodeM} : ∀ {m k : Nat} {n : Int}, finN l m n = true → m ≤ k → chN l k n = chN l m n
  | 0, k, n, h, _ => by simp [finN] at h
  | m + 1, k, n, h, hk => by
    obtain ⟨k, rfl⟩ : ∃ j, k = j + 1 := ⟨k - 1, by omega⟩
    unfold finN at h
    unfold chN
    by_cases hp : (upN (nd l n)) = -1
    · rw [if_pos hp, if_pos hp]
    · rw [if_neg hp] at h
      rw [if_neg hp, if_neg hp, ch_more h (by omega)]
structure Tree (l : List NodeM) : Prop where
  par : ∀ n, thereN l n = true → (upN (nd l n)) ≠ -1 → thereN l (upN (nd l n)) = true ∧ n ∈ (chU (nd l (upN (nd l n))))
  kid : ∀ n, thereN l n = true → ∀ k ∈ (chU (nd l n)), thereN l k = true ∧ (upN (nd l k)) = n
  dup : ∀ n, thereN l n = true → (chU (nd l n)).Nodup
  fin : ∀ n, thereN l n = true → finN l l.length n = true
variable {l : List NodeM}
theorem up_ind (T : Tree l) {P : Int → Prop} (h0 : ∀ n, thereN l n = true → (upN (nd l n)) = -1 → P n) (h1 : ∀ n, thereN l n = true → (upN (nd l n)) ≠ -1 → thereN l (upN (nd l n)) = true → P (upN (nd l n)) → P n) : ∀ n, thereN l n = true → P n := by
  have H : ∀ (m : Nat) (n : Int), thereN l n = true → finN l m n = true → P n := by
    intro m
    induction m with
    | zero => intro n _ h; simp [finN] at h
    | succ m ih =>
      intro n hn h
      unfold finN at h
      by_cases hp : (upN (nd l n)) = -1
      · exact h0 n hn hp
      · rw [if_neg hp] at h
        have hq := (T.par n hn hp).1
        exact h1 n hn hp hq (ih _ hq h)
  exact fun n hn => H _ n hn (T.fin n hn)
theorem way_top (T : Tree l) {n : Int} (hn : thereN l n = true) (hp : (upN (nd l n)) = -1) : wayN l n = [n] := by
  have := there_pos hn
  obtain ⟨m, hm⟩ : ∃ m, l.length = m + 1 := ⟨l.length - 1, by omega⟩
  unfold wayN; rw [hm]; unfold chN; rw [if_pos hp]
theorem way_step (T : Tree l) {n : Int} (hn : thereN l n = true) (hp : (upN (nd l n)) ≠ -1) : wayN l n = n :: wayN l (upN (nd l n)) := by
  have := there_pos hn
  obtain ⟨m, hm⟩ : ∃ m, l.length = m + 1 := ⟨l.length - 1, by omega⟩
  have hf := T.fin n hn
  unfold wayN; rw [hm] at hf ⊢
  unfold finN at hf
  rw [if_neg hp] at hf
  rw [chN, if_neg hp, ch_more hf (Nat.le_succ m)]
theorem way_kid (T : Tree l) {n k : Int} (hn : thereN l n = true) (hk : k ∈ (chU (nd l n))) : wayN l k = k :: wayN l n := by
  have h := T.kid n hn k hk
  have h0 := there_pos hn
  have hp : (upN (nd l k)) ≠ -1 := by rw [h.2]; omega
  rw [way_step T h.1 hp, h.2]
theorem way_head (T : Tree l) {n : Int} (hn : thereN l n = true) : ∃ r, wayN l n = n :: r := by
  by_cases hp : (upN (nd l n)) = -1
  · exact ⟨[], way_top T hn hp⟩
  · exact ⟨_, way_step T hn hp⟩
theorem way_self (T : Tree l) {n : Int} (hn : thereN l n = true) : n ∈ wayN l n := by
  obtain ⟨r, hr⟩ := way_head T hn; rw [hr]; exact List.mem_cons_self
theorem way_len (n : Int) : (wayN l n).length ≤ l.length := ch_len l _ n
theorem way_there (T : Tree l) : ∀ n, thereN l n = true → ∀ a ∈ wayN l n, thereN l a = true := by
  refine up_ind T (fun n hn hp a ha => ?_) (fun n hn hp hq ih a ha => ?_)
  · rw [way_top T hn hp] at ha; rw [List.mem_singleton.1 ha]; exact hn
  · rw [way_step T hn hp] at ha
    rcases List.mem_cons.1 ha with rfl | h
    · exact hn
    · exact ih a h
theorem way_cut (T : Tree l) : ∀ n, thereN l n = true → ∀ a ∈ wayN l n, ∃ t, wayN l n = t ++ wayN l a := by
  refine up_ind T (fun n hn hp a ha => ?_) (fun n hn hp hq ih a ha => ?_)
  · have h := ha; rw [way_top T hn hp] at h; rw [List.mem_singleton.1 h]; exact ⟨[], rfl⟩
  · have h := ha
    rw [way_step T hn hp] at h
    rcases List.mem_cons.1 h with rfl | h
    · exact ⟨[], rfl⟩
    · obtain ⟨t, ht⟩ := ih a h
      exact ⟨n :: t, by rw [way_step T hn hp, ht]; rfl⟩
theorem way_trans (T : Tree l) {a b c : Int} (hc : thereN l c = true) (h1 : a ∈ wayN l b) (h2 : b ∈ wayN l c) : a ∈ wayN l c := by
  obtain ⟨t, ht⟩ := way_cut T c hc b h2
  rw [ht]; exact List.mem_append_right _ h1
theorem way_eq (T : Tree l) {n a b : Int} (hn : thereN l n = true) (ha : a ∈ wayN l n) (hb : b ∈ wayN l n) (he : (wayN l a).length = (wayN l b).length) : a = b := by
  obtain ⟨t, ht⟩ := way_cut T n hn a ha
  obtain ⟨s, hs⟩ := way_cut T n hn b hb
  rw [ht] at hs
  have h := (List.append_inj' hs he).2
  obtain ⟨r, hr⟩ := way_head T (way_there T n hn a ha)
  obtain ⟨q, hq⟩ := way_head T (way_there T n hn b hb)
  rw [hr, hq] at h
  exact (List.cons.inj h).1
theorem ord_way (T : Tree l) : ∀ (m : Nat) (n : Int), thereN l n = true → ∀ b ∈ ordN l m n, thereN l b = true ∧ n ∈ wayN l b
  | 0, n, _, b, hb => by simp [ordN] at hb
  | m + 1, n, hn, b, hb => by
    unfold ordN at hb
    rcases List.mem_cons.1 hb with rfl | h
    · exact ⟨hn, way_self T hn⟩
    · obtain ⟨k, hk, hbk⟩ := List.mem_flatMap.1 h
      have hkk := T.kid n hn k hk
      obtain ⟨h1, h2⟩ := ord_way T m k hkk.1 b hbk
      refine ⟨h1, way_trans T h1 ?_ h2⟩
      rw [way_kid T hn hk]
      exact List.mem_cons_of_mem _ (way_self T hn)
theorem ord_fuel (T : Tree l) {n : Int} (hn : thereN l n = true) : l.length + 1 ≤ l.length + (wayN l n).length := by
  obtain ⟨r, hr⟩ := way_head T hn
  rw [hr]; simp
theorem ord_nodup (T : Tree l) : ∀ (m : Nat) (n : Int), thereN l n = true → (ordN l m n).Nodup
  | 0, _, _ => List.nodup_nil
  | m + 1, n, hn => by
    unfold ordN
    refine List.nodup_cons.2 ⟨fun h => ?_, ?_⟩
    · obtain ⟨k, hk, hnk⟩ := List.mem_flatMap.1 h
      have hkk := T.kid n hn k hk
      have h1 := (ord_way T m k hkk.1 n hnk).2
      obtain ⟨t, ht⟩ := way_cut T n hn k h1
      have h2 := congrArg List.length ht
      rw [way_kid T hn hk] at h2
      simp at h2
      omega
    · refine List.pairwise_flatMap.2 ⟨fun k hk => ord_nodup T m k (T.kid n hn k hk).1, ?_⟩
      refine List.Pairwise.imp_of_mem (fun {a b} ha hb hab x hx y hy e => ?_) (T.dup n hn)
      subst e
      have h1 := ord_way T m a (T.kid n hn a ha).1 x hx
      have h2 := ord_way T m b (T.kid n hn b hb).1 x hy
      refine hab (way_eq T h1.1 h1.2 h2.2 ?_)
      rw [way_kid T hn ha, way_kid T hn hb]; rfl
theorem ord_len (T : Tree l) (m : Nat) {n : Int} (hn : thereN l n = true) : (ordN l m n).length ≤ l.length :=
  ints_len (ord_nodup T m n hn) fun x hx => there_pos (ord_way T m n hn x hx).1
theorem tree_of {f : ForM} (h : rightF f = true) : Tree f.nodes := by
  have hN := right_nodes h
  have T := Heir.tree_of h
  have kidK : ∀ n, thereN f.nodes n = true → ∀ c ∈ (nd f.nodes n).kids, (nd f.nodes c).kind = 1 ∨ (nd f.nodes c).kind = 2 := by
    intro n hn c hc
    have h1 := hN n hn
    unfold nodeOK bearsN at h1
    simp only [Bool.and_eq_true] at h1
    have h2 := (kidsOK_iff.1 h1.2.2.2.1.1).1 c hc
    unfold kidP at h2
    simp only [Bool.and_eq_true, Bool.or_eq_true, decide_eq_true_eq] at h2
    rcases h2.2.2.2 with h3 | h3
    · exact .inl h3
    · exact .inr h3.1
  have und : ∀ n, thereN f.nodes n = true → (nd f.nodes n).under ≠ -1 → thereN f.nodes (nd f.nodes n).under = true ∧ (nd f.nodes (nd f.nodes n).under).kind = 4 ∧ (nd f.nodes (nd f.nodes n).under).host = n := by
    intro n hn hu
    have h1 := hN n hn
    unfold nodeOK shadedN isN at h1
    simp only [Bool.and_eq_true, Bool.or_eq_true, decide_eq_true_eq] at h1
    rcases h1.2.2.2.2.2 with h2 | h2
    · exact absurd h2 hu
    · exact ⟨h2.1.2.1, h2.1.2.2, h2.2⟩
  have top4 : ∀ n, thereN f.nodes n = true → (nd f.nodes n).kind = 4 → (nd f.nodes n).parent = -1 := by
    intro n hn hk
    have h1 := hN n hn
    unfold nodeOK hungN at h1
    simp only [Bool.and_eq_true, Bool.or_eq_true, decide_eq_true_eq] at h1
    rcases h1.2.2.1 with h2 | h2
    · exact h2
    · rcases h2.1.1.1 with h3 | h3 <;> (rw [hk] at h3; cases h3)
  have mem : ∀ (x : NodeM) (k : Int), k ∈ chU x ↔ (x.under ≠ -1 ∧ k = x.under) ∨ k ∈ x.kids := by
    intro x k
    unfold chU
    rw [List.mem_append]
    by_cases hu : x.under = -1
    · simp [hu]
    · simp [hu]
  refine ⟨fun n hn hp => ?_, fun n hn k hk => ?_, fun n hn => ?_, fun n hn => fin_of_ends (right_ends h n hn)⟩
  · unfold upN at hp ⊢
    by_cases hq : (nd f.nodes n).parent = -1
    · rw [if_pos hq] at hp ⊢
      have h1 := hN n hn
      unfold nodeOK shadedN at h1
      simp only [Bool.and_eq_true] at h1
      have h2 := h1.2.2.2.2.1
      by_cases hk : (nd f.nodes n).kind = 4
      · rw [if_pos hk] at h2
        unfold isN at h2
        simp only [Bool.and_eq_true, decide_eq_true_eq] at h2
        refine ⟨h2.1.1.1, (mem _ _).2 (.inl ⟨?_, h2.1.2.symm⟩)⟩
        rw [h2.1.2]
        have := there_pos hn
        omega
      · rw [if_neg hk] at h2
        exact absurd (by simpa using h2) hp
    · rw [if_neg hq]
      have h1 := T.par n hn hq
      exact ⟨h1.1, (mem _ _).2 (.inr h1.2)⟩
  · have hn0 := there_pos hn
    rcases (mem _ _).1 hk with ⟨h1, rfl⟩ | h1
    · obtain ⟨h2, h3, h4⟩ := und n hn h1
      exact ⟨h2, by unfold upN; rw [if_pos (top4 _ h2 h3)]; exact h4⟩
    · obtain ⟨h2, h3⟩ := T.kid n hn k h1
      exact ⟨h2, by unfold upN; rw [if_neg (by rw [h3]; omega)]; exact h3⟩
  · unfold chU
    by_cases hu : (nd f.nodes n).under = -1
    · rw [if_pos hu]; exact T.dup n hn
    · rw [if_neg hu]
      refine List.nodup_cons.2 ⟨fun hm => ?_, T.dup n hn⟩
      have h1 := (und n hn hu).2.1
      rcases kidK n hn _ hm with h2 | h2 <;> (rw [h1] at h2; cases h2)
end U
end Go.Proofs.Heir
end
section
set_option linter.unusedSimpArgs false
set_option linter.unusedVariables false
namespace Go.Proofs.Heir
open Go Go.Am Go.RowKit Go.Lib
set_option maxRecDepth 100000
set_option maxHeartbeats 8000000
theorem AppK.take {rb rs : List AV} {off len off' len' bytes : Nat} {acc : Tk} {sl : SL} {m : ML} {A : List AV → Tk → SL → ML → Prop} (rows0 news : List AV) (h0 : off = 0 ∧ len ≤ rb.length ∧ rows0 = rb.take len) (h1 : off' = 0 ∧ len' = rs.length ∧ news = rs) (h2 : oneL (flat news) = true)
    (h3 : (rows0.length + news.length) * bytes ≤ 140737488355328) (h4 : rows0.length + news.length ≤ 9223372036854775807) (h : A (rows0 ++ news) acc sl m) : AppK rb off len rs off' len' bytes acc sl m (A := A) := by
  obtain ⟨rfl, hl, rfl⟩ := h0
  obtain ⟨rfl, rfl, rfl⟩ := h1
  exact ⟨_, _, by omega, by simp, by omega, by simp, h2, h3, h4, h⟩
theorem flatMap_congrI {α β : Type} {f g : α → List β} : ∀ {l : List α}, (∀ a ∈ l, f a = g a) → l.flatMap f = l.flatMap g
  | [], _ => rfl
  | a :: r, h => by rw [List.flatMap_cons, List.flatMap_cons, h a List.mem_cons_self, flatMap_congrI fun b hb => h b (List.mem_cons_of_mem _ hb)]
namespace U
variable {l : List NodeM}
theorem ord_more (T : Tree l) : ∀ (m : Nat) (n : Int), thereN l n = true → l.length + 1 ≤ m + (wayN l n).length → ordN l (m + 1) n = ordN l m n
  | 0, n, _, h => by have := way_len (l := l) n; omega
  | m + 1, n, hn, h => by
    rw [ordN, ordN]
    congr 1
    refine flatMap_congrI fun k hk => ?_
    refine ord_more T m k (T.kid n hn k hk).1 ?_
    rw [way_kid T hn hk]; simp; omega
theorem ord_eq (T : Tree l) {n : Int} (hn : thereN l n = true) : ordN l l.length n = n :: (chU (nd l n)).flatMap (ordN l l.length) := by
  have h0 := there_pos hn
  obtain ⟨m, hm⟩ : ∃ m, l.length = m + 1 := ⟨l.length - 1, by omega⟩
  have h1 : ∀ k ∈ chU (nd l n), ordN l l.length k = ordN l m k := fun k hk => by
    rw [hm]
    refine ord_more T m k (T.kid n hn k hk).1 ?_
    obtain ⟨r, hr⟩ := way_head T hn
    rw [way_kid T hn hk, hr]; simp; omega
  conv => lhs; rw [hm, ordN]
  congr 1
  exact flatMap_congrI fun k hk => (h1 k hk).symm
def rest (l : List NodeM) (st : List Int) : List Int := st.reverse.flatMap (ordN l l.length)
theorem rest_pop (T : Tree l) {st : List Int} {t : Int} (ht : thereN l t = true) : rest l (st ++ [t]) = t :: rest l (st ++ (chU (nd l t)).reverse) := by
  unfold rest
  rw [List.reverse_append, List.reverse_append, List.reverse_reverse]
  simp only [List.reverse_cons, List.reverse_nil, List.nil_append, List.cons_append, List.flatMap_cons, List.flatMap_append]
  rw [ord_eq T ht]; rfl
theorem rest_len (T : Tree l) : ∀ {st : List Int}, (∀ c ∈ st, thereN l c = true) → st.length ≤ (rest l st).length := by
  intro st h
  unfold rest
  have : ∀ s : List Int, (∀ c ∈ s, thereN l c = true) → s.length ≤ (s.flatMap (ordN l l.length)).length := by
    intro s
    induction s with
    | nil => intro _; exact Nat.le_refl _
    | cons a r ih =>
      intro h
      have h1 := ih fun c hc => h c (List.mem_cons_of_mem _ hc)
      rw [List.flatMap_cons, List.length_append, ord_eq T (h a List.mem_cons_self), List.length_cons, List.length_cons]
      omega
  have := this st.reverse fun c hc => h c (by simpa using hc)
  simpa using this
end U
end Go.Proofs.Heir
end
section
set_option linter.unusedSimpArgs false
set_option linter.unusedVariables false
namespace Go.Proofs.Heir
open Go Go.Am Go.RowKit Go.Lib
set_option maxRecDepth 100000
set_option maxHeartbeats 8000000
theorem f43s_ok (s : ByteArray) : FnOK Tryz.prog 43 [] [eStr s] [] (eBool (customS s)) := by
  cases hr : rightS s with
  | true =>
    have hs : s.size ≤ 100000 := by
      have h0 := hr; unfold rightS rightL at h0; simp only [Bool.and_eq_true, decide_eq_true_eq] at h0
      have hsz : s.size = s.data.toList.length := size_len s
      omega
    exact f43_ok s hs
  | false =>
    have e : customS s = false := by unfold customS; rw [hr]; rfl
    rw [e]
    refine FnOK.startC (rvs := [.tmp 2]) G G_good Tryz.func43 rfl Tryz.ntmps43 rfl rfl ?_; with_reducible refine wD ?_
    refine CallK.lit [] (f72_ok s) c72 ⟨rfl, trivial⟩ rfl rfl ?_; with_reducible refine wK ?_
    rw [hr]
    repeat' (first
    | refine gK ?_
    | ((with_reducible show (_ ∧ _) ∧ _ ∧ _); (refine eK ?_ ?_ <;> with_reducible repeat' (first | exact trivial | (show _ ∧ _; refine aK ?_ ?_)))))
end Go.Proofs.Heir
end
section
set_option linter.unusedSimpArgs false
set_option linter.unusedVariables false
namespace Go.Proofs.Heir
open Go Go.Am Go.RowKit Go.Lib
set_option maxRecDepth 100000
set_option maxHeartbeats 8000000
theorem f117_ok (f : ForM) (n : Int) : FnOK Tryz.prog 117 [] [eFor f, eInt n] [] (eBool (thereN f.nodes n)) := by
  obtain ⟨l, m⟩ := f
  have hlm : (l.map oNode).length = l.length := List.length_map ..
  refine FnOK.startC (rvs := [.tmp 4]) G G_good Tryz.func117 rfl Tryz.ntmps117 rfl rfl ?_; with_reducible refine wD ?_
  by_cases h : (0 : Int) ≤ n
  · (have fct := h; (repeat' (first
    | refine gF ?_
    | ((with_reducible show (_ ∧ _) ∧ _ ∧ _); (refine eK ?_ ?_ <;> with_reducible repeat' (first | exact trivial | (show _ ∧ _; refine aK ?_ ?_)))))); all_goals clear fct)
    all_goals simp [thereN, h]
  · (have fct := (eq_false h); (repeat' (first
    | refine gF ?_
    | ((with_reducible show (_ ∧ _) ∧ _ ∧ _); (refine eK ?_ ?_ <;> with_reducible repeat' (first | exact trivial | (show _ ∧ _; refine aK ?_ ?_)))))); all_goals clear fct)
    all_goals simp [thereN, h]
theorem f118_ok (k : Int) : FnOK Tryz.prog 118 [] [eInt k] [] (eBool (holdK k)) := by
  refine FnOK.startC (rvs := [.tmp 2]) G G_good Tryz.func118 rfl Tryz.ntmps118 rfl rfl ?_; with_reducible refine wD ?_
  by_cases e0 : k = 0
  · (have fct := e0; (repeat' (first
    | refine gF ?_
    | ((with_reducible show (_ ∧ _) ∧ _ ∧ _); (refine eK ?_ ?_ <;> with_reducible repeat' (first | exact trivial | (show _ ∧ _; refine aK ?_ ?_)))))); all_goals clear fct)
    all_goals simp [holdK, e0]
  · by_cases e1 : k = 1
    · (have fct := e1; (repeat' (first
    | refine gF ?_
    | ((with_reducible show (_ ∧ _) ∧ _ ∧ _); (refine eK ?_ ?_ <;> with_reducible repeat' (first | exact trivial | (show _ ∧ _; refine aK ?_ ?_)))))); all_goals clear fct)
      all_goals simp [holdK, e1]
    · by_cases e3 : k = 3
      · (have fct := e3; (repeat' (first
    | refine gF ?_
    | ((with_reducible show (_ ∧ _) ∧ _ ∧ _); (refine eK ?_ ?_ <;> with_reducible repeat' (first | exact trivial | (show _ ∧ _; refine aK ?_ ?_)))))); all_goals clear fct)
        all_goals simp [holdK, e3]
      · by_cases e4 : k = 4
        · (have fct := e4; (repeat' (first
    | refine gF ?_
    | ((with_reducible show (_ ∧ _) ∧ _ ∧ _); (refine eK ?_ ?_ <;> with_reducible repeat' (first | exact trivial | (show _ ∧ _; refine aK ?_ ?_)))))); all_goals clear fct)
          all_goals simp [holdK, e4]
        · (have fct := And.intro e0 (And.intro e1 (And.intro e3 (e4))); (repeat' (first
    | refine gF ?_
    | ((with_reducible show (_ ∧ _) ∧ _ ∧ _); (refine eK ?_ ?_ <;> with_reducible repeat' (first | exact trivial | (show _ ∧ _; refine aK ?_ ?_)))))); all_goals clear fct)
          all_goals simp [holdK, e0, e1, e3, e4]
theorem f116_ok (f : ForM) (n k : Int) : FnOK Tryz.prog 116 [] [eFor f, eInt n, eInt k] [] (eBool (isN f.nodes n k)) := by
  have h49 := f117_ok f n
  obtain ⟨l, m⟩ := f
  refine FnOK.startC (rvs := [.tmp 6]) G G_good Tryz.func116 rfl Tryz.ntmps116 rfl rfl ?_; with_reducible refine wD ?_
  refine CallK.lit [] h49 c117 ⟨⟨rfl, rfl, trivial⟩, rfl, trivial⟩ rfl rfl ?_; with_reducible refine wK ?_
  cases ht : thereN l n with
  | false =>
    (have fct := ht; (repeat' (first
    | refine gF ?_
    | ((with_reducible show (_ ∧ _) ∧ _ ∧ _); (refine eK ?_ ?_ <;> with_reducible repeat' (first | exact trivial | (show _ ∧ _; refine aK ?_ ?_)))))); all_goals clear fct)
    all_goals simp [isN, ht]
  | true =>
    obtain ⟨i, x, rfl, hx, hnd⟩ := there_iff.1 ht
    obtain ⟨a1, a2, a3, a4, a5, a6, a7, a8, a9, a10⟩ := x
    (have fct := ht; (repeat' (first
    | refine gF ?_
    | ((refine IdxK.mk i (eNode ⟨a1, a2, a3, a4, a5, a6, a7, a8, a9, a10⟩) rfl (node_get hx) ?_) <;> with_reducible refine wK ?_)
    | ((with_reducible show (_ ∧ _) ∧ _ ∧ _); (refine eK ?_ ?_ <;> with_reducible repeat' (first | exact trivial | (show _ ∧ _; refine aK ?_ ?_)))))); all_goals clear fct)
    all_goals simp [isN, ht, hnd]
theorem f137_ok (l : List Int) (hl : l.length ≤ 100000) (n : Int) : FnOK Tryz.prog 137 [] [eInts l, eInt n] [] (eInt (idxI (fun x => decide (x = n)) l)) := by
  have hlm : (l.map oInt).length = l.length := List.length_map ..
  refine FnOK.startC (rvs := [.tmp 4]) G G_good Tryz.func137 rfl Tryz.ntmps137 rfl rfl ?_; with_reducible refine wD ?_
  refine LoopK.use G G_good (fun (k : Nat) => [(0, eInts l), (1, eInt n), (7, eInt l.length), (8, eInt k)]) (fun _ => []) (fun k => k ≤ l.length ∧ ∀ j x, j < k → l[j]? = some x → decide (x = n) = false) (fun k => l.length - k) 0 ⟨Nat.zero_le _, fun j x h => by omega⟩
    ⟨⟨rfl, rfl⟩, ⟨rfl, rfl, by show (l.length : Int) = ((l.map oInt).length : Int); rw [hlm], rfl, trivial⟩, trivial⟩ ?_
  rintro k ⟨hk, hno⟩
  with_reducible refine wK ?_
  refine IfK.mk (fun h1 => ?_) (fun h1 => ?_) <;> (try simp only [castN] at h1) <;> with_reducible refine wK ?_
  · have hk' : k < l.length := by simp only [decide_eq_true_eq] at h1; omega
    obtain ⟨a, ha⟩ : ∃ a, l[k]? = some a := ⟨_, List.getElem?_eq_getElem hk'⟩
    refine IdxK.mk k (eInt a) rfl (int_get ha) ?_; with_reducible refine wK ?_
    refine IfK.mk (fun h2 => ?_) (fun h2 => ?_) <;> (try simp only [castN] at h2) <;> with_reducible refine wK ?_
    · (refine eK ?_ ?_ <;> with_reducible repeat' (first | exact trivial | (show _ ∧ _; refine aK ?_ ?_)))
      refine idxI_hit (p := fun x => decide (x = n)) ha ?_ hno
      simp only [decide_eq_true_eq] at h2 ⊢; exact h2.symm
    · refine nK ?_; with_reducible refine wK ?_
      refine NextK.mk (k + 1) ⟨by omega, fun j x hj hx => ?_⟩ (by omega) ⟨⟨rfl, rfl⟩, ⟨rfl, rfl, rfl, by show ((k + 1 : Nat) : Int) = (k : Int) + 1; omega, trivial⟩, trivial⟩
      rcases Nat.lt_or_ge j k with h3 | h3
      · exact hno j x h3 hx
      · have : j = k := by omega
        subst this
        rw [ha] at hx; cases hx
        simp only [decide_eq_false_iff_not] at h2 ⊢; exact fun e => h2 e.symm
  · (refine eK ?_ ?_ <;> with_reducible repeat' (first | exact trivial | (show _ ∧ _; refine aK ?_ ?_)))
    exact idxI_none fun j x hx => hno j x (by have := (List.getElem?_eq_some_iff.1 hx).1; simp only [decide_eq_false_iff_not] at h1; omega) hx
theorem idxI_has {l : List Int} {n : Int} : decide (0 ≤ idxI (fun x => decide (x = n)) l) = hasI l n := by
  rw [Bool.eq_iff_iff, decide_eq_true_eq]
  unfold hasI
  rw [decide_eq_true_eq]
  unfold idxI
  cases h : l.findIdx? (fun x => decide (x = n)) with
  | none =>
    rw [List.findIdx?_eq_none_iff] at h
    simp only
    refine ⟨fun h' => by omega, fun hs => ?_⟩
    have := h n hs
    simp at this
  | some k =>
    rw [List.findIdx?_eq_some_iff_getElem] at h
    obtain ⟨hk, h2, _⟩ := h
    simp only
    exact ⟨fun _ => by rw [← of_decide_eq_true h2]; exact List.getElem_mem hk, fun _ => by omega⟩
theorem f119_ok (l : List Int) (hl : l.length ≤ 100000) (n : Int) : FnOK Tryz.prog 119 [] [eInts l, eInt n] [] (eBool (hasI l n)) := by
  rw [← idxI_has]
  refine FnOK.startC (rvs := [.tmp 4]) G G_good Tryz.func119 rfl Tryz.ntmps119 rfl rfl ?_; with_reducible refine wD ?_
  refine CallK.lit [] (f137_ok l hl n) c137 ⟨rfl, rfl, trivial⟩ rfl rfl ?_; with_reducible refine wK ?_
  (refine eK ?_ ?_ <;> with_reducible repeat' (first | exact trivial | (show _ ∧ _; refine aK ?_ ?_)))
theorem f120_ok (f : ForM) (k : Nat) (x : NodeM) (hx : f.nodes[k]? = some x) : FnOK Tryz.prog 120 [] [eFor f, eInt k] [] (eInt (upN x)) := by
  obtain ⟨l, m⟩ := f
  obtain ⟨a1, a2, a3, a4, a5, a6, a7, a8, a9, a10⟩ := x
  refine FnOK.startC (rvs := [.tmp 4]) G G_good Tryz.func120 rfl Tryz.ntmps120 rfl rfl ?_; with_reducible refine wD ?_
  refine IdxK.mk k (eNode ⟨a1, a2, a3, a4, a5, a6, a7, a8, a9, a10⟩) rfl (node_get hx) ?_; with_reducible refine wK ?_
  unfold upN
  by_cases e : a6 = -1
  · (have fct := e; (repeat' (first
    | refine gF ?_
    | ((refine IdxK.mk k (eNode ⟨a1, a2, a3, a4, a5, a6, a7, a8, a9, a10⟩) rfl (node_get hx) ?_) <;> with_reducible refine wK ?_)
    | ((with_reducible show (_ ∧ _) ∧ _ ∧ _); (refine eK ?_ ?_ <;> with_reducible repeat' (first | exact trivial | (show _ ∧ _; refine aK ?_ ?_)))))); all_goals clear fct)
    all_goals simp [e]
  · (have fct := (eq_false e); (repeat' (first
    | refine gF ?_
    | ((refine IdxK.mk k (eNode ⟨a1, a2, a3, a4, a5, a6, a7, a8, a9, a10⟩) rfl (node_get hx) ?_) <;> with_reducible refine wK ?_)
    | ((with_reducible show (_ ∧ _) ∧ _ ∧ _); (refine eK ?_ ?_ <;> with_reducible repeat' (first | exact trivial | (show _ ∧ _; refine aK ?_ ?_)))))); all_goals clear fct)
    all_goals simp [e]
end Go.Proofs.Heir
end
section
set_option linter.unusedSimpArgs false
set_option linter.unusedVariables false
namespace Go.Proofs.Heir
open Go Go.Am Go.RowKit Go.Lib
set_option maxRecDepth 100000
set_option maxHeartbeats 8000000
theorem f97_ok (f : ForM) (k : Nat) (x : NodeM) (hx : f.nodes[k]? = some x) : FnOK Tryz.prog 97 [] [eFor f, eInt k] [] (eBool (ownedN f.nodes k x)) := by
  have h55 := f116_ok f x.doc 0
  obtain ⟨l, m⟩ := f
  obtain ⟨a1, a2, a3, a4, a5, a6, a7, a8, a9, a10⟩ := x
  unfold ownedN
  simp only at h55 hx ⊢
  refine FnOK.startC (rvs := [.tmp 4]) G G_good Tryz.func97 rfl Tryz.ntmps97 rfl rfl ?_; with_reducible refine wD ?_
  refine IdxK.mk k (eNode ⟨a1, a2, a3, a4, a5, a6, a7, a8, a9, a10⟩) rfl (node_get hx) ?_; with_reducible refine wK ?_
  refine CallK.lit [] h55 c116 ⟨⟨rfl, rfl, trivial⟩, rfl, rfl, trivial⟩ rfl rfl ?_; with_reducible refine wK ?_
  cases hi : isN l a10 0 with
  | false =>
    (have fct := hi; (repeat' (first
    | refine gF ?_
    | ((with_reducible show (_ ∧ _) ∧ _ ∧ _); (refine eK ?_ ?_ <;> with_reducible repeat' (first | exact trivial | (show _ ∧ _; refine aK ?_ ?_)))))); all_goals clear fct)
    all_goals simp [hi]
  | true =>
    by_cases e : a1 = 0
    · (have fct := And.intro hi (e); (repeat' (first
    | refine gF ?_
    | ((with_reducible show (_ ∧ _) ∧ _ ∧ _); (refine eK ?_ ?_ <;> with_reducible repeat' (first | exact trivial | (show _ ∧ _; refine aK ?_ ?_)))))); all_goals clear fct)
      all_goals simp [hi, e]
    · (have fct := And.intro hi ((eq_false e)); (repeat' (first
    | refine gF ?_
    | ((with_reducible show (_ ∧ _) ∧ _ ∧ _); (refine eK ?_ ?_ <;> with_reducible repeat' (first | exact trivial | (show _ ∧ _; refine aK ?_ ?_)))))); all_goals clear fct)
      all_goals simp [hi, e]
theorem f98_ok (f : ForM) (hs : SmallN f.nodes) (k : Nat) (x : NodeM) (hx : f.nodes[k]? = some x) : FnOK Tryz.prog 98 [] [eFor f, eInt k] [] (eBool (hungN f.nodes k x)) := by
  have h49 := f117_ok f x.parent
  have h56 := f118_ok (nd f.nodes x.parent).kind
  have h57 : thereN f.nodes x.parent = true → FnOK Tryz.prog 119 [] [eInts (nd f.nodes x.parent).kids, eInt k] [] (eBool (hasI (nd f.nodes x.parent).kids k)) := fun ht => by
    obtain ⟨i, y, _, hy, hnd⟩ := there_iff.1 ht
    rw [hnd]
    exact f119_ok y.kids (by have := hs.kids y (List.mem_of_getElem? hy); omega) k
  obtain ⟨l, m⟩ := f
  obtain ⟨a1, a2, a3, a4, a5, a6, a7, a8, a9, a10⟩ := x
  unfold hungN
  simp only at h49 h56 h57 hx ⊢
  refine FnOK.startC (rvs := [.tmp 4]) G G_good Tryz.func98 rfl Tryz.ntmps98 rfl rfl ?_; with_reducible refine wD ?_
  refine IdxK.mk k (eNode ⟨a1, a2, a3, a4, a5, a6, a7, a8, a9, a10⟩) rfl (node_get hx) ?_; with_reducible refine wK ?_
  by_cases e6 : a6 = -1
  · (have fct := e6; (repeat' (first
    | refine gF ?_
    | ((with_reducible show (_ ∧ _) ∧ _ ∧ _); (refine eK ?_ ?_ <;> with_reducible repeat' (first | exact trivial | (show _ ∧ _; refine aK ?_ ?_)))))); all_goals clear fct)
    all_goals simp [e6]
  · refine IfK.no (by simp [e6]) ?_; with_reducible refine wK ?_
    have rest : ∀ b : Bool, (decide (a1 = 1) || decide (a1 = 2)) = b → (b = false ∨ b = true) := fun b _ => by cases b <;> simp
    cases ht : thereN l a6 with
    | false =>
      by_cases e1 : a1 = 1
      · (have fct := And.intro e1 (And.intro ht ((eq_false e6))); (repeat' (first
    | refine gF ?_
    | (((with_reducible show CallK _ _ 117 _ _ _ _); refine CallK.lit [] h49 c117 ⟨⟨rfl, rfl, trivial⟩, rfl, trivial⟩ rfl rfl ?_) <;> with_reducible refine wK ?_)
    | ((with_reducible show (_ ∧ _) ∧ _ ∧ _); (refine eK ?_ ?_ <;> with_reducible repeat' (first | exact trivial | (show _ ∧ _; refine aK ?_ ?_)))))); all_goals clear fct)
        all_goals simp [e1, ht, e6]
      · by_cases e2 : a1 = 2
        · (have fct := And.intro e2 (And.intro ht ((eq_false e6))); (repeat' (first
    | refine gF ?_
    | (((with_reducible show CallK _ _ 117 _ _ _ _); refine CallK.lit [] h49 c117 ⟨⟨rfl, rfl, trivial⟩, rfl, trivial⟩ rfl rfl ?_) <;> with_reducible refine wK ?_)
    | ((with_reducible show (_ ∧ _) ∧ _ ∧ _); (refine eK ?_ ?_ <;> with_reducible repeat' (first | exact trivial | (show _ ∧ _; refine aK ?_ ?_)))))); all_goals clear fct)
          all_goals simp [e2, ht, e6]
        · (have fct := And.intro (eq_false e1) (And.intro (eq_false e2) (And.intro ht ((eq_false e6)))); (repeat' (first
    | refine gF ?_
    | ((with_reducible show (_ ∧ _) ∧ _ ∧ _); (refine eK ?_ ?_ <;> with_reducible repeat' (first | exact trivial | (show _ ∧ _; refine aK ?_ ?_)))))); all_goals clear fct)
          all_goals simp [e1, e2, ht, e6]
    | true =>
      obtain ⟨i, y, rfl, hy, hnd⟩ := there_iff.1 ht
      have h57' := h57 ht
      rw [hnd] at h56 h57' ⊢
      obtain ⟨b1, b2, b3, b4, b5, b6, b7, b8, b9, b10⟩ := y
      simp only at h56 h57'
      cases hh : holdK b1 with
      | false =>
        by_cases e1 : a1 = 1
        · (have fct := And.intro e1 (And.intro ht (And.intro hh ((eq_false e6)))); (repeat' (first
    | refine gF ?_
    | ((first
      | ((with_reducible show CallK _ _ 117 _ _ _ _); refine CallK.lit [] h49 c117 ⟨⟨rfl, rfl, trivial⟩, rfl, trivial⟩ rfl rfl ?_)
      | ((with_reducible show CallK _ _ 118 _ _ _ _); refine CallK.lit [] h56 c118 ⟨rfl, trivial⟩ rfl rfl ?_)
      | (refine IdxK.mk i (eNode ⟨b1, b2, b3, b4, b5, b6, b7, b8, b9, b10⟩) rfl (node_get hy) ?_)) <;> with_reducible refine wK ?_)
    | ((with_reducible show (_ ∧ _) ∧ _ ∧ _); (refine eK ?_ ?_ <;> with_reducible repeat' (first | exact trivial | (show _ ∧ _; refine aK ?_ ?_)))))); all_goals clear fct)
          all_goals simp [e1, ht, e6, hh]
        · by_cases e2 : a1 = 2
          · (have fct := And.intro e2 (And.intro ht (And.intro hh ((eq_false e6)))); (repeat' (first
    | refine gF ?_
    | ((first
      | ((with_reducible show CallK _ _ 117 _ _ _ _); refine CallK.lit [] h49 c117 ⟨⟨rfl, rfl, trivial⟩, rfl, trivial⟩ rfl rfl ?_)
      | ((with_reducible show CallK _ _ 118 _ _ _ _); refine CallK.lit [] h56 c118 ⟨rfl, trivial⟩ rfl rfl ?_)
      | (refine IdxK.mk i (eNode ⟨b1, b2, b3, b4, b5, b6, b7, b8, b9, b10⟩) rfl (node_get hy) ?_)) <;> with_reducible refine wK ?_)
    | ((with_reducible show (_ ∧ _) ∧ _ ∧ _); (refine eK ?_ ?_ <;> with_reducible repeat' (first | exact trivial | (show _ ∧ _; refine aK ?_ ?_)))))); all_goals clear fct)
            all_goals simp [e2, ht, e6, hh]
          · (have fct := And.intro (eq_false e1) (And.intro (eq_false e2) (And.intro ht (And.intro hh ((eq_false e6))))); (repeat' (first
    | refine gF ?_
    | ((with_reducible show (_ ∧ _) ∧ _ ∧ _); (refine eK ?_ ?_ <;> with_reducible repeat' (first | exact trivial | (show _ ∧ _; refine aK ?_ ?_)))))); all_goals clear fct)
            all_goals simp [e1, e2, ht, e6]
      | true =>
        by_cases e1 : a1 = 1
        · (have fct := And.intro e1 (And.intro ht (And.intro hh ((eq_false e6)))); (repeat' (first
    | refine gF ?_
    | ((first
      | ((with_reducible show CallK _ _ 117 _ _ _ _); refine CallK.lit [] h49 c117 ⟨⟨rfl, rfl, trivial⟩, rfl, trivial⟩ rfl rfl ?_)
      | ((with_reducible show CallK _ _ 118 _ _ _ _); refine CallK.lit [] h56 c118 ⟨rfl, trivial⟩ rfl rfl ?_)
      | ((with_reducible show CallK _ _ 119 _ _ _ _); refine CallK.lit [] h57' c119 ⟨rfl, rfl, trivial⟩ rfl rfl ?_)
      | (refine IdxK.mk i (eNode ⟨b1, b2, b3, b4, b5, b6, b7, b8, b9, b10⟩) rfl (node_get hy) ?_)) <;> with_reducible refine wK ?_)
    | ((with_reducible show (_ ∧ _) ∧ _ ∧ _); (refine eK ?_ ?_ <;> with_reducible repeat' (first | exact trivial | (show _ ∧ _; refine aK ?_ ?_)))))); all_goals clear fct)
          all_goals simp [e1, ht, e6, hh]
        · by_cases e2 : a1 = 2
          · (have fct := And.intro e2 (And.intro ht (And.intro hh ((eq_false e6)))); (repeat' (first
    | refine gF ?_
    | ((first
      | ((with_reducible show CallK _ _ 117 _ _ _ _); refine CallK.lit [] h49 c117 ⟨⟨rfl, rfl, trivial⟩, rfl, trivial⟩ rfl rfl ?_)
      | ((with_reducible show CallK _ _ 118 _ _ _ _); refine CallK.lit [] h56 c118 ⟨rfl, trivial⟩ rfl rfl ?_)
      | ((with_reducible show CallK _ _ 119 _ _ _ _); refine CallK.lit [] h57' c119 ⟨rfl, rfl, trivial⟩ rfl rfl ?_)
      | (refine IdxK.mk i (eNode ⟨b1, b2, b3, b4, b5, b6, b7, b8, b9, b10⟩) rfl (node_get hy) ?_)) <;> with_reducible refine wK ?_)
    | ((with_reducible show (_ ∧ _) ∧ _ ∧ _); (refine eK ?_ ?_ <;> with_reducible repeat' (first | exact trivial | (show _ ∧ _; refine aK ?_ ?_)))))); all_goals clear fct)
            all_goals simp [e2, ht, e6, hh]
          · (have fct := And.intro (eq_false e1) (And.intro (eq_false e2) (And.intro ht (And.intro hh ((eq_false e6))))); (repeat' (first
    | refine gF ?_
    | ((with_reducible show (_ ∧ _) ∧ _ ∧ _); (refine eK ?_ ?_ <;> with_reducible repeat' (first | exact trivial | (show _ ∧ _; refine aK ?_ ?_)))))); all_goals clear fct)
            all_goals simp [e1, e2, ht, e6]
theorem endsN_succ (l : List NodeM) (m : Nat) (n : Int) : endsN l (m + 1) n = if upN (nd l n) = -1 then true else endsN l m (upN (nd l n)) := rfl
theorem f101_ok (f : ForM) (hl : f.nodes.length ≤ 100000) (hup : ∀ (k : Nat) (x : NodeM), f.nodes[k]? = some x → upN x = -1 ∨ thereN f.nodes (upN x) = true) (k : Nat) (hk : k < f.nodes.length) : FnOK Tryz.prog 101 [] [eFor f, eInt k] [] (eBool (endsN f.nodes f.nodes.length k)) := by
  have h58 := f120_ok f
  obtain ⟨l, m⟩ := f
  simp only at h58 hup hk hl ⊢
  have hlm : (l.map oNode).length = l.length := List.length_map ..
  refine FnOK.startC (rvs := [.tmp 4]) G G_good Tryz.func101 rfl Tryz.ntmps101 rfl rfl ?_; with_reducible refine wD ?_
  refine LoopK.use G G_good (fun (i : Nat × Nat) => [(1, eInt i.2), (2, .ptr 20 0 0), (8, eInt l.length), (9, eInt i.1)]) (fun _ => [(20, .live 2 [eFor ⟨l, m⟩] false)]) (fun i => i.1 ≤ l.length ∧ i.2 < l.length ∧ endsN l l.length k = endsN l (l.length - i.1) i.2) (fun i => l.length - i.1) (0, k) ⟨Nat.zero_le _, hk, rfl⟩
    ⟨⟨rfl, rfl⟩, ⟨rfl, ⟨rfl, rfl⟩, by show (l.length : Int) = ((l.map oNode).length : Int); rw [hlm], rfl, trivial⟩, ⟨⟨rfl, rfl, trivial⟩, trivial⟩, trivial⟩ ?_
  rintro ⟨i, j⟩ ⟨hi, hj, he⟩
  simp only at hi hj he
  with_reducible refine wK ?_
  refine IfK.mk (fun h1 => ?_) (fun h1 => ?_) <;> (try simp only [castN] at h1) <;> with_reducible refine wK ?_
  · have hi' : i < l.length := by simp only [decide_eq_true_eq] at h1; omega
    obtain ⟨x, hx⟩ : ∃ x, l[j]? = some x := ⟨_, List.getElem?_eq_getElem hj⟩
    have h58' := h58 j x hx
    refine CallK.lit [] h58' c120 ⟨⟨rfl, rfl, trivial⟩, rfl, trivial⟩ rfl rfl ?_; with_reducible refine wK ?_
    rw [show l.length - i = (l.length - (i + 1)) + 1 from by omega] at he
    rw [endsN_succ, nd_get hx] at he
    by_cases e : upN x = -1
    · rw [if_pos e] at he
      (have fct := e; (repeat' (first
    | refine gF ?_
    | ((with_reducible show (_ ∧ _) ∧ _ ∧ _); (refine eK ?_ ?_ <;> with_reducible repeat' (first | exact trivial | (show _ ∧ _; refine aK ?_ ?_)))))); all_goals clear fct)
      all_goals rw [he]
    · rw [if_neg e] at he
      rcases hup j x hx with h | h
      · exact absurd h e
      obtain ⟨j', y, hj1, hj2, _⟩ := there_iff.1 h
      rw [hj1] at he
      have hlt := (List.getElem?_eq_some_iff.1 hj2).1
      refine IfK.no (decide_eq_false e) ?_; with_reducible refine wK ?_
      refine nK ?_; with_reducible refine wK ?_
      refine NextK.mk (i + 1, j') ⟨by show i + 1 ≤ l.length; omega, hlt, he⟩ (by show l.length - (i + 1) < l.length - i; omega) ⟨⟨rfl, rfl⟩, ⟨hj1.symm, ⟨rfl, rfl⟩, rfl, by show ((i + 1 : Nat) : Int) = (i : Int) + 1; omega, trivial⟩, ⟨⟨rfl, rfl, trivial⟩, trivial⟩, trivial⟩
  · (refine eK ?_ ?_ <;> with_reducible repeat' (first | exact trivial | (show _ ∧ _; refine aK ?_ ?_)))
    have : i = l.length := by simp only [decide_eq_false_iff_not] at h1; omega
    rw [he, this, Nat.sub_self]; rfl
end Go.Proofs.Heir
end
section
set_option linter.unusedSimpArgs false
set_option linter.unusedVariables false
namespace Go.Proofs.Heir
open Go Go.Am Go.RowKit Go.Lib
set_option maxRecDepth 100000
set_option maxHeartbeats 8000000
theorem is_there {l : List NodeM} {n k : Int} (h : isN l n k = true) : ∃ (i : Nat) (x : NodeM), n = (i : Int) ∧ l[i]? = some x ∧ nd l n = x := by
  unfold isN at h
  simp only [Bool.and_eq_true] at h
  exact there_iff.1 h.1
theorem f100_ok (f : ForM) (k : Nat) (x : NodeM) (hx : f.nodes[k]? = some x) : FnOK Tryz.prog 100 [] [eFor f, eInt k] [] (eBool (shadedN f.nodes k x)) := by
  have h1 := f116_ok f x.host 1
  have h4 := f116_ok f x.under 4
  obtain ⟨l, m⟩ := f
  obtain ⟨a1, a2, a3, a4, a5, a6, a7, a8, a9, a10⟩ := x
  unfold shadedN
  simp only at h1 h4 hx ⊢
  refine FnOK.startC (rvs := [.tmp 4]) G G_good Tryz.func100 rfl Tryz.ntmps100 rfl rfl ?_; with_reducible refine wD ?_
  refine IdxK.mk k (eNode ⟨a1, a2, a3, a4, a5, a6, a7, a8, a9, a10⟩) rfl (node_get hx) ?_; with_reducible refine wK ?_
  by_cases e4 : a1 = 4
  · have e1 : ¬ a1 = 1 := by omega
    refine IfK.yes (by simp [e4]) ?_; with_reducible refine wK ?_
    rw [if_pos e4]
    cases hi : isN l a8 1 with
    | false =>
      rw [hi] at h1
      by_cases e9 : a9 = -1
      · (have fct := And.intro e4 (e9); (repeat' (first
    | refine gF ?_
    | (((with_reducible show CallK _ _ 116 _ _ _ _); refine CallK.lit [] h1 c116 ⟨⟨rfl, rfl, trivial⟩, rfl, rfl, trivial⟩ rfl rfl ?_) <;> with_reducible refine wK ?_)
    | ((with_reducible show (_ ∧ _) ∧ _ ∧ _); (refine eK ?_ ?_ <;> with_reducible repeat' (first | exact trivial | (show _ ∧ _; refine aK ?_ ?_)))))); all_goals clear fct)
        all_goals simp [e9]
      · (have fct := And.intro e4 (And.intro (eq_false e9) ((eq_false e1))); (repeat' (first
    | refine gF ?_
    | (((with_reducible show CallK _ _ 116 _ _ _ _); refine CallK.lit [] h1 c116 ⟨⟨rfl, rfl, trivial⟩, rfl, rfl, trivial⟩ rfl rfl ?_) <;> with_reducible refine wK ?_)
    | ((with_reducible show (_ ∧ _) ∧ _ ∧ _); (refine eK ?_ ?_ <;> with_reducible repeat' (first | exact trivial | (show _ ∧ _; refine aK ?_ ?_)))))); all_goals clear fct)
        all_goals simp [e9, e1]
    | true =>
      rw [hi] at h1
      obtain ⟨i, y, rfl, hy, hnd⟩ := is_there hi
      rw [hnd]
      obtain ⟨b1, b2, b3, b4, b5, b6, b7, b8, b9, b10⟩ := y
      by_cases e9 : a9 = -1
      · by_cases u9 : b9 = k
        · by_cases u10 : b10 = a10
          · (have fct := And.intro e4 (And.intro e9 (And.intro u9 (u10))); (repeat' (first
    | refine gF ?_
    | ((first
      | ((with_reducible show CallK _ _ 116 _ _ _ _); refine CallK.lit [] h1 c116 ⟨⟨rfl, rfl, trivial⟩, rfl, rfl, trivial⟩ rfl rfl ?_)
      | (refine IdxK.mk i (eNode ⟨b1, b2, b3, b4, b5, b6, b7, b8, b9, b10⟩) rfl (node_get hy) ?_)) <;> with_reducible refine wK ?_)
    | ((with_reducible show (_ ∧ _) ∧ _ ∧ _); (refine eK ?_ ?_ <;> with_reducible repeat' (first | exact trivial | (show _ ∧ _; refine aK ?_ ?_)))))); all_goals clear fct)
            all_goals simp [e9, u9, u10]
          · (have fct := And.intro e4 (And.intro e9 (And.intro u9 ((eq_false u10)))); (repeat' (first
    | refine gF ?_
    | ((first
      | ((with_reducible show CallK _ _ 116 _ _ _ _); refine CallK.lit [] h1 c116 ⟨⟨rfl, rfl, trivial⟩, rfl, rfl, trivial⟩ rfl rfl ?_)
      | (refine IdxK.mk i (eNode ⟨b1, b2, b3, b4, b5, b6, b7, b8, b9, b10⟩) rfl (node_get hy) ?_)) <;> with_reducible refine wK ?_)
    | ((with_reducible show (_ ∧ _) ∧ _ ∧ _); (refine eK ?_ ?_ <;> with_reducible repeat' (first | exact trivial | (show _ ∧ _; refine aK ?_ ?_)))))); all_goals clear fct)
            all_goals simp [e9, u9, u10]
        · (have fct := And.intro e4 (And.intro e9 ((eq_false u9))); (repeat' (first
    | refine gF ?_
    | ((first
      | ((with_reducible show CallK _ _ 116 _ _ _ _); refine CallK.lit [] h1 c116 ⟨⟨rfl, rfl, trivial⟩, rfl, rfl, trivial⟩ rfl rfl ?_)
      | (refine IdxK.mk i (eNode ⟨b1, b2, b3, b4, b5, b6, b7, b8, b9, b10⟩) rfl (node_get hy) ?_)) <;> with_reducible refine wK ?_)
    | ((with_reducible show (_ ∧ _) ∧ _ ∧ _); (refine eK ?_ ?_ <;> with_reducible repeat' (first | exact trivial | (show _ ∧ _; refine aK ?_ ?_)))))); all_goals clear fct)
          all_goals simp [e9, u9]
      · by_cases u9 : b9 = k
        · by_cases u10 : b10 = a10
          · (have fct := And.intro e4 (And.intro (eq_false e9) (And.intro (eq_false e1) (And.intro u9 (u10)))); (repeat' (first
    | refine gF ?_
    | ((first
      | ((with_reducible show CallK _ _ 116 _ _ _ _); refine CallK.lit [] h1 c116 ⟨⟨rfl, rfl, trivial⟩, rfl, rfl, trivial⟩ rfl rfl ?_)
      | (refine IdxK.mk i (eNode ⟨b1, b2, b3, b4, b5, b6, b7, b8, b9, b10⟩) rfl (node_get hy) ?_)) <;> with_reducible refine wK ?_)
    | ((with_reducible show (_ ∧ _) ∧ _ ∧ _); (refine eK ?_ ?_ <;> with_reducible repeat' (first | exact trivial | (show _ ∧ _; refine aK ?_ ?_)))))); all_goals clear fct)
            all_goals simp [e9, e1, u9, u10]
          · (have fct := And.intro e4 (And.intro (eq_false e9) (And.intro (eq_false e1) (And.intro u9 ((eq_false u10))))); (repeat' (first
    | refine gF ?_
    | ((first
      | ((with_reducible show CallK _ _ 116 _ _ _ _); refine CallK.lit [] h1 c116 ⟨⟨rfl, rfl, trivial⟩, rfl, rfl, trivial⟩ rfl rfl ?_)
      | (refine IdxK.mk i (eNode ⟨b1, b2, b3, b4, b5, b6, b7, b8, b9, b10⟩) rfl (node_get hy) ?_)) <;> with_reducible refine wK ?_)
    | ((with_reducible show (_ ∧ _) ∧ _ ∧ _); (refine eK ?_ ?_ <;> with_reducible repeat' (first | exact trivial | (show _ ∧ _; refine aK ?_ ?_)))))); all_goals clear fct)
            all_goals simp [e9, e1, u9, u10]
        · (have fct := And.intro e4 (And.intro (eq_false e9) (And.intro (eq_false e1) ((eq_false u9)))); (repeat' (first
    | refine gF ?_
    | ((first
      | ((with_reducible show CallK _ _ 116 _ _ _ _); refine CallK.lit [] h1 c116 ⟨⟨rfl, rfl, trivial⟩, rfl, rfl, trivial⟩ rfl rfl ?_)
      | (refine IdxK.mk i (eNode ⟨b1, b2, b3, b4, b5, b6, b7, b8, b9, b10⟩) rfl (node_get hy) ?_)) <;> with_reducible refine wK ?_)
    | ((with_reducible show (_ ∧ _) ∧ _ ∧ _); (refine eK ?_ ?_ <;> with_reducible repeat' (first | exact trivial | (show _ ∧ _; refine aK ?_ ?_)))))); all_goals clear fct)
          all_goals simp [e9, e1, u9]
  · refine IfK.no (by simp [e4]) ?_; with_reducible refine wK ?_
    rw [if_neg e4]
    by_cases e8 : a8 = -1
    · by_cases e9 : a9 = -1
      · (have fct := And.intro (eq_false e4) (And.intro e8 (e9)); (repeat' (first
    | refine gF ?_
    | ((with_reducible show (_ ∧ _) ∧ _ ∧ _); (refine eK ?_ ?_ <;> with_reducible repeat' (first | exact trivial | (show _ ∧ _; refine aK ?_ ?_)))))); all_goals clear fct)
        all_goals simp [e9, e8]
      · by_cases e1 : a1 = 1
        · cases hu : isN l a9 4 with
          | false =>
            rw [hu] at h4
            (have fct := And.intro (eq_false e4) (And.intro e8 (And.intro (eq_false e9) (e1))); (repeat' (first
    | refine gF ?_
    | (((with_reducible show CallK _ _ 116 _ _ _ _); refine CallK.lit [] h4 c116 ⟨⟨rfl, rfl, trivial⟩, rfl, rfl, trivial⟩ rfl rfl ?_) <;> with_reducible refine wK ?_)
    | ((with_reducible show (_ ∧ _) ∧ _ ∧ _); (refine eK ?_ ?_ <;> with_reducible repeat' (first | exact trivial | (show _ ∧ _; refine aK ?_ ?_)))))); all_goals clear fct)
            all_goals simp [e9, e8, e1]
          | true =>
            rw [hu] at h4
            obtain ⟨j, z, rfl, hz, hnd⟩ := is_there hu
            rw [hnd]
            obtain ⟨d1, d2, d3, d4, d5, d6, d7, d8, d9, d10⟩ := z
            (have fct := And.intro (eq_false e4) (And.intro e8 (And.intro (eq_false e9) (e1))); (repeat' (first
    | refine gF ?_
    | ((first
      | ((with_reducible show CallK _ _ 116 _ _ _ _); refine CallK.lit [] h4 c116 ⟨⟨rfl, rfl, trivial⟩, rfl, rfl, trivial⟩ rfl rfl ?_)
      | (refine IdxK.mk j (eNode ⟨d1, d2, d3, d4, d5, d6, d7, d8, d9, d10⟩) rfl (node_get hz) ?_)) <;> with_reducible refine wK ?_)
    | ((with_reducible show (_ ∧ _) ∧ _ ∧ _); (refine eK ?_ ?_ <;> with_reducible repeat' (first | exact trivial | (show _ ∧ _; refine aK ?_ ?_)))))); all_goals clear fct)
            all_goals simp [e9, e8, e1]
        · (have fct := And.intro (eq_false e4) (And.intro e8 (And.intro (eq_false e9) ((eq_false e1)))); (repeat' (first
    | refine gF ?_
    | ((with_reducible show (_ ∧ _) ∧ _ ∧ _); (refine eK ?_ ?_ <;> with_reducible repeat' (first | exact trivial | (show _ ∧ _; refine aK ?_ ?_)))))); all_goals clear fct)
          all_goals simp [e9, e8, e1]
    · by_cases e9 : a9 = -1
      · (have fct := And.intro (eq_false e4) (And.intro (eq_false e8) (e9)); (repeat' (first
    | refine gF ?_
    | ((with_reducible show (_ ∧ _) ∧ _ ∧ _); (refine eK ?_ ?_ <;> with_reducible repeat' (first | exact trivial | (show _ ∧ _; refine aK ?_ ?_)))))); all_goals clear fct)
        all_goals simp [e9, e8]
      · by_cases e1 : a1 = 1
        · cases hu : isN l a9 4 with
          | false =>
            rw [hu] at h4
            (have fct := And.intro (eq_false e4) (And.intro (eq_false e8) (And.intro (eq_false e9) (e1))); (repeat' (first
    | refine gF ?_
    | (((with_reducible show CallK _ _ 116 _ _ _ _); refine CallK.lit [] h4 c116 ⟨⟨rfl, rfl, trivial⟩, rfl, rfl, trivial⟩ rfl rfl ?_) <;> with_reducible refine wK ?_)
    | ((with_reducible show (_ ∧ _) ∧ _ ∧ _); (refine eK ?_ ?_ <;> with_reducible repeat' (first | exact trivial | (show _ ∧ _; refine aK ?_ ?_)))))); all_goals clear fct)
            all_goals simp [e9, e8, e1]
          | true =>
            rw [hu] at h4
            obtain ⟨j, z, rfl, hz, hnd⟩ := is_there hu
            rw [hnd]
            obtain ⟨d1, d2, d3, d4, d5, d6, d7, d8, d9, d10⟩ := z
            (have fct := And.intro (eq_false e4) (And.intro (eq_false e8) (And.intro (eq_false e9) (e1))); (repeat' (first
    | refine gF ?_
    | ((first
      | ((with_reducible show CallK _ _ 116 _ _ _ _); refine CallK.lit [] h4 c116 ⟨⟨rfl, rfl, trivial⟩, rfl, rfl, trivial⟩ rfl rfl ?_)
      | (refine IdxK.mk j (eNode ⟨d1, d2, d3, d4, d5, d6, d7, d8, d9, d10⟩) rfl (node_get hz) ?_)) <;> with_reducible refine wK ?_)
    | ((with_reducible show (_ ∧ _) ∧ _ ∧ _); (refine eK ?_ ?_ <;> with_reducible repeat' (first | exact trivial | (show _ ∧ _; refine aK ?_ ?_)))))); all_goals clear fct)
            all_goals simp [e9, e8, e1]
        · (have fct := And.intro (eq_false e4) (And.intro (eq_false e8) (And.intro (eq_false e9) ((eq_false e1)))); (repeat' (first
    | refine gF ?_
    | ((with_reducible show (_ ∧ _) ∧ _ ∧ _); (refine eK ?_ ?_ <;> with_reducible repeat' (first | exact trivial | (show _ ∧ _; refine aK ?_ ?_)))))); all_goals clear fct)
          all_goals simp [e9, e8, e1]
end Go.Proofs.Heir
end
section
set_option linter.unusedSimpArgs false
set_option linter.unusedVariables false
namespace Go.Proofs.Heir
open Go Go.Am Go.RowKit Go.Lib
set_option maxRecDepth 100000
set_option maxHeartbeats 8000000
theorem f96_ok (x : NodeM) (hx : x.attrs.length ≤ 100000) : FnOK Tryz.prog 96 [] [eNode x] [] (eBool (namedN x)) := by
  have h45 := f114_ok x.name
  have h54 := f42_ok x.is
  have h44 := f115_ok x.attrs hx
  obtain ⟨a1, a2, a3, a4, a5, a6, a7, a8, a9, a10⟩ := x
  have hlm : (a5.map oAttr).length = a5.length := List.length_map ..
  unfold namedN
  simp only at h45 h54 h44 hx ⊢
  refine FnOK.startC (rvs := [.tmp 2]) G G_good Tryz.func96 rfl Tryz.ntmps96 rfl rfl ?_; with_reducible refine wD ?_
  by_cases e1 : a1 = 1
  · rw [if_pos e1]
    cases hr : rightS a2 with
    | false =>
      rw [hr] at h45
      simp only [Bool.false_eq_true, if_false] at h45
      (have fct := And.intro e1 (hr); (repeat' (first
    | refine gF ?_
    | (((with_reducible show CallK _ _ 114 _ _ _ _); refine CallK.lit [] h45 c114 ⟨rfl, trivial⟩ rfl rfl ?_) <;> with_reducible refine wK ?_)
    | ((with_reducible show (_ ∧ _) ∧ _ ∧ _); (refine eK ?_ ?_ <;> with_reducible repeat' (first | exact trivial | (show _ ∧ _; refine aK ?_ ?_)))))); all_goals clear fct)
      all_goals simp [hr]
    | true =>
      rw [hr] at h45
      simp only [if_true] at h45
      by_cases hl : lowS a2 = a2
      · by_cases h3 : a3 = ⟨#[]⟩
        · by_cases h4 : a4 = ⟨#[]⟩
          · (have fct := And.intro e1 (And.intro hr (And.intro hl (And.intro h3 (h4)))); (repeat' (first
    | refine gF ?_
    | ((first
      | ((with_reducible show CallK _ _ 114 _ _ _ _); refine CallK.lit [] h45 c114 ⟨rfl, trivial⟩ rfl rfl ?_)
      | ((with_reducible show CallK _ _ 115 _ _ _ _); refine CallK.lit [] h44 c115 ⟨rfl, trivial⟩ rfl rfl ?_)) <;> with_reducible refine wK ?_)
    | ((with_reducible show (_ ∧ _) ∧ _ ∧ _); (refine eK ?_ ?_ <;> with_reducible repeat' (first | exact trivial | (show _ ∧ _; refine aK ?_ ?_)))))); all_goals clear fct)
            all_goals simp [hr, hl, h3, h4]
          · (have fct := And.intro e1 (And.intro hr (And.intro hl (And.intro h3 ((eq_false h4))))); (repeat' (first
    | refine gF ?_
    | (((with_reducible show CallK _ _ 114 _ _ _ _); refine CallK.lit [] h45 c114 ⟨rfl, trivial⟩ rfl rfl ?_) <;> with_reducible refine wK ?_)
    | ((with_reducible show (_ ∧ _) ∧ _ ∧ _); (refine eK ?_ ?_ <;> with_reducible repeat' (first | exact trivial | (show _ ∧ _; refine aK ?_ ?_)))))); all_goals clear fct)
            all_goals simp [hr, hl, h3, h4]
        · cases hc : customS a3 with
          | false =>
            rw [hc] at h54
            (have fct := And.intro e1 (And.intro hr (And.intro hl (And.intro (eq_false h3) (hc)))); (repeat' (first
    | refine gF ?_
    | ((first
      | ((with_reducible show CallK _ _ 114 _ _ _ _); refine CallK.lit [] h45 c114 ⟨rfl, trivial⟩ rfl rfl ?_)
      | ((with_reducible show CallK _ _ 42 _ _ _ _); refine CallK.lit [] h54 c42 ⟨rfl, trivial⟩ rfl rfl ?_)) <;> with_reducible refine wK ?_)
    | ((with_reducible show (_ ∧ _) ∧ _ ∧ _); (refine eK ?_ ?_ <;> with_reducible repeat' (first | exact trivial | (show _ ∧ _; refine aK ?_ ?_)))))); all_goals clear fct)
            all_goals simp [hr, hl, h3, hc]
          | true =>
            rw [hc] at h54
            by_cases h4 : a4 = ⟨#[]⟩
            · (have fct := And.intro e1 (And.intro hr (And.intro hl (And.intro (eq_false h3) (And.intro hc (h4))))); (repeat' (first
    | refine gF ?_
    | ((first
      | ((with_reducible show CallK _ _ 114 _ _ _ _); refine CallK.lit [] h45 c114 ⟨rfl, trivial⟩ rfl rfl ?_)
      | ((with_reducible show CallK _ _ 42 _ _ _ _); refine CallK.lit [] h54 c42 ⟨rfl, trivial⟩ rfl rfl ?_)
      | ((with_reducible show CallK _ _ 115 _ _ _ _); refine CallK.lit [] h44 c115 ⟨rfl, trivial⟩ rfl rfl ?_)) <;> with_reducible refine wK ?_)
    | ((with_reducible show (_ ∧ _) ∧ _ ∧ _); (refine eK ?_ ?_ <;> with_reducible repeat' (first | exact trivial | (show _ ∧ _; refine aK ?_ ?_)))))); all_goals clear fct)
              all_goals simp [hr, hl, h3, hc, h4]
            · (have fct := And.intro e1 (And.intro hr (And.intro hl (And.intro (eq_false h3) (And.intro hc ((eq_false h4)))))); (repeat' (first
    | refine gF ?_
    | ((first
      | ((with_reducible show CallK _ _ 114 _ _ _ _); refine CallK.lit [] h45 c114 ⟨rfl, trivial⟩ rfl rfl ?_)
      | ((with_reducible show CallK _ _ 42 _ _ _ _); refine CallK.lit [] h54 c42 ⟨rfl, trivial⟩ rfl rfl ?_)) <;> with_reducible refine wK ?_)
    | ((with_reducible show (_ ∧ _) ∧ _ ∧ _); (refine eK ?_ ?_ <;> with_reducible repeat' (first | exact trivial | (show _ ∧ _; refine aK ?_ ?_)))))); all_goals clear fct)
              all_goals simp [hr, hl, h3, hc, h4]
      · (have fct := And.intro e1 (And.intro hr ((eq_false hl))); (repeat' (first
    | refine gF ?_
    | (((with_reducible show CallK _ _ 114 _ _ _ _); refine CallK.lit [] h45 c114 ⟨rfl, trivial⟩ rfl rfl ?_) <;> with_reducible refine wK ?_)
    | ((with_reducible show (_ ∧ _) ∧ _ ∧ _); (refine eK ?_ ?_ <;> with_reducible repeat' (first | exact trivial | (show _ ∧ _; refine aK ?_ ?_)))))); all_goals clear fct)
        all_goals simp [hr, hl]
  · rw [if_neg e1]
    by_cases e2 : a1 = 2
    · rw [if_pos e2]
      by_cases hd : a4.size ≤ 200
      · by_cases h2 : a2 = ⟨#[]⟩
        · by_cases h3 : a3 = ⟨#[]⟩
          · (have fct := And.intro e2 (And.intro hd (And.intro h2 (h3))); (repeat' (first
    | refine gF ?_
    | ((with_reducible show (_ ∧ _) ∧ _ ∧ _); (refine eK ?_ ?_ <;> with_reducible repeat' (first | exact trivial | (show _ ∧ _; refine aK ?_ ?_)))))); all_goals clear fct)
            all_goals simp [hd, h2, h3]
          · (have fct := And.intro e2 (And.intro hd (And.intro h2 ((eq_false h3)))); (repeat' (first
    | refine gF ?_
    | ((with_reducible show (_ ∧ _) ∧ _ ∧ _); (refine eK ?_ ?_ <;> with_reducible repeat' (first | exact trivial | (show _ ∧ _; refine aK ?_ ?_)))))); all_goals clear fct)
            all_goals simp [hd, h2, h3]
        · (have fct := And.intro e2 (And.intro hd ((eq_false h2))); (repeat' (first
    | refine gF ?_
    | ((with_reducible show (_ ∧ _) ∧ _ ∧ _); (refine eK ?_ ?_ <;> with_reducible repeat' (first | exact trivial | (show _ ∧ _; refine aK ?_ ?_)))))); all_goals clear fct)
          all_goals simp [hd, h2]
      · (have fct := And.intro e2 ((eq_false hd)); (repeat' (first
    | refine gF ?_
    | ((with_reducible show (_ ∧ _) ∧ _ ∧ _); (refine eK ?_ ?_ <;> with_reducible repeat' (first | exact trivial | (show _ ∧ _; refine aK ?_ ?_)))))); all_goals clear fct)
        all_goals simp [hd]
    · rw [if_neg e2]
      by_cases ho : a1 = 0 ∨ a1 = 3 ∨ a1 = 4
      · rw [if_pos ho]
        by_cases h2 : a2 = ⟨#[]⟩
        · by_cases h3 : a3 = ⟨#[]⟩
          · by_cases h4 : a4 = ⟨#[]⟩
            · rcases ho with e | e | e
              · (have fct := And.intro e (And.intro h2 (And.intro h3 (h4))); (repeat' (first
    | refine gF ?_
    | ((with_reducible show (_ ∧ _) ∧ _ ∧ _); (refine eK ?_ ?_ <;> with_reducible repeat' (first | exact trivial | (show _ ∧ _; refine aK ?_ ?_)))))); all_goals clear fct)
                all_goals simp [h2, h3, h4]
              · (have fct := And.intro e (And.intro h2 (And.intro h3 (h4))); (repeat' (first
    | refine gF ?_
    | ((with_reducible show (_ ∧ _) ∧ _ ∧ _); (refine eK ?_ ?_ <;> with_reducible repeat' (first | exact trivial | (show _ ∧ _; refine aK ?_ ?_)))))); all_goals clear fct)
                all_goals simp [h2, h3, h4]
              · (have fct := And.intro e (And.intro h2 (And.intro h3 (h4))); (repeat' (first
    | refine gF ?_
    | ((with_reducible show (_ ∧ _) ∧ _ ∧ _); (refine eK ?_ ?_ <;> with_reducible repeat' (first | exact trivial | (show _ ∧ _; refine aK ?_ ?_)))))); all_goals clear fct)
                all_goals simp [h2, h3, h4]
            · rcases ho with e | e | e
              · (have fct := And.intro e (And.intro h2 (And.intro h3 ((eq_false h4)))); (repeat' (first
    | refine gF ?_
    | ((with_reducible show (_ ∧ _) ∧ _ ∧ _); (refine eK ?_ ?_ <;> with_reducible repeat' (first | exact trivial | (show _ ∧ _; refine aK ?_ ?_)))))); all_goals clear fct)
                all_goals simp [h2, h3, h4]
              · (have fct := And.intro e (And.intro h2 (And.intro h3 ((eq_false h4)))); (repeat' (first
    | refine gF ?_
    | ((with_reducible show (_ ∧ _) ∧ _ ∧ _); (refine eK ?_ ?_ <;> with_reducible repeat' (first | exact trivial | (show _ ∧ _; refine aK ?_ ?_)))))); all_goals clear fct)
                all_goals simp [h2, h3, h4]
              · (have fct := And.intro e (And.intro h2 (And.intro h3 ((eq_false h4)))); (repeat' (first
    | refine gF ?_
    | ((with_reducible show (_ ∧ _) ∧ _ ∧ _); (refine eK ?_ ?_ <;> with_reducible repeat' (first | exact trivial | (show _ ∧ _; refine aK ?_ ?_)))))); all_goals clear fct)
                all_goals simp [h2, h3, h4]
          · rcases ho with e | e | e
            · (have fct := And.intro e (And.intro h2 ((eq_false h3))); (repeat' (first
    | refine gF ?_
    | ((with_reducible show (_ ∧ _) ∧ _ ∧ _); (refine eK ?_ ?_ <;> with_reducible repeat' (first | exact trivial | (show _ ∧ _; refine aK ?_ ?_)))))); all_goals clear fct)
              all_goals simp [h2, h3]
            · (have fct := And.intro e (And.intro h2 ((eq_false h3))); (repeat' (first
    | refine gF ?_
    | ((with_reducible show (_ ∧ _) ∧ _ ∧ _); (refine eK ?_ ?_ <;> with_reducible repeat' (first | exact trivial | (show _ ∧ _; refine aK ?_ ?_)))))); all_goals clear fct)
              all_goals simp [h2, h3]
            · (have fct := And.intro e (And.intro h2 ((eq_false h3))); (repeat' (first
    | refine gF ?_
    | ((with_reducible show (_ ∧ _) ∧ _ ∧ _); (refine eK ?_ ?_ <;> with_reducible repeat' (first | exact trivial | (show _ ∧ _; refine aK ?_ ?_)))))); all_goals clear fct)
              all_goals simp [h2, h3]
        · rcases ho with e | e | e
          · (have fct := And.intro e ((eq_false h2)); (repeat' (first
    | refine gF ?_
    | ((with_reducible show (_ ∧ _) ∧ _ ∧ _); (refine eK ?_ ?_ <;> with_reducible repeat' (first | exact trivial | (show _ ∧ _; refine aK ?_ ?_)))))); all_goals clear fct)
            all_goals simp [h2]
          · (have fct := And.intro e ((eq_false h2)); (repeat' (first
    | refine gF ?_
    | ((with_reducible show (_ ∧ _) ∧ _ ∧ _); (refine eK ?_ ?_ <;> with_reducible repeat' (first | exact trivial | (show _ ∧ _; refine aK ?_ ?_)))))); all_goals clear fct)
            all_goals simp [h2]
          · (have fct := And.intro e ((eq_false h2)); (repeat' (first
    | refine gF ?_
    | ((with_reducible show (_ ∧ _) ∧ _ ∧ _); (refine eK ?_ ?_ <;> with_reducible repeat' (first | exact trivial | (show _ ∧ _; refine aK ?_ ?_)))))); all_goals clear fct)
            all_goals simp [h2]
      · rw [if_neg ho]
        have e0 : ¬ a1 = 0 := fun h => ho (.inl h)
        have e3 : ¬ a1 = 3 := fun h => ho (.inr (.inl h))
        have e4 : ¬ a1 = 4 := fun h => ho (.inr (.inr h))
        (have fct := And.intro e0 (And.intro e1 (And.intro e2 (And.intro e3 (e4)))); (repeat' (first
    | refine gF ?_
    | ((with_reducible show (_ ∧ _) ∧ _ ∧ _); (refine eK ?_ ?_ <;> with_reducible repeat' (first | exact trivial | (show _ ∧ _; refine aK ?_ ?_)))))); all_goals clear fct)
end Go.Proofs.Heir
end
section
set_option linter.unusedSimpArgs false
set_option linter.unusedVariables false
namespace Go.Proofs.Heir
open Go Go.Am Go.RowKit Go.Lib
set_option maxRecDepth 100000
set_option maxHeartbeats 8000000
def seenT (l : List Int) : List (Int × Int) := l.map fun c => (c, 1)
theorem tget_seen (c : Int) : ∀ l : List Int, tget c (seenT l) = if c ∈ l then some 1 else none
  | [] => rfl
  | a :: r => by
    show (if a = c then some 1 else tget c (seenT r)) = _
    rw [tget_seen c r]
    by_cases e : a = c
    · rw [if_pos e, if_pos (by simp [e])]
    · rw [if_neg e]
      by_cases h : c ∈ r
      · rw [if_pos h, if_pos (List.mem_cons_of_mem _ h)]
      · rw [if_neg h, if_neg (by simp [h]; exact fun e' => e e'.symm)]
theorem seen_snoc {l : List Int} {c : Int} (h : c ∉ l) : tput c 1 (seenT l) = seenT (l ++ [c]) := by
  rw [tput_new (by rw [tget_seen, if_neg h])]
  simp [seenT]
theorem take_snocI {α : Type} {l : List α} {k : Nat} {x : α} (h : l[k]? = some x) : l.take (k + 1) = l.take k ++ [x] := by
  obtain ⟨hk, rfl⟩ := List.getElem?_eq_some_iff.1 h
  rw [List.take_add_one, List.getElem?_eq_getElem hk]; rfl
theorem kids_step {l : List NodeM} {n : Int} {x : NodeM} {cs : List Int} {j : Nat} {c : Int} (h : cs[j]? = some c) : kidsOK l n x (cs.take j) (cs.drop j) = (kidOK l n x (cs.take j) c && kidsOK l n x (cs.take (j + 1)) (cs.drop (j + 1))) := by
  obtain ⟨hk, rfl⟩ := List.getElem?_eq_some_iff.1 h
  rw [List.drop_eq_getElem_cons hk, take_snocI h]
  rfl
theorem elems_step {l : List NodeM} {cs : List Int} {j : Nat} {c : Int} (h : cs[j]? = some c) : elemsN l (cs.take (j + 1)) = elemsN l (cs.take j) + if (nd l c).kind = 1 then 1 else 0 := by
  rw [take_snocI h]
  unfold elemsN
  rw [List.countP_append, List.countP_cons]; simp
theorem elems_le (l : List NodeM) (cs : List Int) (j : Nat) : elemsN l (cs.take j) ≤ j := by
  unfold elemsN
  refine Nat.le_trans List.countP_le_length ?_
  simp; omega
@[reducible] def rSeen (t : List (Int × Int)) : MS := .live 2 (tRows vInt oInt t) false
theorem noRef_seen (t : List (Int × Int)) : noRefL (tRows vInt oInt t) = true := by
  rw [noRefL_iff]; intro x hx
  obtain ⟨a, _, rfl⟩ := List.mem_map.1 hx
  rfl
theorem f99_ok (f : ForM) (hs : SmallN f.nodes) (k : Nat) (x : NodeM) (hx : f.nodes[k]? = some x) : FnOK Tryz.prog 99 [] [eFor f, eInt k] [] (eBool (bearsN f.nodes k x)) := by
  have h49 := f117_ok f
  have h56 := f118_ok x.kind
  have h7 := hs.kids x (List.mem_of_getElem? hx)
  have hl := hs.len
  obtain ⟨l, m⟩ := f
  have hst := fun j c => @kids_step l k x x.kids j c
  have hse := fun j c => @elems_step l x.kids j c
  unfold bearsN
  simp only at h49 h56 hx h7 hl ⊢
  obtain ⟨⟨a1, a2, a3, a4, a5, a6, a7, a8, a9, a10⟩, hx0⟩ : ∃ y, y = x := ⟨x, rfl⟩
  rw [← hx0] at hx h56 h7 hst hse ⊢
  simp only at h56 h7 hst hse ⊢
  have hlm : (a7.map oInt).length = a7.length := List.length_map ..
  refine FnOK.startC (rvs := [.tmp 4]) G G_good Tryz.func99 rfl Tryz.ntmps99 rfl rfl ?_; with_reducible refine wD ?_
  refine IdxK.mk k (eNode ⟨a1, a2, a3, a4, a5, a6, a7, a8, a9, a10⟩) rfl (node_get hx) ?_; with_reducible refine wK ?_
  refine LoopK.use G G_good (fun (j : Nat) => [(1, eInt k), (2, .ptr 20 0 0), (5, .ptr 50 0 0), (6, .mapr 161), (7, eInt (elemsN l (a7.take j))), (18, eInts a7), (19, eInt a7.length), (20, eInt j)])
    (fun j => [(20, .live 2 [eFor ⟨l, m⟩] false), (50, .live 10 [eNode ⟨a1, a2, a3, a4, a5, a6, a7, a8, a9, a10⟩] false), (161, rSeen (seenT (a7.take j)))])
    (fun j => j ≤ a7.length ∧ kidsOK l k ⟨a1, a2, a3, a4, a5, a6, a7, a8, a9, a10⟩ [] a7 = kidsOK l k ⟨a1, a2, a3, a4, a5, a6, a7, a8, a9, a10⟩ (a7.take j) (a7.drop j)) (fun j => a7.length - j) 0 ⟨Nat.zero_le _, rfl⟩
    ⟨⟨rfl, rfl⟩, ⟨rfl, ⟨rfl, rfl⟩, ⟨rfl, rfl⟩, trivial, rfl, rfl, by show (a7.length : Int) = ((a7.map oInt).length : Int); rw [hlm], rfl, trivial⟩, ⟨⟨rfl, rfl, trivial⟩, trivial⟩, ⟨⟨rfl, rfl, rfl, rfl, rfl, rfl, rfl, rfl, rfl, rfl, trivial⟩, trivial⟩, ⟨.refl rfl, rfl⟩, trivial⟩ ?_
  rintro j ⟨hj, hok⟩
  with_reducible refine wK ?_
  refine IfK.mk (fun h1 => ?_) (fun h1 => ?_) <;> (try simp only [castN] at h1) <;> with_reducible refine wK ?_
  · have hj' : j < a7.length := by simp only [decide_eq_true_eq] at h1; omega
    obtain ⟨c, hc⟩ : ∃ c, a7[j]? = some c := ⟨_, List.getElem?_eq_getElem hj'⟩
    rw [hst j c hc] at hok
    have hse' := hse j c hc
    have hel := elems_le l a7 j
    have h49' := h49 c
    unfold kidOK at hok
    refine IdxK.mk j (eInt c) rfl (int_get hc) ?_; with_reducible refine wK ?_
    refine CallK.lit [] h49' c117 ⟨⟨rfl, rfl, trivial⟩, rfl, trivial⟩ rfl rfl ?_; with_reducible refine wK ?_
    cases ht : thereN l c with
    | false =>
      rw [ht] at hok
      simp only [Bool.false_and] at hok
      rw [hok, Bool.false_and]
      (have fct := ht; (repeat' (first
    | refine gF ?_
    | ((with_reducible show (_ ∧ _) ∧ _ ∧ _); (refine eK ?_ ?_ <;> with_reducible repeat' (first | exact trivial | (show _ ∧ _; refine aK ?_ ?_)))))); all_goals clear fct)
    | true =>
      obtain ⟨i, y, rfl, hy, hnd⟩ := there_iff.1 ht
      rw [ht, hnd] at hok
      rw [hnd] at hse'
      obtain ⟨b1, b2, b3, b4, b5, b6, b7, b8, b9, b10⟩ := y
      simp only [Bool.true_and] at hok hse'
      refine IfK.ff ?_; with_reducible refine wK ?_
      have hts := tget_seen (i : Int) (a7.take j)
      refine LookK.tab vInt oInt (seenT (a7.take j)) (k := (i : Int)) (zv := eInt 0) mt74 ⟨_, _, rfl⟩ key_int inj_int rfl rfl (fun z hxx => ?_) (fun hxx => ?_)
      · rw [hxx] at hts
        have hin : (i : Int) ∈ a7.take j := by by_cases h : (i : Int) ∈ a7.take j; exact h; rw [if_neg h] at hts; cases hts
        rw [if_pos hin] at hts
        cases hts
        rw [show hasI (a7.take j) (i : Int) = true from decide_eq_true hin] at hok
        simp only [Bool.not_true, Bool.false_and] at hok
        rw [hok, Bool.false_and]
        rw [show oInt 1 = eInt 1 from rfl]
        with_reducible refine wK ?_
        (have fct := ht; (repeat' (first
    | refine gF ?_
    | ((with_reducible show (_ ∧ _) ∧ _ ∧ _); (refine eK ?_ ?_ <;> with_reducible repeat' (first | exact trivial | (show _ ∧ _; refine aK ?_ ?_)))))); all_goals clear fct)
      · rw [hxx] at hts
        have hin : (i : Int) ∉ a7.take j := by intro h; rw [if_pos h] at hts; cases hts
        rw [show hasI (a7.take j) (i : Int) = false from decide_eq_false hin] at hok
        simp only [Bool.not_false, Bool.true_and] at hok
        with_reducible refine wK ?_
        by_cases e6 : b6 = k
        · by_cases e10 : b10 = a10
          · simp only [e6, e10, decide_true, Bool.true_and] at hok
            (have fct := And.intro e6 (e10); (repeat' (first
    | refine gF ?_
    | ((refine IdxK.mk i (eNode ⟨b1, b2, b3, b4, b5, b6, b7, b8, b9, b10⟩) rfl (node_get hy) ?_) <;> with_reducible refine wK ?_)
    | ((with_reducible show (_ ∧ _) ∧ _ ∧ _); (refine eK ?_ ?_ <;> with_reducible repeat' (first | exact trivial | (show _ ∧ _; refine aK ?_ ?_)))))); all_goals clear fct)
            refine LookK.tab vInt oInt (seenT (a7.take j)) (k := (i : Int)) (zv := eInt 0) mt74 ⟨_, _, rfl⟩ key_int inj_int rfl rfl (fun z hyy => ?_) (fun hyy => ?_)
            · rw [hxx] at hyy; cases hyy
            with_reducible refine wK ?_
            have hln : (seenT (a7.take j)).length ≤ j := by unfold seenT; simp; omega
            have hsn := seen_snoc hin
            rw [← take_snocI hc] at hsn
            refine nK ?_; with_reducible refine wK ?_
            refine PutK.tab vInt oInt (seenT (a7.take j)) (k := (i : Int)) (1 : Int) mt74 rfl key_int inj_int (by unfold maxLen; omega) rfl ?_; with_reducible refine wK ?_
            rw [hsn]
            refine IdxK.mk i (eNode ⟨b1, b2, b3, b4, b5, b6, b7, b8, b9, b10⟩) rfl (node_get hy) ?_; with_reducible refine wK ?_
            by_cases f1 : b1 = 1
            · have hs1 : (elemsN l (a7.take (j + 1)) : Int) = elemsN l (a7.take j) + 1 := by rw [hse', if_pos f1]; rfl
              simp only [f1, decide_true, Bool.true_or, Bool.true_and] at hok
              (have fct := f1; (repeat' (first
    | refine gF ?_
    | (((with_reducible show NextK _ _); refine NextK.mk (j + 1) ⟨by omega, hok⟩ (by omega) ⟨⟨rfl, rfl⟩, ⟨rfl, ⟨rfl, rfl⟩, ⟨rfl, rfl⟩, trivial, hs1, rfl, rfl, by show ((j + 1 : Nat) : Int) = (j : Int) + 1; omega, trivial⟩, ⟨⟨rfl, rfl, trivial⟩, trivial⟩, ⟨⟨rfl, rfl, rfl, rfl, rfl, rfl, rfl, rfl, rfl, rfl, trivial⟩, trivial⟩, ⟨.refl (noRef_seen _), noRef_seen _⟩, trivial⟩) <;> with_reducible refine wK ?_)
    | ((with_reducible show (_ ∧ _) ∧ _ ∧ _); (refine eK ?_ ?_ <;> with_reducible repeat' (first | exact trivial | (show _ ∧ _; refine aK ?_ ?_)))))); all_goals clear fct)
            · have hs1 : (elemsN l (a7.take (j + 1)) : Int) = elemsN l (a7.take j) := by rw [hse', if_neg f1]; rfl
              by_cases f2 : b1 = 2
              · by_cases e0 : a1 = 0
                · have hkk : (decide (b1 = 1) || decide (b1 = 2) && decide (a1 ≠ 0)) = false := by simp [f2, e0]
                  rw [hkk, Bool.false_and] at hok
                  rw [hok, Bool.false_and]
                  (have fct := And.intro (eq_false f1) (And.intro f2 (e0)); (repeat' (first
    | refine gF ?_
    | ((with_reducible show (_ ∧ _) ∧ _ ∧ _); (refine eK ?_ ?_ <;> with_reducible repeat' (first | exact trivial | (show _ ∧ _; refine aK ?_ ?_)))))); all_goals clear fct)
                · have hkk : (decide (b1 = 1) || decide (b1 = 2) && decide (a1 ≠ 0)) = true := by simp [f2, e0]
                  rw [hkk, Bool.true_and] at hok
                  (have fct := And.intro (eq_false f1) (And.intro f2 ((eq_false e0))); (repeat' (first
    | refine gF ?_
    | (((with_reducible show NextK _ _); refine NextK.mk (j + 1) ⟨by omega, hok⟩ (by omega) ⟨⟨rfl, rfl⟩, ⟨rfl, ⟨rfl, rfl⟩, ⟨rfl, rfl⟩, trivial, hs1, rfl, rfl, by show ((j + 1 : Nat) : Int) = (j : Int) + 1; omega, trivial⟩, ⟨⟨rfl, rfl, trivial⟩, trivial⟩, ⟨⟨rfl, rfl, rfl, rfl, rfl, rfl, rfl, rfl, rfl, rfl, trivial⟩, trivial⟩, ⟨.refl (noRef_seen _), noRef_seen _⟩, trivial⟩) <;> with_reducible refine wK ?_)
    | ((with_reducible show (_ ∧ _) ∧ _ ∧ _); (refine eK ?_ ?_ <;> with_reducible repeat' (first | exact trivial | (show _ ∧ _; refine aK ?_ ?_)))))); all_goals clear fct)
              · simp only [eq_false f1, eq_false f2, decide_false, Bool.false_and, Bool.or_false] at hok
                rw [hok, Bool.false_and]
                (have fct := And.intro f1 (f2); (repeat' (first
    | refine gF ?_
    | ((with_reducible show (_ ∧ _) ∧ _ ∧ _); (refine eK ?_ ?_ <;> with_reducible repeat' (first | exact trivial | (show _ ∧ _; refine aK ?_ ?_)))))); all_goals clear fct)
          · simp only [e6, eq_false e10, decide_true, decide_false, Bool.true_and, Bool.false_and] at hok
            rw [hok, Bool.false_and]
            (have fct := And.intro e6 ((eq_false e10)); (repeat' (first
    | refine gF ?_
    | ((refine IdxK.mk i (eNode ⟨b1, b2, b3, b4, b5, b6, b7, b8, b9, b10⟩) rfl (node_get hy) ?_) <;> with_reducible refine wK ?_)
    | ((with_reducible show (_ ∧ _) ∧ _ ∧ _); (refine eK ?_ ?_ <;> with_reducible repeat' (first | exact trivial | (show _ ∧ _; refine aK ?_ ?_)))))); all_goals clear fct)
        · simp only [eq_false e6, decide_false, Bool.false_and] at hok
          rw [hok, Bool.false_and]
          (have fct := (eq_false e6); (repeat' (first
    | refine gF ?_
    | ((refine IdxK.mk i (eNode ⟨b1, b2, b3, b4, b5, b6, b7, b8, b9, b10⟩) rfl (node_get hy) ?_) <;> with_reducible refine wK ?_)
    | ((with_reducible show (_ ∧ _) ∧ _ ∧ _); (refine eK ?_ ?_ <;> with_reducible repeat' (first | exact trivial | (show _ ∧ _; refine aK ?_ ?_)))))); all_goals clear fct)
  · have hjl : j = a7.length := by simp only [decide_eq_false_iff_not] at h1; omega
    rw [hjl, List.take_length, List.drop_length] at hok
    rw [hjl, List.take_length]
    rw [hok]
    simp only [kidsOK, Bool.true_and]
    refine CallK.lit [] h56 c118 ⟨rfl, trivial⟩ rfl rfl ?_; with_reducible refine wK ?_
    by_cases e7 : a7.length = 0
    · have e7' : a7 = [] := List.eq_nil_of_length_eq_zero e7
      cases hh : holdK a1 with
      | false =>
        by_cases e0 : a1 = 0
        · (have fct := And.intro hh (And.intro e0 (And.intro e7 (hlm))); (repeat' (first
    | refine gF ?_
    | ((with_reducible show (_ ∧ _) ∧ _ ∧ _); (refine eK ?_ ?_ <;> with_reducible repeat' (first | exact trivial | (show _ ∧ _; refine aK ?_ ?_)))))); all_goals clear fct)
          all_goals first | (simp [hh, e0, e7']; done) | ((try simp only [castN]); simp [hh, e0, e7']; omega)
        · (have fct := And.intro hh (And.intro (eq_false e0) (And.intro e7 (hlm))); (repeat' (first
    | refine gF ?_
    | ((with_reducible show (_ ∧ _) ∧ _ ∧ _); (refine eK ?_ ?_ <;> with_reducible repeat' (first | exact trivial | (show _ ∧ _; refine aK ?_ ?_)))))); all_goals clear fct)
          all_goals first | (simp [hh, e0, e7']; done) | ((try simp only [castN]); simp [hh, e0, e7']; omega)
      | true =>
        by_cases e0 : a1 = 0
        · (have fct := And.intro hh (And.intro e0 (And.intro e7 (hlm))); (repeat' (first
    | refine gF ?_
    | ((with_reducible show (_ ∧ _) ∧ _ ∧ _); (refine eK ?_ ?_ <;> with_reducible repeat' (first | exact trivial | (show _ ∧ _; refine aK ?_ ?_)))))); all_goals clear fct)
          all_goals first | (simp [hh, e0, e7']; done) | ((try simp only [castN]); simp [hh, e0, e7']; omega)
        · (have fct := And.intro hh (And.intro (eq_false e0) (And.intro e7 (hlm))); (repeat' (first
    | refine gF ?_
    | ((with_reducible show (_ ∧ _) ∧ _ ∧ _); (refine eK ?_ ?_ <;> with_reducible repeat' (first | exact trivial | (show _ ∧ _; refine aK ?_ ?_)))))); all_goals clear fct)
          all_goals first | (simp [hh, e0, e7']; done) | ((try simp only [castN]); simp [hh, e0, e7']; omega)
    · have e7' : ¬ a7 = [] := fun h => e7 (by rw [h]; rfl)
      cases hh : holdK a1 with
      | false =>
        by_cases e0 : a1 = 0
        · (have fct := And.intro hh (And.intro e0 (And.intro e7 (hlm))); (repeat' (first
    | refine gF ?_
    | ((with_reducible show (_ ∧ _) ∧ _ ∧ _); (refine eK ?_ ?_ <;> with_reducible repeat' (first | exact trivial | (show _ ∧ _; refine aK ?_ ?_)))))); all_goals clear fct)
          all_goals first | (simp [hh, e0, e7']; done) | ((try simp only [castN]); simp [hh, e0, e7']; omega)
        · (have fct := And.intro hh (And.intro (eq_false e0) (And.intro e7 (hlm))); (repeat' (first
    | refine gF ?_
    | ((with_reducible show (_ ∧ _) ∧ _ ∧ _); (refine eK ?_ ?_ <;> with_reducible repeat' (first | exact trivial | (show _ ∧ _; refine aK ?_ ?_)))))); all_goals clear fct)
          all_goals first | (simp [hh, e0, e7']; done) | ((try simp only [castN]); simp [hh, e0, e7']; omega)
      | true =>
        by_cases e0 : a1 = 0
        · (have fct := And.intro hh (And.intro e0 (And.intro e7 (hlm))); (repeat' (first
    | refine gF ?_
    | ((with_reducible show (_ ∧ _) ∧ _ ∧ _); (refine eK ?_ ?_ <;> with_reducible repeat' (first | exact trivial | (show _ ∧ _; refine aK ?_ ?_)))))); all_goals clear fct)
          all_goals first | (simp [hh, e0, e7']; done) | ((try simp only [castN]); simp [hh, e0, e7']; omega)
        · (have fct := And.intro hh (And.intro (eq_false e0) (And.intro e7 (hlm))); (repeat' (first
    | refine gF ?_
    | ((with_reducible show (_ ∧ _) ∧ _ ∧ _); (refine eK ?_ ?_ <;> with_reducible repeat' (first | exact trivial | (show _ ∧ _; refine aK ?_ ?_)))))); all_goals clear fct)
          all_goals first | (simp [hh, e0, e7']; done) | ((try simp only [castN]); simp [hh, e0, e7']; omega)
end Go.Proofs.Heir
end
section
set_option linter.unusedSimpArgs false
set_option linter.unusedVariables false
namespace Go.Proofs.Heir
open Go Go.Am Go.RowKit Go.Lib
set_option maxRecDepth 100000
set_option maxHeartbeats 8000000
theorem allIx_no {α : Type} {p : Nat → α → Bool} {l : List α} {k : Nat} {x : α} (h : l[k]? = some x) (hp : p k x = false) : allIx p 0 l = false := by
  rw [Bool.eq_false_iff]
  intro h1
  have := allIx_iff.1 h1 k x h
  rw [Nat.zero_add, hp] at this
  cases this
theorem allIx_yes {α : Type} {p : Nat → α → Bool} {l : List α} (h : ∀ k x, l[k]? = some x → p k x = true) : allIx p 0 l = true :=
  allIx_iff.2 fun k x hx => by rw [Nat.zero_add]; exact h k x hx
theorem f77_ok (f : ForM) (hs : SmallN f.nodes) : FnOK Tryz.prog 77 [] [eFor f] [] (eBool (rightF f)) := by
  have hl := hs.len
  have h38 : ∀ x ∈ f.nodes, FnOK Tryz.prog 96 [] [eNode x] [] (eBool (namedN x)) := fun x hx => f96_ok x (by have := hs.attrs x hx; omega)
  have h39 := f97_ok f
  have h40 := f98_ok f hs
  have h41 := f99_ok f hs
  have h42 := f100_ok f
  have h43 : (∀ n, thereN f.nodes n = true → nodeOK f.nodes n (nd f.nodes n) = true) → ∀ k, k < f.nodes.length → FnOK Tryz.prog 101 [] [eFor f, eInt k] [] (eBool (endsN f.nodes f.nodes.length k)) := fun hN k hk => f101_ok f (by omega) (fun k x hx => by have := node_up hN k (there_get hx); rwa [nd_get hx] at this) k hk
  obtain ⟨l, m⟩ := f
  unfold rightF headOK
  simp only at hl h38 h39 h40 h41 h42 h43 ⊢
  have hlm : (l.map oNode).length = l.length := List.length_map ..
  refine FnOK.startC (rvs := [.tmp 2]) G G_good Tryz.func77 rfl Tryz.ntmps77 rfl rfl ?_; with_reducible refine wD ?_
  by_cases e1 : m < 1
  · have c1 : decide (1 ≤ m) = false := decide_eq_false (by omega)
    rw [c1]
    (have fct := e1; (repeat' (first
    | refine gF ?_
    | ((with_reducible show (_ ∧ _) ∧ _ ∧ _); (refine eK ?_ ?_ <;> with_reducible repeat' (first | exact trivial | (show _ ∧ _; refine aK ?_ ?_)))))); all_goals clear fct)
    all_goals simp
  by_cases e2 : 400 < m
  · have c1 : decide (m ≤ 400) = false := decide_eq_false (by omega)
    rw [c1]
    (have fct := And.intro (eq_false e1) (e2); (repeat' (first
    | refine gF ?_
    | ((with_reducible show (_ ∧ _) ∧ _ ∧ _); (refine eK ?_ ?_ <;> with_reducible repeat' (first | exact trivial | (show _ ∧ _; refine aK ?_ ?_)))))); all_goals clear fct)
    all_goals simp
  by_cases e3 : l.length < 1
  · have c1 : decide (1 ≤ l.length) = false := decide_eq_false (by omega)
    have e3' : (l.length : Int) < 1 := by omega
    rw [c1]
    (have fct := And.intro (eq_false e1) (And.intro (eq_false e2) (And.intro hlm (e3'))); (repeat' (first
    | refine gF ?_
    | ((with_reducible show (_ ∧ _) ∧ _ ∧ _); (refine eK ?_ ?_ <;> with_reducible repeat' (first | exact trivial | (show _ ∧ _; refine aK ?_ ?_)))))); all_goals clear fct)
    all_goals simp
  have e3' : ¬ (l.length : Int) < 1 := by omega
  by_cases e4 : m < (l.length : Int)
  · have c1 : decide ((l.length : Int) ≤ m) = false := decide_eq_false (by omega)
    rw [c1]
    (have fct := And.intro (eq_false e1) (And.intro (eq_false e2) (And.intro hlm (And.intro (eq_false e3') (e4)))); (repeat' (first
    | refine gF ?_
    | ((with_reducible show (_ ∧ _) ∧ _ ∧ _); (refine eK ?_ ?_ <;> with_reducible repeat' (first | exact trivial | (show _ ∧ _; refine aK ?_ ?_)))))); all_goals clear fct)
    all_goals simp
  obtain ⟨x0, hx0⟩ : ∃ x, l[0]? = some x := ⟨_, List.getElem?_eq_getElem (by omega)⟩
  have hn0 : nd l 0 = x0 := nd_get (k := 0) hx0
  rw [hn0]
  obtain ⟨z1, z2, z3, z4, z5, z6, z7, z8, z9, z10⟩ := x0
  by_cases e5 : ¬ z1 = 0
  · (have fct := And.intro (eq_false e1) (And.intro (eq_false e2) (And.intro hlm (And.intro (eq_false e3') (And.intro (eq_false e4) ((eq_false e5)))))); (repeat' (first
    | refine gF ?_
    | ((refine IdxK.mk 0 (eNode ⟨z1, z2, z3, z4, z5, z6, z7, z8, z9, z10⟩) rfl (node_get hx0) ?_) <;> with_reducible refine wK ?_)
    | ((with_reducible show (_ ∧ _) ∧ _ ∧ _); (refine eK ?_ ?_ <;> with_reducible repeat' (first | exact trivial | (show _ ∧ _; refine aK ?_ ?_)))))); all_goals clear fct)
    all_goals simp [e5]
  have e5 := Decidable.not_not.1 e5
  have c1 : (decide (1 ≤ m) && decide (m ≤ 400) && decide (1 ≤ l.length) && decide ((l.length : Int) ≤ m) && decide (z1 = 0)) = true := by
    simp only [Bool.and_eq_true, decide_eq_true_eq]; omega
  simp only at c1 ⊢
  rw [c1, Bool.true_and]
  (have fct := And.intro (eq_false e1) (And.intro (eq_false e2) (And.intro hlm (And.intro (eq_false e3') (And.intro (eq_false e4) (e5))))); (repeat' (first
    | refine gF ?_
    | ((refine IdxK.mk 0 (eNode ⟨z1, z2, z3, z4, z5, z6, z7, z8, z9, z10⟩) rfl (node_get hx0) ?_) <;> with_reducible refine wK ?_)
    | ((with_reducible show (_ ∧ _) ∧ _ ∧ _); (refine eK ?_ ?_ <;> with_reducible repeat' (first | exact trivial | (show _ ∧ _; refine aK ?_ ?_)))))); all_goals clear fct)
  refine LoopK.use G G_good (fun (k : Nat) => [(1, .ptr 10 0 0), (44, eNodes l), (45, eInt l.length), (46, eInt k)]) (fun _ => [(10, .live 2 [eFor ⟨l, m⟩] false)])
    (fun k => k ≤ l.length ∧ ∀ j x, j < k → l[j]? = some x → nodeOK l j x = true) (fun k => l.length - k) 0 ⟨Nat.zero_le _, fun j x h => by omega⟩
    ⟨⟨rfl, rfl⟩, ⟨⟨rfl, rfl⟩, rfl, by show (l.length : Int) = ((l.map oNode).length : Int); rw [hlm], rfl, trivial⟩, ⟨⟨rfl, rfl, trivial⟩, trivial⟩, trivial⟩ ?_
  rintro k ⟨hk, hok⟩
  with_reducible refine wK ?_
  refine IfK.mk (fun g1 => ?_) (fun g1 => ?_) <;> (try simp only [castN] at g1) <;> with_reducible refine wK ?_
  · have hk' : k < l.length := by simp only [decide_eq_true_eq] at g1; omega
    obtain ⟨x, hx⟩ : ∃ x, l[k]? = some x := ⟨_, List.getElem?_eq_getElem hk'⟩
    have h38' := h38 x (List.mem_of_getElem? hx)
    have h39' := h39 k x hx
    have h40' := h40 k x hx
    have h41' := h41 k x hx
    have h42' := h42 k x hx
    have bad : nodeOK l k x = false → allIx (fun k x => nodeOK l k x) 0 l = false := fun h => allIx_no hx h
    have good : nodeOK l k x = true → ∀ j y, j < k + 1 → l[j]? = some y → nodeOK l j y = true := fun h j y hj hy => by
      rcases Nat.lt_or_ge j k with h6 | h6
      · exact hok j y h6 hy
      · have : j = k := by omega
        subst this
        rw [hx] at hy; cases hy; exact h
    obtain ⟨a1, a2, a3, a4, a5, a6, a7, a8, a9, a10⟩ := x
    refine IdxK.mk k (eNode ⟨a1, a2, a3, a4, a5, a6, a7, a8, a9, a10⟩) rfl (node_get hx) ?_; with_reducible refine wK ?_
    cases q1 : namedN ⟨a1, a2, a3, a4, a5, a6, a7, a8, a9, a10⟩ with
    | false =>
      rw [bad (by unfold nodeOK; rw [q1]; rfl), Bool.false_and]
      (have fct := q1; (repeat' (first
    | refine gF ?_
    | (((with_reducible show CallK _ _ 96 _ _ _ _); refine CallK.lit [] h38' c96 ⟨⟨rfl, rfl, rfl, rfl, rfl, rfl, rfl, rfl, rfl, rfl, trivial⟩, trivial⟩ rfl rfl ?_) <;> with_reducible refine wK ?_)
    | ((with_reducible show (_ ∧ _) ∧ _ ∧ _); (refine eK ?_ ?_ <;> with_reducible repeat' (first | exact trivial | (show _ ∧ _; refine aK ?_ ?_)))))); all_goals clear fct)
    | true =>
      cases q2 : ownedN l k ⟨a1, a2, a3, a4, a5, a6, a7, a8, a9, a10⟩ with
      | false =>
        rw [bad (by unfold nodeOK; rw [q1, q2]; rfl), Bool.false_and]
        (have fct := And.intro q1 (q2); (repeat' (first
    | refine gF ?_
    | ((first
      | ((with_reducible show CallK _ _ 96 _ _ _ _); refine CallK.lit [] h38' c96 ⟨⟨rfl, rfl, rfl, rfl, rfl, rfl, rfl, rfl, rfl, rfl, trivial⟩, trivial⟩ rfl rfl ?_)
      | ((with_reducible show CallK _ _ 97 _ _ _ _); refine CallK.lit [] h39' c97 ⟨⟨rfl, rfl, trivial⟩, rfl, trivial⟩ rfl rfl ?_)) <;> with_reducible refine wK ?_)
    | ((with_reducible show (_ ∧ _) ∧ _ ∧ _); (refine eK ?_ ?_ <;> with_reducible repeat' (first | exact trivial | (show _ ∧ _; refine aK ?_ ?_)))))); all_goals clear fct)
      | true =>
        cases q3 : hungN l k ⟨a1, a2, a3, a4, a5, a6, a7, a8, a9, a10⟩ with
        | false =>
          rw [bad (by unfold nodeOK; rw [q1, q2, q3]; rfl), Bool.false_and]
          (have fct := And.intro q1 (And.intro q2 (q3)); (repeat' (first
    | refine gF ?_
    | ((first
      | ((with_reducible show CallK _ _ 96 _ _ _ _); refine CallK.lit [] h38' c96 ⟨⟨rfl, rfl, rfl, rfl, rfl, rfl, rfl, rfl, rfl, rfl, trivial⟩, trivial⟩ rfl rfl ?_)
      | ((with_reducible show CallK _ _ 97 _ _ _ _); refine CallK.lit [] h39' c97 ⟨⟨rfl, rfl, trivial⟩, rfl, trivial⟩ rfl rfl ?_)
      | ((with_reducible show CallK _ _ 98 _ _ _ _); refine CallK.lit [] h40' c98 ⟨⟨rfl, rfl, trivial⟩, rfl, trivial⟩ rfl rfl ?_)) <;> with_reducible refine wK ?_)
    | ((with_reducible show (_ ∧ _) ∧ _ ∧ _); (refine eK ?_ ?_ <;> with_reducible repeat' (first | exact trivial | (show _ ∧ _; refine aK ?_ ?_)))))); all_goals clear fct)
        | true =>
          cases q4 : bearsN l k ⟨a1, a2, a3, a4, a5, a6, a7, a8, a9, a10⟩ with
          | false =>
            rw [bad (by unfold nodeOK; rw [q1, q2, q3, q4]; rfl), Bool.false_and]
            (have fct := And.intro q1 (And.intro q2 (And.intro q3 (q4))); (repeat' (first
    | refine gF ?_
    | ((first
      | ((with_reducible show CallK _ _ 96 _ _ _ _); refine CallK.lit [] h38' c96 ⟨⟨rfl, rfl, rfl, rfl, rfl, rfl, rfl, rfl, rfl, rfl, trivial⟩, trivial⟩ rfl rfl ?_)
      | ((with_reducible show CallK _ _ 97 _ _ _ _); refine CallK.lit [] h39' c97 ⟨⟨rfl, rfl, trivial⟩, rfl, trivial⟩ rfl rfl ?_)
      | ((with_reducible show CallK _ _ 98 _ _ _ _); refine CallK.lit [] h40' c98 ⟨⟨rfl, rfl, trivial⟩, rfl, trivial⟩ rfl rfl ?_)
      | ((with_reducible show CallK _ _ 99 _ _ _ _); refine CallK.lit [] h41' c99 ⟨⟨rfl, rfl, trivial⟩, rfl, trivial⟩ rfl rfl ?_)) <;> with_reducible refine wK ?_)
    | ((with_reducible show (_ ∧ _) ∧ _ ∧ _); (refine eK ?_ ?_ <;> with_reducible repeat' (first | exact trivial | (show _ ∧ _; refine aK ?_ ?_)))))); all_goals clear fct)
          | true =>
            cases q5 : shadedN l k ⟨a1, a2, a3, a4, a5, a6, a7, a8, a9, a10⟩ with
            | false =>
              rw [bad (by unfold nodeOK; rw [q1, q2, q3, q4, q5]; rfl), Bool.false_and]
              (have fct := And.intro q1 (And.intro q2 (And.intro q3 (And.intro q4 (q5)))); (repeat' (first
    | refine gF ?_
    | ((first
      | ((with_reducible show CallK _ _ 96 _ _ _ _); refine CallK.lit [] h38' c96 ⟨⟨rfl, rfl, rfl, rfl, rfl, rfl, rfl, rfl, rfl, rfl, trivial⟩, trivial⟩ rfl rfl ?_)
      | ((with_reducible show CallK _ _ 97 _ _ _ _); refine CallK.lit [] h39' c97 ⟨⟨rfl, rfl, trivial⟩, rfl, trivial⟩ rfl rfl ?_)
      | ((with_reducible show CallK _ _ 98 _ _ _ _); refine CallK.lit [] h40' c98 ⟨⟨rfl, rfl, trivial⟩, rfl, trivial⟩ rfl rfl ?_)
      | ((with_reducible show CallK _ _ 99 _ _ _ _); refine CallK.lit [] h41' c99 ⟨⟨rfl, rfl, trivial⟩, rfl, trivial⟩ rfl rfl ?_)
      | ((with_reducible show CallK _ _ 100 _ _ _ _); refine CallK.lit [] h42' c100 ⟨⟨rfl, rfl, trivial⟩, rfl, trivial⟩ rfl rfl ?_)) <;> with_reducible refine wK ?_)
    | ((with_reducible show (_ ∧ _) ∧ _ ∧ _); (refine eK ?_ ?_ <;> with_reducible repeat' (first | exact trivial | (show _ ∧ _; refine aK ?_ ?_)))))); all_goals clear fct)
            | true =>
              have hnx := good (by unfold nodeOK; rw [q1, q2, q3, q4, q5]; rfl)
              (have fct := And.intro q1 (And.intro q2 (And.intro q3 (And.intro q4 (q5)))); (repeat' (first
    | refine gF ?_
    | ((first
      | ((with_reducible show CallK _ _ 96 _ _ _ _); refine CallK.lit [] h38' c96 ⟨⟨rfl, rfl, rfl, rfl, rfl, rfl, rfl, rfl, rfl, rfl, trivial⟩, trivial⟩ rfl rfl ?_)
      | ((with_reducible show CallK _ _ 97 _ _ _ _); refine CallK.lit [] h39' c97 ⟨⟨rfl, rfl, trivial⟩, rfl, trivial⟩ rfl rfl ?_)
      | ((with_reducible show CallK _ _ 98 _ _ _ _); refine CallK.lit [] h40' c98 ⟨⟨rfl, rfl, trivial⟩, rfl, trivial⟩ rfl rfl ?_)
      | ((with_reducible show CallK _ _ 99 _ _ _ _); refine CallK.lit [] h41' c99 ⟨⟨rfl, rfl, trivial⟩, rfl, trivial⟩ rfl rfl ?_)
      | ((with_reducible show CallK _ _ 100 _ _ _ _); refine CallK.lit [] h42' c100 ⟨⟨rfl, rfl, trivial⟩, rfl, trivial⟩ rfl rfl ?_)
      | ((with_reducible show NextK _ _); refine NextK.mk (k + 1) ⟨by omega, hnx⟩ (by omega) ⟨⟨rfl, rfl⟩, ⟨⟨rfl, rfl⟩, rfl, rfl, by show ((k + 1 : Nat) : Int) = (k : Int) + 1; omega, trivial⟩, ⟨⟨rfl, rfl, trivial⟩, trivial⟩, trivial⟩)) <;> with_reducible refine wK ?_)
    | ((with_reducible show (_ ∧ _) ∧ _ ∧ _); (refine eK ?_ ?_ <;> with_reducible repeat' (first | exact trivial | (show _ ∧ _; refine aK ?_ ?_)))))); all_goals clear fct)
  · have hkl : k = l.length := by simp only [decide_eq_false_iff_not] at g1; omega
    have hall : ∀ (j : Nat) (x : NodeM), l[j]? = some x → nodeOK l j x = true := fun j x hx => hok j x (by have := (List.getElem?_eq_some_iff.1 hx).1; omega) hx
    rw [allIx_yes hall, Bool.true_and]
    have h43' := h43 fun n hn => by
      obtain ⟨k, x, rfl, hk, hx⟩ := there_iff.1 hn
      rw [hx]; exact hall k x hk
    refine LoopK.use G G_good (fun (k : Nat) => [(1, .ptr 10 0 0), (82, eInt l.length), (83, eInt k)]) (fun _ => [(10, .live 2 [eFor ⟨l, m⟩] false)])
      (fun k => k ≤ l.length ∧ ∀ (j : Nat) (x : NodeM), j < k → l[j]? = some x → endsN l l.length j = true) (fun k => l.length - k) 0 ⟨Nat.zero_le _, fun j x h => by omega⟩
      ⟨⟨rfl, rfl⟩, ⟨⟨rfl, rfl⟩, by show (l.length : Int) = ((l.map oNode).length : Int); rw [hlm], rfl, trivial⟩, ⟨⟨rfl, rfl, trivial⟩, trivial⟩, trivial⟩ ?_
    rintro i ⟨hi, hends⟩
    with_reducible refine wK ?_
    refine IfK.mk (fun g2 => ?_) (fun g2 => ?_) <;> (try simp only [castN] at g2) <;> with_reducible refine wK ?_
    · have hi' : i < l.length := by simp only [decide_eq_true_eq] at g2; omega
      obtain ⟨y, hy⟩ : ∃ y, l[i]? = some y := ⟨_, List.getElem?_eq_getElem hi'⟩
      have h43'' := h43' i hi'
      refine CallK.lit [] h43'' c101 ⟨⟨rfl, rfl, trivial⟩, rfl, trivial⟩ rfl rfl ?_; with_reducible refine wK ?_
      cases q : endsN l l.length i with
      | false =>
        rw [allIx_no hy q]
        (have fct := q; (repeat' (first
    | refine gF ?_
    | ((with_reducible show (_ ∧ _) ∧ _ ∧ _); (refine eK ?_ ?_ <;> with_reducible repeat' (first | exact trivial | (show _ ∧ _; refine aK ?_ ?_)))))); all_goals clear fct)
      | true =>
        (have fct := q; (repeat' (first
    | refine gF ?_
    | (((with_reducible show NextK _ _); refine NextK.mk (i + 1) ⟨by omega, fun j x hj hx => ?_⟩ (by omega) ⟨⟨rfl, rfl⟩, ⟨⟨rfl, rfl⟩, rfl, by show ((i + 1 : Nat) : Int) = (i : Int) + 1; omega, trivial⟩, ⟨⟨rfl, rfl, trivial⟩, trivial⟩, trivial⟩) <;> with_reducible refine wK ?_)
    | ((with_reducible show (_ ∧ _) ∧ _ ∧ _); (refine eK ?_ ?_ <;> with_reducible repeat' (first | exact trivial | (show _ ∧ _; refine aK ?_ ?_)))))); all_goals clear fct)
        rcases Nat.lt_or_ge j i with h6 | h6
        · exact hends j x h6 hx
        · have : j = i := by omega
          rw [this]; exact q
    · have hil : i = l.length := by simp only [decide_eq_false_iff_not] at g2; omega
      rw [allIx_yes fun j x hx => hends j x (by have := (List.getElem?_eq_some_iff.1 hx).1; omega) hx]
      (refine eK ?_ ?_ <;> with_reducible repeat' (first | exact trivial | (show _ ∧ _; refine aK ?_ ?_)))
theorem f48_ok (f : ForM) (hs : SmallN f.nodes) : FnOK Tryz.prog 48 [] [eFor f] [] (eBool (rightF f)) := by
  have h23 := f77_ok f hs
  obtain ⟨l, m⟩ := f
  refine FnOK.startC (rvs := [.tmp 2]) G G_good Tryz.func48 rfl Tryz.ntmps48 rfl rfl ?_; with_reducible refine wD ?_
  refine CallK.lit [] h23 c77 ⟨⟨rfl, rfl, trivial⟩, trivial⟩ rfl rfl ?_; with_reducible refine wK ?_
  (refine eK ?_ ?_ <;> with_reducible repeat' (first | exact trivial | (show _ ∧ _; refine aK ?_ ?_)))
end Go.Proofs.Heir
end
section
set_option linter.unusedSimpArgs false
set_option linter.unusedVariables false
namespace Go.Proofs.Heir
open Go Go.Am Go.RowKit Go.Lib
set_option maxRecDepth 100000
set_option maxHeartbeats 8000000
theorem noRef_ints (l : List Int) : noRefL (l.map oInt) = true := by
  rw [noRefL_iff]; intro x hx
  obtain ⟨a, _, rfl⟩ := List.mem_map.1 hx
  rfl
theorem one_ints (l : List Int) : oneL (flat (l.map oInt)) = true := oneL_map oInt (fun _ => rfl) l
theorem frz_ints {m : ML} {fz : Nat → Bool} {tab : List (Nat × Nat)} {n t len : Nat} {ro : Bool} {rows : List AV} {l : List Int} (h1 : lkM m t = .live 1 rows ro) (h2 : fz t = true) (h3 : rows = l.map oInt) (h4 : len = l.length) : FrzK m fz (MF tab fz m n) (eInts l) t 0 len := by
  subst h3; subst h4
  have e : (l.map oInt).length = l.length := List.length_map ..
  exact .cut h1 h2 (by omega) (by rw [List.drop_zero, List.take_of_length_le (by omega)]) (noRef_ints l)
@[reducible] def rInts (l : List Int) : MS := .live 1 (l.map oInt) false
theorem count_step {l : List Int} {n c : Int} {k : Nat} (h : l[k]? = some c) : (l.take (k + 1)).count n = (l.take k).count n + if c = n then 1 else 0 := by
  rw [take_snocI h, List.count_append, List.count_singleton]
  by_cases e : c = n <;> simp [e]
theorem f75_ok (l : List Int) (hl : l.length ≤ 100000) (n : Int) : FnOK Tryz.prog 75 [] [eInts l, eInt n] [] (eInt (l.count n)) := by
  have hlm : (l.map oInt).length = l.length := List.length_map ..
  refine FnOK.startC (rvs := [.tmp 4]) G G_good Tryz.func75 rfl Tryz.ntmps75 rfl rfl ?_; with_reducible refine wD ?_
  refine LoopK.use G G_good (fun (k : Nat) => [(0, eInts l), (1, eInt n), (5, eInt ((l.take k).count n)), (6, eInt k)]) (fun _ => []) (fun k => k ≤ l.length) (fun k => l.length - k) 0 (Nat.zero_le _)
    ⟨⟨rfl, rfl⟩, ⟨rfl, rfl, rfl, rfl, trivial⟩, trivial⟩ ?_
  rintro k hk
  with_reducible refine wK ?_
  refine IfK.mk (fun h1 => ?_) (fun h1 => ?_) <;> (try simp only [castN] at h1) <;> with_reducible refine wK ?_
  · have hk' : k < l.length := by simp only [decide_eq_true_eq] at h1; omega
    obtain ⟨c, hc⟩ : ∃ a, l[k]? = some a := ⟨_, List.getElem?_eq_getElem hk'⟩
    have hst := count_step (n := n) hc
    have hle : (l.take k).count n ≤ k := Nat.le_trans List.count_le_length (by simp; omega)
    refine IdxK.mk k (eInt c) rfl (int_get hc) ?_; with_reducible refine wK ?_
    by_cases e : c = n
    · rw [if_pos e] at hst
      (have fct := e; (repeat' (first
    | refine gF ?_
    | (((with_reducible show NextK _ _); refine NextK.mk (k + 1) (by omega) (by omega) ⟨⟨rfl, rfl⟩, ⟨rfl, rfl, by show (((l.take (k + 1)).count n : Nat) : Int) = _; rw [hst]; rfl, by show ((k + 1 : Nat) : Int) = (k : Int) + 1; omega, trivial⟩, trivial⟩) <;> with_reducible refine wK ?_)
    | ((with_reducible show (_ ∧ _) ∧ _ ∧ _); (refine eK ?_ ?_ <;> with_reducible repeat' (first | exact trivial | (show _ ∧ _; refine aK ?_ ?_)))))); all_goals clear fct)
    · rw [if_neg e] at hst
      (have fct := (eq_false e); (repeat' (first
    | refine gF ?_
    | (((with_reducible show NextK _ _); refine NextK.mk (k + 1) (by omega) (by omega) ⟨⟨rfl, rfl⟩, ⟨rfl, rfl, by show (((l.take (k + 1)).count n : Nat) : Int) = _; rw [hst]; simp, by show ((k + 1 : Nat) : Int) = (k : Int) + 1; omega, trivial⟩, trivial⟩) <;> with_reducible refine wK ?_)
    | ((with_reducible show (_ ∧ _) ∧ _ ∧ _); (refine eK ?_ ?_ <;> with_reducible repeat' (first | exact trivial | (show _ ∧ _; refine aK ?_ ?_)))))); all_goals clear fct)
  · (refine eK ?_ ?_ <;> with_reducible repeat' (first | exact trivial | (show _ ∧ _; refine aK ?_ ?_)))
    have : k = l.length := by simp only [decide_eq_false_iff_not] at h1; omega
    rw [this, List.take_length]
end Go.Proofs.Heir
end
section
set_option linter.unusedSimpArgs false
set_option linter.unusedVariables false
namespace Go.Proofs.Heir
open Go Go.Am Go.RowKit Go.Lib
set_option maxRecDepth 100000
set_option maxHeartbeats 8000000
def smallX (x : NodeM) : Bool := decide (x.kids.length ≤ 60) && decide (x.attrs.length ≤ 60) && decide (x.name.size ≤ 300)
theorem short_eq (f : ForM) : shortF f = (decide (f.nodes.length ≤ 60) && f.nodes.all smallX) := rfl
theorem all_no {α : Type} {p : α → Bool} {l : List α} {k : Nat} {x : α} (h : l[k]? = some x) (hp : p x = false) : l.all p = false := by
  rw [Bool.eq_false_iff]
  intro h1
  rw [List.all_eq_true] at h1
  rw [h1 x (List.mem_of_getElem? h)] at hp; cases hp
theorem all_yes {α : Type} {p : α → Bool} {l : List α} (h : ∀ (k : Nat) (x : α), l[k]? = some x → p x = true) : l.all p = true := by
  rw [List.all_eq_true]
  intro x hx
  obtain ⟨k, hk⟩ := List.getElem?_of_mem hx
  exact h k x hk
theorem f9_ok (f : ForM) : FnOK Tryz.prog 9 [] [eFor f] [] (eBool (shortF f)) := by
  rw [short_eq]
  obtain ⟨l, m⟩ := f
  simp only
  have hlm : (l.map oNode).length = l.length := List.length_map ..
  refine FnOK.startC (rvs := [.tmp 2]) G G_good Tryz.func9 rfl Tryz.ntmps9 rfl rfl ?_; with_reducible refine wD ?_
  by_cases e0 : (60 : Int) < (l.length : Int)
  · rw [decide_eq_false (show ¬ l.length ≤ 60 by omega)]
    (have fct := And.intro hlm (e0); (repeat' (first
    | refine gF ?_
    | ((with_reducible show (_ ∧ _) ∧ _ ∧ _); (refine eK ?_ ?_ <;> with_reducible repeat' (first | exact trivial | (show _ ∧ _; refine aK ?_ ?_)))))); all_goals clear fct)
    all_goals rfl
  rw [decide_eq_true (show l.length ≤ 60 by omega), Bool.true_and]
  (have fct := And.intro hlm ((eq_false e0)); (repeat' (first
    | refine gF ?_
    | ((with_reducible show (_ ∧ _) ∧ _ ∧ _); (refine eK ?_ ?_ <;> with_reducible repeat' (first | exact trivial | (show _ ∧ _; refine aK ?_ ?_)))))); all_goals clear fct)
  refine LoopK.use G G_good (fun (k : Nat) => [(1, .ptr 10 0 0), (3, eInt k)]) (fun _ => [(10, .live 2 [eFor ⟨l, m⟩] false)])
    (fun k => k ≤ l.length ∧ ∀ (j : Nat) (y : NodeM), j < k → l[j]? = some y → smallX y = true) (fun k => l.length - k) 0 ⟨Nat.zero_le _, fun j y h => by omega⟩
    ⟨⟨rfl, rfl⟩, ⟨⟨rfl, rfl⟩, rfl, trivial⟩, ⟨⟨rfl, rfl, trivial⟩, trivial⟩, trivial⟩ ?_
  rintro k ⟨hk, hok⟩
  with_reducible refine wK ?_
  refine IfK.mk (fun h1 => ?_) (fun h1 => ?_) <;> (try simp only [castN] at h1) <;> with_reducible refine wK ?_
  · have hk' : k < l.length := by simp only [decide_eq_true_eq] at h1; omega
    obtain ⟨x, hx⟩ : ∃ x, l[k]? = some x := ⟨_, List.getElem?_eq_getElem hk'⟩
    have bad : smallX x = false → l.all smallX = false := fun h => all_no hx h
    have good : smallX x = true → ∀ (j : Nat) (y : NodeM), j < k + 1 → l[j]? = some y → smallX y = true := fun h j y hj hy => by
      rcases Nat.lt_or_ge j k with h6 | h6
      · exact hok j y h6 hy
      · have : j = k := by omega
        subst this
        rw [hx] at hy; cases hy; exact h
    obtain ⟨a1, a2, a3, a4, a5, a6, a7, a8, a9, a10⟩ := x
    have hla : (a5.map oAttr).length = a5.length := List.length_map ..
    have hlk : (a7.map oInt).length = a7.length := List.length_map ..
    have sm : smallX ⟨a1, a2, a3, a4, a5, a6, a7, a8, a9, a10⟩ = (decide (a7.length ≤ 60) && decide (a5.length ≤ 60) && decide (a2.size ≤ 300)) := rfl
    rw [sm] at bad good
    refine IdxK.mk k (eNode ⟨a1, a2, a3, a4, a5, a6, a7, a8, a9, a10⟩) rfl (node_get hx) ?_; with_reducible refine wK ?_
    by_cases e1 : (60 : Int) < (a7.length : Int)
    · rw [bad (by rw [decide_eq_false (show ¬ a7.length ≤ 60 by omega)]; rfl)]
      (have fct := And.intro hlk (e1); (repeat' (first
    | refine gF ?_
    | ((with_reducible show (_ ∧ _) ∧ _ ∧ _); (refine eK ?_ ?_ <;> with_reducible repeat' (first | exact trivial | (show _ ∧ _; refine aK ?_ ?_)))))); all_goals clear fct)
    by_cases e2 : (60 : Int) < (a5.length : Int)
    · rw [bad (by rw [decide_eq_false (show ¬ a5.length ≤ 60 by omega), Bool.and_false]; rfl)]
      (have fct := And.intro hlk (And.intro hla (And.intro (eq_false e1) (e2))); (repeat' (first
    | refine gF ?_
    | ((refine IdxK.mk k (eNode ⟨a1, a2, a3, a4, a5, a6, a7, a8, a9, a10⟩) rfl (node_get hx) ?_) <;> with_reducible refine wK ?_)
    | ((with_reducible show (_ ∧ _) ∧ _ ∧ _); (refine eK ?_ ?_ <;> with_reducible repeat' (first | exact trivial | (show _ ∧ _; refine aK ?_ ?_)))))); all_goals clear fct)
    by_cases e3 : (300 : Int) < (a2.size : Int)
    · rw [bad (by rw [decide_eq_false (show ¬ a2.size ≤ 300 by omega), Bool.and_false])]
      (have fct := And.intro hlk (And.intro hla (And.intro (eq_false e1) (And.intro (eq_false e2) (e3)))); (repeat' (first
    | refine gF ?_
    | ((refine IdxK.mk k (eNode ⟨a1, a2, a3, a4, a5, a6, a7, a8, a9, a10⟩) rfl (node_get hx) ?_) <;> with_reducible refine wK ?_)
    | ((with_reducible show (_ ∧ _) ∧ _ ∧ _); (refine eK ?_ ?_ <;> with_reducible repeat' (first | exact trivial | (show _ ∧ _; refine aK ?_ ?_)))))); all_goals clear fct)
    have hnx := good (by simp only [Bool.and_eq_true, decide_eq_true_eq]; omega)
    (have fct := And.intro hlk (And.intro hla (And.intro (eq_false e1) (And.intro (eq_false e2) ((eq_false e3))))); (repeat' (first
    | refine gF ?_
    | ((first
      | (refine IdxK.mk k (eNode ⟨a1, a2, a3, a4, a5, a6, a7, a8, a9, a10⟩) rfl (node_get hx) ?_)
      | ((with_reducible show NextK _ _); refine NextK.mk (k + 1) ⟨by omega, hnx⟩ (by omega) ⟨⟨rfl, rfl⟩, ⟨⟨rfl, rfl⟩, by show ((k + 1 : Nat) : Int) = (k : Int) + 1; omega, trivial⟩, ⟨⟨rfl, rfl, trivial⟩, trivial⟩, trivial⟩)) <;> with_reducible refine wK ?_)
    | ((with_reducible show (_ ∧ _) ∧ _ ∧ _); (refine eK ?_ ?_ <;> with_reducible repeat' (first | exact trivial | (show _ ∧ _; refine aK ?_ ?_)))))); all_goals clear fct)
  · have hkl : k = l.length := by simp only [decide_eq_false_iff_not] at h1; omega
    rw [all_yes fun j y hy => hok j y (by have := (List.getElem?_eq_some_iff.1 hy).1; omega) hy]
    (refine eK ?_ ?_ <;> with_reducible repeat' (first | exact trivial | (show _ ∧ _; refine aK ?_ ?_)))
end Go.Proofs.Heir
end
section
set_option linter.unusedSimpArgs false
set_option linter.unusedVariables false
namespace Go.Proofs.Heir
open Go Go.Am Go.RowKit Go.Lib
set_option maxRecDepth 100000
theorem node_at {l : List NodeM} {n : Int} (h : 0 ≤ n ∧ n < (l.length : Int)) : ∃ (i : Nat) (y : NodeM), n = (i : Int) ∧ l[i]? = some y ∧ nd l n = y := by
  obtain ⟨i, y, h1, h2, h3⟩ := there_iff.1 (show thereN l n = true by unfold thereN; simp; omega)
  exact ⟨i, y, h1, h2, h3⟩
theorem CutK {P : Program} {N nL : Nat} {sl : SL} {m : ML} {c : Code} {Q : Exit → SL → ML → Prop} {F G : Prop} (main : (F → LoopK P N nL sl m (c := c) (Q := Q)) → G) (rest : F → LoopK P N nL sl m (c := c) (Q := Q)) : G := main rest
set_option maxHeartbeats 16000000 in
/-- ref.Node -/
theorem f44_ok (f : ForM) (hs : SmallN f.nodes) (k : Nat) (x : NodeM) (hx : f.nodes[k]? = some x) : FnOK Tryz.prog 44 [] [eFor f, eInt k] [] (eBool (refNode f.nodes k x)) := by
  have h29 := fun (l : List Int) (hl : l.length ≤ 100000) => f75_ok l hl
  have hxk := hs.kids x (List.mem_of_getElem? hx)
  have hxa := hs.attrs x (List.mem_of_getElem? hx)
  have hxn := hs.name x (List.mem_of_getElem? hx)
  have h30 := f72_ok x.name
  have h31 := f73_ok x.name (by omega)
  have h32 := f43s_ok x.is
  have h33 := f76_ok x.attrs (by omega)
  have hK : ∀ (i : Nat) (y : NodeM), f.nodes[i]? = some y → y.kids.length ≤ 100000 := fun i y h => by have := hs.kids y (List.mem_of_getElem? h); omega
  have hl := hs.len
  have hk : k < f.nodes.length := (List.getElem?_eq_some_iff.1 hx).1
  obtain ⟨l, m⟩ := f
  unfold refNode
  simp only at hK hx hl hk ⊢
  obtain ⟨a1, a2, a3, a4, a5, a6, a7, a8, a9, a10⟩ := x
  simp only at hxk hxa hxn h30 h31 h32 h33 ⊢
  have hlm : (l.map oNode).length = l.length := List.length_map ..
  have hlk : (a7.map oInt).length = a7.length := List.length_map ..
  have hla : (a5.map oAttr).length = a5.length := List.length_map ..
  apply CutK (P := Tryz.prog) (N := 353) (nL := 0) (F := rDoc l k ⟨a1, a2, a3, a4, a5, a6, a7, a8, a9, a10⟩ = true ∧ rPar l k ⟨a1, a2, a3, a4, a5, a6, a7, a8, a9, a10⟩ = true)
    (sl := [(1, eInt k), (2, .ptr 20 0 0), (5, .ptr 50 0 0), (6, eInt l.length), (7, eInt 0), (8, eInt 0)]) (m := [(20, .live 2 [eFor ⟨l, m⟩] false), (50, .live 10 [eNode ⟨a1, a2, a3, a4, a5, a6, a7, a8, a9, a10⟩] false)])
  case main =>
    intro key
    have bad1 : ∀ b, rDoc l k ⟨a1, a2, a3, a4, a5, a6, a7, a8, a9, a10⟩ = false → (rDoc l k ⟨a1, a2, a3, a4, a5, a6, a7, a8, a9, a10⟩ && b) = false := fun b h => by rw [h]; rfl
    have bad2 : ∀ b c, rPar l k ⟨a1, a2, a3, a4, a5, a6, a7, a8, a9, a10⟩ = false → (c && (rPar l k ⟨a1, a2, a3, a4, a5, a6, a7, a8, a9, a10⟩ && b)) = false := fun b c h => by rw [h]; simp
    refine FnOK.startC (rvs := [.tmp 4]) G G_good Tryz.func44 rfl Tryz.ntmps44 rfl rfl ?_; delta List.toArray; ((with_reducible conv => whnf); (with_reducible conv => congr <;> reduce); repeat ((first | (with_reducible refine HaltK.mk ?_) | (with_reducible refine StopK.mk ?_)); (with_reducible conv => whnf); (with_reducible conv => congr <;> reduce)))
    refine IdxK.mk k (eNode ⟨a1, a2, a3, a4, a5, a6, a7, a8, a9, a10⟩) rfl (node_get hx) ?_; ((with_reducible conv => whnf); (with_reducible conv => congr <;> reduce); repeat ((first | (with_reducible refine HaltK.mk ?_) | (with_reducible refine StopK.mk ?_)); (with_reducible conv => whnf); (with_reducible conv => congr <;> reduce)))
    repeat' (first
    | (first
    | ((with_reducible show IfK _ _ _ _); first | refine IfK.ff ?_ | refine IfK.tt ?_ | refine IfK.no (by first | rfl | assumption | exact nf (by assumption) | exact nt (by assumption) | exact decide_eq_true (by (try simp only [castN]); omega) | exact decide_eq_false (by (try simp only [castN]); omega) | (simp only [castN, Bool.not_eq_true', Bool.not_eq_false', decide_eq_true_eq, decide_eq_false_iff_not]; omega)) ?_ | refine IfK.yes (by first | rfl | assumption | exact nf (by assumption) | exact nt (by assumption) | exact decide_eq_true (by (try simp only [castN]); omega) | exact decide_eq_false (by (try simp only [castN]); omega) | (simp only [castN, Bool.not_eq_true', Bool.not_eq_false', decide_eq_true_eq, decide_eq_false_iff_not]; omega)) ?_ | (refine IfK.mk (fun hp => ?_) (fun hp => ?_) <;> (try simp only [castN, decide_eq_true_eq, decide_eq_false_iff_not, Bool.not_eq_true', Bool.not_eq_false', Decidable.not_not, Int.not_lt, Int.not_le] at hp)))
    | ((with_reducible show NeedK _ _ _ _); refine NeedK.mk (by (try simp only [castN]); omega) ?_)
    | ((with_reducible show DrawK _ _ _ _); refine DrawK.mk (by kernel_rfl) (by kernel_rfl) (by kernel_rfl) ?_)
    | ((with_reducible show IdxK _ a10 _ _ _); refine IdxK.mk iD (eNode _) eD (node_get hyD) ?_)
    | ((with_reducible show IdxK _ a10 _ _ _); (obtain ⟨iD, y, eD, hyD, hnyD⟩ := node_at (l := l) (n := a10) (by omega)); (obtain ⟨b1, b2, b3, b4, b5, b6, b7, b8, b9, b10⟩ := y); refine IdxK.mk iD (eNode ⟨b1, b2, b3, b4, b5, b6, b7, b8, b9, b10⟩) eD (node_get hyD) ?_)
    | ((with_reducible show IdxK _ a6 _ _ _); refine IdxK.mk iP (eNode _) eP (node_get hyP) ?_)
    | ((with_reducible show IdxK _ a6 _ _ _); (obtain ⟨iP, y, eP, hyP, hnyP⟩ := node_at (l := l) (n := a6) (by omega)); (obtain ⟨b1, b2, b3, b4, b5, b6, b7, b8, b9, b10⟩ := y); refine IdxK.mk iP (eNode ⟨b1, b2, b3, b4, b5, b6, b7, b8, b9, b10⟩) eP (node_get hyP) ?_)
    | ((with_reducible show CallK _ _ 75 _ _ _ _); refine CallK.lit [] (h29 _ (hK _ _ hyP) k) c75 ⟨rfl, rfl, trivial⟩ rfl rfl ?_)) <;> ((with_reducible conv => whnf); (with_reducible conv => congr <;> reduce); repeat ((first | (with_reducible refine HaltK.mk ?_) | (with_reducible refine StopK.mk ?_)); (with_reducible conv => whnf); (with_reducible conv => congr <;> reduce)))
    | ((with_reducible show (_ ∧ _) ∧ _ ∧ _); refine ⟨⟨rfl, rfl⟩, ?_, ?_⟩ <;> (with_reducible conv => whnf) <;> repeat' (first | (with_reducible exact trivial) | (with_reducible refine And.intro ?_ ?_ <;> with_reducible conv => whnf))))
    all_goals first
      | refine bad1 _ ?_
        (rw [Bool.eq_false_iff]; intro h; (first | simp only [rDoc, isN, thereN, Bool.and_eq_true, Bool.or_eq_true, decide_eq_true_eq, ne_eq, ← List.length_eq_zero_iff, hnyD] at h | simp only [rDoc, isN, thereN, Bool.and_eq_true, Bool.or_eq_true, decide_eq_true_eq, ne_eq, ← List.length_eq_zero_iff] at h); omega)
      | refine bad2 _ _ ?_
        (rw [Bool.eq_false_iff]; intro h; (first | simp only [rPar, isN, thereN, Bool.and_eq_true, Bool.or_eq_true, decide_eq_true_eq, ne_eq, ← List.length_eq_zero_iff, hnyP] at h | simp only [rPar, isN, thereN, Bool.and_eq_true, Bool.or_eq_true, decide_eq_true_eq, ne_eq, ← List.length_eq_zero_iff] at h); omega)
      | refine LoopK.fit ?_ (key ⟨?_, ?_⟩)
        · exact ⟨⟨rfl, rfl⟩, ⟨rfl, ⟨rfl, rfl⟩, ⟨rfl, rfl⟩, by show (l.length : Int) = ((l.map oNode).length : Int); rw [hlm], rfl, rfl, trivial⟩, ⟨⟨rfl, rfl, trivial⟩, trivial⟩, ⟨⟨rfl, rfl, rfl, rfl, rfl, rfl, rfl, rfl, rfl, rfl, trivial⟩, trivial⟩, trivial⟩
        ·
          (simp only [rDoc, isN, thereN, Bool.and_eq_true, Bool.or_eq_true, decide_eq_true_eq, ne_eq, ← List.length_eq_zero_iff, hnyD]; omega)
        · first
            | (rw [rPar, decide_eq_true (by assumption)]; rfl)
            | skip
              (simp only [rPar, isN, thereN, Bool.and_eq_true, Bool.or_eq_true, decide_eq_true_eq, ne_eq, ← List.length_eq_zero_iff, hnyP]; omega)
      | trace_state
  case rest =>
    rintro ⟨hD, hP⟩
    rw [hD, hP]
    simp only [Bool.true_and]
    have bad3 : ∀ b, a7.all (rKid l k ⟨a1, a2, a3, a4, a5, a6, a7, a8, a9, a10⟩) = false → (a7.all (rKid l k ⟨a1, a2, a3, a4, a5, a6, a7, a8, a9, a10⟩) && b) = false := fun b h => by rw [h]; rfl
    refine LoopK.use G G_good (fun (j : Nat) => [(1, eInt k), (2, .ptr 20 0 0), (5, .ptr 50 0 0), (6, eInt l.length), (7, eInt (elemsN l (a7.take j))), (8, eInt j)]) (fun _ => [(20, .live 2 [eFor ⟨l, m⟩] false), (50, .live 10 [eNode ⟨a1, a2, a3, a4, a5, a6, a7, a8, a9, a10⟩] false)])
      (fun j => j ≤ a7.length ∧ ∀ (i : Nat) (c : Int), i < j → a7[i]? = some c → rKid l k ⟨a1, a2, a3, a4, a5, a6, a7, a8, a9, a10⟩ c = true) (fun j => a7.length - j) 0 ⟨Nat.zero_le _, fun i c h => by omega⟩
      ⟨⟨rfl, rfl⟩, ⟨rfl, ⟨rfl, rfl⟩, ⟨rfl, rfl⟩, rfl, rfl, rfl, trivial⟩, ⟨⟨rfl, rfl, trivial⟩, trivial⟩, ⟨⟨rfl, rfl, rfl, rfl, rfl, rfl, rfl, rfl, rfl, rfl, trivial⟩, trivial⟩, trivial⟩ ?_
    rintro j ⟨hj, hok⟩
    ((with_reducible conv => whnf); (with_reducible conv => congr <;> reduce); repeat ((first | (with_reducible refine HaltK.mk ?_) | (with_reducible refine StopK.mk ?_)); (with_reducible conv => whnf); (with_reducible conv => congr <;> reduce)))
    refine IfK.mk (fun h1 => ?_) (fun h1 => ?_) <;> (try simp only [castN] at h1) <;> ((with_reducible conv => whnf); (with_reducible conv => congr <;> reduce); repeat ((first | (with_reducible refine HaltK.mk ?_) | (with_reducible refine StopK.mk ?_)); (with_reducible conv => whnf); (with_reducible conv => congr <;> reduce)))
    · have hj' : j < a7.length := by simp only [decide_eq_true_eq] at h1; omega
      obtain ⟨c, hc⟩ : ∃ c, a7[j]? = some c := ⟨_, List.getElem?_eq_getElem hj'⟩
      have hse := @elems_step l a7 j c hc
      have hel := elems_le l a7 j
      have h29' := h29 a7 (by omega) c
      have good : rKid l k ⟨a1, a2, a3, a4, a5, a6, a7, a8, a9, a10⟩ c = true → ∀ (i : Nat) (d : Int), i < j + 1 → a7[i]? = some d → rKid l k ⟨a1, a2, a3, a4, a5, a6, a7, a8, a9, a10⟩ d = true := fun h i d hi hd => by
        rcases Nat.lt_or_ge i j with h6 | h6
        · exact hok i d h6 hd
        · have : i = j := by omega
          subst this
          rw [hc] at hd; cases hd; exact h
      refine IdxK.mk j (eInt c) rfl (int_get hc) ?_; ((with_reducible conv => whnf); (with_reducible conv => congr <;> reduce); repeat ((first | (with_reducible refine HaltK.mk ?_) | (with_reducible refine StopK.mk ?_)); (with_reducible conv => whnf); (with_reducible conv => congr <;> reduce)))
      repeat' (first
    | (first
    | ((with_reducible show IfK _ _ _ _); first | refine IfK.ff ?_ | refine IfK.tt ?_ | refine IfK.no (by first | rfl | assumption | exact nf (by assumption) | exact nt (by assumption) | exact decide_eq_true (by (try simp only [castN]); omega) | exact decide_eq_false (by (try simp only [castN]); omega) | (simp only [castN, Bool.not_eq_true', Bool.not_eq_false', decide_eq_true_eq, decide_eq_false_iff_not]; omega)) ?_ | refine IfK.yes (by first | rfl | assumption | exact nf (by assumption) | exact nt (by assumption) | exact decide_eq_true (by (try simp only [castN]); omega) | exact decide_eq_false (by (try simp only [castN]); omega) | (simp only [castN, Bool.not_eq_true', Bool.not_eq_false', decide_eq_true_eq, decide_eq_false_iff_not]; omega)) ?_ | (refine IfK.mk (fun hp => ?_) (fun hp => ?_) <;> (try simp only [castN, decide_eq_true_eq, decide_eq_false_iff_not, Bool.not_eq_true', Bool.not_eq_false', Decidable.not_not, Int.not_lt, Int.not_le] at hp)))
    | ((with_reducible show NeedK _ _ _ _); refine NeedK.mk (by (try simp only [castN]); omega) ?_)
    | ((with_reducible show DrawK _ _ _ _); refine DrawK.mk (by kernel_rfl) (by kernel_rfl) (by kernel_rfl) ?_)
    | ((with_reducible show IdxK _ c _ _ _); refine IdxK.mk iK (eNode _) eK (node_get hyK) ?_)
    | ((with_reducible show IdxK _ c _ _ _); (obtain ⟨iK, y, eK, hyK, hnyK⟩ := node_at (l := l) (n := c) (by omega)); (obtain ⟨b1, b2, b3, b4, b5, b6, b7, b8, b9, b10⟩ := y); refine IdxK.mk iK (eNode ⟨b1, b2, b3, b4, b5, b6, b7, b8, b9, b10⟩) eK (node_get hyK) ?_)
    | ((with_reducible show CallK _ _ 75 _ _ _ _); refine CallK.lit [] h29' c75 ⟨rfl, rfl, trivial⟩ rfl rfl ?_)) <;> ((with_reducible conv => whnf); (with_reducible conv => congr <;> reduce); repeat ((first | (with_reducible refine HaltK.mk ?_) | (with_reducible refine StopK.mk ?_)); (with_reducible conv => whnf); (with_reducible conv => congr <;> reduce)))
    | ((with_reducible show (_ ∧ _) ∧ _ ∧ _); refine ⟨⟨rfl, rfl⟩, ?_, ?_⟩ <;> (with_reducible conv => whnf) <;> repeat' (first | (with_reducible exact trivial) | (with_reducible refine And.intro ?_ ?_ <;> with_reducible conv => whnf))))
      all_goals first
        | refine bad3 _ (all_no hc ?_)
          (rw [Bool.eq_false_iff]; intro h; (first | simp only [rKid, isN, thereN, Bool.and_eq_true, Bool.or_eq_true, decide_eq_true_eq, ne_eq, ← List.length_eq_zero_iff, hnyK] at h | simp only [rKid, isN, thereN, Bool.and_eq_true, Bool.or_eq_true, decide_eq_true_eq, ne_eq, ← List.length_eq_zero_iff] at h); omega)
        | ((with_reducible show NextK _ _); refine NextK.mk (j + 1) ⟨by omega, good ?_⟩ (by omega) ⟨⟨rfl, rfl⟩, ⟨rfl, ⟨rfl, rfl⟩, ⟨rfl, rfl⟩, rfl, by rw [hse, hnyK]; first | (simp [show b1 = 1 by omega]; done) | (simp [show ¬ b1 = 1 by omega]; done), by show ((j + 1 : Nat) : Int) = (j : Int) + 1; omega, trivial⟩, ⟨⟨rfl, rfl, trivial⟩, trivial⟩, ⟨⟨rfl, rfl, rfl, rfl, rfl, rfl, rfl, rfl, rfl, rfl, trivial⟩, trivial⟩, trivial⟩)
          (simp only [rKid, isN, thereN, Bool.and_eq_true, Bool.or_eq_true, decide_eq_true_eq, ne_eq, ← List.length_eq_zero_iff, hnyK]; omega)
        | trace_state
    · have hjl : j = a7.length := by simp only [decide_eq_false_iff_not] at h1; omega
      rw [all_yes fun i c hc => hok i c (by have := (List.getElem?_eq_some_iff.1 hc).1; omega) hc, Bool.true_and]
      rw [hjl, List.take_length]
      have hel := elems_le l a7 a7.length
      rw [List.take_length] at hel
      have bad4 : ∀ b, rElems l ⟨a1, a2, a3, a4, a5, a6, a7, a8, a9, a10⟩ = false → (rElems l ⟨a1, a2, a3, a4, a5, a6, a7, a8, a9, a10⟩ && b) = false := fun b h => by rw [h]; rfl
      have bad5 : ∀ b c, shadedN l k ⟨a1, a2, a3, a4, a5, a6, a7, a8, a9, a10⟩ = false → (c && (shadedN l k ⟨a1, a2, a3, a4, a5, a6, a7, a8, a9, a10⟩ && b)) = false := fun b c h => by rw [h]; simp
      have good6 : rElems l ⟨a1, a2, a3, a4, a5, a6, a7, a8, a9, a10⟩ = true → shadedN l k ⟨a1, a2, a3, a4, a5, a6, a7, a8, a9, a10⟩ = true → ∀ b, rName ⟨a1, a2, a3, a4, a5, a6, a7, a8, a9, a10⟩ = b → (rElems l ⟨a1, a2, a3, a4, a5, a6, a7, a8, a9, a10⟩ && (shadedN l k ⟨a1, a2, a3, a4, a5, a6, a7, a8, a9, a10⟩ && rName ⟨a1, a2, a3, a4, a5, a6, a7, a8, a9, a10⟩)) = b := fun h1 h2 b h3 => by rw [h1, h2, h3]; rfl
      repeat' (first
    | (first
    | ((with_reducible show IfK _ _ _ _); first | refine IfK.ff ?_ | refine IfK.tt ?_ | refine IfK.no (by first | rfl | assumption | exact nf (by assumption) | exact nt (by assumption) | exact decide_eq_true (by (try simp only [castN]); omega) | exact decide_eq_false (by (try simp only [castN]); omega) | (simp only [castN, Bool.not_eq_true', Bool.not_eq_false', decide_eq_true_eq, decide_eq_false_iff_not]; omega)) ?_ | refine IfK.yes (by first | rfl | assumption | exact nf (by assumption) | exact nt (by assumption) | exact decide_eq_true (by (try simp only [castN]); omega) | exact decide_eq_false (by (try simp only [castN]); omega) | (simp only [castN, Bool.not_eq_true', Bool.not_eq_false', decide_eq_true_eq, decide_eq_false_iff_not]; omega)) ?_ | (refine IfK.mk (fun hp => ?_) (fun hp => ?_) <;> (try simp only [castN, decide_eq_true_eq, decide_eq_false_iff_not, Bool.not_eq_true', Bool.not_eq_false', Decidable.not_not, Int.not_lt, Int.not_le] at hp)))
    | ((with_reducible show NeedK _ _ _ _); refine NeedK.mk (by (try simp only [castN]); omega) ?_)
    | ((with_reducible show DrawK _ _ _ _); refine DrawK.mk (by kernel_rfl) (by kernel_rfl) (by kernel_rfl) ?_)
    | ((with_reducible show IdxK _ a8 _ _ _); refine IdxK.mk iH (eNode _) eH (node_get hyH) ?_)
    | ((with_reducible show IdxK _ a8 _ _ _); (obtain ⟨iH, y, eH, hyH, hnyH⟩ := node_at (l := l) (n := a8) (by omega)); (obtain ⟨b1, b2, b3, b4, b5, b6, b7, b8, b9, b10⟩ := y); refine IdxK.mk iH (eNode ⟨b1, b2, b3, b4, b5, b6, b7, b8, b9, b10⟩) eH (node_get hyH) ?_)
    | ((with_reducible show IdxK _ a9 _ _ _); refine IdxK.mk iU (eNode _) eU (node_get hyU) ?_)
    | ((with_reducible show IdxK _ a9 _ _ _); (obtain ⟨iU, y, eU, hyU, hnyU⟩ := node_at (l := l) (n := a9) (by omega)); (obtain ⟨b1, b2, b3, b4, b5, b6, b7, b8, b9, b10⟩ := y); refine IdxK.mk iU (eNode ⟨b1, b2, b3, b4, b5, b6, b7, b8, b9, b10⟩) eU (node_get hyU) ?_)
    | ((with_reducible show CallK _ _ 72 _ _ _ _); refine CallK.lit [] h30 c72 ⟨rfl, trivial⟩ rfl rfl ?_)
    | ((with_reducible show CallK _ _ 73 _ _ _ _); refine CallK.lit [] h31 c73 ⟨rfl, trivial⟩ rfl rfl ?_)
    | ((with_reducible show CallK _ _ 43 _ _ _ _); refine CallK.lit [] h32 c43 ⟨rfl, trivial⟩ rfl rfl ?_)
    | ((with_reducible show CallK _ _ 76 _ _ _ _); refine CallK.lit [] h33 c76 ⟨rfl, trivial⟩ rfl rfl ?_)) <;> ((with_reducible conv => whnf); (with_reducible conv => congr <;> reduce); repeat ((first | (with_reducible refine HaltK.mk ?_) | (with_reducible refine StopK.mk ?_)); (with_reducible conv => whnf); (with_reducible conv => congr <;> reduce)))
    | ((with_reducible show (_ ∧ _) ∧ _ ∧ _); refine ⟨⟨rfl, rfl⟩, ?_, ?_⟩ <;> (with_reducible conv => whnf) <;> repeat' (first | (with_reducible exact trivial) | (with_reducible refine And.intro ?_ ?_ <;> with_reducible conv => whnf))))
      all_goals clear hok
      all_goals first
        | refine bad4 _ ?_
          (rw [Bool.eq_false_iff]; intro h; (first | simp only [rElems, isN, thereN, Bool.and_eq_true, Bool.or_eq_true, decide_eq_true_eq, ne_eq, ← List.length_eq_zero_iff, hlk] at h | simp only [rElems, isN, thereN, Bool.and_eq_true, Bool.or_eq_true, decide_eq_true_eq, ne_eq, ← List.length_eq_zero_iff] at h); omega)
        | refine bad5 _ _ ?_
          (rw [Bool.eq_false_iff]; intro h; by_cases e4 : a1 = 4
           · simp only [shadedN, if_pos e4, isN, thereN, Bool.and_eq_true, Bool.or_eq_true, decide_eq_true_eq, ne_eq] at h; (try simp only [hnyH] at h); (try simp only [hnyU] at h); omega
           · simp only [shadedN, if_neg e4, isN, thereN, Bool.and_eq_true, Bool.or_eq_true, decide_eq_true_eq, ne_eq] at h; (try simp only [hnyH] at h); (try simp only [hnyU] at h); omega)
        | refine good6 ?_ ?_ _ ?_
          ·
            (simp only [rElems, isN, thereN, Bool.and_eq_true, Bool.or_eq_true, decide_eq_true_eq, ne_eq, ← List.length_eq_zero_iff, hlk]; omega)
          ·
            (by_cases e4 : a1 = 4
             · simp only [shadedN, if_pos e4, isN, thereN, Bool.and_eq_true, Bool.or_eq_true, decide_eq_true_eq, ne_eq]; (try simp only [hnyH]); (try simp only [hnyU]); omega
             · simp only [shadedN, if_neg e4, isN, thereN, Bool.and_eq_true, Bool.or_eq_true, decide_eq_true_eq, ne_eq]; (try simp only [hnyH]); (try simp only [hnyU]); omega)
          · clear bad4 bad5 good6 hK hs hx h29 h30 h31 h32 h33 hD hP
            first | (simp_all [rName]; done) | (simp_all [rName]; omega)
        | trace_state
end Go.Proofs.Heir
end
section
set_option linter.unusedSimpArgs false
set_option linter.unusedVariables false
namespace Go.Proofs.Heir
open Go Go.Am Go.RowKit Go.Lib
set_option maxRecDepth 100000
set_option maxHeartbeats 16000000 in
/-- ref.Right -/
theorem f13_ok (f : ForM) (hs : SmallN f.nodes) : FnOK Tryz.prog 13 [] [eFor f] [] (eBool (rightR f)) := by
  have hl := hs.len
  have h19 := f44_ok f hs
  obtain ⟨l, m⟩ := f
  unfold rightR
  simp only at h19 hl ⊢
  have hlm : (l.map oNode).length = l.length := List.length_map ..
  have bad0 : ∀ b, headOK ⟨l, m⟩ = false → (headOK ⟨l, m⟩ && b) = false := fun b h => by rw [h]; rfl
  apply CutK (P := Tryz.prog) (N := 84) (nL := 0) (F := headOK ⟨l, m⟩ = true) (sl := [(1, .ptr 10 0 0), (3, eInt 0)]) (m := [(10, .live 2 [eFor ⟨l, m⟩] false)])
  case main =>
    intro key
    refine FnOK.startC (rvs := [.tmp 2]) G G_good Tryz.func13 rfl Tryz.ntmps13 rfl rfl ?_; delta List.toArray; ((with_reducible conv => whnf); (with_reducible conv => congr <;> reduce); repeat ((first | (with_reducible refine HaltK.mk ?_) | (with_reducible refine StopK.mk ?_)); (with_reducible conv => whnf); (with_reducible conv => congr <;> reduce)))
    repeat' (first
    | (first
    | ((with_reducible show IfK _ _ _ _); first | refine IfK.ff ?_ | refine IfK.tt ?_ | refine IfK.no (by first | rfl | assumption | exact nf (by assumption) | exact nt (by assumption) | exact decide_eq_true (by (try simp only [castN]); omega) | exact decide_eq_false (by (try simp only [castN]); omega) | (simp only [castN, Bool.not_eq_true', Bool.not_eq_false', decide_eq_true_eq, decide_eq_false_iff_not]; omega)) ?_ | refine IfK.yes (by first | rfl | assumption | exact nf (by assumption) | exact nt (by assumption) | exact decide_eq_true (by (try simp only [castN]); omega) | exact decide_eq_false (by (try simp only [castN]); omega) | (simp only [castN, Bool.not_eq_true', Bool.not_eq_false', decide_eq_true_eq, decide_eq_false_iff_not]; omega)) ?_ | (refine IfK.mk (fun hp => ?_) (fun hp => ?_) <;> (try simp only [castN, decide_eq_true_eq, decide_eq_false_iff_not, Bool.not_eq_true', Bool.not_eq_false', Decidable.not_not, Int.not_lt, Int.not_le] at hp)))
    | ((with_reducible show NeedK _ _ _ _); refine NeedK.mk (by (try simp only [castN]); omega) ?_)
    | ((with_reducible show DrawK _ _ _ _); refine DrawK.mk (by kernel_rfl) (by kernel_rfl) (by kernel_rfl) ?_)
    | ((with_reducible show IdxK _ (0:Int) _ _ _); refine IdxK.mk iZ (eNode _) eZ (node_get hyZ) ?_)
    | ((with_reducible show IdxK _ (0:Int) _ _ _); (obtain ⟨iZ, y, eZ, hyZ, hnyZ⟩ := node_at (l := l) (n := (0:Int)) (by omega)); (obtain ⟨b1, b2, b3, b4, b5, b6, b7, b8, b9, b10⟩ := y); refine IdxK.mk iZ (eNode ⟨b1, b2, b3, b4, b5, b6, b7, b8, b9, b10⟩) eZ (node_get hyZ) ?_)) <;> ((with_reducible conv => whnf); (with_reducible conv => congr <;> reduce); repeat ((first | (with_reducible refine HaltK.mk ?_) | (with_reducible refine StopK.mk ?_)); (with_reducible conv => whnf); (with_reducible conv => congr <;> reduce)))
    | ((with_reducible show (_ ∧ _) ∧ _ ∧ _); refine ⟨⟨rfl, rfl⟩, ?_, ?_⟩ <;> (with_reducible conv => whnf) <;> repeat' (first | (with_reducible exact trivial) | (with_reducible refine And.intro ?_ ?_ <;> with_reducible conv => whnf))))
    all_goals first
      | refine bad0 _ ?_
        (rw [Bool.eq_false_iff]; intro h; simp only [headOK, Bool.and_eq_true, decide_eq_true_eq] at h; (try simp only [hnyZ] at h); omega)
      | refine LoopK.fit ?_ (key ?_)
        · exact ⟨⟨rfl, rfl⟩, ⟨⟨rfl, rfl⟩, rfl, trivial⟩, ⟨⟨rfl, rfl, trivial⟩, trivial⟩, trivial⟩
        · simp only [headOK, Bool.and_eq_true, decide_eq_true_eq, hnyZ]; omega
      | trace_state
  case rest =>
    intro hH
    rw [hH, Bool.true_and]
    refine LoopK.use G G_good (fun (k : Nat) => [(1, .ptr 10 0 0), (3, eInt k)]) (fun _ => [(10, .live 2 [eFor ⟨l, m⟩] false)])
      (fun k => k ≤ l.length ∧ ∀ j x, j < k → l[j]? = some x → refNode l j x = true) (fun k => l.length - k) 0 ⟨Nat.zero_le _, fun j x h => by omega⟩
      ⟨⟨rfl, rfl⟩, ⟨⟨rfl, rfl⟩, rfl, trivial⟩, ⟨⟨rfl, rfl, trivial⟩, trivial⟩, trivial⟩ ?_
    rintro k ⟨hk, hok⟩
    ((with_reducible conv => whnf); (with_reducible conv => congr <;> reduce); repeat ((first | (with_reducible refine HaltK.mk ?_) | (with_reducible refine StopK.mk ?_)); (with_reducible conv => whnf); (with_reducible conv => congr <;> reduce)))
    refine IfK.mk (fun g1 => ?_) (fun g1 => ?_) <;> (try simp only [castN] at g1) <;> ((with_reducible conv => whnf); (with_reducible conv => congr <;> reduce); repeat ((first | (with_reducible refine HaltK.mk ?_) | (with_reducible refine StopK.mk ?_)); (with_reducible conv => whnf); (with_reducible conv => congr <;> reduce)))
    · have hk' : k < l.length := by simp only [decide_eq_true_eq] at g1; omega
      obtain ⟨x, hx⟩ : ∃ x, l[k]? = some x := ⟨_, List.getElem?_eq_getElem hk'⟩
      have h19' := h19 k x hx
      have good : refNode l k x = true → ∀ j y, j < k + 1 → l[j]? = some y → refNode l j y = true := fun h j y hj hy => by
        rcases Nat.lt_or_ge j k with h6 | h6
        · exact hok j y h6 hy
        · have : j = k := by omega
          subst this
          rw [hx] at hy; cases hy; exact h
      refine CallK.lit [] h19' c44 ⟨⟨rfl, rfl, trivial⟩, rfl, trivial⟩ rfl rfl ?_; ((with_reducible conv => whnf); (with_reducible conv => congr <;> reduce); repeat ((first | (with_reducible refine HaltK.mk ?_) | (with_reducible refine StopK.mk ?_)); (with_reducible conv => whnf); (with_reducible conv => congr <;> reduce)))
      cases q : refNode l k x with
      | false =>
        rw [allIx_no hx q, Bool.false_and]
        repeat' (first
    | (first
    | ((with_reducible show IfK _ _ _ _); first | refine IfK.ff ?_ | refine IfK.tt ?_ | refine IfK.no (by first | rfl | assumption | exact nf (by assumption) | exact nt (by assumption) | ((try simp only [castN]); first | (simp [q]; done) | (simp [q]; omega))) ?_ | refine IfK.yes (by first | rfl | assumption | exact nf (by assumption) | exact nt (by assumption) | ((try simp only [castN]); first | (simp [q]; done) | (simp [q]; omega))) ?_)
    | ((with_reducible show NeedK _ _ _ _); refine NeedK.mk (by (try simp only [castN]); omega) ?_)
    | ((with_reducible show DrawK _ _ _ _); refine DrawK.mk (by kernel_rfl) (by kernel_rfl) (by kernel_rfl) ?_)) <;> ((with_reducible conv => whnf); (with_reducible conv => congr <;> reduce); repeat ((first | (with_reducible refine HaltK.mk ?_) | (with_reducible refine StopK.mk ?_)); (with_reducible conv => whnf); (with_reducible conv => congr <;> reduce)))
    | ((with_reducible show (_ ∧ _) ∧ _ ∧ _); refine ⟨⟨rfl, rfl⟩, ?_, ?_⟩ <;> (with_reducible conv => whnf) <;> repeat' (first | (with_reducible exact trivial) | (with_reducible refine And.intro ?_ ?_ <;> with_reducible conv => whnf))))
      | true =>
        repeat' (first
    | (first
    | ((with_reducible show IfK _ _ _ _); first | refine IfK.ff ?_ | refine IfK.tt ?_ | refine IfK.no (by first | rfl | assumption | exact nf (by assumption) | exact nt (by assumption) | ((try simp only [castN]); first | (simp [q]; done) | (simp [q]; omega))) ?_ | refine IfK.yes (by first | rfl | assumption | exact nf (by assumption) | exact nt (by assumption) | ((try simp only [castN]); first | (simp [q]; done) | (simp [q]; omega))) ?_)
    | ((with_reducible show NeedK _ _ _ _); refine NeedK.mk (by (try simp only [castN]); omega) ?_)
    | ((with_reducible show DrawK _ _ _ _); refine DrawK.mk (by kernel_rfl) (by kernel_rfl) (by kernel_rfl) ?_)
    | ((with_reducible show NextK _ _); refine NextK.mk (k + 1) ⟨by omega, good q⟩ (by omega) ⟨⟨rfl, rfl⟩, ⟨⟨rfl, rfl⟩, by show ((k + 1 : Nat) : Int) = (k : Int) + 1; omega, trivial⟩, ⟨⟨rfl, rfl, trivial⟩, trivial⟩, trivial⟩)) <;> ((with_reducible conv => whnf); (with_reducible conv => congr <;> reduce); repeat ((first | (with_reducible refine HaltK.mk ?_) | (with_reducible refine StopK.mk ?_)); (with_reducible conv => whnf); (with_reducible conv => congr <;> reduce)))
    | ((with_reducible show (_ ∧ _) ∧ _ ∧ _); refine ⟨⟨rfl, rfl⟩, ?_, ?_⟩ <;> (with_reducible conv => whnf) <;> repeat' (first | (with_reducible exact trivial) | (with_reducible refine And.intro ?_ ?_ <;> with_reducible conv => whnf))))
    · have hkl : k = l.length := by simp only [decide_eq_false_iff_not] at g1; omega
      have hall : ∀ (j : Nat) (x : NodeM), l[j]? = some x → refNode l j x = true := fun j x hx => hok j x (by have := (List.getElem?_eq_some_iff.1 hx).1; omega) hx
      rw [allIx_yes hall, Bool.true_and]
      have hup : ∀ n, thereN l n = true → upN (nd l n) = -1 ∨ thereN l (upN (nd l n)) = true := node_up (of_ref fun n hn => by
        obtain ⟨k, x, rfl, hk, hx⟩ := there_iff.1 hn
        rw [hx]; exact hall k x hk)
      refine LoopK.use G G_good (fun (k : Nat) => [(1, .ptr 10 0 0), (4, eInt k)]) (fun _ => [(10, .live 2 [eFor ⟨l, m⟩] false)])
        (fun k => k ≤ l.length ∧ ∀ (j : Nat) (x : NodeM), j < k → l[j]? = some x → endsN l (l.length + 1) j = true) (fun k => l.length - k) 0 ⟨Nat.zero_le _, fun j x h => by omega⟩
        ⟨⟨rfl, rfl⟩, ⟨⟨rfl, rfl⟩, rfl, trivial⟩, ⟨⟨rfl, rfl, trivial⟩, trivial⟩, trivial⟩ ?_
      rintro i ⟨hi, hends⟩
      ((with_reducible conv => whnf); (with_reducible conv => congr <;> reduce); repeat ((first | (with_reducible refine HaltK.mk ?_) | (with_reducible refine StopK.mk ?_)); (with_reducible conv => whnf); (with_reducible conv => congr <;> reduce)))
      refine IfK.mk (fun g2 => ?_) (fun g2 => ?_) <;> (try simp only [castN] at g2) <;> ((with_reducible conv => whnf); (with_reducible conv => congr <;> reduce); repeat ((first | (with_reducible refine HaltK.mk ?_) | (with_reducible refine StopK.mk ?_)); (with_reducible conv => whnf); (with_reducible conv => congr <;> reduce)))
      · have hi' : i < l.length := by simp only [decide_eq_true_eq] at g2; omega
        obtain ⟨x, hx⟩ : ∃ x, l[i]? = some x := ⟨_, List.getElem?_eq_getElem hi'⟩
        refine LoopK.use G G_good (fun (p : Nat × Int) => [(1, .ptr 10 0 0), (4, eInt i), (5, eInt p.2), (6, eInt p.1)]) (fun _ => [(10, .live 2 [eFor ⟨l, m⟩] false)])
          (fun p => p.1 ≤ l.length + 1 ∧ (p.2 = -1 ∨ thereN l p.2 = true) ∧ endsN l (l.length + 1) i = if p.2 = -1 then true else endsN l (l.length + 1 - p.1) p.2) (fun p => l.length + 1 - p.1) (0, (i : Int)) ⟨Nat.zero_le _, .inr (there_get hx), by rw [if_neg (by omega)]; rfl⟩
          ⟨⟨rfl, rfl⟩, ⟨⟨rfl, rfl⟩, rfl, rfl, rfl, trivial⟩, ⟨⟨rfl, rfl, trivial⟩, trivial⟩, trivial⟩ ?_
        rintro ⟨s, a⟩ ⟨hss, hat, hee⟩
        simp only at hss hat hee ⊢
        ((with_reducible conv => whnf); (with_reducible conv => congr <;> reduce); repeat ((first | (with_reducible refine HaltK.mk ?_) | (with_reducible refine StopK.mk ?_)); (with_reducible conv => whnf); (with_reducible conv => congr <;> reduce)))
        by_cases ea : a = -1
        · rw [if_pos ea] at hee
          subst ea
          repeat' (first
    | (first
    | ((with_reducible show IfK _ _ _ _); first | refine IfK.ff ?_ | refine IfK.tt ?_ | refine IfK.no (by first | rfl | assumption | exact nf (by assumption) | exact nt (by assumption) | ((try simp only [castN]); first | (simp []; done) | (simp []; omega))) ?_ | refine IfK.yes (by first | rfl | assumption | exact nf (by assumption) | exact nt (by assumption) | ((try simp only [castN]); first | (simp []; done) | (simp []; omega))) ?_)
    | ((with_reducible show NeedK _ _ _ _); refine NeedK.mk (by (try simp only [castN]); omega) ?_)
    | ((with_reducible show DrawK _ _ _ _); refine DrawK.mk (by kernel_rfl) (by kernel_rfl) (by kernel_rfl) ?_)
    | ((with_reducible show NextK _ _); refine NextK.mk (i + 1) ⟨by omega, fun j x hj hx => ?_⟩ (by omega) ⟨⟨rfl, rfl⟩, ⟨⟨rfl, rfl⟩, by show ((i + 1 : Nat) : Int) = (i : Int) + 1; omega, trivial⟩, ⟨⟨rfl, rfl, trivial⟩, trivial⟩, trivial⟩)) <;> ((with_reducible conv => whnf); (with_reducible conv => congr <;> reduce); repeat ((first | (with_reducible refine HaltK.mk ?_) | (with_reducible refine StopK.mk ?_)); (with_reducible conv => whnf); (with_reducible conv => congr <;> reduce)))
    | ((with_reducible show (_ ∧ _) ∧ _ ∧ _); refine ⟨⟨rfl, rfl⟩, ?_, ?_⟩ <;> (with_reducible conv => whnf) <;> repeat' (first | (with_reducible exact trivial) | (with_reducible refine And.intro ?_ ?_ <;> with_reducible conv => whnf))))
          rcases Nat.lt_or_ge j i with h6 | h6
          · exact hends j x h6 hx
          · have : j = i := by omega
            rw [this]; exact hee
        · rw [if_neg ea] at hee
          have hth := hat.resolve_left ea
          by_cases es : s = l.length + 1
          · have e0 : endsN l (l.length + 1 - s) a = false := by rw [es, Nat.sub_self]; rfl
            rw [e0] at hee
            rw [allIx_no hx hee]
            repeat' (first
    | (first
    | ((with_reducible show IfK _ _ _ _); first | refine IfK.ff ?_ | refine IfK.tt ?_ | refine IfK.no (by first | rfl | assumption | exact nf (by assumption) | exact nt (by assumption) | ((try simp only [castN]); first | (simp [eq_false ea]; done) | (simp [eq_false ea]; omega))) ?_ | refine IfK.yes (by first | rfl | assumption | exact nf (by assumption) | exact nt (by assumption) | ((try simp only [castN]); first | (simp [eq_false ea]; done) | (simp [eq_false ea]; omega))) ?_)
    | ((with_reducible show NeedK _ _ _ _); refine NeedK.mk (by (try simp only [castN]); omega) ?_)
    | ((with_reducible show DrawK _ _ _ _); refine DrawK.mk (by kernel_rfl) (by kernel_rfl) (by kernel_rfl) ?_)) <;> ((with_reducible conv => whnf); (with_reducible conv => congr <;> reduce); repeat ((first | (with_reducible refine HaltK.mk ?_) | (with_reducible refine StopK.mk ?_)); (with_reducible conv => whnf); (with_reducible conv => congr <;> reduce)))
    | ((with_reducible show (_ ∧ _) ∧ _ ∧ _); refine ⟨⟨rfl, rfl⟩, ?_, ?_⟩ <;> (with_reducible conv => whnf) <;> repeat' (first | (with_reducible exact trivial) | (with_reducible refine And.intro ?_ ?_ <;> with_reducible conv => whnf))))
          · obtain ⟨t, ht⟩ : ∃ t, l.length + 1 - s = t + 1 := ⟨l.length - s, by omega⟩
            rw [ht] at hee
            replace hee := hee.trans (endsN_succ l t a)
            have hua := hup a hth
            obtain ⟨k', y, e, hy, hny⟩ := there_iff.1 hth
            rw [hny] at hee hua
            obtain ⟨b1, b2, b3, b4, b5, b6, b7, b8, b9, b10⟩ := y
            have hlt : ¬ (l.length : Int) < s := by omega
            by_cases ep : b6 = -1
            · have hu : upN ⟨b1, b2, b3, b4, b5, b6, b7, b8, b9, b10⟩ = b8 := by unfold upN; rw [if_pos ep]
              rw [hu] at hee hua
              repeat' (first
    | (first
    | ((with_reducible show IfK _ _ _ _); first | refine IfK.ff ?_ | refine IfK.tt ?_ | refine IfK.no (by first | rfl | assumption | exact nf (by assumption) | exact nt (by assumption) | ((try simp only [castN]); first | (simp [hlm, eq_false ea, eq_false hlt, ep]; done) | (simp [hlm, eq_false ea, eq_false hlt, ep]; omega))) ?_ | refine IfK.yes (by first | rfl | assumption | exact nf (by assumption) | exact nt (by assumption) | ((try simp only [castN]); first | (simp [hlm, eq_false ea, eq_false hlt, ep]; done) | (simp [hlm, eq_false ea, eq_false hlt, ep]; omega))) ?_)
    | ((with_reducible show NeedK _ _ _ _); refine NeedK.mk (by (try simp only [castN]); omega) ?_)
    | ((with_reducible show DrawK _ _ _ _); refine DrawK.mk (by kernel_rfl) (by kernel_rfl) (by kernel_rfl) ?_)
    | (refine IdxK.mk k' (eNode ⟨b1, b2, b3, b4, b5, b6, b7, b8, b9, b10⟩) e (node_get hy) ?_)
    | ((with_reducible show NextK _ _); refine NextK.mk (s + 1, b8) ⟨by show s + 1 ≤ _; omega, hua, by rw [show l.length + 1 - (s + 1) = t by omega]; exact hee⟩ (by show l.length + 1 - (s + 1) < l.length + 1 - s; omega) ⟨⟨rfl, rfl⟩, ⟨⟨rfl, rfl⟩, rfl, rfl, by show ((s + 1 : Nat) : Int) = (s : Int) + 1; omega, trivial⟩, ⟨⟨rfl, rfl, trivial⟩, trivial⟩, trivial⟩)) <;> ((with_reducible conv => whnf); (with_reducible conv => congr <;> reduce); repeat ((first | (with_reducible refine HaltK.mk ?_) | (with_reducible refine StopK.mk ?_)); (with_reducible conv => whnf); (with_reducible conv => congr <;> reduce)))
    | ((with_reducible show (_ ∧ _) ∧ _ ∧ _); refine ⟨⟨rfl, rfl⟩, ?_, ?_⟩ <;> (with_reducible conv => whnf) <;> repeat' (first | (with_reducible exact trivial) | (with_reducible refine And.intro ?_ ?_ <;> with_reducible conv => whnf))))
            · have hu : upN ⟨b1, b2, b3, b4, b5, b6, b7, b8, b9, b10⟩ = b6 := by unfold upN; rw [if_neg ep]
              rw [hu] at hee hua
              repeat' (first
    | (first
    | ((with_reducible show IfK _ _ _ _); first | refine IfK.ff ?_ | refine IfK.tt ?_ | refine IfK.no (by first | rfl | assumption | exact nf (by assumption) | exact nt (by assumption) | ((try simp only [castN]); first | (simp [hlm, eq_false ea, eq_false hlt, eq_false ep]; done) | (simp [hlm, eq_false ea, eq_false hlt, eq_false ep]; omega))) ?_ | refine IfK.yes (by first | rfl | assumption | exact nf (by assumption) | exact nt (by assumption) | ((try simp only [castN]); first | (simp [hlm, eq_false ea, eq_false hlt, eq_false ep]; done) | (simp [hlm, eq_false ea, eq_false hlt, eq_false ep]; omega))) ?_)
    | ((with_reducible show NeedK _ _ _ _); refine NeedK.mk (by (try simp only [castN]); omega) ?_)
    | ((with_reducible show DrawK _ _ _ _); refine DrawK.mk (by kernel_rfl) (by kernel_rfl) (by kernel_rfl) ?_)
    | (refine IdxK.mk k' (eNode ⟨b1, b2, b3, b4, b5, b6, b7, b8, b9, b10⟩) e (node_get hy) ?_)
    | ((with_reducible show NextK _ _); refine NextK.mk (s + 1, b6) ⟨by show s + 1 ≤ _; omega, hua, by rw [show l.length + 1 - (s + 1) = t by omega]; exact hee⟩ (by show l.length + 1 - (s + 1) < l.length + 1 - s; omega) ⟨⟨rfl, rfl⟩, ⟨⟨rfl, rfl⟩, rfl, rfl, by show ((s + 1 : Nat) : Int) = (s : Int) + 1; omega, trivial⟩, ⟨⟨rfl, rfl, trivial⟩, trivial⟩, trivial⟩)) <;> ((with_reducible conv => whnf); (with_reducible conv => congr <;> reduce); repeat ((first | (with_reducible refine HaltK.mk ?_) | (with_reducible refine StopK.mk ?_)); (with_reducible conv => whnf); (with_reducible conv => congr <;> reduce)))
    | ((with_reducible show (_ ∧ _) ∧ _ ∧ _); refine ⟨⟨rfl, rfl⟩, ?_, ?_⟩ <;> (with_reducible conv => whnf) <;> repeat' (first | (with_reducible exact trivial) | (with_reducible refine And.intro ?_ ?_ <;> with_reducible conv => whnf))))
      · have hil : i = l.length := by simp only [decide_eq_false_iff_not] at g2; omega
        rw [allIx_yes fun j x hx => hends j x (by have := (List.getElem?_eq_some_iff.1 hx).1; omega) hx]
        refine ⟨⟨rfl, rfl⟩, ?_, ?_⟩ <;> (with_reducible conv => whnf) <;> repeat' (first | (with_reducible exact trivial) | (with_reducible refine And.intro ?_ ?_ <;> with_reducible conv => whnf))
end Go.Proofs.Heir
end
section
set_option linter.unusedSimpArgs false
set_option linter.unusedVariables false
namespace Go.Proofs.Heir
open Go Go.Am Go.RowKit Go.Lib
set_option maxRecDepth 100000
set_option maxHeartbeats 8000000
theorem f123_ok (g : Nat) (cg : Callable Tryz.prog g) (caps : List AV) (hcaps : noRefL caps = true) (p : Int → Bool) (l : List Int) (hl : l.length ≤ 100000) (hf : ∀ a, a ∈ l → FnOK Tryz.prog g [] (eInt a :: caps) [] (eBool (p a))) :
    FnOK Tryz.prog 123 [] [eInts l, .clo (.func g) [] caps] [] (eInt (idxI p l)) := by
  have hlm : (l.map oInt).length = l.length := List.length_map ..
  refine FnOK.startC (rvs := [.tmp 4]) G G_good Tryz.func123 rfl Tryz.ntmps123 rfl rfl ?_; with_reducible refine wD ?_
  refine LoopK.use G G_good (fun (k : Nat) => [(0, eInts l), (1, .clo (.func g) [] caps), (7, eInt l.length), (8, eInt k)]) (fun _ => []) (fun k => k ≤ l.length ∧ ∀ j x, j < k → l[j]? = some x → p x = false) (fun k => l.length - k) 0 ⟨Nat.zero_le _, fun j x h => by omega⟩
    ⟨⟨rfl, rfl⟩, ⟨rfl, ⟨rfl, trivial, MFL_refl hcaps⟩, by show (l.length : Int) = ((l.map oInt).length : Int); rw [hlm], rfl, trivial⟩, trivial⟩ ?_
  rintro k ⟨hk, hno⟩
  with_reducible refine wK ?_
  refine IfK.mk (fun h1 => ?_) (fun h1 => ?_) <;> (try simp only [castN] at h1) <;> with_reducible refine wK ?_
  · simp only [decide_eq_true_eq] at h1
    have hk' : k < l.length := by omega
    obtain ⟨a, ha⟩ : ∃ a, l[k]? = some a := ⟨_, List.getElem?_eq_getElem hk'⟩
    refine IdxK.mk k (eInt a) rfl (int_get ha) ?_; with_reducible refine wK ?_
    refine CallK.lit [] (hf a (List.mem_of_getElem? ha)) cg ⟨rfl, MFL_refl hcaps⟩ rfl rfl ?_; with_reducible refine wK ?_
    refine IfK.mk (fun h2 => ?_) (fun h2 => ?_) <;> (try simp only [castN] at h2) <;> with_reducible refine wK ?_
    · (refine eK ?_ ?_ <;> with_reducible repeat' (first | exact trivial | (show _ ∧ _; refine aK ?_ ?_)))
      exact idxI_hit ha h2 hno
    · refine nK ?_; with_reducible refine wK ?_
      refine NextK.mk (k + 1) ⟨by omega, fun j x hj hx => ?_⟩ (by omega) ⟨⟨rfl, rfl⟩, ⟨rfl, ⟨rfl, trivial, MFL_refl hcaps⟩, rfl, by show ((k + 1 : Nat) : Int) = (k : Int) + 1; omega, trivial⟩, trivial⟩
      rcases Nat.lt_or_ge j k with h6 | h6
      · exact hno j x h6 hx
      · have : j = k := by omega
        subst this
        rw [ha] at hx; cases hx; exact h2
  · (refine eK ?_ ?_ <;> with_reducible repeat' (first | exact trivial | (show _ ∧ _; refine aK ?_ ?_)))
    have : k = l.length := by simp only [decide_eq_false_iff_not] at h1; omega
    exact idxI_none fun j x hx => hno j x (by have := (List.getElem?_eq_some_iff.1 hx).1; omega) hx
end Go.Proofs.Heir
end
section
set_option linter.unusedSimpArgs false
set_option linter.unusedVariables false
namespace Go.Proofs.Heir
open Go Go.Am Go.RowKit Go.Lib
set_option maxRecDepth 100000
set_option maxHeartbeats 8000000
theorem f106_ok (g : Nat) (cg : Callable Tryz.prog g) (caps : List AV) (hcaps : noRefL caps = true) (p : Int → Bool) (l : List Int) (hl : l.length ≤ 100000) (hf : ∀ a, a ∈ l → FnOK Tryz.prog g [] (eInt a :: caps) [] (eBool (p a))) :
    FnOK Tryz.prog 106 [] [eInts l, .clo (.func g) [] caps] [] (eBool (decide (0 ≤ idxI p l))) := by
  have h34 := f123_ok g cg caps hcaps p l hl hf
  refine FnOK.startC (rvs := [.tmp 4]) G G_good Tryz.func106 rfl Tryz.ntmps106 rfl rfl ?_; with_reducible refine wD ?_
  refine CallK.lit [] h34 c123 ⟨rfl, ⟨rfl, trivial, MFL_refl hcaps⟩, trivial⟩ rfl rfl ?_; with_reducible refine wK ?_
  (refine eK ?_ ?_ <;> with_reducible repeat' (first | exact trivial | (show _ ∧ _; refine aK ?_ ?_)))
  all_goals rfl
end Go.Proofs.Heir
end
section
set_option linter.unusedSimpArgs false
set_option linter.unusedVariables false
namespace Go.Proofs.Heir
open Go Go.Am Go.RowKit Go.Shelf
set_option maxRecDepth 100000
set_option maxHeartbeats 8000000
theorem ints_box {Wn : Nat → Prop} {μ : Mu} {W : World} {l : List Int} {b o : Nat} (h : Rep Wn μ W (.fptr (.sl 1 (l.map oInt)) 0) (.pointer (some ⟨b, o, none⟩))) :
    ∃ ad cap, W.cell? ⟨b, o, none⟩ = some (.slice ad l.length cap) ∧ l.length ≤ cap ∧ ∀ (j : Nat) (x : Int), l[j]? = some x → ∃ b2 o2, ad = some ⟨b2, o2, none⟩ ∧ W.cell? ⟨b2, o2 + j, none⟩ = some (.int .i64 x) := by
  generalize hv : Value.pointer (some ⟨b, o, none⟩) = v at h
  cases h with
  | @fptr _ _ b' o' f h1 h2 h3 h4 h5 =>
    cases hv
    have k3 := h3 0 _ rfl
    have k4 := h4 0 _ rfl
    rw [Nat.add_zero] at k3
    rw [Nat.add_zero, k3]
    generalize f 0 = s at k4
    cases hl : l with
    | nil =>
      subst hl
      cases k4 with
      | slNil => exact ⟨_, _, rfl, Nat.zero_le _, fun j x h => by simp at h⟩
      | sl a1 a2 a3 a4 a5 a6 a7 a8 => subst a3; exact ⟨_, _, rfl, Nat.zero_le _, fun j x h => by simp at h⟩
    | cons y r =>
      rw [← hl]
      generalize hrows : l.map oInt = rows at k4
      have hne : rows ≠ [] := by rw [← hrows, hl]; simp
      cases k4 with
      | slNil => exact absurd rfl hne
      | sl a1 a2 a3 a4 a5 a6 a7 a8 =>
        subst a3
        have hlen : rows.length = l.length := by rw [← hrows]; simp
        refine ⟨_, _, by rw [hlen], by rw [← hlen]; exact a4, fun j x hx => ⟨_, _, rfl, ?_⟩⟩
        have hr : rows[j]? = some (oInt x) := by rw [← hrows, List.getElem?_map, hx]; rfl
        have hq := flat_get (wd := 1) (fun i r hr => a5 i r hr) hr (show (cells (oInt x))[0]? = some (oInt x) from rfl)
        rw [Nat.mul_one, Nat.add_zero] at hq
        have c1 := a6 j _ hq
        have c2 := a7 j _ hq
        have one : ∀ v, Rep Wn μ W (oInt x) v → v = .int .i64 x := by intro v hv; unfold oInt at hv; cases hv; rfl
        rw [c1, one _ c2]
theorem back_it (l : List Int) (hl : l.length ≤ 100000) : ItOK Tryz.prog 121 [.fptr (.sl 1 (l.map oInt)) 0] l.length (fun k => [oInt ((l.length : Int) - 1 - k), oInt ((l.reverse[k]?).getD 0)]) := by
  intro vals y J Jx hJ hJm hJxm _ hY Wn w h0
  obtain ⟨⟨μ, hr⟩, _⟩ := hJ 0 Wn w h0
  obtain ⟨vb, us, rfl, hvb, hus⟩ := RepL.uncons hr
  obtain rfl := RepL.unnil hus
  obtain ⟨b, o, rfl⟩ : ∃ b o, vb = .pointer (some ⟨b, o, none⟩) := by cases hvb; exact ⟨_, _, rfl⟩
  have box : ∀ k Wn W, J k Wn W → ∃ ad cap, W.cell? ⟨b, o, none⟩ = some (.slice ad l.length cap) ∧ l.length ≤ cap ∧ ∀ (j : Nat) (x : Int), l[j]? = some x → ∃ b2 o2, ad = some ⟨b2, o2, none⟩ ∧ W.cell? ⟨b2, o2 + j, none⟩ = some (.int .i64 x) := by
    intro k Wn W hJk
    obtain ⟨⟨μ, hr⟩, _⟩ := hJ k Wn W hJk
    obtain ⟨v1, us, e, hv1, _⟩ := RepL.uncons hr
    cases e
    exact ints_box hv1
  refine (callsIn_wide (n := 1)).1 ?_
  refine callsIn_of_wp Tryz.func121 rfl trivial ?_ rfl
  simp only [Tryz.ntmps121, List.size_toArray, List.length_cons, List.length_nil, Nat.reduceAdd, Nat.reduceSub, Array.replicate_succ, Array.replicate_zero, List.push_toArray, List.append_toArray, List.nil_append, List.cons_append]
  obtain ⟨ad, cap, hbx, hcap, hel⟩ := box 0 Wn w h0
  gi_wp2
  gi_loopw [3] (fun i wr => ∃ k : Nat, k ≤ l.length ∧ i = .int .i64 ((l.length : Int) - 1 - k) ∧ ∃ Wn, J k Wn wr) (fun i _ => (intOf i + 1).toNat)
  case atStart => exact ⟨0, Nat.zero_le _, by simp, Wn, h0⟩
  case round =>
    obtain ⟨k, hk, rfl, Wn', hJk⟩ := hrel
    obtain ⟨ad', cap', hbx', hcap', hel'⟩ := box k Wn' wr hJk
    by_cases hlt : k < l.length
    · have hix : l.length - 1 - k < l.length := by omega
      obtain ⟨b2, o2, rfl, hcx⟩ := hel' (l.length - 1 - k) l[l.length - 1 - k] (List.getElem?_eq_getElem hix)
      have hrev : (l.reverse[k]?).getD 0 = l[l.length - 1 - k] := by
        rw [List.getElem?_eq_getElem (by simpa using hlt)]; simp
      obtain ⟨fn, tmps, assign, body, hy, hR⟩ := hY k Wn' wr [.int .i64 ((l.length : Int) - 1 - k), .int .i64 (l[l.length - 1 - k])] hlt hJk (fun _ _ _ => by rw [hrev]; exact .cons .lit (.cons .lit .nil))
      have hz : ((l.length : Int) - 1 - k).toNat = l.length - 1 - k := by omega
      gi_wp2
      refine hR.mono ?_
      rintro e W3 (⟨rfl, Wn3, hJ3, _⟩ | ⟨rfl, hJx3⟩)
      · gi_wp2
        go_roundw
        case rel => exact ⟨k + 1, by omega, by congr 1; omega, Wn3, hJ3⟩
        case measure => simp [intOf]; omega
      · gi_wp2
        refine bodyPost_ret (results_none rfl _ _ _) rfl ?_
        exact ⟨⟨_, rfl⟩, .inr hJx3⟩
    · obtain rfl : k = l.length := by omega
      gi_wp2
      go_end0
      exact ⟨⟨_, rfl⟩, .inl ⟨_, hJk⟩⟩
end Go.Proofs.Heir
end
section
set_option linter.unusedSimpArgs false
set_option linter.unusedVariables false
namespace Go.Proofs.Heir
open Go Go.Am Go.RowKit Go.Lib
set_option maxRecDepth 100000
set_option maxHeartbeats 8000000
theorem f105_ok (f : ForM) (n : Int) : FnOK Tryz.prog 105 [] [eInt n, .fptr (eFor f) 0] [] (eBool (!thereN f.nodes n)) := by
  obtain ⟨l, m⟩ := f
  have hlm : (l.map oNode).length = l.length := List.length_map ..
  refine FnOK.startC (rvs := [.tmp 3]) G G_good Tryz.func105 rfl Tryz.ntmps105 rfl rfl ?_; with_reducible refine wD ?_
  repeat' (first
    | refine pK ?_
    | ((first
      | ((with_reducible show IfK _ _ _ _); (refine IfK.mk (fun hp => ?_) (fun hp => ?_) <;> (try simp only [castN, decide_eq_true_eq, decide_eq_false_iff_not, Bool.not_eq_true', Bool.not_eq_false', Decidable.not_not, Int.not_lt, Int.not_le] at hp)))) <;> with_reducible refine wK ?_)
    | ((with_reducible show (_ ∧ _) ∧ _ ∧ _); (refine eK ?_ ?_ <;> with_reducible repeat' (first | exact trivial | (show _ ∧ _; refine aK ?_ ?_)))))
  · unfold thereN; rw [decide_eq_false (show ¬ 0 ≤ n by omega)]; rfl
  · unfold thereN; rw [decide_eq_true hp, hlm, Bool.true_and, ← decide_not]
    exact decide_eq_decide.2 Int.not_lt
theorem f86_ok (f : ForM) (hs : SmallN f.nodes) (l : List Int) (hl : l.length ≤ 100000) : FnOK Tryz.prog 86 [] [eFor f, eInts l] [] (eBool (rightF f && !decide (0 ≤ idxI (fun n => !thereN f.nodes n) l))) := by
  have h48 := f48_ok f hs
  have h106 := f106_ok 105 c105 [.fptr (eFor f) 0] rfl (fun n => !thereN f.nodes n) l hl (fun a _ => f105_ok f a)
  obtain ⟨ns, m⟩ := f
  simp only at h48 h106 ⊢
  refine FnOK.startC (rvs := [.tmp 4]) G G_good Tryz.func86 rfl Tryz.ntmps86 rfl rfl ?_; with_reducible refine wD ?_
  refine CallK.lit [] h48 c48 ⟨⟨rfl, rfl, trivial⟩, trivial⟩ rfl rfl ?_; with_reducible refine wK ?_
  cases h0 : rightF ⟨ns, m⟩ with
  | false =>
    repeat' (first
    | refine gK ?_
    | ((with_reducible show (_ ∧ _) ∧ _ ∧ _); (refine eK ?_ ?_ <;> with_reducible repeat' (first | exact trivial | (show _ ∧ _; refine aK ?_ ?_)))))
    all_goals rfl
  | true =>
    repeat' (first
    | refine gK ?_
    | ((with_reducible show (_ ∧ _) ∧ _ ∧ _); (refine eK ?_ ?_ <;> with_reducible repeat' (first | exact trivial | (show _ ∧ _; refine aK ?_ ?_)))))
    refine CallK.lit [20] h106 c106 ⟨rfl, ⟨rfl, trivial, ⟨_, _, _, _, _, rfl, rfl, rfl, rfl, rfl, ⟨rfl, rfl, trivial⟩⟩, trivial⟩, trivial⟩ rfl rfl ?_; with_reducible refine wK ?_
    repeat' (first
    | refine gK ?_
    | ((with_reducible show (_ ∧ _) ∧ _ ∧ _); (refine eK ?_ ?_ <;> with_reducible repeat' (first | exact trivial | (show _ ∧ _; refine aK ?_ ?_)))))
    all_goals rfl
end Go.Proofs.Heir
end
section
set_option linter.unusedSimpArgs false
set_option linter.unusedVariables false
namespace Go.Proofs.Heir
open Go Go.Am Go.RowKit Go.Lib
set_option maxRecDepth 100000
set_option maxHeartbeats 8000000
theorem f102_ok (l : List Int) : FnOK Tryz.prog 102 [] [eInts l] [] (.clo (.func 121) [] [.fptr (eInts l) 0]) := by
  refine FnOK.startC (rvs := [.tmp 2]) G G_good Tryz.func102 rfl Tryz.ntmps102 rfl rfl ?_; with_reducible refine wD ?_
  refine ⟨⟨rfl, rfl⟩, ⟨rfl, trivial, ⟨_, _, _, _, _, rfl, rfl, rfl, rfl, rfl, rfl⟩, trivial⟩, ?_⟩
  exact trivial
end Go.Proofs.Heir
end
section
set_option linter.unusedSimpArgs false
set_option linter.unusedVariables false
namespace Go.Proofs.Heir
open Go Go.Am Go.RowKit Go.Lib
set_option maxRecDepth 100000
def allU (f : ForM) (n : Int) : List Int := if (rightF f && thereN f.nodes n) = true then U.ordN f.nodes f.nodes.length n else []
theorem f80_ok (f : ForM) (hs : SmallN f.nodes) (n : Int) : FnOK Tryz.prog 80 [] [eFor f, eInt n] [] (eInts (allU f n)) := by
  have h86 := f86_ok f hs [n] (by simp)
  have e1 : (rightF f && !decide (0 ≤ idxI (fun n => !thereN f.nodes n) [n])) = (rightF f && thereN f.nodes n) := by
    congr 1
    unfold idxI
    cases h : thereN f.nodes n <;> simp [List.findIdx?_cons, h]
  rw [e1] at h86
  obtain ⟨l, m⟩ := f
  unfold allU
  simp only at h86 ⊢
  have hlm : (l.map oNode).length = l.length := List.length_map ..
  refine FnOK.startC (rvs := [.tmp 4]) G G_good Tryz.func80 rfl Tryz.ntmps80 rfl rfl ?_; delta List.toArray; ((with_reducible conv => whnf); (with_reducible conv => congr <;> reduce); repeat ((first | (with_reducible refine HaltK.mk ?_) | (with_reducible refine StopK.mk ?_)); (with_reducible conv => whnf); (with_reducible conv => congr <;> reduce)))
  cases e0 : (rightF ⟨l, m⟩ && thereN l n) with
  | false =>
    rw [e0] at h86
    refine CallK.lit [141] h86 c86 ⟨⟨rfl, rfl, trivial⟩, frz_ints (l := [n]) rfl rfl rfl rfl, trivial⟩ rfl rfl ?_; ((with_reducible conv => whnf); (with_reducible conv => congr <;> reduce); repeat ((first | (with_reducible refine HaltK.mk ?_) | (with_reducible refine StopK.mk ?_)); (with_reducible conv => whnf); (with_reducible conv => congr <;> reduce)))
    repeat' (first
    | (first
    | ((with_reducible show IfK _ _ _ _); first | refine IfK.ff ?_ | refine IfK.tt ?_ | refine IfK.no (by first | rfl | assumption | exact nf (by assumption) | exact nt (by assumption) | ((try simp only [castN]); first | (simp []; done) | (simp []; omega))) ?_ | refine IfK.yes (by first | rfl | assumption | exact nf (by assumption) | exact nt (by assumption) | ((try simp only [castN]); first | (simp []; done) | (simp []; omega))) ?_)
    | ((with_reducible show NeedK _ _ _ _); refine NeedK.mk (by (try simp only [castN]); omega) ?_)
    | ((with_reducible show DrawK _ _ _ _); refine DrawK.mk (by kernel_rfl) (by kernel_rfl) (by kernel_rfl) ?_)) <;> ((with_reducible conv => whnf); (with_reducible conv => congr <;> reduce); repeat ((first | (with_reducible refine HaltK.mk ?_) | (with_reducible refine StopK.mk ?_)); (with_reducible conv => whnf); (with_reducible conv => congr <;> reduce)))
    | ((with_reducible show (_ ∧ _) ∧ _ ∧ _); refine ⟨⟨rfl, rfl⟩, ?_, ?_⟩ <;> (with_reducible conv => whnf) <;> repeat' (first | (with_reducible exact trivial) | (with_reducible refine And.intro ?_ ?_ <;> with_reducible conv => whnf))))
    all_goals exact .inr (.inr ⟨1, rfl⟩)
  | true =>
    rw [e0] at h86
    refine CallK.lit [141] h86 c86 ⟨⟨rfl, rfl, trivial⟩, frz_ints (l := [n]) rfl rfl rfl rfl, trivial⟩ rfl rfl ?_; ((with_reducible conv => whnf); (with_reducible conv => congr <;> reduce); repeat ((first | (with_reducible refine HaltK.mk ?_) | (with_reducible refine StopK.mk ?_)); (with_reducible conv => whnf); (with_reducible conv => congr <;> reduce)))
    rw [if_pos rfl]
    obtain ⟨hr, hn⟩ : rightF ⟨l, m⟩ = true ∧ thereN l n = true := by simpa using e0
    have T := U.tree_of hr
    have hol := U.ord_len T l.length hn
    simp only at T hol
    repeat' (first
    | (first
    | ((with_reducible show IfK _ _ _ _); first | refine IfK.ff ?_ | refine IfK.tt ?_ | refine IfK.no (by first | rfl | assumption | exact nf (by assumption) | exact nt (by assumption) | ((try simp only [castN]); first | (simp []; done) | (simp []; omega))) ?_ | refine IfK.yes (by first | rfl | assumption | exact nf (by assumption) | exact nt (by assumption) | ((try simp only [castN]); first | (simp []; done) | (simp []; omega))) ?_)
    | ((with_reducible show NeedK _ _ _ _); refine NeedK.mk (by (try simp only [castN]); omega) ?_)
    | ((with_reducible show DrawK _ _ _ _); refine DrawK.mk (by kernel_rfl) (by kernel_rfl) (by kernel_rfl) ?_)) <;> ((with_reducible conv => whnf); (with_reducible conv => congr <;> reduce); repeat ((first | (with_reducible refine HaltK.mk ?_) | (with_reducible refine StopK.mk ?_)); (with_reducible conv => whnf); (with_reducible conv => congr <;> reduce)))
    | ((with_reducible show (_ ∧ _) ∧ _ ∧ _); refine ⟨⟨rfl, rfl⟩, ?_, ?_⟩ <;> (with_reducible conv => whnf) <;> repeat' (first | (with_reducible exact trivial) | (with_reducible refine And.intro ?_ ?_ <;> with_reducible conv => whnf))))
    refine LoopK.ghost 5 51 1 rfl rfl ?_
    refine LoopK.use G G_good (fun (i : List Int × List Int × List Int) => [(2, .ptr 20 0 0), (5, .own 51 0 i.1.length), (6, .ptr 60 0 0)])
      (fun i => [(20, .live 2 [eFor ⟨l, m⟩] false), (51, rInts i.1), (60, .live 1 [.own 181 0 i.2.1.length] false), (181, rInts (i.2.1 ++ i.2.2))])
      (fun i => U.ordN l l.length n = i.1 ++ U.rest l i.2.1 ∧ ∀ c ∈ i.2.1, thereN l c = true) (fun i => l.length - i.1.length) ([], [n], []) ⟨by simp [U.rest], fun c hc => by rw [List.mem_singleton] at hc; subst hc; exact hn⟩
      (by refine ⟨⟨rfl, rfl⟩, ⟨⟨rfl, rfl⟩, ⟨rfl, rfl⟩, ⟨rfl, rfl⟩, trivial⟩, ⟨⟨rfl, rfl, trivial⟩, trivial⟩, ⟨.refl rfl, noRef_ints _⟩, ⟨⟨rfl, rfl⟩, trivial⟩, ⟨.refl rfl, noRef_ints _⟩, trivial⟩) ?_
    rintro ⟨out, st, sp⟩ ⟨ho, hst⟩
    simp only at ho hst
    ((with_reducible conv => whnf); (with_reducible conv => congr <;> reduce); repeat ((first | (with_reducible refine HaltK.mk ?_) | (with_reducible refine StopK.mk ?_)); (with_reducible conv => whnf); (with_reducible conv => congr <;> reduce)))
    have hoL := congrArg List.length ho
    rw [List.length_append] at hoL
    have hol' : out.length = (out.map oInt).length := (List.length_map ..).symm
    have hrl := U.rest_len T hst
    have hl60 := hs.len
    simp only at hl60
    obtain h | ⟨st', t, h⟩ := List.eq_nil_or_concat st <;> (try rw [List.concat_eq_append] at h) <;> subst h
    · repeat' (first
    | (first
    | ((with_reducible show IfK _ _ _ _); first | refine IfK.ff ?_ | refine IfK.tt ?_ | refine IfK.no (by first | rfl | assumption | exact nf (by assumption) | exact nt (by assumption) | ((try simp only [castN]); first | (simp []; done) | (simp []; omega))) ?_ | refine IfK.yes (by first | rfl | assumption | exact nf (by assumption) | exact nt (by assumption) | ((try simp only [castN]); first | (simp []; done) | (simp []; omega))) ?_)
    | ((with_reducible show NeedK _ _ _ _); refine NeedK.mk (by (try simp only [castN]); omega) ?_)
    | ((with_reducible show DrawK _ _ _ _); refine DrawK.mk (by kernel_rfl) (by kernel_rfl) (by kernel_rfl) ?_)) <;> ((with_reducible conv => whnf); (with_reducible conv => congr <;> reduce); repeat ((first | (with_reducible refine HaltK.mk ?_) | (with_reducible refine StopK.mk ?_)); (with_reducible conv => whnf); (with_reducible conv => congr <;> reduce)))
    | ((with_reducible show (_ ∧ _) ∧ _ ∧ _); refine ⟨⟨rfl, rfl⟩, ?_, ?_⟩ <;> (with_reducible conv => whnf) <;> repeat' (first | (with_reducible exact trivial) | (with_reducible refine And.intro ?_ ?_ <;> with_reducible conv => whnf))))
      all_goals exact frz_ints rfl rfl (by rw [ho]; simp [U.rest]) (by rw [ho]; simp [U.rest])
    · have ht := hst t (by simp)
      have hlen : (st' ++ [t]).length = st'.length + 1 := by simp
      obtain ⟨k, x, rfl, hx, hnx⟩ := there_iff.1 ht
      rw [hlen]
      rw [hlen] at hrl
      repeat' (first
    | (first
    | ((with_reducible show IfK _ _ _ _); first | refine IfK.ff ?_ | refine IfK.tt ?_ | refine IfK.no (by first | rfl | assumption | exact nf (by assumption) | exact nt (by assumption) | ((try simp only [castN]); first | (simp []; done) | (simp []; omega))) ?_ | refine IfK.yes (by first | rfl | assumption | exact nf (by assumption) | exact nt (by assumption) | ((try simp only [castN]); first | (simp []; done) | (simp []; omega))) ?_)
    | ((with_reducible show NeedK _ _ _ _); refine NeedK.mk (by (try simp only [castN]); omega) ?_)
    | ((with_reducible show DrawK _ _ _ _); refine DrawK.mk (by kernel_rfl) (by kernel_rfl) (by kernel_rfl) ?_)) <;> ((with_reducible conv => whnf); (with_reducible conv => congr <;> reduce); repeat ((first | (with_reducible refine HaltK.mk ?_) | (with_reducible refine StopK.mk ?_)); (with_reducible conv => whnf); (with_reducible conv => congr <;> reduce)))
    | ((with_reducible show (_ ∧ _) ∧ _ ∧ _); refine ⟨⟨rfl, rfl⟩, ?_, ?_⟩ <;> (with_reducible conv => whnf) <;> repeat' (first | (with_reducible exact trivial) | (with_reducible refine And.intro ?_ ?_ <;> with_reducible conv => whnf))))
      refine LtK.mk st'.length (by (try simp only [castN]); omega) (by omega) ?_; ((with_reducible conv => whnf); (with_reducible conv => congr <;> reduce); repeat ((first | (with_reducible refine HaltK.mk ?_) | (with_reducible refine StopK.mk ?_)); (with_reducible conv => whnf); (with_reducible conv => congr <;> reduce)))
      refine ElemK.mk (eInt (k : Int)) (by rw [Nat.zero_add, List.getElem?_map, List.append_assoc, List.getElem?_append_right (Nat.le_refl _), Nat.sub_self]; rfl) ?_; ((with_reducible conv => whnf); (with_reducible conv => congr <;> reduce); repeat ((first | (with_reducible refine HaltK.mk ?_) | (with_reducible refine StopK.mk ?_)); (with_reducible conv => whnf); (with_reducible conv => congr <;> reduce)))
      repeat' (first
    | (first
    | ((with_reducible show IfK _ _ _ _); first | refine IfK.ff ?_ | refine IfK.tt ?_ | refine IfK.no (by first | rfl | assumption | exact nf (by assumption) | exact nt (by assumption) | ((try simp only [castN]); first | (simp []; done) | (simp []; omega))) ?_ | refine IfK.yes (by first | rfl | assumption | exact nf (by assumption) | exact nt (by assumption) | ((try simp only [castN]); first | (simp []; done) | (simp []; omega))) ?_)
    | ((with_reducible show NeedK _ _ _ _); refine NeedK.mk (by (try simp only [castN]); omega) ?_)
    | ((with_reducible show DrawK _ _ _ _); refine DrawK.mk (by kernel_rfl) (by kernel_rfl) (by kernel_rfl) ?_)) <;> ((with_reducible conv => whnf); (with_reducible conv => congr <;> reduce); repeat ((first | (with_reducible refine HaltK.mk ?_) | (with_reducible refine StopK.mk ?_)); (with_reducible conv => whnf); (with_reducible conv => congr <;> reduce)))
    | ((with_reducible show (_ ∧ _) ∧ _ ∧ _); refine ⟨⟨rfl, rfl⟩, ?_, ?_⟩ <;> (with_reducible conv => whnf) <;> repeat' (first | (with_reducible exact trivial) | (with_reducible refine And.intro ?_ ?_ <;> with_reducible conv => whnf))))
      refine CutK.mk 0 st'.length rfl (by (try simp only [castN]); omega) (by omega) ?_; ((with_reducible conv => whnf); (with_reducible conv => congr <;> reduce); repeat ((first | (with_reducible refine HaltK.mk ?_) | (with_reducible refine StopK.mk ?_)); (with_reducible conv => whnf); (with_reducible conv => congr <;> reduce)))
      repeat' (first
    | (first
    | ((with_reducible show IfK _ _ _ _); first | refine IfK.ff ?_ | refine IfK.tt ?_ | refine IfK.no (by first | rfl | assumption | exact nf (by assumption) | exact nt (by assumption) | ((try simp only [castN]); first | (simp []; done) | (simp []; omega))) ?_ | refine IfK.yes (by first | rfl | assumption | exact nf (by assumption) | exact nt (by assumption) | ((try simp only [castN]); first | (simp []; done) | (simp []; omega))) ?_)
    | ((with_reducible show NeedK _ _ _ _); refine NeedK.mk (by (try simp only [castN]); omega) ?_)
    | ((with_reducible show DrawK _ _ _ _); refine DrawK.mk (by kernel_rfl) (by kernel_rfl) (by kernel_rfl) ?_)) <;> ((with_reducible conv => whnf); (with_reducible conv => congr <;> reduce); repeat ((first | (with_reducible refine HaltK.mk ?_) | (with_reducible refine StopK.mk ?_)); (with_reducible conv => whnf); (with_reducible conv => congr <;> reduce)))
    | ((with_reducible show (_ ∧ _) ∧ _ ∧ _); refine ⟨⟨rfl, rfl⟩, ?_, ?_⟩ <;> (with_reducible conv => whnf) <;> repeat' (first | (with_reducible exact trivial) | (with_reducible refine And.intro ?_ ?_ <;> with_reducible conv => whnf))))
      refine AppK.mk (out.map oInt) [eInt (k : Int)] ⟨rfl, hol', rfl⟩ ⟨rfl, rfl, rfl⟩ rfl (by simp; omega) (by simp; omega) ?_; ((with_reducible conv => whnf); (with_reducible conv => congr <;> reduce); repeat ((first | (with_reducible refine HaltK.mk ?_) | (with_reducible refine StopK.mk ?_)); (with_reducible conv => whnf); (with_reducible conv => congr <;> reduce)))
      repeat' (first
    | (first
    | ((with_reducible show IfK _ _ _ _); first | refine IfK.ff ?_ | refine IfK.tt ?_ | refine IfK.no (by first | rfl | assumption | exact nf (by assumption) | exact nt (by assumption) | ((try simp only [castN]); first | (simp []; done) | (simp []; omega))) ?_ | refine IfK.yes (by first | rfl | assumption | exact nf (by assumption) | exact nt (by assumption) | ((try simp only [castN]); first | (simp []; done) | (simp []; omega))) ?_)
    | ((with_reducible show NeedK _ _ _ _); refine NeedK.mk (by (try simp only [castN]); omega) ?_)
    | ((with_reducible show DrawK _ _ _ _); refine DrawK.mk (by kernel_rfl) (by kernel_rfl) (by kernel_rfl) ?_)) <;> ((with_reducible conv => whnf); (with_reducible conv => congr <;> reduce); repeat ((first | (with_reducible refine HaltK.mk ?_) | (with_reducible refine StopK.mk ?_)); (with_reducible conv => whnf); (with_reducible conv => congr <;> reduce)))
    | ((with_reducible show (_ ∧ _) ∧ _ ∧ _); refine ⟨⟨rfl, rfl⟩, ?_, ?_⟩ <;> (with_reducible conv => whnf) <;> repeat' (first | (with_reducible exact trivial) | (with_reducible refine And.intro ?_ ?_ <;> with_reducible conv => whnf))))
      obtain ⟨a1, a2, a3, a4, a5, a6, a7, a8, a9, a10⟩ := x
      refine IdxK.mk k (eNode ⟨a1, a2, a3, a4, a5, a6, a7, a8, a9, a10⟩) rfl (node_get hx) ?_; ((with_reducible conv => whnf); (with_reducible conv => congr <;> reduce); repeat ((first | (with_reducible refine HaltK.mk ?_) | (with_reducible refine StopK.mk ?_)); (with_reducible conv => whnf); (with_reducible conv => congr <;> reduce)))
      repeat' (first
    | (first
    | ((with_reducible show IfK _ _ _ _); first | refine IfK.ff ?_ | refine IfK.tt ?_ | refine IfK.no (by first | rfl | assumption | exact nf (by assumption) | exact nt (by assumption) | ((try simp only [castN]); first | (simp []; done) | (simp []; omega))) ?_ | refine IfK.yes (by first | rfl | assumption | exact nf (by assumption) | exact nt (by assumption) | ((try simp only [castN]); first | (simp []; done) | (simp []; omega))) ?_)
    | ((with_reducible show NeedK _ _ _ _); refine NeedK.mk (by (try simp only [castN]); omega) ?_)
    | ((with_reducible show DrawK _ _ _ _); refine DrawK.mk (by kernel_rfl) (by kernel_rfl) (by kernel_rfl) ?_)) <;> ((with_reducible conv => whnf); (with_reducible conv => congr <;> reduce); repeat ((first | (with_reducible refine HaltK.mk ?_) | (with_reducible refine StopK.mk ?_)); (with_reducible conv => whnf); (with_reducible conv => congr <;> reduce)))
    | ((with_reducible show (_ ∧ _) ∧ _ ∧ _); refine ⟨⟨rfl, rfl⟩, ?_, ?_⟩ <;> (with_reducible conv => whnf) <;> repeat' (first | (with_reducible exact trivial) | (with_reducible refine And.intro ?_ ?_ <;> with_reducible conv => whnf))))
      refine CallK.val [] (f102_ok a7) c102 ⟨rfl, trivial⟩ rfl rfl rfl ?_; ((with_reducible conv => whnf); (with_reducible conv => congr <;> reduce); repeat ((first | (with_reducible refine HaltK.mk ?_) | (with_reducible refine StopK.mk ?_)); (with_reducible conv => whnf); (with_reducible conv => congr <;> reduce)))
      repeat' (first
    | (first
    | ((with_reducible show IfK _ _ _ _); first | refine IfK.ff ?_ | refine IfK.tt ?_ | refine IfK.no (by first | rfl | assumption | exact nf (by assumption) | exact nt (by assumption) | ((try simp only [castN]); first | (simp []; done) | (simp []; omega))) ?_ | refine IfK.yes (by first | rfl | assumption | exact nf (by assumption) | exact nt (by assumption) | ((try simp only [castN]); first | (simp []; done) | (simp []; omega))) ?_)
    | ((with_reducible show NeedK _ _ _ _); refine NeedK.mk (by (try simp only [castN]); omega) ?_)
    | ((with_reducible show DrawK _ _ _ _); refine DrawK.mk (by kernel_rfl) (by kernel_rfl) (by kernel_rfl) ?_)) <;> ((with_reducible conv => whnf); (with_reducible conv => congr <;> reduce); repeat ((first | (with_reducible refine HaltK.mk ?_) | (with_reducible refine StopK.mk ?_)); (with_reducible conv => whnf); (with_reducible conv => congr <;> reduce)))
    | ((with_reducible show (_ ∧ _) ∧ _ ∧ _); refine ⟨⟨rfl, rfl⟩, ?_, ?_⟩ <;> (with_reducible conv => whnf) <;> repeat' (first | (with_reducible exact trivial) | (with_reducible refine And.intro ?_ ?_ <;> with_reducible conv => whnf))))
      obtain ⟨spF, hs0, hs1⟩ : ∃ spF : Nat → List Int, spF 0 = (k : Int) :: sp ∧ ∀ j, spF (j + 1) = [] := ⟨fun j => match j with | 0 => (k : Int) :: sp | _ + 1 => [], rfl, fun _ => rfl⟩
      have hk7 := hs.kids _ (List.mem_of_getElem? hx)
      simp only at hk7
      refine LoopK.range G G_good 4 [(2, .ptr 1 0 0), (5, .own 3 0 (out.length + 1)), (6, .ptr 0 0 0), (9, .ptr 2 0 0), (43, .clo (.func 121) [] [.fptr (eInts a7) 0])]
        (fun j => [(0, .live 1 [.own 181 0 (st'.length + j)] false), (1, .live 2 [eFor ⟨l, m⟩] false), (2, .live 10 [eNode ⟨a1, a2, a3, a4, a5, a6, a7, a8, a9, a10⟩] false), (3, rInts (out ++ [(k : Int)])), (181, rInts (st' ++ a7.reverse.take j ++ spF j))])
        (back_it a7 (by omega)) c121 ?_ rfl ⟨⟨rfl, rfl⟩, rfl⟩ (fun _ _ => rfl) (fun _ _ => rfl) ⟨⟨rfl, rfl⟩, rfl, rfl⟩ ?_ ?_
      · refine ⟨⟨rfl, rfl⟩, ?_⟩
        (with_reducible conv => whnf)
        repeat' (first | (with_reducible exact trivial) | (with_reducible refine And.intro ?_ ?_ <;> with_reducible conv => whnf))
        all_goals try rfl
        · simp
        · exact ⟨.refl rfl, rfl⟩
        · exact ⟨.refl rfl, rfl⟩
        · refine ⟨?_, noRef_ints _⟩
          rw [← show (out ++ [(k : Int)]).map oInt = out.map oInt ++ [AV.lit (.int .i64 k)] by simp; rfl]
          exact .refl (noRef_ints _)
        · refine ⟨?_, noRef_ints _⟩
          rw [hs0, List.take_zero, List.append_nil, show st' ++ [(k : Int)] ++ sp = st' ++ (k : Int) :: sp by simp]; exact .refl (noRef_ints _)
      · intro j hj
        ((with_reducible conv => whnf); (with_reducible conv => congr <;> reduce); repeat ((first | (with_reducible refine HaltK.mk ?_) | (with_reducible refine StopK.mk ?_)); (with_reducible conv => whnf); (with_reducible conv => congr <;> reduce)))
        refine BodyK.mk rfl ?_; ((with_reducible conv => whnf); (with_reducible conv => congr <;> reduce); repeat ((first | (with_reducible refine HaltK.mk ?_) | (with_reducible refine StopK.mk ?_)); (with_reducible conv => whnf); (with_reducible conv => congr <;> reduce)))
        repeat' (first
    | (first
    | ((with_reducible show IfK _ _ _ _); first | refine IfK.ff ?_ | refine IfK.tt ?_ | refine IfK.no (by first | rfl | assumption | exact nf (by assumption) | exact nt (by assumption) | ((try simp only [castN]); first | (simp []; done) | (simp []; omega))) ?_ | refine IfK.yes (by first | rfl | assumption | exact nf (by assumption) | exact nt (by assumption) | ((try simp only [castN]); first | (simp []; done) | (simp []; omega))) ?_)
    | ((with_reducible show NeedK _ _ _ _); refine NeedK.mk (by (try simp only [castN]); omega) ?_)
    | ((with_reducible show DrawK _ _ _ _); refine DrawK.mk (by kernel_rfl) (by kernel_rfl) (by kernel_rfl) ?_)) <;> ((with_reducible conv => whnf); (with_reducible conv => congr <;> reduce); repeat ((first | (with_reducible refine HaltK.mk ?_) | (with_reducible refine StopK.mk ?_)); (with_reducible conv => whnf); (with_reducible conv => congr <;> reduce)))
    | ((with_reducible show (_ ∧ _) ∧ _ ∧ _); refine ⟨⟨rfl, rfl⟩, ?_, ?_⟩ <;> (with_reducible conv => whnf) <;> repeat' (first | (with_reducible exact trivial) | (with_reducible refine And.intro ?_ ?_ <;> with_reducible conv => whnf))))
        refine AppK.take ((st' ++ a7.reverse.take j).map oInt) [oInt ((a7.reverse[j]?).getD 0)] ⟨rfl, by simp; omega, by rw [List.map_append (l₂ := spF j), List.take_left' (by simp; omega)]⟩ ⟨rfl, rfl, rfl⟩ rfl (by simp; omega) (by simp; omega) ?_
        ((with_reducible conv => whnf); (with_reducible conv => congr <;> reduce); repeat ((first | (with_reducible refine HaltK.mk ?_) | (with_reducible refine StopK.mk ?_)); (with_reducible conv => whnf); (with_reducible conv => congr <;> reduce)))
        repeat' (first
    | (first
    | ((with_reducible show IfK _ _ _ _); first | refine IfK.ff ?_ | refine IfK.tt ?_ | refine IfK.no (by first | rfl | assumption | exact nf (by assumption) | exact nt (by assumption) | ((try simp only [castN]); first | (simp []; done) | (simp []; omega))) ?_ | refine IfK.yes (by first | rfl | assumption | exact nf (by assumption) | exact nt (by assumption) | ((try simp only [castN]); first | (simp []; done) | (simp []; omega))) ?_)
    | ((with_reducible show NeedK _ _ _ _); refine NeedK.mk (by (try simp only [castN]); omega) ?_)
    | ((with_reducible show DrawK _ _ _ _); refine DrawK.mk (by kernel_rfl) (by kernel_rfl) (by kernel_rfl) ?_)) <;> ((with_reducible conv => whnf); (with_reducible conv => congr <;> reduce); repeat ((first | (with_reducible refine HaltK.mk ?_) | (with_reducible refine StopK.mk ?_)); (with_reducible conv => whnf); (with_reducible conv => congr <;> reduce)))
    | ((with_reducible show (_ ∧ _) ∧ _ ∧ _); refine ⟨⟨rfl, rfl⟩, ?_, ?_⟩ <;> (with_reducible conv => whnf) <;> repeat' (first | (with_reducible exact trivial) | (with_reducible refine And.intro ?_ ?_ <;> with_reducible conv => whnf))))
        refine TurnK.mk ?_
        obtain ⟨c, hc⟩ : ∃ c, a7.reverse[j]? = some c := ⟨_, List.getElem?_eq_getElem (by simpa using hj)⟩
        have htk : a7.reverse.take (j + 1) = a7.reverse.take j ++ [c] := by rw [List.take_add_one, hc]; rfl
        rw [hc, Option.getD_some]
        refine ⟨⟨rfl, rfl⟩, ?_⟩
        (with_reducible conv => whnf)
        repeat' (first | (with_reducible exact trivial) | (with_reducible refine And.intro ?_ ?_ <;> with_reducible conv => whnf))
        all_goals try rfl
        · simp; omega
        · exact ⟨.refl rfl, rfl⟩
        · exact ⟨.refl rfl, rfl⟩
        · exact ⟨.refl (noRef_ints _), noRef_ints _⟩
        · refine ⟨?_, noRef_ints _⟩
          rw [hs1, htk, List.append_nil, ← List.append_assoc, List.map_append (l₂ := [c])]; exact .refl (by rw [← List.map_append]; exact noRef_ints _)
      · ((with_reducible conv => whnf); (with_reducible conv => congr <;> reduce); repeat ((first | (with_reducible refine HaltK.mk ?_) | (with_reducible refine StopK.mk ?_)); (with_reducible conv => whnf); (with_reducible conv => congr <;> reduce)))
        refine ElemK.mk (eNode ⟨a1, a2, a3, a4, a5, a6, a7, a8, a9, a10⟩) rfl ?_; ((with_reducible conv => whnf); (with_reducible conv => congr <;> reduce); repeat ((first | (with_reducible refine HaltK.mk ?_) | (with_reducible refine StopK.mk ?_)); (with_reducible conv => whnf); (with_reducible conv => congr <;> reduce)))
        have hT : nd l k = ⟨a1, a2, a3, a4, a5, a6, a7, a8, a9, a10⟩ := hnx
        have hch : chU (nd l k) = (if a9 = -1 then [] else [a9]) ++ a7 := by rw [hT]; rfl
        have hpop := U.rest_pop T (st := st') ht
        rw [hch] at hpop
        have hkid : ∀ c ∈ (if a9 = -1 then [] else [a9]) ++ a7, thereN l c = true := fun c hc => (T.kid k ht c (by rw [hch]; exact hc)).1
        have hta : a7.reverse.take a7.length = a7.reverse := List.take_of_length_le (by simp)
        by_cases e9 : a9 = -1
        · subst e9
          rw [if_pos rfl, List.nil_append] at hpop hkid
          repeat' (first
    | (first
    | ((with_reducible show IfK _ _ _ _); first | refine IfK.ff ?_ | refine IfK.tt ?_ | refine IfK.no (by first | rfl | assumption | exact nf (by assumption) | exact nt (by assumption) | ((try simp only [castN]); first | (simp []; done) | (simp []; omega))) ?_ | refine IfK.yes (by first | rfl | assumption | exact nf (by assumption) | exact nt (by assumption) | ((try simp only [castN]); first | (simp []; done) | (simp []; omega))) ?_)
    | ((with_reducible show NeedK _ _ _ _); refine NeedK.mk (by (try simp only [castN]); omega) ?_)
    | ((with_reducible show DrawK _ _ _ _); refine DrawK.mk (by kernel_rfl) (by kernel_rfl) (by kernel_rfl) ?_)) <;> ((with_reducible conv => whnf); (with_reducible conv => congr <;> reduce); repeat ((first | (with_reducible refine HaltK.mk ?_) | (with_reducible refine StopK.mk ?_)); (with_reducible conv => whnf); (with_reducible conv => congr <;> reduce)))
    | ((with_reducible show (_ ∧ _) ∧ _ ∧ _); refine ⟨⟨rfl, rfl⟩, ?_, ?_⟩ <;> (with_reducible conv => whnf) <;> repeat' (first | (with_reducible exact trivial) | (with_reducible refine And.intro ?_ ?_ <;> with_reducible conv => whnf))))
          refine NextK.mk (out ++ [(k : Int)], st' ++ a7.reverse, spF a7.length) ⟨?_, ?_⟩ ?_ ?_
          · rw [ho, hpop]; simp
          · intro c hc
            rcases List.mem_append.1 hc with h | h
            · exact hst c (by simp [h])
            · exact hkid c (by simpa using h)
          · simp only [List.length_append, List.length_singleton]; omega
          · refine ⟨⟨rfl, rfl⟩, ?_⟩
            (with_reducible conv => whnf)
            repeat' (first | (with_reducible exact trivial) | (with_reducible refine And.intro ?_ ?_ <;> with_reducible conv => whnf))
            all_goals try rfl
            · simp
            · exact ⟨.refl (noRef_ints _), noRef_ints _⟩
            · simp
            · refine ⟨?_, noRef_ints _⟩
              rw [hta]; exact .refl (noRef_ints _)
        · rw [if_neg e9] at hpop hkid
          repeat' (first
    | (first
    | ((with_reducible show IfK _ _ _ _); first | refine IfK.ff ?_ | refine IfK.tt ?_ | refine IfK.no (by first | rfl | assumption | exact nf (by assumption) | exact nt (by assumption) | ((try simp only [castN]); first | (simp [e9]; done) | (simp [e9]; omega))) ?_ | refine IfK.yes (by first | rfl | assumption | exact nf (by assumption) | exact nt (by assumption) | ((try simp only [castN]); first | (simp [e9]; done) | (simp [e9]; omega))) ?_)
    | ((with_reducible show NeedK _ _ _ _); refine NeedK.mk (by (try simp only [castN]); omega) ?_)
    | ((with_reducible show DrawK _ _ _ _); refine DrawK.mk (by kernel_rfl) (by kernel_rfl) (by kernel_rfl) ?_)) <;> ((with_reducible conv => whnf); (with_reducible conv => congr <;> reduce); repeat ((first | (with_reducible refine HaltK.mk ?_) | (with_reducible refine StopK.mk ?_)); (with_reducible conv => whnf); (with_reducible conv => congr <;> reduce)))
    | ((with_reducible show (_ ∧ _) ∧ _ ∧ _); refine ⟨⟨rfl, rfl⟩, ?_, ?_⟩ <;> (with_reducible conv => whnf) <;> repeat' (first | (with_reducible exact trivial) | (with_reducible refine And.intro ?_ ?_ <;> with_reducible conv => whnf))))
          refine ElemK.mk (eNode ⟨a1, a2, a3, a4, a5, a6, a7, a8, a9, a10⟩) rfl ?_; ((with_reducible conv => whnf); (with_reducible conv => congr <;> reduce); repeat ((first | (with_reducible refine HaltK.mk ?_) | (with_reducible refine StopK.mk ?_)); (with_reducible conv => whnf); (with_reducible conv => congr <;> reduce)))
          repeat' (first
    | (first
    | ((with_reducible show IfK _ _ _ _); first | refine IfK.ff ?_ | refine IfK.tt ?_ | refine IfK.no (by first | rfl | assumption | exact nf (by assumption) | exact nt (by assumption) | ((try simp only [castN]); first | (simp [e9]; done) | (simp [e9]; omega))) ?_ | refine IfK.yes (by first | rfl | assumption | exact nf (by assumption) | exact nt (by assumption) | ((try simp only [castN]); first | (simp [e9]; done) | (simp [e9]; omega))) ?_)
    | ((with_reducible show NeedK _ _ _ _); refine NeedK.mk (by (try simp only [castN]); omega) ?_)
    | ((with_reducible show DrawK _ _ _ _); refine DrawK.mk (by kernel_rfl) (by kernel_rfl) (by kernel_rfl) ?_)) <;> ((with_reducible conv => whnf); (with_reducible conv => congr <;> reduce); repeat ((first | (with_reducible refine HaltK.mk ?_) | (with_reducible refine StopK.mk ?_)); (with_reducible conv => whnf); (with_reducible conv => congr <;> reduce)))
    | ((with_reducible show (_ ∧ _) ∧ _ ∧ _); refine ⟨⟨rfl, rfl⟩, ?_, ?_⟩ <;> (with_reducible conv => whnf) <;> repeat' (first | (with_reducible exact trivial) | (with_reducible refine And.intro ?_ ?_ <;> with_reducible conv => whnf))))
          refine AppK.take ((st' ++ a7.reverse).map oInt) [eInt a9] ⟨rfl, by simp, by rw [hta, List.map_append (l₂ := spF a7.length), List.take_left' (by simp)]⟩ ⟨rfl, rfl, rfl⟩ rfl (by simp; omega) (by simp; omega) ?_
          ((with_reducible conv => whnf); (with_reducible conv => congr <;> reduce); repeat ((first | (with_reducible refine HaltK.mk ?_) | (with_reducible refine StopK.mk ?_)); (with_reducible conv => whnf); (with_reducible conv => congr <;> reduce)))
          repeat' (first
    | (first
    | ((with_reducible show IfK _ _ _ _); first | refine IfK.ff ?_ | refine IfK.tt ?_ | refine IfK.no (by first | rfl | assumption | exact nf (by assumption) | exact nt (by assumption) | ((try simp only [castN]); first | (simp [e9]; done) | (simp [e9]; omega))) ?_ | refine IfK.yes (by first | rfl | assumption | exact nf (by assumption) | exact nt (by assumption) | ((try simp only [castN]); first | (simp [e9]; done) | (simp [e9]; omega))) ?_)
    | ((with_reducible show NeedK _ _ _ _); refine NeedK.mk (by (try simp only [castN]); omega) ?_)
    | ((with_reducible show DrawK _ _ _ _); refine DrawK.mk (by kernel_rfl) (by kernel_rfl) (by kernel_rfl) ?_)) <;> ((with_reducible conv => whnf); (with_reducible conv => congr <;> reduce); repeat ((first | (with_reducible refine HaltK.mk ?_) | (with_reducible refine StopK.mk ?_)); (with_reducible conv => whnf); (with_reducible conv => congr <;> reduce)))
    | ((with_reducible show (_ ∧ _) ∧ _ ∧ _); refine ⟨⟨rfl, rfl⟩, ?_, ?_⟩ <;> (with_reducible conv => whnf) <;> repeat' (first | (with_reducible exact trivial) | (with_reducible refine And.intro ?_ ?_ <;> with_reducible conv => whnf))))
          refine NextK.mk (out ++ [(k : Int)], st' ++ a7.reverse ++ [a9], []) ⟨?_, ?_⟩ ?_ ?_
          · rw [ho, hpop]; simp
          · intro c hc
            rcases List.mem_append.1 hc with h | h
            · rcases List.mem_append.1 h with h | h
              · exact hst c (by simp [h])
              · exact hkid c (by simp at h; simp [h])
            · exact hkid c (by simp at h; simp [h])
          · simp only [List.length_append, List.length_singleton]; omega
          · refine ⟨⟨rfl, rfl⟩, ?_⟩
            (with_reducible conv => whnf)
            repeat' (first | (with_reducible exact trivial) | (with_reducible refine And.intro ?_ ?_ <;> with_reducible conv => whnf))
            all_goals try rfl
            · simp
            · exact ⟨.refl (noRef_ints _), noRef_ints _⟩
            · simp
            · refine ⟨?_, noRef_ints _⟩
              rw [List.append_nil, List.map_append (l₂ := [a9])]; exact .refl (by rw [← List.map_append]; exact noRef_ints _)
end Go.Proofs.Heir
end
section
set_option linter.unusedSimpArgs false
set_option linter.unusedVariables false
namespace Go.Proofs.Heir
open Go Go.Am Go.RowKit Go.Shelf
set_option maxRecDepth 100000
set_option maxHeartbeats 8000000
theorem int_box {Wn : Nat → Prop} {μ : Mu} {W : World} {n : Int} {b o : Nat} (h : Rep Wn μ W (.fptr (eInt n) 0) (.pointer (some ⟨b, o, none⟩))) : W.cell? ⟨b, o, none⟩ = some (.int .i64 n) := by
  generalize hv : Value.pointer (some ⟨b, o, none⟩) = v at h
  cases h with
  | @fptr _ _ b' o' f h1 h2 h3 h4 h5 =>
    cases hv
    have k3 := h3 0 _ rfl
    have k4 := h4 0 _ rfl
    rw [Nat.add_zero] at k3
    rw [Nat.add_zero, k3, Rep.val k4]
structure NodeAt (Wn : Nat → Prop) (μ : Mu) (W : World) (b o : Nat) (x : NodeM) (vs : List Value) : Prop where
  len : vs.length = 10
  cell : ∀ j v, vs[j]? = some v → W.cell? ⟨b, o + j, none⟩ = some v
  rep : Rep Wn μ W (eNode x) (.agg vs.toArray)
theorem for_box {Wn : Nat → Prop} {μ : Mu} {W : World} {f : ForM} {b o : Nat} (h : Rep Wn μ W (.fptr (eFor f) 0) (.pointer (some ⟨b, o, none⟩))) :
    ∃ ad cap, W.cell? ⟨b, o, none⟩ = some (.slice ad f.nodes.length cap) ∧ W.cell? ⟨b, o + 1, none⟩ = some (.int .i64 f.most) ∧ f.nodes.length ≤ cap ∧ Rep Wn μ W (eFor f) (.agg #[.slice ad f.nodes.length cap, .int .i64 f.most]) ∧
      ∀ (j : Nat) (x : NodeM), f.nodes[j]? = some x → ∃ b2 o2 vs, ad = some ⟨b2, o2, none⟩ ∧ NodeAt Wn μ W b2 (o2 + j * 10) x vs := by
  generalize hv : Value.pointer (some ⟨b, o, none⟩) = v at h
  cases h with
  | @fptr _ _ b' o' g h1 h2 h3 h4 h5 =>
    cases hv
    have k3 := h3 0 _ rfl
    have k4 := h4 0 _ rfl
    have m3 := h3 1 _ rfl
    have m4 := h4 1 _ rfl
    rw [Nat.add_zero] at k3
    rw [Nat.add_zero, k3, m3]
    have hm : g 1 = .int .i64 f.most := Rep.val m4
    rw [hm] at m4 ⊢
    have hag : ∀ v0, Rep Wn μ W (.sl 10 (f.nodes.map oNode)) v0 → Rep Wn μ W (eFor f) (.agg #[v0, .int .i64 f.most]) := by
      intro v0 h0
      refine Rep.agg (vs := [v0, .int .i64 f.most]) rfl ?_
      rintro (_ | _ | j) c v hc hv
      · cases hc; cases hv; exact h0
      · cases hc; cases hv; exact m4
      · simp at hv
    generalize hs : g 0 = s at k4
    have hg := hag s (by rw [← hs]; exact h4 0 _ rfl)
    cases hl : f.nodes with
    | nil =>
      have e : f.nodes.map oNode = [] := by rw [hl]; rfl
      change Rep Wn μ W (.sl 10 (f.nodes.map oNode)) s at k4
      rw [e] at k4
      rw [← hl]
      have hn : f.nodes.length = 0 := by rw [hl]; rfl
      rw [hn]
      cases k4 with
      | slNil => exact ⟨_, _, rfl, rfl, Nat.zero_le _, hg, fun j x h => by rw [hl] at h; simp at h⟩
      | sl a1 a2 a3 a4 a5 a6 a7 a8 => subst a3; exact ⟨_, _, rfl, rfl, Nat.zero_le _, hg, fun j x h => by rw [hl] at h; simp at h⟩
    | cons y r =>
      rw [← hl]
      change Rep Wn μ W (.sl 10 (f.nodes.map oNode)) s at k4
      generalize hrows : f.nodes.map oNode = rows at k4
      have hne : rows ≠ [] := by rw [← hrows, hl]; simp
      cases k4 with
      | slNil => exact absurd rfl hne
      | @sl _ _ b2 o2 cap _ fv a1 a2 a3 a4 a5 a6 a7 a8 =>
        subst a3
        have hlen : rows.length = f.nodes.length := by rw [← hrows]; simp
        rw [hlen] at hg a4 ⊢
        refine ⟨_, _, rfl, rfl, a4, hg, fun j x hx => ⟨b2, o2, (List.range 10).map fun q => fv (j * 10 + q), rfl, ?_⟩⟩
        have hr : rows[j]? = some (oNode x) := by rw [← hrows, List.getElem?_map, hx]; rfl
        have hq : ∀ q c, (cells (oNode x))[q]? = some c → (flat rows)[j * 10 + q]? = some c := fun q c hc => flat_get (wd := 10) (fun i r hr => a5 i r hr) hr hc
        have hcl : (cells (oNode x)).length = 10 := a5 j _ hr
        refine ⟨by simp, fun q v hv => ?_, ?_⟩
        · have hq10 : q < 10 := by have := (List.getElem?_eq_some_iff.1 hv).1; simpa using this
          obtain ⟨c, hc⟩ : ∃ c, (cells (oNode x))[q]? = some c := ⟨_, List.getElem?_eq_getElem (by omega)⟩
          have := a6 _ _ (hq q c hc)
          rw [Nat.add_assoc, this]
          rw [List.getElem?_map, List.getElem?_range hq10] at hv
          simpa using hv
        · refine Rep.agg (by simp) fun q c v hc hv => ?_
          have hq10 : q < 10 := by have := (List.getElem?_eq_some_iff.1 hv).1; simpa using this
          rw [List.getElem?_map, List.getElem?_range hq10] at hv
          have hv' : fv (j * 10 + q) = v := by simpa using hv
          rw [← hv']
          refine a7 _ _ (hq q c ?_)
          exact hc
end Go.Proofs.Heir
end
section
set_option linter.unusedSimpArgs false
set_option linter.unusedVariables false
namespace Go.Proofs.Heir
open Go Go.Am Go.RowKit Go.Shelf
set_option maxRecDepth 100000
set_option maxHeartbeats 8000000
theorem ints_at {Wn : Nat → Prop} {μ : Mu} {W : World} {l : List Int} {v : Value} (h : Rep Wn μ W (.sl 1 (l.map oInt)) v) :
    ∃ ad cap, v = .slice ad l.length cap ∧ l.length ≤ cap ∧ ∀ (j : Nat) (x : Int), l[j]? = some x → ∃ b2 o2, ad = some ⟨b2, o2, none⟩ ∧ ¬ Wn b2 ∧ b2 < W.heap.size ∧ W.cell? ⟨b2, o2 + j, none⟩ = some (.int .i64 x) := by
  cases hl : l with
  | nil =>
    subst hl
    cases h with
    | slNil => exact ⟨_, _, rfl, Nat.zero_le _, fun j x h => by simp at h⟩
    | sl a1 a2 a3 a4 a5 a6 a7 a8 => subst a3; exact ⟨_, _, rfl, Nat.zero_le _, fun j x h => by simp at h⟩
  | cons y r =>
    rw [← hl]
    generalize hrows : l.map oInt = rows at h
    have hne : rows ≠ [] := by rw [← hrows, hl]; simp
    cases h with
    | slNil => exact absurd rfl hne
    | sl a1 a2 a3 a4 a5 a6 a7 a8 =>
      subst a3
      have hlen : rows.length = l.length := by rw [← hrows]; simp
      refine ⟨_, _, by rw [hlen], by rw [← hlen]; exact a4, fun j x hx => ⟨_, _, rfl, a1, a2, ?_⟩⟩
      have hr : rows[j]? = some (oInt x) := by rw [← hrows, List.getElem?_map, hx]; rfl
      have hq := flat_get (wd := 1) (fun i r hr => a5 i r hr) hr (show (cells (oInt x))[0]? = some (oInt x) from rfl)
      rw [Nat.mul_one, Nat.add_zero] at hq
      have c1 := a6 j _ hq
      have c2 := a7 j _ hq
      have one : ∀ v, Rep Wn μ W (oInt x) v → v = .int .i64 x := by intro v hv; unfold oInt at hv; cases hv; rfl
      rw [c1, one _ c2]
theorem FnOK.at {P : Program} {f : FuncId} {args : List AV} {vs : List Value} {res : AV} {w : World} {Wn : Nat → Prop} {μ : Mu} (h : FnOK P f [] args [] res) (ha : noRefL args = true) (hr : noRef res = true) (hv : RepL Wn μ w args vs) (hlt : ∀ b, Wn b → b < w.heap.size) (ht : Tabs P w fun _ => none) :
    Calls P f vs.toArray w fun e w' => ∃ v μ', e = .returned v ∧ More w w' ∧ Rep Wn μ' w' res v := by
  have hW : ∀ b, Wr Wn (fun _ => none) (objsOf []) b → Wn b := by
    rintro b (h | ⟨t, B, wd, rows, _, h, _⟩)
    · exact h
    · cases h
  have hs : Sim P 0 w Wn (fun _ => none) (fun _ => none) (bare []) noAct w := by
    refine ⟨rfl, .nil, rfl, rfl, rfl, Nat.le_refl _, fun _ _ _ h => h, fun _ _ _ => rfl, hlt, fun _ _ _ h => h, fun t => by simp [bare, objsOf], fun _ => .any, fun t wd rows ro h => ?_, fun t t' wd rows wd' rows' ro' B B' _ h => ?_, fun t wd rows ro B h => ?_, ht⟩ <;> simp [bare, objsOf] at h
  refine (h w Wn (fun _ => none) vs (fun _ _ => rfl) hs ?_).mono ?_
  · exact ⟨hv.1, fun j c v hc hv' => (hv.2 j c v hc hv').noRef (fun b _ hb => hW b hb) (noRefL_iff.1 ha c (List.mem_of_getElem? hc))⟩
  rintro e w' ⟨v, μ', rfl, hs', hv'⟩
  refine ⟨v, μ', rfl, ⟨hs'.os, hs'.tape, hs'.output, hs'.hsize, fun b hb => hs'.keep b hb ?_⟩, hv'.noRef (fun b _ hb => .inl hb) hr⟩
  rintro ⟨t, B, h, _⟩
  cases h
theorem list10 {α : Type} : ∀ {l : List α}, l.length = 10 → ∃ a b c d e f g h i j, l = [a, b, c, d, e, f, g, h, i, j]
  | [a, b, c, d, e, f, g, h, i, j], _ => ⟨a, b, c, d, e, f, g, h, i, j, rfl⟩
theorem sl_val {Wn : Nat → Prop} {μ : Mu} {W : World} {wd : Nat} {rows : List AV} {v : Value} (h : Rep Wn μ W (.sl wd rows) v) : ∃ a n c, v = .slice a n c := by
  cases h <;> exact ⟨_, _, _, rfl⟩
theorem node_vals {Wn : Nat → Prop} {μ : Mu} {W : World} {x : NodeM} {v0 v1 v2 v3 v4 v5 v6 v7 v8 v9 : Value} (h : Rep Wn μ W (eNode x) (.agg [v0, v1, v2, v3, v4, v5, v6, v7, v8, v9].toArray)) :
    v0 = .int .i64 x.kind ∧ v1 = .string x.name ∧ v2 = .string x.is ∧ v3 = .string x.data ∧ (∃ a n c, v4 = .slice a n c) ∧ v5 = .int .i64 x.parent ∧ (∃ a n c, v6 = .slice a n c) ∧ v7 = .int .i64 x.host ∧ v8 = .int .i64 x.under ∧ v9 = .int .i64 x.doc := by
  generalize hw : Value.agg [v0, v1, v2, v3, v4, v5, v6, v7, v8, v9].toArray = w0 at h
  cases h with
  | agg h1 h2 =>
    have e := congrArg (fun x => match x with | Value.agg a => a.toList | _ => []) hw
    simp only at e
    subst e
    exact ⟨(h2 0 _ _ rfl rfl).val, (h2 1 _ _ rfl rfl).val, (h2 2 _ _ rfl rfl).val, (h2 3 _ _ rfl rfl).val, sl_val (h2 4 _ _ rfl rfl), (h2 5 _ _ rfl rfl).val, sl_val (h2 6 _ _ rfl rfl), (h2 7 _ _ rfl rfl).val, (h2 8 _ _ rfl rfl).val, (h2 9 _ _ rfl rfl).val⟩
def elemsU (l : List NodeM) (ms : List Int) : List Int := ms.filter fun c => decide ((nd l c).kind = 1)
theorem elemsU_step {l : List NodeM} {ms : List Int} {j : Nat} {c : Int} (hc : ms[j]? = some c) : elemsU l (ms.take (j + 1)) = elemsU l (ms.take j) ++ (if (nd l c).kind = 1 then [c] else []) := by
  unfold elemsU
  rw [List.take_add_one, hc, List.filter_append]
  congr 1
  show List.filter _ [c] = _
  rw [List.filter_cons]
  by_cases h : (nd l c).kind = 1
  · rw [if_pos (decide_eq_true h), if_pos h]; rfl
  · rw [if_neg (by rw [decide_eq_false h]; simp), if_neg h]; rfl
theorem elemsU_get {l : List NodeM} {ms : List Int} {j : Nat} {c : Int} (hc : ms[j]? = some c) (hk : (nd l c).kind = 1) : (elemsU l ms)[(elemsU l (ms.take j)).length]? = some c := by
  have h1 : elemsU l ms = elemsU l (ms.take (j + 1)) ++ elemsU l (ms.drop (j + 1)) := by
    unfold elemsU; rw [← List.filter_append, List.take_append_drop]
  rw [h1, elemsU_step hc, if_pos hk, List.append_assoc, List.getElem?_append_right (Nat.le_refl _), Nat.sub_self]; rfl
theorem more_cell {w w' : World} (h : More w w') {b o : Nat} {v : Value} (hc : w.cell? ⟨b, o, none⟩ = some v) : w'.cell? ⟨b, o, none⟩ = some v := by
  rw [World.cell?_of_block (h.blk b (World.block_lt_of_cell? w _ hc)), hc]
theorem each_it (f : ForM) (n : Int) (ms : List Int) (hl : ms.length ≤ 100000) (hth : ∀ c ∈ ms, thereN f.nodes c = true) (h80 : FnOK Tryz.prog 80 [] [eFor f, eInt n] [] (eInts ms)) (c80 : Callable Tryz.prog 80) :
    ItOK Tryz.prog 79 [.fptr (eFor f) 0, .fptr (eInt n) 0] (elemsU f.nodes ms).length (fun k => [oInt (((elemsU f.nodes ms)[k]?).getD 0), eNode (nd f.nodes (((elemsU f.nodes ms)[k]?).getD 0))]) := by
  intro vals y J Jx hJ hJm hJxm hJlt hY Wn w h0
  obtain ⟨⟨μ, hr⟩, htab⟩ := hJ 0 Wn w h0
  obtain ⟨vb, us, rfl, hvb, hus⟩ := RepL.uncons hr
  obtain ⟨vc, us', rfl, hvc, hus'⟩ := RepL.uncons hus
  obtain rfl := RepL.unnil hus'
  obtain ⟨b, o, rfl⟩ : ∃ b o, vb = .pointer (some ⟨b, o, none⟩) := by cases hvb; exact ⟨_, _, rfl⟩
  obtain ⟨b', o', rfl⟩ : ∃ b o, vc = .pointer (some ⟨b, o, none⟩) := by cases hvc; exact ⟨_, _, rfl⟩
  have hi := int_box hvc
  obtain ⟨ad, cap, hb0, hb1, hcap, hfr, hel⟩ := for_box hvb
  refine (callsIn_wide (n := 1)).1 ?_
  refine callsIn_of_wp Tryz.func79 rfl trivial ?_ rfl
  simp only [Tryz.ntmps79, List.size_toArray, List.length_cons, List.length_nil, Nat.reduceAdd, Nat.reduceSub, Array.replicate_succ, Array.replicate_zero, List.push_toArray, List.append_toArray, List.nil_append, List.cons_append]
  gi_wp2
  refine ⟨trivial, (callsIn_wide (n := 0)).2 ((FnOK.at (μ := μ) h80 rfl rfl (.cons hfr (.cons (by rw [eInt]; exact .lit) .nil)) (hJlt 0 Wn w h0) htab).mono ?_)⟩
  rintro e w1 ⟨v, μ1, rfl, hm1, hv1⟩
  obtain ⟨ad2, cap2, rfl, hcap2, hl2⟩ := ints_at hv1
  have h1 := hJm 0 Wn w w1 h0 hm1
  gi_wp2
  gi_loopw [11] (fun i wr => ∃ j : Nat, j ≤ ms.length ∧ i = .int .i64 (j : Int) ∧ ∃ Wn', J (elemsU f.nodes (ms.take j)).length Wn' wr ∧ ∀ (j : Nat) (x : Int), ms[j]? = some x → ∃ b2 o2, ad2 = some ⟨b2, o2, none⟩ ∧ ¬ Wn' b2 ∧ b2 < wr.heap.size ∧ wr.cell? ⟨b2, o2 + j, none⟩ = some (.int .i64 x)) (fun i _ => ms.length - (intOf i).toNat)
  case atStart => exact ⟨0, Nat.zero_le _, rfl, Wn, h1, hl2⟩
  case round =>
    obtain ⟨j, hj, rfl, Wn', hJk, hls⟩ := hrel
    by_cases hlt : j < ms.length
    · obtain ⟨c, hc⟩ : ∃ c, ms[j]? = some c := ⟨_, List.getElem?_eq_getElem hlt⟩
      obtain ⟨b2, o2, rfl, hnb2, hb2, hcell⟩ := hls j c hc
      obtain ⟨i, x, rfl, hx, hnx⟩ := there_iff.1 (hth c (List.mem_of_getElem? hc))
      obtain ⟨⟨μk, hrk⟩, _⟩ := hJ _ Wn' wr hJk
      obtain ⟨vb, us, e, hvb', hus⟩ := RepL.uncons hrk
      cases e
      obtain ⟨ad3, cap3, hb0', hb1', hcap', hfr', hel'⟩ := for_box hvb'
      obtain ⟨b3, o3, vs, rfl, hna⟩ := hel' i x hx
      have hi' : i < f.nodes.length := (List.getElem?_eq_some_iff.1 hx).1
      obtain ⟨v0, v1, v2, v3, v4, v5, v6, v7, v8, v9, rfl⟩ := list10 hna.len
      have q0 := hna.cell 0 _ rfl
      have q1 := hna.cell 1 _ rfl
      have q2 := hna.cell 2 _ rfl
      have q3 := hna.cell 3 _ rfl
      have q4 := hna.cell 4 _ rfl
      have q5 := hna.cell 5 _ rfl
      have q6 := hna.cell 6 _ rfl
      have q7 := hna.cell 7 _ rfl
      have q8 := hna.cell 8 _ rfl
      have q9 := hna.cell 9 _ rfl
      have hrep := hna.rep
      obtain ⟨rfl, rfl, rfl, rfl, ⟨p4, n4, c4, rfl⟩, rfl, ⟨p6, n6, c6, rfl⟩, rfl, rfl, rfl⟩ := node_vals hrep
      rw [Nat.add_zero] at q0
      obtain ⟨wA, hwA⟩ : ∃ wA, wA = wr.alloc (.cells #[.int .i64 x.kind, .string x.name, .string x.is, .string x.data, .slice p4 n4 c4, .int .i64 x.parent, .slice p6 n6 c6, .int .i64 x.host, .int .i64 x.under, .int .i64 x.doc] 66) := ⟨_, rfl⟩
      have hmA : More wr wA := by rw [hwA]; exact More.alloc _
      have hJA := hJm _ Wn' wr wA hJk hmA
      have hst := elemsU_step (l := f.nodes) hc
      by_cases hk : x.kind = 1
      · have hge := elemsU_get (l := f.nodes) hc (by rw [hnx]; exact hk)
        rw [hnx, if_pos hk] at hst
        have hkl : (elemsU f.nodes (ms.take j)).length < (elemsU f.nodes ms).length := (List.getElem?_eq_some_iff.1 hge).1
        obtain ⟨fn, tmps, assign, body, hy, hR⟩ := hY _ Wn' wA [.int .i64 i, .agg #[.int .i64 x.kind, .string x.name, .string x.is, .string x.data, .slice p4 n4 c4, .int .i64 x.parent, .slice p6 n6 c6, .int .i64 x.host, .int .i64 x.under, .int .i64 x.doc]] hkl hJA (fun Wn'' μ'' hrA => by
          obtain ⟨vbA, usA, eA, hvbA, _⟩ := RepL.uncons hrA
          cases eA
          obtain ⟨adA, capA, hA0, hA1, _, _, helA⟩ := for_box hvbA
          rw [more_cell hmA hb0'] at hA0
          cases hA0
          obtain ⟨bA, oA, vsA, eA, hnaA⟩ := helA i x hx
          cases eA
          have hvs : vsA = [.int .i64 x.kind, .string x.name, .string x.is, .string x.data, .slice p4 n4 c4, .int .i64 x.parent, .slice p6 n6 c6, .int .i64 x.host, .int .i64 x.under, .int .i64 x.doc] := by
            refine List.ext_getElem? fun q => ?_
            rcases Nat.lt_or_ge q 10 with hq | hq
            · obtain ⟨v, hv⟩ : ∃ v, vsA[q]? = some v := ⟨_, List.getElem?_eq_getElem (by rw [hnaA.len]; exact hq)⟩
              obtain ⟨u, hu⟩ : ∃ u, [Value.int .i64 x.kind, .string x.name, .string x.is, .string x.data, .slice p4 n4 c4, .int .i64 x.parent, .slice p6 n6 c6, .int .i64 x.host, .int .i64 x.under, .int .i64 x.doc][q]? = some u := ⟨_, List.getElem?_eq_getElem (by simpa using hq)⟩
              have e1 := hnaA.cell q v hv
              rw [more_cell hmA (hna.cell q u hu)] at e1
              rw [hv, hu]; exact e1.symm
            · rw [List.getElem?_eq_none (by rw [hnaA.len]; exact hq), List.getElem?_eq_none (by simpa using hq)]
          rw [hge, Option.getD_some, hnx]
          have hrepA := hnaA.rep
          rw [hvs] at hrepA
          exact .cons .lit (.cons hrepA .nil))
        subst hwA
        rw [hk] at hy hR hmA
        gi_wp2
        refine hR.mono ?_
        rintro e W3 (⟨rfl, Wn3, hJ3, hkp⟩ | ⟨rfl, hJx3⟩)
        · gi_wp2
          go_roundw
          case rel =>
            refine ⟨j + 1, by omega, by congr 1, Wn3, by rw [hst, List.length_append]; exact hJ3, ?_⟩
            intro j' x' hx'
            obtain ⟨b5, o5, e5, h51, h52, h53⟩ := hls j' x' hx'
            have hlA : b5 < (wr.alloc _).heap.size := Nat.lt_of_lt_of_le h52 hmA.size
            refine ⟨b5, o5, e5, fun h => h51 (hkp.2.2 b5 hlA h), Nat.lt_of_lt_of_le hlA hkp.1, ?_⟩
            rw [World.cell?_of_block (hkp.2.1 b5 hlA h51)]
            exact more_cell hmA h53
          case measure => simp [intOf]; omega
        · gi_wp2
          refine bodyPost_ret (results_none rfl _ _ _) rfl ?_
          exact ⟨⟨_, rfl⟩, .inr hJx3⟩
      · rw [hnx, if_neg hk, List.append_nil] at hst
        have hk' : (x.kind == 1) = false := by simpa using hk
        subst hwA
        gi_wp2
        refine ⟨fun _ h => (by cases h), ?_⟩
        gi_wp2
        go_roundw
        case rel =>
          refine ⟨j + 1, by omega, by congr 1, Wn', by rw [hst]; exact hJA, ?_⟩
          intro j' x' hx'
          obtain ⟨b5, o5, e5, h51, h52, h53⟩ := hls j' x' hx'
          exact ⟨b5, o5, e5, h51, Nat.lt_of_lt_of_le h52 hmA.size, more_cell hmA h53⟩
        case measure => simp [intOf]; omega
    · obtain rfl : j = ms.length := by omega
      gi_wp2
      go_end0
      rw [List.take_length] at hJk
      exact ⟨⟨_, rfl⟩, .inl ⟨_, hJk⟩⟩
end Go.Proofs.Heir
end
section
set_option linter.unusedSimpArgs false
set_option linter.unusedVariables false
namespace Go.Proofs.Heir
open Go.Am Go.RowKit Go.Lib
structure DefM where
  name : ByteArray
  locl : ByteArray
  cls : Int
  deriving DecidableEq
structure WaitM where
  name : ByteArray
  ticket : Int
  deriving DecidableEq
structure DeskM where
  defs : List DefM
  waits : List WaitM
  next : Int
  busy : Bool
  deriving DecidableEq
def knowS (s : ByteArray) : Bool := hasW knowL s
def localB (x : DefM) : Bool := decide (x.locl = x.name) || knowS x.locl
def goodD (x : DefM) : Bool := customS x.name && localB x && decide (0 ≤ x.cls) && decide (x.cls < 12)
def hasN (s : ByteArray) (x : DefM) : Bool := decide (x.name = s)
def hasC (c : Int) (x : DefM) : Bool := decide (x.cls = c)
def ixI {α : Type} (p : α → Bool) (l : List α) : Int := match l.findIdx? p with
  | some k => (k : Int)
  | none => -1
def posN (l : List DefM) (s : ByteArray) : Int := ixI (hasN s) l
def posC (l : List DefM) (c : Int) : Int := ixI (hasC c) l
def okW (l : List DefM) (next : Int) (w : WaitM) (last : Int) : Bool := customS w.name && decide (posN l w.name = -1) && decide (last < w.ticket) && decide (w.ticket < next)
def waitsB (l : List DefM) (next : Int) : Int → List WaitM → Bool
  | _, [] => true
  | last, w :: r => okW l next w last && waitsB l next w.ticket r
def defsB (l : List DefM) : Bool := l.all goodD && decide ((l.map DefM.name).Nodup) && decide ((l.map DefM.cls).Nodup)
def rightD (d : DeskM) : Bool := defsB d.defs && waitsB d.defs d.next (-1) d.waits && decide (0 ≤ d.next) && decide (d.next ≤ 100000)
theorem ixI_cases {α : Type} (p : α → Bool) (l : List α) : (ixI p l = -1 ∧ ∀ a ∈ l, p a = false) ∨ ∃ (k : Nat) (a : α), ixI p l = k ∧ l[k]? = some a ∧ p a = true ∧ ∀ (j : Nat) (b : α), j < k → l[j]? = some b → p b = false := by
  unfold ixI
  cases h : l.findIdx? p with
  | none => exact .inl ⟨rfl, by simpa using h⟩
  | some k =>
    rw [List.findIdx?_eq_some_iff_getElem] at h
    obtain ⟨hk, h1, h2⟩ := h
    refine .inr ⟨k, l[k], rfl, List.getElem?_eq_getElem hk, h1, fun j b hj hb => ?_⟩
    obtain ⟨hjl, rfl⟩ := List.getElem?_eq_some_iff.1 hb
    simpa using h2 j hj
theorem ixI_at {α : Type} {p : α → Bool} {l : List α} {k : Nat} {a : α} (ha : l[k]? = some a) (hp : p a = true) (hu : ∀ (j : Nat) (b : α), l[j]? = some b → p b = true → j = k) : ixI p l = k := by
  rcases ixI_cases p l with ⟨_, h⟩ | ⟨j, b, h1, h2, h3, _⟩
  · rw [h a (List.mem_of_getElem? ha)] at hp; cases hp
  · rw [h1, hu j b h2 h3]
theorem ixI_none {α : Type} {p : α → Bool} {l : List α} (h : ∀ a ∈ l, p a = false) : ixI p l = -1 := by
  rcases ixI_cases p l with ⟨h1, _⟩ | ⟨j, b, _, h2, h3, _⟩
  · exact h1
  · rw [h b (List.mem_of_getElem? h2)] at h3; cases h3
theorem ixI_neg {α : Type} {p : α → Bool} {l : List α} (h : ixI p l = -1) : ∀ a ∈ l, p a = false := by
  rcases ixI_cases p l with ⟨_, h1⟩ | ⟨j, b, h1, _⟩
  · exact h1
  · omega
theorem nodup_ix {α β : Type} [DecidableEq β] {f : α → β} {l : List α} (h : (l.map f).Nodup) {i j : Nat} {a b : α} (ha : l[i]? = some a) (hb : l[j]? = some b) (e : f a = f b) : i = j := by
  have h1 : (l.map f)[i]? = some (f a) := by rw [List.getElem?_map, ha]; rfl
  have h2 : (l.map f)[j]? = some (f b) := by rw [List.getElem?_map, hb]; rfl
  exact (List.getElem?_inj (List.getElem?_eq_some_iff.1 h1).1 h).1 (by rw [h1, h2, e])
theorem nodup_of_ix {α β : Type} {f : α → β} : ∀ {l : List α}, (∀ (i j : Nat) (a b : α), l[i]? = some a → l[j]? = some b → f a = f b → i = j) → (l.map f).Nodup
  | [], _ => List.nodup_nil
  | x :: r, h => by
    rw [List.map_cons, List.nodup_cons]
    refine ⟨fun hm => ?_, nodup_of_ix fun i j a b ha hb e => ?_⟩
    · obtain ⟨y, hy, he⟩ := List.mem_map.1 hm
      obtain ⟨j, hj⟩ := List.getElem?_of_mem hy
      have := h 0 (j + 1) x y rfl (by simpa using hj) he.symm
      omega
    · have := h (i + 1) (j + 1) a b (by simpa using ha) (by simpa using hb) e
      omega
theorem posN_at {l : List DefM} (h : (l.map DefM.name).Nodup) {k : Nat} {x : DefM} (hx : l[k]? = some x) : posN l x.name = k :=
  ixI_at hx (by simp [hasN]) fun j b hb hp => nodup_ix h hb hx (by simpa [hasN] using hp)
theorem posC_at {l : List DefM} (h : (l.map DefM.cls).Nodup) {k : Nat} {x : DefM} (hx : l[k]? = some x) : posC l x.cls = k :=
  ixI_at hx (by simp [hasC]) fun j b hb hp => nodup_ix h hb hx (by simpa [hasC] using hp)
theorem defsB_iff {l : List DefM} : defsB l = true ↔ (∀ x ∈ l, goodD x = true) ∧ (l.map DefM.name).Nodup ∧ (l.map DefM.cls).Nodup := by
  unfold defsB; simp [List.all_eq_true, and_assoc]
theorem waitsB_false (l : List DefM) (next : Int) {ws : List WaitM} {last : Int} {w : WaitM} (hw : w ∈ ws) (h : ∀ t, okW l next w t = false) : waitsB l next last ws = false := by
  induction ws generalizing last with
  | nil => simp at hw
  | cons v r ih =>
    rw [waitsB]
    rcases List.mem_cons.1 hw with rfl | hw
    · rw [h]; rfl
    · rw [ih hw]; simp
def fitL (a b : ByteArray) (x : DefM) : Bool := decide (x.locl = a) && decide (x.name = b)
def findR (l : List DefM) (a b : ByteArray) : Int := if 0 ≤ ixI (fitL a a) l then ixI (fitL a a) l else ixI (fitL a b) l
def findD (d : DeskM) (a b : ByteArray) : Int := if rightD d then findR d.defs a b else -1
end Go.Proofs.Heir
end
section
set_option linter.unusedSimpArgs false
set_option linter.unusedVariables false
namespace Go.Proofs.Heir
open Go.Am Go.RowKit Go.Lib
theorem rightD_iff {d : DeskM} : rightD d = true ↔ defsB d.defs = true ∧ waitsB d.defs d.next (-1) d.waits = true ∧ 0 ≤ d.next ∧ d.next ≤ 100000 := by
  unfold rightD; simp [and_assoc]
def fitsB (a b : ByteArray) (x : DefM) : Bool := decide (x.locl = a) && (decide (x.name = a) || decide (x.name = b))
theorem fitsB_iff {a b : ByteArray} {x : DefM} : fitsB a b x = true ↔ x.locl = a ∧ (x.name = a ∨ x.name = b) := by unfold fitsB; simp
theorem goodD_facts {x : DefM} (h : goodD x = true) : customS x.name = true ∧ (x.locl = x.name ∨ knowS x.locl = true) ∧ 0 ≤ x.cls ∧ x.cls < 12 := by
  unfold goodD localB at h; simp only [Bool.and_eq_true, Bool.or_eq_true, decide_eq_true_eq] at h
  exact ⟨h.1.1.1, h.1.1.2, h.1.2, h.2⟩
theorem know_no {s : ByteArray} (h : customS s = true) : knowS s = false := by
  cases hk : knowS s with
  | false => rfl
  | true => rw [know_uncustom hk] at h; cases h
theorem fit_uniq {l : List DefM} (h : defsB l = true) {i j : Nat} {x y : DefM} {a b : ByteArray} (hx : l[i]? = some x) (hy : l[j]? = some y) (fx : fitsB a b x = true) (fy : fitsB a b y = true) : i = j := by
  obtain ⟨h1, h2, h3⟩ := defsB_iff.1 h
  obtain ⟨x1, x2, _⟩ := goodD_facts (h1 x (List.mem_of_getElem? hx))
  obtain ⟨y1, y2, _⟩ := goodD_facts (h1 y (List.mem_of_getElem? hy))
  obtain ⟨p1, p2⟩ := fitsB_iff.1 fx
  obtain ⟨q1, q2⟩ := fitsB_iff.1 fy
  by_cases e : x.name = y.name
  · exact nodup_ix h2 hx hy e
  · exfalso
    have ka : knowS a = true := by
      rcases x2 with x2 | x2
      · rcases y2 with y2 | y2
        · exact absurd (by rw [← x2, ← y2, p1, q1]) e
        · rwa [q1] at y2
      · rwa [p1] at x2
    rcases p2 with p2 | p2
    · rw [p2] at x1; rw [know_no x1] at ka; cases ka
    · rcases q2 with q2 | q2
      · rw [q2] at y1; rw [know_no y1] at ka; cases ka
      · exact e (by rw [p2, q2])
theorem findR_cases (l : List DefM) (a b : ByteArray) : (findR l a b = -1 ∧ ∀ x ∈ l, fitsB a b x = false) ∨ ∃ (k : Nat) (x : DefM), findR l a b = k ∧ l[k]? = some x ∧ fitsB a b x = true := by
  unfold findR
  rcases ixI_cases (fitL a a) l with ⟨h1, h2⟩ | ⟨k, x, h1, h2, h3, _⟩
  · rw [h1, if_neg (by omega)]
    rcases ixI_cases (fitL a b) l with ⟨g1, g2⟩ | ⟨k, x, g1, g2, g3, _⟩
    · refine .inl ⟨g1, fun x hx => ?_⟩
      have u1 := h2 x hx
      have u2 := g2 x hx
      unfold fitL at u1 u2
      unfold fitsB
      cases e : decide (x.locl = a) with
      | false => rfl
      | true => rw [e] at u1 u2; simp only [Bool.true_and] at u1 u2; rw [u1, u2]; rfl
    · refine .inr ⟨k, x, g1, g2, ?_⟩
      unfold fitL at g3; unfold fitsB
      simp only [Bool.and_eq_true] at g3 ⊢
      exact ⟨g3.1, by rw [g3.2]; simp⟩
  · rw [h1, if_pos (by omega)]
    refine .inr ⟨k, x, rfl, h2, ?_⟩
    unfold fitL at h3; unfold fitsB
    simp only [Bool.and_eq_true] at h3 ⊢
    exact ⟨h3.1, by rw [h3.2]; rfl⟩
theorem findR_at {l : List DefM} (h : defsB l = true) {k : Nat} {x : DefM} {a b : ByteArray} (hx : l[k]? = some x) (hf : fitsB a b x = true) : findR l a b = k := by
  rcases findR_cases l a b with ⟨_, h2⟩ | ⟨j, y, h1, h2, h3⟩
  · rw [h2 x (List.mem_of_getElem? hx)] at hf; cases hf
  · rw [h1, fit_uniq h h2 hx h3 hf]
theorem posN_no {l : List DefM} {s : ByteArray} (h : posN l s = -1) : ∀ x ∈ l, x.name ≠ s := fun x hx => by
  have := ixI_neg h x hx
  unfold hasN at this
  exact of_decide_eq_false this
end Go.Proofs.Heir
end
