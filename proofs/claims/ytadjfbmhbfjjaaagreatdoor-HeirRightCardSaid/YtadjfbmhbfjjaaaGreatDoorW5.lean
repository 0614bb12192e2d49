/- Models, plain laws and contracts of functions of the given program; conditions as stated in each theorem. By an AI agent. -/
import Derived.Test.YtadjfbmhbfjjaaaGreatDoorW4
section
set_option linter.unusedSimpArgs false
set_option linter.unusedVariables false
namespace Go.Proofs.Heir
open Go Go.Am Go.RowKit Go.Lib
set_option maxRecDepth 100000
structure NodeM where
  kind : Int
  name : ByteArray
  is : ByteArray
  data : ByteArray
  attrs : List AttrM
  parent : Int
  kids : List Int
  host : Int
  under : Int
  doc : Int
structure ForM where
  nodes : List NodeM
  most : Int
def noNode : NodeM := ⟨0, ⟨#[]⟩, ⟨#[]⟩, ⟨#[]⟩, [], 0, [], 0, 0, 0⟩
def nd (l : List NodeM) (n : Int) : NodeM := (l[n.toNat]?).getD noNode
def thereN (l : List NodeM) (n : Int) : Bool := decide (0 ≤ n) && decide (n < (l.length : Int))
def isN (l : List NodeM) (n k : Int) : Bool := thereN l n && decide ((nd l n).kind = k)
def holdK (k : Int) : Bool := decide (k = 0) || decide (k = 1) || decide (k = 3) || decide (k = 4)
def hasI (l : List Int) (n : Int) : Bool := decide (n ∈ l)
def upN (x : NodeM) : Int := if x.parent = -1 then x.host else x.parent
def ownedN (l : List NodeM) (n : Int) (x : NodeM) : Bool := isN l x.doc 0 && (decide (x.kind ≠ 0) || decide (x.doc = n))
def hungN (l : List NodeM) (n : Int) (x : NodeM) : Bool := decide (x.parent = -1) || ((decide (x.kind = 1) || decide (x.kind = 2)) && thereN l x.parent && holdK (nd l x.parent).kind && hasI (nd l x.parent).kids n)
def kidOK (l : List NodeM) (n : Int) (x : NodeM) (pre : List Int) (c : Int) : Bool :=
  thereN l c && !hasI pre c && decide ((nd l c).parent = n) && decide ((nd l c).doc = x.doc) && (decide ((nd l c).kind = 1) || (decide ((nd l c).kind = 2) && decide (x.kind ≠ 0)))
def kidsOK (l : List NodeM) (n : Int) (x : NodeM) : List Int → List Int → Bool
  | _, [] => true
  | pre, c :: r => kidOK l n x pre c && kidsOK l n x (pre ++ [c]) r
def elemsN (l : List NodeM) (cs : List Int) : Nat := cs.countP (fun c => decide ((nd l c).kind = 1))
def bearsN (l : List NodeM) (n : Int) (x : NodeM) : Bool :=
  kidsOK l n x [] x.kids && ((holdK x.kind || decide (x.kids = [])) && (decide (x.kind ≠ 0) || decide (elemsN l x.kids ≤ 1)))
def shadedN (l : List NodeM) (n : Int) (x : NodeM) : Bool :=
  (if x.kind = 4 then isN l x.host 1 && decide ((nd l x.host).under = n) && decide ((nd l x.host).doc = x.doc) else decide (x.host = -1)) &&
  (decide (x.under = -1) || (decide (x.kind = 1) && isN l x.under 4 && decide ((nd l x.under).host = n)))
def endsN (l : List NodeM) : Nat → Int → Bool
  | 0, _ => false
  | m + 1, n => if upN (nd l n) = -1 then true else endsN l m (upN (nd l n))
def namedN (x : NodeM) : Bool :=
  if x.kind = 1 then rightS x.name && decide (lowS x.name = x.name) && (decide (x.is = ⟨#[]⟩) || customS x.is) && decide (x.data = ⟨#[]⟩) && rightA x.attrs
  else if x.kind = 2 then decide (x.data.size ≤ 200) && decide (x.name = ⟨#[]⟩) && decide (x.is = ⟨#[]⟩) && decide (x.attrs = [])
  else if x.kind = 0 ∨ x.kind = 3 ∨ x.kind = 4 then decide (x.name = ⟨#[]⟩) && decide (x.is = ⟨#[]⟩) && decide (x.data = ⟨#[]⟩) && decide (x.attrs = [])
  else false
def nodeOK (l : List NodeM) (n : Int) (x : NodeM) : Bool := namedN x && (ownedN l n x && (hungN l n x && (bearsN l n x && shadedN l n x)))
def headOK (f : ForM) : Bool := decide (1 ≤ f.most) && decide (f.most ≤ 400) && decide (1 ≤ f.nodes.length) && decide ((f.nodes.length : Int) ≤ f.most) && decide ((nd f.nodes 0).kind = 0)
def allIx {α : Type} (p : Nat → α → Bool) : Nat → List α → Bool
  | _, [] => true
  | i, x :: r => p i x && allIx p (i + 1) r
def rightF (f : ForM) : Bool := headOK f && (allIx (fun k x => nodeOK f.nodes k x) 0 f.nodes && allIx (fun k _ => endsN f.nodes f.nodes.length k) 0 f.nodes)
def shortF (f : ForM) : Bool := decide (f.nodes.length ≤ 60) && f.nodes.all (fun x => decide (x.kids.length ≤ 60) && decide (x.attrs.length ≤ 60) && decide (x.name.size ≤ 300))
structure SmallN (l : List NodeM) : Prop where
  len : l.length ≤ 60
  kids : ∀ x ∈ l, x.kids.length ≤ 60
  attrs : ∀ x ∈ l, x.attrs.length ≤ 60
  name : ∀ x ∈ l, x.name.size ≤ 300
theorem shortF_iff {f : ForM} : shortF f = true ↔ SmallN f.nodes := by
  unfold shortF
  simp only [Bool.and_eq_true, decide_eq_true_eq, List.all_eq_true]
  constructor
  · rintro ⟨h1, h2⟩
    exact ⟨h1, fun x hx => (h2 x hx).1.1, fun x hx => (h2 x hx).1.2, fun x hx => (h2 x hx).2⟩
  · rintro ⟨h1, h2, h3, h4⟩
    exact ⟨h1, fun x hx => ⟨⟨h2 x hx, h3 x hx⟩, h4 x hx⟩⟩
theorem nd_get {l : List NodeM} {k : Nat} {x : NodeM} (h : l[k]? = some x) : nd l (k : Int) = x := by unfold nd; rw [Int.toNat_natCast, h]; rfl
theorem there_get {l : List NodeM} {k : Nat} {x : NodeM} (h : l[k]? = some x) : thereN l (k : Int) = true := by
  unfold thereN
  have := (List.getElem?_eq_some_iff.1 h).1
  simp; omega
theorem there_iff {l : List NodeM} {n : Int} : thereN l n = true ↔ ∃ (k : Nat) (x : NodeM), n = (k : Int) ∧ l[k]? = some x ∧ nd l n = x := by
  constructor
  · intro h
    unfold thereN at h
    simp only [Bool.and_eq_true, decide_eq_true_eq] at h
    have hk : n.toNat < l.length := by omega
    have hn : n = (n.toNat : Int) := by omega
    refine ⟨n.toNat, l[n.toNat], hn, List.getElem?_eq_getElem hk, ?_⟩
    unfold nd; rw [List.getElem?_eq_getElem hk]; rfl
  · rintro ⟨k, x, rfl, h, _⟩
    exact there_get h
theorem allIx_iff {α : Type} {p : Nat → α → Bool} : ∀ {i : Nat} {l : List α}, allIx p i l = true ↔ ∀ k x, l[k]? = some x → p (i + k) x = true
  | i, [] => by simp [allIx]
  | i, a :: r => by
    simp only [allIx, Bool.and_eq_true, allIx_iff (i := i + 1) (l := r)]
    constructor
    · rintro ⟨h1, h2⟩ k x hx
      cases k with
      | zero => simp at hx; subst hx; exact h1
      | succ k => have := h2 k x (by simpa using hx); rw [show i + (k + 1) = i + 1 + k from by omega]; exact this
    · intro h
      refine ⟨h 0 a rfl, fun k x hx => ?_⟩
      have := h (k + 1) x (by simpa using hx)
      rw [show i + 1 + k = i + (k + 1) from by omega]; exact this
@[reducible] def eNode (x : NodeM) : AV := .agg [eInt x.kind, eStr x.name, eStr x.is, eStr x.data, eAttrs x.attrs, eInt x.parent, eInts x.kids, eInt x.host, eInt x.under, eInt x.doc]
def oNode (x : NodeM) : AV := eNode x
@[reducible] def eNodes (l : List NodeM) : AV := .sl 10 (l.map oNode)
@[reducible] def eFor (f : ForM) : AV := .agg [eNodes f.nodes, eInt f.most]
theorem node_get {l : List NodeM} {k : Nat} {x : NodeM} (h : l[k]? = some x) : (l.map oNode)[k]? = some (eNode x) := by rw [List.getElem?_map, h]; rfl
end Go.Proofs.Heir
end
section
set_option linter.unusedSimpArgs false
set_option linter.unusedVariables false
namespace Go.Proofs.Heir
open Go Go.Am Go.RowKit Go.Lib
set_option maxRecDepth 100000
def finN (l : List NodeM) : Nat → Int → Bool
  | 0, _ => false
  | m + 1, n => if (nd l n).parent = -1 then true else finN l m (nd l n).parent
def chN (l : List NodeM) : Nat → Int → List Int
  | 0, _ => []
  | m + 1, n => n :: if (nd l n).parent = -1 then [] else chN l m (nd l n).parent
def ordN (l : List NodeM) : Nat → Int → List Int
  | 0, _ => []
  | m + 1, n => n :: (nd l n).kids.flatMap (ordN l m)
def wayN (l : List NodeM) (n : Int) : List Int := chN l l.length n
theorem fin_of_ends {l : List NodeM} : ∀ {m : Nat} {n : Int}, endsN l m n = true → finN l m n = true
  | 0, n, h => by simp [endsN] at h
  | m + 1, n, h => by
    unfold finN
    by_cases hp : (nd l n).parent = -1
    · rw [if_pos hp]
    · rw [if_neg hp]
      have hu : upN (nd l n) = (nd l n).parent := if_neg hp
      unfold endsN at h
      rw [hu, if_neg hp] at h
      exact fin_of_ends h
theorem ch_len (l : List NodeM) : ∀ (m : Nat) (n : Int), (chN l m n).length ≤ m
  | 0, _ => Nat.le_refl _
  | m + 1, n => by
    unfold chN
    split
    · simp
    · have := ch_len l m (nd l n).parent
      simp; omega
theorem ch_more {l : List NodeM} : ∀ {m k : Nat} {n : Int}, finN l m n = true → m ≤ k → chN l k n = chN l m n
  | 0, k, n, h, _ => by simp [finN] at h
  | m + 1, k, n, h, hk => by
    obtain ⟨k, rfl⟩ : ∃ j, k = j + 1 := ⟨k - 1, by omega⟩
    unfold finN at h
    unfold chN
    by_cases hp : (nd l n).parent = -1
    · rw [if_pos hp, if_pos hp]
    · rw [if_neg hp] at h
      rw [if_neg hp, if_neg hp, ch_more h (by omega)]
structure Tree (l : List NodeM) : Prop where
  par : ∀ n, thereN l n = true → (nd l n).parent ≠ -1 → thereN l (nd l n).parent = true ∧ n ∈ (nd l (nd l n).parent).kids
  kid : ∀ n, thereN l n = true → ∀ k ∈ (nd l n).kids, thereN l k = true ∧ (nd l k).parent = n
  dup : ∀ n, thereN l n = true → (nd l n).kids.Nodup
  fin : ∀ n, thereN l n = true → finN l l.length n = true
  nam : ∀ n, thereN l n = true → namedN (nd l n) = true
theorem there_pos {l : List NodeM} {n : Int} (h : thereN l n = true) : 0 ≤ n ∧ n < (l.length : Int) := by
  unfold thereN at h; simpa using h
variable {l : List NodeM}
theorem up_ind (T : Tree l) {P : Int → Prop} (h0 : ∀ n, thereN l n = true → (nd l n).parent = -1 → P n) (h1 : ∀ n, thereN l n = true → (nd l n).parent ≠ -1 → thereN l (nd l n).parent = true → P (nd l n).parent → P n) : ∀ n, thereN l n = true → P n := by
  have H : ∀ (m : Nat) (n : Int), thereN l n = true → finN l m n = true → P n := by
    intro m
    induction m with
    | zero => intro n _ h; simp [finN] at h
    | succ m ih =>
      intro n hn h
      unfold finN at h
      by_cases hp : (nd l n).parent = -1
      · exact h0 n hn hp
      · rw [if_neg hp] at h
        have hq := (T.par n hn hp).1
        exact h1 n hn hp hq (ih _ hq h)
  exact fun n hn => H _ n hn (T.fin n hn)
theorem way_top (T : Tree l) {n : Int} (hn : thereN l n = true) (hp : (nd l n).parent = -1) : wayN l n = [n] := by
  have := there_pos hn
  obtain ⟨m, hm⟩ : ∃ m, l.length = m + 1 := ⟨l.length - 1, by omega⟩
  unfold wayN; rw [hm]; unfold chN; rw [if_pos hp]
theorem way_step (T : Tree l) {n : Int} (hn : thereN l n = true) (hp : (nd l n).parent ≠ -1) : wayN l n = n :: wayN l (nd l n).parent := by
  have := there_pos hn
  obtain ⟨m, hm⟩ : ∃ m, l.length = m + 1 := ⟨l.length - 1, by omega⟩
  have hf := T.fin n hn
  unfold wayN; rw [hm] at hf ⊢
  unfold finN at hf
  rw [if_neg hp] at hf
  rw [chN, if_neg hp, ch_more hf (Nat.le_succ m)]
theorem way_kid (T : Tree l) {n k : Int} (hn : thereN l n = true) (hk : k ∈ (nd l n).kids) : wayN l k = k :: wayN l n := by
  have h := T.kid n hn k hk
  have h0 := there_pos hn
  have hp : (nd l k).parent ≠ -1 := by rw [h.2]; omega
  rw [way_step T h.1 hp, h.2]
theorem way_head (T : Tree l) {n : Int} (hn : thereN l n = true) : ∃ r, wayN l n = n :: r := by
  by_cases hp : (nd l n).parent = -1
  · exact ⟨[], way_top T hn hp⟩
  · exact ⟨_, way_step T hn hp⟩
theorem way_self (T : Tree l) {n : Int} (hn : thereN l n = true) : n ∈ wayN l n := by
  obtain ⟨r, hr⟩ := way_head T hn; rw [hr]; exact List.mem_cons_self
theorem way_len (n : Int) : (wayN l n).length ≤ l.length := ch_len l _ n
theorem way_there (T : Tree l) : ∀ n, thereN l n = true → ∀ a ∈ wayN l n, thereN l a = true := by
  refine up_ind T (fun n hn hp a ha => ?_) (fun n hn hp hq ih a ha => ?_)
  · rw [way_top T hn hp] at ha; rw [List.mem_singleton.1 ha]; exact hn
  · rw [way_step T hn hp] at ha
    rcases List.mem_cons.1 ha with rfl | h
    · exact hn
    · exact ih a h
theorem way_cut (T : Tree l) : ∀ n, thereN l n = true → ∀ a ∈ wayN l n, ∃ t, wayN l n = t ++ wayN l a := by
  refine up_ind T (fun n hn hp a ha => ?_) (fun n hn hp hq ih a ha => ?_)
  · have h := ha; rw [way_top T hn hp] at h; rw [List.mem_singleton.1 h]; exact ⟨[], rfl⟩
  · have h := ha
    rw [way_step T hn hp] at h
    rcases List.mem_cons.1 h with rfl | h
    · exact ⟨[], rfl⟩
    · obtain ⟨t, ht⟩ := ih a h
      exact ⟨n :: t, by rw [way_step T hn hp, ht]; rfl⟩
theorem way_trans (T : Tree l) {a b c : Int} (hc : thereN l c = true) (h1 : a ∈ wayN l b) (h2 : b ∈ wayN l c) : a ∈ wayN l c := by
  obtain ⟨t, ht⟩ := way_cut T c hc b h2
  rw [ht]; exact List.mem_append_right _ h1
theorem way_eq (T : Tree l) {n a b : Int} (hn : thereN l n = true) (ha : a ∈ wayN l n) (hb : b ∈ wayN l n) (he : (wayN l a).length = (wayN l b).length) : a = b := by
  obtain ⟨t, ht⟩ := way_cut T n hn a ha
  obtain ⟨s, hs⟩ := way_cut T n hn b hb
  rw [ht] at hs
  have h := (List.append_inj' hs he).2
  obtain ⟨r, hr⟩ := way_head T (way_there T n hn a ha)
  obtain ⟨q, hq⟩ := way_head T (way_there T n hn b hb)
  rw [hr, hq] at h
  exact (List.cons.inj h).1
theorem ord_way (T : Tree l) : ∀ (m : Nat) (n : Int), thereN l n = true → ∀ b ∈ ordN l m n, thereN l b = true ∧ n ∈ wayN l b
  | 0, n, _, b, hb => by simp [ordN] at hb
  | m + 1, n, hn, b, hb => by
    unfold ordN at hb
    rcases List.mem_cons.1 hb with rfl | h
    · exact ⟨hn, way_self T hn⟩
    · obtain ⟨k, hk, hbk⟩ := List.mem_flatMap.1 h
      have hkk := T.kid n hn k hk
      obtain ⟨h1, h2⟩ := ord_way T m k hkk.1 b hbk
      refine ⟨h1, way_trans T h1 ?_ h2⟩
      rw [way_kid T hn hk]
      exact List.mem_cons_of_mem _ (way_self T hn)
theorem ord_fuel (T : Tree l) {n : Int} (hn : thereN l n = true) : l.length + 1 ≤ l.length + (wayN l n).length := by
  obtain ⟨r, hr⟩ := way_head T hn
  rw [hr]; simp
theorem ord_nodup (T : Tree l) : ∀ (m : Nat) (n : Int), thereN l n = true → (ordN l m n).Nodup
  | 0, _, _ => List.nodup_nil
  | m + 1, n, hn => by
    unfold ordN
    refine List.nodup_cons.2 ⟨fun h => ?_, ?_⟩
    · obtain ⟨k, hk, hnk⟩ := List.mem_flatMap.1 h
      have hkk := T.kid n hn k hk
      have h1 := (ord_way T m k hkk.1 n hnk).2
      obtain ⟨t, ht⟩ := way_cut T n hn k h1
      have h2 := congrArg List.length ht
      rw [way_kid T hn hk] at h2
      simp at h2
      omega
    · refine List.pairwise_flatMap.2 ⟨fun k hk => ord_nodup T m k (T.kid n hn k hk).1, ?_⟩
      refine List.Pairwise.imp_of_mem (fun {a b} ha hb hab x hx y hy e => ?_) (T.dup n hn)
      subst e
      have h1 := ord_way T m a (T.kid n hn a ha).1 x hx
      have h2 := ord_way T m b (T.kid n hn b hb).1 x hy
      refine hab (way_eq T h1.1 h1.2 h2.2 ?_)
      rw [way_kid T hn ha, way_kid T hn hb]; rfl
theorem nodup_len : ∀ (s t : List Int), t.Nodup → (∀ x ∈ t, x ∈ s) → t.length ≤ s.length
  | [], t, _, h => by
    cases t with
    | nil => exact Nat.le_refl _
    | cons a r => exact absurd (h a List.mem_cons_self) (by simp)
  | a :: s, t, hd, h => by
    have h1 := nodup_len s (t.erase a) (hd.erase a) (fun x hx => by
      have h2 := (hd.mem_erase_iff).1 hx
      rcases List.mem_cons.1 (h x h2.2) with e | e
      · exact absurd e h2.1
      · exact e)
    have h3 : t.length ≤ (t.erase a).length + 1 := by rw [List.length_erase]; split <;> omega
    simp; omega
theorem ints_len {t : List Int} {n : Nat} (hd : t.Nodup) (h : ∀ x ∈ t, 0 ≤ x ∧ x < (n : Int)) : t.length ≤ n := by
  have := nodup_len ((List.range n).map (fun k : Nat => (k : Int))) t hd (fun x hx => by
    have := h x hx
    exact List.mem_map.2 ⟨x.toNat, List.mem_range.2 (by omega), by omega⟩)
  simpa using this
theorem ord_len (T : Tree l) (m : Nat) {n : Int} (hn : thereN l n = true) : (ordN l m n).length ≤ l.length :=
  ints_len (ord_nodup T m n hn) fun x hx => there_pos (ord_way T m n hn x hx).1
def kidP (l : List NodeM) (n : Int) (x : NodeM) (c : Int) : Bool :=
  thereN l c && (decide ((nd l c).parent = n) && (decide ((nd l c).doc = x.doc) && (decide ((nd l c).kind = 1) || (decide ((nd l c).kind = 2) && decide (x.kind ≠ 0)))))
theorem kidsOK_iff {n : Int} {x : NodeM} : ∀ {cs pre : List Int}, kidsOK l n x pre cs = true ↔ (∀ c ∈ cs, kidP l n x c = true) ∧ cs.Nodup ∧ (∀ c ∈ cs, c ∉ pre)
  | [], pre => by simp [kidsOK]
  | a :: r, pre => by
    have hk : kidOK l n x pre a = true ↔ kidP l n x a = true ∧ a ∉ pre := by
      unfold kidOK kidP hasI
      simp only [Bool.and_eq_true, Bool.or_eq_true, decide_eq_true_eq, Bool.not_eq_true', decide_eq_false_iff_not]
      constructor
      · rintro ⟨⟨⟨⟨h1, h2⟩, h3⟩, h4⟩, h5⟩; exact ⟨⟨h1, h3, h4, h5⟩, h2⟩
      · rintro ⟨⟨h1, h3, h4, h5⟩, h2⟩; exact ⟨⟨⟨⟨h1, h2⟩, h3⟩, h4⟩, h5⟩
    unfold kidsOK
    rw [Bool.and_eq_true, hk, kidsOK_iff, List.nodup_cons]
    constructor
    · rintro ⟨⟨h1, h2⟩, h3, h4, h5⟩
      refine ⟨fun c hc => ?_, ⟨fun h => ?_, h4⟩, fun c hc => ?_⟩
      · rcases List.mem_cons.1 hc with rfl | h
        · exact h1
        · exact h3 c h
      · exact h5 a h (by simp)
      · rcases List.mem_cons.1 hc with rfl | h
        · exact h2
        · exact fun h6 => h5 c h (List.mem_append_left _ h6)
    · rintro ⟨h1, ⟨h2, h3⟩, h4⟩
      refine ⟨⟨h1 a List.mem_cons_self, h4 a List.mem_cons_self⟩, fun c hc => h1 c (List.mem_cons_of_mem _ hc), h3, fun c hc h => ?_⟩
      rcases List.mem_append.1 h with h | h
      · exact h4 c (List.mem_cons_of_mem _ hc) h
      · rw [List.mem_singleton] at h; subst h; exact h2 hc
theorem right_nodes {f : ForM} (h : rightF f = true) : ∀ n, thereN f.nodes n = true → nodeOK f.nodes n (nd f.nodes n) = true := by
  intro n hn
  obtain ⟨k, x, rfl, hk, hx⟩ := there_iff.1 hn
  unfold rightF at h
  simp only [Bool.and_eq_true] at h
  have := allIx_iff.1 h.2.1 k x hk
  rw [hx]; simpa using this
theorem right_ends {f : ForM} (h : rightF f = true) : ∀ n, thereN f.nodes n = true → endsN f.nodes f.nodes.length n = true := by
  intro n hn
  obtain ⟨k, x, rfl, hk, hx⟩ := there_iff.1 hn
  unfold rightF at h
  simp only [Bool.and_eq_true] at h
  simpa using allIx_iff.1 h.2.2 k x hk
theorem tree_of {f : ForM} (h : rightF f = true) : Tree f.nodes := by
  have hN := right_nodes h
  have hB : ∀ n, thereN f.nodes n = true → (∀ c ∈ (nd f.nodes n).kids, kidP f.nodes n (nd f.nodes n) c = true) ∧ (nd f.nodes n).kids.Nodup := by
    intro n hn
    have h1 := hN n hn
    unfold nodeOK bearsN at h1
    simp only [Bool.and_eq_true] at h1
    have := kidsOK_iff.1 h1.2.2.2.1.1
    exact ⟨this.1, this.2.1⟩
  refine ⟨fun n hn hp => ?_, fun n hn k hk => ?_, fun n hn => (hB n hn).2, fun n hn => fin_of_ends (right_ends h n hn), fun n hn => ?_⟩
  · have h1 := hN n hn
    unfold nodeOK hungN at h1
    simp only [Bool.and_eq_true, Bool.or_eq_true, decide_eq_true_eq] at h1
    rcases h1.2.2.1 with h2 | h2
    · exact absurd h2 hp
    · refine ⟨h2.1.1.2, ?_⟩
      have := h2.2
      unfold hasI at this; simpa using this
  · have h1 := (hB n hn).1 k hk
    unfold kidP at h1
    simp only [Bool.and_eq_true, decide_eq_true_eq] at h1
    exact ⟨h1.1, h1.2.1⟩
  · have h1 := hN n hn
    unfold nodeOK at h1
    simp only [Bool.and_eq_true] at h1
    exact h1.1
end Go.Proofs.Heir
end
section
set_option linter.unusedSimpArgs false
set_option linter.unusedVariables false
namespace Go.Proofs.Heir
open Go Go.Am Go.RowKit Go.Lib
set_option maxRecDepth 100000
variable {l : List NodeM}
end Go.Proofs.Heir
end
section
set_option linter.unusedSimpArgs false
set_option linter.unusedVariables false
namespace Go.Proofs.Heir
open Go Go.Am Go.RowKit Go.Lib
set_option maxRecDepth 100000
def finG (g : Int → Int) : Nat → Int → Bool
  | 0, _ => false
  | m + 1, n => if g n = -1 then true else finG g m (g n)
def chG (g : Int → Int) : Nat → Int → List Int
  | 0, _ => []
  | m + 1, n => n :: if g n = -1 then [] else chG g m (g n)
theorem moreG {g : Int → Int} : ∀ {m k : Nat} {n : Int}, finG g m n = true → m ≤ k → chG g k n = chG g m n ∧ finG g k n = true
  | 0, k, n, h, _ => by simp [finG] at h
  | m + 1, k, n, h, hk => by
    obtain ⟨k, rfl⟩ : ∃ j, k = j + 1 := ⟨k - 1, by omega⟩
    unfold finG at h ⊢
    unfold chG
    by_cases hp : g n = -1
    · rw [if_pos hp, if_pos hp, if_pos hp]; exact ⟨rfl, rfl⟩
    · rw [if_neg hp] at h
      rw [if_neg hp, if_neg hp, if_neg hp, (moreG h (Nat.le_of_succ_le_succ hk)).1]
      exact ⟨rfl, (moreG h (Nat.le_of_succ_le_succ hk)).2⟩
theorem cutG {g : Int → Int} : ∀ {m : Nat} {n a : Int}, finG g m n = true → a ∈ chG g m n → finG g m a = true ∧ ∃ t, chG g m n = t ++ chG g m a
  | 0, n, a, h, _ => by simp [finG] at h
  | m + 1, n, a, h, ha => by
    by_cases e : a = n
    · subst e; exact ⟨h, [], rfl⟩
    · unfold finG at h
      unfold chG at ha
      by_cases hp : g n = -1
      · rw [if_pos hp] at ha; exact absurd (List.mem_singleton.1 ha) e
      · rw [if_neg hp] at h ha
        rcases List.mem_cons.1 ha with h1 | h1
        · exact absurd h1 e
        · obtain ⟨h2, t, ht⟩ := cutG h h1
          have h3 := moreG h2 (Nat.le_succ m)
          refine ⟨h3.2, n :: t, ?_⟩
          rw [show m.succ = m + 1 from rfl] at h3
          rw [h3.1, chG, if_neg hp, ht]; rfl
theorem dupG {g : Int → Int} : ∀ {m : Nat} {n : Int}, finG g m n = true → (chG g m n).Nodup
  | 0, n, h => by simp [finG] at h
  | m + 1, n, h => by
    have h0 := h
    unfold finG at h
    unfold chG
    by_cases hp : g n = -1
    · rw [if_pos hp]; simp
    · rw [if_neg hp] at h ⊢
      refine List.nodup_cons.2 ⟨fun hin => ?_, dupG h⟩
      obtain ⟨h2, t, ht⟩ := cutG h hin
      have h3 := (moreG h2 (Nat.le_succ m)).1
      rw [show m.succ = m + 1 from rfl, chG, if_neg hp, ht] at h3
      have := congrArg List.length h3
      simp at this
      omega
theorem lenG {g : Int → Int} : ∀ {m k : Nat} {n : Int}, finG g m n = true → (chG g m n).length ≤ k → finG g k n = true
  | 0, k, n, h, _ => by simp [finG] at h
  | m + 1, 0, n, _, hk => by unfold chG at hk; simp at hk
  | m + 1, k + 1, n, h, hk => by
    unfold finG at h ⊢
    unfold chG at hk
    by_cases hp : g n = -1
    · rw [if_pos hp]
    · rw [if_neg hp] at h hk ⊢
      exact lenG h (by simp at hk; omega)
theorem inG {g : Int → Int} {P : Int → Prop} (hg : ∀ n, P n → g n ≠ -1 → P (g n)) : ∀ {m : Nat} {n : Int}, P n → ∀ a ∈ chG g m n, P a
  | 0, n, _, a, ha => by simp [chG] at ha
  | m + 1, n, hn, a, ha => by
    unfold chG at ha
    rcases List.mem_cons.1 ha with rfl | h
    · exact hn
    · by_cases hp : g n = -1
      · rw [if_pos hp] at h; simp at h
      · rw [if_neg hp] at h
        exact inG hg (hg n hn hp) a h
theorem ends_G (l : List NodeM) : ∀ (m : Nat) (n : Int), endsN l m n = finG (fun n => upN (nd l n)) m n
  | 0, _ => rfl
  | m + 1, n => by unfold endsN finG; rw [ends_G l m]
theorem ends_eq {l : List NodeM} (hup : ∀ n, thereN l n = true → upN (nd l n) = -1 ∨ thereN l (upN (nd l n)) = true) {n : Int} (hn : thereN l n = true) : endsN l (l.length + 1) n = endsN l l.length n := by
  rw [ends_G, ends_G, Bool.eq_iff_iff]
  constructor
  · intro h
    refine lenG h (ints_len (dupG h) fun a ha => ?_)
    have := inG (P := fun n => thereN l n = true) (fun n hn hne => (hup n hn).resolve_left hne) hn a ha
    exact there_pos this
  · intro h; exact (moreG h (Nat.le_succ _)).2
def rDoc (l : List NodeM) (n : Int) (x : NodeM) : Bool := (decide (0 ≤ x.kind) && decide (x.kind ≤ 4)) && (isN l x.doc 0 && (decide (x.kind ≠ 0) || decide (x.doc = n)))
def rPar (l : List NodeM) (n : Int) (x : NodeM) : Bool := decide (x.parent = -1) || ((decide (x.kind = 1) || decide (x.kind = 2)) && (thereN l x.parent && (decide ((nd l x.parent).kind ≠ 2) && decide ((nd l x.parent).kids.count n = 1))))
def rKid (l : List NodeM) (n : Int) (x : NodeM) (c : Int) : Bool := thereN l c && (decide (x.kids.count c = 1) && ((decide ((nd l c).kind = 1) || decide ((nd l c).kind = 2)) && (decide ((nd l c).parent = n) && decide ((nd l c).doc = x.doc))))
def rElems (l : List NodeM) (x : NodeM) : Bool := (decide (x.kind ≠ 2) || decide (x.kids = [])) && (decide (x.kind ≠ 0) || (decide (elemsN l x.kids ≤ 1) && decide (x.kids.length ≤ elemsN l x.kids)))
def rName (x : NodeM) : Bool :=
  if x.kind = 1 then rightS x.name && decide (lowS x.name = x.name) && (decide (x.is = ⟨#[]⟩) || customS x.is) && decide (x.data = ⟨#[]⟩) && rightA x.attrs
  else decide (x.name = ⟨#[]⟩) && decide (x.is = ⟨#[]⟩) && decide (x.attrs = []) && (decide (x.data = ⟨#[]⟩) || (decide (x.kind = 2) && decide (x.data.size ≤ 200)))
def refNode (l : List NodeM) (n : Int) (x : NodeM) : Bool := rDoc l n x && (rPar l n x && (x.kids.all (rKid l n x) && (rElems l x && (shadedN l n x && rName x))))
def rightR (f : ForM) : Bool := headOK f && (allIx (fun k x => refNode f.nodes k x) 0 f.nodes && allIx (fun k _ => endsN f.nodes (f.nodes.length + 1) k) 0 f.nodes)
theorem count_leI {cs : List Int} (h : cs.Nodup) (c : Int) : cs.count c ≤ 1 := by
  induction cs with
  | nil => simp
  | cons a r ih =>
    rw [List.nodup_cons] at h
    rw [List.count_cons]
    by_cases e : a = c
    · subst e
      rw [List.count_eq_zero.2 h.1]; simp
    · simp [e]; exact ih h.2
theorem count_one {cs : List Int} (h : cs.Nodup) {c : Int} (hc : c ∈ cs) : cs.count c = 1 := by
  have h1 := count_leI h c
  have h2 := List.count_pos_iff.2 hc
  omega
theorem nodup_of_count {cs : List Int} (h : ∀ c, cs.count c ≤ 1) : cs.Nodup := by
  induction cs with
  | nil => exact List.nodup_nil
  | cons a r ih =>
    refine List.nodup_cons.2 ⟨fun hin => ?_, ih fun c => ?_⟩
    · have h1 := h a
      rw [List.count_cons_self] at h1
      have h2 := List.count_pos_iff.2 hin
      omega
    · refine Nat.le_trans ?_ (h c)
      rw [List.count_cons]; omega
theorem named_kind {x : NodeM} : namedN x = true ↔ (0 ≤ x.kind ∧ x.kind ≤ 4) ∧ rName x = true := by
  unfold namedN rName
  by_cases e1 : x.kind = 1
  · rw [if_pos e1, if_pos e1]
    exact ⟨fun h => ⟨by omega, h⟩, fun h => h.2⟩
  · rw [if_neg e1, if_neg e1]
    by_cases e2 : x.kind = 2
    · rw [if_pos e2]
      simp only [Bool.and_eq_true, Bool.or_eq_true, decide_eq_true_eq]
      constructor
      · rintro ⟨⟨⟨h1, h2⟩, h3⟩, h4⟩
        exact ⟨by omega, ⟨⟨h2, h3⟩, h4⟩, .inr ⟨e2, h1⟩⟩
      · rintro ⟨_, ⟨⟨h2, h3⟩, h4⟩, h5⟩
        refine ⟨⟨⟨?_, h2⟩, h3⟩, h4⟩
        rcases h5 with h | h
        · rw [h]; exact Nat.zero_le _
        · exact h.2
    · rw [if_neg e2]
      by_cases e3 : x.kind = 0 ∨ x.kind = 3 ∨ x.kind = 4
      · rw [if_pos e3]
        simp only [Bool.and_eq_true, Bool.or_eq_true, decide_eq_true_eq]
        constructor
        · rintro ⟨⟨⟨h1, h2⟩, h3⟩, h4⟩
          exact ⟨by omega, ⟨⟨h1, h2⟩, h4⟩, .inl h3⟩
        · rintro ⟨_, ⟨⟨h1, h2⟩, h4⟩, h3 | h3⟩
          · exact ⟨⟨⟨h1, h2⟩, h3⟩, h4⟩
          · exact absurd h3.1 e2
      · rw [if_neg e3]
        constructor
        · intro h; cases h
        · rintro ⟨h, _⟩; omega
variable {l : List NodeM}
theorem elems_all {cs : List Int} : cs.length ≤ elemsN l cs ↔ ∀ c ∈ cs, (nd l c).kind = 1 := by
  have h1 := List.countP_le_length (p := fun c => decide ((nd l c).kind = 1)) (l := cs)
  have h2 := List.countP_eq_length (p := fun c => decide ((nd l c).kind = 1)) (l := cs)
  unfold elemsN
  constructor
  · intro h c hc
    simpa using h2.1 (by omega) c hc
  · intro h
    have := h2.2 (fun c hc => by simpa using h c hc)
    omega
theorem hold_ne {k : Int} (h : 0 ≤ k ∧ k ≤ 4) : holdK k = true ↔ k ≠ 2 := by
  unfold holdK
  simp only [Bool.or_eq_true, decide_eq_true_eq]
  omega
theorem to_ref (h : ∀ n, thereN l n = true → nodeOK l n (nd l n) = true) : ∀ n, thereN l n = true → refNode l n (nd l n) = true := by
  intro n hn
  have h0 := h n hn
  unfold nodeOK at h0
  simp only [Bool.and_eq_true] at h0
  obtain ⟨hN, hO, hH, hB, hS⟩ := h0
  have hk := named_kind.1 hN
  unfold bearsN at hB
  simp only [Bool.and_eq_true, Bool.or_eq_true, decide_eq_true_eq] at hB
  have hkids := kidsOK_iff.1 hB.1
  unfold refNode
  simp only [Bool.and_eq_true]
  refine ⟨?_, ?_, ?_, ?_, hS, hk.2⟩
  · unfold rDoc; unfold ownedN at hO
    simp only [Bool.and_eq_true, decide_eq_true_eq]
    rw [Bool.and_eq_true] at hO
    exact ⟨hk.1, hO.1, hO.2⟩
  · unfold rPar; unfold hungN at hH
    simp only [Bool.and_eq_true, Bool.or_eq_true, decide_eq_true_eq] at hH ⊢
    rcases hH with hH | ⟨⟨⟨h1, h2⟩, h3⟩, h4⟩
    · exact .inl hH
    · right
      have hp := h _ h2
      unfold nodeOK bearsN at hp
      simp only [Bool.and_eq_true] at hp
      have hpk := (named_kind.1 hp.1).1
      have hpd := (kidsOK_iff.1 hp.2.2.2.1.1).2.1
      unfold hasI at h4
      exact ⟨h1, h2, (hold_ne hpk).1 h3, count_one hpd (by simpa using h4)⟩
  · rw [List.all_eq_true]
    intro c hc
    have h1 := hkids.1 c hc
    unfold kidP at h1; unfold rKid
    simp only [Bool.and_eq_true, Bool.or_eq_true, decide_eq_true_eq] at h1 ⊢
    obtain ⟨a1, a2, a3, a4⟩ := h1
    refine ⟨a1, count_one hkids.2.1 hc, ?_, a2, a3⟩
    rcases a4 with a4 | a4
    · exact .inl a4
    · exact .inr a4.1
  · unfold rElems
    simp only [Bool.and_eq_true, Bool.or_eq_true, decide_eq_true_eq]
    obtain ⟨_, hb1, hb2⟩ := hB
    constructor
    · by_cases e : (nd l n).kind = 2
      · right
        rcases hb1 with h | h
        · exact absurd e ((hold_ne hk.1).1 h)
        · exact h
      · exact .inl e
    · by_cases e : (nd l n).kind = 0
      · right
        refine ⟨hb2.resolve_left (fun h => h e), elems_all.2 fun c hc => ?_⟩
        have h1 := hkids.1 c hc
        unfold kidP at h1
        simp only [Bool.and_eq_true, Bool.or_eq_true, decide_eq_true_eq] at h1
        rcases h1.2.2.2 with h | h
        · exact h
        · exact absurd e h.2
      · exact .inl e
theorem of_ref (h : ∀ n, thereN l n = true → refNode l n (nd l n) = true) : ∀ n, thereN l n = true → nodeOK l n (nd l n) = true := by
  intro n hn
  have hdup : ∀ n, thereN l n = true → (nd l n).kids.Nodup := by
    intro n hn
    have h0 := h n hn
    unfold refNode at h0
    simp only [Bool.and_eq_true, List.all_eq_true] at h0
    refine nodup_of_count fun c => ?_
    by_cases hc : c ∈ (nd l n).kids
    · have h1 := h0.2.2.1 c hc
      unfold rKid at h1
      simp only [Bool.and_eq_true, decide_eq_true_eq] at h1
      omega
    · rw [List.count_eq_zero.2 hc]; omega
  have h0 := h n hn
  unfold refNode at h0
  simp only [Bool.and_eq_true, List.all_eq_true] at h0
  obtain ⟨hD, hP, hK, hE, hS, hN⟩ := h0
  unfold rDoc at hD
  simp only [Bool.and_eq_true, decide_eq_true_eq] at hD
  unfold nodeOK
  simp only [Bool.and_eq_true]
  refine ⟨named_kind.2 ⟨hD.1, hN⟩, ?_, ?_, ?_, hS⟩
  · unfold ownedN; rw [Bool.and_eq_true]; exact hD.2
  · unfold hungN; unfold rPar at hP
    simp only [Bool.and_eq_true, Bool.or_eq_true, decide_eq_true_eq] at hP ⊢
    rcases hP with hP | ⟨h1, h2, h3, h4⟩
    · exact .inl hP
    · right
      have hp := h _ h2
      unfold refNode rDoc at hp
      simp only [Bool.and_eq_true, decide_eq_true_eq] at hp
      refine ⟨⟨⟨h1, h2⟩, (hold_ne hp.1.1).2 h3⟩, ?_⟩
      unfold hasI
      exact decide_eq_true (List.count_pos_iff.1 (by omega))
  · unfold bearsN; unfold rElems at hE
    simp only [Bool.and_eq_true, Bool.or_eq_true, decide_eq_true_eq] at hE ⊢
    refine ⟨kidsOK_iff.2 ⟨fun c hc => ?_, hdup n hn, fun _ _ => by simp⟩, ?_, ?_⟩
    · have h1 := hK c hc
      unfold rKid at h1; unfold kidP
      simp only [Bool.and_eq_true, Bool.or_eq_true, decide_eq_true_eq] at h1 ⊢
      obtain ⟨a1, a2, a3, a4, a5⟩ := h1
      refine ⟨a1, a4, a5, ?_⟩
      rcases a3 with a3 | a3
      · exact .inl a3
      · right
        refine ⟨a3, fun e0 => ?_⟩
        rcases hE.2 with h | h
        · exact h e0
        · have := elems_all.1 h.2 c hc
          omega
    · by_cases e : (nd l n).kind = 2
      · exact .inr (hE.1.resolve_left fun h => h e)
      · exact .inl ((hold_ne hD.1).2 e)
    · rcases hE.2 with h | h
      · exact .inl h
      · exact .inr h.1
theorem node_up (h : ∀ n, thereN l n = true → nodeOK l n (nd l n) = true) : ∀ n, thereN l n = true → upN (nd l n) = -1 ∨ thereN l (upN (nd l n)) = true := by
  intro n hn
  have h0 := h n hn
  unfold nodeOK at h0
  simp only [Bool.and_eq_true] at h0
  obtain ⟨_, _, hH, _, hS⟩ := h0
  unfold upN
  unfold hungN at hH
  simp only [Bool.and_eq_true, Bool.or_eq_true, decide_eq_true_eq] at hH
  by_cases e : (nd l n).parent = -1
  · rw [if_pos e]
    unfold shadedN at hS
    rw [Bool.and_eq_true] at hS
    by_cases e4 : (nd l n).kind = 4
    · rw [if_pos e4] at hS
      unfold isN at hS
      simp only [Bool.and_eq_true] at hS
      exact .inr hS.1.1.1.1
    · rw [if_neg e4] at hS
      exact .inl (by simpa using hS.1)
  · rw [if_neg e]
    rcases hH with h | h
    · exact absurd h e
    · exact .inr h.1.1.2
theorem all_there (p : Int → NodeM → Bool) : allIx (fun k x => p k x) 0 l = true ↔ ∀ n, thereN l n = true → p n (nd l n) = true := by
  rw [allIx_iff]
  constructor
  · intro h n hn
    obtain ⟨k, x, rfl, hk, hx⟩ := there_iff.1 hn
    have := h k x hk
    rw [hx]; simpa using this
  · intro h k x hk
    have := h k (there_get hk)
    rw [nd_get hk] at this
    simpa using this
theorem right_eq (f : ForM) : rightR f = rightF f := by
  unfold rightR rightF
  rw [Bool.eq_iff_iff]
  simp only [Bool.and_eq_true]
  rw [all_there (fun n x => refNode f.nodes n x), all_there (fun n x => nodeOK f.nodes n x), all_there (fun n _ => endsN f.nodes (f.nodes.length + 1) n), all_there (fun n _ => endsN f.nodes f.nodes.length n)]
  constructor
  · rintro ⟨h1, h2, h3⟩
    have h4 := of_ref h2
    exact ⟨h1, h4, fun n hn => by rw [← ends_eq (node_up h4) hn]; exact h3 n hn⟩
  · rintro ⟨h1, h2, h3⟩
    exact ⟨h1, to_ref h2, fun n hn => by rw [ends_eq (node_up h2) hn]; exact h3 n hn⟩
end Go.Proofs.Heir
end
section
set_option linter.unusedSimpArgs false
set_option linter.unusedVariables false
namespace Go.Proofs.Heir
open Go Go.Am Go.RowKit Go.Lib
set_option maxRecDepth 100000
def chU (x : NodeM) : List Int := (if x.under = -1 then [] else [x.under]) ++ x.kids
namespace U
def finN (l : List NodeM) : Nat → Int → Bool
  | 0, _ => false
  | m + 1, n => if (upN (nd l n)) = -1 then true else finN l m (upN (nd l n))
def chN (l : List NodeM) : Nat → Int → List Int
  | 0, _ => []
  | m + 1, n => n :: if (upN (nd l n)) = -1 then [] else chN l m (upN (nd l n))
def ordN (l : List NodeM) : Nat → Int → List Int
  | 0, _ => []
  | m + 1, n => n :: (chU (nd l n)).flatMap (ordN l m)
def wayN (l : List NodeM) (n : Int) : List Int := chN l l.length n
theorem fin_of_ends {l : List NodeM} : ∀ {m : Nat} {n : Int}, endsN l m n = true → finN l m n = true
  | 0, n, h => by simp [endsN] at h
  | m + 1, n, h => by
    unfold finN; unfold endsN at h
    by_cases hp : upN (nd l n) = -1
    · rw [if_pos hp]
    · rw [if_neg hp] at h ⊢; exact fin_of_ends h
theorem ch_len (l : List NodeM) : ∀ (m : Nat) (n : Int), (chN l m n).length ≤ m
  | 0, _ => Nat.le_refl _
  | m + 1, n => by
    unfold chN
    split
    · simp
    · have := ch_len l m (upN (nd l n))
      simp; omega
theorem ch_more {l : List NodeM} : ∀ {m k : Nat} {n : Int}, finN l m n = true → m ≤ k → chN l k n = chN l m n
  | 0, k, n, h, _ => by simp [finN] at h
  | m + 1, k, n, h, hk => by
    obtain ⟨k, rfl⟩ : ∃ j, k = j + 1 := ⟨k - 1, by omega⟩
    unfold finN at h
    unfold chN
    by_cases hp : (upN (nd l n)) = -1
    · rw [if_pos hp, if_pos hp]
    · rw [if_neg hp] at h
      rw [if_neg hp, if_neg hp, ch_more h (by omega)]
structure Tree (l : List NodeM) : Prop where
  par : ∀ n, thereN l n = true → (upN (nd l n)) ≠ -1 → thereN l (upN (nd l n)) = true ∧ n ∈ (chU (nd l (upN (nd l n))))
  kid : ∀ n, thereN l n = true → ∀ k ∈ (chU (nd l n)), thereN l k = true ∧ (upN (nd l k)) = n
  dup : ∀ n, thereN l n = true → (chU (nd l n)).Nodup
  fin : ∀ n, thereN l n = true → finN l l.length n = true
variable {l : List NodeM}
theorem up_ind (T : Tree l) {P : Int → Prop} (h0 : ∀ n, thereN l n = true → (upN (nd l n)) = -1 → P n) (h1 : ∀ n, thereN l n = true → (upN (nd l n)) ≠ -1 → thereN l (upN (nd l n)) = true → P (upN (nd l n)) → P n) : ∀ n, thereN l n = true → P n := by
  have H : ∀ (m : Nat) (n : Int), thereN l n = true → finN l m n = true → P n := by
    intro m
    induction m with
    | zero => intro n _ h; simp [finN] at h
    | succ m ih =>
      intro n hn h
      unfold finN at h
      by_cases hp : (upN (nd l n)) = -1
      · exact h0 n hn hp
      · rw [if_neg hp] at h
        have hq := (T.par n hn hp).1
        exact h1 n hn hp hq (ih _ hq h)
  exact fun n hn => H _ n hn (T.fin n hn)
theorem way_top (T : Tree l) {n : Int} (hn : thereN l n = true) (hp : (upN (nd l n)) = -1) : wayN l n = [n] := by
  have := there_pos hn
  obtain ⟨m, hm⟩ : ∃ m, l.length = m + 1 := ⟨l.length - 1, by omega⟩
  unfold wayN; rw [hm]; unfold chN; rw [if_pos hp]
theorem way_step (T : Tree l) {n : Int} (hn : thereN l n = true) (hp : (upN (nd l n)) ≠ -1) : wayN l n = n :: wayN l (upN (nd l n)) := by
  have := there_pos hn
  obtain ⟨m, hm⟩ : ∃ m, l.length = m + 1 := ⟨l.length - 1, by omega⟩
  have hf := T.fin n hn
  unfold wayN; rw [hm] at hf ⊢
  unfold finN at hf
  rw [if_neg hp] at hf
  rw [chN, if_neg hp, ch_more hf (Nat.le_succ m)]
theorem way_kid (T : Tree l) {n k : Int} (hn : thereN l n = true) (hk : k ∈ (chU (nd l n))) : wayN l k = k :: wayN l n := by
  have h := T.kid n hn k hk
  have h0 := there_pos hn
  have hp : (upN (nd l k)) ≠ -1 := by rw [h.2]; omega
  rw [way_step T h.1 hp, h.2]
theorem way_head (T : Tree l) {n : Int} (hn : thereN l n = true) : ∃ r, wayN l n = n :: r := by
  by_cases hp : (upN (nd l n)) = -1
  · exact ⟨[], way_top T hn hp⟩
  · exact ⟨_, way_step T hn hp⟩
theorem way_self (T : Tree l) {n : Int} (hn : thereN l n = true) : n ∈ wayN l n := by
  obtain ⟨r, hr⟩ := way_head T hn; rw [hr]; exact List.mem_cons_self
theorem way_len (n : Int) : (wayN l n).length ≤ l.length := ch_len l _ n
theorem way_there (T : Tree l) : ∀ n, thereN l n = true → ∀ a ∈ wayN l n, thereN l a = true := by
  refine up_ind T (fun n hn hp a ha => ?_) (fun n hn hp hq ih a ha => ?_)
  · rw [way_top T hn hp] at ha; rw [List.mem_singleton.1 ha]; exact hn
  · rw [way_step T hn hp] at ha
    rcases List.mem_cons.1 ha with rfl | h
    · exact hn
    · exact ih a h
theorem way_cut (T : Tree l) : ∀ n, thereN l n = true → ∀ a ∈ wayN l n, ∃ t, wayN l n = t ++ wayN l a := by
  refine up_ind T (fun n hn hp a ha => ?_) (fun n hn hp hq ih a ha => ?_)
  · have h := ha; rw [way_top T hn hp] at h; rw [List.mem_singleton.1 h]; exact ⟨[], rfl⟩
  · have h := ha
    rw [way_step T hn hp] at h
    rcases List.mem_cons.1 h with rfl | h
    · exact ⟨[], rfl⟩
    · obtain ⟨t, ht⟩ := ih a h
      exact ⟨n :: t, by rw [way_step T hn hp, ht]; rfl⟩
theorem way_trans (T : Tree l) {a b c : Int} (hc : thereN l c = true) (h1 : a ∈ wayN l b) (h2 : b ∈ wayN l c) : a ∈ wayN l c := by
  obtain ⟨t, ht⟩ := way_cut T c hc b h2
  rw [ht]; exact List.mem_append_right _ h1
theorem way_eq (T : Tree l) {n a b : Int} (hn : thereN l n = true) (ha : a ∈ wayN l n) (hb : b ∈ wayN l n) (he : (wayN l a).length = (wayN l b).length) : a = b := by
  obtain ⟨t, ht⟩ := way_cut T n hn a ha
  obtain ⟨s, hs⟩ := way_cut T n hn b hb
  rw [ht] at hs
  have h := (List.append_inj' hs he).2
  obtain ⟨r, hr⟩ := way_head T (way_there T n hn a ha)
  obtain ⟨q, hq⟩ := way_head T (way_there T n hn b hb)
  rw [hr, hq] at h
  exact (List.cons.inj h).1
theorem ord_way (T : Tree l) : ∀ (m : Nat) (n : Int), thereN l n = true → ∀ b ∈ ordN l m n, thereN l b = true ∧ n ∈ wayN l b
  | 0, n, _, b, hb => by simp [ordN] at hb
  | m + 1, n, hn, b, hb => by
    unfold ordN at hb
    rcases List.mem_cons.1 hb with rfl | h
    · exact ⟨hn, way_self T hn⟩
    · obtain ⟨k, hk, hbk⟩ := List.mem_flatMap.1 h
      have hkk := T.kid n hn k hk
      obtain ⟨h1, h2⟩ := ord_way T m k hkk.1 b hbk
      refine ⟨h1, way_trans T h1 ?_ h2⟩
      rw [way_kid T hn hk]
      exact List.mem_cons_of_mem _ (way_self T hn)
theorem ord_fuel (T : Tree l) {n : Int} (hn : thereN l n = true) : l.length + 1 ≤ l.length + (wayN l n).length := by
  obtain ⟨r, hr⟩ := way_head T hn
  rw [hr]; simp
theorem ord_nodup (T : Tree l) : ∀ (m : Nat) (n : Int), thereN l n = true → (ordN l m n).Nodup
  | 0, _, _ => List.nodup_nil
  | m + 1, n, hn => by
    unfold ordN
    refine List.nodup_cons.2 ⟨fun h => ?_, ?_⟩
    · obtain ⟨k, hk, hnk⟩ := List.mem_flatMap.1 h
      have hkk := T.kid n hn k hk
      have h1 := (ord_way T m k hkk.1 n hnk).2
      obtain ⟨t, ht⟩ := way_cut T n hn k h1
      have h2 := congrArg List.length ht
      rw [way_kid T hn hk] at h2
      simp at h2
      omega
    · refine List.pairwise_flatMap.2 ⟨fun k hk => ord_nodup T m k (T.kid n hn k hk).1, ?_⟩
      refine List.Pairwise.imp_of_mem (fun {a b} ha hb hab x hx y hy e => ?_) (T.dup n hn)
      subst e
      have h1 := ord_way T m a (T.kid n hn a ha).1 x hx
      have h2 := ord_way T m b (T.kid n hn b hb).1 x hy
      refine hab (way_eq T h1.1 h1.2 h2.2 ?_)
      rw [way_kid T hn ha, way_kid T hn hb]; rfl
theorem ord_len (T : Tree l) (m : Nat) {n : Int} (hn : thereN l n = true) : (ordN l m n).length ≤ l.length :=
  ints_len (ord_nodup T m n hn) fun x hx => there_pos (ord_way T m n hn x hx).1
theorem tree_of {f : ForM} (h : rightF f = true) : Tree f.nodes := by
  have hN := right_nodes h
  have T := Heir.tree_of h
  have kidK : ∀ n, thereN f.nodes n = true → ∀ c ∈ (nd f.nodes n).kids, (nd f.nodes c).kind = 1 ∨ (nd f.nodes c).kind = 2 := by
    intro n hn c hc
    have h1 := hN n hn
    unfold nodeOK bearsN at h1
    simp only [Bool.and_eq_true] at h1
    have h2 := (kidsOK_iff.1 h1.2.2.2.1.1).1 c hc
    unfold kidP at h2
    simp only [Bool.and_eq_true, Bool.or_eq_true, decide_eq_true_eq] at h2
    rcases h2.2.2.2 with h3 | h3
    · exact .inl h3
    · exact .inr h3.1
  have und : ∀ n, thereN f.nodes n = true → (nd f.nodes n).under ≠ -1 → thereN f.nodes (nd f.nodes n).under = true ∧ (nd f.nodes (nd f.nodes n).under).kind = 4 ∧ (nd f.nodes (nd f.nodes n).under).host = n := by
    intro n hn hu
    have h1 := hN n hn
    unfold nodeOK shadedN isN at h1
    simp only [Bool.and_eq_true, Bool.or_eq_true, decide_eq_true_eq] at h1
    rcases h1.2.2.2.2.2 with h2 | h2
    · exact absurd h2 hu
    · exact ⟨h2.1.2.1, h2.1.2.2, h2.2⟩
  have top4 : ∀ n, thereN f.nodes n = true → (nd f.nodes n).kind = 4 → (nd f.nodes n).parent = -1 := by
    intro n hn hk
    have h1 := hN n hn
    unfold nodeOK hungN at h1
    simp only [Bool.and_eq_true, Bool.or_eq_true, decide_eq_true_eq] at h1
    rcases h1.2.2.1 with h2 | h2
    · exact h2
    · rcases h2.1.1.1 with h3 | h3 <;> (rw [hk] at h3; cases h3)
  have mem : ∀ (x : NodeM) (k : Int), k ∈ chU x ↔ (x.under ≠ -1 ∧ k = x.under) ∨ k ∈ x.kids := by
    intro x k
    unfold chU
    rw [List.mem_append]
    by_cases hu : x.under = -1
    · simp [hu]
    · simp [hu]
  refine ⟨fun n hn hp => ?_, fun n hn k hk => ?_, fun n hn => ?_, fun n hn => fin_of_ends (right_ends h n hn)⟩
  · unfold upN at hp ⊢
    by_cases hq : (nd f.nodes n).parent = -1
    · rw [if_pos hq] at hp ⊢
      have h1 := hN n hn
      unfold nodeOK shadedN at h1
      simp only [Bool.and_eq_true] at h1
      have h2 := h1.2.2.2.2.1
      by_cases hk : (nd f.nodes n).kind = 4
      · rw [if_pos hk] at h2
        unfold isN at h2
        simp only [Bool.and_eq_true, decide_eq_true_eq] at h2
        refine ⟨h2.1.1.1, (mem _ _).2 (.inl ⟨?_, h2.1.2.symm⟩)⟩
        rw [h2.1.2]
        have := there_pos hn
        omega
      · rw [if_neg hk] at h2
        exact absurd (by simpa using h2) hp
    · rw [if_neg hq]
      have h1 := T.par n hn hq
      exact ⟨h1.1, (mem _ _).2 (.inr h1.2)⟩
  · have hn0 := there_pos hn
    rcases (mem _ _).1 hk with ⟨h1, rfl⟩ | h1
    · obtain ⟨h2, h3, h4⟩ := und n hn h1
      exact ⟨h2, by unfold upN; rw [if_pos (top4 _ h2 h3)]; exact h4⟩
    · obtain ⟨h2, h3⟩ := T.kid n hn k h1
      exact ⟨h2, by unfold upN; rw [if_neg (by rw [h3]; omega)]; exact h3⟩
  · unfold chU
    by_cases hu : (nd f.nodes n).under = -1
    · rw [if_pos hu]; exact T.dup n hn
    · rw [if_neg hu]
      refine List.nodup_cons.2 ⟨fun hm => ?_, T.dup n hn⟩
      have h1 := (und n hn hu).2.1
      rcases kidK n hn _ hm with h2 | h2 <;> (rw [h1] at h2; cases h2)
end U
end Go.Proofs.Heir
end
section
set_option linter.unusedSimpArgs false
set_option linter.unusedVariables false
namespace Go.Proofs.Heir
open Go Go.Am Go.RowKit Go.Lib
set_option maxRecDepth 100000
theorem AppK.take {rb rs : List AV} {off len off' len' bytes : Nat} {acc : Tk} {sl : SL} {m : ML} {A : List AV → Tk → SL → ML → Prop} (rows0 news : List AV) (h0 : off = 0 ∧ len ≤ rb.length ∧ rows0 = rb.take len) (h1 : off' = 0 ∧ len' = rs.length ∧ news = rs) (h2 : oneL (flat news) = true)
    (h3 : (rows0.length + news.length) * bytes ≤ 140737488355328) (h4 : rows0.length + news.length ≤ 9223372036854775807) (h : A (rows0 ++ news) acc sl m) : AppK rb off len rs off' len' bytes acc sl m (A := A) := by
  obtain ⟨rfl, hl, rfl⟩ := h0
  obtain ⟨rfl, rfl, rfl⟩ := h1
  exact ⟨_, _, by omega, by simp, by omega, by simp, h2, h3, h4, h⟩
theorem flatMap_congrI {α β : Type} {f g : α → List β} : ∀ {l : List α}, (∀ a ∈ l, f a = g a) → l.flatMap f = l.flatMap g
  | [], _ => rfl
  | a :: r, h => by rw [List.flatMap_cons, List.flatMap_cons, h a List.mem_cons_self, flatMap_congrI fun b hb => h b (List.mem_cons_of_mem _ hb)]
namespace U
variable {l : List NodeM}
theorem ord_more (T : Tree l) : ∀ (m : Nat) (n : Int), thereN l n = true → l.length + 1 ≤ m + (wayN l n).length → ordN l (m + 1) n = ordN l m n
  | 0, n, _, h => by have := way_len (l := l) n; omega
  | m + 1, n, hn, h => by
    rw [ordN, ordN]
    congr 1
    refine flatMap_congrI fun k hk => ?_
    refine ord_more T m k (T.kid n hn k hk).1 ?_
    rw [way_kid T hn hk]; simp; omega
theorem ord_eq (T : Tree l) {n : Int} (hn : thereN l n = true) : ordN l l.length n = n :: (chU (nd l n)).flatMap (ordN l l.length) := by
  have h0 := there_pos hn
  obtain ⟨m, hm⟩ : ∃ m, l.length = m + 1 := ⟨l.length - 1, by omega⟩
  have h1 : ∀ k ∈ chU (nd l n), ordN l l.length k = ordN l m k := fun k hk => by
    rw [hm]
    refine ord_more T m k (T.kid n hn k hk).1 ?_
    obtain ⟨r, hr⟩ := way_head T hn
    rw [way_kid T hn hk, hr]; simp; omega
  conv => lhs; rw [hm, ordN]
  congr 1
  exact flatMap_congrI fun k hk => (h1 k hk).symm
def rest (l : List NodeM) (st : List Int) : List Int := st.reverse.flatMap (ordN l l.length)
theorem rest_pop (T : Tree l) {st : List Int} {t : Int} (ht : thereN l t = true) : rest l (st ++ [t]) = t :: rest l (st ++ (chU (nd l t)).reverse) := by
  unfold rest
  rw [List.reverse_append, List.reverse_append, List.reverse_reverse]
  simp only [List.reverse_cons, List.reverse_nil, List.nil_append, List.cons_append, List.flatMap_cons, List.flatMap_append]
  rw [ord_eq T ht]; rfl
theorem rest_len (T : Tree l) : ∀ {st : List Int}, (∀ c ∈ st, thereN l c = true) → st.length ≤ (rest l st).length := by
  intro st h
  unfold rest
  have : ∀ s : List Int, (∀ c ∈ s, thereN l c = true) → s.length ≤ (s.flatMap (ordN l l.length)).length := by
    intro s
    induction s with
    | nil => intro _; exact Nat.le_refl _
    | cons a r ih =>
      intro h
      have h1 := ih fun c hc => h c (List.mem_cons_of_mem _ hc)
      rw [List.flatMap_cons, List.length_append, ord_eq T (h a List.mem_cons_self), List.length_cons, List.length_cons]
      omega
  have := this st.reverse fun c hc => h c (by simpa using hc)
  simpa using this
end U
end Go.Proofs.Heir
end
section
set_option linter.unusedSimpArgs false
set_option linter.unusedVariables false
namespace Go.Proofs.Heir
open Go Go.Am Go.RowKit Go.Lib
set_option maxRecDepth 100000
theorem f43s_ok (s : ByteArray) : FnOK Tryz.prog 43 [] [eStr s] [] (eBool (customS s)) := by
  cases hr : rightS s with
  | true =>
    have hs : s.size ≤ 100000 := by
      have h0 := hr; unfold rightS rightL at h0; simp only [Bool.and_eq_true, decide_eq_true_eq] at h0
      have hsz : s.size = s.data.toList.length := size_len s
      omega
    exact f43_ok s hs
  | false =>
    have e : customS s = false := by unfold customS; rw [hr]; rfl
    rw [e]
    refine FnOK.startC (rvs := [.tmp 2]) G G_good Tryz.func43 rfl Tryz.ntmps43 rfl rfl ?_; delta List.toArray; (with_reducible ((conv => whnf); (conv => congr <;> reduce); repeat ((first | refine hK ?_ | refine sK ?_); (conv => whnf); (conv => congr <;> reduce))))
    refine CallK.lit [] (f72_ok s) c72 ⟨rfl, trivial⟩ rfl rfl ?_; (with_reducible ((conv => whnf); (conv => congr <;> reduce); repeat ((first | refine hK ?_ | refine sK ?_); (conv => whnf); (conv => congr <;> reduce))))
    rw [hr]
    repeat' (first
    | (first
    | ((with_reducible show IfK _ _ _ _); first | refine IfK.ff ?_ | refine IfK.tt ?_ | refine IfK.no (by first | rfl | assumption | exact nfA | exact ntA | ((try simp only [castN]); first | simp [] <;> omega)) ?_ | refine IfK.yes (by first | rfl | assumption | exact nfA | exact ntA | ((try simp only [castN]); first | simp [] <;> omega)) ?_)
    | ((with_reducible show NeedK _ _ _ _); refine nK ?_)
    | ((with_reducible show DrawK _ _ _ _); refine dK ?_)) <;> (with_reducible ((conv => whnf); (conv => congr <;> reduce); repeat ((first | refine hK ?_ | refine sK ?_); (conv => whnf); (conv => congr <;> reduce))))
    | ((with_reducible show (_ ∧ _) ∧ _ ∧ _); refine ⟨⟨rfl, rfl⟩, ?_, ?_⟩ <;> with_reducible ((conv => whnf) <;> repeat' (first | exact trivial | (refine And.intro ?_ ?_ <;> (conv => whnf))))))
end Go.Proofs.Heir
end
section
set_option linter.unusedSimpArgs false
set_option linter.unusedVariables false
namespace Go.Proofs.Heir
open Go Go.Am Go.RowKit Go.Lib
set_option maxRecDepth 100000
set_option maxHeartbeats 4000000 in
theorem f117_ok (f : ForM) (n : Int) : FnOK Tryz.prog 117 [] [eFor f, eInt n] [] (eBool (thereN f.nodes n)) := by
  obtain ⟨l, m⟩ := f
  have hlm : (l.map oNode).length = l.length := List.length_map ..
  refine FnOK.startC (rvs := [.tmp 4]) G G_good Tryz.func117 rfl Tryz.ntmps117 rfl rfl ?_; delta List.toArray; (with_reducible ((conv => whnf); (conv => congr <;> reduce); repeat ((first | refine hK ?_ | refine sK ?_); (conv => whnf); (conv => congr <;> reduce))))
  by_cases h : (0 : Int) ≤ n
  · repeat' (first
    | (first
    | ((with_reducible show IfK _ _ _ _); first | refine IfK.ff ?_ | refine IfK.tt ?_ | refine IfK.no (by first | rfl | assumption | exact nfA | exact ntA | ((try simp only [castN]); first | simp [h] <;> omega)) ?_ | refine IfK.yes (by first | rfl | assumption | exact nfA | exact ntA | ((try simp only [castN]); first | simp [h] <;> omega)) ?_)
    | ((with_reducible show NeedK _ _ _ _); refine nK ?_)
    | ((with_reducible show DrawK _ _ _ _); refine dK ?_)) <;> (with_reducible ((conv => whnf); (conv => congr <;> reduce); repeat ((first | refine hK ?_ | refine sK ?_); (conv => whnf); (conv => congr <;> reduce))))
    | ((with_reducible show (_ ∧ _) ∧ _ ∧ _); refine ⟨⟨rfl, rfl⟩, ?_, ?_⟩ <;> with_reducible ((conv => whnf) <;> repeat' (first | exact trivial | (refine And.intro ?_ ?_ <;> (conv => whnf))))))
    all_goals simp [thereN, h]
  · repeat' (first
    | (first
    | ((with_reducible show IfK _ _ _ _); first | refine IfK.ff ?_ | refine IfK.tt ?_ | refine IfK.no (by first | rfl | assumption | exact nfA | exact ntA | ((try simp only [castN]); first | simp [eq_false h] <;> omega)) ?_ | refine IfK.yes (by first | rfl | assumption | exact nfA | exact ntA | ((try simp only [castN]); first | simp [eq_false h] <;> omega)) ?_)
    | ((with_reducible show NeedK _ _ _ _); refine nK ?_)
    | ((with_reducible show DrawK _ _ _ _); refine dK ?_)) <;> (with_reducible ((conv => whnf); (conv => congr <;> reduce); repeat ((first | refine hK ?_ | refine sK ?_); (conv => whnf); (conv => congr <;> reduce))))
    | ((with_reducible show (_ ∧ _) ∧ _ ∧ _); refine ⟨⟨rfl, rfl⟩, ?_, ?_⟩ <;> with_reducible ((conv => whnf) <;> repeat' (first | exact trivial | (refine And.intro ?_ ?_ <;> (conv => whnf))))))
    all_goals simp [thereN, h]
set_option maxHeartbeats 4000000 in
theorem f118_ok (k : Int) : FnOK Tryz.prog 118 [] [eInt k] [] (eBool (holdK k)) := by
  refine FnOK.startC (rvs := [.tmp 2]) G G_good Tryz.func118 rfl Tryz.ntmps118 rfl rfl ?_; delta List.toArray; (with_reducible ((conv => whnf); (conv => congr <;> reduce); repeat ((first | refine hK ?_ | refine sK ?_); (conv => whnf); (conv => congr <;> reduce))))
  by_cases e0 : k = 0
  · repeat' (first
    | (first
    | ((with_reducible show IfK _ _ _ _); first | refine IfK.ff ?_ | refine IfK.tt ?_ | refine IfK.no (by first | rfl | assumption | exact nfA | exact ntA | ((try simp only [castN]); first | simp [e0] <;> omega)) ?_ | refine IfK.yes (by first | rfl | assumption | exact nfA | exact ntA | ((try simp only [castN]); first | simp [e0] <;> omega)) ?_)
    | ((with_reducible show NeedK _ _ _ _); refine nK ?_)
    | ((with_reducible show DrawK _ _ _ _); refine dK ?_)) <;> (with_reducible ((conv => whnf); (conv => congr <;> reduce); repeat ((first | refine hK ?_ | refine sK ?_); (conv => whnf); (conv => congr <;> reduce))))
    | ((with_reducible show (_ ∧ _) ∧ _ ∧ _); refine ⟨⟨rfl, rfl⟩, ?_, ?_⟩ <;> with_reducible ((conv => whnf) <;> repeat' (first | exact trivial | (refine And.intro ?_ ?_ <;> (conv => whnf))))))
    all_goals simp [holdK, e0]
  · by_cases e1 : k = 1
    · repeat' (first
    | (first
    | ((with_reducible show IfK _ _ _ _); first | refine IfK.ff ?_ | refine IfK.tt ?_ | refine IfK.no (by first | rfl | assumption | exact nfA | exact ntA | ((try simp only [castN]); first | simp [e1] <;> omega)) ?_ | refine IfK.yes (by first | rfl | assumption | exact nfA | exact ntA | ((try simp only [castN]); first | simp [e1] <;> omega)) ?_)
    | ((with_reducible show NeedK _ _ _ _); refine nK ?_)
    | ((with_reducible show DrawK _ _ _ _); refine dK ?_)) <;> (with_reducible ((conv => whnf); (conv => congr <;> reduce); repeat ((first | refine hK ?_ | refine sK ?_); (conv => whnf); (conv => congr <;> reduce))))
    | ((with_reducible show (_ ∧ _) ∧ _ ∧ _); refine ⟨⟨rfl, rfl⟩, ?_, ?_⟩ <;> with_reducible ((conv => whnf) <;> repeat' (first | exact trivial | (refine And.intro ?_ ?_ <;> (conv => whnf))))))
      all_goals simp [holdK, e1]
    · by_cases e3 : k = 3
      · repeat' (first
    | (first
    | ((with_reducible show IfK _ _ _ _); first | refine IfK.ff ?_ | refine IfK.tt ?_ | refine IfK.no (by first | rfl | assumption | exact nfA | exact ntA | ((try simp only [castN]); first | simp [e3] <;> omega)) ?_ | refine IfK.yes (by first | rfl | assumption | exact nfA | exact ntA | ((try simp only [castN]); first | simp [e3] <;> omega)) ?_)
    | ((with_reducible show NeedK _ _ _ _); refine nK ?_)
    | ((with_reducible show DrawK _ _ _ _); refine dK ?_)) <;> (with_reducible ((conv => whnf); (conv => congr <;> reduce); repeat ((first | refine hK ?_ | refine sK ?_); (conv => whnf); (conv => congr <;> reduce))))
    | ((with_reducible show (_ ∧ _) ∧ _ ∧ _); refine ⟨⟨rfl, rfl⟩, ?_, ?_⟩ <;> with_reducible ((conv => whnf) <;> repeat' (first | exact trivial | (refine And.intro ?_ ?_ <;> (conv => whnf))))))
        all_goals simp [holdK, e3]
      · by_cases e4 : k = 4
        · repeat' (first
    | (first
    | ((with_reducible show IfK _ _ _ _); first | refine IfK.ff ?_ | refine IfK.tt ?_ | refine IfK.no (by first | rfl | assumption | exact nfA | exact ntA | ((try simp only [castN]); first | simp [e4] <;> omega)) ?_ | refine IfK.yes (by first | rfl | assumption | exact nfA | exact ntA | ((try simp only [castN]); first | simp [e4] <;> omega)) ?_)
    | ((with_reducible show NeedK _ _ _ _); refine nK ?_)
    | ((with_reducible show DrawK _ _ _ _); refine dK ?_)) <;> (with_reducible ((conv => whnf); (conv => congr <;> reduce); repeat ((first | refine hK ?_ | refine sK ?_); (conv => whnf); (conv => congr <;> reduce))))
    | ((with_reducible show (_ ∧ _) ∧ _ ∧ _); refine ⟨⟨rfl, rfl⟩, ?_, ?_⟩ <;> with_reducible ((conv => whnf) <;> repeat' (first | exact trivial | (refine And.intro ?_ ?_ <;> (conv => whnf))))))
          all_goals simp [holdK, e4]
        · repeat' (first
    | (first
    | ((with_reducible show IfK _ _ _ _); first | refine IfK.ff ?_ | refine IfK.tt ?_ | refine IfK.no (by first | rfl | assumption | exact nfA | exact ntA | ((try simp only [castN]); first | simp [e0, e1, e3, e4] <;> omega)) ?_ | refine IfK.yes (by first | rfl | assumption | exact nfA | exact ntA | ((try simp only [castN]); first | simp [e0, e1, e3, e4] <;> omega)) ?_)
    | ((with_reducible show NeedK _ _ _ _); refine nK ?_)
    | ((with_reducible show DrawK _ _ _ _); refine dK ?_)) <;> (with_reducible ((conv => whnf); (conv => congr <;> reduce); repeat ((first | refine hK ?_ | refine sK ?_); (conv => whnf); (conv => congr <;> reduce))))
    | ((with_reducible show (_ ∧ _) ∧ _ ∧ _); refine ⟨⟨rfl, rfl⟩, ?_, ?_⟩ <;> with_reducible ((conv => whnf) <;> repeat' (first | exact trivial | (refine And.intro ?_ ?_ <;> (conv => whnf))))))
          all_goals simp [holdK, e0, e1, e3, e4]
set_option maxHeartbeats 4000000 in
theorem f116_ok (f : ForM) (n k : Int) : FnOK Tryz.prog 116 [] [eFor f, eInt n, eInt k] [] (eBool (isN f.nodes n k)) := by
  have h49 := f117_ok f n
  obtain ⟨l, m⟩ := f
  refine FnOK.startC (rvs := [.tmp 6]) G G_good Tryz.func116 rfl Tryz.ntmps116 rfl rfl ?_; delta List.toArray; (with_reducible ((conv => whnf); (conv => congr <;> reduce); repeat ((first | refine hK ?_ | refine sK ?_); (conv => whnf); (conv => congr <;> reduce))))
  refine CallK.lit [] h49 c117 ⟨⟨rfl, rfl, trivial⟩, rfl, trivial⟩ rfl rfl ?_; (with_reducible ((conv => whnf); (conv => congr <;> reduce); repeat ((first | refine hK ?_ | refine sK ?_); (conv => whnf); (conv => congr <;> reduce))))
  cases ht : thereN l n with
  | false =>
    repeat' (first
    | (first
    | ((with_reducible show IfK _ _ _ _); first | refine IfK.ff ?_ | refine IfK.tt ?_ | refine IfK.no (by first | rfl | assumption | exact nfA | exact ntA | ((try simp only [castN]); first | simp [ht] <;> omega)) ?_ | refine IfK.yes (by first | rfl | assumption | exact nfA | exact ntA | ((try simp only [castN]); first | simp [ht] <;> omega)) ?_)
    | ((with_reducible show NeedK _ _ _ _); refine nK ?_)
    | ((with_reducible show DrawK _ _ _ _); refine dK ?_)) <;> (with_reducible ((conv => whnf); (conv => congr <;> reduce); repeat ((first | refine hK ?_ | refine sK ?_); (conv => whnf); (conv => congr <;> reduce))))
    | ((with_reducible show (_ ∧ _) ∧ _ ∧ _); refine ⟨⟨rfl, rfl⟩, ?_, ?_⟩ <;> with_reducible ((conv => whnf) <;> repeat' (first | exact trivial | (refine And.intro ?_ ?_ <;> (conv => whnf))))))
    all_goals simp [isN, ht]
  | true =>
    obtain ⟨i, x, rfl, hx, hnd⟩ := there_iff.1 ht
    obtain ⟨a1, a2, a3, a4, a5, a6, a7, a8, a9, a10⟩ := x
    repeat' (first
    | (first
    | ((with_reducible show IfK _ _ _ _); first | refine IfK.ff ?_ | refine IfK.tt ?_ | refine IfK.no (by first | rfl | assumption | exact nfA | exact ntA | ((try simp only [castN]); first | simp [ht] <;> omega)) ?_ | refine IfK.yes (by first | rfl | assumption | exact nfA | exact ntA | ((try simp only [castN]); first | simp [ht] <;> omega)) ?_)
    | ((with_reducible show NeedK _ _ _ _); refine nK ?_)
    | ((with_reducible show DrawK _ _ _ _); refine dK ?_)
    | (refine IdxK.mk i (eNode _) rfl (node_get hx) ?_)) <;> (with_reducible ((conv => whnf); (conv => congr <;> reduce); repeat ((first | refine hK ?_ | refine sK ?_); (conv => whnf); (conv => congr <;> reduce))))
    | ((with_reducible show (_ ∧ _) ∧ _ ∧ _); refine ⟨⟨rfl, rfl⟩, ?_, ?_⟩ <;> with_reducible ((conv => whnf) <;> repeat' (first | exact trivial | (refine And.intro ?_ ?_ <;> (conv => whnf))))))
    all_goals simp [isN, ht, hnd]
set_option maxHeartbeats 4000000 in
theorem f137_ok (l : List Int) (hl : l.length ≤ 100000) (n : Int) : FnOK Tryz.prog 137 [] [eInts l, eInt n] [] (eInt (idxI (fun x => decide (x = n)) l)) := by
  have hlm : (l.map oInt).length = l.length := List.length_map ..
  refine FnOK.startC (rvs := [.tmp 4]) G G_good Tryz.func137 rfl Tryz.ntmps137 rfl rfl ?_; delta List.toArray; (with_reducible ((conv => whnf); (conv => congr <;> reduce); repeat ((first | refine hK ?_ | refine sK ?_); (conv => whnf); (conv => congr <;> reduce))))
  refine LoopK.use G G_good (fun (k : Nat) => [(0, eInts l), (1, eInt n), (7, eInt l.length), (8, eInt k)]) (fun _ => []) (fun k => k ≤ l.length ∧ ∀ j x, j < k → l[j]? = some x → decide (x = n) = false) (fun k => l.length - k) 0 ⟨Nat.zero_le _, fun j x h => by omega⟩
    ⟨⟨rfl, rfl⟩, ⟨rfl, rfl, by show (l.length : Int) = ((l.map oInt).length : Int); rw [hlm], rfl, trivial⟩, trivial⟩ ?_
  rintro k ⟨hk, hno⟩
  (with_reducible ((conv => whnf); (conv => congr <;> reduce); repeat ((first | refine hK ?_ | refine sK ?_); (conv => whnf); (conv => congr <;> reduce))))
  refine IfK.mk (fun h1 => ?_) (fun h1 => ?_) <;> (try simp only [castN] at h1) <;> (with_reducible ((conv => whnf); (conv => congr <;> reduce); repeat ((first | refine hK ?_ | refine sK ?_); (conv => whnf); (conv => congr <;> reduce))))
  · have hk' : k < l.length := by simp only [decide_eq_true_eq] at h1; omega
    obtain ⟨a, ha⟩ : ∃ a, l[k]? = some a := ⟨_, List.getElem?_eq_getElem hk'⟩
    refine IdxK.mk k (eInt a) rfl (int_get ha) ?_; (with_reducible ((conv => whnf); (conv => congr <;> reduce); repeat ((first | refine hK ?_ | refine sK ?_); (conv => whnf); (conv => congr <;> reduce))))
    refine IfK.mk (fun h2 => ?_) (fun h2 => ?_) <;> (try simp only [castN] at h2) <;> (with_reducible ((conv => whnf); (conv => congr <;> reduce); repeat ((first | refine hK ?_ | refine sK ?_); (conv => whnf); (conv => congr <;> reduce))))
    · refine ⟨⟨rfl, rfl⟩, ?_, ?_⟩ <;> with_reducible ((conv => whnf) <;> repeat' (first | exact trivial | (refine And.intro ?_ ?_ <;> (conv => whnf))))
      refine idxI_hit (p := fun x => decide (x = n)) ha ?_ hno
      simp only [decide_eq_true_eq] at h2 ⊢; exact h2.symm
    · refine nK ?_; (with_reducible ((conv => whnf); (conv => congr <;> reduce); repeat ((first | refine hK ?_ | refine sK ?_); (conv => whnf); (conv => congr <;> reduce))))
      refine NextK.mk (k + 1) ⟨by omega, fun j x hj hx => ?_⟩ (by omega) ⟨⟨rfl, rfl⟩, ⟨rfl, rfl, rfl, by show ((k + 1 : Nat) : Int) = (k : Int) + 1; omega, trivial⟩, trivial⟩
      rcases Nat.lt_or_ge j k with h3 | h3
      · exact hno j x h3 hx
      · have : j = k := by omega
        subst this
        rw [ha] at hx; cases hx
        simp only [decide_eq_false_iff_not] at h2 ⊢; exact fun e => h2 e.symm
  · refine ⟨⟨rfl, rfl⟩, ?_, ?_⟩ <;> with_reducible ((conv => whnf) <;> repeat' (first | exact trivial | (refine And.intro ?_ ?_ <;> (conv => whnf))))
    exact idxI_none fun j x hx => hno j x (by have := (List.getElem?_eq_some_iff.1 hx).1; simp only [decide_eq_false_iff_not] at h1; omega) hx
theorem idxI_has {l : List Int} {n : Int} : decide (0 ≤ idxI (fun x => decide (x = n)) l) = hasI l n := by
  rw [Bool.eq_iff_iff, decide_eq_true_eq]
  unfold hasI
  rw [decide_eq_true_eq]
  unfold idxI
  cases h : l.findIdx? (fun x => decide (x = n)) with
  | none =>
    rw [List.findIdx?_eq_none_iff] at h
    simp only
    refine ⟨fun h' => by omega, fun hs => ?_⟩
    have := h n hs
    simp at this
  | some k =>
    rw [List.findIdx?_eq_some_iff_getElem] at h
    obtain ⟨hk, h2, _⟩ := h
    simp only
    exact ⟨fun _ => by rw [← of_decide_eq_true h2]; exact List.getElem_mem hk, fun _ => by omega⟩
theorem f119_ok (l : List Int) (hl : l.length ≤ 100000) (n : Int) : FnOK Tryz.prog 119 [] [eInts l, eInt n] [] (eBool (hasI l n)) := by
  rw [← idxI_has]
  refine FnOK.startC (rvs := [.tmp 4]) G G_good Tryz.func119 rfl Tryz.ntmps119 rfl rfl ?_; delta List.toArray; (with_reducible ((conv => whnf); (conv => congr <;> reduce); repeat ((first | refine hK ?_ | refine sK ?_); (conv => whnf); (conv => congr <;> reduce))))
  refine CallK.lit [] (f137_ok l hl n) c137 ⟨rfl, rfl, trivial⟩ rfl rfl ?_; (with_reducible ((conv => whnf); (conv => congr <;> reduce); repeat ((first | refine hK ?_ | refine sK ?_); (conv => whnf); (conv => congr <;> reduce))))
  refine ⟨⟨rfl, rfl⟩, ?_, ?_⟩ <;> with_reducible ((conv => whnf) <;> repeat' (first | exact trivial | (refine And.intro ?_ ?_ <;> (conv => whnf))))
set_option maxHeartbeats 4000000 in
theorem f120_ok (f : ForM) (k : Nat) (x : NodeM) (hx : f.nodes[k]? = some x) : FnOK Tryz.prog 120 [] [eFor f, eInt k] [] (eInt (upN x)) := by
  obtain ⟨l, m⟩ := f
  obtain ⟨a1, a2, a3, a4, a5, a6, a7, a8, a9, a10⟩ := x
  refine FnOK.startC (rvs := [.tmp 4]) G G_good Tryz.func120 rfl Tryz.ntmps120 rfl rfl ?_; delta List.toArray; (with_reducible ((conv => whnf); (conv => congr <;> reduce); repeat ((first | refine hK ?_ | refine sK ?_); (conv => whnf); (conv => congr <;> reduce))))
  refine IdxK.mk k (eNode _) rfl (node_get hx) ?_; (with_reducible ((conv => whnf); (conv => congr <;> reduce); repeat ((first | refine hK ?_ | refine sK ?_); (conv => whnf); (conv => congr <;> reduce))))
  unfold upN
  by_cases e : a6 = -1
  · repeat' (first
    | (first
    | ((with_reducible show IfK _ _ _ _); first | refine IfK.ff ?_ | refine IfK.tt ?_ | refine IfK.no (by first | rfl | assumption | exact nfA | exact ntA | ((try simp only [castN]); first | simp [e] <;> omega)) ?_ | refine IfK.yes (by first | rfl | assumption | exact nfA | exact ntA | ((try simp only [castN]); first | simp [e] <;> omega)) ?_)
    | ((with_reducible show NeedK _ _ _ _); refine nK ?_)
    | ((with_reducible show DrawK _ _ _ _); refine dK ?_)
    | (refine IdxK.mk k (eNode _) rfl (node_get hx) ?_)) <;> (with_reducible ((conv => whnf); (conv => congr <;> reduce); repeat ((first | refine hK ?_ | refine sK ?_); (conv => whnf); (conv => congr <;> reduce))))
    | ((with_reducible show (_ ∧ _) ∧ _ ∧ _); refine ⟨⟨rfl, rfl⟩, ?_, ?_⟩ <;> with_reducible ((conv => whnf) <;> repeat' (first | exact trivial | (refine And.intro ?_ ?_ <;> (conv => whnf))))))
    all_goals simp [e]
  · repeat' (first
    | (first
    | ((with_reducible show IfK _ _ _ _); first | refine IfK.ff ?_ | refine IfK.tt ?_ | refine IfK.no (by first | rfl | assumption | exact nfA | exact ntA | ((try simp only [castN]); first | simp [eq_false e] <;> omega)) ?_ | refine IfK.yes (by first | rfl | assumption | exact nfA | exact ntA | ((try simp only [castN]); first | simp [eq_false e] <;> omega)) ?_)
    | ((with_reducible show NeedK _ _ _ _); refine nK ?_)
    | ((with_reducible show DrawK _ _ _ _); refine dK ?_)
    | (refine IdxK.mk k (eNode _) rfl (node_get hx) ?_)) <;> (with_reducible ((conv => whnf); (conv => congr <;> reduce); repeat ((first | refine hK ?_ | refine sK ?_); (conv => whnf); (conv => congr <;> reduce))))
    | ((with_reducible show (_ ∧ _) ∧ _ ∧ _); refine ⟨⟨rfl, rfl⟩, ?_, ?_⟩ <;> with_reducible ((conv => whnf) <;> repeat' (first | exact trivial | (refine And.intro ?_ ?_ <;> (conv => whnf))))))
    all_goals simp [e]
end Go.Proofs.Heir
end
section
set_option linter.unusedSimpArgs false
set_option linter.unusedVariables false
namespace Go.Proofs.Heir
open Go Go.Am Go.RowKit Go.Lib
set_option maxRecDepth 100000
set_option maxHeartbeats 4000000 in
theorem f97_ok (f : ForM) (k : Nat) (x : NodeM) (hx : f.nodes[k]? = some x) : FnOK Tryz.prog 97 [] [eFor f, eInt k] [] (eBool (ownedN f.nodes k x)) := by
  have h55 := f116_ok f x.doc 0
  obtain ⟨l, m⟩ := f
  obtain ⟨a1, a2, a3, a4, a5, a6, a7, a8, a9, a10⟩ := x
  unfold ownedN
  simp only at h55 hx ⊢
  refine FnOK.startC (rvs := [.tmp 4]) G G_good Tryz.func97 rfl Tryz.ntmps97 rfl rfl ?_; delta List.toArray; (with_reducible ((conv => whnf); (conv => congr <;> reduce); repeat ((first | refine hK ?_ | refine sK ?_); (conv => whnf); (conv => congr <;> reduce))))
  refine IdxK.mk k (eNode _) rfl (node_get hx) ?_; (with_reducible ((conv => whnf); (conv => congr <;> reduce); repeat ((first | refine hK ?_ | refine sK ?_); (conv => whnf); (conv => congr <;> reduce))))
  refine CallK.lit [] h55 c116 ⟨⟨rfl, rfl, trivial⟩, rfl, rfl, trivial⟩ rfl rfl ?_; (with_reducible ((conv => whnf); (conv => congr <;> reduce); repeat ((first | refine hK ?_ | refine sK ?_); (conv => whnf); (conv => congr <;> reduce))))
  cases hi : isN l a10 0 with
  | false =>
    repeat' (first
    | (first
    | ((with_reducible show IfK _ _ _ _); first | refine IfK.ff ?_ | refine IfK.tt ?_ | refine IfK.no (by first | rfl | assumption | exact nfA | exact ntA | ((try simp only [castN]); first | simp [hi] <;> omega)) ?_ | refine IfK.yes (by first | rfl | assumption | exact nfA | exact ntA | ((try simp only [castN]); first | simp [hi] <;> omega)) ?_)
    | ((with_reducible show NeedK _ _ _ _); refine nK ?_)
    | ((with_reducible show DrawK _ _ _ _); refine dK ?_)) <;> (with_reducible ((conv => whnf); (conv => congr <;> reduce); repeat ((first | refine hK ?_ | refine sK ?_); (conv => whnf); (conv => congr <;> reduce))))
    | ((with_reducible show (_ ∧ _) ∧ _ ∧ _); refine ⟨⟨rfl, rfl⟩, ?_, ?_⟩ <;> with_reducible ((conv => whnf) <;> repeat' (first | exact trivial | (refine And.intro ?_ ?_ <;> (conv => whnf))))))
    all_goals simp [hi]
  | true =>
    by_cases e : a1 = 0
    · repeat' (first
    | (first
    | ((with_reducible show IfK _ _ _ _); first | refine IfK.ff ?_ | refine IfK.tt ?_ | refine IfK.no (by first | rfl | assumption | exact nfA | exact ntA | ((try simp only [castN]); first | simp [hi, e] <;> omega)) ?_ | refine IfK.yes (by first | rfl | assumption | exact nfA | exact ntA | ((try simp only [castN]); first | simp [hi, e] <;> omega)) ?_)
    | ((with_reducible show NeedK _ _ _ _); refine nK ?_)
    | ((with_reducible show DrawK _ _ _ _); refine dK ?_)) <;> (with_reducible ((conv => whnf); (conv => congr <;> reduce); repeat ((first | refine hK ?_ | refine sK ?_); (conv => whnf); (conv => congr <;> reduce))))
    | ((with_reducible show (_ ∧ _) ∧ _ ∧ _); refine ⟨⟨rfl, rfl⟩, ?_, ?_⟩ <;> with_reducible ((conv => whnf) <;> repeat' (first | exact trivial | (refine And.intro ?_ ?_ <;> (conv => whnf))))))
      all_goals simp [hi, e]
    · repeat' (first
    | (first
    | ((with_reducible show IfK _ _ _ _); first | refine IfK.ff ?_ | refine IfK.tt ?_ | refine IfK.no (by first | rfl | assumption | exact nfA | exact ntA | ((try simp only [castN]); first | simp [hi, eq_false e] <;> omega)) ?_ | refine IfK.yes (by first | rfl | assumption | exact nfA | exact ntA | ((try simp only [castN]); first | simp [hi, eq_false e] <;> omega)) ?_)
    | ((with_reducible show NeedK _ _ _ _); refine nK ?_)
    | ((with_reducible show DrawK _ _ _ _); refine dK ?_)) <;> (with_reducible ((conv => whnf); (conv => congr <;> reduce); repeat ((first | refine hK ?_ | refine sK ?_); (conv => whnf); (conv => congr <;> reduce))))
    | ((with_reducible show (_ ∧ _) ∧ _ ∧ _); refine ⟨⟨rfl, rfl⟩, ?_, ?_⟩ <;> with_reducible ((conv => whnf) <;> repeat' (first | exact trivial | (refine And.intro ?_ ?_ <;> (conv => whnf))))))
      all_goals simp [hi, e]
set_option maxHeartbeats 8000000 in
theorem f98_ok (f : ForM) (hs : SmallN f.nodes) (k : Nat) (x : NodeM) (hx : f.nodes[k]? = some x) : FnOK Tryz.prog 98 [] [eFor f, eInt k] [] (eBool (hungN f.nodes k x)) := by
  have h49 := f117_ok f x.parent
  have h56 := f118_ok (nd f.nodes x.parent).kind
  have h57 : thereN f.nodes x.parent = true → FnOK Tryz.prog 119 [] [eInts (nd f.nodes x.parent).kids, eInt k] [] (eBool (hasI (nd f.nodes x.parent).kids k)) := fun ht => by
    obtain ⟨i, y, _, hy, hnd⟩ := there_iff.1 ht
    rw [hnd]
    exact f119_ok y.kids (by have := hs.kids y (List.mem_of_getElem? hy); omega) k
  obtain ⟨l, m⟩ := f
  obtain ⟨a1, a2, a3, a4, a5, a6, a7, a8, a9, a10⟩ := x
  unfold hungN
  simp only at h49 h56 h57 hx ⊢
  refine FnOK.startC (rvs := [.tmp 4]) G G_good Tryz.func98 rfl Tryz.ntmps98 rfl rfl ?_; delta List.toArray; (with_reducible ((conv => whnf); (conv => congr <;> reduce); repeat ((first | refine hK ?_ | refine sK ?_); (conv => whnf); (conv => congr <;> reduce))))
  refine IdxK.mk k (eNode _) rfl (node_get hx) ?_; (with_reducible ((conv => whnf); (conv => congr <;> reduce); repeat ((first | refine hK ?_ | refine sK ?_); (conv => whnf); (conv => congr <;> reduce))))
  by_cases e6 : a6 = -1
  · repeat' (first
    | (first
    | ((with_reducible show IfK _ _ _ _); first | refine IfK.ff ?_ | refine IfK.tt ?_ | refine IfK.no (by first | rfl | assumption | exact nfA | exact ntA | ((try simp only [castN]); first | simp [e6] <;> omega)) ?_ | refine IfK.yes (by first | rfl | assumption | exact nfA | exact ntA | ((try simp only [castN]); first | simp [e6] <;> omega)) ?_)
    | ((with_reducible show NeedK _ _ _ _); refine nK ?_)
    | ((with_reducible show DrawK _ _ _ _); refine dK ?_)) <;> (with_reducible ((conv => whnf); (conv => congr <;> reduce); repeat ((first | refine hK ?_ | refine sK ?_); (conv => whnf); (conv => congr <;> reduce))))
    | ((with_reducible show (_ ∧ _) ∧ _ ∧ _); refine ⟨⟨rfl, rfl⟩, ?_, ?_⟩ <;> with_reducible ((conv => whnf) <;> repeat' (first | exact trivial | (refine And.intro ?_ ?_ <;> (conv => whnf))))))
    all_goals simp [e6]
  · refine IfK.no (by simp [e6]) ?_; (with_reducible ((conv => whnf); (conv => congr <;> reduce); repeat ((first | refine hK ?_ | refine sK ?_); (conv => whnf); (conv => congr <;> reduce))))
    have rest : ∀ b : Bool, (decide (a1 = 1) || decide (a1 = 2)) = b → (b = false ∨ b = true) := fun b _ => by cases b <;> simp
    cases ht : thereN l a6 with
    | false =>
      by_cases e1 : a1 = 1
      · repeat' (first
    | (first
    | ((with_reducible show IfK _ _ _ _); first | refine IfK.ff ?_ | refine IfK.tt ?_ | refine IfK.no (by first | rfl | assumption | exact nfA | exact ntA | ((try simp only [castN]); first | simp [e1, ht, eq_false e6] <;> omega)) ?_ | refine IfK.yes (by first | rfl | assumption | exact nfA | exact ntA | ((try simp only [castN]); first | simp [e1, ht, eq_false e6] <;> omega)) ?_)
    | ((with_reducible show NeedK _ _ _ _); refine nK ?_)
    | ((with_reducible show DrawK _ _ _ _); refine dK ?_)
    | ((with_reducible show CallK _ _ 117 _ _ _ _); refine CallK.lit [] h49 c117 ⟨⟨rfl, rfl, trivial⟩, rfl, trivial⟩ rfl rfl ?_)) <;> (with_reducible ((conv => whnf); (conv => congr <;> reduce); repeat ((first | refine hK ?_ | refine sK ?_); (conv => whnf); (conv => congr <;> reduce))))
    | ((with_reducible show (_ ∧ _) ∧ _ ∧ _); refine ⟨⟨rfl, rfl⟩, ?_, ?_⟩ <;> with_reducible ((conv => whnf) <;> repeat' (first | exact trivial | (refine And.intro ?_ ?_ <;> (conv => whnf))))))
        all_goals simp [e1, ht, e6]
      · by_cases e2 : a1 = 2
        · repeat' (first
    | (first
    | ((with_reducible show IfK _ _ _ _); first | refine IfK.ff ?_ | refine IfK.tt ?_ | refine IfK.no (by first | rfl | assumption | exact nfA | exact ntA | ((try simp only [castN]); first | simp [e2, ht, eq_false e6] <;> omega)) ?_ | refine IfK.yes (by first | rfl | assumption | exact nfA | exact ntA | ((try simp only [castN]); first | simp [e2, ht, eq_false e6] <;> omega)) ?_)
    | ((with_reducible show NeedK _ _ _ _); refine nK ?_)
    | ((with_reducible show DrawK _ _ _ _); refine dK ?_)
    | ((with_reducible show CallK _ _ 117 _ _ _ _); refine CallK.lit [] h49 c117 ⟨⟨rfl, rfl, trivial⟩, rfl, trivial⟩ rfl rfl ?_)) <;> (with_reducible ((conv => whnf); (conv => congr <;> reduce); repeat ((first | refine hK ?_ | refine sK ?_); (conv => whnf); (conv => congr <;> reduce))))
    | ((with_reducible show (_ ∧ _) ∧ _ ∧ _); refine ⟨⟨rfl, rfl⟩, ?_, ?_⟩ <;> with_reducible ((conv => whnf) <;> repeat' (first | exact trivial | (refine And.intro ?_ ?_ <;> (conv => whnf))))))
          all_goals simp [e2, ht, e6]
        · repeat' (first
    | (first
    | ((with_reducible show IfK _ _ _ _); first | refine IfK.ff ?_ | refine IfK.tt ?_ | refine IfK.no (by first | rfl | assumption | exact nfA | exact ntA | ((try simp only [castN]); first | simp [eq_false e1, eq_false e2, ht, eq_false e6] <;> omega)) ?_ | refine IfK.yes (by first | rfl | assumption | exact nfA | exact ntA | ((try simp only [castN]); first | simp [eq_false e1, eq_false e2, ht, eq_false e6] <;> omega)) ?_)
    | ((with_reducible show NeedK _ _ _ _); refine nK ?_)
    | ((with_reducible show DrawK _ _ _ _); refine dK ?_)) <;> (with_reducible ((conv => whnf); (conv => congr <;> reduce); repeat ((first | refine hK ?_ | refine sK ?_); (conv => whnf); (conv => congr <;> reduce))))
    | ((with_reducible show (_ ∧ _) ∧ _ ∧ _); refine ⟨⟨rfl, rfl⟩, ?_, ?_⟩ <;> with_reducible ((conv => whnf) <;> repeat' (first | exact trivial | (refine And.intro ?_ ?_ <;> (conv => whnf))))))
          all_goals simp [e1, e2, ht, e6]
    | true =>
      obtain ⟨i, y, rfl, hy, hnd⟩ := there_iff.1 ht
      have h57' := h57 ht
      rw [hnd] at h56 h57' ⊢
      obtain ⟨b1, b2, b3, b4, b5, b6, b7, b8, b9, b10⟩ := y
      simp only at h56 h57'
      cases hh : holdK b1 with
      | false =>
        by_cases e1 : a1 = 1
        · repeat' (first
    | (first
    | ((with_reducible show IfK _ _ _ _); first | refine IfK.ff ?_ | refine IfK.tt ?_ | refine IfK.no (by first | rfl | assumption | exact nfA | exact ntA | ((try simp only [castN]); first | simp [e1, ht, hh, eq_false e6] <;> omega)) ?_ | refine IfK.yes (by first | rfl | assumption | exact nfA | exact ntA | ((try simp only [castN]); first | simp [e1, ht, hh, eq_false e6] <;> omega)) ?_)
    | ((with_reducible show NeedK _ _ _ _); refine nK ?_)
    | ((with_reducible show DrawK _ _ _ _); refine dK ?_)
    | ((with_reducible show CallK _ _ 117 _ _ _ _); refine CallK.lit [] h49 c117 ⟨⟨rfl, rfl, trivial⟩, rfl, trivial⟩ rfl rfl ?_)
    | ((with_reducible show CallK _ _ 118 _ _ _ _); refine CallK.lit [] h56 c118 ⟨rfl, trivial⟩ rfl rfl ?_)
    | (refine IdxK.mk i (eNode _) rfl (node_get hy) ?_)) <;> (with_reducible ((conv => whnf); (conv => congr <;> reduce); repeat ((first | refine hK ?_ | refine sK ?_); (conv => whnf); (conv => congr <;> reduce))))
    | ((with_reducible show (_ ∧ _) ∧ _ ∧ _); refine ⟨⟨rfl, rfl⟩, ?_, ?_⟩ <;> with_reducible ((conv => whnf) <;> repeat' (first | exact trivial | (refine And.intro ?_ ?_ <;> (conv => whnf))))))
          all_goals simp [e1, ht, e6, hh]
        · by_cases e2 : a1 = 2
          · repeat' (first
    | (first
    | ((with_reducible show IfK _ _ _ _); first | refine IfK.ff ?_ | refine IfK.tt ?_ | refine IfK.no (by first | rfl | assumption | exact nfA | exact ntA | ((try simp only [castN]); first | simp [e2, ht, hh, eq_false e6] <;> omega)) ?_ | refine IfK.yes (by first | rfl | assumption | exact nfA | exact ntA | ((try simp only [castN]); first | simp [e2, ht, hh, eq_false e6] <;> omega)) ?_)
    | ((with_reducible show NeedK _ _ _ _); refine nK ?_)
    | ((with_reducible show DrawK _ _ _ _); refine dK ?_)
    | ((with_reducible show CallK _ _ 117 _ _ _ _); refine CallK.lit [] h49 c117 ⟨⟨rfl, rfl, trivial⟩, rfl, trivial⟩ rfl rfl ?_)
    | ((with_reducible show CallK _ _ 118 _ _ _ _); refine CallK.lit [] h56 c118 ⟨rfl, trivial⟩ rfl rfl ?_)
    | (refine IdxK.mk i (eNode _) rfl (node_get hy) ?_)) <;> (with_reducible ((conv => whnf); (conv => congr <;> reduce); repeat ((first | refine hK ?_ | refine sK ?_); (conv => whnf); (conv => congr <;> reduce))))
    | ((with_reducible show (_ ∧ _) ∧ _ ∧ _); refine ⟨⟨rfl, rfl⟩, ?_, ?_⟩ <;> with_reducible ((conv => whnf) <;> repeat' (first | exact trivial | (refine And.intro ?_ ?_ <;> (conv => whnf))))))
            all_goals simp [e2, ht, e6, hh]
          · repeat' (first
    | (first
    | ((with_reducible show IfK _ _ _ _); first | refine IfK.ff ?_ | refine IfK.tt ?_ | refine IfK.no (by first | rfl | assumption | exact nfA | exact ntA | ((try simp only [castN]); first | simp [eq_false e1, eq_false e2, ht, hh, eq_false e6] <;> omega)) ?_ | refine IfK.yes (by first | rfl | assumption | exact nfA | exact ntA | ((try simp only [castN]); first | simp [eq_false e1, eq_false e2, ht, hh, eq_false e6] <;> omega)) ?_)
    | ((with_reducible show NeedK _ _ _ _); refine nK ?_)
    | ((with_reducible show DrawK _ _ _ _); refine dK ?_)) <;> (with_reducible ((conv => whnf); (conv => congr <;> reduce); repeat ((first | refine hK ?_ | refine sK ?_); (conv => whnf); (conv => congr <;> reduce))))
    | ((with_reducible show (_ ∧ _) ∧ _ ∧ _); refine ⟨⟨rfl, rfl⟩, ?_, ?_⟩ <;> with_reducible ((conv => whnf) <;> repeat' (first | exact trivial | (refine And.intro ?_ ?_ <;> (conv => whnf))))))
            all_goals simp [e1, e2, ht, e6]
      | true =>
        by_cases e1 : a1 = 1
        · repeat' (first
    | (first
    | ((with_reducible show IfK _ _ _ _); first | refine IfK.ff ?_ | refine IfK.tt ?_ | refine IfK.no (by first | rfl | assumption | exact nfA | exact ntA | ((try simp only [castN]); first | simp [e1, ht, hh, eq_false e6] <;> omega)) ?_ | refine IfK.yes (by first | rfl | assumption | exact nfA | exact ntA | ((try simp only [castN]); first | simp [e1, ht, hh, eq_false e6] <;> omega)) ?_)
    | ((with_reducible show NeedK _ _ _ _); refine nK ?_)
    | ((with_reducible show DrawK _ _ _ _); refine dK ?_)
    | ((with_reducible show CallK _ _ 117 _ _ _ _); refine CallK.lit [] h49 c117 ⟨⟨rfl, rfl, trivial⟩, rfl, trivial⟩ rfl rfl ?_)
    | ((with_reducible show CallK _ _ 118 _ _ _ _); refine CallK.lit [] h56 c118 ⟨rfl, trivial⟩ rfl rfl ?_)
    | ((with_reducible show CallK _ _ 119 _ _ _ _); refine CallK.lit [] h57' c119 ⟨rfl, rfl, trivial⟩ rfl rfl ?_)
    | (refine IdxK.mk i (eNode _) rfl (node_get hy) ?_)) <;> (with_reducible ((conv => whnf); (conv => congr <;> reduce); repeat ((first | refine hK ?_ | refine sK ?_); (conv => whnf); (conv => congr <;> reduce))))
    | ((with_reducible show (_ ∧ _) ∧ _ ∧ _); refine ⟨⟨rfl, rfl⟩, ?_, ?_⟩ <;> with_reducible ((conv => whnf) <;> repeat' (first | exact trivial | (refine And.intro ?_ ?_ <;> (conv => whnf))))))
          all_goals simp [e1, ht, e6, hh]
        · by_cases e2 : a1 = 2
          · repeat' (first
    | (first
    | ((with_reducible show IfK _ _ _ _); first | refine IfK.ff ?_ | refine IfK.tt ?_ | refine IfK.no (by first | rfl | assumption | exact nfA | exact ntA | ((try simp only [castN]); first | simp [e2, ht, hh, eq_false e6] <;> omega)) ?_ | refine IfK.yes (by first | rfl | assumption | exact nfA | exact ntA | ((try simp only [castN]); first | simp [e2, ht, hh, eq_false e6] <;> omega)) ?_)
    | ((with_reducible show NeedK _ _ _ _); refine nK ?_)
    | ((with_reducible show DrawK _ _ _ _); refine dK ?_)
    | ((with_reducible show CallK _ _ 117 _ _ _ _); refine CallK.lit [] h49 c117 ⟨⟨rfl, rfl, trivial⟩, rfl, trivial⟩ rfl rfl ?_)
    | ((with_reducible show CallK _ _ 118 _ _ _ _); refine CallK.lit [] h56 c118 ⟨rfl, trivial⟩ rfl rfl ?_)
    | ((with_reducible show CallK _ _ 119 _ _ _ _); refine CallK.lit [] h57' c119 ⟨rfl, rfl, trivial⟩ rfl rfl ?_)
    | (refine IdxK.mk i (eNode _) rfl (node_get hy) ?_)) <;> (with_reducible ((conv => whnf); (conv => congr <;> reduce); repeat ((first | refine hK ?_ | refine sK ?_); (conv => whnf); (conv => congr <;> reduce))))
    | ((with_reducible show (_ ∧ _) ∧ _ ∧ _); refine ⟨⟨rfl, rfl⟩, ?_, ?_⟩ <;> with_reducible ((conv => whnf) <;> repeat' (first | exact trivial | (refine And.intro ?_ ?_ <;> (conv => whnf))))))
            all_goals simp [e2, ht, e6, hh]
          · repeat' (first
    | (first
    | ((with_reducible show IfK _ _ _ _); first | refine IfK.ff ?_ | refine IfK.tt ?_ | refine IfK.no (by first | rfl | assumption | exact nfA | exact ntA | ((try simp only [castN]); first | simp [eq_false e1, eq_false e2, ht, hh, eq_false e6] <;> omega)) ?_ | refine IfK.yes (by first | rfl | assumption | exact nfA | exact ntA | ((try simp only [castN]); first | simp [eq_false e1, eq_false e2, ht, hh, eq_false e6] <;> omega)) ?_)
    | ((with_reducible show NeedK _ _ _ _); refine nK ?_)
    | ((with_reducible show DrawK _ _ _ _); refine dK ?_)) <;> (with_reducible ((conv => whnf); (conv => congr <;> reduce); repeat ((first | refine hK ?_ | refine sK ?_); (conv => whnf); (conv => congr <;> reduce))))
    | ((with_reducible show (_ ∧ _) ∧ _ ∧ _); refine ⟨⟨rfl, rfl⟩, ?_, ?_⟩ <;> with_reducible ((conv => whnf) <;> repeat' (first | exact trivial | (refine And.intro ?_ ?_ <;> (conv => whnf))))))
            all_goals simp [e1, e2, ht, e6]
theorem endsN_succ (l : List NodeM) (m : Nat) (n : Int) : endsN l (m + 1) n = if upN (nd l n) = -1 then true else endsN l m (upN (nd l n)) := rfl
set_option maxHeartbeats 4000000 in
theorem f101_ok (f : ForM) (hl : f.nodes.length ≤ 100000) (hup : ∀ (k : Nat) (x : NodeM), f.nodes[k]? = some x → upN x = -1 ∨ thereN f.nodes (upN x) = true) (k : Nat) (hk : k < f.nodes.length) : FnOK Tryz.prog 101 [] [eFor f, eInt k] [] (eBool (endsN f.nodes f.nodes.length k)) := by
  have h58 := f120_ok f
  obtain ⟨l, m⟩ := f
  simp only at h58 hup hk hl ⊢
  have hlm : (l.map oNode).length = l.length := List.length_map ..
  refine FnOK.startC (rvs := [.tmp 4]) G G_good Tryz.func101 rfl Tryz.ntmps101 rfl rfl ?_; delta List.toArray; (with_reducible ((conv => whnf); (conv => congr <;> reduce); repeat ((first | refine hK ?_ | refine sK ?_); (conv => whnf); (conv => congr <;> reduce))))
  refine LoopK.use G G_good (fun (i : Nat × Nat) => [(1, eInt i.2), (2, .ptr 20 0 0), (8, eInt l.length), (9, eInt i.1)]) (fun _ => [(20, .live 2 [eFor ⟨l, m⟩] false)]) (fun i => i.1 ≤ l.length ∧ i.2 < l.length ∧ endsN l l.length k = endsN l (l.length - i.1) i.2) (fun i => l.length - i.1) (0, k) ⟨Nat.zero_le _, hk, rfl⟩
    ⟨⟨rfl, rfl⟩, ⟨rfl, ⟨rfl, rfl⟩, by show (l.length : Int) = ((l.map oNode).length : Int); rw [hlm], rfl, trivial⟩, ⟨⟨rfl, rfl, trivial⟩, trivial⟩, trivial⟩ ?_
  rintro ⟨i, j⟩ ⟨hi, hj, he⟩
  simp only at hi hj he
  (with_reducible ((conv => whnf); (conv => congr <;> reduce); repeat ((first | refine hK ?_ | refine sK ?_); (conv => whnf); (conv => congr <;> reduce))))
  refine IfK.mk (fun h1 => ?_) (fun h1 => ?_) <;> (try simp only [castN] at h1) <;> (with_reducible ((conv => whnf); (conv => congr <;> reduce); repeat ((first | refine hK ?_ | refine sK ?_); (conv => whnf); (conv => congr <;> reduce))))
  · have hi' : i < l.length := by simp only [decide_eq_true_eq] at h1; omega
    obtain ⟨x, hx⟩ : ∃ x, l[j]? = some x := ⟨_, List.getElem?_eq_getElem hj⟩
    have h58' := h58 j x hx
    refine CallK.lit [] h58' c120 ⟨⟨rfl, rfl, trivial⟩, rfl, trivial⟩ rfl rfl ?_; (with_reducible ((conv => whnf); (conv => congr <;> reduce); repeat ((first | refine hK ?_ | refine sK ?_); (conv => whnf); (conv => congr <;> reduce))))
    rw [show l.length - i = (l.length - (i + 1)) + 1 from by omega] at he
    rw [endsN_succ, nd_get hx] at he
    by_cases e : upN x = -1
    · rw [if_pos e] at he
      repeat' (first
    | (first
    | ((with_reducible show IfK _ _ _ _); first | refine IfK.ff ?_ | refine IfK.tt ?_ | refine IfK.no (by first | rfl | assumption | exact nfA | exact ntA | ((try simp only [castN]); first | simp [e] <;> omega)) ?_ | refine IfK.yes (by first | rfl | assumption | exact nfA | exact ntA | ((try simp only [castN]); first | simp [e] <;> omega)) ?_)
    | ((with_reducible show NeedK _ _ _ _); refine nK ?_)
    | ((with_reducible show DrawK _ _ _ _); refine dK ?_)) <;> (with_reducible ((conv => whnf); (conv => congr <;> reduce); repeat ((first | refine hK ?_ | refine sK ?_); (conv => whnf); (conv => congr <;> reduce))))
    | ((with_reducible show (_ ∧ _) ∧ _ ∧ _); refine ⟨⟨rfl, rfl⟩, ?_, ?_⟩ <;> with_reducible ((conv => whnf) <;> repeat' (first | exact trivial | (refine And.intro ?_ ?_ <;> (conv => whnf))))))
      all_goals rw [he]
    · rw [if_neg e] at he
      rcases hup j x hx with h | h
      · exact absurd h e
      obtain ⟨j', y, hj1, hj2, _⟩ := there_iff.1 h
      rw [hj1] at he
      have hlt := (List.getElem?_eq_some_iff.1 hj2).1
      refine IfK.no (decide_eq_false e) ?_; (with_reducible ((conv => whnf); (conv => congr <;> reduce); repeat ((first | refine hK ?_ | refine sK ?_); (conv => whnf); (conv => congr <;> reduce))))
      refine nK ?_; (with_reducible ((conv => whnf); (conv => congr <;> reduce); repeat ((first | refine hK ?_ | refine sK ?_); (conv => whnf); (conv => congr <;> reduce))))
      refine NextK.mk (i + 1, j') ⟨by show i + 1 ≤ l.length; omega, hlt, he⟩ (by show l.length - (i + 1) < l.length - i; omega) ⟨⟨rfl, rfl⟩, ⟨hj1.symm, ⟨rfl, rfl⟩, rfl, by show ((i + 1 : Nat) : Int) = (i : Int) + 1; omega, trivial⟩, ⟨⟨rfl, rfl, trivial⟩, trivial⟩, trivial⟩
  · refine ⟨⟨rfl, rfl⟩, ?_, ?_⟩ <;> with_reducible ((conv => whnf) <;> repeat' (first | exact trivial | (refine And.intro ?_ ?_ <;> (conv => whnf))))
    have : i = l.length := by simp only [decide_eq_false_iff_not] at h1; omega
    rw [he, this, Nat.sub_self]; rfl
end Go.Proofs.Heir
end
section
set_option linter.unusedSimpArgs false
set_option linter.unusedVariables false
namespace Go.Proofs.Heir
open Go Go.Am Go.RowKit Go.Lib
set_option maxRecDepth 100000
theorem is_there {l : List NodeM} {n k : Int} (h : isN l n k = true) : ∃ (i : Nat) (x : NodeM), n = (i : Int) ∧ l[i]? = some x ∧ nd l n = x := by
  unfold isN at h
  simp only [Bool.and_eq_true] at h
  exact there_iff.1 h.1
set_option maxHeartbeats 16000000 in
theorem f100_ok (f : ForM) (k : Nat) (x : NodeM) (hx : f.nodes[k]? = some x) : FnOK Tryz.prog 100 [] [eFor f, eInt k] [] (eBool (shadedN f.nodes k x)) := by
  have h1 := f116_ok f x.host 1
  have h4 := f116_ok f x.under 4
  obtain ⟨l, m⟩ := f
  obtain ⟨a1, a2, a3, a4, a5, a6, a7, a8, a9, a10⟩ := x
  unfold shadedN
  simp only at h1 h4 hx ⊢
  refine FnOK.startC (rvs := [.tmp 4]) G G_good Tryz.func100 rfl Tryz.ntmps100 rfl rfl ?_; delta List.toArray; (with_reducible ((conv => whnf); (conv => congr <;> reduce); repeat ((first | refine hK ?_ | refine sK ?_); (conv => whnf); (conv => congr <;> reduce))))
  refine IdxK.mk k (eNode _) rfl (node_get hx) ?_; (with_reducible ((conv => whnf); (conv => congr <;> reduce); repeat ((first | refine hK ?_ | refine sK ?_); (conv => whnf); (conv => congr <;> reduce))))
  by_cases e4 : a1 = 4
  · have e1 : ¬ a1 = 1 := by omega
    refine IfK.yes (by simp [e4]) ?_; (with_reducible ((conv => whnf); (conv => congr <;> reduce); repeat ((first | refine hK ?_ | refine sK ?_); (conv => whnf); (conv => congr <;> reduce))))
    rw [if_pos e4]
    cases hi : isN l a8 1 with
    | false =>
      rw [hi] at h1
      by_cases e9 : a9 = -1
      · repeat' (first
    | (first
    | ((with_reducible show IfK _ _ _ _); first | refine IfK.ff ?_ | refine IfK.tt ?_ | refine IfK.no (by first | rfl | assumption | exact nfA | exact ntA | ((try simp only [castN]); first | simp [e4, e9] <;> omega)) ?_ | refine IfK.yes (by first | rfl | assumption | exact nfA | exact ntA | ((try simp only [castN]); first | simp [e4, e9] <;> omega)) ?_)
    | ((with_reducible show NeedK _ _ _ _); refine nK ?_)
    | ((with_reducible show DrawK _ _ _ _); refine dK ?_)
    | ((with_reducible show CallK _ _ 116 _ _ _ _); refine CallK.lit [] h1 c116 ⟨⟨rfl, rfl, trivial⟩, rfl, rfl, trivial⟩ rfl rfl ?_)) <;> (with_reducible ((conv => whnf); (conv => congr <;> reduce); repeat ((first | refine hK ?_ | refine sK ?_); (conv => whnf); (conv => congr <;> reduce))))
    | ((with_reducible show (_ ∧ _) ∧ _ ∧ _); refine ⟨⟨rfl, rfl⟩, ?_, ?_⟩ <;> with_reducible ((conv => whnf) <;> repeat' (first | exact trivial | (refine And.intro ?_ ?_ <;> (conv => whnf))))))
        all_goals simp [e9]
      · repeat' (first
    | (first
    | ((with_reducible show IfK _ _ _ _); first | refine IfK.ff ?_ | refine IfK.tt ?_ | refine IfK.no (by first | rfl | assumption | exact nfA | exact ntA | ((try simp only [castN]); first | simp [e4, eq_false e9, eq_false e1] <;> omega)) ?_ | refine IfK.yes (by first | rfl | assumption | exact nfA | exact ntA | ((try simp only [castN]); first | simp [e4, eq_false e9, eq_false e1] <;> omega)) ?_)
    | ((with_reducible show NeedK _ _ _ _); refine nK ?_)
    | ((with_reducible show DrawK _ _ _ _); refine dK ?_)
    | ((with_reducible show CallK _ _ 116 _ _ _ _); refine CallK.lit [] h1 c116 ⟨⟨rfl, rfl, trivial⟩, rfl, rfl, trivial⟩ rfl rfl ?_)) <;> (with_reducible ((conv => whnf); (conv => congr <;> reduce); repeat ((first | refine hK ?_ | refine sK ?_); (conv => whnf); (conv => congr <;> reduce))))
    | ((with_reducible show (_ ∧ _) ∧ _ ∧ _); refine ⟨⟨rfl, rfl⟩, ?_, ?_⟩ <;> with_reducible ((conv => whnf) <;> repeat' (first | exact trivial | (refine And.intro ?_ ?_ <;> (conv => whnf))))))
        all_goals simp [e9, e1]
    | true =>
      rw [hi] at h1
      obtain ⟨i, y, rfl, hy, hnd⟩ := is_there hi
      rw [hnd]
      obtain ⟨b1, b2, b3, b4, b5, b6, b7, b8, b9, b10⟩ := y
      by_cases e9 : a9 = -1
      · by_cases u9 : b9 = k
        · by_cases u10 : b10 = a10
          · repeat' (first
    | (first
    | ((with_reducible show IfK _ _ _ _); first | refine IfK.ff ?_ | refine IfK.tt ?_ | refine IfK.no (by first | rfl | assumption | exact nfA | exact ntA | ((try simp only [castN]); first | simp [e4, e9, u9, u10] <;> omega)) ?_ | refine IfK.yes (by first | rfl | assumption | exact nfA | exact ntA | ((try simp only [castN]); first | simp [e4, e9, u9, u10] <;> omega)) ?_)
    | ((with_reducible show NeedK _ _ _ _); refine nK ?_)
    | ((with_reducible show DrawK _ _ _ _); refine dK ?_)
    | ((with_reducible show CallK _ _ 116 _ _ _ _); refine CallK.lit [] h1 c116 ⟨⟨rfl, rfl, trivial⟩, rfl, rfl, trivial⟩ rfl rfl ?_)
    | (refine IdxK.mk i (eNode _) rfl (node_get hy) ?_)) <;> (with_reducible ((conv => whnf); (conv => congr <;> reduce); repeat ((first | refine hK ?_ | refine sK ?_); (conv => whnf); (conv => congr <;> reduce))))
    | ((with_reducible show (_ ∧ _) ∧ _ ∧ _); refine ⟨⟨rfl, rfl⟩, ?_, ?_⟩ <;> with_reducible ((conv => whnf) <;> repeat' (first | exact trivial | (refine And.intro ?_ ?_ <;> (conv => whnf))))))
            all_goals simp [e9, u9, u10]
          · repeat' (first
    | (first
    | ((with_reducible show IfK _ _ _ _); first | refine IfK.ff ?_ | refine IfK.tt ?_ | refine IfK.no (by first | rfl | assumption | exact nfA | exact ntA | ((try simp only [castN]); first | simp [e4, e9, u9, eq_false u10] <;> omega)) ?_ | refine IfK.yes (by first | rfl | assumption | exact nfA | exact ntA | ((try simp only [castN]); first | simp [e4, e9, u9, eq_false u10] <;> omega)) ?_)
    | ((with_reducible show NeedK _ _ _ _); refine nK ?_)
    | ((with_reducible show DrawK _ _ _ _); refine dK ?_)
    | ((with_reducible show CallK _ _ 116 _ _ _ _); refine CallK.lit [] h1 c116 ⟨⟨rfl, rfl, trivial⟩, rfl, rfl, trivial⟩ rfl rfl ?_)
    | (refine IdxK.mk i (eNode _) rfl (node_get hy) ?_)) <;> (with_reducible ((conv => whnf); (conv => congr <;> reduce); repeat ((first | refine hK ?_ | refine sK ?_); (conv => whnf); (conv => congr <;> reduce))))
    | ((with_reducible show (_ ∧ _) ∧ _ ∧ _); refine ⟨⟨rfl, rfl⟩, ?_, ?_⟩ <;> with_reducible ((conv => whnf) <;> repeat' (first | exact trivial | (refine And.intro ?_ ?_ <;> (conv => whnf))))))
            all_goals simp [e9, u9, u10]
        · repeat' (first
    | (first
    | ((with_reducible show IfK _ _ _ _); first | refine IfK.ff ?_ | refine IfK.tt ?_ | refine IfK.no (by first | rfl | assumption | exact nfA | exact ntA | ((try simp only [castN]); first | simp [e4, e9, eq_false u9] <;> omega)) ?_ | refine IfK.yes (by first | rfl | assumption | exact nfA | exact ntA | ((try simp only [castN]); first | simp [e4, e9, eq_false u9] <;> omega)) ?_)
    | ((with_reducible show NeedK _ _ _ _); refine nK ?_)
    | ((with_reducible show DrawK _ _ _ _); refine dK ?_)
    | ((with_reducible show CallK _ _ 116 _ _ _ _); refine CallK.lit [] h1 c116 ⟨⟨rfl, rfl, trivial⟩, rfl, rfl, trivial⟩ rfl rfl ?_)
    | (refine IdxK.mk i (eNode _) rfl (node_get hy) ?_)) <;> (with_reducible ((conv => whnf); (conv => congr <;> reduce); repeat ((first | refine hK ?_ | refine sK ?_); (conv => whnf); (conv => congr <;> reduce))))
    | ((with_reducible show (_ ∧ _) ∧ _ ∧ _); refine ⟨⟨rfl, rfl⟩, ?_, ?_⟩ <;> with_reducible ((conv => whnf) <;> repeat' (first | exact trivial | (refine And.intro ?_ ?_ <;> (conv => whnf))))))
          all_goals simp [e9, u9]
      · by_cases u9 : b9 = k
        · by_cases u10 : b10 = a10
          · repeat' (first
    | (first
    | ((with_reducible show IfK _ _ _ _); first | refine IfK.ff ?_ | refine IfK.tt ?_ | refine IfK.no (by first | rfl | assumption | exact nfA | exact ntA | ((try simp only [castN]); first | simp [e4, eq_false e9, eq_false e1, u9, u10] <;> omega)) ?_ | refine IfK.yes (by first | rfl | assumption | exact nfA | exact ntA | ((try simp only [castN]); first | simp [e4, eq_false e9, eq_false e1, u9, u10] <;> omega)) ?_)
    | ((with_reducible show NeedK _ _ _ _); refine nK ?_)
    | ((with_reducible show DrawK _ _ _ _); refine dK ?_)
    | ((with_reducible show CallK _ _ 116 _ _ _ _); refine CallK.lit [] h1 c116 ⟨⟨rfl, rfl, trivial⟩, rfl, rfl, trivial⟩ rfl rfl ?_)
    | (refine IdxK.mk i (eNode _) rfl (node_get hy) ?_)) <;> (with_reducible ((conv => whnf); (conv => congr <;> reduce); repeat ((first | refine hK ?_ | refine sK ?_); (conv => whnf); (conv => congr <;> reduce))))
    | ((with_reducible show (_ ∧ _) ∧ _ ∧ _); refine ⟨⟨rfl, rfl⟩, ?_, ?_⟩ <;> with_reducible ((conv => whnf) <;> repeat' (first | exact trivial | (refine And.intro ?_ ?_ <;> (conv => whnf))))))
            all_goals simp [e9, e1, u9, u10]
          · repeat' (first
    | (first
    | ((with_reducible show IfK _ _ _ _); first | refine IfK.ff ?_ | refine IfK.tt ?_ | refine IfK.no (by first | rfl | assumption | exact nfA | exact ntA | ((try simp only [castN]); first | simp [e4, eq_false e9, eq_false e1, u9, eq_false u10] <;> omega)) ?_ | refine IfK.yes (by first | rfl | assumption | exact nfA | exact ntA | ((try simp only [castN]); first | simp [e4, eq_false e9, eq_false e1, u9, eq_false u10] <;> omega)) ?_)
    | ((with_reducible show NeedK _ _ _ _); refine nK ?_)
    | ((with_reducible show DrawK _ _ _ _); refine dK ?_)
    | ((with_reducible show CallK _ _ 116 _ _ _ _); refine CallK.lit [] h1 c116 ⟨⟨rfl, rfl, trivial⟩, rfl, rfl, trivial⟩ rfl rfl ?_)
    | (refine IdxK.mk i (eNode _) rfl (node_get hy) ?_)) <;> (with_reducible ((conv => whnf); (conv => congr <;> reduce); repeat ((first | refine hK ?_ | refine sK ?_); (conv => whnf); (conv => congr <;> reduce))))
    | ((with_reducible show (_ ∧ _) ∧ _ ∧ _); refine ⟨⟨rfl, rfl⟩, ?_, ?_⟩ <;> with_reducible ((conv => whnf) <;> repeat' (first | exact trivial | (refine And.intro ?_ ?_ <;> (conv => whnf))))))
            all_goals simp [e9, e1, u9, u10]
        · repeat' (first
    | (first
    | ((with_reducible show IfK _ _ _ _); first | refine IfK.ff ?_ | refine IfK.tt ?_ | refine IfK.no (by first | rfl | assumption | exact nfA | exact ntA | ((try simp only [castN]); first | simp [e4, eq_false e9, eq_false e1, eq_false u9] <;> omega)) ?_ | refine IfK.yes (by first | rfl | assumption | exact nfA | exact ntA | ((try simp only [castN]); first | simp [e4, eq_false e9, eq_false e1, eq_false u9] <;> omega)) ?_)
    | ((with_reducible show NeedK _ _ _ _); refine nK ?_)
    | ((with_reducible show DrawK _ _ _ _); refine dK ?_)
    | ((with_reducible show CallK _ _ 116 _ _ _ _); refine CallK.lit [] h1 c116 ⟨⟨rfl, rfl, trivial⟩, rfl, rfl, trivial⟩ rfl rfl ?_)
    | (refine IdxK.mk i (eNode _) rfl (node_get hy) ?_)) <;> (with_reducible ((conv => whnf); (conv => congr <;> reduce); repeat ((first | refine hK ?_ | refine sK ?_); (conv => whnf); (conv => congr <;> reduce))))
    | ((with_reducible show (_ ∧ _) ∧ _ ∧ _); refine ⟨⟨rfl, rfl⟩, ?_, ?_⟩ <;> with_reducible ((conv => whnf) <;> repeat' (first | exact trivial | (refine And.intro ?_ ?_ <;> (conv => whnf))))))
          all_goals simp [e9, e1, u9]
  · refine IfK.no (by simp [e4]) ?_; (with_reducible ((conv => whnf); (conv => congr <;> reduce); repeat ((first | refine hK ?_ | refine sK ?_); (conv => whnf); (conv => congr <;> reduce))))
    rw [if_neg e4]
    by_cases e8 : a8 = -1
    · by_cases e9 : a9 = -1
      · repeat' (first
    | (first
    | ((with_reducible show IfK _ _ _ _); first | refine IfK.ff ?_ | refine IfK.tt ?_ | refine IfK.no (by first | rfl | assumption | exact nfA | exact ntA | ((try simp only [castN]); first | simp [eq_false e4, e8, e9] <;> omega)) ?_ | refine IfK.yes (by first | rfl | assumption | exact nfA | exact ntA | ((try simp only [castN]); first | simp [eq_false e4, e8, e9] <;> omega)) ?_)
    | ((with_reducible show NeedK _ _ _ _); refine nK ?_)
    | ((with_reducible show DrawK _ _ _ _); refine dK ?_)) <;> (with_reducible ((conv => whnf); (conv => congr <;> reduce); repeat ((first | refine hK ?_ | refine sK ?_); (conv => whnf); (conv => congr <;> reduce))))
    | ((with_reducible show (_ ∧ _) ∧ _ ∧ _); refine ⟨⟨rfl, rfl⟩, ?_, ?_⟩ <;> with_reducible ((conv => whnf) <;> repeat' (first | exact trivial | (refine And.intro ?_ ?_ <;> (conv => whnf))))))
        all_goals simp [e9, e8]
      · by_cases e1 : a1 = 1
        · cases hu : isN l a9 4 with
          | false =>
            rw [hu] at h4
            repeat' (first
    | (first
    | ((with_reducible show IfK _ _ _ _); first | refine IfK.ff ?_ | refine IfK.tt ?_ | refine IfK.no (by first | rfl | assumption | exact nfA | exact ntA | ((try simp only [castN]); first | simp [eq_false e4, e8, eq_false e9, e1] <;> omega)) ?_ | refine IfK.yes (by first | rfl | assumption | exact nfA | exact ntA | ((try simp only [castN]); first | simp [eq_false e4, e8, eq_false e9, e1] <;> omega)) ?_)
    | ((with_reducible show NeedK _ _ _ _); refine nK ?_)
    | ((with_reducible show DrawK _ _ _ _); refine dK ?_)
    | ((with_reducible show CallK _ _ 116 _ _ _ _); refine CallK.lit [] h4 c116 ⟨⟨rfl, rfl, trivial⟩, rfl, rfl, trivial⟩ rfl rfl ?_)) <;> (with_reducible ((conv => whnf); (conv => congr <;> reduce); repeat ((first | refine hK ?_ | refine sK ?_); (conv => whnf); (conv => congr <;> reduce))))
    | ((with_reducible show (_ ∧ _) ∧ _ ∧ _); refine ⟨⟨rfl, rfl⟩, ?_, ?_⟩ <;> with_reducible ((conv => whnf) <;> repeat' (first | exact trivial | (refine And.intro ?_ ?_ <;> (conv => whnf))))))
            all_goals simp [e9, e8, e1]
          | true =>
            rw [hu] at h4
            obtain ⟨j, z, rfl, hz, hnd⟩ := is_there hu
            rw [hnd]
            obtain ⟨d1, d2, d3, d4, d5, d6, d7, d8, d9, d10⟩ := z
            repeat' (first
    | (first
    | ((with_reducible show IfK _ _ _ _); first | refine IfK.ff ?_ | refine IfK.tt ?_ | refine IfK.no (by first | rfl | assumption | exact nfA | exact ntA | ((try simp only [castN]); first | simp [eq_false e4, e8, eq_false e9, e1] <;> omega)) ?_ | refine IfK.yes (by first | rfl | assumption | exact nfA | exact ntA | ((try simp only [castN]); first | simp [eq_false e4, e8, eq_false e9, e1] <;> omega)) ?_)
    | ((with_reducible show NeedK _ _ _ _); refine nK ?_)
    | ((with_reducible show DrawK _ _ _ _); refine dK ?_)
    | ((with_reducible show CallK _ _ 116 _ _ _ _); refine CallK.lit [] h4 c116 ⟨⟨rfl, rfl, trivial⟩, rfl, rfl, trivial⟩ rfl rfl ?_)
    | (refine IdxK.mk j (eNode ⟨d1, d2, d3, d4, d5, d6, d7, d8, d9, d10⟩) rfl (node_get hz) ?_)) <;> (with_reducible ((conv => whnf); (conv => congr <;> reduce); repeat ((first | refine hK ?_ | refine sK ?_); (conv => whnf); (conv => congr <;> reduce))))
    | ((with_reducible show (_ ∧ _) ∧ _ ∧ _); refine ⟨⟨rfl, rfl⟩, ?_, ?_⟩ <;> with_reducible ((conv => whnf) <;> repeat' (first | exact trivial | (refine And.intro ?_ ?_ <;> (conv => whnf))))))
            all_goals simp [e9, e8, e1]
        · repeat' (first
    | (first
    | ((with_reducible show IfK _ _ _ _); first | refine IfK.ff ?_ | refine IfK.tt ?_ | refine IfK.no (by first | rfl | assumption | exact nfA | exact ntA | ((try simp only [castN]); first | simp [eq_false e4, e8, eq_false e9, eq_false e1] <;> omega)) ?_ | refine IfK.yes (by first | rfl | assumption | exact nfA | exact ntA | ((try simp only [castN]); first | simp [eq_false e4, e8, eq_false e9, eq_false e1] <;> omega)) ?_)
    | ((with_reducible show NeedK _ _ _ _); refine nK ?_)
    | ((with_reducible show DrawK _ _ _ _); refine dK ?_)) <;> (with_reducible ((conv => whnf); (conv => congr <;> reduce); repeat ((first | refine hK ?_ | refine sK ?_); (conv => whnf); (conv => congr <;> reduce))))
    | ((with_reducible show (_ ∧ _) ∧ _ ∧ _); refine ⟨⟨rfl, rfl⟩, ?_, ?_⟩ <;> with_reducible ((conv => whnf) <;> repeat' (first | exact trivial | (refine And.intro ?_ ?_ <;> (conv => whnf))))))
          all_goals simp [e9, e8, e1]
    · by_cases e9 : a9 = -1
      · repeat' (first
    | (first
    | ((with_reducible show IfK _ _ _ _); first | refine IfK.ff ?_ | refine IfK.tt ?_ | refine IfK.no (by first | rfl | assumption | exact nfA | exact ntA | ((try simp only [castN]); first | simp [eq_false e4, eq_false e8, e9] <;> omega)) ?_ | refine IfK.yes (by first | rfl | assumption | exact nfA | exact ntA | ((try simp only [castN]); first | simp [eq_false e4, eq_false e8, e9] <;> omega)) ?_)
    | ((with_reducible show NeedK _ _ _ _); refine nK ?_)
    | ((with_reducible show DrawK _ _ _ _); refine dK ?_)) <;> (with_reducible ((conv => whnf); (conv => congr <;> reduce); repeat ((first | refine hK ?_ | refine sK ?_); (conv => whnf); (conv => congr <;> reduce))))
    | ((with_reducible show (_ ∧ _) ∧ _ ∧ _); refine ⟨⟨rfl, rfl⟩, ?_, ?_⟩ <;> with_reducible ((conv => whnf) <;> repeat' (first | exact trivial | (refine And.intro ?_ ?_ <;> (conv => whnf))))))
        all_goals simp [e9, e8]
      · by_cases e1 : a1 = 1
        · cases hu : isN l a9 4 with
          | false =>
            rw [hu] at h4
            repeat' (first
    | (first
    | ((with_reducible show IfK _ _ _ _); first | refine IfK.ff ?_ | refine IfK.tt ?_ | refine IfK.no (by first | rfl | assumption | exact nfA | exact ntA | ((try simp only [castN]); first | simp [eq_false e4, eq_false e8, eq_false e9, e1] <;> omega)) ?_ | refine IfK.yes (by first | rfl | assumption | exact nfA | exact ntA | ((try simp only [castN]); first | simp [eq_false e4, eq_false e8, eq_false e9, e1] <;> omega)) ?_)
    | ((with_reducible show NeedK _ _ _ _); refine nK ?_)
    | ((with_reducible show DrawK _ _ _ _); refine dK ?_)
    | ((with_reducible show CallK _ _ 116 _ _ _ _); refine CallK.lit [] h4 c116 ⟨⟨rfl, rfl, trivial⟩, rfl, rfl, trivial⟩ rfl rfl ?_)) <;> (with_reducible ((conv => whnf); (conv => congr <;> reduce); repeat ((first | refine hK ?_ | refine sK ?_); (conv => whnf); (conv => congr <;> reduce))))
    | ((with_reducible show (_ ∧ _) ∧ _ ∧ _); refine ⟨⟨rfl, rfl⟩, ?_, ?_⟩ <;> with_reducible ((conv => whnf) <;> repeat' (first | exact trivial | (refine And.intro ?_ ?_ <;> (conv => whnf))))))
            all_goals simp [e9, e8, e1]
          | true =>
            rw [hu] at h4
            obtain ⟨j, z, rfl, hz, hnd⟩ := is_there hu
            rw [hnd]
            obtain ⟨d1, d2, d3, d4, d5, d6, d7, d8, d9, d10⟩ := z
            repeat' (first
    | (first
    | ((with_reducible show IfK _ _ _ _); first | refine IfK.ff ?_ | refine IfK.tt ?_ | refine IfK.no (by first | rfl | assumption | exact nfA | exact ntA | ((try simp only [castN]); first | simp [eq_false e4, eq_false e8, eq_false e9, e1] <;> omega)) ?_ | refine IfK.yes (by first | rfl | assumption | exact nfA | exact ntA | ((try simp only [castN]); first | simp [eq_false e4, eq_false e8, eq_false e9, e1] <;> omega)) ?_)
    | ((with_reducible show NeedK _ _ _ _); refine nK ?_)
    | ((with_reducible show DrawK _ _ _ _); refine dK ?_)
    | ((with_reducible show CallK _ _ 116 _ _ _ _); refine CallK.lit [] h4 c116 ⟨⟨rfl, rfl, trivial⟩, rfl, rfl, trivial⟩ rfl rfl ?_)
    | (refine IdxK.mk j (eNode ⟨d1, d2, d3, d4, d5, d6, d7, d8, d9, d10⟩) rfl (node_get hz) ?_)) <;> (with_reducible ((conv => whnf); (conv => congr <;> reduce); repeat ((first | refine hK ?_ | refine sK ?_); (conv => whnf); (conv => congr <;> reduce))))
    | ((with_reducible show (_ ∧ _) ∧ _ ∧ _); refine ⟨⟨rfl, rfl⟩, ?_, ?_⟩ <;> with_reducible ((conv => whnf) <;> repeat' (first | exact trivial | (refine And.intro ?_ ?_ <;> (conv => whnf))))))
            all_goals simp [e9, e8, e1]
        · repeat' (first
    | (first
    | ((with_reducible show IfK _ _ _ _); first | refine IfK.ff ?_ | refine IfK.tt ?_ | refine IfK.no (by first | rfl | assumption | exact nfA | exact ntA | ((try simp only [castN]); first | simp [eq_false e4, eq_false e8, eq_false e9, eq_false e1] <;> omega)) ?_ | refine IfK.yes (by first | rfl | assumption | exact nfA | exact ntA | ((try simp only [castN]); first | simp [eq_false e4, eq_false e8, eq_false e9, eq_false e1] <;> omega)) ?_)
    | ((with_reducible show NeedK _ _ _ _); refine nK ?_)
    | ((with_reducible show DrawK _ _ _ _); refine dK ?_)) <;> (with_reducible ((conv => whnf); (conv => congr <;> reduce); repeat ((first | refine hK ?_ | refine sK ?_); (conv => whnf); (conv => congr <;> reduce))))
    | ((with_reducible show (_ ∧ _) ∧ _ ∧ _); refine ⟨⟨rfl, rfl⟩, ?_, ?_⟩ <;> with_reducible ((conv => whnf) <;> repeat' (first | exact trivial | (refine And.intro ?_ ?_ <;> (conv => whnf))))))
          all_goals simp [e9, e8, e1]
end Go.Proofs.Heir
end
section
set_option linter.unusedSimpArgs false
set_option linter.unusedVariables false
namespace Go.Proofs.Heir
open Go Go.Am Go.RowKit Go.Lib
set_option maxRecDepth 100000
set_option maxHeartbeats 16000000 in
theorem f96_ok (x : NodeM) (hx : x.attrs.length ≤ 100000) : FnOK Tryz.prog 96 [] [eNode x] [] (eBool (namedN x)) := by
  have h45 := f114_ok x.name
  have h54 := f42_ok x.is
  have h44 := f115_ok x.attrs hx
  obtain ⟨a1, a2, a3, a4, a5, a6, a7, a8, a9, a10⟩ := x
  have hlm : (a5.map oAttr).length = a5.length := List.length_map ..
  unfold namedN
  simp only at h45 h54 h44 hx ⊢
  refine FnOK.startC (rvs := [.tmp 2]) G G_good Tryz.func96 rfl Tryz.ntmps96 rfl rfl ?_; delta List.toArray; (with_reducible ((conv => whnf); (conv => congr <;> reduce); repeat ((first | refine hK ?_ | refine sK ?_); (conv => whnf); (conv => congr <;> reduce))))
  by_cases e1 : a1 = 1
  · rw [if_pos e1]
    cases hr : rightS a2 with
    | false =>
      rw [hr] at h45
      simp only [Bool.false_eq_true, if_false] at h45
      repeat' (first
    | (first
    | ((with_reducible show IfK _ _ _ _); first | refine IfK.ff ?_ | refine IfK.tt ?_ | refine IfK.no (by first | rfl | assumption | exact nfA | exact ntA | ((try simp only [castN]); first | simp [e1, hr] <;> omega)) ?_ | refine IfK.yes (by first | rfl | assumption | exact nfA | exact ntA | ((try simp only [castN]); first | simp [e1, hr] <;> omega)) ?_)
    | ((with_reducible show NeedK _ _ _ _); refine nK ?_)
    | ((with_reducible show DrawK _ _ _ _); refine dK ?_)
    | ((with_reducible show CallK _ _ 114 _ _ _ _); refine CallK.lit [] h45 c114 ⟨rfl, trivial⟩ rfl rfl ?_)) <;> (with_reducible ((conv => whnf); (conv => congr <;> reduce); repeat ((first | refine hK ?_ | refine sK ?_); (conv => whnf); (conv => congr <;> reduce))))
    | ((with_reducible show (_ ∧ _) ∧ _ ∧ _); refine ⟨⟨rfl, rfl⟩, ?_, ?_⟩ <;> with_reducible ((conv => whnf) <;> repeat' (first | exact trivial | (refine And.intro ?_ ?_ <;> (conv => whnf))))))
      all_goals simp [hr]
    | true =>
      rw [hr] at h45
      simp only [if_true] at h45
      by_cases hl : lowS a2 = a2
      · by_cases h3 : a3 = ⟨#[]⟩
        · by_cases h4 : a4 = ⟨#[]⟩
          · repeat' (first
    | (first
    | ((with_reducible show IfK _ _ _ _); first | refine IfK.ff ?_ | refine IfK.tt ?_ | refine IfK.no (by first | rfl | assumption | exact nfA | exact ntA | ((try simp only [castN]); first | simp [e1, hr, hl, h3, h4] <;> omega)) ?_ | refine IfK.yes (by first | rfl | assumption | exact nfA | exact ntA | ((try simp only [castN]); first | simp [e1, hr, hl, h3, h4] <;> omega)) ?_)
    | ((with_reducible show NeedK _ _ _ _); refine nK ?_)
    | ((with_reducible show DrawK _ _ _ _); refine dK ?_)
    | ((with_reducible show CallK _ _ 114 _ _ _ _); refine CallK.lit [] h45 c114 ⟨rfl, trivial⟩ rfl rfl ?_)
    | ((with_reducible show CallK _ _ 115 _ _ _ _); refine CallK.lit [] h44 c115 ⟨rfl, trivial⟩ rfl rfl ?_)) <;> (with_reducible ((conv => whnf); (conv => congr <;> reduce); repeat ((first | refine hK ?_ | refine sK ?_); (conv => whnf); (conv => congr <;> reduce))))
    | ((with_reducible show (_ ∧ _) ∧ _ ∧ _); refine ⟨⟨rfl, rfl⟩, ?_, ?_⟩ <;> with_reducible ((conv => whnf) <;> repeat' (first | exact trivial | (refine And.intro ?_ ?_ <;> (conv => whnf))))))
            all_goals simp [hr, hl, h3, h4]
          · repeat' (first
    | (first
    | ((with_reducible show IfK _ _ _ _); first | refine IfK.ff ?_ | refine IfK.tt ?_ | refine IfK.no (by first | rfl | assumption | exact nfA | exact ntA | ((try simp only [castN]); first | simp [e1, hr, hl, h3, eq_false h4] <;> omega)) ?_ | refine IfK.yes (by first | rfl | assumption | exact nfA | exact ntA | ((try simp only [castN]); first | simp [e1, hr, hl, h3, eq_false h4] <;> omega)) ?_)
    | ((with_reducible show NeedK _ _ _ _); refine nK ?_)
    | ((with_reducible show DrawK _ _ _ _); refine dK ?_)
    | ((with_reducible show CallK _ _ 114 _ _ _ _); refine CallK.lit [] h45 c114 ⟨rfl, trivial⟩ rfl rfl ?_)) <;> (with_reducible ((conv => whnf); (conv => congr <;> reduce); repeat ((first | refine hK ?_ | refine sK ?_); (conv => whnf); (conv => congr <;> reduce))))
    | ((with_reducible show (_ ∧ _) ∧ _ ∧ _); refine ⟨⟨rfl, rfl⟩, ?_, ?_⟩ <;> with_reducible ((conv => whnf) <;> repeat' (first | exact trivial | (refine And.intro ?_ ?_ <;> (conv => whnf))))))
            all_goals simp [hr, hl, h3, h4]
        · cases hc : customS a3 with
          | false =>
            rw [hc] at h54
            repeat' (first
    | (first
    | ((with_reducible show IfK _ _ _ _); first | refine IfK.ff ?_ | refine IfK.tt ?_ | refine IfK.no (by first | rfl | assumption | exact nfA | exact ntA | ((try simp only [castN]); first | simp [e1, hr, hl, eq_false h3, hc] <;> omega)) ?_ | refine IfK.yes (by first | rfl | assumption | exact nfA | exact ntA | ((try simp only [castN]); first | simp [e1, hr, hl, eq_false h3, hc] <;> omega)) ?_)
    | ((with_reducible show NeedK _ _ _ _); refine nK ?_)
    | ((with_reducible show DrawK _ _ _ _); refine dK ?_)
    | ((with_reducible show CallK _ _ 114 _ _ _ _); refine CallK.lit [] h45 c114 ⟨rfl, trivial⟩ rfl rfl ?_)
    | ((with_reducible show CallK _ _ 42 _ _ _ _); refine CallK.lit [] h54 c42 ⟨rfl, trivial⟩ rfl rfl ?_)) <;> (with_reducible ((conv => whnf); (conv => congr <;> reduce); repeat ((first | refine hK ?_ | refine sK ?_); (conv => whnf); (conv => congr <;> reduce))))
    | ((with_reducible show (_ ∧ _) ∧ _ ∧ _); refine ⟨⟨rfl, rfl⟩, ?_, ?_⟩ <;> with_reducible ((conv => whnf) <;> repeat' (first | exact trivial | (refine And.intro ?_ ?_ <;> (conv => whnf))))))
            all_goals simp [hr, hl, h3, hc]
          | true =>
            rw [hc] at h54
            by_cases h4 : a4 = ⟨#[]⟩
            · repeat' (first
    | (first
    | ((with_reducible show IfK _ _ _ _); first | refine IfK.ff ?_ | refine IfK.tt ?_ | refine IfK.no (by first | rfl | assumption | exact nfA | exact ntA | ((try simp only [castN]); first | simp [e1, hr, hl, eq_false h3, hc, h4] <;> omega)) ?_ | refine IfK.yes (by first | rfl | assumption | exact nfA | exact ntA | ((try simp only [castN]); first | simp [e1, hr, hl, eq_false h3, hc, h4] <;> omega)) ?_)
    | ((with_reducible show NeedK _ _ _ _); refine nK ?_)
    | ((with_reducible show DrawK _ _ _ _); refine dK ?_)
    | ((with_reducible show CallK _ _ 114 _ _ _ _); refine CallK.lit [] h45 c114 ⟨rfl, trivial⟩ rfl rfl ?_)
    | ((with_reducible show CallK _ _ 42 _ _ _ _); refine CallK.lit [] h54 c42 ⟨rfl, trivial⟩ rfl rfl ?_)
    | ((with_reducible show CallK _ _ 115 _ _ _ _); refine CallK.lit [] h44 c115 ⟨rfl, trivial⟩ rfl rfl ?_)) <;> (with_reducible ((conv => whnf); (conv => congr <;> reduce); repeat ((first | refine hK ?_ | refine sK ?_); (conv => whnf); (conv => congr <;> reduce))))
    | ((with_reducible show (_ ∧ _) ∧ _ ∧ _); refine ⟨⟨rfl, rfl⟩, ?_, ?_⟩ <;> with_reducible ((conv => whnf) <;> repeat' (first | exact trivial | (refine And.intro ?_ ?_ <;> (conv => whnf))))))
              all_goals simp [hr, hl, h3, hc, h4]
            · repeat' (first
    | (first
    | ((with_reducible show IfK _ _ _ _); first | refine IfK.ff ?_ | refine IfK.tt ?_ | refine IfK.no (by first | rfl | assumption | exact nfA | exact ntA | ((try simp only [castN]); first | simp [e1, hr, hl, eq_false h3, hc, eq_false h4] <;> omega)) ?_ | refine IfK.yes (by first | rfl | assumption | exact nfA | exact ntA | ((try simp only [castN]); first | simp [e1, hr, hl, eq_false h3, hc, eq_false h4] <;> omega)) ?_)
    | ((with_reducible show NeedK _ _ _ _); refine nK ?_)
    | ((with_reducible show DrawK _ _ _ _); refine dK ?_)
    | ((with_reducible show CallK _ _ 114 _ _ _ _); refine CallK.lit [] h45 c114 ⟨rfl, trivial⟩ rfl rfl ?_)
    | ((with_reducible show CallK _ _ 42 _ _ _ _); refine CallK.lit [] h54 c42 ⟨rfl, trivial⟩ rfl rfl ?_)) <;> (with_reducible ((conv => whnf); (conv => congr <;> reduce); repeat ((first | refine hK ?_ | refine sK ?_); (conv => whnf); (conv => congr <;> reduce))))
    | ((with_reducible show (_ ∧ _) ∧ _ ∧ _); refine ⟨⟨rfl, rfl⟩, ?_, ?_⟩ <;> with_reducible ((conv => whnf) <;> repeat' (first | exact trivial | (refine And.intro ?_ ?_ <;> (conv => whnf))))))
              all_goals simp [hr, hl, h3, hc, h4]
      · repeat' (first
    | (first
    | ((with_reducible show IfK _ _ _ _); first | refine IfK.ff ?_ | refine IfK.tt ?_ | refine IfK.no (by first | rfl | assumption | exact nfA | exact ntA | ((try simp only [castN]); first | simp [e1, hr, eq_false hl] <;> omega)) ?_ | refine IfK.yes (by first | rfl | assumption | exact nfA | exact ntA | ((try simp only [castN]); first | simp [e1, hr, eq_false hl] <;> omega)) ?_)
    | ((with_reducible show NeedK _ _ _ _); refine nK ?_)
    | ((with_reducible show DrawK _ _ _ _); refine dK ?_)
    | ((with_reducible show CallK _ _ 114 _ _ _ _); refine CallK.lit [] h45 c114 ⟨rfl, trivial⟩ rfl rfl ?_)) <;> (with_reducible ((conv => whnf); (conv => congr <;> reduce); repeat ((first | refine hK ?_ | refine sK ?_); (conv => whnf); (conv => congr <;> reduce))))
    | ((with_reducible show (_ ∧ _) ∧ _ ∧ _); refine ⟨⟨rfl, rfl⟩, ?_, ?_⟩ <;> with_reducible ((conv => whnf) <;> repeat' (first | exact trivial | (refine And.intro ?_ ?_ <;> (conv => whnf))))))
        all_goals simp [hr, hl]
  · rw [if_neg e1]
    by_cases e2 : a1 = 2
    · rw [if_pos e2]
      by_cases hd : a4.size ≤ 200
      · by_cases h2 : a2 = ⟨#[]⟩
        · by_cases h3 : a3 = ⟨#[]⟩
          · repeat' (first
    | (first
    | ((with_reducible show IfK _ _ _ _); first | refine IfK.ff ?_ | refine IfK.tt ?_ | refine IfK.no (by first | rfl | assumption | exact nfA | exact ntA | ((try simp only [castN]); first | simp [e2, hd, h2, h3] <;> omega)) ?_ | refine IfK.yes (by first | rfl | assumption | exact nfA | exact ntA | ((try simp only [castN]); first | simp [e2, hd, h2, h3] <;> omega)) ?_)
    | ((with_reducible show NeedK _ _ _ _); refine nK ?_)
    | ((with_reducible show DrawK _ _ _ _); refine dK ?_)) <;> (with_reducible ((conv => whnf); (conv => congr <;> reduce); repeat ((first | refine hK ?_ | refine sK ?_); (conv => whnf); (conv => congr <;> reduce))))
    | ((with_reducible show (_ ∧ _) ∧ _ ∧ _); refine ⟨⟨rfl, rfl⟩, ?_, ?_⟩ <;> with_reducible ((conv => whnf) <;> repeat' (first | exact trivial | (refine And.intro ?_ ?_ <;> (conv => whnf))))))
            all_goals simp [hd, h2, h3]
          · repeat' (first
    | (first
    | ((with_reducible show IfK _ _ _ _); first | refine IfK.ff ?_ | refine IfK.tt ?_ | refine IfK.no (by first | rfl | assumption | exact nfA | exact ntA | ((try simp only [castN]); first | simp [e2, hd, h2, eq_false h3] <;> omega)) ?_ | refine IfK.yes (by first | rfl | assumption | exact nfA | exact ntA | ((try simp only [castN]); first | simp [e2, hd, h2, eq_false h3] <;> omega)) ?_)
    | ((with_reducible show NeedK _ _ _ _); refine nK ?_)
    | ((with_reducible show DrawK _ _ _ _); refine dK ?_)) <;> (with_reducible ((conv => whnf); (conv => congr <;> reduce); repeat ((first | refine hK ?_ | refine sK ?_); (conv => whnf); (conv => congr <;> reduce))))
    | ((with_reducible show (_ ∧ _) ∧ _ ∧ _); refine ⟨⟨rfl, rfl⟩, ?_, ?_⟩ <;> with_reducible ((conv => whnf) <;> repeat' (first | exact trivial | (refine And.intro ?_ ?_ <;> (conv => whnf))))))
            all_goals simp [hd, h2, h3]
        · repeat' (first
    | (first
    | ((with_reducible show IfK _ _ _ _); first | refine IfK.ff ?_ | refine IfK.tt ?_ | refine IfK.no (by first | rfl | assumption | exact nfA | exact ntA | ((try simp only [castN]); first | simp [e2, hd, eq_false h2] <;> omega)) ?_ | refine IfK.yes (by first | rfl | assumption | exact nfA | exact ntA | ((try simp only [castN]); first | simp [e2, hd, eq_false h2] <;> omega)) ?_)
    | ((with_reducible show NeedK _ _ _ _); refine nK ?_)
    | ((with_reducible show DrawK _ _ _ _); refine dK ?_)) <;> (with_reducible ((conv => whnf); (conv => congr <;> reduce); repeat ((first | refine hK ?_ | refine sK ?_); (conv => whnf); (conv => congr <;> reduce))))
    | ((with_reducible show (_ ∧ _) ∧ _ ∧ _); refine ⟨⟨rfl, rfl⟩, ?_, ?_⟩ <;> with_reducible ((conv => whnf) <;> repeat' (first | exact trivial | (refine And.intro ?_ ?_ <;> (conv => whnf))))))
          all_goals simp [hd, h2]
      · repeat' (first
    | (first
    | ((with_reducible show IfK _ _ _ _); first | refine IfK.ff ?_ | refine IfK.tt ?_ | refine IfK.no (by first | rfl | assumption | exact nfA | exact ntA | ((try simp only [castN]); first | simp [e2, eq_false hd] <;> omega)) ?_ | refine IfK.yes (by first | rfl | assumption | exact nfA | exact ntA | ((try simp only [castN]); first | simp [e2, eq_false hd] <;> omega)) ?_)
    | ((with_reducible show NeedK _ _ _ _); refine nK ?_)
    | ((with_reducible show DrawK _ _ _ _); refine dK ?_)) <;> (with_reducible ((conv => whnf); (conv => congr <;> reduce); repeat ((first | refine hK ?_ | refine sK ?_); (conv => whnf); (conv => congr <;> reduce))))
    | ((with_reducible show (_ ∧ _) ∧ _ ∧ _); refine ⟨⟨rfl, rfl⟩, ?_, ?_⟩ <;> with_reducible ((conv => whnf) <;> repeat' (first | exact trivial | (refine And.intro ?_ ?_ <;> (conv => whnf))))))
        all_goals simp [hd]
    · rw [if_neg e2]
      by_cases ho : a1 = 0 ∨ a1 = 3 ∨ a1 = 4
      · rw [if_pos ho]
        by_cases h2 : a2 = ⟨#[]⟩
        · by_cases h3 : a3 = ⟨#[]⟩
          · by_cases h4 : a4 = ⟨#[]⟩
            · rcases ho with e | e | e
              · repeat' (first
    | (first
    | ((with_reducible show IfK _ _ _ _); first | refine IfK.ff ?_ | refine IfK.tt ?_ | refine IfK.no (by first | rfl | assumption | exact nfA | exact ntA | ((try simp only [castN]); first | simp [e, h2, h3, h4] <;> omega)) ?_ | refine IfK.yes (by first | rfl | assumption | exact nfA | exact ntA | ((try simp only [castN]); first | simp [e, h2, h3, h4] <;> omega)) ?_)
    | ((with_reducible show NeedK _ _ _ _); refine nK ?_)
    | ((with_reducible show DrawK _ _ _ _); refine dK ?_)) <;> (with_reducible ((conv => whnf); (conv => congr <;> reduce); repeat ((first | refine hK ?_ | refine sK ?_); (conv => whnf); (conv => congr <;> reduce))))
    | ((with_reducible show (_ ∧ _) ∧ _ ∧ _); refine ⟨⟨rfl, rfl⟩, ?_, ?_⟩ <;> with_reducible ((conv => whnf) <;> repeat' (first | exact trivial | (refine And.intro ?_ ?_ <;> (conv => whnf))))))
                all_goals simp [h2, h3, h4]
              · repeat' (first
    | (first
    | ((with_reducible show IfK _ _ _ _); first | refine IfK.ff ?_ | refine IfK.tt ?_ | refine IfK.no (by first | rfl | assumption | exact nfA | exact ntA | ((try simp only [castN]); first | simp [e, h2, h3, h4] <;> omega)) ?_ | refine IfK.yes (by first | rfl | assumption | exact nfA | exact ntA | ((try simp only [castN]); first | simp [e, h2, h3, h4] <;> omega)) ?_)
    | ((with_reducible show NeedK _ _ _ _); refine nK ?_)
    | ((with_reducible show DrawK _ _ _ _); refine dK ?_)) <;> (with_reducible ((conv => whnf); (conv => congr <;> reduce); repeat ((first | refine hK ?_ | refine sK ?_); (conv => whnf); (conv => congr <;> reduce))))
    | ((with_reducible show (_ ∧ _) ∧ _ ∧ _); refine ⟨⟨rfl, rfl⟩, ?_, ?_⟩ <;> with_reducible ((conv => whnf) <;> repeat' (first | exact trivial | (refine And.intro ?_ ?_ <;> (conv => whnf))))))
                all_goals simp [h2, h3, h4]
              · repeat' (first
    | (first
    | ((with_reducible show IfK _ _ _ _); first | refine IfK.ff ?_ | refine IfK.tt ?_ | refine IfK.no (by first | rfl | assumption | exact nfA | exact ntA | ((try simp only [castN]); first | simp [e, h2, h3, h4] <;> omega)) ?_ | refine IfK.yes (by first | rfl | assumption | exact nfA | exact ntA | ((try simp only [castN]); first | simp [e, h2, h3, h4] <;> omega)) ?_)
    | ((with_reducible show NeedK _ _ _ _); refine nK ?_)
    | ((with_reducible show DrawK _ _ _ _); refine dK ?_)) <;> (with_reducible ((conv => whnf); (conv => congr <;> reduce); repeat ((first | refine hK ?_ | refine sK ?_); (conv => whnf); (conv => congr <;> reduce))))
    | ((with_reducible show (_ ∧ _) ∧ _ ∧ _); refine ⟨⟨rfl, rfl⟩, ?_, ?_⟩ <;> with_reducible ((conv => whnf) <;> repeat' (first | exact trivial | (refine And.intro ?_ ?_ <;> (conv => whnf))))))
                all_goals simp [h2, h3, h4]
            · rcases ho with e | e | e
              · repeat' (first
    | (first
    | ((with_reducible show IfK _ _ _ _); first | refine IfK.ff ?_ | refine IfK.tt ?_ | refine IfK.no (by first | rfl | assumption | exact nfA | exact ntA | ((try simp only [castN]); first | simp [e, h2, h3, eq_false h4] <;> omega)) ?_ | refine IfK.yes (by first | rfl | assumption | exact nfA | exact ntA | ((try simp only [castN]); first | simp [e, h2, h3, eq_false h4] <;> omega)) ?_)
    | ((with_reducible show NeedK _ _ _ _); refine nK ?_)
    | ((with_reducible show DrawK _ _ _ _); refine dK ?_)) <;> (with_reducible ((conv => whnf); (conv => congr <;> reduce); repeat ((first | refine hK ?_ | refine sK ?_); (conv => whnf); (conv => congr <;> reduce))))
    | ((with_reducible show (_ ∧ _) ∧ _ ∧ _); refine ⟨⟨rfl, rfl⟩, ?_, ?_⟩ <;> with_reducible ((conv => whnf) <;> repeat' (first | exact trivial | (refine And.intro ?_ ?_ <;> (conv => whnf))))))
                all_goals simp [h2, h3, h4]
              · repeat' (first
    | (first
    | ((with_reducible show IfK _ _ _ _); first | refine IfK.ff ?_ | refine IfK.tt ?_ | refine IfK.no (by first | rfl | assumption | exact nfA | exact ntA | ((try simp only [castN]); first | simp [e, h2, h3, eq_false h4] <;> omega)) ?_ | refine IfK.yes (by first | rfl | assumption | exact nfA | exact ntA | ((try simp only [castN]); first | simp [e, h2, h3, eq_false h4] <;> omega)) ?_)
    | ((with_reducible show NeedK _ _ _ _); refine nK ?_)
    | ((with_reducible show DrawK _ _ _ _); refine dK ?_)) <;> (with_reducible ((conv => whnf); (conv => congr <;> reduce); repeat ((first | refine hK ?_ | refine sK ?_); (conv => whnf); (conv => congr <;> reduce))))
    | ((with_reducible show (_ ∧ _) ∧ _ ∧ _); refine ⟨⟨rfl, rfl⟩, ?_, ?_⟩ <;> with_reducible ((conv => whnf) <;> repeat' (first | exact trivial | (refine And.intro ?_ ?_ <;> (conv => whnf))))))
                all_goals simp [h2, h3, h4]
              · repeat' (first
    | (first
    | ((with_reducible show IfK _ _ _ _); first | refine IfK.ff ?_ | refine IfK.tt ?_ | refine IfK.no (by first | rfl | assumption | exact nfA | exact ntA | ((try simp only [castN]); first | simp [e, h2, h3, eq_false h4] <;> omega)) ?_ | refine IfK.yes (by first | rfl | assumption | exact nfA | exact ntA | ((try simp only [castN]); first | simp [e, h2, h3, eq_false h4] <;> omega)) ?_)
    | ((with_reducible show NeedK _ _ _ _); refine nK ?_)
    | ((with_reducible show DrawK _ _ _ _); refine dK ?_)) <;> (with_reducible ((conv => whnf); (conv => congr <;> reduce); repeat ((first | refine hK ?_ | refine sK ?_); (conv => whnf); (conv => congr <;> reduce))))
    | ((with_reducible show (_ ∧ _) ∧ _ ∧ _); refine ⟨⟨rfl, rfl⟩, ?_, ?_⟩ <;> with_reducible ((conv => whnf) <;> repeat' (first | exact trivial | (refine And.intro ?_ ?_ <;> (conv => whnf))))))
                all_goals simp [h2, h3, h4]
          · rcases ho with e | e | e
            · repeat' (first
    | (first
    | ((with_reducible show IfK _ _ _ _); first | refine IfK.ff ?_ | refine IfK.tt ?_ | refine IfK.no (by first | rfl | assumption | exact nfA | exact ntA | ((try simp only [castN]); first | simp [e, h2, eq_false h3] <;> omega)) ?_ | refine IfK.yes (by first | rfl | assumption | exact nfA | exact ntA | ((try simp only [castN]); first | simp [e, h2, eq_false h3] <;> omega)) ?_)
    | ((with_reducible show NeedK _ _ _ _); refine nK ?_)
    | ((with_reducible show DrawK _ _ _ _); refine dK ?_)) <;> (with_reducible ((conv => whnf); (conv => congr <;> reduce); repeat ((first | refine hK ?_ | refine sK ?_); (conv => whnf); (conv => congr <;> reduce))))
    | ((with_reducible show (_ ∧ _) ∧ _ ∧ _); refine ⟨⟨rfl, rfl⟩, ?_, ?_⟩ <;> with_reducible ((conv => whnf) <;> repeat' (first | exact trivial | (refine And.intro ?_ ?_ <;> (conv => whnf))))))
              all_goals simp [h2, h3]
            · repeat' (first
    | (first
    | ((with_reducible show IfK _ _ _ _); first | refine IfK.ff ?_ | refine IfK.tt ?_ | refine IfK.no (by first | rfl | assumption | exact nfA | exact ntA | ((try simp only [castN]); first | simp [e, h2, eq_false h3] <;> omega)) ?_ | refine IfK.yes (by first | rfl | assumption | exact nfA | exact ntA | ((try simp only [castN]); first | simp [e, h2, eq_false h3] <;> omega)) ?_)
    | ((with_reducible show NeedK _ _ _ _); refine nK ?_)
    | ((with_reducible show DrawK _ _ _ _); refine dK ?_)) <;> (with_reducible ((conv => whnf); (conv => congr <;> reduce); repeat ((first | refine hK ?_ | refine sK ?_); (conv => whnf); (conv => congr <;> reduce))))
    | ((with_reducible show (_ ∧ _) ∧ _ ∧ _); refine ⟨⟨rfl, rfl⟩, ?_, ?_⟩ <;> with_reducible ((conv => whnf) <;> repeat' (first | exact trivial | (refine And.intro ?_ ?_ <;> (conv => whnf))))))
              all_goals simp [h2, h3]
            · repeat' (first
    | (first
    | ((with_reducible show IfK _ _ _ _); first | refine IfK.ff ?_ | refine IfK.tt ?_ | refine IfK.no (by first | rfl | assumption | exact nfA | exact ntA | ((try simp only [castN]); first | simp [e, h2, eq_false h3] <;> omega)) ?_ | refine IfK.yes (by first | rfl | assumption | exact nfA | exact ntA | ((try simp only [castN]); first | simp [e, h2, eq_false h3] <;> omega)) ?_)
    | ((with_reducible show NeedK _ _ _ _); refine nK ?_)
    | ((with_reducible show DrawK _ _ _ _); refine dK ?_)) <;> (with_reducible ((conv => whnf); (conv => congr <;> reduce); repeat ((first | refine hK ?_ | refine sK ?_); (conv => whnf); (conv => congr <;> reduce))))
    | ((with_reducible show (_ ∧ _) ∧ _ ∧ _); refine ⟨⟨rfl, rfl⟩, ?_, ?_⟩ <;> with_reducible ((conv => whnf) <;> repeat' (first | exact trivial | (refine And.intro ?_ ?_ <;> (conv => whnf))))))
              all_goals simp [h2, h3]
        · rcases ho with e | e | e
          · repeat' (first
    | (first
    | ((with_reducible show IfK _ _ _ _); first | refine IfK.ff ?_ | refine IfK.tt ?_ | refine IfK.no (by first | rfl | assumption | exact nfA | exact ntA | ((try simp only [castN]); first | simp [e, eq_false h2] <;> omega)) ?_ | refine IfK.yes (by first | rfl | assumption | exact nfA | exact ntA | ((try simp only [castN]); first | simp [e, eq_false h2] <;> omega)) ?_)
    | ((with_reducible show NeedK _ _ _ _); refine nK ?_)
    | ((with_reducible show DrawK _ _ _ _); refine dK ?_)) <;> (with_reducible ((conv => whnf); (conv => congr <;> reduce); repeat ((first | refine hK ?_ | refine sK ?_); (conv => whnf); (conv => congr <;> reduce))))
    | ((with_reducible show (_ ∧ _) ∧ _ ∧ _); refine ⟨⟨rfl, rfl⟩, ?_, ?_⟩ <;> with_reducible ((conv => whnf) <;> repeat' (first | exact trivial | (refine And.intro ?_ ?_ <;> (conv => whnf))))))
            all_goals simp [h2]
          · repeat' (first
    | (first
    | ((with_reducible show IfK _ _ _ _); first | refine IfK.ff ?_ | refine IfK.tt ?_ | refine IfK.no (by first | rfl | assumption | exact nfA | exact ntA | ((try simp only [castN]); first | simp [e, eq_false h2] <;> omega)) ?_ | refine IfK.yes (by first | rfl | assumption | exact nfA | exact ntA | ((try simp only [castN]); first | simp [e, eq_false h2] <;> omega)) ?_)
    | ((with_reducible show NeedK _ _ _ _); refine nK ?_)
    | ((with_reducible show DrawK _ _ _ _); refine dK ?_)) <;> (with_reducible ((conv => whnf); (conv => congr <;> reduce); repeat ((first | refine hK ?_ | refine sK ?_); (conv => whnf); (conv => congr <;> reduce))))
    | ((with_reducible show (_ ∧ _) ∧ _ ∧ _); refine ⟨⟨rfl, rfl⟩, ?_, ?_⟩ <;> with_reducible ((conv => whnf) <;> repeat' (first | exact trivial | (refine And.intro ?_ ?_ <;> (conv => whnf))))))
            all_goals simp [h2]
          · repeat' (first
    | (first
    | ((with_reducible show IfK _ _ _ _); first | refine IfK.ff ?_ | refine IfK.tt ?_ | refine IfK.no (by first | rfl | assumption | exact nfA | exact ntA | ((try simp only [castN]); first | simp [e, eq_false h2] <;> omega)) ?_ | refine IfK.yes (by first | rfl | assumption | exact nfA | exact ntA | ((try simp only [castN]); first | simp [e, eq_false h2] <;> omega)) ?_)
    | ((with_reducible show NeedK _ _ _ _); refine nK ?_)
    | ((with_reducible show DrawK _ _ _ _); refine dK ?_)) <;> (with_reducible ((conv => whnf); (conv => congr <;> reduce); repeat ((first | refine hK ?_ | refine sK ?_); (conv => whnf); (conv => congr <;> reduce))))
    | ((with_reducible show (_ ∧ _) ∧ _ ∧ _); refine ⟨⟨rfl, rfl⟩, ?_, ?_⟩ <;> with_reducible ((conv => whnf) <;> repeat' (first | exact trivial | (refine And.intro ?_ ?_ <;> (conv => whnf))))))
            all_goals simp [h2]
      · rw [if_neg ho]
        have e0 : ¬ a1 = 0 := fun h => ho (.inl h)
        have e3 : ¬ a1 = 3 := fun h => ho (.inr (.inl h))
        have e4 : ¬ a1 = 4 := fun h => ho (.inr (.inr h))
        repeat' (first
    | (first
    | ((with_reducible show IfK _ _ _ _); first | refine IfK.ff ?_ | refine IfK.tt ?_ | refine IfK.no (by first | rfl | assumption | exact nfA | exact ntA | ((try simp only [castN]); first | simp [e0, e1, e2, e3, e4] <;> omega)) ?_ | refine IfK.yes (by first | rfl | assumption | exact nfA | exact ntA | ((try simp only [castN]); first | simp [e0, e1, e2, e3, e4] <;> omega)) ?_)
    | ((with_reducible show NeedK _ _ _ _); refine nK ?_)
    | ((with_reducible show DrawK _ _ _ _); refine dK ?_)) <;> (with_reducible ((conv => whnf); (conv => congr <;> reduce); repeat ((first | refine hK ?_ | refine sK ?_); (conv => whnf); (conv => congr <;> reduce))))
    | ((with_reducible show (_ ∧ _) ∧ _ ∧ _); refine ⟨⟨rfl, rfl⟩, ?_, ?_⟩ <;> with_reducible ((conv => whnf) <;> repeat' (first | exact trivial | (refine And.intro ?_ ?_ <;> (conv => whnf))))))
end Go.Proofs.Heir
end
section
set_option linter.unusedSimpArgs false
set_option linter.unusedVariables false
namespace Go.Proofs.Heir
open Go Go.Am Go.RowKit Go.Lib
set_option maxRecDepth 100000
def seenT (l : List Int) : List (Int × Int) := l.map fun c => (c, 1)
theorem tget_seen (c : Int) : ∀ l : List Int, tget c (seenT l) = if c ∈ l then some 1 else none
  | [] => rfl
  | a :: r => by
    show (if a = c then some 1 else tget c (seenT r)) = _
    rw [tget_seen c r]
    by_cases e : a = c
    · rw [if_pos e, if_pos (by simp [e])]
    · rw [if_neg e]
      by_cases h : c ∈ r
      · rw [if_pos h, if_pos (List.mem_cons_of_mem _ h)]
      · rw [if_neg h, if_neg (by simp [h]; exact fun e' => e e'.symm)]
theorem seen_snoc {l : List Int} {c : Int} (h : c ∉ l) : tput c 1 (seenT l) = seenT (l ++ [c]) := by
  rw [tput_new (by rw [tget_seen, if_neg h])]
  simp [seenT]
theorem take_snocI {α : Type} {l : List α} {k : Nat} {x : α} (h : l[k]? = some x) : l.take (k + 1) = l.take k ++ [x] := by
  obtain ⟨hk, rfl⟩ := List.getElem?_eq_some_iff.1 h
  rw [List.take_add_one, List.getElem?_eq_getElem hk]; rfl
theorem kids_step {l : List NodeM} {n : Int} {x : NodeM} {cs : List Int} {j : Nat} {c : Int} (h : cs[j]? = some c) : kidsOK l n x (cs.take j) (cs.drop j) = (kidOK l n x (cs.take j) c && kidsOK l n x (cs.take (j + 1)) (cs.drop (j + 1))) := by
  obtain ⟨hk, rfl⟩ := List.getElem?_eq_some_iff.1 h
  rw [List.drop_eq_getElem_cons hk, take_snocI h]
  rfl
theorem elems_step {l : List NodeM} {cs : List Int} {j : Nat} {c : Int} (h : cs[j]? = some c) : elemsN l (cs.take (j + 1)) = elemsN l (cs.take j) + if (nd l c).kind = 1 then 1 else 0 := by
  rw [take_snocI h]
  unfold elemsN
  rw [List.countP_append, List.countP_cons]; simp
theorem elems_le (l : List NodeM) (cs : List Int) (j : Nat) : elemsN l (cs.take j) ≤ j := by
  unfold elemsN
  refine Nat.le_trans List.countP_le_length ?_
  simp; omega
@[reducible] def rSeen (t : List (Int × Int)) : MS := .live 2 (tRows vInt oInt t) false
theorem noRef_seen (t : List (Int × Int)) : noRefL (tRows vInt oInt t) = true := by
  rw [noRefL_iff]; intro x hx
  obtain ⟨a, _, rfl⟩ := List.mem_map.1 hx
  rfl
set_option maxHeartbeats 16000000 in
theorem f99_ok (f : ForM) (hs : SmallN f.nodes) (k : Nat) (x : NodeM) (hx : f.nodes[k]? = some x) : FnOK Tryz.prog 99 [] [eFor f, eInt k] [] (eBool (bearsN f.nodes k x)) := by
  have h49 := f117_ok f
  have h56 := f118_ok x.kind
  have h7 := hs.kids x (List.mem_of_getElem? hx)
  have hl := hs.len
  obtain ⟨l, m⟩ := f
  have hst := fun j c => @kids_step l k x x.kids j c
  have hse := fun j c => @elems_step l x.kids j c
  unfold bearsN
  simp only at h49 h56 hx h7 hl ⊢
  obtain ⟨⟨a1, a2, a3, a4, a5, a6, a7, a8, a9, a10⟩, hx0⟩ : ∃ y, y = x := ⟨x, rfl⟩
  rw [← hx0] at hx h56 h7 hst hse ⊢
  simp only at h56 h7 hst hse ⊢
  have hlm : (a7.map oInt).length = a7.length := List.length_map ..
  refine FnOK.startC (rvs := [.tmp 4]) G G_good Tryz.func99 rfl Tryz.ntmps99 rfl rfl ?_; delta List.toArray; (with_reducible ((conv => whnf); (conv => congr <;> reduce); repeat ((first | refine hK ?_ | refine sK ?_); (conv => whnf); (conv => congr <;> reduce))))
  refine IdxK.mk k (eNode _) rfl (node_get hx) ?_; (with_reducible ((conv => whnf); (conv => congr <;> reduce); repeat ((first | refine hK ?_ | refine sK ?_); (conv => whnf); (conv => congr <;> reduce))))
  refine LoopK.use G G_good (fun (j : Nat) => [(1, eInt k), (2, .ptr 20 0 0), (5, .ptr 50 0 0), (6, .mapr 161), (7, eInt (elemsN l (a7.take j))), (18, eInts a7), (19, eInt a7.length), (20, eInt j)])
    (fun j => [(20, .live 2 [eFor ⟨l, m⟩] false), (50, .live 10 [eNode ⟨a1, a2, a3, a4, a5, a6, a7, a8, a9, a10⟩] false), (161, rSeen (seenT (a7.take j)))])
    (fun j => j ≤ a7.length ∧ kidsOK l k ⟨a1, a2, a3, a4, a5, a6, a7, a8, a9, a10⟩ [] a7 = kidsOK l k ⟨a1, a2, a3, a4, a5, a6, a7, a8, a9, a10⟩ (a7.take j) (a7.drop j)) (fun j => a7.length - j) 0 ⟨Nat.zero_le _, rfl⟩
    ⟨⟨rfl, rfl⟩, ⟨rfl, ⟨rfl, rfl⟩, ⟨rfl, rfl⟩, trivial, rfl, rfl, by show (a7.length : Int) = ((a7.map oInt).length : Int); rw [hlm], rfl, trivial⟩, ⟨⟨rfl, rfl, trivial⟩, trivial⟩, ⟨⟨rfl, rfl, rfl, rfl, rfl, rfl, rfl, rfl, rfl, rfl, trivial⟩, trivial⟩, ⟨.refl rfl, rfl⟩, trivial⟩ ?_
  rintro j ⟨hj, hok⟩
  (with_reducible ((conv => whnf); (conv => congr <;> reduce); repeat ((first | refine hK ?_ | refine sK ?_); (conv => whnf); (conv => congr <;> reduce))))
  refine IfK.mk (fun h1 => ?_) (fun h1 => ?_) <;> (try simp only [castN] at h1) <;> (with_reducible ((conv => whnf); (conv => congr <;> reduce); repeat ((first | refine hK ?_ | refine sK ?_); (conv => whnf); (conv => congr <;> reduce))))
  · have hj' : j < a7.length := by simp only [decide_eq_true_eq] at h1; omega
    obtain ⟨c, hc⟩ : ∃ c, a7[j]? = some c := ⟨_, List.getElem?_eq_getElem hj'⟩
    rw [hst j c hc] at hok
    have hse' := hse j c hc
    have hel := elems_le l a7 j
    have h49' := h49 c
    unfold kidOK at hok
    refine IdxK.mk j (eInt c) rfl (int_get hc) ?_; (with_reducible ((conv => whnf); (conv => congr <;> reduce); repeat ((first | refine hK ?_ | refine sK ?_); (conv => whnf); (conv => congr <;> reduce))))
    refine CallK.lit [] h49' c117 ⟨⟨rfl, rfl, trivial⟩, rfl, trivial⟩ rfl rfl ?_; (with_reducible ((conv => whnf); (conv => congr <;> reduce); repeat ((first | refine hK ?_ | refine sK ?_); (conv => whnf); (conv => congr <;> reduce))))
    cases ht : thereN l c with
    | false =>
      rw [ht] at hok
      simp only [Bool.false_and] at hok
      rw [hok, Bool.false_and]
      repeat' (first
    | (first
    | ((with_reducible show IfK _ _ _ _); first | refine IfK.ff ?_ | refine IfK.tt ?_ | refine IfK.no (by first | rfl | assumption | exact nfA | exact ntA | ((try simp only [castN]); first | simp [ht] <;> omega)) ?_ | refine IfK.yes (by first | rfl | assumption | exact nfA | exact ntA | ((try simp only [castN]); first | simp [ht] <;> omega)) ?_)
    | ((with_reducible show NeedK _ _ _ _); refine nK ?_)
    | ((with_reducible show DrawK _ _ _ _); refine dK ?_)) <;> (with_reducible ((conv => whnf); (conv => congr <;> reduce); repeat ((first | refine hK ?_ | refine sK ?_); (conv => whnf); (conv => congr <;> reduce))))
    | ((with_reducible show (_ ∧ _) ∧ _ ∧ _); refine ⟨⟨rfl, rfl⟩, ?_, ?_⟩ <;> with_reducible ((conv => whnf) <;> repeat' (first | exact trivial | (refine And.intro ?_ ?_ <;> (conv => whnf))))))
    | true =>
      obtain ⟨i, y, rfl, hy, hnd⟩ := there_iff.1 ht
      rw [ht, hnd] at hok
      rw [hnd] at hse'
      obtain ⟨b1, b2, b3, b4, b5, b6, b7, b8, b9, b10⟩ := y
      simp only [Bool.true_and] at hok hse'
      refine IfK.ff ?_; (with_reducible ((conv => whnf); (conv => congr <;> reduce); repeat ((first | refine hK ?_ | refine sK ?_); (conv => whnf); (conv => congr <;> reduce))))
      have hts := tget_seen (i : Int) (a7.take j)
      refine LookK.tab vInt oInt (seenT (a7.take j)) (k := (i : Int)) (zv := eInt 0) mt74 ⟨_, _, rfl⟩ key_int inj_int rfl rfl (fun z hxx => ?_) (fun hxx => ?_)
      · rw [hxx] at hts
        have hin : (i : Int) ∈ a7.take j := by by_cases h : (i : Int) ∈ a7.take j; exact h; rw [if_neg h] at hts; cases hts
        rw [if_pos hin] at hts
        cases hts
        rw [show hasI (a7.take j) (i : Int) = true from decide_eq_true hin] at hok
        simp only [Bool.not_true, Bool.false_and] at hok
        rw [hok, Bool.false_and]
        rw [show oInt 1 = eInt 1 from rfl]
        (with_reducible ((conv => whnf); (conv => congr <;> reduce); repeat ((first | refine hK ?_ | refine sK ?_); (conv => whnf); (conv => congr <;> reduce))))
        repeat' (first
    | (first
    | ((with_reducible show IfK _ _ _ _); first | refine IfK.ff ?_ | refine IfK.tt ?_ | refine IfK.no (by first | rfl | assumption | exact nfA | exact ntA | ((try simp only [castN]); first | simp [ht] <;> omega)) ?_ | refine IfK.yes (by first | rfl | assumption | exact nfA | exact ntA | ((try simp only [castN]); first | simp [ht] <;> omega)) ?_)
    | ((with_reducible show NeedK _ _ _ _); refine nK ?_)
    | ((with_reducible show DrawK _ _ _ _); refine dK ?_)) <;> (with_reducible ((conv => whnf); (conv => congr <;> reduce); repeat ((first | refine hK ?_ | refine sK ?_); (conv => whnf); (conv => congr <;> reduce))))
    | ((with_reducible show (_ ∧ _) ∧ _ ∧ _); refine ⟨⟨rfl, rfl⟩, ?_, ?_⟩ <;> with_reducible ((conv => whnf) <;> repeat' (first | exact trivial | (refine And.intro ?_ ?_ <;> (conv => whnf))))))
      · rw [hxx] at hts
        have hin : (i : Int) ∉ a7.take j := by intro h; rw [if_pos h] at hts; cases hts
        rw [show hasI (a7.take j) (i : Int) = false from decide_eq_false hin] at hok
        simp only [Bool.not_false, Bool.true_and] at hok
        (with_reducible ((conv => whnf); (conv => congr <;> reduce); repeat ((first | refine hK ?_ | refine sK ?_); (conv => whnf); (conv => congr <;> reduce))))
        by_cases e6 : b6 = k
        · by_cases e10 : b10 = a10
          · simp only [e6, e10, decide_true, Bool.true_and] at hok
            repeat' (first
    | (first
    | ((with_reducible show IfK _ _ _ _); first | refine IfK.ff ?_ | refine IfK.tt ?_ | refine IfK.no (by first | rfl | assumption | exact nfA | exact ntA | ((try simp only [castN]); first | simp [e6, e10] <;> omega)) ?_ | refine IfK.yes (by first | rfl | assumption | exact nfA | exact ntA | ((try simp only [castN]); first | simp [e6, e10] <;> omega)) ?_)
    | ((with_reducible show NeedK _ _ _ _); refine nK ?_)
    | ((with_reducible show DrawK _ _ _ _); refine dK ?_)
    | (refine IdxK.mk i (eNode _) rfl (node_get hy) ?_)) <;> (with_reducible ((conv => whnf); (conv => congr <;> reduce); repeat ((first | refine hK ?_ | refine sK ?_); (conv => whnf); (conv => congr <;> reduce))))
    | ((with_reducible show (_ ∧ _) ∧ _ ∧ _); refine ⟨⟨rfl, rfl⟩, ?_, ?_⟩ <;> with_reducible ((conv => whnf) <;> repeat' (first | exact trivial | (refine And.intro ?_ ?_ <;> (conv => whnf))))))
            refine LookK.tab vInt oInt (seenT (a7.take j)) (k := (i : Int)) (zv := eInt 0) mt74 ⟨_, _, rfl⟩ key_int inj_int rfl rfl (fun z hyy => ?_) (fun hyy => ?_)
            · rw [hxx] at hyy; cases hyy
            (with_reducible ((conv => whnf); (conv => congr <;> reduce); repeat ((first | refine hK ?_ | refine sK ?_); (conv => whnf); (conv => congr <;> reduce))))
            have hln : (seenT (a7.take j)).length ≤ j := by unfold seenT; simp; omega
            have hsn := seen_snoc hin
            rw [← take_snocI hc] at hsn
            refine nK ?_; (with_reducible ((conv => whnf); (conv => congr <;> reduce); repeat ((first | refine hK ?_ | refine sK ?_); (conv => whnf); (conv => congr <;> reduce))))
            refine PutK.tab vInt oInt (seenT (a7.take j)) (k := (i : Int)) (1 : Int) mt74 rfl key_int inj_int (by unfold maxLen; omega) rfl ?_; (with_reducible ((conv => whnf); (conv => congr <;> reduce); repeat ((first | refine hK ?_ | refine sK ?_); (conv => whnf); (conv => congr <;> reduce))))
            rw [hsn]
            refine IdxK.mk i (eNode _) rfl (node_get hy) ?_; (with_reducible ((conv => whnf); (conv => congr <;> reduce); repeat ((first | refine hK ?_ | refine sK ?_); (conv => whnf); (conv => congr <;> reduce))))
            by_cases f1 : b1 = 1
            · have hs1 : (elemsN l (a7.take (j + 1)) : Int) = elemsN l (a7.take j) + 1 := by rw [hse', if_pos f1]; rfl
              simp only [f1, decide_true, Bool.true_or, Bool.true_and] at hok
              repeat' (first
    | (first
    | ((with_reducible show IfK _ _ _ _); first | refine IfK.ff ?_ | refine IfK.tt ?_ | refine IfK.no (by first | rfl | assumption | exact nfA | exact ntA | ((try simp only [castN]); first | simp [f1] <;> omega)) ?_ | refine IfK.yes (by first | rfl | assumption | exact nfA | exact ntA | ((try simp only [castN]); first | simp [f1] <;> omega)) ?_)
    | ((with_reducible show NeedK _ _ _ _); refine nK ?_)
    | ((with_reducible show DrawK _ _ _ _); refine dK ?_)
    | ((with_reducible show NextK _ _); refine NextK.mk (j + 1) ⟨by omega, hok⟩ (by omega) ⟨⟨rfl, rfl⟩, ⟨rfl, ⟨rfl, rfl⟩, ⟨rfl, rfl⟩, trivial, hs1, rfl, rfl, by show ((j + 1 : Nat) : Int) = (j : Int) + 1; omega, trivial⟩, ⟨⟨rfl, rfl, trivial⟩, trivial⟩, ⟨⟨rfl, rfl, rfl, rfl, rfl, rfl, rfl, rfl, rfl, rfl, trivial⟩, trivial⟩, ⟨.refl (noRef_seen _), noRef_seen _⟩, trivial⟩)) <;> (with_reducible ((conv => whnf); (conv => congr <;> reduce); repeat ((first | refine hK ?_ | refine sK ?_); (conv => whnf); (conv => congr <;> reduce))))
    | ((with_reducible show (_ ∧ _) ∧ _ ∧ _); refine ⟨⟨rfl, rfl⟩, ?_, ?_⟩ <;> with_reducible ((conv => whnf) <;> repeat' (first | exact trivial | (refine And.intro ?_ ?_ <;> (conv => whnf))))))
            · have hs1 : (elemsN l (a7.take (j + 1)) : Int) = elemsN l (a7.take j) := by rw [hse', if_neg f1]; rfl
              by_cases f2 : b1 = 2
              · by_cases e0 : a1 = 0
                · have hkk : (decide (b1 = 1) || decide (b1 = 2) && decide (a1 ≠ 0)) = false := by simp [f2, e0]
                  rw [hkk, Bool.false_and] at hok
                  rw [hok, Bool.false_and]
                  repeat' (first
    | (first
    | ((with_reducible show IfK _ _ _ _); first | refine IfK.ff ?_ | refine IfK.tt ?_ | refine IfK.no (by first | rfl | assumption | exact nfA | exact ntA | ((try simp only [castN]); first | simp [eq_false f1, f2, e0] <;> omega)) ?_ | refine IfK.yes (by first | rfl | assumption | exact nfA | exact ntA | ((try simp only [castN]); first | simp [eq_false f1, f2, e0] <;> omega)) ?_)
    | ((with_reducible show NeedK _ _ _ _); refine nK ?_)
    | ((with_reducible show DrawK _ _ _ _); refine dK ?_)) <;> (with_reducible ((conv => whnf); (conv => congr <;> reduce); repeat ((first | refine hK ?_ | refine sK ?_); (conv => whnf); (conv => congr <;> reduce))))
    | ((with_reducible show (_ ∧ _) ∧ _ ∧ _); refine ⟨⟨rfl, rfl⟩, ?_, ?_⟩ <;> with_reducible ((conv => whnf) <;> repeat' (first | exact trivial | (refine And.intro ?_ ?_ <;> (conv => whnf))))))
                · have hkk : (decide (b1 = 1) || decide (b1 = 2) && decide (a1 ≠ 0)) = true := by simp [f2, e0]
                  rw [hkk, Bool.true_and] at hok
                  repeat' (first
    | (first
    | ((with_reducible show IfK _ _ _ _); first | refine IfK.ff ?_ | refine IfK.tt ?_ | refine IfK.no (by first | rfl | assumption | exact nfA | exact ntA | ((try simp only [castN]); first | simp [eq_false f1, f2, eq_false e0] <;> omega)) ?_ | refine IfK.yes (by first | rfl | assumption | exact nfA | exact ntA | ((try simp only [castN]); first | simp [eq_false f1, f2, eq_false e0] <;> omega)) ?_)
    | ((with_reducible show NeedK _ _ _ _); refine nK ?_)
    | ((with_reducible show DrawK _ _ _ _); refine dK ?_)
    | ((with_reducible show NextK _ _); refine NextK.mk (j + 1) ⟨by omega, hok⟩ (by omega) ⟨⟨rfl, rfl⟩, ⟨rfl, ⟨rfl, rfl⟩, ⟨rfl, rfl⟩, trivial, hs1, rfl, rfl, by show ((j + 1 : Nat) : Int) = (j : Int) + 1; omega, trivial⟩, ⟨⟨rfl, rfl, trivial⟩, trivial⟩, ⟨⟨rfl, rfl, rfl, rfl, rfl, rfl, rfl, rfl, rfl, rfl, trivial⟩, trivial⟩, ⟨.refl (noRef_seen _), noRef_seen _⟩, trivial⟩)) <;> (with_reducible ((conv => whnf); (conv => congr <;> reduce); repeat ((first | refine hK ?_ | refine sK ?_); (conv => whnf); (conv => congr <;> reduce))))
    | ((with_reducible show (_ ∧ _) ∧ _ ∧ _); refine ⟨⟨rfl, rfl⟩, ?_, ?_⟩ <;> with_reducible ((conv => whnf) <;> repeat' (first | exact trivial | (refine And.intro ?_ ?_ <;> (conv => whnf))))))
              · simp only [eq_false f1, eq_false f2, decide_false, Bool.false_and, Bool.or_false] at hok
                rw [hok, Bool.false_and]
                repeat' (first
    | (first
    | ((with_reducible show IfK _ _ _ _); first | refine IfK.ff ?_ | refine IfK.tt ?_ | refine IfK.no (by first | rfl | assumption | exact nfA | exact ntA | ((try simp only [castN]); first | simp [f1, f2] <;> omega)) ?_ | refine IfK.yes (by first | rfl | assumption | exact nfA | exact ntA | ((try simp only [castN]); first | simp [f1, f2] <;> omega)) ?_)
    | ((with_reducible show NeedK _ _ _ _); refine nK ?_)
    | ((with_reducible show DrawK _ _ _ _); refine dK ?_)) <;> (with_reducible ((conv => whnf); (conv => congr <;> reduce); repeat ((first | refine hK ?_ | refine sK ?_); (conv => whnf); (conv => congr <;> reduce))))
    | ((with_reducible show (_ ∧ _) ∧ _ ∧ _); refine ⟨⟨rfl, rfl⟩, ?_, ?_⟩ <;> with_reducible ((conv => whnf) <;> repeat' (first | exact trivial | (refine And.intro ?_ ?_ <;> (conv => whnf))))))
          · simp only [e6, eq_false e10, decide_true, decide_false, Bool.true_and, Bool.false_and] at hok
            rw [hok, Bool.false_and]
            repeat' (first
    | (first
    | ((with_reducible show IfK _ _ _ _); first | refine IfK.ff ?_ | refine IfK.tt ?_ | refine IfK.no (by first | rfl | assumption | exact nfA | exact ntA | ((try simp only [castN]); first | simp [e6, eq_false e10] <;> omega)) ?_ | refine IfK.yes (by first | rfl | assumption | exact nfA | exact ntA | ((try simp only [castN]); first | simp [e6, eq_false e10] <;> omega)) ?_)
    | ((with_reducible show NeedK _ _ _ _); refine nK ?_)
    | ((with_reducible show DrawK _ _ _ _); refine dK ?_)
    | (refine IdxK.mk i (eNode _) rfl (node_get hy) ?_)) <;> (with_reducible ((conv => whnf); (conv => congr <;> reduce); repeat ((first | refine hK ?_ | refine sK ?_); (conv => whnf); (conv => congr <;> reduce))))
    | ((with_reducible show (_ ∧ _) ∧ _ ∧ _); refine ⟨⟨rfl, rfl⟩, ?_, ?_⟩ <;> with_reducible ((conv => whnf) <;> repeat' (first | exact trivial | (refine And.intro ?_ ?_ <;> (conv => whnf))))))
        · simp only [eq_false e6, decide_false, Bool.false_and] at hok
          rw [hok, Bool.false_and]
          repeat' (first
    | (first
    | ((with_reducible show IfK _ _ _ _); first | refine IfK.ff ?_ | refine IfK.tt ?_ | refine IfK.no (by first | rfl | assumption | exact nfA | exact ntA | ((try simp only [castN]); first | simp [eq_false e6] <;> omega)) ?_ | refine IfK.yes (by first | rfl | assumption | exact nfA | exact ntA | ((try simp only [castN]); first | simp [eq_false e6] <;> omega)) ?_)
    | ((with_reducible show NeedK _ _ _ _); refine nK ?_)
    | ((with_reducible show DrawK _ _ _ _); refine dK ?_)
    | (refine IdxK.mk i (eNode _) rfl (node_get hy) ?_)) <;> (with_reducible ((conv => whnf); (conv => congr <;> reduce); repeat ((first | refine hK ?_ | refine sK ?_); (conv => whnf); (conv => congr <;> reduce))))
    | ((with_reducible show (_ ∧ _) ∧ _ ∧ _); refine ⟨⟨rfl, rfl⟩, ?_, ?_⟩ <;> with_reducible ((conv => whnf) <;> repeat' (first | exact trivial | (refine And.intro ?_ ?_ <;> (conv => whnf))))))
  · have hjl : j = a7.length := by simp only [decide_eq_false_iff_not] at h1; omega
    rw [hjl, List.take_length, List.drop_length] at hok
    rw [hjl, List.take_length]
    rw [hok]
    simp only [kidsOK, Bool.true_and]
    refine CallK.lit [] h56 c118 ⟨rfl, trivial⟩ rfl rfl ?_; (with_reducible ((conv => whnf); (conv => congr <;> reduce); repeat ((first | refine hK ?_ | refine sK ?_); (conv => whnf); (conv => congr <;> reduce))))
    by_cases e7 : a7.length = 0
    · have e7' : a7 = [] := List.eq_nil_of_length_eq_zero e7
      cases hh : holdK a1 with
      | false =>
        by_cases e0 : a1 = 0
        · repeat' (first
    | (first
    | ((with_reducible show IfK _ _ _ _); first | refine IfK.ff ?_ | refine IfK.tt ?_ | refine IfK.no (by first | rfl | assumption | exact nfA | exact ntA | ((try simp only [castN]); first | simp [hh, e0, e7, hlm] <;> omega)) ?_ | refine IfK.yes (by first | rfl | assumption | exact nfA | exact ntA | ((try simp only [castN]); first | simp [hh, e0, e7, hlm] <;> omega)) ?_)
    | ((with_reducible show NeedK _ _ _ _); refine nK ?_)
    | ((with_reducible show DrawK _ _ _ _); refine dK ?_)) <;> (with_reducible ((conv => whnf); (conv => congr <;> reduce); repeat ((first | refine hK ?_ | refine sK ?_); (conv => whnf); (conv => congr <;> reduce))))
    | ((with_reducible show (_ ∧ _) ∧ _ ∧ _); refine ⟨⟨rfl, rfl⟩, ?_, ?_⟩ <;> with_reducible ((conv => whnf) <;> repeat' (first | exact trivial | (refine And.intro ?_ ?_ <;> (conv => whnf))))))
          all_goals first | (simp [hh, e0, e7']; done) | ((try simp only [castN]); simp [hh, e0, e7']; omega)
        · repeat' (first
    | (first
    | ((with_reducible show IfK _ _ _ _); first | refine IfK.ff ?_ | refine IfK.tt ?_ | refine IfK.no (by first | rfl | assumption | exact nfA | exact ntA | ((try simp only [castN]); first | simp [hh, eq_false e0, e7, hlm] <;> omega)) ?_ | refine IfK.yes (by first | rfl | assumption | exact nfA | exact ntA | ((try simp only [castN]); first | simp [hh, eq_false e0, e7, hlm] <;> omega)) ?_)
    | ((with_reducible show NeedK _ _ _ _); refine nK ?_)
    | ((with_reducible show DrawK _ _ _ _); refine dK ?_)) <;> (with_reducible ((conv => whnf); (conv => congr <;> reduce); repeat ((first | refine hK ?_ | refine sK ?_); (conv => whnf); (conv => congr <;> reduce))))
    | ((with_reducible show (_ ∧ _) ∧ _ ∧ _); refine ⟨⟨rfl, rfl⟩, ?_, ?_⟩ <;> with_reducible ((conv => whnf) <;> repeat' (first | exact trivial | (refine And.intro ?_ ?_ <;> (conv => whnf))))))
          all_goals first | (simp [hh, e0, e7']; done) | ((try simp only [castN]); simp [hh, e0, e7']; omega)
      | true =>
        by_cases e0 : a1 = 0
        · repeat' (first
    | (first
    | ((with_reducible show IfK _ _ _ _); first | refine IfK.ff ?_ | refine IfK.tt ?_ | refine IfK.no (by first | rfl | assumption | exact nfA | exact ntA | ((try simp only [castN]); first | simp [hh, e0, e7, hlm] <;> omega)) ?_ | refine IfK.yes (by first | rfl | assumption | exact nfA | exact ntA | ((try simp only [castN]); first | simp [hh, e0, e7, hlm] <;> omega)) ?_)
    | ((with_reducible show NeedK _ _ _ _); refine nK ?_)
    | ((with_reducible show DrawK _ _ _ _); refine dK ?_)) <;> (with_reducible ((conv => whnf); (conv => congr <;> reduce); repeat ((first | refine hK ?_ | refine sK ?_); (conv => whnf); (conv => congr <;> reduce))))
    | ((with_reducible show (_ ∧ _) ∧ _ ∧ _); refine ⟨⟨rfl, rfl⟩, ?_, ?_⟩ <;> with_reducible ((conv => whnf) <;> repeat' (first | exact trivial | (refine And.intro ?_ ?_ <;> (conv => whnf))))))
          all_goals first | (simp [hh, e0, e7']; done) | ((try simp only [castN]); simp [hh, e0, e7']; omega)
        · repeat' (first
    | (first
    | ((with_reducible show IfK _ _ _ _); first | refine IfK.ff ?_ | refine IfK.tt ?_ | refine IfK.no (by first | rfl | assumption | exact nfA | exact ntA | ((try simp only [castN]); first | simp [hh, eq_false e0, e7, hlm] <;> omega)) ?_ | refine IfK.yes (by first | rfl | assumption | exact nfA | exact ntA | ((try simp only [castN]); first | simp [hh, eq_false e0, e7, hlm] <;> omega)) ?_)
    | ((with_reducible show NeedK _ _ _ _); refine nK ?_)
    | ((with_reducible show DrawK _ _ _ _); refine dK ?_)) <;> (with_reducible ((conv => whnf); (conv => congr <;> reduce); repeat ((first | refine hK ?_ | refine sK ?_); (conv => whnf); (conv => congr <;> reduce))))
    | ((with_reducible show (_ ∧ _) ∧ _ ∧ _); refine ⟨⟨rfl, rfl⟩, ?_, ?_⟩ <;> with_reducible ((conv => whnf) <;> repeat' (first | exact trivial | (refine And.intro ?_ ?_ <;> (conv => whnf))))))
          all_goals first | (simp [hh, e0, e7']; done) | ((try simp only [castN]); simp [hh, e0, e7']; omega)
    · have e7' : ¬ a7 = [] := fun h => e7 (by rw [h]; rfl)
      cases hh : holdK a1 with
      | false =>
        by_cases e0 : a1 = 0
        · repeat' (first
    | (first
    | ((with_reducible show IfK _ _ _ _); first | refine IfK.ff ?_ | refine IfK.tt ?_ | refine IfK.no (by first | rfl | assumption | exact nfA | exact ntA | ((try simp only [castN]); first | simp [hh, e0, e7, hlm] <;> omega)) ?_ | refine IfK.yes (by first | rfl | assumption | exact nfA | exact ntA | ((try simp only [castN]); first | simp [hh, e0, e7, hlm] <;> omega)) ?_)
    | ((with_reducible show NeedK _ _ _ _); refine nK ?_)
    | ((with_reducible show DrawK _ _ _ _); refine dK ?_)) <;> (with_reducible ((conv => whnf); (conv => congr <;> reduce); repeat ((first | refine hK ?_ | refine sK ?_); (conv => whnf); (conv => congr <;> reduce))))
    | ((with_reducible show (_ ∧ _) ∧ _ ∧ _); refine ⟨⟨rfl, rfl⟩, ?_, ?_⟩ <;> with_reducible ((conv => whnf) <;> repeat' (first | exact trivial | (refine And.intro ?_ ?_ <;> (conv => whnf))))))
          all_goals first | (simp [hh, e0, e7']; done) | ((try simp only [castN]); simp [hh, e0, e7']; omega)
        · repeat' (first
    | (first
    | ((with_reducible show IfK _ _ _ _); first | refine IfK.ff ?_ | refine IfK.tt ?_ | refine IfK.no (by first | rfl | assumption | exact nfA | exact ntA | ((try simp only [castN]); first | simp [hh, eq_false e0, e7, hlm] <;> omega)) ?_ | refine IfK.yes (by first | rfl | assumption | exact nfA | exact ntA | ((try simp only [castN]); first | simp [hh, eq_false e0, e7, hlm] <;> omega)) ?_)
    | ((with_reducible show NeedK _ _ _ _); refine nK ?_)
    | ((with_reducible show DrawK _ _ _ _); refine dK ?_)) <;> (with_reducible ((conv => whnf); (conv => congr <;> reduce); repeat ((first | refine hK ?_ | refine sK ?_); (conv => whnf); (conv => congr <;> reduce))))
    | ((with_reducible show (_ ∧ _) ∧ _ ∧ _); refine ⟨⟨rfl, rfl⟩, ?_, ?_⟩ <;> with_reducible ((conv => whnf) <;> repeat' (first | exact trivial | (refine And.intro ?_ ?_ <;> (conv => whnf))))))
          all_goals first | (simp [hh, e0, e7']; done) | ((try simp only [castN]); simp [hh, e0, e7']; omega)
      | true =>
        by_cases e0 : a1 = 0
        · repeat' (first
    | (first
    | ((with_reducible show IfK _ _ _ _); first | refine IfK.ff ?_ | refine IfK.tt ?_ | refine IfK.no (by first | rfl | assumption | exact nfA | exact ntA | ((try simp only [castN]); first | simp [hh, e0, e7, hlm] <;> omega)) ?_ | refine IfK.yes (by first | rfl | assumption | exact nfA | exact ntA | ((try simp only [castN]); first | simp [hh, e0, e7, hlm] <;> omega)) ?_)
    | ((with_reducible show NeedK _ _ _ _); refine nK ?_)
    | ((with_reducible show DrawK _ _ _ _); refine dK ?_)) <;> (with_reducible ((conv => whnf); (conv => congr <;> reduce); repeat ((first | refine hK ?_ | refine sK ?_); (conv => whnf); (conv => congr <;> reduce))))
    | ((with_reducible show (_ ∧ _) ∧ _ ∧ _); refine ⟨⟨rfl, rfl⟩, ?_, ?_⟩ <;> with_reducible ((conv => whnf) <;> repeat' (first | exact trivial | (refine And.intro ?_ ?_ <;> (conv => whnf))))))
          all_goals first | (simp [hh, e0, e7']; done) | ((try simp only [castN]); simp [hh, e0, e7']; omega)
        · repeat' (first
    | (first
    | ((with_reducible show IfK _ _ _ _); first | refine IfK.ff ?_ | refine IfK.tt ?_ | refine IfK.no (by first | rfl | assumption | exact nfA | exact ntA | ((try simp only [castN]); first | simp [hh, eq_false e0, e7, hlm] <;> omega)) ?_ | refine IfK.yes (by first | rfl | assumption | exact nfA | exact ntA | ((try simp only [castN]); first | simp [hh, eq_false e0, e7, hlm] <;> omega)) ?_)
    | ((with_reducible show NeedK _ _ _ _); refine nK ?_)
    | ((with_reducible show DrawK _ _ _ _); refine dK ?_)) <;> (with_reducible ((conv => whnf); (conv => congr <;> reduce); repeat ((first | refine hK ?_ | refine sK ?_); (conv => whnf); (conv => congr <;> reduce))))
    | ((with_reducible show (_ ∧ _) ∧ _ ∧ _); refine ⟨⟨rfl, rfl⟩, ?_, ?_⟩ <;> with_reducible ((conv => whnf) <;> repeat' (first | exact trivial | (refine And.intro ?_ ?_ <;> (conv => whnf))))))
          all_goals first | (simp [hh, e0, e7']; done) | ((try simp only [castN]); simp [hh, e0, e7']; omega)
end Go.Proofs.Heir
end
section
set_option linter.unusedSimpArgs false
set_option linter.unusedVariables false
namespace Go.Proofs.Heir
open Go Go.Am Go.RowKit Go.Lib
set_option maxRecDepth 100000
theorem allIx_no {α : Type} {p : Nat → α → Bool} {l : List α} {k : Nat} {x : α} (h : l[k]? = some x) (hp : p k x = false) : allIx p 0 l = false := by
  rw [Bool.eq_false_iff]
  intro h1
  have := allIx_iff.1 h1 k x h
  rw [Nat.zero_add, hp] at this
  cases this
theorem allIx_yes {α : Type} {p : Nat → α → Bool} {l : List α} (h : ∀ k x, l[k]? = some x → p k x = true) : allIx p 0 l = true :=
  allIx_iff.2 fun k x hx => by rw [Nat.zero_add]; exact h k x hx
set_option maxHeartbeats 16000000 in
theorem f77_ok (f : ForM) (hs : SmallN f.nodes) : FnOK Tryz.prog 77 [] [eFor f] [] (eBool (rightF f)) := by
  have hl := hs.len
  have h38 : ∀ x ∈ f.nodes, FnOK Tryz.prog 96 [] [eNode x] [] (eBool (namedN x)) := fun x hx => f96_ok x (by have := hs.attrs x hx; omega)
  have h39 := f97_ok f
  have h40 := f98_ok f hs
  have h41 := f99_ok f hs
  have h42 := f100_ok f
  have h43 : (∀ n, thereN f.nodes n = true → nodeOK f.nodes n (nd f.nodes n) = true) → ∀ k, k < f.nodes.length → FnOK Tryz.prog 101 [] [eFor f, eInt k] [] (eBool (endsN f.nodes f.nodes.length k)) := fun hN k hk => f101_ok f (by omega) (fun k x hx => by have := node_up hN k (there_get hx); rwa [nd_get hx] at this) k hk
  obtain ⟨l, m⟩ := f
  unfold rightF headOK
  simp only at hl h38 h39 h40 h41 h42 h43 ⊢
  have hlm : (l.map oNode).length = l.length := List.length_map ..
  refine FnOK.startC (rvs := [.tmp 2]) G G_good Tryz.func77 rfl Tryz.ntmps77 rfl rfl ?_; delta List.toArray; (with_reducible ((conv => whnf); (conv => congr <;> reduce); repeat ((first | refine hK ?_ | refine sK ?_); (conv => whnf); (conv => congr <;> reduce))))
  by_cases e1 : m < 1
  · have c1 : decide (1 ≤ m) = false := decide_eq_false (by omega)
    rw [c1]
    repeat' (first
    | (first
    | ((with_reducible show IfK _ _ _ _); first | refine IfK.ff ?_ | refine IfK.tt ?_ | refine IfK.no (by first | rfl | assumption | exact nfA | exact ntA | ((try simp only [castN]); first | simp [e1] <;> omega)) ?_ | refine IfK.yes (by first | rfl | assumption | exact nfA | exact ntA | ((try simp only [castN]); first | simp [e1] <;> omega)) ?_)
    | ((with_reducible show NeedK _ _ _ _); refine nK ?_)
    | ((with_reducible show DrawK _ _ _ _); refine dK ?_)) <;> (with_reducible ((conv => whnf); (conv => congr <;> reduce); repeat ((first | refine hK ?_ | refine sK ?_); (conv => whnf); (conv => congr <;> reduce))))
    | ((with_reducible show (_ ∧ _) ∧ _ ∧ _); refine ⟨⟨rfl, rfl⟩, ?_, ?_⟩ <;> with_reducible ((conv => whnf) <;> repeat' (first | exact trivial | (refine And.intro ?_ ?_ <;> (conv => whnf))))))
    all_goals simp
  by_cases e2 : 400 < m
  · have c1 : decide (m ≤ 400) = false := decide_eq_false (by omega)
    rw [c1]
    repeat' (first
    | (first
    | ((with_reducible show IfK _ _ _ _); first | refine IfK.ff ?_ | refine IfK.tt ?_ | refine IfK.no (by first | rfl | assumption | exact nfA | exact ntA | ((try simp only [castN]); first | simp [eq_false e1, e2] <;> omega)) ?_ | refine IfK.yes (by first | rfl | assumption | exact nfA | exact ntA | ((try simp only [castN]); first | simp [eq_false e1, e2] <;> omega)) ?_)
    | ((with_reducible show NeedK _ _ _ _); refine nK ?_)
    | ((with_reducible show DrawK _ _ _ _); refine dK ?_)) <;> (with_reducible ((conv => whnf); (conv => congr <;> reduce); repeat ((first | refine hK ?_ | refine sK ?_); (conv => whnf); (conv => congr <;> reduce))))
    | ((with_reducible show (_ ∧ _) ∧ _ ∧ _); refine ⟨⟨rfl, rfl⟩, ?_, ?_⟩ <;> with_reducible ((conv => whnf) <;> repeat' (first | exact trivial | (refine And.intro ?_ ?_ <;> (conv => whnf))))))
    all_goals simp
  by_cases e3 : l.length < 1
  · have c1 : decide (1 ≤ l.length) = false := decide_eq_false (by omega)
    have e3' : (l.length : Int) < 1 := by omega
    rw [c1]
    repeat' (first
    | (first
    | ((with_reducible show IfK _ _ _ _); first | refine IfK.ff ?_ | refine IfK.tt ?_ | refine IfK.no (by first | rfl | assumption | exact nfA | exact ntA | ((try simp only [castN]); first | simp [eq_false e1, eq_false e2, hlm, e3'] <;> omega)) ?_ | refine IfK.yes (by first | rfl | assumption | exact nfA | exact ntA | ((try simp only [castN]); first | simp [eq_false e1, eq_false e2, hlm, e3'] <;> omega)) ?_)
    | ((with_reducible show NeedK _ _ _ _); refine nK ?_)
    | ((with_reducible show DrawK _ _ _ _); refine dK ?_)) <;> (with_reducible ((conv => whnf); (conv => congr <;> reduce); repeat ((first | refine hK ?_ | refine sK ?_); (conv => whnf); (conv => congr <;> reduce))))
    | ((with_reducible show (_ ∧ _) ∧ _ ∧ _); refine ⟨⟨rfl, rfl⟩, ?_, ?_⟩ <;> with_reducible ((conv => whnf) <;> repeat' (first | exact trivial | (refine And.intro ?_ ?_ <;> (conv => whnf))))))
    all_goals simp
  have e3' : ¬ (l.length : Int) < 1 := by omega
  by_cases e4 : m < (l.length : Int)
  · have c1 : decide ((l.length : Int) ≤ m) = false := decide_eq_false (by omega)
    rw [c1]
    repeat' (first
    | (first
    | ((with_reducible show IfK _ _ _ _); first | refine IfK.ff ?_ | refine IfK.tt ?_ | refine IfK.no (by first | rfl | assumption | exact nfA | exact ntA | ((try simp only [castN]); first | simp [eq_false e1, eq_false e2, hlm, eq_false e3', e4] <;> omega)) ?_ | refine IfK.yes (by first | rfl | assumption | exact nfA | exact ntA | ((try simp only [castN]); first | simp [eq_false e1, eq_false e2, hlm, eq_false e3', e4] <;> omega)) ?_)
    | ((with_reducible show NeedK _ _ _ _); refine nK ?_)
    | ((with_reducible show DrawK _ _ _ _); refine dK ?_)) <;> (with_reducible ((conv => whnf); (conv => congr <;> reduce); repeat ((first | refine hK ?_ | refine sK ?_); (conv => whnf); (conv => congr <;> reduce))))
    | ((with_reducible show (_ ∧ _) ∧ _ ∧ _); refine ⟨⟨rfl, rfl⟩, ?_, ?_⟩ <;> with_reducible ((conv => whnf) <;> repeat' (first | exact trivial | (refine And.intro ?_ ?_ <;> (conv => whnf))))))
    all_goals simp
  obtain ⟨x0, hx0⟩ : ∃ x, l[0]? = some x := ⟨_, List.getElem?_eq_getElem (by omega)⟩
  have hn0 : nd l 0 = x0 := nd_get (k := 0) hx0
  rw [hn0]
  obtain ⟨z1, z2, z3, z4, z5, z6, z7, z8, z9, z10⟩ := x0
  by_cases e5 : ¬ z1 = 0
  · repeat' (first
    | (first
    | ((with_reducible show IfK _ _ _ _); first | refine IfK.ff ?_ | refine IfK.tt ?_ | refine IfK.no (by first | rfl | assumption | exact nfA | exact ntA | ((try simp only [castN]); first | simp [eq_false e1, eq_false e2, hlm, eq_false e3', eq_false e4, eq_false e5] <;> omega)) ?_ | refine IfK.yes (by first | rfl | assumption | exact nfA | exact ntA | ((try simp only [castN]); first | simp [eq_false e1, eq_false e2, hlm, eq_false e3', eq_false e4, eq_false e5] <;> omega)) ?_)
    | ((with_reducible show NeedK _ _ _ _); refine nK ?_)
    | ((with_reducible show DrawK _ _ _ _); refine dK ?_)
    | (refine IdxK.mk 0 (eNode ⟨z1, z2, z3, z4, z5, z6, z7, z8, z9, z10⟩) rfl (node_get hx0) ?_)) <;> (with_reducible ((conv => whnf); (conv => congr <;> reduce); repeat ((first | refine hK ?_ | refine sK ?_); (conv => whnf); (conv => congr <;> reduce))))
    | ((with_reducible show (_ ∧ _) ∧ _ ∧ _); refine ⟨⟨rfl, rfl⟩, ?_, ?_⟩ <;> with_reducible ((conv => whnf) <;> repeat' (first | exact trivial | (refine And.intro ?_ ?_ <;> (conv => whnf))))))
    all_goals simp [e5]
  have e5 := Decidable.not_not.1 e5
  have c1 : (decide (1 ≤ m) && decide (m ≤ 400) && decide (1 ≤ l.length) && decide ((l.length : Int) ≤ m) && decide (z1 = 0)) = true := by
    simp only [Bool.and_eq_true, decide_eq_true_eq]; omega
  simp only at c1 ⊢
  rw [c1, Bool.true_and]
  repeat' (first
    | (first
    | ((with_reducible show IfK _ _ _ _); first | refine IfK.ff ?_ | refine IfK.tt ?_ | refine IfK.no (by first | rfl | assumption | exact nfA | exact ntA | ((try simp only [castN]); first | simp [eq_false e1, eq_false e2, hlm, eq_false e3', eq_false e4, e5] <;> omega)) ?_ | refine IfK.yes (by first | rfl | assumption | exact nfA | exact ntA | ((try simp only [castN]); first | simp [eq_false e1, eq_false e2, hlm, eq_false e3', eq_false e4, e5] <;> omega)) ?_)
    | ((with_reducible show NeedK _ _ _ _); refine nK ?_)
    | ((with_reducible show DrawK _ _ _ _); refine dK ?_)
    | (refine IdxK.mk 0 (eNode ⟨z1, z2, z3, z4, z5, z6, z7, z8, z9, z10⟩) rfl (node_get hx0) ?_)) <;> (with_reducible ((conv => whnf); (conv => congr <;> reduce); repeat ((first | refine hK ?_ | refine sK ?_); (conv => whnf); (conv => congr <;> reduce))))
    | ((with_reducible show (_ ∧ _) ∧ _ ∧ _); refine ⟨⟨rfl, rfl⟩, ?_, ?_⟩ <;> with_reducible ((conv => whnf) <;> repeat' (first | exact trivial | (refine And.intro ?_ ?_ <;> (conv => whnf))))))
  refine LoopK.use G G_good (fun (k : Nat) => [(1, .ptr 10 0 0), (44, eNodes l), (45, eInt l.length), (46, eInt k)]) (fun _ => [(10, .live 2 [eFor ⟨l, m⟩] false)])
    (fun k => k ≤ l.length ∧ ∀ j x, j < k → l[j]? = some x → nodeOK l j x = true) (fun k => l.length - k) 0 ⟨Nat.zero_le _, fun j x h => by omega⟩
    ⟨⟨rfl, rfl⟩, ⟨⟨rfl, rfl⟩, rfl, by show (l.length : Int) = ((l.map oNode).length : Int); rw [hlm], rfl, trivial⟩, ⟨⟨rfl, rfl, trivial⟩, trivial⟩, trivial⟩ ?_
  rintro k ⟨hk, hok⟩
  (with_reducible ((conv => whnf); (conv => congr <;> reduce); repeat ((first | refine hK ?_ | refine sK ?_); (conv => whnf); (conv => congr <;> reduce))))
  refine IfK.mk (fun g1 => ?_) (fun g1 => ?_) <;> (try simp only [castN] at g1) <;> (with_reducible ((conv => whnf); (conv => congr <;> reduce); repeat ((first | refine hK ?_ | refine sK ?_); (conv => whnf); (conv => congr <;> reduce))))
  · have hk' : k < l.length := by simp only [decide_eq_true_eq] at g1; omega
    obtain ⟨x, hx⟩ : ∃ x, l[k]? = some x := ⟨_, List.getElem?_eq_getElem hk'⟩
    have h38' := h38 x (List.mem_of_getElem? hx)
    have h39' := h39 k x hx
    have h40' := h40 k x hx
    have h41' := h41 k x hx
    have h42' := h42 k x hx
    have bad : nodeOK l k x = false → allIx (fun k x => nodeOK l k x) 0 l = false := fun h => allIx_no hx h
    have good : nodeOK l k x = true → ∀ j y, j < k + 1 → l[j]? = some y → nodeOK l j y = true := fun h j y hj hy => by
      rcases Nat.lt_or_ge j k with h6 | h6
      · exact hok j y h6 hy
      · have : j = k := by omega
        subst this
        rw [hx] at hy; cases hy; exact h
    obtain ⟨a1, a2, a3, a4, a5, a6, a7, a8, a9, a10⟩ := x
    refine IdxK.mk k (eNode _) rfl (node_get hx) ?_; (with_reducible ((conv => whnf); (conv => congr <;> reduce); repeat ((first | refine hK ?_ | refine sK ?_); (conv => whnf); (conv => congr <;> reduce))))
    cases q1 : namedN ⟨a1, a2, a3, a4, a5, a6, a7, a8, a9, a10⟩ with
    | false =>
      rw [bad (by unfold nodeOK; rw [q1]; rfl), Bool.false_and]
      repeat' (first
    | (first
    | ((with_reducible show IfK _ _ _ _); first | refine IfK.ff ?_ | refine IfK.tt ?_ | refine IfK.no (by first | rfl | assumption | exact nfA | exact ntA | ((try simp only [castN]); first | simp [q1] <;> omega)) ?_ | refine IfK.yes (by first | rfl | assumption | exact nfA | exact ntA | ((try simp only [castN]); first | simp [q1] <;> omega)) ?_)
    | ((with_reducible show NeedK _ _ _ _); refine nK ?_)
    | ((with_reducible show DrawK _ _ _ _); refine dK ?_)
    | ((with_reducible show CallK _ _ 96 _ _ _ _); refine CallK.lit [] h38' c96 ⟨⟨rfl, rfl, rfl, rfl, rfl, rfl, rfl, rfl, rfl, rfl, trivial⟩, trivial⟩ rfl rfl ?_)) <;> (with_reducible ((conv => whnf); (conv => congr <;> reduce); repeat ((first | refine hK ?_ | refine sK ?_); (conv => whnf); (conv => congr <;> reduce))))
    | ((with_reducible show (_ ∧ _) ∧ _ ∧ _); refine ⟨⟨rfl, rfl⟩, ?_, ?_⟩ <;> with_reducible ((conv => whnf) <;> repeat' (first | exact trivial | (refine And.intro ?_ ?_ <;> (conv => whnf))))))
    | true =>
      cases q2 : ownedN l k ⟨a1, a2, a3, a4, a5, a6, a7, a8, a9, a10⟩ with
      | false =>
        rw [bad (by unfold nodeOK; rw [q1, q2]; rfl), Bool.false_and]
        repeat' (first
    | (first
    | ((with_reducible show IfK _ _ _ _); first | refine IfK.ff ?_ | refine IfK.tt ?_ | refine IfK.no (by first | rfl | assumption | exact nfA | exact ntA | ((try simp only [castN]); first | simp [q1, q2] <;> omega)) ?_ | refine IfK.yes (by first | rfl | assumption | exact nfA | exact ntA | ((try simp only [castN]); first | simp [q1, q2] <;> omega)) ?_)
    | ((with_reducible show NeedK _ _ _ _); refine nK ?_)
    | ((with_reducible show DrawK _ _ _ _); refine dK ?_)
    | ((with_reducible show CallK _ _ 96 _ _ _ _); refine CallK.lit [] h38' c96 ⟨⟨rfl, rfl, rfl, rfl, rfl, rfl, rfl, rfl, rfl, rfl, trivial⟩, trivial⟩ rfl rfl ?_)
    | ((with_reducible show CallK _ _ 97 _ _ _ _); refine CallK.lit [] h39' c97 ⟨⟨rfl, rfl, trivial⟩, rfl, trivial⟩ rfl rfl ?_)) <;> (with_reducible ((conv => whnf); (conv => congr <;> reduce); repeat ((first | refine hK ?_ | refine sK ?_); (conv => whnf); (conv => congr <;> reduce))))
    | ((with_reducible show (_ ∧ _) ∧ _ ∧ _); refine ⟨⟨rfl, rfl⟩, ?_, ?_⟩ <;> with_reducible ((conv => whnf) <;> repeat' (first | exact trivial | (refine And.intro ?_ ?_ <;> (conv => whnf))))))
      | true =>
        cases q3 : hungN l k ⟨a1, a2, a3, a4, a5, a6, a7, a8, a9, a10⟩ with
        | false =>
          rw [bad (by unfold nodeOK; rw [q1, q2, q3]; rfl), Bool.false_and]
          repeat' (first
    | (first
    | ((with_reducible show IfK _ _ _ _); first | refine IfK.ff ?_ | refine IfK.tt ?_ | refine IfK.no (by first | rfl | assumption | exact nfA | exact ntA | ((try simp only [castN]); first | simp [q1, q2, q3] <;> omega)) ?_ | refine IfK.yes (by first | rfl | assumption | exact nfA | exact ntA | ((try simp only [castN]); first | simp [q1, q2, q3] <;> omega)) ?_)
    | ((with_reducible show NeedK _ _ _ _); refine nK ?_)
    | ((with_reducible show DrawK _ _ _ _); refine dK ?_)
    | ((with_reducible show CallK _ _ 96 _ _ _ _); refine CallK.lit [] h38' c96 ⟨⟨rfl, rfl, rfl, rfl, rfl, rfl, rfl, rfl, rfl, rfl, trivial⟩, trivial⟩ rfl rfl ?_)
    | ((with_reducible show CallK _ _ 97 _ _ _ _); refine CallK.lit [] h39' c97 ⟨⟨rfl, rfl, trivial⟩, rfl, trivial⟩ rfl rfl ?_)
    | ((with_reducible show CallK _ _ 98 _ _ _ _); refine CallK.lit [] h40' c98 ⟨⟨rfl, rfl, trivial⟩, rfl, trivial⟩ rfl rfl ?_)) <;> (with_reducible ((conv => whnf); (conv => congr <;> reduce); repeat ((first | refine hK ?_ | refine sK ?_); (conv => whnf); (conv => congr <;> reduce))))
    | ((with_reducible show (_ ∧ _) ∧ _ ∧ _); refine ⟨⟨rfl, rfl⟩, ?_, ?_⟩ <;> with_reducible ((conv => whnf) <;> repeat' (first | exact trivial | (refine And.intro ?_ ?_ <;> (conv => whnf))))))
        | true =>
          cases q4 : bearsN l k ⟨a1, a2, a3, a4, a5, a6, a7, a8, a9, a10⟩ with
          | false =>
            rw [bad (by unfold nodeOK; rw [q1, q2, q3, q4]; rfl), Bool.false_and]
            repeat' (first
    | (first
    | ((with_reducible show IfK _ _ _ _); first | refine IfK.ff ?_ | refine IfK.tt ?_ | refine IfK.no (by first | rfl | assumption | exact nfA | exact ntA | ((try simp only [castN]); first | simp [q1, q2, q3, q4] <;> omega)) ?_ | refine IfK.yes (by first | rfl | assumption | exact nfA | exact ntA | ((try simp only [castN]); first | simp [q1, q2, q3, q4] <;> omega)) ?_)
    | ((with_reducible show NeedK _ _ _ _); refine nK ?_)
    | ((with_reducible show DrawK _ _ _ _); refine dK ?_)
    | ((with_reducible show CallK _ _ 96 _ _ _ _); refine CallK.lit [] h38' c96 ⟨⟨rfl, rfl, rfl, rfl, rfl, rfl, rfl, rfl, rfl, rfl, trivial⟩, trivial⟩ rfl rfl ?_)
    | ((with_reducible show CallK _ _ 97 _ _ _ _); refine CallK.lit [] h39' c97 ⟨⟨rfl, rfl, trivial⟩, rfl, trivial⟩ rfl rfl ?_)
    | ((with_reducible show CallK _ _ 98 _ _ _ _); refine CallK.lit [] h40' c98 ⟨⟨rfl, rfl, trivial⟩, rfl, trivial⟩ rfl rfl ?_)
    | ((with_reducible show CallK _ _ 99 _ _ _ _); refine CallK.lit [] h41' c99 ⟨⟨rfl, rfl, trivial⟩, rfl, trivial⟩ rfl rfl ?_)) <;> (with_reducible ((conv => whnf); (conv => congr <;> reduce); repeat ((first | refine hK ?_ | refine sK ?_); (conv => whnf); (conv => congr <;> reduce))))
    | ((with_reducible show (_ ∧ _) ∧ _ ∧ _); refine ⟨⟨rfl, rfl⟩, ?_, ?_⟩ <;> with_reducible ((conv => whnf) <;> repeat' (first | exact trivial | (refine And.intro ?_ ?_ <;> (conv => whnf))))))
          | true =>
            cases q5 : shadedN l k ⟨a1, a2, a3, a4, a5, a6, a7, a8, a9, a10⟩ with
            | false =>
              rw [bad (by unfold nodeOK; rw [q1, q2, q3, q4, q5]; rfl), Bool.false_and]
              repeat' (first
    | (first
    | ((with_reducible show IfK _ _ _ _); first | refine IfK.ff ?_ | refine IfK.tt ?_ | refine IfK.no (by first | rfl | assumption | exact nfA | exact ntA | ((try simp only [castN]); first | simp [q1, q2, q3, q4, q5] <;> omega)) ?_ | refine IfK.yes (by first | rfl | assumption | exact nfA | exact ntA | ((try simp only [castN]); first | simp [q1, q2, q3, q4, q5] <;> omega)) ?_)
    | ((with_reducible show NeedK _ _ _ _); refine nK ?_)
    | ((with_reducible show DrawK _ _ _ _); refine dK ?_)
    | ((with_reducible show CallK _ _ 96 _ _ _ _); refine CallK.lit [] h38' c96 ⟨⟨rfl, rfl, rfl, rfl, rfl, rfl, rfl, rfl, rfl, rfl, trivial⟩, trivial⟩ rfl rfl ?_)
    | ((with_reducible show CallK _ _ 97 _ _ _ _); refine CallK.lit [] h39' c97 ⟨⟨rfl, rfl, trivial⟩, rfl, trivial⟩ rfl rfl ?_)
    | ((with_reducible show CallK _ _ 98 _ _ _ _); refine CallK.lit [] h40' c98 ⟨⟨rfl, rfl, trivial⟩, rfl, trivial⟩ rfl rfl ?_)
    | ((with_reducible show CallK _ _ 99 _ _ _ _); refine CallK.lit [] h41' c99 ⟨⟨rfl, rfl, trivial⟩, rfl, trivial⟩ rfl rfl ?_)
    | ((with_reducible show CallK _ _ 100 _ _ _ _); refine CallK.lit [] h42' c100 ⟨⟨rfl, rfl, trivial⟩, rfl, trivial⟩ rfl rfl ?_)) <;> (with_reducible ((conv => whnf); (conv => congr <;> reduce); repeat ((first | refine hK ?_ | refine sK ?_); (conv => whnf); (conv => congr <;> reduce))))
    | ((with_reducible show (_ ∧ _) ∧ _ ∧ _); refine ⟨⟨rfl, rfl⟩, ?_, ?_⟩ <;> with_reducible ((conv => whnf) <;> repeat' (first | exact trivial | (refine And.intro ?_ ?_ <;> (conv => whnf))))))
            | true =>
              have hnx := good (by unfold nodeOK; rw [q1, q2, q3, q4, q5]; rfl)
              repeat' (first
    | (first
    | ((with_reducible show IfK _ _ _ _); first | refine IfK.ff ?_ | refine IfK.tt ?_ | refine IfK.no (by first | rfl | assumption | exact nfA | exact ntA | ((try simp only [castN]); first | simp [q1, q2, q3, q4, q5] <;> omega)) ?_ | refine IfK.yes (by first | rfl | assumption | exact nfA | exact ntA | ((try simp only [castN]); first | simp [q1, q2, q3, q4, q5] <;> omega)) ?_)
    | ((with_reducible show NeedK _ _ _ _); refine nK ?_)
    | ((with_reducible show DrawK _ _ _ _); refine dK ?_)
    | ((with_reducible show CallK _ _ 96 _ _ _ _); refine CallK.lit [] h38' c96 ⟨⟨rfl, rfl, rfl, rfl, rfl, rfl, rfl, rfl, rfl, rfl, trivial⟩, trivial⟩ rfl rfl ?_)
    | ((with_reducible show CallK _ _ 97 _ _ _ _); refine CallK.lit [] h39' c97 ⟨⟨rfl, rfl, trivial⟩, rfl, trivial⟩ rfl rfl ?_)
    | ((with_reducible show CallK _ _ 98 _ _ _ _); refine CallK.lit [] h40' c98 ⟨⟨rfl, rfl, trivial⟩, rfl, trivial⟩ rfl rfl ?_)
    | ((with_reducible show CallK _ _ 99 _ _ _ _); refine CallK.lit [] h41' c99 ⟨⟨rfl, rfl, trivial⟩, rfl, trivial⟩ rfl rfl ?_)
    | ((with_reducible show CallK _ _ 100 _ _ _ _); refine CallK.lit [] h42' c100 ⟨⟨rfl, rfl, trivial⟩, rfl, trivial⟩ rfl rfl ?_)
    | ((with_reducible show NextK _ _); refine NextK.mk (k + 1) ⟨by omega, hnx⟩ (by omega) ⟨⟨rfl, rfl⟩, ⟨⟨rfl, rfl⟩, rfl, rfl, by show ((k + 1 : Nat) : Int) = (k : Int) + 1; omega, trivial⟩, ⟨⟨rfl, rfl, trivial⟩, trivial⟩, trivial⟩)) <;> (with_reducible ((conv => whnf); (conv => congr <;> reduce); repeat ((first | refine hK ?_ | refine sK ?_); (conv => whnf); (conv => congr <;> reduce))))
    | ((with_reducible show (_ ∧ _) ∧ _ ∧ _); refine ⟨⟨rfl, rfl⟩, ?_, ?_⟩ <;> with_reducible ((conv => whnf) <;> repeat' (first | exact trivial | (refine And.intro ?_ ?_ <;> (conv => whnf))))))
  · have hkl : k = l.length := by simp only [decide_eq_false_iff_not] at g1; omega
    have hall : ∀ (j : Nat) (x : NodeM), l[j]? = some x → nodeOK l j x = true := fun j x hx => hok j x (by have := (List.getElem?_eq_some_iff.1 hx).1; omega) hx
    rw [allIx_yes hall, Bool.true_and]
    have h43' := h43 fun n hn => by
      obtain ⟨k, x, rfl, hk, hx⟩ := there_iff.1 hn
      rw [hx]; exact hall k x hk
    refine LoopK.use G G_good (fun (k : Nat) => [(1, .ptr 10 0 0), (82, eInt l.length), (83, eInt k)]) (fun _ => [(10, .live 2 [eFor ⟨l, m⟩] false)])
      (fun k => k ≤ l.length ∧ ∀ (j : Nat) (x : NodeM), j < k → l[j]? = some x → endsN l l.length j = true) (fun k => l.length - k) 0 ⟨Nat.zero_le _, fun j x h => by omega⟩
      ⟨⟨rfl, rfl⟩, ⟨⟨rfl, rfl⟩, by show (l.length : Int) = ((l.map oNode).length : Int); rw [hlm], rfl, trivial⟩, ⟨⟨rfl, rfl, trivial⟩, trivial⟩, trivial⟩ ?_
    rintro i ⟨hi, hends⟩
    (with_reducible ((conv => whnf); (conv => congr <;> reduce); repeat ((first | refine hK ?_ | refine sK ?_); (conv => whnf); (conv => congr <;> reduce))))
    refine IfK.mk (fun g2 => ?_) (fun g2 => ?_) <;> (try simp only [castN] at g2) <;> (with_reducible ((conv => whnf); (conv => congr <;> reduce); repeat ((first | refine hK ?_ | refine sK ?_); (conv => whnf); (conv => congr <;> reduce))))
    · have hi' : i < l.length := by simp only [decide_eq_true_eq] at g2; omega
      obtain ⟨y, hy⟩ : ∃ y, l[i]? = some y := ⟨_, List.getElem?_eq_getElem hi'⟩
      have h43'' := h43' i hi'
      refine CallK.lit [] h43'' c101 ⟨⟨rfl, rfl, trivial⟩, rfl, trivial⟩ rfl rfl ?_; (with_reducible ((conv => whnf); (conv => congr <;> reduce); repeat ((first | refine hK ?_ | refine sK ?_); (conv => whnf); (conv => congr <;> reduce))))
      cases q : endsN l l.length i with
      | false =>
        rw [allIx_no hy q]
        repeat' (first
    | (first
    | ((with_reducible show IfK _ _ _ _); first | refine IfK.ff ?_ | refine IfK.tt ?_ | refine IfK.no (by first | rfl | assumption | exact nfA | exact ntA | ((try simp only [castN]); first | simp [q] <;> omega)) ?_ | refine IfK.yes (by first | rfl | assumption | exact nfA | exact ntA | ((try simp only [castN]); first | simp [q] <;> omega)) ?_)
    | ((with_reducible show NeedK _ _ _ _); refine nK ?_)
    | ((with_reducible show DrawK _ _ _ _); refine dK ?_)) <;> (with_reducible ((conv => whnf); (conv => congr <;> reduce); repeat ((first | refine hK ?_ | refine sK ?_); (conv => whnf); (conv => congr <;> reduce))))
    | ((with_reducible show (_ ∧ _) ∧ _ ∧ _); refine ⟨⟨rfl, rfl⟩, ?_, ?_⟩ <;> with_reducible ((conv => whnf) <;> repeat' (first | exact trivial | (refine And.intro ?_ ?_ <;> (conv => whnf))))))
      | true =>
        repeat' (first
    | (first
    | ((with_reducible show IfK _ _ _ _); first | refine IfK.ff ?_ | refine IfK.tt ?_ | refine IfK.no (by first | rfl | assumption | exact nfA | exact ntA | ((try simp only [castN]); first | simp [q] <;> omega)) ?_ | refine IfK.yes (by first | rfl | assumption | exact nfA | exact ntA | ((try simp only [castN]); first | simp [q] <;> omega)) ?_)
    | ((with_reducible show NeedK _ _ _ _); refine nK ?_)
    | ((with_reducible show DrawK _ _ _ _); refine dK ?_)
    | ((with_reducible show NextK _ _); refine NextK.mk (i + 1) ⟨by omega, fun j x hj hx => ?_⟩ (by omega) ⟨⟨rfl, rfl⟩, ⟨⟨rfl, rfl⟩, rfl, by show ((i + 1 : Nat) : Int) = (i : Int) + 1; omega, trivial⟩, ⟨⟨rfl, rfl, trivial⟩, trivial⟩, trivial⟩)) <;> (with_reducible ((conv => whnf); (conv => congr <;> reduce); repeat ((first | refine hK ?_ | refine sK ?_); (conv => whnf); (conv => congr <;> reduce))))
    | ((with_reducible show (_ ∧ _) ∧ _ ∧ _); refine ⟨⟨rfl, rfl⟩, ?_, ?_⟩ <;> with_reducible ((conv => whnf) <;> repeat' (first | exact trivial | (refine And.intro ?_ ?_ <;> (conv => whnf))))))
        rcases Nat.lt_or_ge j i with h6 | h6
        · exact hends j x h6 hx
        · have : j = i := by omega
          rw [this]; exact q
    · have hil : i = l.length := by simp only [decide_eq_false_iff_not] at g2; omega
      rw [allIx_yes fun j x hx => hends j x (by have := (List.getElem?_eq_some_iff.1 hx).1; omega) hx]
      refine ⟨⟨rfl, rfl⟩, ?_, ?_⟩ <;> with_reducible ((conv => whnf) <;> repeat' (first | exact trivial | (refine And.intro ?_ ?_ <;> (conv => whnf))))
set_option maxHeartbeats 4000000 in
theorem f48_ok (f : ForM) (hs : SmallN f.nodes) : FnOK Tryz.prog 48 [] [eFor f] [] (eBool (rightF f)) := by
  have h23 := f77_ok f hs
  obtain ⟨l, m⟩ := f
  refine FnOK.startC (rvs := [.tmp 2]) G G_good Tryz.func48 rfl Tryz.ntmps48 rfl rfl ?_; delta List.toArray; (with_reducible ((conv => whnf); (conv => congr <;> reduce); repeat ((first | refine hK ?_ | refine sK ?_); (conv => whnf); (conv => congr <;> reduce))))
  refine CallK.lit [] h23 c77 ⟨⟨rfl, rfl, trivial⟩, trivial⟩ rfl rfl ?_; (with_reducible ((conv => whnf); (conv => congr <;> reduce); repeat ((first | refine hK ?_ | refine sK ?_); (conv => whnf); (conv => congr <;> reduce))))
  refine ⟨⟨rfl, rfl⟩, ?_, ?_⟩ <;> with_reducible ((conv => whnf) <;> repeat' (first | exact trivial | (refine And.intro ?_ ?_ <;> (conv => whnf))))
end Go.Proofs.Heir
end
section
set_option linter.unusedSimpArgs false
set_option linter.unusedVariables false
namespace Go.Proofs.Heir
open Go Go.Am Go.RowKit Go.Lib
set_option maxRecDepth 100000
theorem noRef_ints (l : List Int) : noRefL (l.map oInt) = true := by
  rw [noRefL_iff]; intro x hx
  obtain ⟨a, _, rfl⟩ := List.mem_map.1 hx
  rfl
theorem one_ints (l : List Int) : oneL (flat (l.map oInt)) = true := oneL_map oInt (fun _ => rfl) l
theorem frz_ints {m : ML} {fz : Nat → Bool} {tab : List (Nat × Nat)} {n t len : Nat} {ro : Bool} {rows : List AV} {l : List Int} (h1 : lkM m t = .live 1 rows ro) (h2 : fz t = true) (h3 : rows = l.map oInt) (h4 : len = l.length) : FrzK m fz (MF tab fz m n) (eInts l) t 0 len := by
  subst h3; subst h4
  have e : (l.map oInt).length = l.length := List.length_map ..
  exact .cut h1 h2 (by omega) (by rw [List.drop_zero, List.take_of_length_le (by omega)]) (noRef_ints l)
@[reducible] def rInts (l : List Int) : MS := .live 1 (l.map oInt) false
theorem count_step {l : List Int} {n c : Int} {k : Nat} (h : l[k]? = some c) : (l.take (k + 1)).count n = (l.take k).count n + if c = n then 1 else 0 := by
  rw [take_snocI h, List.count_append, List.count_singleton]
  by_cases e : c = n <;> simp [e]
theorem f75_ok (l : List Int) (hl : l.length ≤ 100000) (n : Int) : FnOK Tryz.prog 75 [] [eInts l, eInt n] [] (eInt (l.count n)) := by
  have hlm : (l.map oInt).length = l.length := List.length_map ..
  refine FnOK.startC (rvs := [.tmp 4]) G G_good Tryz.func75 rfl Tryz.ntmps75 rfl rfl ?_; delta List.toArray; (with_reducible ((conv => whnf); (conv => congr <;> reduce); repeat ((first | refine hK ?_ | refine sK ?_); (conv => whnf); (conv => congr <;> reduce))))
  refine LoopK.use G G_good (fun (k : Nat) => [(0, eInts l), (1, eInt n), (5, eInt ((l.take k).count n)), (6, eInt k)]) (fun _ => []) (fun k => k ≤ l.length) (fun k => l.length - k) 0 (Nat.zero_le _)
    ⟨⟨rfl, rfl⟩, ⟨rfl, rfl, rfl, rfl, trivial⟩, trivial⟩ ?_
  rintro k hk
  (with_reducible ((conv => whnf); (conv => congr <;> reduce); repeat ((first | refine hK ?_ | refine sK ?_); (conv => whnf); (conv => congr <;> reduce))))
  refine IfK.mk (fun h1 => ?_) (fun h1 => ?_) <;> (try simp only [castN] at h1) <;> (with_reducible ((conv => whnf); (conv => congr <;> reduce); repeat ((first | refine hK ?_ | refine sK ?_); (conv => whnf); (conv => congr <;> reduce))))
  · have hk' : k < l.length := by simp only [decide_eq_true_eq] at h1; omega
    obtain ⟨c, hc⟩ : ∃ a, l[k]? = some a := ⟨_, List.getElem?_eq_getElem hk'⟩
    have hst := count_step (n := n) hc
    have hle : (l.take k).count n ≤ k := Nat.le_trans List.count_le_length (by simp; omega)
    refine IdxK.mk k (eInt c) rfl (int_get hc) ?_; (with_reducible ((conv => whnf); (conv => congr <;> reduce); repeat ((first | refine hK ?_ | refine sK ?_); (conv => whnf); (conv => congr <;> reduce))))
    by_cases e : c = n
    · rw [if_pos e] at hst
      repeat' (first
    | (first
    | ((with_reducible show IfK _ _ _ _); first | refine IfK.ff ?_ | refine IfK.tt ?_ | refine IfK.no (by first | rfl | assumption | exact nfA | exact ntA | ((try simp only [castN]); first | simp [e] <;> omega)) ?_ | refine IfK.yes (by first | rfl | assumption | exact nfA | exact ntA | ((try simp only [castN]); first | simp [e] <;> omega)) ?_)
    | ((with_reducible show NeedK _ _ _ _); refine nK ?_)
    | ((with_reducible show DrawK _ _ _ _); refine dK ?_)
    | ((with_reducible show NextK _ _); refine NextK.mk (k + 1) (by omega) (by omega) ⟨⟨rfl, rfl⟩, ⟨rfl, rfl, by show (((l.take (k + 1)).count n : Nat) : Int) = _; rw [hst]; rfl, by show ((k + 1 : Nat) : Int) = (k : Int) + 1; omega, trivial⟩, trivial⟩)) <;> (with_reducible ((conv => whnf); (conv => congr <;> reduce); repeat ((first | refine hK ?_ | refine sK ?_); (conv => whnf); (conv => congr <;> reduce))))
    | ((with_reducible show (_ ∧ _) ∧ _ ∧ _); refine ⟨⟨rfl, rfl⟩, ?_, ?_⟩ <;> with_reducible ((conv => whnf) <;> repeat' (first | exact trivial | (refine And.intro ?_ ?_ <;> (conv => whnf))))))
    · rw [if_neg e] at hst
      repeat' (first
    | (first
    | ((with_reducible show IfK _ _ _ _); first | refine IfK.ff ?_ | refine IfK.tt ?_ | refine IfK.no (by first | rfl | assumption | exact nfA | exact ntA | ((try simp only [castN]); first | simp [eq_false e] <;> omega)) ?_ | refine IfK.yes (by first | rfl | assumption | exact nfA | exact ntA | ((try simp only [castN]); first | simp [eq_false e] <;> omega)) ?_)
    | ((with_reducible show NeedK _ _ _ _); refine nK ?_)
    | ((with_reducible show DrawK _ _ _ _); refine dK ?_)
    | ((with_reducible show NextK _ _); refine NextK.mk (k + 1) (by omega) (by omega) ⟨⟨rfl, rfl⟩, ⟨rfl, rfl, by show (((l.take (k + 1)).count n : Nat) : Int) = _; rw [hst]; simp, by show ((k + 1 : Nat) : Int) = (k : Int) + 1; omega, trivial⟩, trivial⟩)) <;> (with_reducible ((conv => whnf); (conv => congr <;> reduce); repeat ((first | refine hK ?_ | refine sK ?_); (conv => whnf); (conv => congr <;> reduce))))
    | ((with_reducible show (_ ∧ _) ∧ _ ∧ _); refine ⟨⟨rfl, rfl⟩, ?_, ?_⟩ <;> with_reducible ((conv => whnf) <;> repeat' (first | exact trivial | (refine And.intro ?_ ?_ <;> (conv => whnf))))))
  · refine ⟨⟨rfl, rfl⟩, ?_, ?_⟩ <;> with_reducible ((conv => whnf) <;> repeat' (first | exact trivial | (refine And.intro ?_ ?_ <;> (conv => whnf))))
    have : k = l.length := by simp only [decide_eq_false_iff_not] at h1; omega
    rw [this, List.take_length]
end Go.Proofs.Heir
end
section
set_option linter.unusedSimpArgs false
set_option linter.unusedVariables false
namespace Go.Proofs.Heir
open Go Go.Am Go.RowKit Go.Lib
set_option maxRecDepth 100000
def smallX (x : NodeM) : Bool := decide (x.kids.length ≤ 60) && decide (x.attrs.length ≤ 60) && decide (x.name.size ≤ 300)
theorem short_eq (f : ForM) : shortF f = (decide (f.nodes.length ≤ 60) && f.nodes.all smallX) := rfl
theorem all_no {α : Type} {p : α → Bool} {l : List α} {k : Nat} {x : α} (h : l[k]? = some x) (hp : p x = false) : l.all p = false := by
  rw [Bool.eq_false_iff]
  intro h1
  rw [List.all_eq_true] at h1
  rw [h1 x (List.mem_of_getElem? h)] at hp; cases hp
theorem all_yes {α : Type} {p : α → Bool} {l : List α} (h : ∀ (k : Nat) (x : α), l[k]? = some x → p x = true) : l.all p = true := by
  rw [List.all_eq_true]
  intro x hx
  obtain ⟨k, hk⟩ := List.getElem?_of_mem hx
  exact h k x hk
set_option maxHeartbeats 8000000 in
theorem f9_ok (f : ForM) : FnOK Tryz.prog 9 [] [eFor f] [] (eBool (shortF f)) := by
  rw [short_eq]
  obtain ⟨l, m⟩ := f
  simp only
  have hlm : (l.map oNode).length = l.length := List.length_map ..
  refine FnOK.startC (rvs := [.tmp 2]) G G_good Tryz.func9 rfl Tryz.ntmps9 rfl rfl ?_; delta List.toArray; (with_reducible ((conv => whnf); (conv => congr <;> reduce); repeat ((first | refine hK ?_ | refine sK ?_); (conv => whnf); (conv => congr <;> reduce))))
  by_cases e0 : (60 : Int) < (l.length : Int)
  · rw [decide_eq_false (show ¬ l.length ≤ 60 by omega)]
    repeat' (first
    | (first
    | ((with_reducible show IfK _ _ _ _); first | refine IfK.ff ?_ | refine IfK.tt ?_ | refine IfK.no (by first | rfl | assumption | exact nfA | exact ntA | ((try simp only [castN]); first | simp [hlm, e0] <;> omega)) ?_ | refine IfK.yes (by first | rfl | assumption | exact nfA | exact ntA | ((try simp only [castN]); first | simp [hlm, e0] <;> omega)) ?_)
    | ((with_reducible show NeedK _ _ _ _); refine nK ?_)
    | ((with_reducible show DrawK _ _ _ _); refine dK ?_)) <;> (with_reducible ((conv => whnf); (conv => congr <;> reduce); repeat ((first | refine hK ?_ | refine sK ?_); (conv => whnf); (conv => congr <;> reduce))))
    | ((with_reducible show (_ ∧ _) ∧ _ ∧ _); refine ⟨⟨rfl, rfl⟩, ?_, ?_⟩ <;> with_reducible ((conv => whnf) <;> repeat' (first | exact trivial | (refine And.intro ?_ ?_ <;> (conv => whnf))))))
    all_goals rfl
  rw [decide_eq_true (show l.length ≤ 60 by omega), Bool.true_and]
  repeat' (first
    | (first
    | ((with_reducible show IfK _ _ _ _); first | refine IfK.ff ?_ | refine IfK.tt ?_ | refine IfK.no (by first | rfl | assumption | exact nfA | exact ntA | ((try simp only [castN]); first | simp [hlm, eq_false e0] <;> omega)) ?_ | refine IfK.yes (by first | rfl | assumption | exact nfA | exact ntA | ((try simp only [castN]); first | simp [hlm, eq_false e0] <;> omega)) ?_)
    | ((with_reducible show NeedK _ _ _ _); refine nK ?_)
    | ((with_reducible show DrawK _ _ _ _); refine dK ?_)) <;> (with_reducible ((conv => whnf); (conv => congr <;> reduce); repeat ((first | refine hK ?_ | refine sK ?_); (conv => whnf); (conv => congr <;> reduce))))
    | ((with_reducible show (_ ∧ _) ∧ _ ∧ _); refine ⟨⟨rfl, rfl⟩, ?_, ?_⟩ <;> with_reducible ((conv => whnf) <;> repeat' (first | exact trivial | (refine And.intro ?_ ?_ <;> (conv => whnf))))))
  refine LoopK.use G G_good (fun (k : Nat) => [(1, .ptr 10 0 0), (3, eInt k)]) (fun _ => [(10, .live 2 [eFor ⟨l, m⟩] false)])
    (fun k => k ≤ l.length ∧ ∀ (j : Nat) (y : NodeM), j < k → l[j]? = some y → smallX y = true) (fun k => l.length - k) 0 ⟨Nat.zero_le _, fun j y h => by omega⟩
    ⟨⟨rfl, rfl⟩, ⟨⟨rfl, rfl⟩, rfl, trivial⟩, ⟨⟨rfl, rfl, trivial⟩, trivial⟩, trivial⟩ ?_
  rintro k ⟨hk, hok⟩
  (with_reducible ((conv => whnf); (conv => congr <;> reduce); repeat ((first | refine hK ?_ | refine sK ?_); (conv => whnf); (conv => congr <;> reduce))))
  refine IfK.mk (fun h1 => ?_) (fun h1 => ?_) <;> (try simp only [castN] at h1) <;> (with_reducible ((conv => whnf); (conv => congr <;> reduce); repeat ((first | refine hK ?_ | refine sK ?_); (conv => whnf); (conv => congr <;> reduce))))
  · have hk' : k < l.length := by simp only [decide_eq_true_eq] at h1; omega
    obtain ⟨x, hx⟩ : ∃ x, l[k]? = some x := ⟨_, List.getElem?_eq_getElem hk'⟩
    have bad : smallX x = false → l.all smallX = false := fun h => all_no hx h
    have good : smallX x = true → ∀ (j : Nat) (y : NodeM), j < k + 1 → l[j]? = some y → smallX y = true := fun h j y hj hy => by
      rcases Nat.lt_or_ge j k with h6 | h6
      · exact hok j y h6 hy
      · have : j = k := by omega
        subst this
        rw [hx] at hy; cases hy; exact h
    obtain ⟨a1, a2, a3, a4, a5, a6, a7, a8, a9, a10⟩ := x
    have hla : (a5.map oAttr).length = a5.length := List.length_map ..
    have hlk : (a7.map oInt).length = a7.length := List.length_map ..
    have sm : smallX ⟨a1, a2, a3, a4, a5, a6, a7, a8, a9, a10⟩ = (decide (a7.length ≤ 60) && decide (a5.length ≤ 60) && decide (a2.size ≤ 300)) := rfl
    rw [sm] at bad good
    refine IdxK.mk k (eNode _) rfl (node_get hx) ?_; (with_reducible ((conv => whnf); (conv => congr <;> reduce); repeat ((first | refine hK ?_ | refine sK ?_); (conv => whnf); (conv => congr <;> reduce))))
    by_cases e1 : (60 : Int) < (a7.length : Int)
    · rw [bad (by rw [decide_eq_false (show ¬ a7.length ≤ 60 by omega)]; rfl)]
      repeat' (first
    | (first
    | ((with_reducible show IfK _ _ _ _); first | refine IfK.ff ?_ | refine IfK.tt ?_ | refine IfK.no (by first | rfl | assumption | exact nfA | exact ntA | ((try simp only [castN]); first | simp [hlk, e1] <;> omega)) ?_ | refine IfK.yes (by first | rfl | assumption | exact nfA | exact ntA | ((try simp only [castN]); first | simp [hlk, e1] <;> omega)) ?_)
    | ((with_reducible show NeedK _ _ _ _); refine nK ?_)
    | ((with_reducible show DrawK _ _ _ _); refine dK ?_)) <;> (with_reducible ((conv => whnf); (conv => congr <;> reduce); repeat ((first | refine hK ?_ | refine sK ?_); (conv => whnf); (conv => congr <;> reduce))))
    | ((with_reducible show (_ ∧ _) ∧ _ ∧ _); refine ⟨⟨rfl, rfl⟩, ?_, ?_⟩ <;> with_reducible ((conv => whnf) <;> repeat' (first | exact trivial | (refine And.intro ?_ ?_ <;> (conv => whnf))))))
    by_cases e2 : (60 : Int) < (a5.length : Int)
    · rw [bad (by rw [decide_eq_false (show ¬ a5.length ≤ 60 by omega), Bool.and_false]; rfl)]
      repeat' (first
    | (first
    | ((with_reducible show IfK _ _ _ _); first | refine IfK.ff ?_ | refine IfK.tt ?_ | refine IfK.no (by first | rfl | assumption | exact nfA | exact ntA | ((try simp only [castN]); first | simp [hlk, hla, eq_false e1, e2] <;> omega)) ?_ | refine IfK.yes (by first | rfl | assumption | exact nfA | exact ntA | ((try simp only [castN]); first | simp [hlk, hla, eq_false e1, e2] <;> omega)) ?_)
    | ((with_reducible show NeedK _ _ _ _); refine nK ?_)
    | ((with_reducible show DrawK _ _ _ _); refine dK ?_)
    | (refine IdxK.mk k (eNode _) rfl (node_get hx) ?_)) <;> (with_reducible ((conv => whnf); (conv => congr <;> reduce); repeat ((first | refine hK ?_ | refine sK ?_); (conv => whnf); (conv => congr <;> reduce))))
    | ((with_reducible show (_ ∧ _) ∧ _ ∧ _); refine ⟨⟨rfl, rfl⟩, ?_, ?_⟩ <;> with_reducible ((conv => whnf) <;> repeat' (first | exact trivial | (refine And.intro ?_ ?_ <;> (conv => whnf))))))
    by_cases e3 : (300 : Int) < (a2.size : Int)
    · rw [bad (by rw [decide_eq_false (show ¬ a2.size ≤ 300 by omega), Bool.and_false])]
      repeat' (first
    | (first
    | ((with_reducible show IfK _ _ _ _); first | refine IfK.ff ?_ | refine IfK.tt ?_ | refine IfK.no (by first | rfl | assumption | exact nfA | exact ntA | ((try simp only [castN]); first | simp [hlk, hla, eq_false e1, eq_false e2, e3] <;> omega)) ?_ | refine IfK.yes (by first | rfl | assumption | exact nfA | exact ntA | ((try simp only [castN]); first | simp [hlk, hla, eq_false e1, eq_false e2, e3] <;> omega)) ?_)
    | ((with_reducible show NeedK _ _ _ _); refine nK ?_)
    | ((with_reducible show DrawK _ _ _ _); refine dK ?_)
    | (refine IdxK.mk k (eNode _) rfl (node_get hx) ?_)) <;> (with_reducible ((conv => whnf); (conv => congr <;> reduce); repeat ((first | refine hK ?_ | refine sK ?_); (conv => whnf); (conv => congr <;> reduce))))
    | ((with_reducible show (_ ∧ _) ∧ _ ∧ _); refine ⟨⟨rfl, rfl⟩, ?_, ?_⟩ <;> with_reducible ((conv => whnf) <;> repeat' (first | exact trivial | (refine And.intro ?_ ?_ <;> (conv => whnf))))))
    have hnx := good (by simp only [Bool.and_eq_true, decide_eq_true_eq]; omega)
    repeat' (first
    | (first
    | ((with_reducible show IfK _ _ _ _); first | refine IfK.ff ?_ | refine IfK.tt ?_ | refine IfK.no (by first | rfl | assumption | exact nfA | exact ntA | ((try simp only [castN]); first | simp [hlk, hla, eq_false e1, eq_false e2, eq_false e3] <;> omega)) ?_ | refine IfK.yes (by first | rfl | assumption | exact nfA | exact ntA | ((try simp only [castN]); first | simp [hlk, hla, eq_false e1, eq_false e2, eq_false e3] <;> omega)) ?_)
    | ((with_reducible show NeedK _ _ _ _); refine nK ?_)
    | ((with_reducible show DrawK _ _ _ _); refine dK ?_)
    | (refine IdxK.mk k (eNode _) rfl (node_get hx) ?_)
    | ((with_reducible show NextK _ _); refine NextK.mk (k + 1) ⟨by omega, hnx⟩ (by omega) ⟨⟨rfl, rfl⟩, ⟨⟨rfl, rfl⟩, by show ((k + 1 : Nat) : Int) = (k : Int) + 1; omega, trivial⟩, ⟨⟨rfl, rfl, trivial⟩, trivial⟩, trivial⟩)) <;> (with_reducible ((conv => whnf); (conv => congr <;> reduce); repeat ((first | refine hK ?_ | refine sK ?_); (conv => whnf); (conv => congr <;> reduce))))
    | ((with_reducible show (_ ∧ _) ∧ _ ∧ _); refine ⟨⟨rfl, rfl⟩, ?_, ?_⟩ <;> with_reducible ((conv => whnf) <;> repeat' (first | exact trivial | (refine And.intro ?_ ?_ <;> (conv => whnf))))))
  · have hkl : k = l.length := by simp only [decide_eq_false_iff_not] at h1; omega
    rw [all_yes fun j y hy => hok j y (by have := (List.getElem?_eq_some_iff.1 hy).1; omega) hy]
    refine ⟨⟨rfl, rfl⟩, ?_, ?_⟩ <;> with_reducible ((conv => whnf) <;> repeat' (first | exact trivial | (refine And.intro ?_ ?_ <;> (conv => whnf))))
end Go.Proofs.Heir
end
section
set_option linter.unusedSimpArgs false
set_option linter.unusedVariables false
namespace Go.Proofs.Heir
open Go Go.Am Go.RowKit Go.Lib
set_option maxRecDepth 100000
theorem node_at {l : List NodeM} {n : Int} (h : 0 ≤ n ∧ n < (l.length : Int)) : ∃ (i : Nat) (y : NodeM), n = (i : Int) ∧ l[i]? = some y ∧ nd l n = y := by
  obtain ⟨i, y, h1, h2, h3⟩ := there_iff.1 (show thereN l n = true by unfold thereN; simp; omega)
  exact ⟨i, y, h1, h2, h3⟩
theorem CutK {P : Program} {N nL : Nat} {sl : SL} {m : ML} {c : Code} {Q : Exit → SL → ML → Prop} {F G : Prop} (main : (F → LoopK P N nL sl m (c := c) (Q := Q)) → G) (rest : F → LoopK P N nL sl m (c := c) (Q := Q)) : G := main rest
set_option maxHeartbeats 16000000 in
theorem f44_ok (f : ForM) (hs : SmallN f.nodes) (k : Nat) (x : NodeM) (hx : f.nodes[k]? = some x) : FnOK Tryz.prog 44 [] [eFor f, eInt k] [] (eBool (refNode f.nodes k x)) := by
  have h29 := fun (l : List Int) (hl : l.length ≤ 100000) => f75_ok l hl
  have hxk := hs.kids x (List.mem_of_getElem? hx)
  have hxa := hs.attrs x (List.mem_of_getElem? hx)
  have hxn := hs.name x (List.mem_of_getElem? hx)
  have h30 := f72_ok x.name
  have h31 := f73_ok x.name (by omega)
  have h32 := f43s_ok x.is
  have h33 := f76_ok x.attrs (by omega)
  have hK : ∀ (i : Nat) (y : NodeM), f.nodes[i]? = some y → y.kids.length ≤ 100000 := fun i y h => by have := hs.kids y (List.mem_of_getElem? h); omega
  have hl := hs.len
  have hk : k < f.nodes.length := (List.getElem?_eq_some_iff.1 hx).1
  obtain ⟨l, m⟩ := f
  unfold refNode
  simp only at hK hx hl hk ⊢
  obtain ⟨a1, a2, a3, a4, a5, a6, a7, a8, a9, a10⟩ := x
  simp only at hxk hxa hxn h30 h31 h32 h33 ⊢
  have hlm : (l.map oNode).length = l.length := List.length_map ..
  have hlk : (a7.map oInt).length = a7.length := List.length_map ..
  have hla : (a5.map oAttr).length = a5.length := List.length_map ..
  apply CutK (P := Tryz.prog) (N := 353) (nL := 0) (F := rDoc l k ⟨a1, a2, a3, a4, a5, a6, a7, a8, a9, a10⟩ = true ∧ rPar l k ⟨a1, a2, a3, a4, a5, a6, a7, a8, a9, a10⟩ = true)
    (sl := [(1, eInt k), (2, .ptr 20 0 0), (5, .ptr 50 0 0), (6, eInt l.length), (7, eInt 0), (8, eInt 0)]) (m := [(20, .live 2 [eFor ⟨l, m⟩] false), (50, .live 10 [eNode ⟨a1, a2, a3, a4, a5, a6, a7, a8, a9, a10⟩] false)])
  case main =>
    intro key
    have bad1 : ∀ b, rDoc l k ⟨a1, a2, a3, a4, a5, a6, a7, a8, a9, a10⟩ = false → (rDoc l k ⟨a1, a2, a3, a4, a5, a6, a7, a8, a9, a10⟩ && b) = false := fun b h => by rw [h]; rfl
    have bad2 : ∀ b c, rPar l k ⟨a1, a2, a3, a4, a5, a6, a7, a8, a9, a10⟩ = false → (c && (rPar l k ⟨a1, a2, a3, a4, a5, a6, a7, a8, a9, a10⟩ && b)) = false := fun b c h => by rw [h]; simp
    refine FnOK.startC (rvs := [.tmp 4]) G G_good Tryz.func44 rfl Tryz.ntmps44 rfl rfl ?_; delta List.toArray; (with_reducible ((conv => whnf); (conv => congr <;> reduce); repeat ((first | refine hK ?_ | refine sK ?_); (conv => whnf); (conv => congr <;> reduce))))
    refine IdxK.mk k (eNode _) rfl (node_get hx) ?_; (with_reducible ((conv => whnf); (conv => congr <;> reduce); repeat ((first | refine hK ?_ | refine sK ?_); (conv => whnf); (conv => congr <;> reduce))))
    repeat' (first
    | (first
    | ((with_reducible show IfK _ _ _ _); first | refine IfK.ff ?_ | refine IfK.tt ?_ | refine IfK.no (by first | rfl | assumption | exact nfA | exact ntA | exact decide_eq_true (by (try simp only [castN]); omega) | exact decide_eq_false (by (try simp only [castN]); omega) | (simp only [castN, Bool.not_eq_true', Bool.not_eq_false', decide_eq_true_eq, decide_eq_false_iff_not]; omega)) ?_ | refine IfK.yes (by first | rfl | assumption | exact nfA | exact ntA | exact decide_eq_true (by (try simp only [castN]); omega) | exact decide_eq_false (by (try simp only [castN]); omega) | (simp only [castN, Bool.not_eq_true', Bool.not_eq_false', decide_eq_true_eq, decide_eq_false_iff_not]; omega)) ?_ | (refine IfK.mk (fun hp => ?_) (fun hp => ?_) <;> (try simp only [castN, decide_eq_true_eq, decide_eq_false_iff_not, Bool.not_eq_true', Bool.not_eq_false', Decidable.not_not, Int.not_lt, Int.not_le] at hp)))
    | ((with_reducible show NeedK _ _ _ _); refine nK ?_)
    | ((with_reducible show DrawK _ _ _ _); refine dK ?_)
    | ((with_reducible show IdxK _ a10 _ _ _); refine IdxK.mk iD (eNode _) eD (node_get hyD) ?_)
    | ((with_reducible show IdxK _ a10 _ _ _); (obtain ⟨iD, y, eD, hyD, hnyD⟩ := node_at (l := l) (n := a10) (by omega)); (obtain ⟨b1, b2, b3, b4, b5, b6, b7, b8, b9, b10⟩ := y); refine IdxK.mk iD (eNode _) eD (node_get hyD) ?_)
    | ((with_reducible show IdxK _ a6 _ _ _); refine IdxK.mk iP (eNode _) eP (node_get hyP) ?_)
    | ((with_reducible show IdxK _ a6 _ _ _); (obtain ⟨iP, y, eP, hyP, hnyP⟩ := node_at (l := l) (n := a6) (by omega)); (obtain ⟨b1, b2, b3, b4, b5, b6, b7, b8, b9, b10⟩ := y); refine IdxK.mk iP (eNode _) eP (node_get hyP) ?_)
    | ((with_reducible show CallK _ _ 75 _ _ _ _); refine CallK.lit [] (h29 _ (hK _ _ hyP) k) c75 ⟨rfl, rfl, trivial⟩ rfl rfl ?_)) <;> (with_reducible ((conv => whnf); (conv => congr <;> reduce); repeat ((first | refine hK ?_ | refine sK ?_); (conv => whnf); (conv => congr <;> reduce))))
    | ((with_reducible show (_ ∧ _) ∧ _ ∧ _); refine ⟨⟨rfl, rfl⟩, ?_, ?_⟩ <;> with_reducible ((conv => whnf) <;> repeat' (first | exact trivial | (refine And.intro ?_ ?_ <;> (conv => whnf))))))
    all_goals first
      | refine bad1 _ ?_
        (rw [Bool.eq_false_iff]; intro h; (first | simp only [rDoc, isN, thereN, Bool.and_eq_true, Bool.or_eq_true, decide_eq_true_eq, ne_eq, ← List.length_eq_zero_iff, hnyD] at h | simp only [rDoc, isN, thereN, Bool.and_eq_true, Bool.or_eq_true, decide_eq_true_eq, ne_eq, ← List.length_eq_zero_iff] at h); omega)
      | refine bad2 _ _ ?_
        (rw [Bool.eq_false_iff]; intro h; (first | simp only [rPar, isN, thereN, Bool.and_eq_true, Bool.or_eq_true, decide_eq_true_eq, ne_eq, ← List.length_eq_zero_iff, hnyP] at h | simp only [rPar, isN, thereN, Bool.and_eq_true, Bool.or_eq_true, decide_eq_true_eq, ne_eq, ← List.length_eq_zero_iff] at h); omega)
      | refine LoopK.fit ?_ (key ⟨?_, ?_⟩)
        · exact ⟨⟨rfl, rfl⟩, ⟨rfl, ⟨rfl, rfl⟩, ⟨rfl, rfl⟩, by show (l.length : Int) = ((l.map oNode).length : Int); rw [hlm], rfl, rfl, trivial⟩, ⟨⟨rfl, rfl, trivial⟩, trivial⟩, ⟨⟨rfl, rfl, rfl, rfl, rfl, rfl, rfl, rfl, rfl, rfl, trivial⟩, trivial⟩, trivial⟩
        ·
          (simp only [rDoc, isN, thereN, Bool.and_eq_true, Bool.or_eq_true, decide_eq_true_eq, ne_eq, ← List.length_eq_zero_iff, hnyD]; omega)
        · first
            | (rw [rPar, decide_eq_true (by assumption)]; rfl)
            | skip
              (simp only [rPar, isN, thereN, Bool.and_eq_true, Bool.or_eq_true, decide_eq_true_eq, ne_eq, ← List.length_eq_zero_iff, hnyP]; omega)
      | trace_state
  case rest =>
    rintro ⟨hD, hP⟩
    rw [hD, hP]
    simp only [Bool.true_and]
    have bad3 : ∀ b, a7.all (rKid l k ⟨a1, a2, a3, a4, a5, a6, a7, a8, a9, a10⟩) = false → (a7.all (rKid l k ⟨a1, a2, a3, a4, a5, a6, a7, a8, a9, a10⟩) && b) = false := fun b h => by rw [h]; rfl
    refine LoopK.use G G_good (fun (j : Nat) => [(1, eInt k), (2, .ptr 20 0 0), (5, .ptr 50 0 0), (6, eInt l.length), (7, eInt (elemsN l (a7.take j))), (8, eInt j)]) (fun _ => [(20, .live 2 [eFor ⟨l, m⟩] false), (50, .live 10 [eNode ⟨a1, a2, a3, a4, a5, a6, a7, a8, a9, a10⟩] false)])
      (fun j => j ≤ a7.length ∧ ∀ (i : Nat) (c : Int), i < j → a7[i]? = some c → rKid l k ⟨a1, a2, a3, a4, a5, a6, a7, a8, a9, a10⟩ c = true) (fun j => a7.length - j) 0 ⟨Nat.zero_le _, fun i c h => by omega⟩
      ⟨⟨rfl, rfl⟩, ⟨rfl, ⟨rfl, rfl⟩, ⟨rfl, rfl⟩, rfl, rfl, rfl, trivial⟩, ⟨⟨rfl, rfl, trivial⟩, trivial⟩, ⟨⟨rfl, rfl, rfl, rfl, rfl, rfl, rfl, rfl, rfl, rfl, trivial⟩, trivial⟩, trivial⟩ ?_
    rintro j ⟨hj, hok⟩
    (with_reducible ((conv => whnf); (conv => congr <;> reduce); repeat ((first | refine hK ?_ | refine sK ?_); (conv => whnf); (conv => congr <;> reduce))))
    refine IfK.mk (fun h1 => ?_) (fun h1 => ?_) <;> (try simp only [castN] at h1) <;> (with_reducible ((conv => whnf); (conv => congr <;> reduce); repeat ((first | refine hK ?_ | refine sK ?_); (conv => whnf); (conv => congr <;> reduce))))
    · have hj' : j < a7.length := by simp only [decide_eq_true_eq] at h1; omega
      obtain ⟨c, hc⟩ : ∃ c, a7[j]? = some c := ⟨_, List.getElem?_eq_getElem hj'⟩
      have hse := @elems_step l a7 j c hc
      have hel := elems_le l a7 j
      have h29' := h29 a7 (by omega) c
      have good : rKid l k ⟨a1, a2, a3, a4, a5, a6, a7, a8, a9, a10⟩ c = true → ∀ (i : Nat) (d : Int), i < j + 1 → a7[i]? = some d → rKid l k ⟨a1, a2, a3, a4, a5, a6, a7, a8, a9, a10⟩ d = true := fun h i d hi hd => by
        rcases Nat.lt_or_ge i j with h6 | h6
        · exact hok i d h6 hd
        · have : i = j := by omega
          subst this
          rw [hc] at hd; cases hd; exact h
      refine IdxK.mk j (eInt c) rfl (int_get hc) ?_; (with_reducible ((conv => whnf); (conv => congr <;> reduce); repeat ((first | refine hK ?_ | refine sK ?_); (conv => whnf); (conv => congr <;> reduce))))
      repeat' (first
    | (first
    | ((with_reducible show IfK _ _ _ _); first | refine IfK.ff ?_ | refine IfK.tt ?_ | refine IfK.no (by first | rfl | assumption | exact nfA | exact ntA | exact decide_eq_true (by (try simp only [castN]); omega) | exact decide_eq_false (by (try simp only [castN]); omega) | (simp only [castN, Bool.not_eq_true', Bool.not_eq_false', decide_eq_true_eq, decide_eq_false_iff_not]; omega)) ?_ | refine IfK.yes (by first | rfl | assumption | exact nfA | exact ntA | exact decide_eq_true (by (try simp only [castN]); omega) | exact decide_eq_false (by (try simp only [castN]); omega) | (simp only [castN, Bool.not_eq_true', Bool.not_eq_false', decide_eq_true_eq, decide_eq_false_iff_not]; omega)) ?_ | (refine IfK.mk (fun hp => ?_) (fun hp => ?_) <;> (try simp only [castN, decide_eq_true_eq, decide_eq_false_iff_not, Bool.not_eq_true', Bool.not_eq_false', Decidable.not_not, Int.not_lt, Int.not_le] at hp)))
    | ((with_reducible show NeedK _ _ _ _); refine nK ?_)
    | ((with_reducible show DrawK _ _ _ _); refine dK ?_)
    | ((with_reducible show IdxK _ c _ _ _); refine IdxK.mk iK (eNode _) eK (node_get hyK) ?_)
    | ((with_reducible show IdxK _ c _ _ _); (obtain ⟨iK, y, eK, hyK, hnyK⟩ := node_at (l := l) (n := c) (by omega)); (obtain ⟨b1, b2, b3, b4, b5, b6, b7, b8, b9, b10⟩ := y); refine IdxK.mk iK (eNode _) eK (node_get hyK) ?_)
    | ((with_reducible show CallK _ _ 75 _ _ _ _); refine CallK.lit [] h29' c75 ⟨rfl, rfl, trivial⟩ rfl rfl ?_)) <;> (with_reducible ((conv => whnf); (conv => congr <;> reduce); repeat ((first | refine hK ?_ | refine sK ?_); (conv => whnf); (conv => congr <;> reduce))))
    | ((with_reducible show (_ ∧ _) ∧ _ ∧ _); refine ⟨⟨rfl, rfl⟩, ?_, ?_⟩ <;> with_reducible ((conv => whnf) <;> repeat' (first | exact trivial | (refine And.intro ?_ ?_ <;> (conv => whnf))))))
      all_goals first
        | refine bad3 _ (all_no hc ?_)
          (rw [Bool.eq_false_iff]; intro h; (first | simp only [rKid, isN, thereN, Bool.and_eq_true, Bool.or_eq_true, decide_eq_true_eq, ne_eq, ← List.length_eq_zero_iff, hnyK] at h | simp only [rKid, isN, thereN, Bool.and_eq_true, Bool.or_eq_true, decide_eq_true_eq, ne_eq, ← List.length_eq_zero_iff] at h); omega)
        | ((with_reducible show NextK _ _); refine NextK.mk (j + 1) ⟨by omega, good ?_⟩ (by omega) ⟨⟨rfl, rfl⟩, ⟨rfl, ⟨rfl, rfl⟩, ⟨rfl, rfl⟩, rfl, by rw [hse, hnyK]; first | (simp [show b1 = 1 by omega]; done) | (simp [show ¬ b1 = 1 by omega]; done), by show ((j + 1 : Nat) : Int) = (j : Int) + 1; omega, trivial⟩, ⟨⟨rfl, rfl, trivial⟩, trivial⟩, ⟨⟨rfl, rfl, rfl, rfl, rfl, rfl, rfl, rfl, rfl, rfl, trivial⟩, trivial⟩, trivial⟩)
          (simp only [rKid, isN, thereN, Bool.and_eq_true, Bool.or_eq_true, decide_eq_true_eq, ne_eq, ← List.length_eq_zero_iff, hnyK]; omega)
        | trace_state
    · have hjl : j = a7.length := by simp only [decide_eq_false_iff_not] at h1; omega
      rw [all_yes fun i c hc => hok i c (by have := (List.getElem?_eq_some_iff.1 hc).1; omega) hc, Bool.true_and]
      rw [hjl, List.take_length]
      have hel := elems_le l a7 a7.length
      rw [List.take_length] at hel
      have bad4 : ∀ b, rElems l ⟨a1, a2, a3, a4, a5, a6, a7, a8, a9, a10⟩ = false → (rElems l ⟨a1, a2, a3, a4, a5, a6, a7, a8, a9, a10⟩ && b) = false := fun b h => by rw [h]; rfl
      have bad5 : ∀ b c, shadedN l k ⟨a1, a2, a3, a4, a5, a6, a7, a8, a9, a10⟩ = false → (c && (shadedN l k ⟨a1, a2, a3, a4, a5, a6, a7, a8, a9, a10⟩ && b)) = false := fun b c h => by rw [h]; simp
      have good6 : rElems l ⟨a1, a2, a3, a4, a5, a6, a7, a8, a9, a10⟩ = true → shadedN l k ⟨a1, a2, a3, a4, a5, a6, a7, a8, a9, a10⟩ = true → ∀ b, rName ⟨a1, a2, a3, a4, a5, a6, a7, a8, a9, a10⟩ = b → (rElems l ⟨a1, a2, a3, a4, a5, a6, a7, a8, a9, a10⟩ && (shadedN l k ⟨a1, a2, a3, a4, a5, a6, a7, a8, a9, a10⟩ && rName ⟨a1, a2, a3, a4, a5, a6, a7, a8, a9, a10⟩)) = b := fun h1 h2 b h3 => by rw [h1, h2, h3]; rfl
      repeat' (first
    | (first
    | ((with_reducible show IfK _ _ _ _); first | refine IfK.ff ?_ | refine IfK.tt ?_ | refine IfK.no (by first | rfl | assumption | exact nfA | exact ntA | exact decide_eq_true (by (try simp only [castN]); omega) | exact decide_eq_false (by (try simp only [castN]); omega) | (simp only [castN, Bool.not_eq_true', Bool.not_eq_false', decide_eq_true_eq, decide_eq_false_iff_not]; omega)) ?_ | refine IfK.yes (by first | rfl | assumption | exact nfA | exact ntA | exact decide_eq_true (by (try simp only [castN]); omega) | exact decide_eq_false (by (try simp only [castN]); omega) | (simp only [castN, Bool.not_eq_true', Bool.not_eq_false', decide_eq_true_eq, decide_eq_false_iff_not]; omega)) ?_ | (refine IfK.mk (fun hp => ?_) (fun hp => ?_) <;> (try simp only [castN, decide_eq_true_eq, decide_eq_false_iff_not, Bool.not_eq_true', Bool.not_eq_false', Decidable.not_not, Int.not_lt, Int.not_le] at hp)))
    | ((with_reducible show NeedK _ _ _ _); refine nK ?_)
    | ((with_reducible show DrawK _ _ _ _); refine dK ?_)
    | ((with_reducible show IdxK _ a8 _ _ _); refine IdxK.mk iH (eNode _) eH (node_get hyH) ?_)
    | ((with_reducible show IdxK _ a8 _ _ _); (obtain ⟨iH, y, eH, hyH, hnyH⟩ := node_at (l := l) (n := a8) (by omega)); (obtain ⟨b1, b2, b3, b4, b5, b6, b7, b8, b9, b10⟩ := y); refine IdxK.mk iH (eNode _) eH (node_get hyH) ?_)
    | ((with_reducible show IdxK _ a9 _ _ _); refine IdxK.mk iU (eNode _) eU (node_get hyU) ?_)
    | ((with_reducible show IdxK _ a9 _ _ _); (obtain ⟨iU, y, eU, hyU, hnyU⟩ := node_at (l := l) (n := a9) (by omega)); (obtain ⟨b1, b2, b3, b4, b5, b6, b7, b8, b9, b10⟩ := y); refine IdxK.mk iU (eNode _) eU (node_get hyU) ?_)
    | ((with_reducible show CallK _ _ 72 _ _ _ _); refine CallK.lit [] h30 c72 ⟨rfl, trivial⟩ rfl rfl ?_)
    | ((with_reducible show CallK _ _ 73 _ _ _ _); refine CallK.lit [] h31 c73 ⟨rfl, trivial⟩ rfl rfl ?_)
    | ((with_reducible show CallK _ _ 43 _ _ _ _); refine CallK.lit [] h32 c43 ⟨rfl, trivial⟩ rfl rfl ?_)
    | ((with_reducible show CallK _ _ 76 _ _ _ _); refine CallK.lit [] h33 c76 ⟨rfl, trivial⟩ rfl rfl ?_)) <;> (with_reducible ((conv => whnf); (conv => congr <;> reduce); repeat ((first | refine hK ?_ | refine sK ?_); (conv => whnf); (conv => congr <;> reduce))))
    | ((with_reducible show (_ ∧ _) ∧ _ ∧ _); refine ⟨⟨rfl, rfl⟩, ?_, ?_⟩ <;> with_reducible ((conv => whnf) <;> repeat' (first | exact trivial | (refine And.intro ?_ ?_ <;> (conv => whnf))))))
      all_goals clear hok
      all_goals first
        | refine bad4 _ ?_
          (rw [Bool.eq_false_iff]; intro h; (first | simp only [rElems, isN, thereN, Bool.and_eq_true, Bool.or_eq_true, decide_eq_true_eq, ne_eq, ← List.length_eq_zero_iff, hlk] at h | simp only [rElems, isN, thereN, Bool.and_eq_true, Bool.or_eq_true, decide_eq_true_eq, ne_eq, ← List.length_eq_zero_iff] at h); omega)
        | refine bad5 _ _ ?_
          (rw [Bool.eq_false_iff]; intro h; by_cases e4 : a1 = 4
           · simp only [shadedN, if_pos e4, isN, thereN, Bool.and_eq_true, Bool.or_eq_true, decide_eq_true_eq, ne_eq] at h; (try simp only [hnyH] at h); (try simp only [hnyU] at h); omega
           · simp only [shadedN, if_neg e4, isN, thereN, Bool.and_eq_true, Bool.or_eq_true, decide_eq_true_eq, ne_eq] at h; (try simp only [hnyH] at h); (try simp only [hnyU] at h); omega)
        | refine good6 ?_ ?_ _ ?_
          ·
            (simp only [rElems, isN, thereN, Bool.and_eq_true, Bool.or_eq_true, decide_eq_true_eq, ne_eq, ← List.length_eq_zero_iff, hlk]; omega)
          ·
            (by_cases e4 : a1 = 4
             · simp only [shadedN, if_pos e4, isN, thereN, Bool.and_eq_true, Bool.or_eq_true, decide_eq_true_eq, ne_eq]; (try simp only [hnyH]); (try simp only [hnyU]); omega
             · simp only [shadedN, if_neg e4, isN, thereN, Bool.and_eq_true, Bool.or_eq_true, decide_eq_true_eq, ne_eq]; (try simp only [hnyH]); (try simp only [hnyU]); omega)
          · clear bad4 bad5 good6 hK hs hx h29 h30 h31 h32 h33 hD hP
            first | (simp_all [rName]; done) | (simp_all [rName]; omega)
        | trace_state
end Go.Proofs.Heir
end
