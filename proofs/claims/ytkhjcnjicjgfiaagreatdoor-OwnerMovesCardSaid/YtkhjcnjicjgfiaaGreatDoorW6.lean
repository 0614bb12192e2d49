/- Models, plain laws and contracts of functions of the given program; conditions as stated in each theorem. By an AI agent. -/
import Derived.Test.YtkhjcnjicjgfiaaGreatDoorW5
import Derived.Deep.RegionLaw
import Derived.Lib.SliceRun
import Derived.Laws.Tables
import Derived.Laws.CopyRow
import Derived.Sort.WalkB12
import Derived.Laws.StructEq
import Derived.Tactics
import Derived.Test.YtkhjcnjicjgfiaaGreatDoorW4
set_option linter.unusedSimpArgs false
set_option linter.unusedVariables false
namespace Go.Proofs.Heir
open Go Go.Am Go.RowKit Go.Lib
set_option maxRecDepth 100000
set_option maxHeartbeats 8000000
set_option maxHeartbeats 8000000
structure RF (l : List NodeM) (m : Int) : Prop where
  head : headOK ⟨l, m⟩ = true
  nam : ∀ n, thereN l n = true → namedN (nd l n) = true
  own : ∀ n, thereN l n = true → isN l (nd l n).doc 0 = true ∧ ((nd l n).kind = 0 → (nd l n).doc = n)
  par : ∀ n, thereN l n = true → (nd l n).parent ≠ -1 → ((nd l n).kind = 1 ∨ (nd l n).kind = 2) ∧ thereN l (nd l n).parent = true ∧ holdK (nd l (nd l n).parent).kind = true ∧ n ∈ (nd l (nd l n).parent).kids
  kid : ∀ n, thereN l n = true → ∀ c ∈ (nd l n).kids, thereN l c = true ∧ (nd l c).parent = n ∧ (nd l c).doc = (nd l n).doc ∧ ((nd l c).kind = 1 ∨ (nd l c).kind = 2 ∧ (nd l n).kind ≠ 0)
  dup : ∀ n, thereN l n = true → (nd l n).kids.Nodup
  hold : ∀ n, thereN l n = true → (nd l n).kids ≠ [] → holdK (nd l n).kind = true
  elems : ∀ n, thereN l n = true → (nd l n).kind = 0 → elemsN l (nd l n).kids ≤ 1
  host : ∀ n, thereN l n = true → (nd l n).kind = 4 → isN l (nd l n).host 1 = true ∧ (nd l (nd l n).host).under = n ∧ (nd l (nd l n).host).doc = (nd l n).doc
  noh : ∀ n, thereN l n = true → (nd l n).kind ≠ 4 → (nd l n).host = -1
  und : ∀ n, thereN l n = true → (nd l n).under ≠ -1 → (nd l n).kind = 1 ∧ isN l (nd l n).under 4 = true ∧ (nd l (nd l n).under).host = n
  ends : ∀ n, thereN l n = true → endsN l l.length n = true
theorem nodeOK_iff {l : List NodeM} {n : Int} {x : NodeM} : nodeOK l n x = true ↔ namedN x = true ∧ (isN l x.doc 0 = true ∧ (x.kind = 0 → x.doc = n)) ∧ (x.parent ≠ -1 → (x.kind = 1 ∨ x.kind = 2) ∧ thereN l x.parent = true ∧ holdK (nd l x.parent).kind = true ∧ n ∈ (nd l x.parent).kids) ∧
    (∀ c ∈ x.kids, thereN l c = true ∧ (nd l c).parent = n ∧ (nd l c).doc = x.doc ∧ ((nd l c).kind = 1 ∨ (nd l c).kind = 2 ∧ x.kind ≠ 0)) ∧ x.kids.Nodup ∧ (x.kids ≠ [] → holdK x.kind = true) ∧ (x.kind = 0 → elemsN l x.kids ≤ 1) ∧
    (x.kind = 4 → isN l x.host 1 = true ∧ (nd l x.host).under = n ∧ (nd l x.host).doc = x.doc) ∧ (x.kind ≠ 4 → x.host = -1) ∧ (x.under ≠ -1 → x.kind = 1 ∧ isN l x.under 4 = true ∧ (nd l x.under).host = n) := by
  unfold nodeOK ownedN hungN bearsN shadedN hasI
  simp only [Bool.and_eq_true, Bool.or_eq_true, decide_eq_true_eq]
  rw [kidsOK_iff]
  have hk : ∀ c, kidP l n x c = true ↔ thereN l c = true ∧ (nd l c).parent = n ∧ (nd l c).doc = x.doc ∧ ((nd l c).kind = 1 ∨ (nd l c).kind = 2 ∧ x.kind ≠ 0) := fun c => by
    unfold kidP
    simp only [Bool.and_eq_true, Bool.or_eq_true, decide_eq_true_eq]
  simp only [hk]
  by_cases e4 : x.kind = 4
  · rw [if_pos e4]
    simp only [Bool.and_eq_true, decide_eq_true_eq]
    constructor
    · rintro ⟨a, ⟨b1, b2⟩, c, ⟨⟨d1, d2, _⟩, e1, e2⟩, f, g⟩
      exact ⟨a, ⟨b1, fun h => b2.resolve_left (fun q => q h)⟩, fun h => let q := c.resolve_left h; ⟨q.1.1.1, q.1.1.2, q.1.2, q.2⟩, d1, d2, fun h => e1.resolve_right h, fun h => e2.resolve_left (fun q => q h), fun _ => ⟨f.1.1, f.1.2, f.2⟩, fun h => absurd e4 h, fun h => let q := g.resolve_left h; ⟨q.1.1, q.1.2, q.2⟩⟩
    · rintro ⟨a, ⟨b1, b2⟩, c, d1, d2, e1, e2, f, _, g⟩
      refine ⟨a, ⟨b1, ?_⟩, ?_, ⟨⟨d1, d2, fun _ _ => by simp⟩, ?_, ?_⟩, ?_, ?_⟩
      · by_cases h : x.kind = 0
        · exact .inr (b2 h)
        · exact .inl h
      · by_cases h : x.parent = -1
        · exact .inl h
        · have q := c h; exact .inr ⟨⟨⟨q.1, q.2.1⟩, q.2.2.1⟩, q.2.2.2⟩
      · by_cases h : x.kids = []
        · exact .inr h
        · exact .inl (e1 h)
      · by_cases h : x.kind = 0
        · exact .inr (e2 h)
        · exact .inl h
      · have q := f e4; exact ⟨⟨q.1, q.2.1⟩, q.2.2⟩
      · by_cases h : x.under = -1
        · exact .inl h
        · have q := g h; exact .inr ⟨⟨q.1, q.2.1⟩, q.2.2⟩
  · rw [if_neg e4]
    simp only [decide_eq_true_eq]
    constructor
    · rintro ⟨a, ⟨b1, b2⟩, c, ⟨⟨d1, d2, _⟩, e1, e2⟩, f, g⟩
      exact ⟨a, ⟨b1, fun h => b2.resolve_left (fun q => q h)⟩, fun h => let q := c.resolve_left h; ⟨q.1.1.1, q.1.1.2, q.1.2, q.2⟩, d1, d2, fun h => e1.resolve_right h, fun h => e2.resolve_left (fun q => q h), fun h => absurd h e4, fun _ => f, fun h => let q := g.resolve_left h; ⟨q.1.1, q.1.2, q.2⟩⟩
    · rintro ⟨a, ⟨b1, b2⟩, c, d1, d2, e1, e2, _, f, g⟩
      refine ⟨a, ⟨b1, ?_⟩, ?_, ⟨⟨d1, d2, fun _ _ => by simp⟩, ?_, ?_⟩, f e4, ?_⟩
      · by_cases h : x.kind = 0
        · exact .inr (b2 h)
        · exact .inl h
      · by_cases h : x.parent = -1
        · exact .inl h
        · have q := c h; exact .inr ⟨⟨⟨q.1, q.2.1⟩, q.2.2.1⟩, q.2.2.2⟩
      · by_cases h : x.kids = []
        · exact .inr h
        · exact .inl (e1 h)
      · by_cases h : x.kind = 0
        · exact .inr (e2 h)
        · exact .inl h
      · by_cases h : x.under = -1
        · exact .inl h
        · have q := g h; exact .inr ⟨⟨q.1, q.2.1⟩, q.2.2⟩
theorem rf_iff {l : List NodeM} {m : Int} : rightF ⟨l, m⟩ = true ↔ RF l m := by
  unfold rightF
  simp only [Bool.and_eq_true]
  rw [all_there (fun n x => nodeOK l n x), all_there (fun n _ => endsN l l.length n)]
  simp only [nodeOK_iff]
  constructor
  · rintro ⟨h1, h2, h3⟩
    exact ⟨h1, fun n hn => (h2 n hn).1, fun n hn => (h2 n hn).2.1, fun n hn => (h2 n hn).2.2.1, fun n hn => (h2 n hn).2.2.2.1, fun n hn => (h2 n hn).2.2.2.2.1, fun n hn => (h2 n hn).2.2.2.2.2.1, fun n hn => (h2 n hn).2.2.2.2.2.2.1, fun n hn => (h2 n hn).2.2.2.2.2.2.2.1, fun n hn => (h2 n hn).2.2.2.2.2.2.2.2.1, fun n hn => (h2 n hn).2.2.2.2.2.2.2.2.2, h3⟩
  · intro R
    exact ⟨R.head, fun n hn => ⟨R.nam n hn, R.own n hn, R.par n hn, R.kid n hn, R.dup n hn, R.hold n hn, R.elems n hn, R.host n hn, R.noh n hn, R.und n hn⟩, R.ends⟩
def setN (l : List NodeM) (n : Int) (g : NodeM → NodeM) : List NodeM := l.set n.toNat (g (nd l n))
theorem len_set (l : List NodeM) (n : Int) (g : NodeM → NodeM) : (setN l n g).length = l.length := List.length_set ..
theorem there_len {l l' : List NodeM} (h : l'.length = l.length) (n : Int) : thereN l' n = thereN l n := by unfold thereN; rw [h]
theorem nd_set {l : List NodeM} {n x : Int} (g : NodeM → NodeM) (hn : thereN l n = true) (hx : thereN l x = true) : nd (setN l n g) x = if x = n then g (nd l n) else nd l x := by
  have h1 := there_pos hn
  have h2 := there_pos hx
  show ((l.set n.toNat (g (nd l n)))[x.toNat]?).getD noNode = _
  rw [List.getElem?_set]
  by_cases e : x = n
  · subst e
    rw [if_pos rfl, if_pos (by omega), if_pos rfl]; rfl
  · rw [if_neg (by omega), if_neg e]; rfl
structure LikeN (x y : NodeM) : Prop where
  kind : x.kind = y.kind
  name : x.name = y.name
  is : x.is = y.is
  data : x.data = y.data
  attrs : x.attrs = y.attrs
  host : x.host = y.host
  under : x.under = y.under
theorem LikeN.refl (x : NodeM) : LikeN x x := ⟨rfl, rfl, rfl, rfl, rfl, rfl, rfl⟩
theorem LikeN.trans {x y z : NodeM} (h : LikeN x y) (k : LikeN y z) : LikeN x z := ⟨h.1.trans k.1, h.2.trans k.2, h.3.trans k.3, h.4.trans k.4, h.5.trans k.5, h.6.trans k.6, h.7.trans k.7⟩
theorem LikeN.nam {x y : NodeM} (h : LikeN x y) : namedN x = namedN y := by unfold namedN; rw [h.kind, h.name, h.is, h.data, h.attrs]
section
variable {l l' : List NodeM} {m : Int}
theorem isN_len (hl : l'.length = l.length) (hs : ∀ x, thereN l x = true → LikeN (nd l' x) (nd l x)) (a k : Int) : isN l' a k = isN l a k := by
  unfold isN
  rw [there_len hl]
  cases h : thereN l a with
  | false => rfl
  | true => rw [(hs a h).kind]
theorem elems_len (hs : ∀ x, thereN l x = true → LikeN (nd l' x) (nd l x)) {cs : List Int} (h : ∀ c ∈ cs, thereN l c = true) : elemsN l' cs = elemsN l cs := by
  unfold elemsN
  exact List.countP_congr fun c hc => by rw [(hs c (h c hc)).kind]
theorem RF.pos (R : RF l m) : thereN l 0 = true := by
  have := R.head
  unfold headOK at this
  simp only [Bool.and_eq_true, decide_eq_true_eq] at this
  unfold thereN
  simp; omega
theorem RF.chg (R : RF l m) (hl : l'.length = l.length) (hs : ∀ x, thereN l x = true → LikeN (nd l' x) (nd l x))
    (own : ∀ n, thereN l n = true → isN l (nd l' n).doc 0 = true ∧ ((nd l n).kind = 0 → (nd l' n).doc = n))
    (par : ∀ n, thereN l n = true → (nd l' n).parent ≠ -1 → ((nd l n).kind = 1 ∨ (nd l n).kind = 2) ∧ thereN l (nd l' n).parent = true ∧ holdK (nd l (nd l' n).parent).kind = true ∧ n ∈ (nd l' (nd l' n).parent).kids)
    (kid : ∀ n, thereN l n = true → ∀ c ∈ (nd l' n).kids, thereN l c = true ∧ (nd l' c).parent = n ∧ (nd l' c).doc = (nd l' n).doc ∧ ((nd l c).kind = 1 ∨ (nd l c).kind = 2 ∧ (nd l n).kind ≠ 0))
    (dup : ∀ n, thereN l n = true → (nd l' n).kids.Nodup) (hold : ∀ n, thereN l n = true → (nd l' n).kids ≠ [] → holdK (nd l n).kind = true)
    (elems : ∀ n, thereN l n = true → (nd l n).kind = 0 → elemsN l (nd l' n).kids ≤ 1)
    (hdoc : ∀ n, thereN l n = true → (nd l n).kind = 4 → (nd l' (nd l n).host).doc = (nd l' n).doc)
    (ends : ∀ n, thereN l n = true → endsN l' l.length n = true) : RF l' m := by
  have T := there_len hl
  have I := isN_len hl hs
  have isT : ∀ {a k : Int}, isN l a k = true → thereN l a = true := fun h => by unfold isN at h; rw [Bool.and_eq_true] at h; exact h.1
  refine ⟨?_, fun n hn => ?_, fun n hn => ?_, fun n hn h => ?_, fun n hn c hc => ?_, fun n hn => ?_, fun n hn h => ?_, fun n hn h => ?_, fun n hn h => ?_, fun n hn h => ?_, fun n hn h => ?_, fun n hn => ?_⟩
  · have := R.head
    unfold headOK at this ⊢
    rw [hl, (hs 0 R.pos).kind]; exact this
  all_goals rw [T] at hn
  · rw [(hs n hn).nam]; exact R.nam n hn
  · rw [I, (hs n hn).kind]; exact own n hn
  · have q := par n hn h
    rw [T, (hs n hn).kind, (hs _ q.2.1).kind]; exact q
  · have q := kid n hn c hc
    rw [T, (hs n hn).kind, (hs c q.1).kind]; exact q
  · exact dup n hn
  · rw [(hs n hn).kind]; exact hold n hn h
  · rw [(hs n hn).kind] at h
    rw [elems_len hs fun c hc => (kid n hn c hc).1]; exact elems n hn h
  · rw [(hs n hn).kind] at h
    have q := R.host n hn h
    rw [I, (hs n hn).host, (hs _ (isT q.1)).under]
    exact ⟨q.1, q.2.1, hdoc n hn h⟩
  · rw [(hs n hn).kind] at h
    rw [(hs n hn).host]; exact R.noh n hn h
  · rw [(hs n hn).under] at h
    have q := R.und n hn h
    rw [I, (hs n hn).kind, (hs n hn).under, (hs _ (isT q.2.1)).host]; exact q
  · rw [hl]; exact ends n hn
theorem RF.tree (R : RF l m) : U.Tree l := U.tree_of (f := ⟨l, m⟩) (rf_iff.2 R)
theorem RF.up (R : RF l m) {n : Int} (hn : thereN l n = true) (h : upN (nd l n) ≠ -1) : thereN l (upN (nd l n)) = true := up_there R.tree n hn h
theorem fin_cut {g g' : Int → Int} {P : Int → Prop} (hg : ∀ x, P x → g' x = g x ∨ g' x = -1) (hP : ∀ x, P x → g x ≠ -1 → P (g x)) : ∀ {k : Nat} {x : Int}, P x → finG g k x = true → finG g' k x = true
  | 0, _, _, h => by simp [finG] at h
  | k + 1, x, hx, h => by
    unfold finG at h ⊢
    rcases hg x hx with e | e
    · rw [e]
      by_cases c : g x = -1
      · rw [if_pos c]
      · rw [if_neg c] at h ⊢; exact fin_cut hg hP (hP x hx c) h
    · rw [if_pos e]
theorem fin_avoid {g g' : Int → Int} {P : Int → Prop} {k : Int} (hg : ∀ x, P x → x ≠ k → g' x = g x) (hP : ∀ x, P x → g x ≠ -1 → P (g x)) : ∀ {j : Nat} {x : Int}, P x → finG g j x = true → k ∉ chG g j x → finG g' j x = true ∧ chG g' j x = chG g j x
  | 0, _, _, h, _ => by simp [finG] at h
  | j + 1, x, hx, h, hk => by
    unfold finG at h ⊢
    unfold chG at hk ⊢
    have hne : x ≠ k := fun e => hk (e ▸ List.mem_cons_self)
    rw [hg x hx hne]
    by_cases c : g x = -1
    · rw [if_pos c, if_pos c, if_pos c]; exact ⟨rfl, rfl⟩
    · rw [if_neg c] at h hk ⊢
      rw [if_neg c, if_neg c]
      have := fin_avoid hg hP (hP x hx c) h (fun q => hk (List.mem_cons_of_mem _ q))
      exact ⟨this.1, by rw [this.2]⟩
theorem RF.not_self (R : RF l m) {n : Int} (hn : thereN l n = true) : upN (nd l n) ≠ n := fun e => by
  have hp := there_pos hn
  have h := U.way_step R.tree hn (by rw [e]; omega)
  rw [e] at h
  have := congrArg List.length h
  simp at this
theorem RF.kind_par (R : RF l m) {n : Int} (hn : thereN l n = true) (h : (nd l n).parent ≠ -1) : upN (nd l n) = (nd l n).parent := by
  unfold upN; rw [if_neg h]
def outL (l : List NodeM) (n : Int) : List NodeM := if (nd l n).parent = -1 then l else setN (setN l (nd l n).parent fun x => { x with kids := x.kids.erase n }) n fun x => { x with parent := -1 }
theorem len_out (l : List NodeM) (n : Int) : (outL l n).length = l.length := by
  unfold outL; split
  · rfl
  · rw [len_set, len_set]
theorem nd_out (R : RF l m) {n x : Int} (hn : thereN l n = true) (hp : (nd l n).parent ≠ -1) (hx : thereN l x = true) :
    nd (outL l n) x = if x = n then { nd l n with parent := -1 } else if x = (nd l n).parent then { nd l x with kids := (nd l x).kids.erase n } else nd l x := by
  have hpt := (R.par n hn hp).2.1
  have hne : (nd l n).parent ≠ n := by have := R.not_self hn; rwa [R.kind_par hn hp] at this
  unfold outL
  rw [if_neg hp, nd_set _ (by rw [there_len (len_set ..)]; exact hn) (by rw [there_len (len_set ..)]; exact hx)]
  by_cases e : x = n
  · rw [if_pos e, if_pos e, nd_set _ hpt hn, if_neg (fun q => hne q.symm)]
  · rw [if_neg e, if_neg e, nd_set _ hpt hx]
    by_cases c : x = (nd l n).parent
    · rw [if_pos c, if_pos c, ← c]
    · rw [if_neg c, if_neg c]
theorem out_like (R : RF l m) {n : Int} (hn : thereN l n = true) (x : Int) (hx : thereN l x = true) : LikeN (nd (outL l n) x) (nd l x) ∧ (nd (outL l n) x).doc = (nd l x).doc ∧ ((nd (outL l n) x).parent = if x = n then -1 else (nd l x).parent) ∧ ((nd (outL l n) x).kids = if x = (nd l n).parent then (nd l x).kids.erase n else (nd l x).kids) := by
  by_cases hp : (nd l n).parent = -1
  · have h0 := there_pos hx
    unfold outL
    rw [if_pos hp]
    refine ⟨.refl _, rfl, ?_, ?_⟩
    · split
      · rename_i e; rw [e, hp]
      · rfl
    · rw [if_neg (by omega)]
  · have hne : (nd l n).parent ≠ n := by have := R.not_self hn; rwa [R.kind_par hn hp] at this
    rw [nd_out R hn hp hx]
    by_cases e : x = n
    · subst e
      rw [if_pos rfl, if_pos rfl, if_neg (fun q => hne q.symm)]
      exact ⟨⟨rfl, rfl, rfl, rfl, rfl, rfl, rfl⟩, rfl, rfl, rfl⟩
    · rw [if_neg e, if_neg e]
      by_cases c : x = (nd l n).parent
      · rw [if_pos c, if_pos c]
        exact ⟨⟨rfl, rfl, rfl, rfl, rfl, rfl, rfl⟩, rfl, rfl, rfl⟩
      · rw [if_neg c, if_neg c]
        exact ⟨.refl _, rfl, rfl, rfl⟩
theorem out_up (R : RF l m) {n : Int} (hn : thereN l n = true) (hk : (nd l n).kind = 1 ∨ (nd l n).kind = 2 ∨ (nd l n).parent = -1) (x : Int) (hx : thereN l x = true) : upN (nd (outL l n) x) = if x = n ∧ (nd l n).parent ≠ -1 then -1 else upN (nd l x) := by
  obtain ⟨h1, _, h3, _⟩ := out_like R hn x hx
  by_cases e : x = n
  · subst e
    by_cases hp : (nd l x).parent = -1
    · rw [if_neg (fun q => q.2 hp)]
      unfold upN
      rw [h3, if_pos rfl, if_pos rfl, if_pos hp, h1.host]
    · rw [if_pos ⟨rfl, hp⟩]
      unfold upN
      rw [h3, if_pos rfl, if_pos rfl, h1.host]
      exact R.noh x hx (by have := (R.par x hx hp).1; omega)
  · rw [if_neg (fun q => e q.1)]
    unfold upN
    rw [h3, if_neg e, h1.host]
theorem out_right (R : RF l m) {n : Int} (hn : thereN l n = true) : RF (outL l n) m := by
  by_cases hp : (nd l n).parent = -1
  · have e : outL l n = l := by unfold outL; rw [if_pos hp]
    rw [e]; exact R
  have L := out_like R hn
  have hpt := (R.par n hn hp).2.1
  have hkn := (R.par n hn hp).1
  refine R.chg (len_out l n) (fun x hx => (L x hx).1) (fun x hx => ?_) (fun x hx h => ?_) (fun x hx c hc => ?_) (fun x hx => ?_) (fun x hx h => ?_) (fun x hx h => ?_) (fun x hx h => ?_) (fun x hx => ?_)
  · rw [(L x hx).2.1]; exact R.own x hx
  · rw [(L x hx).2.2.1] at h ⊢
    by_cases e : x = n
    · rw [if_pos e] at h; exact absurd rfl h
    · rw [if_neg e] at h ⊢
      obtain ⟨q1, q2, q3, q4⟩ := R.par x hx h
      refine ⟨q1, q2, q3, ?_⟩
      rw [(L _ q2).2.2.2]
      split
      · exact (List.mem_erase_of_ne e).2 q4
      · exact q4
  · have hc' : c ∈ (nd l x).kids := by
      rw [(L x hx).2.2.2] at hc
      split at hc
      · exact List.mem_of_mem_erase hc
      · exact hc
    obtain ⟨q1, q2, q3, q4⟩ := R.kid x hx c hc'
    have hcn : c ≠ n := fun e => by
      subst e
      rw [(L x hx).2.2.2, if_pos q2.symm] at hc
      exact (List.Nodup.mem_erase_iff (R.dup x hx)).1 hc |>.1 rfl
    rw [(L c q1).2.2.1, if_neg hcn, (L c q1).2.1, (L x hx).2.1]
    exact ⟨q1, q2, q3, q4⟩
  · rw [(L x hx).2.2.2]
    split
    · exact (R.dup x hx).erase _
    · exact R.dup x hx
  · refine R.hold x hx fun e => h ?_
    rw [(L x hx).2.2.2, e]; simp
  · rw [(L x hx).2.2.2]
    split
    · exact Nat.le_trans (List.Sublist.countP_le List.erase_sublist) (R.elems x hx h)
    · exact R.elems x hx h
  · have q := (R.host x hx h).1
    have ht : thereN l (nd l x).host = true := by unfold isN at q; rw [Bool.and_eq_true] at q; exact q.1
    rw [(L _ ht).2.1, (L x hx).2.1]; exact (R.host x hx h).2.2
  · rw [ends_G]
    refine fin_cut (g := fun n => upN (nd l n)) (P := fun x => thereN l x = true) (fun y hy => ?_) (fun y hy h => R.up hy h) hx (by rw [← ends_G]; exact R.ends x hx)
    have := out_up R hn (by rcases hkn with k | k <;> simp [k]) y hy
    simp only [this]
    split
    · exact .inr rfl
    · exact .inl rfl
def insL (cs : List Int) (b k : Int) : List Int := if b = -1 then cs ++ [k] else cs.takeWhile (fun c => decide (c ≠ b)) ++ k :: cs.dropWhile (fun c => decide (c ≠ b))
def hangL (l : List NodeM) (k p b : Int) : List NodeM := setN (setN l p fun x => { x with kids := insL x.kids b k }) k fun x => { x with parent := p }
def docL (l : List NodeM) (s : List Int) (d : Int) : List NodeM := s.foldl (fun l k => setN l k fun x => { x with doc := d }) l
end
end Go.Proofs.Heir
namespace Go.Proofs.Heir
open Go Go.Am Go.RowKit Go.Lib
set_option maxRecDepth 100000
set_option maxHeartbeats 8000000
structure NoteM where
 kind : Int
 node : Int
 src : Int
 dst : Int
 name : ByteArray
 had : Bool
 has : Bool
 old : ByteArray
 new : ByteArray
 deriving DecidableEq
@[reducible] def eNote (x : NoteM) : AV := .agg [eInt x.kind, eInt x.node, eInt x.src, eInt x.dst, eStr x.name, eBool x.had, eBool x.has, eStr x.old, eStr x.new]
def oNote (x : NoteM) : AV := eNote x
end Go.Proofs.Heir
namespace Go.Proofs.Heir
open Go Go.Am Go.RowKit Go.Lib
set_option maxRecDepth 100000
set_option maxHeartbeats 8000000
set_option maxHeartbeats 8000000
section
variable {l l' : List NodeM} {m : Int}
def overL (l : List NodeM) (k d : Int) : List NodeM := if (nd (outL l k) k).doc = d then outL l k else docL (outL l k) (U.ordN (outL l k) (outL l k).length k) d
def stepL (l : List NodeM) (k p b : Int) : List NodeM := hangL (overL l k (nd l p).doc) k p b
end
def elsU (l : List NodeM) (n : Int) : List Int := (U.ordN l l.length n).filter fun k => decide ((nd l k).kind = 1)
def conL (l : List NodeM) (n : Int) : Bool := decide ((nd l (topN l n)).kind = 0)
def tellL (l : List NodeM) (n : Int) (x : NoteM) : List NoteM := (elsU l n).map fun k => { x with node := k }
def bareNote (kind src dst : Int) : NoteM := ⟨kind, 0, src, dst, ⟨#[]⟩, false, false, ⟨#[]⟩, ⟨#[]⟩⟩
def outS (s : List NodeM × List NoteM) (n : Int) : List NodeM × List NoteM := if (nd s.1 n).parent = -1 then s else (outL s.1 n, s.2 ++ if conL s.1 n = true then tellL s.1 n (bareNote 2 0 0) else [])
def overS (s : List NodeM × List NoteM) (k d : Int) : List NodeM × List NoteM := if (nd (outS s k).1 k).doc = d then outS s k else (overL s.1 k d, (outS s k).2 ++ tellL (overL s.1 k d) k (bareNote 3 (nd (outS s k).1 k).doc d))
def stepS (p b : Int) (s : List NodeM × List NoteM) (k : Int) : List NodeM × List NoteM := (stepL s.1 k p b, (overS s k (nd s.1 p).doc).2 ++ if conL (stepL s.1 k p b) k = true then tellL (stepL s.1 k p b) k (bareNote 1 0 0) else [])
def partsL (l : List NodeM) (n : Int) : List Int := if (nd l n).kind = 3 then (nd l n).kids else [n]
def putS (s : List NodeM × List NoteM) (n p b : Int) : List NodeM × List NoteM := (partsL s.1 n).foldl (stepS p b) (if (nd s.1 n).kind = 3 then (partsL s.1 n).foldl outS s else s)
theorem outS_fst (s : List NodeM × List NoteM) (n : Int) : (outS s n).1 = outL s.1 n := by
  unfold outS
  by_cases h : (nd s.1 n).parent = -1
  · rw [if_pos h]; unfold outL; rw [if_pos h]
  · rw [if_neg h]
section
variable {l l' : List NodeM} {m : Int}
end
section
variable {l : List NodeM} {m : Int}
theorem RF.kinds (R : RF l m) {n : Int} (hn : thereN l n = true) : 0 ≤ (nd l n).kind ∧ (nd l n).kind ≤ 4 := (named_kind.1 (R.nam n hn)).1
end
section
variable {l l' : List NodeM} {m : Int}
end
def removeM (f : ForM) (n : Int) : ForM × List NoteM × Int := if (rightF f && thereN f.nodes n) = true then (if (nd f.nodes n).parent = -1 then (f, [], 6) else (⟨(outS (f.nodes, []) n).1, f.most⟩, (outS (f.nodes, []) n).2, 0)) else (f, [], 1)
section
variable {l l' : List NodeM} {m : Int}
theorem removeM_ok (R : RF l m) {n : Int} (hn : thereN l n = true) (hp : (nd l n).parent ≠ -1) : removeM ⟨l, m⟩ n = (⟨outL l n, m⟩, (if conL l n = true then tellL l n (bareNote 2 0 0) else []), 0) := by
  unfold removeM
  rw [if_pos (by rw [rf_iff.2 R, hn]; rfl), if_neg hp, outS_fst]
  unfold outS
  rw [if_neg hp, List.nil_append]
theorem removeM_no (R : RF l m) {n : Int} (hn : thereN l n = true) (hp : (nd l n).parent = -1) : removeM ⟨l, m⟩ n = (⟨l, m⟩, [], 6) := by
  unfold removeM
  rw [if_pos (by rw [rf_iff.2 R, hn]; rfl), if_pos hp]
end
section
variable {l l' : List NodeM} {m : Int}
end
def b2i (b : Bool) : Int := if b = true then 1 else 0
def noteS (s : Int × Int) (x : NoteM) : Option (Int × Int) :=
  match (if x.kind = 1 then some (s.1 + 1, s.2) else if x.kind = 2 then some (s.1 - 1, s.2) else if x.kind = 3 then (if x.src ≠ s.2 ∨ x.dst = s.2 ∨ s.1 ≠ 0 then none else some (s.1, x.dst)) else some s : Option (Int × Int)) with
  | none => none
  | some t => if t.1 < 0 ∨ 1 < t.1 then none else some t
def runN : Int × Int → List NoteM → Option (Int × Int)
  | s, [] => some s
  | s, x :: r => match noteS s x with
    | none => none
    | some t => runN t r
theorem runN_app : ∀ (a b : List NoteM) (s : Int × Int), runN s (a ++ b) = match runN s a with
    | none => none
    | some t => runN t b
  | [], b, s => rfl
  | x :: a, b, s => by
    show (match noteS s x with | none => none | some t => runN t (a ++ b)) = match (match noteS s x with | none => none | some t => runN t a) with | none => none | some t => runN t b
    cases noteS s x with
    | none => rfl
    | some t => exact runN_app a b t
def notesOf (n : Int) (ns : List NoteM) : List NoteM := ns.filter fun x => decide (x.node = n)
theorem notesOf_app (n : Int) (a b : List NoteM) : notesOf n (a ++ b) = notesOf n a ++ notesOf n b := List.filter_append ..
structure Told (l l' : List NodeM) (ns : List NoteM) : Prop where
  el : ∀ x ∈ ns, thereN l x.node = true ∧ (nd l x.node).kind = 1
  run : ∀ n, thereN l n = true → (nd l n).kind = 1 → runN (b2i (conL l n), (nd l n).doc) (notesOf n ns) = some (b2i (conL l' n), (nd l' n).doc)
theorem Told.nil (l : List NodeM) : Told l l [] := ⟨fun x hx => by simp at hx, fun n _ _ => rfl⟩
theorem Told.trans {a b c : List NodeM} {x y : List NoteM} (hl : b.length = a.length) (hk : ∀ n, thereN a n = true → (nd b n).kind = (nd a n).kind) (h : Told a b x) (k : Told b c y) : Told a c (x ++ y) := by
  have T := there_len hl
  refine ⟨fun z hz => ?_, fun n hn h1 => ?_⟩
  · rcases List.mem_append.1 hz with q | q
    · exact h.el z q
    · have := k.el z q
      rw [T] at this
      exact ⟨this.1, by rw [← hk _ this.1]; exact this.2⟩
  · rw [notesOf_app, runN_app, h.run n hn h1]
    exact k.run n (by rw [T]; exact hn) (by rw [hk n hn]; exact h1)
section
variable {l l' : List NodeM} {m : Int}
def NoAtt (ns : List NoteM) : Prop := ∀ x ∈ ns, x.kind ≠ 4
theorem NoAtt.nil : NoAtt [] := fun x hx => by simp at hx
theorem NoAtt.app {a b : List NoteM} (h : NoAtt a) (k : NoAtt b) : NoAtt (a ++ b) := fun x hx => (List.mem_append.1 hx).elim (h x) (k x)
end
section
variable {l l' : List NodeM} {m : Int}
end
structure SameN (x y : NodeM) : Prop where
  kind : x.kind = y.kind
  parent : x.parent = y.parent
  kids : x.kids = y.kids
  host : x.host = y.host
  under : x.under = y.under
  doc : x.doc = y.doc
theorem SameN.refl (x : NodeM) : SameN x x := ⟨rfl, rfl, rfl, rfl, rfl, rfl⟩
section
variable {l l' : List NodeM} {m : Int}
theorem isN_same (hl : l'.length = l.length) (hs : ∀ x, thereN l x = true → SameN (nd l' x) (nd l x)) (a k : Int) : isN l' a k = isN l a k := by
  unfold isN
  rw [there_len hl]
  cases h : thereN l a with
  | false => rfl
  | true => rw [(hs a h).kind]
theorem upN_same {x y : NodeM} (h : SameN x y) : upN x = upN y := by unfold upN; rw [h.parent, h.host]
theorem RF.same (R : RF l m) (hl : l'.length = l.length) (hs : ∀ x, thereN l x = true → SameN (nd l' x) (nd l x)) (hn : ∀ x, thereN l x = true → namedN (nd l' x) = true) : RF l' m := by
  have T := there_len hl
  have I := isN_same hl hs
  have isT : ∀ {a k : Int}, isN l a k = true → thereN l a = true := fun h => by unfold isN at h; rw [Bool.and_eq_true] at h; exact h.1
  refine ⟨?_, fun n h0 => ?_, fun n h0 => ?_, fun n h0 h => ?_, fun n h0 c hc => ?_, fun n h0 => ?_, fun n h0 h => ?_, fun n h0 h => ?_, fun n h0 h => ?_, fun n h0 h => ?_, fun n h0 h => ?_, fun n h0 => ?_⟩
  · have := R.head
    unfold headOK at this ⊢
    rw [hl, (hs 0 R.pos).kind]; exact this
  all_goals rw [T] at h0
  all_goals have S := hs n h0
  · exact hn n h0
  · rw [I, S.kind, S.doc]; exact R.own n h0
  · rw [S.parent] at h ⊢
    have q := R.par n h0 h
    rw [T, S.kind, (hs _ q.2.1).kind, (hs _ q.2.1).kids]; exact q
  · rw [S.kids] at hc
    have q := R.kid n h0 c hc
    rw [T, S.kind, S.doc, (hs c q.1).kind, (hs c q.1).parent, (hs c q.1).doc]; exact q
  · rw [S.kids]; exact R.dup n h0
  · rw [S.kids] at h; rw [S.kind]; exact R.hold n h0 h
  · rw [S.kind] at h
    rw [S.kids]
    have : elemsN l' (nd l n).kids = elemsN l (nd l n).kids := by
      unfold elemsN
      exact List.countP_congr fun c hc => by rw [(hs c (R.kid n h0 c hc).1).kind]
    rw [this]; exact R.elems n h0 h
  · rw [S.kind] at h
    have q := R.host n h0 h
    rw [I, S.host, S.doc, (hs _ (isT q.1)).under, (hs _ (isT q.1)).doc]; exact q
  · rw [S.kind] at h
    rw [S.host]; exact R.noh n h0 h
  · rw [S.under] at h
    have q := R.und n h0 h
    rw [I, S.kind, S.under, (hs _ (isT q.2.1)).host]; exact q
  · rw [hl, ends_G]
    refine fin_cut (g := fun n => upN (nd l n)) (P := fun x => thereN l x = true) (fun y hy => .inl (upN_same (hs y hy))) (fun y hy h => R.up hy h) h0 (by rw [← ends_G]; exact R.ends n h0)
end
theorem chP_G (l : List NodeM) : ∀ (m : Nat) (n : Int), chN l m n = chG (fun n => (nd l n).parent) m n
  | 0, _ => rfl
  | m + 1, n => by unfold chN chG; rw [chP_G l m]
theorem finP_G (l : List NodeM) : ∀ (m : Nat) (n : Int), finN l m n = finG (fun n => (nd l n).parent) m n
  | 0, _ => rfl
  | m + 1, n => by unfold finN finG; rw [finP_G l m]
section
variable {l l' : List NodeM} {m : Int}
theorem RF.ptree (R : RF l m) : Tree l := tree_of (f := ⟨l, m⟩) (rf_iff.2 R)
end
section
variable {l l' : List NodeM} {m : Int}
end
end Go.Proofs.Heir
namespace Go.Proofs.Heir
open Go.Am Go.RowKit Go.Lib
set_option maxRecDepth 100000

end Go.Proofs.Heir
namespace Go.Proofs.Heir
open Go.Am Go.RowKit Go.Lib
set_option maxRecDepth 100000
set_option maxHeartbeats 8000000
theorem setCells_row (b : Nat) (e : TypeId) (fz : Nat × Nat) : ∀ (vs : List Value) (o : Nat) (C : Array Value) (w : World), w.heap[b]? = some (.cells C e fz) → o + vs.length ≤ C.size →
    ∃ C', w.setCells b o vs = w.setRow b C' ∧ C'.size = C.size ∧ ∀ q, C'[q]? = if o ≤ q ∧ q < o + vs.length then vs[q - o]? else C[q]?
  | [], o, C, w, h, _ => ⟨C, (setRow_self w b C e fz h).symm, rfl, fun q => by rw [if_neg (by simp only [List.length_nil]; omega)]⟩
  | v :: r, o, C, w, h, hl => by
    have h1 : w.setCell ⟨b, o, none⟩ v = w.setRow b (C.setIfInBounds o v) := by
      have hb := (Array.getElem?_eq_some_iff.1 h)
      unfold World.setCell World.setRow
      congr 1
      apply Array.ext_getElem?
      intro k
      rw [Array.getElem?_modify, Array.getElem?_modify]
      by_cases hk : b = k
      · subst hk; simp [h]
      · simp [hk]
    have h2 := setRow_heap w b C (C.setIfInBounds o v) e fz h
    obtain ⟨C', k1, k2, k3⟩ := setCells_row b e fz r (o + 1) (C.setIfInBounds o v) (w.setRow b (C.setIfInBounds o v)) h2 (by simp at hl ⊢; omega)
    refine ⟨C', by rw [World.setCells, h1, k1, setRow_setRow], by simp [k2], fun q => ?_⟩
    rw [k3 q, Array.getElem?_setIfInBounds]
    simp only [List.length_cons] at hl ⊢
    by_cases hq : q = o
    · subst hq
      rw [if_neg (by omega), if_pos rfl, if_pos (by omega), if_pos (by omega), Nat.sub_self]; rfl
    · by_cases hq2 : o + 1 ≤ q ∧ q < o + 1 + r.length
      · rw [if_pos hq2, if_pos (by omega), show q - o = (q - (o + 1)) + 1 from by omega, List.getElem?_cons_succ]
      · rw [if_neg hq2, if_neg (fun h => hq h.symm), if_neg (by omega)]
end Go.Proofs.Heir
namespace Go.Proofs.Heir
open Go.Am Go.RowKit Go.Lib
set_option maxRecDepth 100000

end Go.Proofs.Heir
namespace Go.Proofs.Heir
open Go.Am Go.RowKit Go.Lib
set_option maxRecDepth 100000
set_option maxHeartbeats 8000000

end Go.Proofs.Heir
namespace Go.Proofs.Heir
open Go.Am Go.RowKit Go.Lib
set_option maxRecDepth 100000

end Go.Proofs.Heir
namespace Go.Proofs.Heir
open Go.Am Go.RowKit Go.Lib
set_option maxRecDepth 100000
set_option maxHeartbeats 8000000




end Go.Proofs.Heir
namespace Go.Proofs.Heir
open Go Go.Am Go.RowKit Go.Lib
set_option maxRecDepth 100000
theorem rightA_all {l : List AttrM} (h : rightA l = true) : l.length ≤ 40 ∧ (∀ a ∈ l, okA a = true) ∧ (l.map AttrM.name).Nodup := by
  unfold rightA at h; simp only [Bool.and_eq_true, decide_eq_true_eq, List.all_eq_true] at h; exact ⟨h.1.1, h.1.2, h.2⟩
end Go.Proofs.Heir
namespace Go.Proofs.Heir
open Go Go.Am Go.RowKit Go.Lib
set_option maxRecDepth 100000
set_option maxHeartbeats 8000000
set_option maxHeartbeats 8000000
section
variable {l l' : List NodeM} {m : Int}
theorem RF.attrs (R : RF l m) {n : Int} (hn : thereN l n = true) (hk : (nd l n).kind = 1) : rightA (nd l n).attrs = true := by
  have h := R.nam n hn
  unfold namedN at h
  rw [if_pos hk] at h
  simp only [Bool.and_eq_true] at h
  exact h.2
theorem RF.none (R : RF l m) {n : Int} (hn : thereN l n = true) (hk : (nd l n).kind ≠ 1) : (nd l n).attrs = [] ∧ (nd l n).name = ⟨#[]⟩ := by
  rcases nam_kind R.ptree hn with h | h
  · exact absurd h hk
  · exact ⟨h.2.2, h.2.1⟩
theorem rf_small (R : RF l m) (h : l.length ≤ 60) : SmallN l := by
  have key : ∀ x ∈ l, x.kids.length ≤ 60 ∧ x.attrs.length ≤ 60 ∧ x.name.size ≤ 300 := fun x hx => by
    obtain ⟨i, hi⟩ := List.getElem?_of_mem hx
    have hn := there_get hi
    have he := nd_get hi
    have hk := ints_len (n := l.length) (R.dup i hn) (fun c hc => there_pos (R.kid i hn c hc).1)
    rw [he] at hk
    refine ⟨by omega, ?_⟩
    by_cases e : x.kind = 1
    · have ha := R.attrs hn (by rw [he]; exact e)
      rw [he] at ha
      have h1 := (rightA_all ha).1
      refine ⟨by omega, ?_⟩
      have hN := R.nam i hn
      rw [he] at hN
      unfold namedN at hN
      rw [if_pos e] at hN
      simp only [Bool.and_eq_true] at hN
      have h2 := hN.1.1.1.1
      unfold rightS rightL at h2
      simp only [Bool.and_eq_true, decide_eq_true_eq] at h2
      have : x.name.size = x.name.data.toList.length := by rw [Array.length_toList]; rfl
      omega
    · have := R.none hn (by rw [he]; exact e)
      rw [he] at this
      rw [this.1, this.2]
      exact ⟨by simp, by decide⟩
  exact ⟨by omega, fun x hx => (key x hx).1, fun x hx => (key x hx).2.1, fun x hx => (key x hx).2.2⟩
end
section
variable {l l' : List NodeM} {m : Int}
end
end Go.Proofs.Heir
namespace Go.Proofs.Heir
open Go Go.Am Go.RowKit Go.Lib
set_option maxRecDepth 100000
set_option maxHeartbeats 8000000
set_option maxHeartbeats 2000000
section
variable {l l' : List NodeM} {m : Int}
end
def valV (l : List AttrM) (s : ByteArray) : ByteArray × Bool := match l.find? (hasName s) with
  | some a => (a.value, true)
  | none => (noS, false)
def chainS (n : Int) (s : ByteArray) (t : ByteArray × Bool) (x : NoteM) : Option (ByteArray × Bool) :=
  if x.node = n ∧ x.kind = 4 ∧ x.name = s then (if x.old ≠ t.1 ∨ x.had ≠ t.2 ∨ (x.had = false ∧ x.has = false) ∨ (x.has = false ∧ x.new ≠ noS) then none else some (x.new, x.has)) else some t
def chainN (n : Int) (s : ByteArray) : ByteArray × Bool → List NoteM → Option (ByteArray × Bool)
  | t, [] => some t
  | t, x :: r => match chainS n s t x with
    | none => none
    | some u => chainN n s u r
theorem chain_none {n : Int} {s : ByteArray} {t : ByteArray × Bool} : ∀ {ns : List NoteM}, (∀ x ∈ ns, x.kind ≠ 4) → chainN n s t ns = some t
  | [], _ => rfl
  | x :: r, h => by
    have e : chainS n s t x = some t := by
      unfold chainS
      rw [if_neg fun q => h x List.mem_cons_self q.2.1]
    show (match chainS n s t x with | none => none | some u => chainN n s u r) = _
    rw [e]
    exact chain_none fun y hy => h y (List.mem_cons_of_mem _ hy)
section
variable {l l' : List NodeM} {m : Int}
end
structure OpOK (f : ForM) (r : ForM × List NoteM × Int) : Prop where
  right : rightF r.1 = true
  len : r.1.nodes.length = f.nodes.length
  fail : r.2.2 ≠ 0 → r.1 = f ∧ r.2.1 = []
  told : Told f.nodes r.1.nodes r.2.1
  kind : ∀ x, thereN f.nodes x = true → (nd r.1.nodes x).kind = (nd f.nodes x).kind
  chain : ∀ n, thereN f.nodes n = true → ∀ t, rightS t = true → lowS t = t → chainN n t (valV (nd f.nodes n).attrs t) r.2.1 = some (valV (nd r.1.nodes n).attrs t)
theorem OpOK.nil {f : ForM} (h : rightF f = true) (e : Int) : OpOK f (f, [], e) := ⟨h, rfl, fun _ => ⟨rfl, rfl⟩, .nil _, fun _ _ => rfl, fun _ _ _ _ _ => rfl⟩
section
variable {l : List NodeM} {m : Int}
theorem OpOK.move (R : RF l m) {l' : List NodeM} {ns : List NoteM} (R' : RF l' m) (hl : l'.length = l.length) (hs : ∀ x, thereN l x = true → LikeN (nd l' x) (nd l x)) (ht : Told l l' ns) (hn : NoAtt ns) : OpOK ⟨l, m⟩ (⟨l', m⟩, ns, 0) :=
  ⟨rf_iff.2 R', hl, fun h => absurd rfl h, ht, fun x hx => (hs x hx).kind, fun n hn2 t _ _ => by
    rw [chain_none hn]
    show some _ = some (valV (nd l' n).attrs t)
    rw [(hs n hn2).attrs]⟩
end
@[reducible] def eNodeK (y : NodeM) (t : Nat) : AV := .agg [eInt y.kind, eStr y.name, eStr y.is, eStr y.data, eAttrs y.attrs, eInt y.parent, .own t 0 y.kids.length, eInt y.host, eInt y.under, eInt y.doc]
def oNodeK (y : NodeM) (t : Nat) : AV := eNodeK y t
def rowK (a ta b tb i : Nat) (y : NodeM) : AV := if i = a then oNodeK y ta else if i = b then oNodeK y tb else oNode y
def rowsK (l : List NodeM) (a ta b tb : Nat) : List AV := l.mapIdx fun i y => rowK a ta b tb i y
@[reducible] def mRows (l : List NodeM) (a ta b tb : Nat) : MS := .live 10 (rowsK l a ta b tb) false
section
variable {l : List NodeM} {a ta b tb i : Nat} {y : NodeM}
theorem rowsK_len : (rowsK l a ta b tb).length = l.length := List.length_mapIdx ..
theorem rowsK_get (h : l[i]? = some y) : (rowsK l a ta b tb)[i]? = some (rowK a ta b tb i y) := by
  unfold rowsK
  rw [List.getElem?_mapIdx, h]; rfl
theorem rowsK_set (y : NodeM) (h : i < l.length) : (rowsK l a ta b tb).set i (rowK a ta b tb i y) = rowsK (l.set i y) a ta b tb := by
  apply List.ext_getElem?
  intro j
  unfold rowsK
  rw [List.getElem?_set, List.getElem?_mapIdx, List.getElem?_mapIdx, List.getElem?_set, List.length_mapIdx]
  by_cases e : i = j
  · subst e
    rw [if_pos rfl, if_pos rfl, if_pos h, if_pos h]; rfl
  · rw [if_neg e, if_neg e]
theorem rowK_other (ha : i ≠ a) (hb : i ≠ b) : rowK a ta b tb i y = eNode y := by unfold rowK; rw [if_neg ha, if_neg hb]; rfl
theorem rowK_a : rowK a ta b tb a y = eNodeK y ta := by unfold rowK; rw [if_pos rfl]; rfl
theorem rowK_b (h : b ≠ a) : rowK a ta b tb b y = eNodeK y tb := by unfold rowK; rw [if_neg h, if_pos rfl]; rfl
theorem rowK_cells : (cells (rowK a ta b tb i y)).length = 10 := by
  unfold rowK
  split
  · rfl
  · split <;> rfl
theorem rowsK_wide : Wide 10 (rowsK l a ta b tb) := Wide.of_mem fun x hx => by
  obtain ⟨j, hj⟩ := List.getElem?_of_mem hx
  unfold rowsK at hj
  rw [List.getElem?_mapIdx] at hj
  cases e : l[j]? with
  | none => rw [e] at hj; cases hj
  | some z => rw [e] at hj; cases hj; exact rowK_cells
theorem rowsK_at {j : Nat} {x : AV} (h : (rowsK l a ta b tb)[j]? = some x) : ∃ z, l[j]? = some z ∧ x = rowK a ta b tb j z := by
  unfold rowsK at h
  rw [List.getElem?_mapIdx] at h
  cases e : l[j]? with
  | none => rw [e] at h; cases h
  | some z => rw [e] at h; cases h; exact ⟨z, rfl, rfl⟩
end
section
variable {m : ML} {fz : Nat → Bool} {tab : List (Nat × Nat)} {l : List NodeM} {a ta b tb t n : Nat}
theorem noRef_node2 (x : NodeM) : noRef (oNode x) = true := by
  show noRef (.agg [eInt x.kind, eStr x.name, eStr x.is, eStr x.data, eAttrs x.attrs, eInt x.parent, eInts x.kids, eInt x.host, eInt x.under, eInt x.doc]) = true
  rfl
theorem frz_kids {cs ex : List Int} {ro : Bool} (h1 : lkM m t = .live 1 ((cs ++ ex).map oInt) ro) (h2 : fz t = true) : FrzK m fz (MF tab fz m n) (eInts cs) t 0 cs.length :=
  .cut h1 h2 (by simp) (by rw [List.drop_zero, List.map_append, List.take_append_of_le_length (by simp), List.take_of_length_le (by simp)]) (noRef_ints cs)
theorem frz_rows {ro ra rb : Bool} {ea eb : List Int} {k : Nat} (hm : lkM m t = .live 10 (rowsK l a ta b tb) ro) (hf : fz t = true) (ha : ∀ y, l[a]? = some y → lkM m ta = .live 1 ((y.kids ++ ea).map oInt) ra ∧ fz ta = true) (hb : ∀ y, l[b]? = some y → lkM m tb = .live 1 ((y.kids ++ eb).map oInt) rb ∧ fz tb = true) : FrzK m fz (MF tab fz m (k + 2)) (eNodes l) t 0 l.length := by
  have hk : ∀ (u : Nat) (e : List Int) (r : Bool) (y : NodeM), lkM m u = .live 1 ((y.kids ++ e).map oInt) r → fz u = true → MF tab fz m (k + 2) (oNode y) (oNodeK y u) := fun u e r y q1 q2 =>
    ⟨rfl, rfl, rfl, rfl, MF_refl _ _ rfl, rfl, frz_kids q1 q2, rfl, rfl, rfl, trivial⟩
  refine ⟨10, _, ro, l.map oNode, hm, hf, rfl, by rw [rowsK_len]; omega, noRefL_map oNode noRef_node2 l, by rw [List.drop_zero, List.take_of_length_le (by rw [rowsK_len]; omega), rowsK_len, List.length_map], fun i x z hx hz => ?_⟩
  rw [List.drop_zero, List.take_of_length_le (by rw [rowsK_len]; omega)] at hz
  obtain ⟨y, hy, rfl⟩ := rowsK_at hz
  rw [List.getElem?_map, hy] at hx
  cases hx
  show MF tab fz m (k + 2) (oNode y) (rowK a ta b tb i y)
  unfold rowK
  by_cases e : i = a
  · rw [if_pos e]
    subst e
    exact hk ta ea ra y (ha y hy).1 (ha y hy).2
  · rw [if_neg e]
    by_cases c : i = b
    · rw [if_pos c]
      subst c
      exact hk tb eb rb y (hb y hy).1 (hb y hy).2
    · rw [if_neg c]; exact MF_refl _ _ (noRef_node2 y)
end
theorem MFL_rows {R : AV → AV → Prop} : ∀ {a b : List AV}, RowsM R a b → MFL R a b
  | [], [], _ => trivial
  | x :: a, y :: b, h => ⟨h.2 0 x y rfl rfl, MFL_rows ⟨by have := h.1; simpa using this, fun i p q h1 h2 => h.2 (i + 1) p q (by simpa using h1) (by simpa using h2)⟩⟩
  | [], _ :: _, h => by have := h.1; simp at this
  | _ :: _, [], h => by have := h.1; simp at this
theorem sameW_len {w : Nat} : ∀ {a b : List AV}, a.length = b.length → Wide w a → Wide w b → sameW a b = true
  | [], [], _, _, _ => rfl
  | x :: a, y :: b, hl, ha, hb => by
    have e : eqN (lenR (cellsB x)) (lenR (cellsB y)) = true := by
      rw [eqN_eq, lenR_eq, lenR_eq, cellsB_eq, cellsB_eq, ha.tail.1, hb.tail.1]
      exact Nat.beq_refl _
    simp only [sameW, e]
    exact sameW_len (by simpa using hl) ha.tail.2 hb.tail.2
  | [], _ :: _, hl, _, _ => by simp at hl
  | _ :: _, [], hl, _, _ => by simp at hl
theorem mapR_of {f : AV → AV} : ∀ {a b : List AV}, a.length = b.length → (∀ (i : Nat) x y, a[i]? = some x → b[i]? = some y → x = f y) → a = mapR f b
  | [], [], _, _ => rfl
  | x :: a, y :: b, hl, h => by
    show x :: a = f y :: mapR f b
    rw [← h 0 x y rfl rfl, ← mapR_of (by simpa using hl) fun i p q h1 h2 => h (i + 1) p q (by simpa using h1) (by simpa using h2)]
  | [], _ :: _, hl, _ => by simp at hl
  | _ :: _, [], hl, _ => by simp at hl
theorem allR_of {p : AV → Bool} : ∀ {a : List AV}, (∀ x ∈ a, p x = true) → allR p a = true
  | [], _ => rfl
  | x :: a, h => by
    simp only [allR, h x List.mem_cons_self]
    exact allR_of fun y hy => h y (List.mem_cons_of_mem _ hy)
section
variable {l : List NodeM} {a ta b tb ta0 tb0 n : Nat} {names : List Nat}
theorem ren_rowsK (h1 : getR names ta0 = some ta) (h2 : getR names tb0 = some tb) : rowsK l a ta b tb = mapR (renR names 12) (rowsK l a ta0 b tb0) := by
  refine mapR_of (by rw [rowsK_len, rowsK_len]) fun i x y hx hy => ?_
  obtain ⟨z, hz, rfl⟩ := rowsK_at hx
  obtain ⟨z2, hz2, rfl⟩ := rowsK_at hy
  rw [hz] at hz2; cases hz2
  have key : ∀ u u0 : Nat, getR names u0 = some u → oNodeK z u = renR names 12 (oNodeK z u0) := fun u u0 h => by
    show eNodeK z u = renR names 12 (eNodeK z u0)
    simp only [eNodeK, renR, mapR, h]
  unfold rowK
  split
  · exact key _ _ h1
  · split
    · exact key _ _ h2
    · rfl
theorem ok_rowsK (h1 : ta < n) (h2 : tb < n) : allR (okR 12 n) (rowsK l a ta b tb) = true := by
  refine allR_of fun x hx => ?_
  obtain ⟨j, hj⟩ := List.getElem?_of_mem hx
  obtain ⟨z, _, rfl⟩ := rowsK_at hj
  have key : ∀ u : Nat, u < n → okR 12 n (oNodeK z u) = true := fun u h => by
    have hb : Nat.ble (u + 1) n = true := by rw [Nat.ble_eq]; exact h
    show okR 12 n (eNodeK z u) = true
    simp [eNodeK, okR, allR, noRef, hb]
  unfold rowK
  split
  · exact key _ h1
  · split
    · exact key _ h2
    · show okR 12 n (eNode z) = true
      simp [okR, allR, noRef]
end
end Go.Proofs.Heir
