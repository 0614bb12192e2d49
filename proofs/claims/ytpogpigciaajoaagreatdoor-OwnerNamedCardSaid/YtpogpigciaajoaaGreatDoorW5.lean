/- Models, plain laws and contracts of functions of the given program; conditions as stated in each theorem. By an AI agent. -/
import Derived.Test.YtpogpigciaajoaaGreatDoorW4
set_option linter.unusedSimpArgs false
set_option linter.unusedVariables false
section
namespace Go.Proofs.Heir
open Go Go.Am Go.RowKit Go.Lib
set_option maxRecDepth 100000
set_option maxHeartbeats 8000000
def finG (g : Int → Int) : Nat → Int → Bool
 | 0, _ => false
 | m + 1, n => if g n = -1 then true else finG g m (g n)
def chG (g : Int → Int) : Nat → Int → List Int
 | 0, _ => []
 | m + 1, n => n :: if g n = -1 then [] else chG g m (g n)
theorem moreG {g : Int → Int} : ∀ {m k : Nat} {n : Int}, finG g m n = true → m ≤ k → chG g k n = chG g m n ∧ finG g k n = true
 | 0, k, n, h, _ => by simp [finG] at h
 | m + 1, k, n, h, hk => by
   obtain ⟨k, rfl⟩ : ∃ j, k = j + 1 := ⟨k - 1, by omega⟩
   unfold finG at h ⊢
   unfold chG
   by_cases hp : g n = -1
   ·rw [if_pos hp, if_pos hp, if_pos hp]; exact ⟨rfl, rfl⟩
   ·rw [if_neg hp] at h
    rw [if_neg hp, if_neg hp, if_neg hp, (moreG h (Nat.le_of_succ_le_succ hk)).1]
    exact ⟨rfl, (moreG h (Nat.le_of_succ_le_succ hk)).2⟩
theorem cutG {g : Int → Int} : ∀ {m : Nat} {n a : Int}, finG g m n = true → a ∈ chG g m n → finG g m a = true ∧ ∃ t, chG g m n = t ++ chG g m a
 | 0, n, a, h, _ => by simp [finG] at h
 | m + 1, n, a, h, ha => by
   by_cases e : a = n
   ·subst e; exact ⟨h, [], rfl⟩
   ·unfold finG at h
    unfold chG at ha
    by_cases hp : g n = -1
    ·rw [if_pos hp] at ha; exact absurd (List.mem_singleton.1 ha) e
    ·rw [if_neg hp] at h ha
     rcases List.mem_cons.1 ha with h1 | h1
     ·exact absurd h1 e
     ·obtain ⟨h2, t, ht⟩ := cutG h h1
      have h3 := moreG h2 (Nat.le_succ m)
      refine ⟨h3.2, n :: t, ?_⟩
      rw [show m.succ = m + 1 from rfl] at h3
      rw [h3.1, chG, if_neg hp, ht]; rfl
theorem dupG {g : Int → Int} : ∀ {m : Nat} {n : Int}, finG g m n = true → (chG g m n).Nodup
 | 0, n, h => by simp [finG] at h
 | m + 1, n, h => by
   have h0 := h
   unfold finG at h
   unfold chG
   by_cases hp : g n = -1
   ·rw [if_pos hp]; simp
   ·rw [if_neg hp] at h ⊢
    refine List.nodup_cons.2 ⟨fun hin => ?_, dupG h⟩
    obtain ⟨h2, t, ht⟩ := cutG h hin
    have h3 := (moreG h2 (Nat.le_succ m)).1
    rw [show m.succ = m + 1 from rfl, chG, if_neg hp, ht] at h3
    have := congrArg List.length h3
    simp at this
    omega
theorem lenG {g : Int → Int} : ∀ {m k : Nat} {n : Int}, finG g m n = true → (chG g m n).length ≤ k → finG g k n = true
 | 0, k, n, h, _ => by simp [finG] at h
 | m + 1, 0, n, _, hk => by unfold chG at hk; simp at hk
 | m + 1, k + 1, n, h, hk => by
   unfold finG at h ⊢
   unfold chG at hk
   by_cases hp : g n = -1
   ·rw [if_pos hp]
   ·rw [if_neg hp] at h hk ⊢
    exact lenG h (by simp at hk; omega)
theorem inG {g : Int → Int} {P : Int → Prop} (hg : ∀ n, P n → g n ≠ -1 → P (g n)) : ∀ {m : Nat} {n : Int}, P n → ∀ a ∈ chG g m n, P a
 | 0, n, _, a, ha => by simp [chG] at ha
 | m + 1, n, hn, a, ha => by
   unfold chG at ha
   rcases List.mem_cons.1 ha with rfl | h
   ·exact hn
   ·by_cases hp : g n = -1
    ·rw [if_pos hp] at h; simp at h
    ·rw [if_neg hp] at h
     exact inG hg (hg n hn hp) a h
theorem ends_G (l : List NodeM) : ∀ (m : Nat) (n : Int), endsN l m n = finG (fun n => upN (nd l n)) m n
 | 0, _ => rfl
 | m + 1, n => by unfold endsN finG; rw [ends_G l m]
theorem ends_eq {l : List NodeM} (hup : ∀ n, thereN l n = true → upN (nd l n) = -1 ∨ thereN l (upN (nd l n)) = true) {n : Int} (hn : thereN l n = true) : endsN l (l.length + 1) n = endsN l l.length n := by
 rw [ends_G, ends_G, Bool.eq_iff_iff]
 constructor
 ·intro h
  refine lenG h (ints_len (dupG h) fun a ha => ?_)
  have := inG (P := fun n => thereN l n = true) (fun n hn hne => (hup n hn).resolve_left hne) hn a ha
  exact there_pos this
 ·intro h; exact (moreG h (Nat.le_succ _)).2
def rDoc (l : List NodeM) (n : Int) (x : NodeM) : Bool := (decide (0 ≤ x.kind) && decide (x.kind ≤ 4)) && (isN l x.doc 0 && (decide (x.kind ≠ 0) || decide (x.doc = n)))
def rPar (l : List NodeM) (n : Int) (x : NodeM) : Bool := decide (x.parent = -1) || ((decide (x.kind = 1) || decide (x.kind = 2)) && (thereN l x.parent && (decide ((nd l x.parent).kind ≠ 2) && decide ((nd l x.parent).kids.count n = 1))))
def rKid (l : List NodeM) (n : Int) (x : NodeM) (c : Int) : Bool := thereN l c && (decide (x.kids.count c = 1) && ((decide ((nd l c).kind = 1) || decide ((nd l c).kind = 2)) && (decide ((nd l c).parent = n) && decide ((nd l c).doc = x.doc))))
def rElems (l : List NodeM) (x : NodeM) : Bool := (decide (x.kind ≠ 2) || decide (x.kids = [])) && (decide (x.kind ≠ 0) || (decide (elemsN l x.kids ≤ 1) && decide (x.kids.length ≤ elemsN l x.kids)))
def rName (x : NodeM) : Bool :=
 if x.kind = 1 then rightS x.name && decide (lowS x.name = x.name) && (decide (x.is = ⟨#[]⟩) || customS x.is) && decide (x.data = ⟨#[]⟩) && rightA x.attrs
 else decide (x.name = ⟨#[]⟩) && decide (x.is = ⟨#[]⟩) && decide (x.attrs = []) && (decide (x.data = ⟨#[]⟩) || (decide (x.kind = 2) && decide (x.data.size ≤ 200)))
def refNode (l : List NodeM) (n : Int) (x : NodeM) : Bool := rDoc l n x && (rPar l n x && (x.kids.all (rKid l n x) && (rElems l x && (shadedN l n x && rName x))))
def rightR (f : ForM) : Bool := headOK f && (allIx (fun k x => refNode f.nodes k x) 0 f.nodes && allIx (fun k _ => endsN f.nodes (f.nodes.length + 1) k) 0 f.nodes)
theorem count_leI {cs : List Int} (h : cs.Nodup) (c : Int) : cs.count c ≤ 1 := by
 induction cs with
 | nil => simp
 | cons a r ih =>
   rw [List.nodup_cons] at h
   rw [List.count_cons]
   by_cases e : a = c
   ·subst e
    rw [List.count_eq_zero.2 h.1]; simp
   ·simp [e]; exact ih h.2
theorem count_one {cs : List Int} (h : cs.Nodup) {c : Int} (hc : c ∈ cs) : cs.count c = 1 := by
 have h1 := count_leI h c
 have h2 := List.count_pos_iff.2 hc
 omega
theorem nodup_of_count {cs : List Int} (h : ∀ c, cs.count c ≤ 1) : cs.Nodup := by
 induction cs with
 | nil => exact List.nodup_nil
 | cons a r ih =>
   refine List.nodup_cons.2 ⟨fun hin => ?_, ih fun c => ?_⟩
   ·have h1 := h a
    rw [List.count_cons_self] at h1
    have h2 := List.count_pos_iff.2 hin
    omega
   ·refine Nat.le_trans ?_ (h c)
    rw [List.count_cons]; omega
theorem named_kind {x : NodeM} : namedN x = true ↔ (0 ≤ x.kind ∧ x.kind ≤ 4) ∧ rName x = true := by
 unfold namedN rName
 by_cases e1 : x.kind = 1
 ·rw [if_pos e1, if_pos e1]
  exact ⟨fun h => ⟨by omega, h⟩, fun h => h.2⟩
 ·rw [if_neg e1, if_neg e1]
  by_cases e2 : x.kind = 2
  ·rw [if_pos e2]
   simp only [Bool.and_eq_true, Bool.or_eq_true, decide_eq_true_eq]
   constructor
   ·rintro ⟨⟨⟨h1, h2⟩, h3⟩, h4⟩
    exact ⟨by omega, ⟨⟨h2, h3⟩, h4⟩, .inr ⟨e2, h1⟩⟩
   ·rintro ⟨_, ⟨⟨h2, h3⟩, h4⟩, h5⟩
    refine ⟨⟨⟨?_, h2⟩, h3⟩, h4⟩
    rcases h5 with h | h
    ·rw [h]; exact Nat.zero_le _
    ·exact h.2
  ·rw [if_neg e2]
   by_cases e3 : x.kind = 0 ∨ x.kind = 3 ∨ x.kind = 4
   ·rw [if_pos e3]
    simp only [Bool.and_eq_true, Bool.or_eq_true, decide_eq_true_eq]
    constructor
    ·rintro ⟨⟨⟨h1, h2⟩, h3⟩, h4⟩
     exact ⟨by omega, ⟨⟨h1, h2⟩, h4⟩, .inl h3⟩
    ·rintro ⟨_, ⟨⟨h1, h2⟩, h4⟩, h3 | h3⟩
     ·exact ⟨⟨⟨h1, h2⟩, h3⟩, h4⟩
     ·exact absurd h3.1 e2
   ·rw [if_neg e3]
    constructor
    ·intro h; cases h
    ·rintro ⟨h, _⟩; omega
variable {l : List NodeM}
theorem elems_all {cs : List Int} : cs.length ≤ elemsN l cs ↔ ∀ c ∈ cs, (nd l c).kind = 1 := by
 have h1 := List.countP_le_length (p := fun c => decide ((nd l c).kind = 1)) (l := cs)
 have h2 := List.countP_eq_length (p := fun c => decide ((nd l c).kind = 1)) (l := cs)
 unfold elemsN
 constructor
 ·intro h c hc
  simpa using h2.1 (by omega) c hc
 ·intro h
  have := h2.2 (fun c hc => by simpa using h c hc)
  omega
theorem hold_ne {k : Int} (h : 0 ≤ k ∧ k ≤ 4) : holdK k = true ↔ k ≠ 2 := by
 unfold holdK
 simp only [Bool.or_eq_true, decide_eq_true_eq]
 omega
theorem to_ref (h : ∀ n, thereN l n = true → nodeOK l n (nd l n) = true) : ∀ n, thereN l n = true → refNode l n (nd l n) = true := by
 intro n hn
 have h0 := h n hn
 unfold nodeOK at h0
 simp only [Bool.and_eq_true] at h0
 obtain ⟨hN, hO, hH, hB, hS⟩ := h0
 have hk := named_kind.1 hN
 unfold bearsN at hB
 simp only [Bool.and_eq_true, Bool.or_eq_true, decide_eq_true_eq] at hB
 have hkids := kidsOK_iff.1 hB.1
 unfold refNode
 simp only [Bool.and_eq_true]
 refine ⟨?_, ?_, ?_, ?_, hS, hk.2⟩
 ·unfold rDoc; unfold ownedN at hO
  simp only [Bool.and_eq_true, decide_eq_true_eq]
  rw [Bool.and_eq_true] at hO
  exact ⟨hk.1, hO.1, hO.2⟩
 ·unfold rPar; unfold hungN at hH
  simp only [Bool.and_eq_true, Bool.or_eq_true, decide_eq_true_eq] at hH ⊢
  rcases hH with hH | ⟨⟨⟨h1, h2⟩, h3⟩, h4⟩
  ·exact .inl hH
  ·right
   have hp := h _ h2
   unfold nodeOK bearsN at hp
   simp only [Bool.and_eq_true] at hp
   have hpk := (named_kind.1 hp.1).1
   have hpd := (kidsOK_iff.1 hp.2.2.2.1.1).2.1
   unfold hasI at h4
   exact ⟨h1, h2, (hold_ne hpk).1 h3, count_one hpd (by simpa using h4)⟩
 ·rw [List.all_eq_true]
  intro c hc
  have h1 := hkids.1 c hc
  unfold kidP at h1; unfold rKid
  simp only [Bool.and_eq_true, Bool.or_eq_true, decide_eq_true_eq] at h1 ⊢
  obtain ⟨a1, a2, a3, a4⟩ := h1
  refine ⟨a1, count_one hkids.2.1 hc, ?_, a2, a3⟩
  rcases a4 with a4 | a4
  ·exact .inl a4
  ·exact .inr a4.1
 ·unfold rElems
  simp only [Bool.and_eq_true, Bool.or_eq_true, decide_eq_true_eq]
  obtain ⟨_, hb1, hb2⟩ := hB
  constructor
  ·by_cases e : (nd l n).kind = 2
   ·right
    rcases hb1 with h | h
    ·exact absurd e ((hold_ne hk.1).1 h)
    ·exact h
   ·exact .inl e
  ·by_cases e : (nd l n).kind = 0
   ·right
    refine ⟨hb2.resolve_left (fun h => h e), elems_all.2 fun c hc => ?_⟩
    have h1 := hkids.1 c hc
    unfold kidP at h1
    simp only [Bool.and_eq_true, Bool.or_eq_true, decide_eq_true_eq] at h1
    rcases h1.2.2.2 with h | h
    ·exact h
    ·exact absurd e h.2
   ·exact .inl e
theorem of_ref (h : ∀ n, thereN l n = true → refNode l n (nd l n) = true) : ∀ n, thereN l n = true → nodeOK l n (nd l n) = true := by
 intro n hn
 have hdup : ∀ n, thereN l n = true → (nd l n).kids.Nodup := by
  intro n hn
  have h0 := h n hn
  unfold refNode at h0
  simp only [Bool.and_eq_true, List.all_eq_true] at h0
  refine nodup_of_count fun c => ?_
  by_cases hc : c ∈ (nd l n).kids
  ·have h1 := h0.2.2.1 c hc
   unfold rKid at h1
   simp only [Bool.and_eq_true, decide_eq_true_eq] at h1
   omega
  ·rw [List.count_eq_zero.2 hc]; omega
 have h0 := h n hn
 unfold refNode at h0
 simp only [Bool.and_eq_true, List.all_eq_true] at h0
 obtain ⟨hD, hP, hK, hE, hS, hN⟩ := h0
 unfold rDoc at hD
 simp only [Bool.and_eq_true, decide_eq_true_eq] at hD
 unfold nodeOK
 simp only [Bool.and_eq_true]
 refine ⟨named_kind.2 ⟨hD.1, hN⟩, ?_, ?_, ?_, hS⟩
 ·unfold ownedN; rw [Bool.and_eq_true]; exact hD.2
 ·unfold hungN; unfold rPar at hP
  simp only [Bool.and_eq_true, Bool.or_eq_true, decide_eq_true_eq] at hP ⊢
  rcases hP with hP | ⟨h1, h2, h3, h4⟩
  ·exact .inl hP
  ·right
   have hp := h _ h2
   unfold refNode rDoc at hp
   simp only [Bool.and_eq_true, decide_eq_true_eq] at hp
   refine ⟨⟨⟨h1, h2⟩, (hold_ne hp.1.1).2 h3⟩, ?_⟩
   unfold hasI
   exact decide_eq_true (List.count_pos_iff.1 (by omega))
 ·unfold bearsN; unfold rElems at hE
  simp only [Bool.and_eq_true, Bool.or_eq_true, decide_eq_true_eq] at hE ⊢
  refine ⟨kidsOK_iff.2 ⟨fun c hc => ?_, hdup n hn, fun _ _ => by simp⟩, ?_, ?_⟩
  ·have h1 := hK c hc
   unfold rKid at h1; unfold kidP
   simp only [Bool.and_eq_true, Bool.or_eq_true, decide_eq_true_eq] at h1 ⊢
   obtain ⟨a1, a2, a3, a4, a5⟩ := h1
   refine ⟨a1, a4, a5, ?_⟩
   rcases a3 with a3 | a3
   ·exact .inl a3
   ·right
    refine ⟨a3, fun e0 => ?_⟩
    rcases hE.2 with h | h
    ·exact h e0
    ·have := elems_all.1 h.2 c hc
     omega
  ·by_cases e : (nd l n).kind = 2
   ·exact .inr (hE.1.resolve_left fun h => h e)
   ·exact .inl ((hold_ne hD.1).2 e)
  ·rcases hE.2 with h | h
   ·exact .inl h
   ·exact .inr h.1
theorem node_up (h : ∀ n, thereN l n = true → nodeOK l n (nd l n) = true) : ∀ n, thereN l n = true → upN (nd l n) = -1 ∨ thereN l (upN (nd l n)) = true := by
 intro n hn
 have h0 := h n hn
 unfold nodeOK at h0
 simp only [Bool.and_eq_true] at h0
 obtain ⟨_, _, hH, _, hS⟩ := h0
 unfold upN
 unfold hungN at hH
 simp only [Bool.and_eq_true, Bool.or_eq_true, decide_eq_true_eq] at hH
 by_cases e : (nd l n).parent = -1
 ·rw [if_pos e]
  unfold shadedN at hS
  rw [Bool.and_eq_true] at hS
  by_cases e4 : (nd l n).kind = 4
  ·rw [if_pos e4] at hS
   unfold isN at hS
   simp only [Bool.and_eq_true] at hS
   exact .inr hS.1.1.1.1
  ·rw [if_neg e4] at hS
   exact .inl (by simpa using hS.1)
 ·rw [if_neg e]
  rcases hH with h | h
  ·exact absurd h e
  ·exact .inr h.1.1.2
theorem all_there (p : Int → NodeM → Bool) : allIx (fun k x => p k x) 0 l = true ↔ ∀ n, thereN l n = true → p n (nd l n) = true := by
 rw [allIx_iff]
 constructor
 ·intro h n hn
  obtain ⟨k, x, rfl, hk, hx⟩ := there_iff.1 hn
  have := h k x hk
  rw [hx]; simpa using this
 ·intro h k x hk
  have := h k (there_get hk)
  rw [nd_get hk] at this
  simpa using this
theorem right_eq (f : ForM) : rightR f = rightF f := by
 unfold rightR rightF
 rw [Bool.eq_iff_iff]
 simp only [Bool.and_eq_true]
 rw [all_there (fun n x => refNode f.nodes n x), all_there (fun n x => nodeOK f.nodes n x), all_there (fun n _ => endsN f.nodes (f.nodes.length + 1) n), all_there (fun n _ => endsN f.nodes f.nodes.length n)]
 constructor
 ·rintro ⟨h1, h2, h3⟩
  have h4 := of_ref h2
  exact ⟨h1, h4, fun n hn => by rw [← ends_eq (node_up h4) hn]; exact h3 n hn⟩
 ·rintro ⟨h1, h2, h3⟩
  exact ⟨h1, to_ref h2, fun n hn => by rw [ends_eq (node_up h2) hn]; exact h3 n hn⟩
end Go.Proofs.Heir
end
namespace Go.Proofs.Heir
open Go Go.Am Go.RowKit Go.Lib
set_option maxRecDepth 100000
set_option maxHeartbeats 8000000
theorem allIx_no {α : Type} {p : Nat → α → Bool} {l : List α} {k : Nat} {x : α} (h : l[k]? = some x) (hp : p k x = false) : allIx p 0 l = false := by
 rw [Bool.eq_false_iff]
 intro h1
 have := allIx_iff.1 h1 k x h
 rw [Nat.zero_add, hp] at this
 cases this
theorem allIx_yes {α : Type} {p : Nat → α → Bool} {l : List α} (h : ∀ k x, l[k]? = some x → p k x = true) : allIx p 0 l = true :=
 allIx_iff.2 fun k x hx => by rw [Nat.zero_add]; exact h k x hx
theorem f54_ok (f : ForM) (hs : SmallN f.nodes) : FnOK Tryz.prog 54 [] [eFor f] [] (eBool (rightF f)) := by
 have hl := hs.len
 have h38 : ∀ x ∈ f.nodes, FnOK Tryz.prog 92 [] [eNode x] [] (eBool (namedN x)) := fun x hx => f92_ok x (by have := hs.attrs x hx; omega)
 have h39 := f93_ok f
 have h40 := f94_ok f hs
 have h41 := f95_ok f hs
 have h42 := f96_ok f
 have h43 : (∀ n, thereN f.nodes n = true → nodeOK f.nodes n (nd f.nodes n) = true) → ∀ k, k < f.nodes.length → FnOK Tryz.prog 97 [] [eFor f, eInt k] [] (eBool (endsN f.nodes f.nodes.length k)) := fun hN k hk => f97_ok f (by omega) (fun k x hx => by have := node_up hN k (there_get hx); rwa [nd_get hx] at this) k hk
 obtain ⟨l, m⟩ := f
 unfold rightF headOK
 simp only at hl h38 h39 h40 h41 h42 h43 ⊢
 have hlm : (l.map oNode).length = l.length := List.length_map ..
 refine FnOK.startC (rvs := [.tmp 2]) G G_good Tryz.func54 rfl Tryz.ntmps54 rfl rfl ?_; with_reducible refine wD ?_
 by_cases e1 : m < 1
 ·have c1 : decide (1 ≤ m) = false := decide_eq_false (by omega)
  rw [c1]
  (have fct := e1; (repeat' (first
  | refine gF ?_ | refine aE ?_ ?_
  | apply trivial)); all_goals clear fct)
  all_goals simp
 by_cases e2 : 400 < m
 ·have c1 : decide (m ≤ 400) = false := decide_eq_false (by omega)
  rw [c1]
  (have fct := And.intro (eq_false e1) (e2); (repeat' (first
  | refine gF ?_ | refine aE ?_ ?_
  | apply trivial)); all_goals clear fct)
  all_goals simp
 by_cases e3 : l.length < 1
 ·have c1 : decide (1 ≤ l.length) = false := decide_eq_false (by omega)
  have e3' : (l.length : Int) < 1 := by omega
  rw [c1]
  (have fct := And.intro (eq_false e1) (And.intro (eq_false e2) (And.intro hlm (e3'))); (repeat' (first
  | refine gF ?_ | refine aE ?_ ?_
  | apply trivial)); all_goals clear fct)
  all_goals simp
 have e3' : ¬ (l.length : Int) < 1 := by omega
 by_cases e4 : m < (l.length : Int)
 ·have c1 : decide ((l.length : Int) ≤ m) = false := decide_eq_false (by omega)
  rw [c1]
  (have fct := And.intro (eq_false e1) (And.intro (eq_false e2) (And.intro hlm (And.intro (eq_false e3') (e4)))); (repeat' (first
  | refine gF ?_ | refine aE ?_ ?_
  | apply trivial)); all_goals clear fct)
  all_goals simp
 obtain ⟨x0, hx0⟩ : ∃ x, l[0]? = some x := ⟨_, List.getElem?_eq_getElem (by omega)⟩
 have hn0 : nd l 0 = x0 := nd_get (k := 0) hx0
 rw [hn0]
 obtain ⟨z1, z2, z3, z4, z5, z6, z7, z8, z9, z10⟩ := x0
 by_cases e5 : ¬ z1 = 0
 ·(have fct := And.intro (eq_false e1) (And.intro (eq_false e2) (And.intro hlm (And.intro (eq_false e3') (And.intro (eq_false e4) ((eq_false e5)))))); (repeat' (first
  | refine gF ?_ | refine aE ?_ ?_
  | ((refine IdxK.mk 0 (eNode ⟨z1, z2, z3, z4, z5, z6, z7, z8, z9, z10⟩) rfl (node_get hx0) ?_) <;> with_reducible refine wK ?_)
  | apply trivial)); all_goals clear fct)
  all_goals simp [e5]
 have e5 := Decidable.not_not.1 e5
 have c1 : (decide (1 ≤ m) && decide (m ≤ 400) && decide (1 ≤ l.length) && decide ((l.length : Int) ≤ m) && decide (z1 = 0)) = true := by
  simp only [Bool.and_eq_true, decide_eq_true_eq]; omega
 simp only at c1 ⊢
 rw [c1, Bool.true_and]
 (have fct := And.intro (eq_false e1) (And.intro (eq_false e2) (And.intro hlm (And.intro (eq_false e3') (And.intro (eq_false e4) (e5))))); (repeat' (first
  | refine gF ?_ | refine aE ?_ ?_
  | ((refine IdxK.mk 0 (eNode ⟨z1, z2, z3, z4, z5, z6, z7, z8, z9, z10⟩) rfl (node_get hx0) ?_) <;> with_reducible refine wK ?_)
  | apply trivial)); all_goals clear fct)
 refine LoopK.use G G_good (fun (k : Nat) => [(1, .ptr 10 0 0), (44, eNodes l), (45, eInt l.length), (46, eInt k)]) (fun _ => [(10, .live 2 [eFor ⟨l, m⟩] false)])
  (fun k => k ≤ l.length ∧ ∀ j x, j < k → l[j]? = some x → nodeOK l j x = true) (fun k => l.length - k) 0 ⟨Nat.zero_le _, fun j x h => by omega⟩
  ⟨⟨rfl, rfl⟩, ⟨⟨rfl, rfl⟩, rfl, by show (l.length : Int) = ((l.map oNode).length : Int); rw [hlm], rfl, trivial⟩, ⟨⟨rfl, rfl, trivial⟩, trivial⟩, trivial⟩ ?_
 rintro k ⟨hk, hok⟩
 with_reducible refine wK ?_
 refine IfK.mk (fun g1 => ?_) (fun g1 => ?_) <;> (try simp only [castN] at g1) <;> with_reducible refine wK ?_
 ·have hk' : k < l.length := by simp only [decide_eq_true_eq] at g1; omega
  obtain ⟨x, hx⟩ : ∃ x, l[k]? = some x := ⟨_, List.getElem?_eq_getElem hk'⟩
  have h38' := h38 x (List.mem_of_getElem? hx)
  have h39' := h39 k x hx
  have h40' := h40 k x hx
  have h41' := h41 k x hx
  have h42' := h42 k x hx
  have bad : nodeOK l k x = false → allIx (fun k x => nodeOK l k x) 0 l = false := fun h => allIx_no hx h
  have good : nodeOK l k x = true → ∀ j y, j < k + 1 → l[j]? = some y → nodeOK l j y = true := fun h j y hj hy => by
   rcases Nat.lt_or_ge j k with h6 | h6
   ·exact hok j y h6 hy
   ·have : j = k := by omega
    subst this
    rw [hx] at hy; cases hy; exact h
  obtain ⟨a1, a2, a3, a4, a5, a6, a7, a8, a9, a10⟩ := x
  refine IdxK.mk k (eNode _) rfl (node_get hx) ?_; with_reducible refine wK ?_
  cases q1 : namedN ⟨a1, a2, a3, a4, a5, a6, a7, a8, a9, a10⟩ with
  | false =>
    rw [bad (by unfold nodeOK; rw [q1]; rfl), Bool.false_and]
    (have fct := q1; (repeat' (first
  | refine gF ?_ | refine aE ?_ ?_
  | (((with_reducible refine kQ 92 ?_); refine cL h38' c92 ?_) <;> with_reducible refine wK ?_)
  | apply trivial)); all_goals clear fct)
  | true =>
    cases q2 : ownedN l k ⟨a1, a2, a3, a4, a5, a6, a7, a8, a9, a10⟩ with
    | false =>
      rw [bad (by unfold nodeOK; rw [q1, q2]; rfl), Bool.false_and]
      (have fct := And.intro q1 (q2); (repeat' (first
  | refine gF ?_ | refine aE ?_ ?_
  | ((first
   | ((with_reducible refine kQ 92 ?_); refine cL h38' c92 ?_)
   | ((with_reducible refine kQ 93 ?_); refine cL h39' c93 ?_)) <;> with_reducible refine wK ?_)
  | apply trivial)); all_goals clear fct)
    | true =>
      cases q3 : hungN l k ⟨a1, a2, a3, a4, a5, a6, a7, a8, a9, a10⟩ with
      | false =>
        rw [bad (by unfold nodeOK; rw [q1, q2, q3]; rfl), Bool.false_and]
        (have fct := And.intro q1 (And.intro q2 (q3)); (repeat' (first
  | refine gF ?_ | refine aE ?_ ?_
  | ((first
   | ((with_reducible refine kQ 92 ?_); refine cL h38' c92 ?_)
   | ((with_reducible refine kQ 93 ?_); refine cL h39' c93 ?_)
   | ((with_reducible refine kQ 94 ?_); refine cL h40' c94 ?_)) <;> with_reducible refine wK ?_)
  | apply trivial)); all_goals clear fct)
      | true =>
        cases q4 : bearsN l k ⟨a1, a2, a3, a4, a5, a6, a7, a8, a9, a10⟩ with
        | false =>
          rw [bad (by unfold nodeOK; rw [q1, q2, q3, q4]; rfl), Bool.false_and]
          (have fct := And.intro q1 (And.intro q2 (And.intro q3 (q4))); (repeat' (first
  | refine gF ?_ | refine aE ?_ ?_
  | ((first
   | ((with_reducible refine kQ 92 ?_); refine cL h38' c92 ?_)
   | ((with_reducible refine kQ 93 ?_); refine cL h39' c93 ?_)
   | ((with_reducible refine kQ 94 ?_); refine cL h40' c94 ?_)
   | ((with_reducible refine kQ 95 ?_); refine cL h41' c95 ?_)) <;> with_reducible refine wK ?_)
  | apply trivial)); all_goals clear fct)
        | true =>
          cases q5 : shadedN l k ⟨a1, a2, a3, a4, a5, a6, a7, a8, a9, a10⟩ with
          | false =>
            rw [bad (by unfold nodeOK; rw [q1, q2, q3, q4, q5]; rfl), Bool.false_and]
            (have fct := And.intro q1 (And.intro q2 (And.intro q3 (And.intro q4 (q5)))); (repeat' (first
  | refine gF ?_ | refine aE ?_ ?_
  | ((first
   | ((with_reducible refine kQ 92 ?_); refine cL h38' c92 ?_)
   | ((with_reducible refine kQ 93 ?_); refine cL h39' c93 ?_)
   | ((with_reducible refine kQ 94 ?_); refine cL h40' c94 ?_)
   | ((with_reducible refine kQ 95 ?_); refine cL h41' c95 ?_)
   | ((with_reducible refine kQ 96 ?_); refine cL h42' c96 ?_)) <;> with_reducible refine wK ?_)
  | apply trivial)); all_goals clear fct)
          | true =>
            have hnx := good (by unfold nodeOK; rw [q1, q2, q3, q4, q5]; rfl)
            (have fct := And.intro q1 (And.intro q2 (And.intro q3 (And.intro q4 (q5)))); (repeat' (first
  | refine gF ?_ | refine aE ?_ ?_
  | ((first
   | ((with_reducible refine kQ 92 ?_); refine cL h38' c92 ?_)
   | ((with_reducible refine kQ 93 ?_); refine cL h39' c93 ?_)
   | ((with_reducible refine kQ 94 ?_); refine cL h40' c94 ?_)
   | ((with_reducible refine kQ 95 ?_); refine cL h41' c95 ?_)
   | ((with_reducible refine kQ 96 ?_); refine cL h42' c96 ?_)
   | ((with_reducible show NextK _ _); refine NextK.mk (k + 1) ⟨by omega, hnx⟩ (by omega) ⟨⟨rfl, rfl⟩, ⟨⟨rfl, rfl⟩, rfl, rfl, by show ((k + 1 : Nat) : Int) = (k : Int) + 1; omega, trivial⟩, ⟨⟨rfl, rfl, trivial⟩, trivial⟩, trivial⟩)) <;> with_reducible refine wK ?_)
  | apply trivial)); all_goals clear fct)
 ·have hkl : k = l.length := by simp only [decide_eq_false_iff_not] at g1; omega
  have hall : ∀ (j : Nat) (x : NodeM), l[j]? = some x → nodeOK l j x = true := fun j x hx => hok j x (by have := (List.getElem?_eq_some_iff.1 hx).1; omega) hx
  rw [allIx_yes hall, Bool.true_and]
  have h43' := h43 fun n hn => by
   obtain ⟨k, x, rfl, hk, hx⟩ := there_iff.1 hn
   rw [hx]; exact hall k x hk
  refine LoopK.use G G_good (fun (k : Nat) => [(1, .ptr 10 0 0), (82, eInt l.length), (83, eInt k)]) (fun _ => [(10, .live 2 [eFor ⟨l, m⟩] false)])
   (fun k => k ≤ l.length ∧ ∀ (j : Nat) (x : NodeM), j < k → l[j]? = some x → endsN l l.length j = true) (fun k => l.length - k) 0 ⟨Nat.zero_le _, fun j x h => by omega⟩
   ⟨⟨rfl, rfl⟩, ⟨⟨rfl, rfl⟩, by show (l.length : Int) = ((l.map oNode).length : Int); rw [hlm], rfl, trivial⟩, ⟨⟨rfl, rfl, trivial⟩, trivial⟩, trivial⟩ ?_
  rintro i ⟨hi, hends⟩
  with_reducible refine wK ?_
  refine IfK.mk (fun g2 => ?_) (fun g2 => ?_) <;> (try simp only [castN] at g2) <;> with_reducible refine wK ?_
  ·have hi' : i < l.length := by simp only [decide_eq_true_eq] at g2; omega
   obtain ⟨y, hy⟩ : ∃ y, l[i]? = some y := ⟨_, List.getElem?_eq_getElem hi'⟩
   have h43'' := h43' i hi'
   refine cL h43'' c97 ?_; with_reducible refine wK ?_
   cases q : endsN l l.length i with
   | false =>
     rw [allIx_no hy q]
     (have fct := q; (repeat' (first
  | refine gF ?_ | refine aE ?_ ?_
  | apply trivial)); all_goals clear fct)
   | true =>
     (have fct := q; (repeat' (first
  | refine gF ?_ | refine aE ?_ ?_
  | (((with_reducible show NextK _ _); refine NextK.mk (i + 1) ⟨by omega, fun j x hj hx => ?_⟩ (by omega) ⟨⟨rfl, rfl⟩, ⟨⟨rfl, rfl⟩, rfl, by show ((i + 1 : Nat) : Int) = (i : Int) + 1; omega, trivial⟩, ⟨⟨rfl, rfl, trivial⟩, trivial⟩, trivial⟩) <;> with_reducible refine wK ?_)
  | apply trivial)); all_goals clear fct)
     rcases Nat.lt_or_ge j i with h6 | h6
     ·exact hends j x h6 hx
     ·have : j = i := by omega
      rw [this]; exact q
  ·have hil : i = l.length := by simp only [decide_eq_false_iff_not] at g2; omega
   rw [allIx_yes fun j x hx => hends j x (by have := (List.getElem?_eq_some_iff.1 hx).1; omega) hx]
   (refine eK ?_ ?_ <;> with_reducible repeat' (first | exact trivial | (show _ ∧ _; refine aK ?_ ?_)))
theorem f15_ok (f : ForM) (hs : SmallN f.nodes) : FnOK Tryz.prog 15 [] [eFor f] [] (eBool (rightF f)) := by
 have h23 := f54_ok f hs
 obtain ⟨l, m⟩ := f
 refine FnOK.startC (rvs := [.tmp 2]) G G_good Tryz.func15 rfl Tryz.ntmps15 rfl rfl ?_; with_reducible refine wD ?_
 refine cL h23 c54 ?_; with_reducible refine wK ?_
 (refine eK ?_ ?_ <;> with_reducible repeat' (first | exact trivial | (show _ ∧ _; refine aK ?_ ?_)))
theorem noRef_ints (l : List Int) : noRefL (l.map oInt) = true := by
 rw [noRefL_iff]; intro x hx
 obtain ⟨a, _, rfl⟩ := List.mem_map.1 hx
 rfl
theorem one_ints (l : List Int) : oneL (flat (l.map oInt)) = true := oneL_map oInt (fun _ => rfl) l
theorem frz_ints {m : ML} {fz : Nat → Bool} {tab : List (Nat × Nat)} {n t len : Nat} {ro : Bool} {rows : List AV} {l : List Int} (h1 : lkM m t = .live 1 rows ro) (h2 : fz t = true) (h3 : rows = l.map oInt) (h4 : len = l.length) : FrzK m fz (MF tab fz m n) (eInts l) t 0 len := by
 subst h3; subst h4
 have e : (l.map oInt).length = l.length := List.length_map ..
 exact .cut h1 h2 (by omega) (by rw [List.drop_zero, List.take_of_length_le (by omega)]) (noRef_ints l)
@[reducible] def rInts (l : List Int) : MS := .live 1 (l.map oInt) false
theorem count_step {l : List Int} {n c : Int} {k : Nat} (h : l[k]? = some c) : (l.take (k + 1)).count n = (l.take k).count n + if c = n then 1 else 0 := by
 rw [take_snocI h, List.count_append, List.count_singleton]
 by_cases e : c = n <;> simp [e]
theorem f20_ok (l : List Int) (hl : l.length ≤ 100000) (n : Int) : FnOK Tryz.prog 20 [] [eInts l, eInt n] [] (eInt (l.count n)) := by
 have hlm : (l.map oInt).length = l.length := List.length_map ..
 refine FnOK.startC (rvs := [.tmp 4]) G G_good Tryz.func20 rfl Tryz.ntmps20 rfl rfl ?_; with_reducible refine wD ?_
 refine LoopK.use G G_good (fun (k : Nat) => [(0, eInts l), (1, eInt n), (5, eInt ((l.take k).count n)), (6, eInt k)]) (fun _ => []) (fun k => k ≤ l.length) (fun k => l.length - k) 0 (Nat.zero_le _)
  ⟨⟨rfl, rfl⟩, ⟨rfl, rfl, rfl, rfl, trivial⟩, trivial⟩ ?_
 rintro k hk
 with_reducible refine wK ?_
 refine IfK.mk (fun h1 => ?_) (fun h1 => ?_) <;> (try simp only [castN] at h1) <;> with_reducible refine wK ?_
 ·have hk' : k < l.length := by simp only [decide_eq_true_eq] at h1; omega
  obtain ⟨c, hc⟩ : ∃ a, l[k]? = some a := ⟨_, List.getElem?_eq_getElem hk'⟩
  have hst := count_step (n := n) hc
  have hle : (l.take k).count n ≤ k := Nat.le_trans List.count_le_length (by simp; omega)
  refine IdxK.mk k (eInt c) rfl (int_get hc) ?_; with_reducible refine wK ?_
  by_cases e : c = n
  ·rw [if_pos e] at hst
   (have fct := e; (repeat' (first
  | refine gF ?_ | refine aE ?_ ?_
  | (((with_reducible show NextK _ _); refine NextK.mk (k + 1) (by omega) (by omega) ⟨⟨rfl, rfl⟩, ⟨rfl, rfl, by show (((l.take (k + 1)).count n : Nat) : Int) = _; rw [hst]; rfl, by show ((k + 1 : Nat) : Int) = (k : Int) + 1; omega, trivial⟩, trivial⟩) <;> with_reducible refine wK ?_)
  | apply trivial)); all_goals clear fct)
  ·rw [if_neg e] at hst
   (have fct := (eq_false e); (repeat' (first
  | refine gF ?_ | refine aE ?_ ?_
  | (((with_reducible show NextK _ _); refine NextK.mk (k + 1) (by omega) (by omega) ⟨⟨rfl, rfl⟩, ⟨rfl, rfl, by show (((l.take (k + 1)).count n : Nat) : Int) = _; rw [hst]; simp, by show ((k + 1 : Nat) : Int) = (k : Int) + 1; omega, trivial⟩, trivial⟩) <;> with_reducible refine wK ?_)
  | apply trivial)); all_goals clear fct)
 ·(refine eK ?_ ?_ <;> with_reducible repeat' (first | exact trivial | (show _ ∧ _; refine aK ?_ ?_)))
  have : k = l.length := by simp only [decide_eq_false_iff_not] at h1; omega
  rw [this, List.take_length]
end Go.Proofs.Heir
