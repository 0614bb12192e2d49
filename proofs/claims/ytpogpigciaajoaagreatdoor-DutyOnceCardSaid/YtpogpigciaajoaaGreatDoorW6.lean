/- Models, plain laws and contracts of functions of the given program; conditions as stated in each theorem. By an AI agent. -/
import Derived.Test.YtpogpigciaajoaaGreatDoorW5
import Derived.Test.YtpogpigciaajoaaGreatDoorW4
set_option linter.unusedSimpArgs false
set_option linter.unusedVariables false
namespace Go.Proofs.Heir
open Go Go.Am Go.RowKit Go.Lib
set_option maxRecDepth 100000
set_option maxHeartbeats 8000000
def rightW (f : ForM) (st : List StateM) (d : DeskM) (cs : List ClassM) : Bool := ((shortF f && shortB d) && shortC cs) && lookV f st d
structure RightW (f : ForM) (st : List StateM) (d : DeskM) (cs : List ClassM) : Prop where
 hs : SmallN f.nodes
 hd : SmallD d
 hc : SmallC cs
 look : lookV f st d = true
 len : st.length = f.nodes.length
 rf : rightF f = true
 rd : rightD d = true
theorem rightW_of {f : ForM} {st : List StateM} {d : DeskM} {cs : List ClassM} (h : rightW f st d cs = true) : RightW f st d cs := by
 unfold rightW at h
 simp only [Bool.and_eq_true] at h
 obtain ⟨⟨⟨h1, h2⟩, h3⟩, h4⟩ := h
 have h5 := h4
 unfold lookV at h5
 simp only [Bool.and_eq_true, decide_eq_true_eq] at h5
 exact ⟨shortF_iff.1 h1, (shortB_iff.1 h2).small, small_of_shortC h3, h4, h5.1.1, h5.1.2, h5.2⟩
theorem f35_ok (f : ForM) (st : List StateM) (d : DeskM) (cs : List ClassM) : FnOK Tryz.prog 35 [] [eFor f, eStates st, eDesk d, eClasses cs] [] (eBool (rightW f st d cs)) := by
 have h9 := f13_ok f
 have h10 := f14_ok d
 have h24 := f23_ok cs
 have hst := (show (st.map oState).length = st.length from List.length_map ..)
 have hlm := (show (f.nodes.map oNode).length = f.nodes.length from List.length_map ..)
 unfold rightW
 cases e1 : shortF f with
 | false =>
   rw [e1] at h9
   obtain ⟨l, m⟩ := f
   obtain ⟨d1, d2, d3, d4⟩ := d
   refine FnOK.startC (rvs := [.tmp 8]) G G_good Tryz.func35 rfl Tryz.ntmps35 rfl rfl ?_; with_reducible refine wD ?_
   repeat' (first
  | refine gK ?_ | refine aE ?_ ?_
  | (((with_reducible refine kQ 13 ?_); refine cL h9 c13 ?_) <;> with_reducible refine wK ?_)
  | apply trivial)
   all_goals rfl
 | true =>
   rw [e1] at h9
   have h48 := f15_ok f (shortF_iff.1 e1)
   cases e2 : shortB d with
   | false =>
     rw [e2] at h10
     obtain ⟨l, m⟩ := f
     obtain ⟨d1, d2, d3, d4⟩ := d
     refine FnOK.startC (rvs := [.tmp 8]) G G_good Tryz.func35 rfl Tryz.ntmps35 rfl rfl ?_; with_reducible refine wD ?_
     repeat' (first
  | refine gK ?_ | refine aE ?_ ?_
  | ((first
   | ((with_reducible refine kQ 13 ?_); refine cL h9 c13 ?_)
   | ((with_reducible refine kQ 14 ?_); refine cL h10 c14 ?_)) <;> with_reducible refine wK ?_)
  | apply trivial)
     all_goals rfl
   | true =>
     rw [e2] at h10
     have h62 := f71_ok d (shortB_iff.1 e2).small
     cases e3 : shortC cs with
     | false =>
       rw [e3] at h24
       obtain ⟨l, m⟩ := f
       obtain ⟨d1, d2, d3, d4⟩ := d
       refine FnOK.startC (rvs := [.tmp 8]) G G_good Tryz.func35 rfl Tryz.ntmps35 rfl rfl ?_; with_reducible refine wD ?_
       repeat' (first
  | refine gK ?_ | refine aE ?_ ?_
  | ((first
   | ((with_reducible refine kQ 13 ?_); refine cL h9 c13 ?_)
   | ((with_reducible refine kQ 14 ?_); refine cL h10 c14 ?_)
   | ((with_reducible refine kQ 23 ?_); refine cL h24 c23 ?_)) <;> with_reducible refine wK ?_)
  | apply trivial)
       all_goals rfl
     | true =>
       rw [e3] at h24
       unfold lookV
       obtain ⟨l, m⟩ := f
       obtain ⟨d1, d2, d3, d4⟩ := d
       simp only at h48 h62 hlm ⊢
       refine FnOK.startC (rvs := [.tmp 8]) G G_good Tryz.func35 rfl Tryz.ntmps35 rfl rfl ?_; with_reducible refine wD ?_
       by_cases g1 : st.length = l.length
       ·rw [decide_eq_true g1]
        cases g2 : rightF ⟨l, m⟩ <;> rw [g2] at h48
        ·(have fct := And.intro hst (And.intro hlm (g1)); (repeat' (first
  | refine gF ?_ | refine aE ?_ ?_
  | ((first
   | ((with_reducible refine kQ 13 ?_); refine cL h9 c13 ?_)
   | ((with_reducible refine kQ 14 ?_); refine cL h10 c14 ?_)
   | ((with_reducible refine kQ 23 ?_); refine cL h24 c23 ?_)
   | ((with_reducible refine kQ 15 ?_); refine cL h48 c15 ?_)) <;> with_reducible refine wK ?_)
  | apply trivial)); all_goals clear fct)
         all_goals rfl
        ·cases g3 : rightD ⟨d1, d2, d3, d4⟩ <;> rw [g3] at h62
         ·(have fct := And.intro hst (And.intro hlm (g1)); (repeat' (first
  | refine gF ?_ | refine aE ?_ ?_
  | ((first
   | ((with_reducible refine kQ 13 ?_); refine cL h9 c13 ?_)
   | ((with_reducible refine kQ 14 ?_); refine cL h10 c14 ?_)
   | ((with_reducible refine kQ 23 ?_); refine cL h24 c23 ?_)
   | ((with_reducible refine kQ 15 ?_); refine cL h48 c15 ?_)
   | ((with_reducible refine kQ 71 ?_); refine cL h62 c71 ?_)) <;> with_reducible refine wK ?_)
  | apply trivial)); all_goals clear fct)
          all_goals rfl
         ·(have fct := And.intro hst (And.intro hlm (g1)); (repeat' (first
  | refine gF ?_ | refine aE ?_ ?_
  | ((first
   | ((with_reducible refine kQ 13 ?_); refine cL h9 c13 ?_)
   | ((with_reducible refine kQ 14 ?_); refine cL h10 c14 ?_)
   | ((with_reducible refine kQ 23 ?_); refine cL h24 c23 ?_)
   | ((with_reducible refine kQ 15 ?_); refine cL h48 c15 ?_)
   | ((with_reducible refine kQ 71 ?_); refine cL h62 c71 ?_)) <;> with_reducible refine wK ?_)
  | apply trivial)); all_goals clear fct)
          all_goals rfl
       ·rw [decide_eq_false g1]
        (have fct := And.intro hst (And.intro hlm ((eq_false g1))); (repeat' (first
  | refine gF ?_ | refine aE ?_ ?_
  | ((first
   | ((with_reducible refine kQ 13 ?_); refine cL h9 c13 ?_)
   | ((with_reducible refine kQ 14 ?_); refine cL h10 c14 ?_)
   | ((with_reducible refine kQ 23 ?_); refine cL h24 c23 ?_)) <;> with_reducible refine wK ?_)
  | apply trivial)); all_goals clear fct)
        all_goals rfl
def noState : StateM := ⟨0, 0, 0, false⟩
def sAt (st : List StateM) (n : Nat) : StateM := (st[n]?).getD noState
theorem sAt_of {st : List StateM} {n : Nat} {s : StateM} (h : st[n]? = some s) : sAt st n = s := by unfold sAt; rw [h]; rfl
def dutyB (f : ForM) (d : DeskM) (cs : List ClassM) (n : Int) (s : StateM) : Bool := ((classB s d cs && (classV s d cs).form) && decide (s.phase = 3)) && decide ((nd f.nodes n).kind = 1)
def ownedT (was now : Int) : TodoM := ⟨5, 0, ⟨#[]⟩, false, false, ⟨#[]⟩, ⟨#[]⟩, was, now, false⟩
def barredT (on : Bool) : TodoM := ⟨6, 0, ⟨#[]⟩, false, false, ⟨#[]⟩, ⟨#[]⟩, 0, 0, on⟩
def clearedT : TodoM := ⟨7, 0, ⟨#[]⟩, false, false, ⟨#[]⟩, ⟨#[]⟩, 0, 0, false⟩
def restoredT (s : ByteArray) : TodoM := ⟨8, 0, ⟨#[]⟩, false, false, ⟨#[]⟩, s, 0, 0, false⟩
def tellD (c : ClassM) (n : Int) (t : TodoM) : List DueN := if hearsC c t.kind = true then [⟨n, t⟩] else []
def toldS (f : ForM) (d : DeskM) (cs : List ClassM) (n : Int) (s : StateM) : StateM := if dutyB f d cs n s = true then ⟨s.phase, s.df, ownN f.nodes n, barN f.nodes n⟩ else s
def toldD (f : ForM) (d : DeskM) (cs : List ClassM) (n : Int) (s : StateM) : List DueN :=
 if dutyB f d cs n s = true then
  (if s.owner = ownN f.nodes n then [] else tellD (classV s d cs) n (ownedT s.owner (ownN f.nodes n))) ++ (if s.barred = barN f.nodes n then [] else tellD (classV s d cs) n (barredT (barN f.nodes n)))
 else []
def tSt (f : ForM) (d : DeskM) (cs : List ClassM) (st : List StateM) (k : Nat) : List StateM := (List.range st.length).map fun n : Nat => if n < k then toldS f d cs (n : Int) (sAt st n) else sAt st n
def tDu (f : ForM) (d : DeskM) (cs : List ClassM) (st : List StateM) (k : Nat) : List DueN := (List.range k).flatMap fun n : Nat => toldD f d cs (n : Int) (sAt st n)
theorem tSt_len (f : ForM) (d : DeskM) (cs : List ClassM) (st : List StateM) (k : Nat) : (tSt f d cs st k).length = st.length := by unfold tSt; simp
theorem tSt_get {f : ForM} {d : DeskM} {cs : List ClassM} {st : List StateM} {k n : Nat} (h : n < st.length) : (tSt f d cs st k)[n]? = some (if n < k then toldS f d cs (n : Int) (sAt st n) else sAt st n) := by
 unfold tSt
 rw [List.getElem?_map, List.getElem?_range h]; rfl
theorem tSt_zero (f : ForM) (d : DeskM) (cs : List ClassM) (st : List StateM) : tSt f d cs st 0 = st := by
 apply List.ext_getElem?
 intro n
 by_cases h : n < st.length
 ·rw [tSt_get h, if_neg (by omega)]
  unfold sAt
  rw [List.getElem?_eq_getElem h]; rfl
 ·rw [List.getElem?_eq_none (l := tSt f d cs st 0) (by rw [tSt_len]; omega), List.getElem?_eq_none (l := st) (by omega)]
theorem tSt_step (f : ForM) (d : DeskM) (cs : List ClassM) (st : List StateM) {k : Nat} (h : k < st.length) : tSt f d cs st (k + 1) = (tSt f d cs st k).set k (toldS f d cs (k : Int) (sAt st k)) := by
 apply List.ext_getElem?
 intro n
 rw [List.getElem?_set]
 by_cases hn : n < st.length
 ·rw [tSt_get hn]
  by_cases e : k = n
  ·subst e; rw [if_pos rfl, if_pos (by omega), if_pos (by rw [tSt_len]; exact h)]
  ·rw [if_neg e, tSt_get hn]
   by_cases e2 : n < k
   ·rw [if_pos (by omega), if_pos e2]
   ·rw [if_neg (by omega), if_neg e2]
 ·rw [List.getElem?_eq_none (l := tSt f d cs st (k + 1)) (by rw [tSt_len]; omega), if_neg (by omega), List.getElem?_eq_none (l := tSt f d cs st k) (by rw [tSt_len]; omega)]
theorem tSt_same (f : ForM) (d : DeskM) (cs : List ClassM) (st : List StateM) {k : Nat} (h : k < st.length) (hs : toldS f d cs (k : Int) (sAt st k) = sAt st k) : tSt f d cs st (k + 1) = tSt f d cs st k := by
 rw [tSt_step f d cs st h, hs]
 apply List.ext_getElem?
 intro n
 rw [List.getElem?_set]
 by_cases e : k = n
 ·subst e; rw [if_pos rfl, if_pos (by rw [tSt_len]; exact h), tSt_get h, if_neg (by omega)]
 ·rw [if_neg e]
theorem tDu_step (f : ForM) (d : DeskM) (cs : List ClassM) (st : List StateM) (k : Nat) : tDu f d cs st (k + 1) = tDu f d cs st k ++ toldD f d cs (k : Int) (sAt st k) := by
 unfold tDu; rw [List.range_succ, List.flatMap_append]; simp
theorem tellD_len (c : ClassM) (n : Int) (t : TodoM) : (tellD c n t).length ≤ 1 := by unfold tellD; split <;> simp
theorem toldD_len (f : ForM) (d : DeskM) (cs : List ClassM) (n : Int) (s : StateM) : (toldD f d cs n s).length ≤ 2 := by
 unfold toldD
 split
 ·rw [List.length_append]
  have h1 := tellD_len (classV s d cs) n (ownedT s.owner (ownN f.nodes n))
  have h2 := tellD_len (classV s d cs) n (barredT (barN f.nodes n))
  have h3 : ∀ (p : Prop) [Decidable p] (l : List DueN), (if p then [] else l).length ≤ l.length := fun p _ l => by split <;> simp
  have h4 := h3 (s.owner = ownN f.nodes n) (tellD (classV s d cs) n (ownedT s.owner (ownN f.nodes n)))
  have h5 := h3 (s.barred = barN f.nodes n) (tellD (classV s d cs) n (barredT (barN f.nodes n)))
  omega
 ·simp
theorem tDu_len (f : ForM) (d : DeskM) (cs : List ClassM) (st : List StateM) : ∀ k, (tDu f d cs st k).length ≤ 2 * k
 | 0 => Nat.le_refl _
 | k + 1 => by
   rw [tDu_step, List.length_append]
   have := tDu_len f d cs st k
   have := toldD_len f d cs (k : Int) (sAt st k)
   omega
def toldSt (f : ForM) (st : List StateM) (d : DeskM) (cs : List ClassM) : List StateM := if lookV f st d = true then tSt f d cs st st.length else st
def toldDu (f : ForM) (st : List StateM) (d : DeskM) (cs : List ClassM) : List DueN := if lookV f st d = true then tDu f d cs st st.length else []
def resetD (f : ForM) (d : DeskM) (cs : List ClassM) (st : List StateM) (n : Int) : List DueN := if dutyB f d cs n (sAt st n.toNat) = true then tellD (classV (sAt st n.toNat) d cs) n clearedT else []
def resetDu (f : ForM) (st : List StateM) (d : DeskM) (cs : List ClassM) (x : Int) : List DueN := if lookV f st d = true ∧ thereN f.nodes x = true then (memF f.nodes x).flatMap (resetD f d cs st) else []
def restoreDu (f : ForM) (st : List StateM) (d : DeskM) (cs : List ClassM) (n : Int) (s : ByteArray) : List DueN :=
 if lookV f st d = true ∧ thereN f.nodes n = true then (if dutyB f d cs n (sAt st n.toNat) = true then tellD (classV (sAt st n.toNat) d cs) n (restoredT s) else []) else []
theorem any_no {α : Type} {p : α → Bool} {l : List α} (h : ∀ (k : Nat) (x : α), l[k]? = some x → p x = false) : l.any p = false := by
 rw [List.any_eq_false]
 intro x hx
 obtain ⟨k, hk⟩ := List.getElem?_of_mem hx
 rw [h k x hk]; decide
theorem any_yes {α : Type} {p : α → Bool} {l : List α} {k : Nat} {x : α} (h : l[k]? = some x) (hp : p x = true) : l.any p = true :=
 List.any_eq_true.2 ⟨x, List.mem_of_getElem? h, hp⟩
theorem range_get {n k : Nat} (h : k < n) : (List.range n)[k]? = some k := by
 rw [List.getElem?_eq_getElem (by simpa using h)]; simp
theorem range_of {n k x : Nat} (h : (List.range n)[k]? = some x) : x = k ∧ k < n := by
 obtain ⟨h1, h2⟩ := List.getElem?_eq_some_iff.1 h
 simp at h1 h2
 exact ⟨h2.symm, h1⟩
theorem f69_ok (f : ForM) (hs : SmallN f.nodes) (T : Tree f.nodes) (k : Nat) (x : NodeM) (hx : f.nodes[k]? = some x) : FnOK Tryz.prog 69 [] [eFor f, eInt k] [] (eBool (barR f.nodes k)) := by
 have h21 := f111_ok f hs
 have h12 : ∀ (k : Nat) (x : NodeM), f.nodes[k]? = some x → FnOK Tryz.prog 113 [] [eFor f, eInt k] [] (eInt (legR f.nodes k)) := fun k x hx => f113_ok f hs k x hx fun c hc => by
  have := T.kid k (there_get hx) c
  rw [nd_get hx] at this
  exact (this hc).1
 have hleg : ∀ (k : Nat) (x : NodeM), f.nodes[k]? = some x → legR f.nodes k = -1 ∨ ∃ (i : Nat) (y : NodeM), legR f.nodes k = (i : Int) ∧ f.nodes[i]? = some y := fun k x hx => by
  rcases kidAt_cases (isLegR f.nodes) (nd f.nodes k).kids with h | h
  ·exact .inl h
  ·obtain ⟨i, y, h1, h2, _⟩ := there_iff.1 (T.kid k (there_get hx) _ h).1
   exact .inr ⟨i, y, h1, h2⟩
 have h22 := f112_ok f hs T
 have hl := hs.len
 obtain ⟨l, m⟩ := f
 unfold barR
 simp only at h21 h12 h22 hx hleg hl ⊢
 rw [nd_get hx]
 have h21k := h21 k x hx
 obtain ⟨a1, a2, a3, a4, a5, a6, a7, a8, a9, a10⟩ := x
 have hlm : (l.map oNode).length = l.length := List.length_map ..
 refine FnOK.startC (rvs := [.tmp 4]) G G_good Tryz.func69 rfl Tryz.ntmps69 rfl rfl ?_; with_reducible refine wD ?_
 refine IdxK.mk k (eNode _) rfl (node_get hx) ?_; with_reducible refine wK ?_
 by_cases e1 : ¬ a1 = 1
 ·rw [decide_eq_false e1]
  (have fct := (eq_false e1); (repeat' (first
  | refine gF ?_ | refine aE ?_ ?_
  | apply trivial)); all_goals clear fct)
  all_goals rfl
 have e1 := Decidable.not_not.1 e1
 rw [decide_eq_true e1]
 refine IfK.no (by simp [e1]) ?_; with_reducible refine wK ?_
 refine cL h21k c111 ?_; with_reducible refine wK ?_
 cases d0 : disR ⟨a1, a2, a3, a4, a5, a6, a7, a8, a9, a10⟩ with
 | true =>
   (have fct := d0; (repeat' (first
  | refine gF ?_ | refine aE ?_ ?_
  | apply trivial)); all_goals clear fct)
   all_goals rfl
 | false =>
   refine IfK.ff ?_; with_reducible refine wK ?_
   refine LoopK.use G G_good (fun (p : Nat) => [(1, eInt k), (2, .ptr 20 0 0), (5, eInt p)]) (fun _ => [(20, .live 2 [eFor ⟨l, m⟩] false)])
    (fun p => p ≤ l.length ∧ ∀ q : Nat, q < p → barP l k (q : Int) = false) (fun p => l.length - p) 0 ⟨Nat.zero_le _, fun q h => by omega⟩
    ⟨⟨rfl, rfl⟩, ⟨rfl, ⟨rfl, rfl⟩, rfl, trivial⟩, ⟨⟨rfl, rfl, trivial⟩, trivial⟩, trivial⟩ ?_
   rintro p ⟨hp, hno⟩
   with_reducible refine wK ?_
   refine IfK.mk (fun g1 => ?_) (fun g1 => ?_) <;> (try simp only [castN] at g1) <;> with_reducible refine wK ?_
   ·have hp' : p < l.length := by simp only [decide_eq_true_eq] at g1; omega
    obtain ⟨z, hz⟩ : ∃ z, l[p]? = some z := ⟨_, List.getElem?_eq_getElem hp'⟩
    have hnz := nd_get hz
    have h21p := h21 p z hz
    have h12p := h12 p z hz
    have h22p := h22 p z hz k
    have hlp := hleg p z hz
    have hbp : barP l k (p : Int) = (decide (z.name = fldW) && (disR z && (decide ((p : Int) ≠ k) && (holdsR l p k && (decide (legR l p < 0) || !holdsR l (legR l p) k))))) := by unfold barP; rw [hnz]
    have good : barP l k (p : Int) = false → ∀ q : Nat, q < p + 1 → barP l k (q : Int) = false := fun h q hq => by
     rcases Nat.lt_or_ge q p with h6 | h6
     ·exact hno q h6
     ·have : q = p := by omega
      subst this; exact h
    have yes : barP l k (p : Int) = true → (List.range l.length).any (fun p => barP l k (p : Int)) = true := fun h => any_yes (range_get hp') h
    rw [hbp] at good yes
    obtain ⟨z1, z2, z3, z4, z5, z6, z7, z8, z9, z10⟩ := z
    simp only at good yes
    refine IdxK.mk p (eNode ⟨z1, z2, z3, z4, z5, z6, z7, z8, z9, z10⟩) rfl (node_get hz) ?_; with_reducible refine wK ?_
    by_cases f1 : ¬ z2 = fldW
    ·have hnx := good (by rw [decide_eq_false f1]; rfl)
     (have fct := (eq_false f1); (repeat' (first
  | refine gF ?_ | refine aE ?_ ?_
  | (((with_reducible show NextK _ _); refine NextK.mk (p + 1) ⟨by omega, hnx⟩ (by omega) ⟨⟨rfl, rfl⟩, ⟨rfl, ⟨rfl, rfl⟩, by show ((p + 1 : Nat) : Int) = (p : Int) + 1; omega, trivial⟩, ⟨⟨rfl, rfl, trivial⟩, trivial⟩, trivial⟩) <;> with_reducible refine wK ?_)
  | apply trivial)); all_goals clear fct)
    have f1 := Decidable.not_not.1 f1
    cases d1 : disR ⟨z1, z2, z3, z4, z5, z6, z7, z8, z9, z10⟩ with
    | false =>
      have hnx := good (by rw [d1, Bool.false_and, Bool.and_false])
      (have fct := And.intro f1 (d1); (repeat' (first
  | refine gF ?_ | refine aE ?_ ?_
  | ((first
   | ((with_reducible refine kQ 111 ?_); refine cL h21p c111 ?_)
   | ((with_reducible show NextK _ _); refine NextK.mk (p + 1) ⟨by omega, hnx⟩ (by omega) ⟨⟨rfl, rfl⟩, ⟨rfl, ⟨rfl, rfl⟩, by show ((p + 1 : Nat) : Int) = (p : Int) + 1; omega, trivial⟩, ⟨⟨rfl, rfl, trivial⟩, trivial⟩, trivial⟩)) <;> with_reducible refine wK ?_)
  | apply trivial)); all_goals clear fct)
    | true =>
      by_cases g2 : (p : Int) = k
      ·have hnx := good (by rw [decide_eq_false (fun h : (p : Int) ≠ k => h g2), Bool.false_and, Bool.and_false, Bool.and_false])
       (have fct := And.intro f1 (And.intro d1 (g2)); (repeat' (first
  | refine gF ?_ | refine aE ?_ ?_
  | ((first
   | ((with_reducible refine kQ 111 ?_); refine cL h21p c111 ?_)
   | ((with_reducible show NextK _ _); refine NextK.mk (p + 1) ⟨by omega, hnx⟩ (by omega) ⟨⟨rfl, rfl⟩, ⟨rfl, ⟨rfl, rfl⟩, by show ((p + 1 : Nat) : Int) = (p : Int) + 1; omega, trivial⟩, ⟨⟨rfl, rfl, trivial⟩, trivial⟩, trivial⟩)) <;> with_reducible refine wK ?_)
  | apply trivial)); all_goals clear fct)
      cases hh : holdsR l p k with
      | false =>
        have hnx := good (by rw [hh, Bool.false_and, Bool.and_false, Bool.and_false, Bool.and_false])
        (have fct := And.intro f1 (And.intro d1 (And.intro (eq_false g2) (hh))); (repeat' (first
  | refine gF ?_ | refine aE ?_ ?_
  | ((first
   | ((with_reducible refine kQ 111 ?_); refine cL h21p c111 ?_)
   | ((with_reducible refine kQ 112 ?_); refine cL h22p c112 ?_)
   | ((with_reducible show NextK _ _); refine NextK.mk (p + 1) ⟨by omega, hnx⟩ (by omega) ⟨⟨rfl, rfl⟩, ⟨rfl, ⟨rfl, rfl⟩, by show ((p + 1 : Nat) : Int) = (p : Int) + 1; omega, trivial⟩, ⟨⟨rfl, rfl, trivial⟩, trivial⟩, trivial⟩)) <;> with_reducible refine wK ?_)
  | apply trivial)); all_goals clear fct)
      | true =>
        have hne : decide ((p : Int) ≠ k) = true := decide_eq_true g2
        rcases hlp with hlp | ⟨i, y, hlp, hy⟩
        ·have hyes := yes (by rw [decide_eq_true f1, d1, hne, hh, hlp]; rfl)
         rw [hlp] at h12p
         rw [hyes]
         (have fct := And.intro f1 (And.intro d1 (And.intro (eq_false g2) (hh))); (repeat' (first
  | refine gF ?_ | refine aE ?_ ?_
  | ((first
   | ((with_reducible refine kQ 111 ?_); refine cL h21p c111 ?_)
   | ((with_reducible refine kQ 112 ?_); refine cL h22p c112 ?_)
   | ((with_reducible refine kQ 113 ?_); refine cL h12p c113 ?_)) <;> with_reducible refine wK ?_)
  | apply trivial)); all_goals clear fct)
         all_goals rfl
        ·rw [hlp] at h12p good yes
         have h22i := h22 i y hy k
         cases hi : holdsR l i k with
         | true =>
           have hnx := good (by rw [decide_eq_false (show ¬ (i : Int) < 0 by omega), hi]; simp)
           (have fct := And.intro f1 (And.intro d1 (And.intro (eq_false g2) (And.intro hh (hi)))); (repeat' (first
  | refine gF ?_ | refine aE ?_ ?_
  | ((first
   | ((with_reducible refine kQ 111 ?_); refine cL h21p c111 ?_)
   | ((with_reducible refine kQ 112 ?_); (first | refine cL h22p c112 ?_ | refine cL h22i c112 ?_))
   | ((with_reducible refine kQ 113 ?_); refine cL h12p c113 ?_)
   | ((with_reducible show NextK _ _); refine NextK.mk (p + 1) ⟨by omega, hnx⟩ (by omega) ⟨⟨rfl, rfl⟩, ⟨rfl, ⟨rfl, rfl⟩, by show ((p + 1 : Nat) : Int) = (p : Int) + 1; omega, trivial⟩, ⟨⟨rfl, rfl, trivial⟩, trivial⟩, trivial⟩)) <;> with_reducible refine wK ?_)
  | apply trivial)); all_goals clear fct)
         | false =>
           have hyes := yes (by rw [decide_eq_true f1, d1, hne, hh, hi]; simp)
           rw [hyes]
           (have fct := And.intro f1 (And.intro d1 (And.intro (eq_false g2) (And.intro hh (hi)))); (repeat' (first
  | refine gF ?_ | refine aE ?_ ?_
  | ((first
   | ((with_reducible refine kQ 111 ?_); refine cL h21p c111 ?_)
   | ((with_reducible refine kQ 112 ?_); (first | refine cL h22p c112 ?_ | refine cL h22i c112 ?_))
   | ((with_reducible refine kQ 113 ?_); refine cL h12p c113 ?_)) <;> with_reducible refine wK ?_)
  | apply trivial)); all_goals clear fct)
           all_goals rfl
   ·have hpl : p = l.length := by simp only [decide_eq_false_iff_not] at g1; omega
    have hfin : (List.range l.length).any (fun p => barP l k (p : Int)) = false := any_no fun j q hq => by
     obtain ⟨rfl, h1⟩ := range_of hq
     exact hno q (by omega)
    rw [hfin]
    (refine eK ?_ ?_ <;> with_reducible repeat' (first | exact trivial | (show _ ∧ _; refine aK ?_ ?_)))
    all_goals rfl
theorem f81_ok (x : NodeM) : FnOK Tryz.prog 81 [] [eNode x] [] (eBool (isForm x)) := by
 obtain ⟨a1, a2, a3, a4, a5, a6, a7, a8, a9, a10⟩ := x
 unfold isForm
 refine FnOK.startC (rvs := [.tmp 2]) G G_good Tryz.func81 rfl Tryz.ntmps81 rfl rfl ?_; with_reducible refine wD ?_
 by_cases e : a1 = 1
 ·(have fct := (eq_true e); (repeat' (first
  | refine gF ?_ | refine aE ?_ ?_
  | apply trivial)); all_goals clear fct)
  all_goals simp [e]
 ·(have fct := (eq_false e); (repeat' (first
  | refine gF ?_ | refine aE ?_ ?_
  | apply trivial)); all_goals clear fct)
  all_goals simp [e]
theorem f77_ok (f : ForM) (T : Tree f.nodes) (n : Int) (hn : thereN f.nodes n = true) : FnOK Tryz.prog 77 [] [eFor f, eInt n] [] (eInt (rootN f.nodes n)) := by
 have hstep := fun n h1 h2 => root_step T (n := n) h1 h2
 have htop := fun n h1 h2 => root_top T (n := n) h1 h2
 have hwst := fun n h1 h2 => way_step T (n := n) h1 h2
 have hpar : ∀ n, thereN f.nodes n = true → (nd f.nodes n).parent = -1 ∨ thereN f.nodes (nd f.nodes n).parent = true := fun n hn => by
  by_cases h : (nd f.nodes n).parent = -1
  ·exact .inl h
  ·exact .inr (T.par n hn h).1
 obtain ⟨l, m⟩ := f
 simp only at hn hstep htop hpar hwst ⊢
 refine FnOK.startC (rvs := [.tmp 4]) G G_good Tryz.func77 rfl Tryz.ntmps77 rfl rfl ?_; with_reducible refine wD ?_
 refine LoopK.use G G_good (fun (c : Int) => [(1, eInt c), (2, .ptr 20 0 0)]) (fun _ => [(20, .live 2 [eFor ⟨l, m⟩] false)])
  (fun c => thereN l c = true ∧ rootN l c = rootN l n) (fun c => (wayN l c).length) n ⟨hn, rfl⟩
  ⟨⟨rfl, rfl⟩, ⟨rfl, ⟨rfl, rfl⟩, trivial⟩, ⟨⟨rfl, rfl, trivial⟩, trivial⟩, trivial⟩ ?_
 rintro c ⟨hc, hr⟩
 with_reducible refine wK ?_
 obtain ⟨i, y, e, hy, hny⟩ := there_iff.1 hc
 have hpc := hpar c hc
 have hst := hstep c hc
 have htp := htop c hc
 have hws := hwst c hc
 rw [hny] at hpc hst htp hws
 obtain ⟨b1, b2, b3, b4, b5, b6, b7, b8, b9, b10⟩ := y
 simp only at hpc hst htp hws
 by_cases e6 : b6 = -1
 ·rw [← hr, htp e6]
  (have fct := (eq_true e6); (repeat' (first
  | refine gF ?_ | refine aE ?_ ?_
  | ((refine IdxK.mk i (eNode _) e (node_get hy) ?_) <;> with_reducible refine wK ?_)
  | apply trivial)); all_goals clear fct)
  all_goals rfl
 ·(have fct := (eq_false e6); (repeat' (first
  | refine gF ?_ | refine aE ?_ ?_
  | ((first
   | (refine IdxK.mk i (eNode _) e (node_get hy) ?_)
   | ((with_reducible show NextK _ _); refine NextK.mk b6 ⟨hpc.resolve_left e6, by rw [← hst e6, hr]⟩ (by rw [hws e6]; simp) ⟨⟨rfl, rfl⟩, ⟨rfl, ⟨rfl, rfl⟩, trivial⟩, ⟨⟨rfl, rfl, trivial⟩, trivial⟩, trivial⟩)) <;> with_reducible refine wK ?_)
  | apply trivial)); all_goals clear fct)
theorem asked_one (f : ForM) (n : Int) : (rightF f && !decide (0 ≤ idxI (fun n => !thereN f.nodes n) [n])) = (rightF f && thereN f.nodes n) := by
 congr 1
 unfold idxI
 cases h : thereN f.nodes n <;> simp [List.findIdx?_cons, h]
theorem f48_ok (f : ForM) (hs : SmallN f.nodes) (hr : rightF f = true) (n : Int) (hn : thereN f.nodes n = true) : FnOK Tryz.prog 48 [] [eFor f, eInt n] [] (eInt (rootN f.nodes n)) := by
 have h76 := f76_ok f hs [n] (by simp)
 rw [asked_one, hr, hn] at h76
 have h77 := f77_ok f (tree_of hr) n hn
 obtain ⟨l, m⟩ := f
 refine FnOK.startC (rvs := [.tmp 4]) G G_good Tryz.func48 rfl Tryz.ntmps48 rfl rfl ?_; with_reducible refine wD ?_
 refine CallK.lit [71] h76 c76 ⟨⟨rfl, rfl, trivial⟩, frz_ints (l := [n]) rfl rfl rfl rfl, trivial⟩ rfl rfl ?_; with_reducible refine wK ?_
 repeat' (first
  | refine gK ?_ | refine aE ?_ ?_
  | (((with_reducible refine kQ 77 ?_); refine cL h77 c77 ?_) <;> with_reducible refine wK ?_)
  | apply trivial)
 all_goals rfl
end Go.Proofs.Heir
section
namespace Go.Proofs.Heir
open Go Go.Am Go.RowKit Go.Lib
set_option maxRecDepth 100000
set_option maxHeartbeats 8000000
namespace V
variable {l : List NodeM}
theorem ord_more (T : Tree l) : ∀ (m : Nat) (n : Int), thereN l n = true → l.length + 1 ≤ m + (wayN l n).length → ordN l (m + 1) n = ordN l m n
 | 0, n, _, h => by have := way_len (l := l) n; omega
 | m + 1, n, hn, h => by
   rw [ordN, ordN]
   congr 1
   refine flatMap_congrI fun k hk => ?_
   refine ord_more T m k (T.kid n hn k hk).1 ?_
   rw [way_kid T hn hk]; simp; omega
theorem ord_eq (T : Tree l) {n : Int} (hn : thereN l n = true) : ordN l l.length n = n :: (nd l n).kids.flatMap (ordN l l.length) := by
 have h0 := there_pos hn
 obtain ⟨m, hm⟩ : ∃ m, l.length = m + 1 := ⟨l.length - 1, by omega⟩
 have h1 : ∀ k ∈ (nd l n).kids, ordN l l.length k = ordN l m k := fun k hk => by
  rw [hm]
  refine ord_more T m k (T.kid n hn k hk).1 ?_
  obtain ⟨r, hr⟩ := way_head T hn
  rw [way_kid T hn hk, hr]; simp; omega
 conv => lhs; rw [hm, ordN]
 congr 1
 exact flatMap_congrI fun k hk => (h1 k hk).symm
def rest (l : List NodeM) (st : List Int) : List Int := st.reverse.flatMap (ordN l l.length)
theorem rest_pop (T : Tree l) {st : List Int} {t : Int} (ht : thereN l t = true) : rest l (st ++ [t]) = t :: rest l (st ++ (nd l t).kids.reverse) := by
 unfold rest
 rw [List.reverse_append, List.reverse_append, List.reverse_reverse]
 simp only [List.reverse_cons, List.reverse_nil, List.nil_append, List.cons_append, List.flatMap_cons, List.flatMap_append]
 rw [ord_eq T ht]; rfl
theorem rest_len (T : Tree l) : ∀ {st : List Int}, (∀ c ∈ st, thereN l c = true) → st.length ≤ (rest l st).length := by
 intro st h
 unfold rest
 have : ∀ s : List Int, (∀ c ∈ s, thereN l c = true) → s.length ≤ (s.flatMap (ordN l l.length)).length := by
  intro s
  induction s with
  | nil => intro _; exact Nat.le_refl _
  | cons a r ih =>
    intro h
    have h1 := ih fun c hc => h c (List.mem_cons_of_mem _ hc)
    rw [List.flatMap_cons, List.length_append, ord_eq T (h a List.mem_cons_self), List.length_cons, List.length_cons]
    omega
 have := this st.reverse fun c hc => h c (by simpa using hc)
 simpa using this
end V
def ordF (f : ForM) (n : Int) : List Int := if (rightF f && thereN f.nodes n) = true then ordN f.nodes f.nodes.length n else []
end Go.Proofs.Heir
end
