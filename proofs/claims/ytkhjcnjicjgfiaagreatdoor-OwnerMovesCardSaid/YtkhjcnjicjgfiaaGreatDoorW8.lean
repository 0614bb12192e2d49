/- Models, plain laws and contracts of functions of the given program; conditions as stated in each theorem. By an AI agent. -/
import Derived.Test.YtkhjcnjicjgfiaaGreatDoorW5
import Derived.Test.YtkhjcnjicjgfiaaGreatDoorW6
import Derived.Test.YtkhjcnjicjgfiaaGreatDoorW7
import Derived.Shelf.RegionOpenPlain
import Derived.WalkKit
import Derived.IntWalk
import Derived.RangeFuncSeq
import Derived.Deep.RegionLaw
import Derived.Lib.SliceRun
import Derived.Laws.Tables
import Derived.Laws.CopyRow
import Derived.Sort.WalkB12
set_option linter.unusedSimpArgs false
set_option linter.unusedVariables false
namespace Go.Proofs.Heir
open Go Go.Am Go.RowKit Go.Lib
set_option maxRecDepth 100000
set_option maxHeartbeats 8000000
section
variable {l : List NodeM} {a b ta tb : Nat} {y : NodeM}
theorem rowsK_none : rowsK l l.length ta l.length tb = l.map oNode := by
  apply List.ext_getElem?
  intro i
  unfold rowsK
  rw [List.getElem?_mapIdx, List.getElem?_map]
  cases h : l[i]? with
  | none => rfl
  | some y =>
    have := (List.getElem?_eq_some_iff.1 h).1
    show some (rowK l.length ta l.length tb i y) = some (oNode y)
    unfold rowK
    rw [if_neg (by omega), if_neg (by omega)]
theorem rowsK_ext {a' b' : Nat} {x : AV} {k : Nat} (h : ∀ i z, l[i]? = some z → rowK a ta b tb i z = if i = k then x else rowK a' ta b' tb i z) : (rowsK l a' ta b' tb).set (0 + k) x = rowsK l a ta b tb := by
  apply List.ext_getElem?
  intro j
  unfold rowsK
  rw [Nat.zero_add, List.getElem?_set, List.getElem?_mapIdx, List.getElem?_mapIdx, List.length_mapIdx]
  cases e : l[j]? with
  | none =>
    have : ¬ k < l.length ∨ k ≠ j := by
      by_cases c : k = j
      · subst c; left; rw [List.getElem?_eq_none_iff] at e; omega
      · exact .inr c
    rcases this with c | c
    · by_cases d : k = j
      · rw [if_pos d, if_neg c]; rfl
      · rw [if_neg d]; rfl
    · rw [if_neg c]; rfl
  | some z =>
    have := (List.getElem?_eq_some_iff.1 e).1
    show _ = some (rowK a ta b tb j z)
    rw [h j z e]
    by_cases d : k = j
    · subst d; rw [if_pos rfl, if_pos this, if_pos rfl]
    · rw [if_neg d, if_neg (fun q => d q.symm)]; rfl
theorem rows_fit2 {m : ML} {fz : Nat → Bool} {tab : List (Nat × Nat)} {ta' tb' k : Nat} (h1 : a < l.length → lkN tab ta' = some ta) (h2 : b < l.length → lkN tab tb' = some tb) : RowsM (MF tab fz m (k + 2)) (rowsK l a ta' b tb') (rowsK l a ta b tb) :=
  ⟨by rw [rowsK_len, rowsK_len], fun i x z hx hz => by
    obtain ⟨y, hy, rfl⟩ := rowsK_at hx
    obtain ⟨y2, hy2, rfl⟩ := rowsK_at hz
    rw [hy] at hy2; cases hy2
    have hi := (List.getElem?_eq_some_iff.1 hy).1
    have key : ∀ u u' : Nat, lkN tab u' = some u → MF tab fz m (k + 2) (oNodeK y u') (oNodeK y u) := fun u u' h => by
      have hw : MF tab fz m (k + 1) (.own u' 0 y.kids.length) (.own u 0 y.kids.length) := by simp [MF, h]
      exact ⟨rfl, rfl, rfl, rfl, MF_refl _ _ rfl, rfl, hw, rfl, rfl, rfl, trivial⟩
    unfold rowK
    by_cases e : i = a
    · rw [if_pos e, if_pos e]; exact key _ _ (h1 (e ▸ hi))
    · rw [if_neg e, if_neg e]
      by_cases c : i = b
      · rw [if_pos c, if_pos c]; exact key _ _ (h2 (c ▸ hi))
      · rw [if_neg c, if_neg c]; exact MF_refl _ _ (noRef_node2 y)⟩
end
@[reducible] def mKid (l : List Int) : MS := .live 1 (l.map oInt) false
theorem kid_outs (l : List Int) : okOuts [mKid l] := ⟨Wide.of_mem fun x hx => by
  obtain ⟨a, _, rfl⟩ := List.mem_map.1 hx; rfl, noRef_ints l, trivial⟩
theorem f72_own (l : List Int) (hl : l.length ≤ 100000) : FnOK Tryz.prog 72 [] [eInts l] [mKid l] (.own 0 0 l.length) := by
  have hlm : (l.map oInt).length = l.length := List.length_map ..
  refine FnOK.startC (rvs := [.tmp 2]) G G_good Tryz.func72 rfl Tryz.ntmps72 rfl rfl ?_; with_reducible refine wD ?_
  refine GuessK.mk (fun h => ?_) (fun _ => ?_) <;> with_reducible refine wK ?_
  · obtain rfl : l = [] := by simpa using h
    (refine eK ?_ ?_ <;> with_reducible repeat' (first | exact trivial | (show _ ∧ _; refine aK ?_ ?_)))
    all_goals first | rfl | trivial
  · refine AppK.mk [] (l.map oInt) ⟨rfl, rfl, rfl⟩ ⟨rfl, rfl, rfl⟩ (oneL_map oInt (fun _ => rfl) l) (by simp; omega) (by simp; omega) ?_; with_reducible refine wK ?_
    (refine eK ?_ ?_ <;> with_reducible repeat' (first | exact trivial | (show _ ∧ _; refine aK ?_ ?_)))
    · exact hlm.symm
    · exact MFL_refl (noRef_ints l)
@[reducible] def ownSt (m : Int) (l : List NodeM) (a b : Nat) (ka kb : List Int) : Bool → Bool → ML
  | false, false => [(120, mHand m l.length 74 (.own 93 0 0)), (93, .live 9 [] false), (74, mRows l l.length 81 l.length 91)]
  | true, false => [(120, mHand m l.length 74 (.own 93 0 0)), (93, .live 9 [] false), (81, mKid ka), (74, mRows l a 81 l.length 91)]
  | false, true => [(120, mHand m l.length 74 (.own 93 0 0)), (93, .live 9 [] false), (91, mKid kb), (74, mRows l l.length 81 b 91)]
  | true, true => [(120, mHand m l.length 74 (.own 93 0 0)), (93, .live 9 [] false), (81, mKid ka), (91, mKid kb), (74, mRows l a 81 b 91)]
theorem own_K (f : ForM) (hs : SmallN f.nodes) {a b : Nat} {ya yb : NodeM} (hab : a ≠ b) (ha : f.nodes[a]? = some ya) (hb : f.nodes[b]? = some yb) :
    FnOK Tryz.prog 121 [] [eFor f] [mHand f.most f.nodes.length 4 (.own 3 0 0), mKid ya.kids, mKid yb.kids, .live 9 [] false, mRows f.nodes a 1 b 2] (.ptr 0 0 0) := by
  have h137 := f137_own f.nodes (by have := hs.len; omega)
  have h60 := hs.len
  have hv : ∀ (k : Nat) (y : NodeM), f.nodes[k]? = some y → FnOK Tryz.prog 72 [] [eInts y.kids] [] (eInts y.kids) := fun k y hy => f72_fr y.kids (by have := hs.kids y (List.mem_of_getElem? hy); omega)
  have ho : ∀ (k : Nat) (y : NodeM), f.nodes[k]? = some y → FnOK Tryz.prog 72 [] [eInts y.kids] [mKid y.kids] (.own 0 0 y.kids.length) := fun k y hy => f72_own y.kids (by have := hs.kids y (List.mem_of_getElem? hy); omega)
  have hlm : (f.nodes.map oNode).length = f.nodes.length := List.length_map ..
  obtain ⟨l, m⟩ := f
  simp only at h137 h60 hv ho hlm ha hb
  have hal := (List.getElem?_eq_some_iff.1 ha).1
  have hbl := (List.getElem?_eq_some_iff.1 hb).1
  refine FnOK.startN [(1, 81), (2, 91), (3, 93)] (rvs := [.tmp 2]) G G_good Tryz.func121 rfl Tryz.ntmps121 rfl rfl ?_; with_reducible refine wD ?_
  repeat' (first
    | refine gK ?_
    | ((first
      | ((with_reducible show CallK _ _ 137 _ _ _ _); refine CallK.new 71 [] h137 c137 ⟨rfl, trivial⟩ rfl rfl rfl (nodes_outs l) rfl ?_)
      | ((with_reducible show DrawK _ _ _ _); refine dK ?_)) <;> with_reducible refine wK ?_)
    | ((with_reducible show (_ ∧ _) ∧ _ ∧ _); (refine eK ?_ ?_ <;> with_reducible repeat' (first | exact trivial | (show _ ∧ _; refine aK ?_ ?_)))))
  refine LoopK.ghostRow 3 120 93 9 0 2 (.agg [.own 71 0 l.length, eInt m, .lit (.slice none 0 0)]) (.agg [.own 71 0 l.length, eInt m, .own 93 0 0]) rfl rfl rfl rfl rfl rfl ?_
  show LoopK _ _ _ _ [(10, _), (71, mNodes l), (120, mHand m l.length 71 (.own 93 0 0)), (93, .live 9 [] false)]
  refine LoopK.use G G_good (fun (s : Nat × Bool × Bool) => [(3, .ptr 120 0 0), (18, eInt l.length), (19, eInt s.1)])
    (fun s => ownSt m l a b ya.kids yb.kids s.2.1 s.2.2)
    (fun s => s.1 ≤ l.length ∧ s.2.1 = decide (a < s.1) ∧ s.2.2 = decide (b < s.1)) (fun s => l.length - s.1) (0, false, false) ⟨Nat.zero_le _, by simp, by simp⟩ ?_ ?_
  · (refine fK ?_; (with_reducible repeat' (first | exact trivial | (show _ ∧ _; refine aK ?_ ?_))); (all_goals try rfl))
    all_goals first
      | (refine cast (congrArg (fun x => RowsM _ x _) (rowsK_none (l := l) (ta := 81) (tb := 91)).symm) ?_; exact .refl (noRef_nodes _))
      | exact .inl rfl
      | exact ⟨.refl rfl, rfl⟩
      | trace_state
  rintro ⟨k, da, db⟩ ⟨hk, hda, hdb⟩
  dsimp only at hk hda hdb
  cases da <;> cases db
  · have ha' : k ≤ a := by simpa using hda
    have hb' : k ≤ b := by simpa using hdb
    with_reducible show wpC _ _ _ _ _ _ [(120, mHand m l.length 74 (.own 93 0 0)), (93, .live 9 [] false), (74, mRows l l.length 81 l.length 91)] _
    with_reducible refine wK ?_
    refine IfK.mk (fun h1 => ?_) (fun h1 => ?_) <;> (try simp only [castN] at h1) <;> with_reducible refine wK ?_
    · have hkl : k < l.length := by simp only [decide_eq_true_eq, castN] at h1; omega
      by_cases ea : k = a
      · subst ea
        have hc := ho k ya ha
        have hr : (rowsK l l.length 81 l.length 91).set (0 + k) (oNodeK ya 81) = rowsK l k 81 l.length 91 := rowsK_ext fun i z hz => by
          have := (List.getElem?_eq_some_iff.1 hz).1
          by_cases e : i = k
          · subst e; rw [ha] at hz; cases hz; unfold rowK; simp <;> omega
          · unfold rowK; rw [if_neg e]; repeat' split
            all_goals first | rfl | omega
        have hg : (rowsK l l.length 81 l.length 91)[k]? = some (eNode ya) := by rw [rowsK_get ha, rowK_other (by omega) (by omega)]
        obtain ⟨y1, y2, y3, y4, y5, y6, y7, y8, y9, y10⟩ := ya
        simp only at hc
        repeat' (first
    | refine gK ?_
    | ((first
      | ((with_reducible show LtK _ _ _ _ _); refine LtK.mk k rfl (by first | exact hkl | (rw [rowsK_len]; exact hkl)) ?_)
      | ((with_reducible show ElemK _ _ _ _ _); first | refine ElemK.mk (eNode ⟨y1, y2, y3, y4, y5, y6, y7, y8, y9, y10⟩) (by first | exact hg | (rw [Nat.zero_add]; exact hg)) ?_ | refine ElemK.mk _ rfl ?_)
      | ((with_reducible show CallK _ _ 72 _ _ _ _); refine CallK.new 81 [] hc c72 ⟨rfl, trivial⟩ rfl rfl rfl (kid_outs _) rfl ?_)
      | ((with_reducible show DrawK _ _ _ _); refine dK ?_)) <;> with_reducible refine wK ?_)
    | ((with_reducible show (_ ∧ _) ∧ _ ∧ _); (refine eK ?_ ?_ <;> with_reducible repeat' (first | exact trivial | (show _ ∧ _; refine aK ?_ ?_)))))
        refine NextK.mk (k + 1, true, false) ⟨by dsimp only; omega, by dsimp only; first | (simp; done) | (simp; omega), by dsimp only; first | (simp; done) | (simp; omega)⟩ (by dsimp only; omega) ?_
        (refine fK ?_; (with_reducible repeat' (first | exact trivial | (show _ ∧ _; refine aK ?_ ?_))); (all_goals try rfl))
        all_goals first
          | (refine cast (congrArg (RowsM _ _) hr.symm) ?_; exact rows_fit2 (fun h => by first | (exfalso; omega) | rfl) (fun h => by first | (exfalso; omega) | rfl))
          | exact .inl rfl
          | exact ⟨.refl rfl, rfl⟩
          | exact ⟨.refl (noRef_ints _), noRef_ints _⟩
          | (simp; done)
          | trace_state
      · skip
        by_cases eb : k = b
        · subst eb
          have hc := ho k yb hb
          have hr : (rowsK l l.length 81 l.length 91).set (0 + k) (oNodeK yb 91) = rowsK l l.length 81 k 91 := rowsK_ext fun i z hz => by
            have := (List.getElem?_eq_some_iff.1 hz).1
            by_cases e : i = k
            · subst e; rw [hb] at hz; cases hz; unfold rowK; simp <;> omega
            · unfold rowK; rw [if_neg e]; repeat' split
              all_goals first | rfl | omega
          have hg : (rowsK l l.length 81 l.length 91)[k]? = some (eNode yb) := by rw [rowsK_get hb, rowK_other (by omega) (by omega)]
          obtain ⟨y1, y2, y3, y4, y5, y6, y7, y8, y9, y10⟩ := yb
          simp only at hc
          repeat' (first
    | refine gK ?_
    | ((first
      | ((with_reducible show LtK _ _ _ _ _); refine LtK.mk k rfl (by first | exact hkl | (rw [rowsK_len]; exact hkl)) ?_)
      | ((with_reducible show ElemK _ _ _ _ _); first | refine ElemK.mk (eNode ⟨y1, y2, y3, y4, y5, y6, y7, y8, y9, y10⟩) (by first | exact hg | (rw [Nat.zero_add]; exact hg)) ?_ | refine ElemK.mk _ rfl ?_)
      | ((with_reducible show CallK _ _ 72 _ _ _ _); refine CallK.new 91 [] hc c72 ⟨rfl, trivial⟩ rfl rfl rfl (kid_outs _) rfl ?_)
      | ((with_reducible show DrawK _ _ _ _); refine dK ?_)) <;> with_reducible refine wK ?_)
    | ((with_reducible show (_ ∧ _) ∧ _ ∧ _); (refine eK ?_ ?_ <;> with_reducible repeat' (first | exact trivial | (show _ ∧ _; refine aK ?_ ?_)))))
          refine NextK.mk (k + 1, false, true) ⟨by dsimp only; omega, by dsimp only; first | (simp; done) | (simp; omega), by dsimp only; first | (simp; done) | (simp; omega)⟩ (by dsimp only; omega) ?_
          (refine fK ?_; (with_reducible repeat' (first | exact trivial | (show _ ∧ _; refine aK ?_ ?_))); (all_goals try rfl))
          all_goals first
            | (refine cast (congrArg (RowsM _ _) hr.symm) ?_; exact rows_fit2 (fun h => by first | (exfalso; omega) | rfl) (fun h => by first | (exfalso; omega) | rfl))
            | exact .inl rfl
            | exact ⟨.refl rfl, rfl⟩
            | exact ⟨.refl (noRef_ints _), noRef_ints _⟩
            | (simp; done)
            | trace_state
        · skip
          obtain ⟨y, hy⟩ : ∃ y, l[k]? = some y := ⟨_, List.getElem?_eq_getElem hkl⟩
          have hc := hv k y hy
          have hr : (rowsK l l.length 81 l.length 91).set (0 + k) (oNode y) = rowsK l l.length 81 l.length 91 := rowsK_ext fun i z hz => by
            have := (List.getElem?_eq_some_iff.1 hz).1
            by_cases e : i = k
            · subst e; rw [hy] at hz; cases hz; rw [if_pos rfl, rowK_other (by omega) (by omega)]; rfl
            · rw [if_neg e]
          have hg : (rowsK l l.length 81 l.length 91)[k]? = some (eNode y) := by rw [rowsK_get hy, rowK_other (by omega) (by omega)]
          obtain ⟨y1, y2, y3, y4, y5, y6, y7, y8, y9, y10⟩ := y
          simp only at hc
          repeat' (first
    | refine gK ?_
    | ((first
      | ((with_reducible show LtK _ _ _ _ _); refine LtK.mk k rfl (by first | exact hkl | (rw [rowsK_len]; exact hkl)) ?_)
      | ((with_reducible show ElemK _ _ _ _ _); first | refine ElemK.mk (eNode ⟨y1, y2, y3, y4, y5, y6, y7, y8, y9, y10⟩) (by first | exact hg | (rw [Nat.zero_add]; exact hg)) ?_ | refine ElemK.mk _ rfl ?_)
      | ((with_reducible show CallK _ _ 72 _ _ _ _); refine CallK.val [] hc c72 ⟨rfl, trivial⟩ rfl rfl rfl ?_)
      | ((with_reducible show DrawK _ _ _ _); refine dK ?_)) <;> with_reducible refine wK ?_)
    | ((with_reducible show (_ ∧ _) ∧ _ ∧ _); (refine eK ?_ ?_ <;> with_reducible repeat' (first | exact trivial | (show _ ∧ _; refine aK ?_ ?_)))))
          refine NextK.mk (k + 1, false, false) ⟨by dsimp only; omega, by dsimp only; first | (simp; done) | (simp; omega), by dsimp only; first | (simp; done) | (simp; omega)⟩ (by dsimp only; omega) ?_
          (refine fK ?_; (with_reducible repeat' (first | exact trivial | (show _ ∧ _; refine aK ?_ ?_))); (all_goals try rfl))
          all_goals first
            | (refine cast (congrArg (RowsM _ _) hr.symm) ?_; exact rows_fit2 (fun h => by first | (exfalso; omega) | rfl) (fun h => by first | (exfalso; omega) | rfl))
            | exact .inl rfl
            | exact ⟨.refl rfl, rfl⟩
            | exact ⟨.refl (noRef_ints _), noRef_ints _⟩
            | (simp; done)
            | trace_state
    · have hjl : k = l.length := by simp only [decide_eq_false_iff_not, castN] at h1; omega
      exfalso; omega
  · have ha' : k ≤ a := by simpa using hda
    have hb' : b < k := by simpa using hdb
    with_reducible show wpC _ _ _ _ _ _ [(120, mHand m l.length 74 (.own 93 0 0)), (93, .live 9 [] false), (91, mKid yb.kids), (74, mRows l l.length 81 b 91)] _
    with_reducible refine wK ?_
    refine IfK.mk (fun h1 => ?_) (fun h1 => ?_) <;> (try simp only [castN] at h1) <;> with_reducible refine wK ?_
    · have hkl : k < l.length := by simp only [decide_eq_true_eq, castN] at h1; omega
      by_cases ea : k = a
      · subst ea
        have hc := ho k ya ha
        have hr : (rowsK l l.length 81 b 91).set (0 + k) (oNodeK ya 81) = rowsK l k 81 b 91 := rowsK_ext fun i z hz => by
          have := (List.getElem?_eq_some_iff.1 hz).1
          by_cases e : i = k
          · subst e; rw [ha] at hz; cases hz; unfold rowK; simp <;> omega
          · unfold rowK; rw [if_neg e]; repeat' split
            all_goals first | rfl | omega
        have hg : (rowsK l l.length 81 b 91)[k]? = some (eNode ya) := by rw [rowsK_get ha, rowK_other (by omega) (by omega)]
        obtain ⟨y1, y2, y3, y4, y5, y6, y7, y8, y9, y10⟩ := ya
        simp only at hc
        repeat' (first
    | refine gK ?_
    | ((first
      | ((with_reducible show LtK _ _ _ _ _); refine LtK.mk k rfl (by first | exact hkl | (rw [rowsK_len]; exact hkl)) ?_)
      | ((with_reducible show ElemK _ _ _ _ _); first | refine ElemK.mk (eNode ⟨y1, y2, y3, y4, y5, y6, y7, y8, y9, y10⟩) (by first | exact hg | (rw [Nat.zero_add]; exact hg)) ?_ | refine ElemK.mk _ rfl ?_)
      | ((with_reducible show CallK _ _ 72 _ _ _ _); refine CallK.new 81 [] hc c72 ⟨rfl, trivial⟩ rfl rfl rfl (kid_outs _) rfl ?_)
      | ((with_reducible show DrawK _ _ _ _); refine dK ?_)) <;> with_reducible refine wK ?_)
    | ((with_reducible show (_ ∧ _) ∧ _ ∧ _); (refine eK ?_ ?_ <;> with_reducible repeat' (first | exact trivial | (show _ ∧ _; refine aK ?_ ?_)))))
        refine NextK.mk (k + 1, true, true) ⟨by dsimp only; omega, by dsimp only; first | (simp; done) | (simp; omega), by dsimp only; first | (simp; done) | (simp; omega)⟩ (by dsimp only; omega) ?_
        (refine fK ?_; (with_reducible repeat' (first | exact trivial | (show _ ∧ _; refine aK ?_ ?_))); (all_goals try rfl))
        all_goals first
          | (refine cast (congrArg (RowsM _ _) hr.symm) ?_; exact rows_fit2 (fun h => by first | (exfalso; omega) | rfl) (fun h => by first | (exfalso; omega) | rfl))
          | exact .inl rfl
          | exact ⟨.refl rfl, rfl⟩
          | exact ⟨.refl (noRef_ints _), noRef_ints _⟩
          | (simp; done)
          | trace_state
      · skip
        obtain ⟨y, hy⟩ : ∃ y, l[k]? = some y := ⟨_, List.getElem?_eq_getElem hkl⟩
        have hc := hv k y hy
        have hr : (rowsK l l.length 81 b 91).set (0 + k) (oNode y) = rowsK l l.length 81 b 91 := rowsK_ext fun i z hz => by
          have := (List.getElem?_eq_some_iff.1 hz).1
          by_cases e : i = k
          · subst e; rw [hy] at hz; cases hz; rw [if_pos rfl, rowK_other (by omega) (by omega)]; rfl
          · rw [if_neg e]
        have hg : (rowsK l l.length 81 b 91)[k]? = some (eNode y) := by rw [rowsK_get hy, rowK_other (by omega) (by omega)]
        obtain ⟨y1, y2, y3, y4, y5, y6, y7, y8, y9, y10⟩ := y
        simp only at hc
        repeat' (first
    | refine gK ?_
    | ((first
      | ((with_reducible show LtK _ _ _ _ _); refine LtK.mk k rfl (by first | exact hkl | (rw [rowsK_len]; exact hkl)) ?_)
      | ((with_reducible show ElemK _ _ _ _ _); first | refine ElemK.mk (eNode ⟨y1, y2, y3, y4, y5, y6, y7, y8, y9, y10⟩) (by first | exact hg | (rw [Nat.zero_add]; exact hg)) ?_ | refine ElemK.mk _ rfl ?_)
      | ((with_reducible show CallK _ _ 72 _ _ _ _); refine CallK.val [] hc c72 ⟨rfl, trivial⟩ rfl rfl rfl ?_)
      | ((with_reducible show DrawK _ _ _ _); refine dK ?_)) <;> with_reducible refine wK ?_)
    | ((with_reducible show (_ ∧ _) ∧ _ ∧ _); (refine eK ?_ ?_ <;> with_reducible repeat' (first | exact trivial | (show _ ∧ _; refine aK ?_ ?_)))))
        refine NextK.mk (k + 1, false, true) ⟨by dsimp only; omega, by dsimp only; first | (simp; done) | (simp; omega), by dsimp only; first | (simp; done) | (simp; omega)⟩ (by dsimp only; omega) ?_
        (refine fK ?_; (with_reducible repeat' (first | exact trivial | (show _ ∧ _; refine aK ?_ ?_))); (all_goals try rfl))
        all_goals first
          | (refine cast (congrArg (RowsM _ _) hr.symm) ?_; exact rows_fit2 (fun h => by first | (exfalso; omega) | rfl) (fun h => by first | (exfalso; omega) | rfl))
          | exact .inl rfl
          | exact ⟨.refl rfl, rfl⟩
          | exact ⟨.refl (noRef_ints _), noRef_ints _⟩
          | (simp; done)
          | trace_state
    · have hjl : k = l.length := by simp only [decide_eq_false_iff_not, castN] at h1; omega
      exfalso; omega
  · have ha' : a < k := by simpa using hda
    have hb' : k ≤ b := by simpa using hdb
    with_reducible show wpC _ _ _ _ _ _ [(120, mHand m l.length 74 (.own 93 0 0)), (93, .live 9 [] false), (81, mKid ya.kids), (74, mRows l a 81 l.length 91)] _
    with_reducible refine wK ?_
    refine IfK.mk (fun h1 => ?_) (fun h1 => ?_) <;> (try simp only [castN] at h1) <;> with_reducible refine wK ?_
    · have hkl : k < l.length := by simp only [decide_eq_true_eq, castN] at h1; omega
      by_cases eb : k = b
      · subst eb
        have hc := ho k yb hb
        have hr : (rowsK l a 81 l.length 91).set (0 + k) (oNodeK yb 91) = rowsK l a 81 k 91 := rowsK_ext fun i z hz => by
          have := (List.getElem?_eq_some_iff.1 hz).1
          by_cases e : i = k
          · subst e; rw [hb] at hz; cases hz; unfold rowK; simp <;> omega
          · unfold rowK; rw [if_neg e]; repeat' split
            all_goals first | rfl | omega
        have hg : (rowsK l a 81 l.length 91)[k]? = some (eNode yb) := by rw [rowsK_get hb, rowK_other (by omega) (by omega)]
        obtain ⟨y1, y2, y3, y4, y5, y6, y7, y8, y9, y10⟩ := yb
        simp only at hc
        repeat' (first
    | refine gK ?_
    | ((first
      | ((with_reducible show LtK _ _ _ _ _); refine LtK.mk k rfl (by first | exact hkl | (rw [rowsK_len]; exact hkl)) ?_)
      | ((with_reducible show ElemK _ _ _ _ _); first | refine ElemK.mk (eNode ⟨y1, y2, y3, y4, y5, y6, y7, y8, y9, y10⟩) (by first | exact hg | (rw [Nat.zero_add]; exact hg)) ?_ | refine ElemK.mk _ rfl ?_)
      | ((with_reducible show CallK _ _ 72 _ _ _ _); refine CallK.new 91 [] hc c72 ⟨rfl, trivial⟩ rfl rfl rfl (kid_outs _) rfl ?_)
      | ((with_reducible show DrawK _ _ _ _); refine dK ?_)) <;> with_reducible refine wK ?_)
    | ((with_reducible show (_ ∧ _) ∧ _ ∧ _); (refine eK ?_ ?_ <;> with_reducible repeat' (first | exact trivial | (show _ ∧ _; refine aK ?_ ?_)))))
        refine NextK.mk (k + 1, true, true) ⟨by dsimp only; omega, by dsimp only; first | (simp; done) | (simp; omega), by dsimp only; first | (simp; done) | (simp; omega)⟩ (by dsimp only; omega) ?_
        (refine fK ?_; (with_reducible repeat' (first | exact trivial | (show _ ∧ _; refine aK ?_ ?_))); (all_goals try rfl))
        all_goals first
          | (refine cast (congrArg (RowsM _ _) hr.symm) ?_; exact rows_fit2 (fun h => by first | (exfalso; omega) | rfl) (fun h => by first | (exfalso; omega) | rfl))
          | exact .inl rfl
          | exact ⟨.refl rfl, rfl⟩
          | exact ⟨.refl (noRef_ints _), noRef_ints _⟩
          | (simp; done)
          | trace_state
      · skip
        obtain ⟨y, hy⟩ : ∃ y, l[k]? = some y := ⟨_, List.getElem?_eq_getElem hkl⟩
        have hc := hv k y hy
        have hr : (rowsK l a 81 l.length 91).set (0 + k) (oNode y) = rowsK l a 81 l.length 91 := rowsK_ext fun i z hz => by
          have := (List.getElem?_eq_some_iff.1 hz).1
          by_cases e : i = k
          · subst e; rw [hy] at hz; cases hz; rw [if_pos rfl, rowK_other (by omega) (by omega)]; rfl
          · rw [if_neg e]
        have hg : (rowsK l a 81 l.length 91)[k]? = some (eNode y) := by rw [rowsK_get hy, rowK_other (by omega) (by omega)]
        obtain ⟨y1, y2, y3, y4, y5, y6, y7, y8, y9, y10⟩ := y
        simp only at hc
        repeat' (first
    | refine gK ?_
    | ((first
      | ((with_reducible show LtK _ _ _ _ _); refine LtK.mk k rfl (by first | exact hkl | (rw [rowsK_len]; exact hkl)) ?_)
      | ((with_reducible show ElemK _ _ _ _ _); first | refine ElemK.mk (eNode ⟨y1, y2, y3, y4, y5, y6, y7, y8, y9, y10⟩) (by first | exact hg | (rw [Nat.zero_add]; exact hg)) ?_ | refine ElemK.mk _ rfl ?_)
      | ((with_reducible show CallK _ _ 72 _ _ _ _); refine CallK.val [] hc c72 ⟨rfl, trivial⟩ rfl rfl rfl ?_)
      | ((with_reducible show DrawK _ _ _ _); refine dK ?_)) <;> with_reducible refine wK ?_)
    | ((with_reducible show (_ ∧ _) ∧ _ ∧ _); (refine eK ?_ ?_ <;> with_reducible repeat' (first | exact trivial | (show _ ∧ _; refine aK ?_ ?_)))))
        refine NextK.mk (k + 1, true, false) ⟨by dsimp only; omega, by dsimp only; first | (simp; done) | (simp; omega), by dsimp only; first | (simp; done) | (simp; omega)⟩ (by dsimp only; omega) ?_
        (refine fK ?_; (with_reducible repeat' (first | exact trivial | (show _ ∧ _; refine aK ?_ ?_))); (all_goals try rfl))
        all_goals first
          | (refine cast (congrArg (RowsM _ _) hr.symm) ?_; exact rows_fit2 (fun h => by first | (exfalso; omega) | rfl) (fun h => by first | (exfalso; omega) | rfl))
          | exact .inl rfl
          | exact ⟨.refl rfl, rfl⟩
          | exact ⟨.refl (noRef_ints _), noRef_ints _⟩
          | (simp; done)
          | trace_state
    · have hjl : k = l.length := by simp only [decide_eq_false_iff_not, castN] at h1; omega
      exfalso; omega
  · have ha' : a < k := by simpa using hda
    have hb' : b < k := by simpa using hdb
    with_reducible show wpC _ _ _ _ _ _ [(120, mHand m l.length 74 (.own 93 0 0)), (93, .live 9 [] false), (81, mKid ya.kids), (91, mKid yb.kids), (74, mRows l a 81 b 91)] _
    with_reducible refine wK ?_
    refine IfK.mk (fun h1 => ?_) (fun h1 => ?_) <;> (try simp only [castN] at h1) <;> with_reducible refine wK ?_
    · have hkl : k < l.length := by simp only [decide_eq_true_eq, castN] at h1; omega
      obtain ⟨y, hy⟩ : ∃ y, l[k]? = some y := ⟨_, List.getElem?_eq_getElem hkl⟩
      have hc := hv k y hy
      have hr : (rowsK l a 81 b 91).set (0 + k) (oNode y) = rowsK l a 81 b 91 := rowsK_ext fun i z hz => by
        have := (List.getElem?_eq_some_iff.1 hz).1
        by_cases e : i = k
        · subst e; rw [hy] at hz; cases hz; rw [if_pos rfl, rowK_other (by omega) (by omega)]; rfl
        · rw [if_neg e]
      have hg : (rowsK l a 81 b 91)[k]? = some (eNode y) := by rw [rowsK_get hy, rowK_other (by omega) (by omega)]
      obtain ⟨y1, y2, y3, y4, y5, y6, y7, y8, y9, y10⟩ := y
      simp only at hc
      repeat' (first
    | refine gK ?_
    | ((first
      | ((with_reducible show LtK _ _ _ _ _); refine LtK.mk k rfl (by first | exact hkl | (rw [rowsK_len]; exact hkl)) ?_)
      | ((with_reducible show ElemK _ _ _ _ _); first | refine ElemK.mk (eNode ⟨y1, y2, y3, y4, y5, y6, y7, y8, y9, y10⟩) (by first | exact hg | (rw [Nat.zero_add]; exact hg)) ?_ | refine ElemK.mk _ rfl ?_)
      | ((with_reducible show CallK _ _ 72 _ _ _ _); refine CallK.val [] hc c72 ⟨rfl, trivial⟩ rfl rfl rfl ?_)
      | ((with_reducible show DrawK _ _ _ _); refine dK ?_)) <;> with_reducible refine wK ?_)
    | ((with_reducible show (_ ∧ _) ∧ _ ∧ _); (refine eK ?_ ?_ <;> with_reducible repeat' (first | exact trivial | (show _ ∧ _; refine aK ?_ ?_)))))
      refine NextK.mk (k + 1, true, true) ⟨by dsimp only; omega, by dsimp only; first | (simp; done) | (simp; omega), by dsimp only; first | (simp; done) | (simp; omega)⟩ (by dsimp only; omega) ?_
      (refine fK ?_; (with_reducible repeat' (first | exact trivial | (show _ ∧ _; refine aK ?_ ?_))); (all_goals try rfl))
      all_goals first
        | (refine cast (congrArg (RowsM _ _) hr.symm) ?_; exact rows_fit2 (fun h => by first | (exfalso; omega) | rfl) (fun h => by first | (exfalso; omega) | rfl))
        | exact .inl rfl
        | exact ⟨.refl rfl, rfl⟩
        | exact ⟨.refl (noRef_ints _), noRef_ints _⟩
        | (simp; done)
        | trace_state
    · have hjl : k = l.length := by simp only [decide_eq_false_iff_not, castN] at h1; omega
      subst hjl
      repeat' (first
    | refine gK ?_
    | (((with_reducible show DrawK _ _ _ _); refine dK ?_) <;> with_reducible refine wK ?_)
    | ((with_reducible show (_ ∧ _) ∧ _ ∧ _); (refine eK ?_ ?_ <;> with_reducible repeat' (first | exact trivial | (show _ ∧ _; refine aK ?_ ?_)))))
      all_goals first | rfl | exact .inl rfl | exact ⟨.refl rfl, rfl⟩ | exact rows_fit2 (fun _ => rfl) (fun _ => rfl) | exact ⟨.refl (noRef_ints _), noRef_ints _⟩ | exact MFL_refl (noRef_ints _) | trace_state
@[reducible] def mNotes (l : List NoteM) : MS := .live 9 (l.map oNote) false
theorem noRef_notes (l : List NoteM) : noRefL (l.map oNote) = true := noRefL_map oNote (fun _ => rfl) l
theorem get_ints {l : List Int} {k : Nat} {e : Int} (h : l[k]? = some e) : (l.map oInt)[k]? = some (eInt e) := by rw [List.getElem?_map, h]; rfl
section
variable {l : List NodeM} {m : Int} {a b ta tb : Nat} {ka kb : List Int}
theorem rows_lent {tab : List (Nat × Nat)} {T : List Nat} {ml : ML} {ta' tb' : Nat} (h1 : a < l.length → lkN tab ta' = some ta) (h2 : b < l.length → lkN tab tb' = some tb) : LentK tab T ml (rowsK l a ta' b tb') (rowsK l a ta b tb) :=
  .inr ⟨MFL_rows (rows_fit2 h1 h2), sameW_len (by rw [rowsK_len, rowsK_len]) rowsK_wide rowsK_wide⟩
theorem rows_news {names : List Nat} {n ta0 tb0 : Nat} {p : Prop} (h1 : getR names ta0 = some ta) (h2 : getR names tb0 = some tb) (i1 : ta0 < n) (i2 : tb0 < n) :
    p ∨ (rowsK l a ta b tb = mapR (renR names 12) (rowsK l a ta0 b tb0) ∧ allR (okR 12 n) (rowsK l a ta0 b tb0) = true ∧ sameW (rowsK l a ta b tb) (rowsK l a ta0 b tb0) = true) :=
  .inr ⟨ren_rowsK h1 h2, ok_rowsK i1 i2, sameW_len (by rw [rowsK_len, rowsK_len]) rowsK_wide rowsK_wide⟩
theorem frz_hand (hka : ∀ y, l[a]? = some y → y.kids = ka) (hkb : ∀ y, l[b]? = some y → y.kids = kb) {rest : List AV} (hr : noRefL rest = true) :
    MFL (MF [] (inT [0, 1, 2]) [(0, mRows l a 1 b 2), (1, mKid ka), (2, mKid kb)] 12) (eFor ⟨l, m⟩ :: rest) (.agg [.own 0 0 l.length, eInt m] :: rest) :=
  ⟨⟨frz_rows (ra := false) (rb := false) (ea := []) (eb := []) rfl rfl (fun y hy => by rw [List.append_nil, hka y hy]; exact ⟨rfl, rfl⟩) (fun y hy => by rw [List.append_nil, hkb y hy]; exact ⟨rfl, rfl⟩), rfl, trivial⟩, MFL_refl hr⟩
theorem thaw_for {f : FuncId} {rest : List AV} {res : AV} (hka : ∀ y, l[a]? = some y → y.kids = ka) (hkb : ∀ y, l[b]? = some y → y.kids = kb) (h : FnOK Tryz.prog f [] (eFor ⟨l, m⟩ :: rest) [] res) (hp : noMem res = true) (hr : noRefL rest = true) :
    FnOK Tryz.prog f [mRows l a 1 b 2, mKid ka, mKid kb] (.agg [.own 0 0 l.length, eInt m] :: rest) [mRows l a 1 b 2, mKid ka, mKid kb] res :=
  FnOK.thaw [(0, mRows l a 1 b 2), (1, mKid ka), (2, mKid kb)] [0, 1, 2] (objsS_objsOf [mRows l a 1 b 2, mKid ka, mKid kb]) h hp (frz_hand hka hkb hr)
theorem thaw_new {f : FuncId} {rest : List AV} {es ex : List Int} (hka : ∀ y, l[a]? = some y → y.kids = ka) (hkb : ∀ y, l[b]? = some y → y.kids = kb) (h : FnOK Tryz.prog f [] (eFor ⟨l, m⟩ :: rest) [mKid (es ++ ex)] (.own 0 0 es.length)) (hr : noRefL rest = true) :
    FnOK Tryz.prog f [mRows l a 1 b 2, mKid ka, mKid kb] (.agg [.own 0 0 l.length, eInt m] :: rest) [mRows l a 1 b 2, mKid ka, mKid kb, mKid (es ++ ex)] (.own 3 0 es.length) := by
  have hx : ∀ r ∈ (es ++ ex).map oInt, ∃ e : Int, r = eInt e := fun r hr => by
    obtain ⟨e, _, rfl⟩ := List.mem_map.1 hr
    exact ⟨e, rfl⟩
  exact FnOK.thawNew [(0, mRows l a 1 b 2), (1, mKid ka), (2, mKid kb)] [0, 1, 2] (objsS_objsOf [mRows l a 1 b 2, mKid ka, mKid kb]) h (fun c hc => by
    unfold flat at hc
    obtain ⟨r, h1, h2⟩ := List.mem_flatMap.1 hc
    obtain ⟨e, rfl⟩ := hx r h1
    cases List.mem_singleton.1 h2
    rfl) (fun r hr cs e => by
    obtain ⟨i, rfl⟩ := hx r hr
    cases e) (frz_hand hka hkb hr)
end
def withN (x : NoteM) (k : Int) : NoteM := { x with node := k }
@[reducible] def xNote (x : NoteM) (k : Int) : AV := .agg [eInt x.kind, eInt k, eInt x.src, eInt x.dst, eStr x.name, eBool x.had, eBool x.has, eStr x.old, eStr x.new]
theorem tell_K {l : List NodeM} {m n : Int} {a b : Nat} {ka kb es ex : List Int} {ns : List NoteM} {x : NoteM} (hka : ∀ y, l[a]? = some y → y.kids = ka) (hkb : ∀ y, l[b]? = some y → y.kids = kb) (he : es.length ≤ 1000) (hn : ns.length ≤ 100000)
    (h191 : FnOK Tryz.prog 34 [] [eFor ⟨l, m⟩, eInt n] [mKid (es ++ ex)] (.own 0 0 es.length)) :
    FnOK Tryz.prog 141 [mHand m l.length 4 (.own 3 0 ns.length), mKid ka, mKid kb, mNotes ns, mRows l a 1 b 2] [.ptr 0 0 0, eInt n, eNote x]
      [mHand m l.length 4 (.own 5 0 (ns.length + es.length)), mKid ka, mKid kb, .dead, mRows l a 1 b 2, mNotes (ns ++ es.map (withN x))] (.tup []) := by
  have hle : (es.map oInt).length = es.length := List.length_map ..
  refine FnOK.startN [(5, 93)] (rvs := []) G G_good Tryz.func141 rfl Tryz.ntmps141 rfl rfl ?_; with_reducible refine wD ?_
  refine CallK.lend (news := [mRows l a 1 b 2, mKid ka, mKid kb, mKid (es ++ ex)]) [4, 1, 2, 111] [] (thaw_new hka hkb h191 rfl) c34 ⟨⟨⟨rfl, rfl⟩, rfl, trivial⟩, rfl, trivial⟩ ⟨⟨rfl, rows_lent (fun _ => rfl) (fun _ => rfl)⟩, ⟨rfl, .inl ⟨rfl, noRef_ints _⟩⟩, ⟨rfl, .inl ⟨rfl, noRef_ints _⟩⟩, trivial⟩ rfl ⟨⟨rfl, rfl⟩, rfl⟩ rfl ⟨⟨rfl, rows_news rfl rfl (by decide) (by decide)⟩, ⟨rfl, .inl ⟨rfl, noRef_ints _⟩⟩, ⟨rfl, .inl ⟨rfl, noRef_ints _⟩⟩, ⟨rfl, .inl ⟨rfl, noRef_ints _⟩⟩, trivial⟩ rfl rfl ?_; with_reducible refine wK ?_
  refine LoopK.useH G G_good (fun (s : Nat × Int) => [(0, .ptr 0 0 0), (5, .ptr 50 0 0), (13, .own 111 0 es.length), (14, eInt es.length), (15, eInt s.1)])
    (fun s => [(0, mHand m l.length 4 (.own 93 0 (ns.length + s.1))), (1, mKid ka), (2, mKid kb), (3, .dead), (4, mRows l a 1 b 2), (111, mKid (es ++ ex)), (50, .live 9 [xNote x s.2] false), (93, mNotes (ns ++ (es.take s.1).map (withN x)))])
    (fun s => s.1 ≤ es.length) (fun s => es.length - s.1) (0, x.node) [(93, 3)] (Nat.zero_le _) ?_ ?_
  · (refine fK ?_; (with_reducible repeat' (first | exact trivial | (show _ ∧ _; refine aK ?_ ?_))); (all_goals try rfl))
    all_goals first
      | (exact ⟨.refl (noRef_ints _), noRef_ints _⟩)
      | (exact cast (congrArg (fun z => ObjK _ z _) (show ns.map oNote = (ns ++ (es.take 0).map (withN x)).map oNote by simp)) ⟨.refl (noRef_notes _), noRef_notes _⟩)
      | (exact rows_fit2 (fun _ => rfl) (fun _ => rfl))
      | trace_state
  rintro ⟨k, c⟩ hk
  dsimp only at hk
  with_reducible refine wK ?_
  refine IfK.mk (fun h1 => ?_) (fun h1 => ?_) <;> (try simp only [castN] at h1) <;> with_reducible refine wK ?_
  · have hkl : k < es.length := by simp only [decide_eq_true_eq, castN] at h1; omega
    obtain ⟨e, hy⟩ : ∃ e, es[k]? = some e := ⟨_, List.getElem?_eq_getElem hkl⟩
    have hy2 : (es ++ ex)[k]? = some e := by rw [List.getElem?_append_left hkl]; exact hy
    repeat' (first
    | refine gK ?_
    | ((first
      | ((with_reducible show LtK _ _ _ _ _); refine LtK.mk k rfl (by first | exact hkl | (simp; omega)) ?_)
      | ((with_reducible show ElemK _ _ _ _ _); refine ElemK.mk (eInt e) (by first | exact get_ints hy2 | (rw [Nat.zero_add]; exact get_ints hy2)) ?_)
      | ((with_reducible show AppK _ _ _ _ _ _ _ _ _ _); refine AppK.mk ((ns ++ (es.take k).map (withN x)).map oNote) [xNote x e] ⟨rfl, (by simp; omega), rfl⟩ ⟨rfl, rfl, rfl⟩ rfl (by simp; omega) (by simp; omega) ?_)
      | ((with_reducible show DrawK _ _ _ _); refine dK ?_)) <;> with_reducible refine wK ?_)
    | ((with_reducible show (_ ∧ _) ∧ _ ∧ _); (refine eK ?_ ?_ <;> with_reducible repeat' (first | exact trivial | (show _ ∧ _; refine aK ?_ ?_)))))
    have ht : es.take (k + 1) = es.take k ++ [e] := by rw [List.take_add_one, hy]; rfl
    have hrow : (ns ++ (es.take k).map (withN x)).map oNote ++ [xNote x e] = (ns ++ (es.take (k + 1)).map (withN x)).map oNote := by
      rw [ht, List.map_append, List.map_append, List.map_append, List.map_append, List.append_assoc]; rfl
    refine NextH.mk (k + 1, e) [(93, 281)] (by dsimp only; omega) (by dsimp only; omega) ?_
    (refine fK ?_; (with_reducible repeat' (first | exact trivial | (show _ ∧ _; refine aK ?_ ?_))); (all_goals try rfl))
    all_goals first
      | exact ⟨.refl (noRef_ints _), noRef_ints _⟩
      | exact rows_fit2 (fun _ => rfl) (fun _ => rfl)
      | exact cast (congrArg (fun z => ObjK _ z _) hrow) ⟨.refl (by rw [hrow]; exact noRef_notes _), by rw [hrow]; exact noRef_notes _⟩
      | (refine ⟨⟨⟨rfl, rfl⟩, rfl, ⟨rfl, ?_⟩, trivial⟩, trivial⟩; simp; omega)
      | (simp; omega)
      | trace_state
  · have hjl : k = es.length := by simp only [decide_eq_false_iff_not, castN] at h1; omega
    subst hjl
    repeat' (first
    | refine gK ?_
    | (((with_reducible show DrawK _ _ _ _); refine dK ?_) <;> with_reducible refine wK ?_)
    | ((with_reducible show (_ ∧ _) ∧ _ ∧ _); (refine eK ?_ ?_ <;> with_reducible repeat' (first | exact trivial | (show _ ∧ _; refine aK ?_ ?_)))))
    all_goals first | rfl | exact .inl rfl | exact ⟨.refl rfl, rfl⟩ | exact rows_fit2 (fun _ => rfl) (fun _ => rfl) | exact ⟨.refl (noRef_ints _), noRef_ints _⟩ | (rw [List.take_of_length_le (Nat.le_refl _)]; exact ⟨.refl (noRef_notes _), noRef_notes _⟩) | trace_state
section
variable {l : List NodeM} {a b ta tb ta' n i : Nat} {y : NodeM}
theorem rowsK_setA (y' : NodeM) (h : a < l.length) : (rowsK l a ta b tb).set a (oNodeK y' ta') = rowsK (l.set a y') a ta' b tb := by
  apply List.ext_getElem?
  intro j
  unfold rowsK
  rw [List.getElem?_set, List.getElem?_mapIdx, List.getElem?_mapIdx, List.getElem?_set, List.length_mapIdx]
  by_cases e : a = j
  · subst e
    rw [if_pos rfl, if_pos rfl, if_pos h, if_pos h]
    show some _ = some (rowK a ta' b tb a y')
    rw [rowK_a]; rfl
  · rw [if_neg e, if_neg e]
    cases l[j]? with
    | none => rfl
    | some z =>
      show some (rowK a ta b tb j z) = some (rowK a ta' b tb j z)
      unfold rowK
      have hja : ¬ j = a := fun q => e q.symm
      rw [if_neg hja, if_neg hja]
theorem rowsK_setB (y' : NodeM) (hb : b < l.length) (hab : b ≠ a) : (rowsK l a ta b tb).set b (oNodeK y' tb) = rowsK (l.set b y') a ta b tb := by
  have := rowsK_set (l := l) (a := a) (ta := ta) (b := b) (tb := tb) y' hb
  rw [rowK_b hab] at this; exact this
theorem get_a (h : l[a]? = some y) : (rowsK l a ta b tb)[a]? = some (eNodeK y ta) := by rw [rowsK_get h, rowK_a]
theorem get_b (h : l[b]? = some y) (hab : b ≠ a) : (rowsK l a ta b tb)[b]? = some (eNodeK y tb) := by rw [rowsK_get h, rowK_b hab]
end
@[reducible] def wentN : NoteM := ⟨2, 0, 0, 0, ByteArray.empty, false, false, ByteArray.empty, ByteArray.empty⟩
theorem thaw_int {f : FuncId} {rest : List AV} {res : AV} {ks : List Int} (h : FnOK Tryz.prog f [] (eInts ks :: rest) [] res) (hp : noMem res = true) (hr : noRefL rest = true) :
    FnOK Tryz.prog f [mKid ks] (.own 0 0 ks.length :: rest) [mKid ks] res :=
  FnOK.thaw [(0, mKid ks)] [0] (objsS_objsOf [mKid ks]) h hp ⟨frz_ints rfl rfl rfl rfl, MFL_refl hr⟩
theorem out_b {l : List NodeM} {m : Int} {a b i : Nat} {ka kb es ex : List Int} {ns : List NoteM} {ya y : NodeM} {conn : Bool} {told : List NoteM} (htold : told = if conn then es.map (withN wentN) else []) (hL : l.length ≤ 1000) (ha : l[a]? = some ya) (hb : ∀ z, l[b]? = some z → z.kids = kb) (hy : l[b]? = some y) (hna : b ≠ a) (hka : ya.kids = ka) (hp : y.parent = a) (hi : i < ka.length) (hk : ka.length ≤ 1000) (he : es.length ≤ 1000) (hn : ns.length ≤ 100000)
    (h21 : FnOK Tryz.prog 35 [] [eFor ⟨l, m⟩, eInt b] [] (eBool conn)) (h191 : FnOK Tryz.prog 34 [] [eFor ⟨l, m⟩, eInt b] [mKid (es ++ ex)] (.own 0 0 es.length)) (h79 : FnOK Tryz.prog 73 [] [eInts ka, eInt b] [] (eInt i))
    (h188 : FnOK Tryz.prog 145 [mKid ka] [.own 0 0 ka.length, eInt i, eInt (i + 1 : Nat)] [.dead, mKid (ka.take i ++ ka.drop (i + 1))] (.own 1 0 (ka.take i ++ ka.drop (i + 1)).length)) :
    FnOK Tryz.prog 79 [mHand m l.length 4 (.own 3 0 ns.length), mKid ka, mKid kb, mNotes ns, mRows l a 1 b 2] [.ptr 0 0 0, eInt b]
      [mHand m l.length 4 (.own 6 0 (ns ++ told).length), .dead, mKid kb, .dead, mRows ((l.set a { ya with kids := ka.take i ++ ka.drop (i + 1) }).set b { y with parent := -1 }) a 5 b 2, mKid (ka.take i ++ ka.drop (i + 1)), mNotes (ns ++ told)] (.tup []) := by
  have hal := (List.getElem?_eq_some_iff.1 ha).1
  have hnl := (List.getElem?_eq_some_iff.1 hy).1
  have hA : ∀ z, l[a]? = some z → z.kids = ka := fun z hz => by rw [ha] at hz; cases hz; exact hka
  have t21 := thaw_for (rest := [eInt b]) hA hb h21 rfl rfl
  have t164 := tell_K (x := wentN) hA hb he hn h191
  have t79 := thaw_int (rest := [eInt b]) h79 rfl rfl
  have hne : a ≠ b := fun e => hna e.symm
  obtain ⟨k2, hk2⟩ : ∃ k2, k2 = ka.take i ++ ka.drop (i + 1) := ⟨_, rfl⟩
  rw [← hk2] at h188 ⊢
  have hrow : ∀ u, ((rowsK l a 1 b 2).set a (oNodeK { ya with kids := k2 } u)).set b (oNodeK { y with parent := -1 } 2) = rowsK ((l.set a { ya with kids := k2 }).set b { y with parent := -1 }) a u b 2 := fun u => by
    rw [rowsK_setA _ hal, rowsK_setB _ (by rw [List.length_set]; exact hnl) hna]
  have g1 : (rowsK l a 1 b 2)[b]? = some (eNodeK y 2) := get_b hy hna
  have g2 : (rowsK l a 1 b 2)[a]? = some (eNodeK ya 1) := get_a ha
  have g3 : ∀ x, ((rowsK l a 1 b 2).set a x)[b]? = some (eNodeK y 2) := fun x => by rw [List.getElem?_set, if_neg hne]; exact g1
  have g4 : ∀ x, ((rowsK l a 1 b 2).set (0 + a) x)[0 + b]? = some (eNodeK y 2) := fun x => by rw [Nat.zero_add, Nat.zero_add]; exact g3 x
  have hrow' : ((rowsK l a 1 b 2).set (0 + a) (oNodeK { ya with kids := k2 } 511)).set (0 + b) (oNodeK { y with parent := -1 } 2) = rowsK ((l.set a { ya with kids := k2 }).set b { y with parent := -1 }) a 511 b 2 := by rw [Nat.zero_add, Nat.zero_add]; exact hrow 511
  have hlr : (rowsK l a 1 b 2).length = l.length := rowsK_len
  obtain ⟨y1, y2, y3, y4, y5, y6, y7, y8, y9, y10⟩ := y
  obtain ⟨z1, z2, z3, z4, z5, z6, z7, z8, z9, z10⟩ := ya
  dsimp only at hp hka
  subst hp; subst hka
  have hpa : ¬ ((a : Int) = -1) := by omega
  refine FnOK.startN [(5, 511)] (rvs := []) G G_good Tryz.func79 rfl Tryz.ntmps79 rfl rfl ?_; with_reducible refine wD ?_
  (have fct := hpa; (repeat' (first
    | refine pF ?_
    | ((first
      | ((with_reducible show IfK _ _ _ _); (refine IfK.mk (fun hp => ?_) (fun hp => ?_) <;> (try simp only [castN, decide_eq_true_eq, decide_eq_false_iff_not, Bool.not_eq_true', Bool.not_eq_false', Decidable.not_not, Int.not_lt, Int.not_le] at hp)))
      | ((with_reducible show LtK _ _ _ _ _); first | refine LtK.mk b rfl (by first | exact hnl | (simp; omega)) ?_ | refine LtK.mk a rfl (by first | exact hal | (simp; omega)) ?_)
      | ((with_reducible show ElemK _ _ _ _ _); refine ElemK.mk _ (by first | exact g4 _ | exact g1 | exact g2 | exact g3 _ | (rw [Nat.zero_add]; first | exact g1 | exact g2 | exact g3 _)) ?_)
      | ((with_reducible show CallK _ _ 35 _ _ _ _); refine CallK.lend (news := [mRows l a 1 b 2, mKid z7, mKid kb]) [4, 1, 2] [] t21 c35 ⟨⟨⟨rfl, rfl⟩, rfl, trivial⟩, rfl, trivial⟩ ⟨⟨rfl, rows_lent (fun _ => rfl) (fun _ => rfl)⟩, ⟨rfl, .inl ⟨rfl, noRef_ints _⟩⟩, ⟨rfl, .inl ⟨rfl, noRef_ints _⟩⟩, trivial⟩ rfl ⟨⟨rfl, rfl⟩, rfl⟩ rfl ⟨⟨rfl, rows_news rfl rfl (by decide) (by decide)⟩, ⟨rfl, .inl ⟨rfl, noRef_ints _⟩⟩, ⟨rfl, .inl ⟨rfl, noRef_ints _⟩⟩, trivial⟩ rfl rfl ?_)
      | ((with_reducible show CallK _ _ 141 _ _ _ _); refine CallK.lend (news := [mHand m l.length 4 (.own 133 0 (ns.length + es.length)), mKid z7, mKid kb, .dead, mRows l a 1 b 2, mNotes (ns ++ es.map (withN wentN))]) [0, 1, 2, 3, 4, 133] [] t164 c141 ⟨⟨rfl, rfl⟩, rfl, ⟨rfl, rfl, rfl, rfl, rfl, rfl, rfl, rfl, rfl, trivial⟩, trivial⟩ ⟨⟨rfl, .inr ⟨⟨⟨⟨rfl, rfl⟩, rfl, ⟨rfl, rfl⟩, trivial⟩, trivial⟩, rfl⟩⟩, ⟨rfl, .inl ⟨rfl, noRef_ints _⟩⟩, ⟨rfl, .inl ⟨rfl, noRef_ints _⟩⟩, ⟨rfl, .inl ⟨rfl, noRef_notes _⟩⟩, ⟨rfl, rows_lent (fun _ => rfl) (fun _ => rfl)⟩, trivial⟩ rfl ⟨⟨rfl, rfl⟩, rfl⟩ rfl ⟨⟨rfl, .inr ⟨rfl, rfl, rfl⟩⟩, ⟨rfl, .inl ⟨rfl, noRef_ints _⟩⟩, ⟨rfl, .inl ⟨rfl, noRef_ints _⟩⟩, ⟨rfl, rows_news rfl rfl (by decide) (by decide)⟩, ⟨rfl, .inl ⟨rfl, noRef_notes _⟩⟩, trivial⟩ rfl rfl ?_)
      | ((with_reducible show CallK _ _ 73 _ _ _ _); refine CallK.lend (news := [mKid z7]) [1] [] t79 c73 ⟨⟨rfl, rfl⟩, rfl, trivial⟩ ⟨⟨rfl, .inl ⟨rfl, noRef_ints _⟩⟩, trivial⟩ rfl ⟨⟨rfl, rfl⟩, rfl⟩ rfl ⟨⟨rfl, .inl ⟨rfl, noRef_ints _⟩⟩, trivial⟩ rfl rfl ?_)
      | ((with_reducible show CallK _ _ 145 _ _ _ _); refine CallK.lend (news := [.dead, mKid k2]) [1, 511] [] h188 c145 ⟨⟨rfl, rfl⟩, rfl, by show ((i + 1 : Nat) : Int) = (i : Int) + 1; omega, trivial⟩ ⟨⟨rfl, .inl ⟨rfl, noRef_ints _⟩⟩, trivial⟩ rfl ⟨⟨rfl, rfl⟩, rfl⟩ rfl ⟨⟨rfl, .inl ⟨rfl, noRef_ints _⟩⟩, trivial⟩ rfl rfl ?_)
      | ((with_reducible show DrawK _ _ _ _); refine dK ?_)) <;> with_reducible refine wK ?_)
    | ((with_reducible show (_ ∧ _) ∧ _ ∧ _); (refine eK ?_ ?_ <;> with_reducible repeat' (first | exact trivial | (show _ ∧ _; refine aK ?_ ?_)))))); all_goals clear fct)
  all_goals first
    | exact ⟨.refl (noRef_ints _), noRef_ints _⟩
    | exact cast (congrArg (RowsM _ _) hrow'.symm) (rows_fit2 (fun _ => rfl) (fun _ => rfl))
    | (have ht : told = es.map (withN wentN) := by rw [htold, hp]; rfl
       subst ht
       first | exact ⟨.refl (noRef_notes _), noRef_notes _⟩ | (simp; done))
    | (have ht : told = [] := by rw [htold, hp]; rfl
       subst ht
       first | exact cast (congrArg (fun z => ObjK _ z _) (show ns.map oNote = (ns ++ []).map oNote by simp)) ⟨.refl (noRef_notes _), noRef_notes _⟩ | (simp; done))
    | trace_state
end Go.Proofs.Heir
namespace Go.Proofs.Heir
open Go Go.Am Go.RowKit Go.Lib
set_option maxRecDepth 100000
set_option maxHeartbeats 16000000 in
/-- shade.All -/
theorem f82_own (f : ForM) (hs : SmallN f.nodes) (n : Int) (e0 : (rightF f && thereN f.nodes n) = true) : FnOK Tryz.prog 82 [] [eFor f, eInt n] [rInts (allU f n)] (.own 0 0 (allU f n).length) := by
  have h86 := f147_ok f hs [n] (by simp)
  have e1 : (rightF f && !decide (0 ≤ idxI (fun n => !thereN f.nodes n) [n])) = (rightF f && thereN f.nodes n) := by
    congr 1
    unfold idxI
    cases h : thereN f.nodes n <;> simp [List.findIdx?_cons, h]
  rw [e1] at h86
  obtain ⟨l, m⟩ := f
  unfold allU
  simp only at h86 e0 ⊢
  rw [if_pos e0]
  have hlm : (l.map oNode).length = l.length := List.length_map ..
  refine FnOK.startC (rvs := [.tmp 4]) G G_good Tryz.func82 rfl Tryz.ntmps82 rfl rfl ?_; delta List.toArray; ((with_reducible conv => whnf); (with_reducible conv => congr <;> reduce); repeat ((first | (with_reducible refine HaltK.mk ?_) | (with_reducible refine StopK.mk ?_)); (with_reducible conv => whnf); (with_reducible conv => congr <;> reduce)))
  rw [e0] at h86
  refine CallK.lit [141] h86 c147 ⟨⟨rfl, rfl, trivial⟩, frz_ints (l := [n]) rfl rfl rfl rfl, trivial⟩ rfl rfl ?_; ((with_reducible conv => whnf); (with_reducible conv => congr <;> reduce); repeat ((first | (with_reducible refine HaltK.mk ?_) | (with_reducible refine StopK.mk ?_)); (with_reducible conv => whnf); (with_reducible conv => congr <;> reduce)))
  obtain ⟨hr, hn⟩ : rightF ⟨l, m⟩ = true ∧ thereN l n = true := by simpa using e0
  have T := U.tree_of hr
  have hol := U.ord_len T l.length hn
  simp only at T hol
  repeat' (first
    | (first
    | ((with_reducible show IfK _ _ _ _); first | refine IfK.ff ?_ | refine IfK.tt ?_ | refine IfK.no (by first | rfl | assumption | exact nf (by assumption) | exact nt (by assumption) | ((try simp only [castN]); first | (simp []; done) | (simp []; omega))) ?_ | refine IfK.yes (by first | rfl | assumption | exact nf (by assumption) | exact nt (by assumption) | ((try simp only [castN]); first | (simp []; done) | (simp []; omega))) ?_)
    | ((with_reducible show NeedK _ _ _ _); refine NeedK.mk (by (try simp only [castN]); omega) ?_)
    | ((with_reducible show DrawK _ _ _ _); refine DrawK.mk (by kernel_rfl) (by kernel_rfl) (by kernel_rfl) ?_)) <;> ((with_reducible conv => whnf); (with_reducible conv => congr <;> reduce); repeat ((first | (with_reducible refine HaltK.mk ?_) | (with_reducible refine StopK.mk ?_)); (with_reducible conv => whnf); (with_reducible conv => congr <;> reduce)))
    | ((with_reducible show (_ ∧ _) ∧ _ ∧ _); refine ⟨⟨rfl, rfl⟩, ?_, ?_⟩ <;> (with_reducible conv => whnf) <;> repeat' (first | (with_reducible exact trivial) | (with_reducible refine And.intro ?_ ?_ <;> with_reducible conv => whnf))))
  refine LoopK.ghost 5 51 1 rfl rfl ?_
  refine LoopK.use G G_good (fun (i : List Int × List Int × List Int) => [(2, .ptr 20 0 0), (5, .own 51 0 i.1.length), (6, .ptr 60 0 0)])
    (fun i => [(20, .live 2 [eFor ⟨l, m⟩] false), (51, rInts i.1), (60, .live 1 [.own 181 0 i.2.1.length] false), (181, rInts (i.2.1 ++ i.2.2))])
    (fun i => U.ordN l l.length n = i.1 ++ U.rest l i.2.1 ∧ ∀ c ∈ i.2.1, thereN l c = true) (fun i => l.length - i.1.length) ([], [n], []) ⟨by simp [U.rest], fun c hc => by rw [List.mem_singleton] at hc; subst hc; exact hn⟩
    (by refine ⟨⟨rfl, rfl⟩, ⟨⟨rfl, rfl⟩, ⟨rfl, rfl⟩, ⟨rfl, rfl⟩, trivial⟩, ⟨⟨rfl, rfl, trivial⟩, trivial⟩, ⟨.refl rfl, noRef_ints _⟩, ⟨⟨rfl, rfl⟩, trivial⟩, ⟨.refl rfl, noRef_ints _⟩, trivial⟩) ?_
  rintro ⟨out, st, sp⟩ ⟨ho, hst⟩
  simp only at ho hst
  ((with_reducible conv => whnf); (with_reducible conv => congr <;> reduce); repeat ((first | (with_reducible refine HaltK.mk ?_) | (with_reducible refine StopK.mk ?_)); (with_reducible conv => whnf); (with_reducible conv => congr <;> reduce)))
  have hoL := congrArg List.length ho
  rw [List.length_append] at hoL
  have hol' : out.length = (out.map oInt).length := (List.length_map ..).symm
  have hrl := U.rest_len T hst
  have hl60 := hs.len
  simp only at hl60
  obtain h | ⟨st', t, h⟩ := List.eq_nil_or_concat st <;> (try rw [List.concat_eq_append] at h) <;> subst h
  · repeat' (first
    | (first
    | ((with_reducible show IfK _ _ _ _); first | refine IfK.ff ?_ | refine IfK.tt ?_ | refine IfK.no (by first | rfl | assumption | exact nf (by assumption) | exact nt (by assumption) | ((try simp only [castN]); first | (simp []; done) | (simp []; omega))) ?_ | refine IfK.yes (by first | rfl | assumption | exact nf (by assumption) | exact nt (by assumption) | ((try simp only [castN]); first | (simp []; done) | (simp []; omega))) ?_)
    | ((with_reducible show NeedK _ _ _ _); refine NeedK.mk (by (try simp only [castN]); omega) ?_)
    | ((with_reducible show DrawK _ _ _ _); refine DrawK.mk (by kernel_rfl) (by kernel_rfl) (by kernel_rfl) ?_)) <;> ((with_reducible conv => whnf); (with_reducible conv => congr <;> reduce); repeat ((first | (with_reducible refine HaltK.mk ?_) | (with_reducible refine StopK.mk ?_)); (with_reducible conv => whnf); (with_reducible conv => congr <;> reduce)))
    | ((with_reducible show (_ ∧ _) ∧ _ ∧ _); refine ⟨⟨rfl, rfl⟩, ?_, ?_⟩ <;> (with_reducible conv => whnf) <;> repeat' (first | (with_reducible exact trivial) | (with_reducible refine And.intro ?_ ?_ <;> with_reducible conv => whnf))))
    all_goals have ho' : U.ordN l l.length n = out := by rw [ho]; simp [U.rest]
    all_goals clear ho hoL
    all_goals subst ho'
    all_goals first
      | rfl
      | exact MFL_refl (noRef_ints _)
  · have ht := hst t (by simp)
    have hlen : (st' ++ [t]).length = st'.length + 1 := by simp
    obtain ⟨k, x, rfl, hx, hnx⟩ := there_iff.1 ht
    rw [hlen]
    rw [hlen] at hrl
    repeat' (first
    | (first
    | ((with_reducible show IfK _ _ _ _); first | refine IfK.ff ?_ | refine IfK.tt ?_ | refine IfK.no (by first | rfl | assumption | exact nf (by assumption) | exact nt (by assumption) | ((try simp only [castN]); first | (simp []; done) | (simp []; omega))) ?_ | refine IfK.yes (by first | rfl | assumption | exact nf (by assumption) | exact nt (by assumption) | ((try simp only [castN]); first | (simp []; done) | (simp []; omega))) ?_)
    | ((with_reducible show NeedK _ _ _ _); refine NeedK.mk (by (try simp only [castN]); omega) ?_)
    | ((with_reducible show DrawK _ _ _ _); refine DrawK.mk (by kernel_rfl) (by kernel_rfl) (by kernel_rfl) ?_)) <;> ((with_reducible conv => whnf); (with_reducible conv => congr <;> reduce); repeat ((first | (with_reducible refine HaltK.mk ?_) | (with_reducible refine StopK.mk ?_)); (with_reducible conv => whnf); (with_reducible conv => congr <;> reduce)))
    | ((with_reducible show (_ ∧ _) ∧ _ ∧ _); refine ⟨⟨rfl, rfl⟩, ?_, ?_⟩ <;> (with_reducible conv => whnf) <;> repeat' (first | (with_reducible exact trivial) | (with_reducible refine And.intro ?_ ?_ <;> with_reducible conv => whnf))))
    refine LtK.mk st'.length (by (try simp only [castN]); omega) (by omega) ?_; ((with_reducible conv => whnf); (with_reducible conv => congr <;> reduce); repeat ((first | (with_reducible refine HaltK.mk ?_) | (with_reducible refine StopK.mk ?_)); (with_reducible conv => whnf); (with_reducible conv => congr <;> reduce)))
    refine ElemK.mk (eInt (k : Int)) (by rw [Nat.zero_add, List.getElem?_map, List.append_assoc, List.getElem?_append_right (Nat.le_refl _), Nat.sub_self]; rfl) ?_; ((with_reducible conv => whnf); (with_reducible conv => congr <;> reduce); repeat ((first | (with_reducible refine HaltK.mk ?_) | (with_reducible refine StopK.mk ?_)); (with_reducible conv => whnf); (with_reducible conv => congr <;> reduce)))
    repeat' (first
    | (first
    | ((with_reducible show IfK _ _ _ _); first | refine IfK.ff ?_ | refine IfK.tt ?_ | refine IfK.no (by first | rfl | assumption | exact nf (by assumption) | exact nt (by assumption) | ((try simp only [castN]); first | (simp []; done) | (simp []; omega))) ?_ | refine IfK.yes (by first | rfl | assumption | exact nf (by assumption) | exact nt (by assumption) | ((try simp only [castN]); first | (simp []; done) | (simp []; omega))) ?_)
    | ((with_reducible show NeedK _ _ _ _); refine NeedK.mk (by (try simp only [castN]); omega) ?_)
    | ((with_reducible show DrawK _ _ _ _); refine DrawK.mk (by kernel_rfl) (by kernel_rfl) (by kernel_rfl) ?_)) <;> ((with_reducible conv => whnf); (with_reducible conv => congr <;> reduce); repeat ((first | (with_reducible refine HaltK.mk ?_) | (with_reducible refine StopK.mk ?_)); (with_reducible conv => whnf); (with_reducible conv => congr <;> reduce)))
    | ((with_reducible show (_ ∧ _) ∧ _ ∧ _); refine ⟨⟨rfl, rfl⟩, ?_, ?_⟩ <;> (with_reducible conv => whnf) <;> repeat' (first | (with_reducible exact trivial) | (with_reducible refine And.intro ?_ ?_ <;> with_reducible conv => whnf))))
    refine CutK.mk 0 st'.length rfl (by (try simp only [castN]); omega) (by omega) ?_; ((with_reducible conv => whnf); (with_reducible conv => congr <;> reduce); repeat ((first | (with_reducible refine HaltK.mk ?_) | (with_reducible refine StopK.mk ?_)); (with_reducible conv => whnf); (with_reducible conv => congr <;> reduce)))
    repeat' (first
    | (first
    | ((with_reducible show IfK _ _ _ _); first | refine IfK.ff ?_ | refine IfK.tt ?_ | refine IfK.no (by first | rfl | assumption | exact nf (by assumption) | exact nt (by assumption) | ((try simp only [castN]); first | (simp []; done) | (simp []; omega))) ?_ | refine IfK.yes (by first | rfl | assumption | exact nf (by assumption) | exact nt (by assumption) | ((try simp only [castN]); first | (simp []; done) | (simp []; omega))) ?_)
    | ((with_reducible show NeedK _ _ _ _); refine NeedK.mk (by (try simp only [castN]); omega) ?_)
    | ((with_reducible show DrawK _ _ _ _); refine DrawK.mk (by kernel_rfl) (by kernel_rfl) (by kernel_rfl) ?_)) <;> ((with_reducible conv => whnf); (with_reducible conv => congr <;> reduce); repeat ((first | (with_reducible refine HaltK.mk ?_) | (with_reducible refine StopK.mk ?_)); (with_reducible conv => whnf); (with_reducible conv => congr <;> reduce)))
    | ((with_reducible show (_ ∧ _) ∧ _ ∧ _); refine ⟨⟨rfl, rfl⟩, ?_, ?_⟩ <;> (with_reducible conv => whnf) <;> repeat' (first | (with_reducible exact trivial) | (with_reducible refine And.intro ?_ ?_ <;> with_reducible conv => whnf))))
    refine AppK.mk (out.map oInt) [eInt (k : Int)] ⟨rfl, hol', rfl⟩ ⟨rfl, rfl, rfl⟩ rfl (by simp; omega) (by simp; omega) ?_; ((with_reducible conv => whnf); (with_reducible conv => congr <;> reduce); repeat ((first | (with_reducible refine HaltK.mk ?_) | (with_reducible refine StopK.mk ?_)); (with_reducible conv => whnf); (with_reducible conv => congr <;> reduce)))
    repeat' (first
    | (first
    | ((with_reducible show IfK _ _ _ _); first | refine IfK.ff ?_ | refine IfK.tt ?_ | refine IfK.no (by first | rfl | assumption | exact nf (by assumption) | exact nt (by assumption) | ((try simp only [castN]); first | (simp []; done) | (simp []; omega))) ?_ | refine IfK.yes (by first | rfl | assumption | exact nf (by assumption) | exact nt (by assumption) | ((try simp only [castN]); first | (simp []; done) | (simp []; omega))) ?_)
    | ((with_reducible show NeedK _ _ _ _); refine NeedK.mk (by (try simp only [castN]); omega) ?_)
    | ((with_reducible show DrawK _ _ _ _); refine DrawK.mk (by kernel_rfl) (by kernel_rfl) (by kernel_rfl) ?_)) <;> ((with_reducible conv => whnf); (with_reducible conv => congr <;> reduce); repeat ((first | (with_reducible refine HaltK.mk ?_) | (with_reducible refine StopK.mk ?_)); (with_reducible conv => whnf); (with_reducible conv => congr <;> reduce)))
    | ((with_reducible show (_ ∧ _) ∧ _ ∧ _); refine ⟨⟨rfl, rfl⟩, ?_, ?_⟩ <;> (with_reducible conv => whnf) <;> repeat' (first | (with_reducible exact trivial) | (with_reducible refine And.intro ?_ ?_ <;> with_reducible conv => whnf))))
    obtain ⟨a1, a2, a3, a4, a5, a6, a7, a8, a9, a10⟩ := x
    refine IdxK.mk k (eNode ⟨a1, a2, a3, a4, a5, a6, a7, a8, a9, a10⟩) rfl (node_get hx) ?_; ((with_reducible conv => whnf); (with_reducible conv => congr <;> reduce); repeat ((first | (with_reducible refine HaltK.mk ?_) | (with_reducible refine StopK.mk ?_)); (with_reducible conv => whnf); (with_reducible conv => congr <;> reduce)))
    repeat' (first
    | (first
    | ((with_reducible show IfK _ _ _ _); first | refine IfK.ff ?_ | refine IfK.tt ?_ | refine IfK.no (by first | rfl | assumption | exact nf (by assumption) | exact nt (by assumption) | ((try simp only [castN]); first | (simp []; done) | (simp []; omega))) ?_ | refine IfK.yes (by first | rfl | assumption | exact nf (by assumption) | exact nt (by assumption) | ((try simp only [castN]); first | (simp []; done) | (simp []; omega))) ?_)
    | ((with_reducible show NeedK _ _ _ _); refine NeedK.mk (by (try simp only [castN]); omega) ?_)
    | ((with_reducible show DrawK _ _ _ _); refine DrawK.mk (by kernel_rfl) (by kernel_rfl) (by kernel_rfl) ?_)) <;> ((with_reducible conv => whnf); (with_reducible conv => congr <;> reduce); repeat ((first | (with_reducible refine HaltK.mk ?_) | (with_reducible refine StopK.mk ?_)); (with_reducible conv => whnf); (with_reducible conv => congr <;> reduce)))
    | ((with_reducible show (_ ∧ _) ∧ _ ∧ _); refine ⟨⟨rfl, rfl⟩, ?_, ?_⟩ <;> (with_reducible conv => whnf) <;> repeat' (first | (with_reducible exact trivial) | (with_reducible refine And.intro ?_ ?_ <;> with_reducible conv => whnf))))
    refine CallK.val [] (f148_ok a7) c148 ⟨rfl, trivial⟩ rfl rfl rfl ?_; ((with_reducible conv => whnf); (with_reducible conv => congr <;> reduce); repeat ((first | (with_reducible refine HaltK.mk ?_) | (with_reducible refine StopK.mk ?_)); (with_reducible conv => whnf); (with_reducible conv => congr <;> reduce)))
    repeat' (first
    | (first
    | ((with_reducible show IfK _ _ _ _); first | refine IfK.ff ?_ | refine IfK.tt ?_ | refine IfK.no (by first | rfl | assumption | exact nf (by assumption) | exact nt (by assumption) | ((try simp only [castN]); first | (simp []; done) | (simp []; omega))) ?_ | refine IfK.yes (by first | rfl | assumption | exact nf (by assumption) | exact nt (by assumption) | ((try simp only [castN]); first | (simp []; done) | (simp []; omega))) ?_)
    | ((with_reducible show NeedK _ _ _ _); refine NeedK.mk (by (try simp only [castN]); omega) ?_)
    | ((with_reducible show DrawK _ _ _ _); refine DrawK.mk (by kernel_rfl) (by kernel_rfl) (by kernel_rfl) ?_)) <;> ((with_reducible conv => whnf); (with_reducible conv => congr <;> reduce); repeat ((first | (with_reducible refine HaltK.mk ?_) | (with_reducible refine StopK.mk ?_)); (with_reducible conv => whnf); (with_reducible conv => congr <;> reduce)))
    | ((with_reducible show (_ ∧ _) ∧ _ ∧ _); refine ⟨⟨rfl, rfl⟩, ?_, ?_⟩ <;> (with_reducible conv => whnf) <;> repeat' (first | (with_reducible exact trivial) | (with_reducible refine And.intro ?_ ?_ <;> with_reducible conv => whnf))))
    obtain ⟨spF, hs0, hs1⟩ : ∃ spF : Nat → List Int, spF 0 = (k : Int) :: sp ∧ ∀ j, spF (j + 1) = [] := ⟨fun j => match j with | 0 => (k : Int) :: sp | _ + 1 => [], rfl, fun _ => rfl⟩
    have hk7 := hs.kids _ (List.mem_of_getElem? hx)
    simp only at hk7
    refine LoopK.range G G_good 4 [(2, .ptr 1 0 0), (5, .own 3 0 (out.length + 1)), (6, .ptr 0 0 0), (9, .ptr 2 0 0), (43, .clo (.func 193) [] [.fptr (eInts a7) 0])]
      (fun j => [(0, .live 1 [.own 181 0 (st'.length + j)] false), (1, .live 2 [eFor ⟨l, m⟩] false), (2, .live 10 [eNode ⟨a1, a2, a3, a4, a5, a6, a7, a8, a9, a10⟩] false), (3, rInts (out ++ [(k : Int)])), (181, rInts (st' ++ a7.reverse.take j ++ spF j))])
      (back_it a7 (by omega)) c193 ?_ rfl ⟨⟨rfl, rfl⟩, rfl⟩ (fun _ _ => rfl) (fun _ _ => rfl) ⟨⟨rfl, rfl⟩, rfl, rfl⟩ ?_ ?_
    · refine ⟨⟨rfl, rfl⟩, ?_⟩
      (with_reducible conv => whnf)
      repeat' (first | (with_reducible exact trivial) | (with_reducible refine And.intro ?_ ?_ <;> with_reducible conv => whnf))
      all_goals try rfl
      · simp
      · exact ⟨.refl rfl, rfl⟩
      · exact ⟨.refl rfl, rfl⟩
      · refine ⟨?_, noRef_ints _⟩
        rw [← show (out ++ [(k : Int)]).map oInt = out.map oInt ++ [AV.lit (.int .i64 k)] by simp; rfl]
        exact .refl (noRef_ints _)
      · refine ⟨?_, noRef_ints _⟩
        rw [hs0, List.take_zero, List.append_nil, show st' ++ [(k : Int)] ++ sp = st' ++ (k : Int) :: sp by simp]; exact .refl (noRef_ints _)
    · intro j hj
      ((with_reducible conv => whnf); (with_reducible conv => congr <;> reduce); repeat ((first | (with_reducible refine HaltK.mk ?_) | (with_reducible refine StopK.mk ?_)); (with_reducible conv => whnf); (with_reducible conv => congr <;> reduce)))
      refine BodyK.mk rfl ?_; ((with_reducible conv => whnf); (with_reducible conv => congr <;> reduce); repeat ((first | (with_reducible refine HaltK.mk ?_) | (with_reducible refine StopK.mk ?_)); (with_reducible conv => whnf); (with_reducible conv => congr <;> reduce)))
      repeat' (first
    | (first
    | ((with_reducible show IfK _ _ _ _); first | refine IfK.ff ?_ | refine IfK.tt ?_ | refine IfK.no (by first | rfl | assumption | exact nf (by assumption) | exact nt (by assumption) | ((try simp only [castN]); first | (simp []; done) | (simp []; omega))) ?_ | refine IfK.yes (by first | rfl | assumption | exact nf (by assumption) | exact nt (by assumption) | ((try simp only [castN]); first | (simp []; done) | (simp []; omega))) ?_)
    | ((with_reducible show NeedK _ _ _ _); refine NeedK.mk (by (try simp only [castN]); omega) ?_)
    | ((with_reducible show DrawK _ _ _ _); refine DrawK.mk (by kernel_rfl) (by kernel_rfl) (by kernel_rfl) ?_)) <;> ((with_reducible conv => whnf); (with_reducible conv => congr <;> reduce); repeat ((first | (with_reducible refine HaltK.mk ?_) | (with_reducible refine StopK.mk ?_)); (with_reducible conv => whnf); (with_reducible conv => congr <;> reduce)))
    | ((with_reducible show (_ ∧ _) ∧ _ ∧ _); refine ⟨⟨rfl, rfl⟩, ?_, ?_⟩ <;> (with_reducible conv => whnf) <;> repeat' (first | (with_reducible exact trivial) | (with_reducible refine And.intro ?_ ?_ <;> with_reducible conv => whnf))))
      refine AppK.take ((st' ++ a7.reverse.take j).map oInt) [oInt ((a7.reverse[j]?).getD 0)] ⟨rfl, by simp; omega, by rw [List.map_append (l₂ := spF j), List.take_left' (by simp; omega)]⟩ ⟨rfl, rfl, rfl⟩ rfl (by simp; omega) (by simp; omega) ?_
      ((with_reducible conv => whnf); (with_reducible conv => congr <;> reduce); repeat ((first | (with_reducible refine HaltK.mk ?_) | (with_reducible refine StopK.mk ?_)); (with_reducible conv => whnf); (with_reducible conv => congr <;> reduce)))
      repeat' (first
    | (first
    | ((with_reducible show IfK _ _ _ _); first | refine IfK.ff ?_ | refine IfK.tt ?_ | refine IfK.no (by first | rfl | assumption | exact nf (by assumption) | exact nt (by assumption) | ((try simp only [castN]); first | (simp []; done) | (simp []; omega))) ?_ | refine IfK.yes (by first | rfl | assumption | exact nf (by assumption) | exact nt (by assumption) | ((try simp only [castN]); first | (simp []; done) | (simp []; omega))) ?_)
    | ((with_reducible show NeedK _ _ _ _); refine NeedK.mk (by (try simp only [castN]); omega) ?_)
    | ((with_reducible show DrawK _ _ _ _); refine DrawK.mk (by kernel_rfl) (by kernel_rfl) (by kernel_rfl) ?_)) <;> ((with_reducible conv => whnf); (with_reducible conv => congr <;> reduce); repeat ((first | (with_reducible refine HaltK.mk ?_) | (with_reducible refine StopK.mk ?_)); (with_reducible conv => whnf); (with_reducible conv => congr <;> reduce)))
    | ((with_reducible show (_ ∧ _) ∧ _ ∧ _); refine ⟨⟨rfl, rfl⟩, ?_, ?_⟩ <;> (with_reducible conv => whnf) <;> repeat' (first | (with_reducible exact trivial) | (with_reducible refine And.intro ?_ ?_ <;> with_reducible conv => whnf))))
      refine TurnK.mk ?_
      obtain ⟨c, hc⟩ : ∃ c, a7.reverse[j]? = some c := ⟨_, List.getElem?_eq_getElem (by simpa using hj)⟩
      have htk : a7.reverse.take (j + 1) = a7.reverse.take j ++ [c] := by rw [List.take_add_one, hc]; rfl
      rw [hc, Option.getD_some]
      refine ⟨⟨rfl, rfl⟩, ?_⟩
      (with_reducible conv => whnf)
      repeat' (first | (with_reducible exact trivial) | (with_reducible refine And.intro ?_ ?_ <;> with_reducible conv => whnf))
      all_goals try rfl
      · simp; omega
      · exact ⟨.refl rfl, rfl⟩
      · exact ⟨.refl rfl, rfl⟩
      · exact ⟨.refl (noRef_ints _), noRef_ints _⟩
      · refine ⟨?_, noRef_ints _⟩
        rw [hs1, htk, List.append_nil, ← List.append_assoc, List.map_append (l₂ := [c])]; exact .refl (by rw [← List.map_append]; exact noRef_ints _)
    · ((with_reducible conv => whnf); (with_reducible conv => congr <;> reduce); repeat ((first | (with_reducible refine HaltK.mk ?_) | (with_reducible refine StopK.mk ?_)); (with_reducible conv => whnf); (with_reducible conv => congr <;> reduce)))
      refine ElemK.mk (eNode ⟨a1, a2, a3, a4, a5, a6, a7, a8, a9, a10⟩) rfl ?_; ((with_reducible conv => whnf); (with_reducible conv => congr <;> reduce); repeat ((first | (with_reducible refine HaltK.mk ?_) | (with_reducible refine StopK.mk ?_)); (with_reducible conv => whnf); (with_reducible conv => congr <;> reduce)))
      have hT : nd l k = ⟨a1, a2, a3, a4, a5, a6, a7, a8, a9, a10⟩ := hnx
      have hch : chU (nd l k) = (if a9 = -1 then [] else [a9]) ++ a7 := by rw [hT]; rfl
      have hpop := U.rest_pop T (st := st') ht
      rw [hch] at hpop
      have hkid : ∀ c ∈ (if a9 = -1 then [] else [a9]) ++ a7, thereN l c = true := fun c hc => (T.kid k ht c (by rw [hch]; exact hc)).1
      have hta : a7.reverse.take a7.length = a7.reverse := List.take_of_length_le (by simp)
      by_cases e9 : a9 = -1
      · subst e9
        rw [if_pos rfl, List.nil_append] at hpop hkid
        repeat' (first
    | (first
    | ((with_reducible show IfK _ _ _ _); first | refine IfK.ff ?_ | refine IfK.tt ?_ | refine IfK.no (by first | rfl | assumption | exact nf (by assumption) | exact nt (by assumption) | ((try simp only [castN]); first | (simp []; done) | (simp []; omega))) ?_ | refine IfK.yes (by first | rfl | assumption | exact nf (by assumption) | exact nt (by assumption) | ((try simp only [castN]); first | (simp []; done) | (simp []; omega))) ?_)
    | ((with_reducible show NeedK _ _ _ _); refine NeedK.mk (by (try simp only [castN]); omega) ?_)
    | ((with_reducible show DrawK _ _ _ _); refine DrawK.mk (by kernel_rfl) (by kernel_rfl) (by kernel_rfl) ?_)) <;> ((with_reducible conv => whnf); (with_reducible conv => congr <;> reduce); repeat ((first | (with_reducible refine HaltK.mk ?_) | (with_reducible refine StopK.mk ?_)); (with_reducible conv => whnf); (with_reducible conv => congr <;> reduce)))
    | ((with_reducible show (_ ∧ _) ∧ _ ∧ _); refine ⟨⟨rfl, rfl⟩, ?_, ?_⟩ <;> (with_reducible conv => whnf) <;> repeat' (first | (with_reducible exact trivial) | (with_reducible refine And.intro ?_ ?_ <;> with_reducible conv => whnf))))
        refine NextK.mk (out ++ [(k : Int)], st' ++ a7.reverse, spF a7.length) ⟨?_, ?_⟩ ?_ ?_
        · rw [ho, hpop]; simp
        · intro c hc
          rcases List.mem_append.1 hc with h | h
          · exact hst c (by simp [h])
          · exact hkid c (by simpa using h)
        · simp only [List.length_append, List.length_singleton]; omega
        · refine ⟨⟨rfl, rfl⟩, ?_⟩
          (with_reducible conv => whnf)
          repeat' (first | (with_reducible exact trivial) | (with_reducible refine And.intro ?_ ?_ <;> with_reducible conv => whnf))
          all_goals try rfl
          · simp
          · exact ⟨.refl (noRef_ints _), noRef_ints _⟩
          · simp
          · refine ⟨?_, noRef_ints _⟩
            rw [hta]; exact .refl (noRef_ints _)
      · rw [if_neg e9] at hpop hkid
        repeat' (first
    | (first
    | ((with_reducible show IfK _ _ _ _); first | refine IfK.ff ?_ | refine IfK.tt ?_ | refine IfK.no (by first | rfl | assumption | exact nf (by assumption) | exact nt (by assumption) | ((try simp only [castN]); first | (simp [e9]; done) | (simp [e9]; omega))) ?_ | refine IfK.yes (by first | rfl | assumption | exact nf (by assumption) | exact nt (by assumption) | ((try simp only [castN]); first | (simp [e9]; done) | (simp [e9]; omega))) ?_)
    | ((with_reducible show NeedK _ _ _ _); refine NeedK.mk (by (try simp only [castN]); omega) ?_)
    | ((with_reducible show DrawK _ _ _ _); refine DrawK.mk (by kernel_rfl) (by kernel_rfl) (by kernel_rfl) ?_)) <;> ((with_reducible conv => whnf); (with_reducible conv => congr <;> reduce); repeat ((first | (with_reducible refine HaltK.mk ?_) | (with_reducible refine StopK.mk ?_)); (with_reducible conv => whnf); (with_reducible conv => congr <;> reduce)))
    | ((with_reducible show (_ ∧ _) ∧ _ ∧ _); refine ⟨⟨rfl, rfl⟩, ?_, ?_⟩ <;> (with_reducible conv => whnf) <;> repeat' (first | (with_reducible exact trivial) | (with_reducible refine And.intro ?_ ?_ <;> with_reducible conv => whnf))))
        refine ElemK.mk (eNode ⟨a1, a2, a3, a4, a5, a6, a7, a8, a9, a10⟩) rfl ?_; ((with_reducible conv => whnf); (with_reducible conv => congr <;> reduce); repeat ((first | (with_reducible refine HaltK.mk ?_) | (with_reducible refine StopK.mk ?_)); (with_reducible conv => whnf); (with_reducible conv => congr <;> reduce)))
        repeat' (first
    | (first
    | ((with_reducible show IfK _ _ _ _); first | refine IfK.ff ?_ | refine IfK.tt ?_ | refine IfK.no (by first | rfl | assumption | exact nf (by assumption) | exact nt (by assumption) | ((try simp only [castN]); first | (simp [e9]; done) | (simp [e9]; omega))) ?_ | refine IfK.yes (by first | rfl | assumption | exact nf (by assumption) | exact nt (by assumption) | ((try simp only [castN]); first | (simp [e9]; done) | (simp [e9]; omega))) ?_)
    | ((with_reducible show NeedK _ _ _ _); refine NeedK.mk (by (try simp only [castN]); omega) ?_)
    | ((with_reducible show DrawK _ _ _ _); refine DrawK.mk (by kernel_rfl) (by kernel_rfl) (by kernel_rfl) ?_)) <;> ((with_reducible conv => whnf); (with_reducible conv => congr <;> reduce); repeat ((first | (with_reducible refine HaltK.mk ?_) | (with_reducible refine StopK.mk ?_)); (with_reducible conv => whnf); (with_reducible conv => congr <;> reduce)))
    | ((with_reducible show (_ ∧ _) ∧ _ ∧ _); refine ⟨⟨rfl, rfl⟩, ?_, ?_⟩ <;> (with_reducible conv => whnf) <;> repeat' (first | (with_reducible exact trivial) | (with_reducible refine And.intro ?_ ?_ <;> with_reducible conv => whnf))))
        refine AppK.take ((st' ++ a7.reverse).map oInt) [eInt a9] ⟨rfl, by simp, by rw [hta, List.map_append (l₂ := spF a7.length), List.take_left' (by simp)]⟩ ⟨rfl, rfl, rfl⟩ rfl (by simp; omega) (by simp; omega) ?_
        ((with_reducible conv => whnf); (with_reducible conv => congr <;> reduce); repeat ((first | (with_reducible refine HaltK.mk ?_) | (with_reducible refine StopK.mk ?_)); (with_reducible conv => whnf); (with_reducible conv => congr <;> reduce)))
        repeat' (first
    | (first
    | ((with_reducible show IfK _ _ _ _); first | refine IfK.ff ?_ | refine IfK.tt ?_ | refine IfK.no (by first | rfl | assumption | exact nf (by assumption) | exact nt (by assumption) | ((try simp only [castN]); first | (simp [e9]; done) | (simp [e9]; omega))) ?_ | refine IfK.yes (by first | rfl | assumption | exact nf (by assumption) | exact nt (by assumption) | ((try simp only [castN]); first | (simp [e9]; done) | (simp [e9]; omega))) ?_)
    | ((with_reducible show NeedK _ _ _ _); refine NeedK.mk (by (try simp only [castN]); omega) ?_)
    | ((with_reducible show DrawK _ _ _ _); refine DrawK.mk (by kernel_rfl) (by kernel_rfl) (by kernel_rfl) ?_)) <;> ((with_reducible conv => whnf); (with_reducible conv => congr <;> reduce); repeat ((first | (with_reducible refine HaltK.mk ?_) | (with_reducible refine StopK.mk ?_)); (with_reducible conv => whnf); (with_reducible conv => congr <;> reduce)))
    | ((with_reducible show (_ ∧ _) ∧ _ ∧ _); refine ⟨⟨rfl, rfl⟩, ?_, ?_⟩ <;> (with_reducible conv => whnf) <;> repeat' (first | (with_reducible exact trivial) | (with_reducible refine And.intro ?_ ?_ <;> with_reducible conv => whnf))))
        refine NextK.mk (out ++ [(k : Int)], st' ++ a7.reverse ++ [a9], []) ⟨?_, ?_⟩ ?_ ?_
        · rw [ho, hpop]; simp
        · intro c hc
          rcases List.mem_append.1 hc with h | h
          · rcases List.mem_append.1 h with h | h
            · exact hst c (by simp [h])
            · exact hkid c (by simp at h; simp [h])
          · exact hkid c (by simp at h; simp [h])
        · simp only [List.length_append, List.length_singleton]; omega
        · refine ⟨⟨rfl, rfl⟩, ?_⟩
          (with_reducible conv => whnf)
          repeat' (first | (with_reducible exact trivial) | (with_reducible refine And.intro ?_ ?_ <;> with_reducible conv => whnf))
          all_goals try rfl
          · simp
          · exact ⟨.refl (noRef_ints _), noRef_ints _⟩
          · simp
          · refine ⟨?_, noRef_ints _⟩
            rw [List.append_nil, List.map_append (l₂ := [a9])]; exact .refl (by rw [← List.map_append]; exact noRef_ints _)
end Go.Proofs.Heir
namespace Go.Proofs.Heir
open Go.Am Go.RowKit Go.Lib
set_option maxRecDepth 100000
set_option maxHeartbeats 8000000
theorem clear1_run (w : World) (ty : TypeId) (b o n c : Nat) (e : TypeId) (C : Array Value) (h : w.heap[b]? = some (.cells C e (0, 0))) (hn : 0 < n) (hl : o + n ≤ C.size) :
    ∃ C', (Builtin.clear_ #[33] ty #[.slice (some ⟨b, o, none⟩) n c]).run Tryz.prog w = .ok (.tuple #[]) (w.setRow b C') ∧ C'.size = C.size ∧ ∀ q, q < o → C'[q]? = C[q]? := by
  obtain ⟨Z, hZ⟩ : ∃ Z : List Value, (Builtin.zeroCells (Value.int .i64 0).cells n).toList = Z := ⟨_, rfl⟩
  have hsz : Z.length = n := by
    rw [← hZ, Array.length_toList, size_zeroCells]; exact Nat.mul_one n
  have hone : ∀ v ∈ Z, v.oneCell' = true := by
    intro v hv
    rw [← hZ, Array.mem_toList_iff, Builtin.zeroCells, Array.mem_map] at hv
    obtain ⟨i, _, rfl⟩ := hv
    show (#[Value.int .i64 0][i % 1]!).oneCell' = true
    rw [Nat.mod_one]; rfl
  have hst := run_storeCells_at (P := Tryz.prog) b o e Z 0 C w h (by rw [hsz]; omega) hone
  rw [Nat.add_zero] at hst
  refine ⟨(C.toList.take o ++ Z ++ C.toList.drop (o + Z.length)).toArray, ?_, ?_, ?_⟩
  · obtain ⟨m, rfl⟩ : ∃ m, n = m + 1 := ⟨n - 1, by omega⟩
    have hu := Tryz.underlying33
    have hz := Tryz.zeroValue3
    simp [Builtin.clear_, run_underlying hu, hz, hZ, hst]
  · simp [hsz]; omega
  · intro q hq
    simp only [List.getElem?_toArray]
    rw [List.append_assoc, List.getElem?_append_left (by simp; omega), List.getElem?_take, if_pos hq, Array.getElem?_toList]
theorem f145_calls (blk off cap n i j : Nat) (C : Array Value) (e : TypeId) (w : World) (hC : w.heap[blk]? = some (.cells C e (0, 0))) (hfit : off + cap ≤ C.size) (hn : n ≤ cap) (hij : i < j) (hj : j ≤ n)
    (hone : ∀ q v, q < n → C[off + q]? = some v → v.oneCell' = true) :
    Calls Tryz.prog 145 #[.slice (some ⟨blk, off, none⟩) n cap, .int .i64 i, .int .i64 j] w fun e' w' => e' = .returned (.slice (some ⟨blk, off, none⟩) (i + (n - j)) cap) ∧
      ∃ C', w' = w.drew.setRow blk C' ∧ C'.size = C.size ∧ ∀ q, q < (i + (n - j)) → C'[off + q]? = if q < i then C[off + q]? else C[off + q + (j - i)]? := by
  obtain ⟨news, hnews⟩ : ∃ news, news = (C.toList.drop (off + j)).take ((n - j)) := ⟨_, rfl⟩
  have hCl : C.toList.length = C.size := Array.length_toList
  have hlen : news.length = (n - j) := by rw [hnews, List.length_take, List.length_drop, hCl]; omega
  have hget : ∀ t, t < (n - j) → news[t]? = C[off + j + t]? := by
    intro t ht
    rw [hnews, List.getElem?_take, if_pos ht, List.getElem?_drop, Array.getElem?_toList]
  have hcell : ∀ q, w.drew.cell? ⟨blk, q, none⟩ = C[q]? := fun q => by
    show w.cell? _ = _
    simp [World.cell?, hC]
  obtain ⟨A, hA, hsrc⟩ : ∃ A : Addr, (if cap = j then some (⟨blk, off, none⟩ : Addr) else some ⟨blk, off + j, none⟩) = some A ∧ Hid (∀ t u, news[t]? = some u → w.drew.cell? (A.add t) = some u) := by
    by_cases h : cap = j
    · refine ⟨⟨blk, off, none⟩, by simp [h], fun t u hu => ?_⟩
      have h0 : news.length = 0 := by rw [hlen]; omega
      rw [List.length_eq_zero_iff.1 h0] at hu
      simp at hu
    · refine ⟨⟨blk, off + j, none⟩, by simp [h], fun t u hu => ?_⟩
      have ht : t < (n - j) := by
        have := (List.getElem?_eq_some_iff.1 hu).1
        rwa [hlen] at this
      rw [hget t ht] at hu
      rw [Addr.add_lit, hcell]
      exact hu
  have s1 : Hid (news.length = (n - j)) := hlen
  have s2 : Hid (∀ u ∈ news, u.oneCell' = true) := by
    intro u hu
    obtain ⟨t, ht⟩ := List.getElem?_of_mem hu
    have hlt := (List.getElem?_eq_some_iff.1 ht).1
    rw [hlen] at hlt
    rw [hget t hlt, Nat.add_assoc] at ht
    exact hone _ u (by omega) ht
  have s3 : Hid (∀ t, t < news.length → (w.drew.cell? ⟨blk, off + i + t, none⟩).isSome = true ∧ w.drew.frozen? ⟨blk, off + i + t, none⟩ = false) := by
    intro t ht
    rw [hlen] at ht
    refine ⟨?_, ?_⟩
    · rw [hcell, Array.getElem?_eq_getElem (by omega)]; rfl
    · show w.frozen? _ = false
      simp [World.frozen?, hC]
  obtain ⟨C1, hC1, hC1s, hC1q⟩ := setCells_row blk e (0, 0) news (off + i) C w.drew hC (by rw [hlen]; omega)
  obtain ⟨W1, hW1⟩ : ∃ W1, W1 = w.drew.setCells blk (off + i) news := ⟨_, rfl⟩
  have hW1h : W1.heap[blk]? = some (.cells C1 e (0, 0)) := by rw [hW1, hC1]; exact setRow_heap w.drew blk C C1 e (0, 0) hC
  obtain ⟨C2, hcl0, hC2s, hC2q⟩ := clear1_run W1 0 blk (off + (i + (n - j))) (n - (i + (n - j))) (cap - (i + (n - j))) e C1 hW1h (by omega) (by omega)
  have hcl : ∀ ty, (Builtin.clear_ #[33] ty #[.slice (some ⟨blk, off + (i + (n - j)), none⟩) (n - (i + (n - j))) (cap - (i + (n - j)))]).run Tryz.prog W1 = .ok (.tuple #[]) (W1.setRow blk C2) := fun ty => hcl0
  have hW : Hid (W1 = w.drew.setCells blk (off + i) news) := hW1
  have hfin : Hid (W1.setRow blk C2 = w.drew.setRow blk C2 ∧ C2.size = C.size ∧ ∀ q, q < (i + (n - j)) → C2[off + q]? = if q < i then C[off + q]? else C[off + q + (j - i)]?) := by
    refine ⟨by rw [hW1, hC1, setRow_setRow], by omega, fun q hq => ?_⟩
    rw [hC2q _ (by omega), hC1q, hlen]
    by_cases h : q < i
    · rw [if_pos h, if_neg (by omega)]
    · rw [if_neg h, if_pos (by omega), hget _ (by omega)]
      congr 1; omega
  have hic : i ≤ cap := by omega
  have hjc : j ≤ cap := by omega
  obtain ⟨i0, hi0, hz1⟩ : ∃ i0, Tryz.prog.info? 3 = some i0 ∧ i0.size = 1 := ⟨(Tryz.prog.info? 3).getD default, by kernel_rfl, by kernel_rfl⟩
  clear hW1 hW1h hC1 hC1s hC1q hC2s hC2q hcl0 hget hcell hnews hlen hone hC hCl
  have mixed : Tryz.prog.follows Departure.mixedOrders = true := by kernel_rfl
  go_enter Tryz.func145, Tryz.ntmps145
  go_wp2_with fail
  go_region_law_o (refine step_append_room rfl (.tmp 22) (.tmp 25) 33 rfl 3 i0 1 Tryz.underlying33 hi0 hz1 blk off i cap (by simp [Act.eval, Act.put]) A (n - j) (cap - j) news (by simp [Act.eval, Act.put]) (by rw [Nat.mul_one]; exact s1.out) hsrc.out s2.out (by omega) (by simpa only [Nat.mul_one] using s3.out) ?_; rw [show off + i * 1 = off + i from by rw [Nat.mul_one], ← hW.out])
  go_wp2
  go_ret
  exact ⟨rfl, C2, hfin.out⟩
theorem deleteI_ok {rows : List AV} (hone : oneL (flat rows) = true) (i j : Nat) (hij : i < j) (hj : j ≤ rows.length) :
    FnOK Tryz.prog 145 [.live 1 rows false] [.own 0 0 rows.length, eInt i, eInt j] [.dead, .live 1 (rows.take i ++ rows.drop j) false] (.own 1 0 (i + (rows.length - j))) := by
  intro w W0 L vs hL hs hr
  obtain ⟨v0, v1, v2, rfl⟩ : ∃ v0 v1 v2, vs = [v0, v1, v2] := by
    have := hr.1
    match vs, this with
    | [a, b, c], _ => exact ⟨a, b, c, rfl⟩
  have h1 := hr.2 1 _ v1 rfl rfl
  have h2 := hr.2 2 _ v2 rfl rfl
  cases h1; cases h2
  have h0 := hr.2 0 _ v0 rfl rfl
  obtain ⟨B, hB, hobj⟩ := hs.objs 0 1 rows false rfl
  generalize hn : rows.length = n at h0
  cases h0 with
  | ownNil a1 => omega
  | @own _ _ _ cap e' n' B' a1 av ap a2 a3 a4 =>
    rw [hB] at a1; cases a1
    subst hn
    obtain ⟨C, e, fz, c1, c2, c3⟩ := hobj.blk av ap
    rw [c2 rfl] at c1
    have hwd := hobj.width
    have hn' : C.size = n' := by simp [World.shape?, c1] at a3; exact a3.2
    rw [hwd, Nat.zero_mul, Nat.add_zero]
    rw [hwd, Nat.zero_add] at a4
    have hfl := flat_length hobj.wide
    have hcell : ∀ (q : Nat) (c : AV), (flat rows)[q]? = some c → ∃ v, C[B.o + q]? = some v ∧ Rep (Wr W0 L (objsOf [.live 1 rows false])) L w c v := fun q c hq => by
      obtain ⟨v, k1, k2⟩ := hobj.cell ap q c hq
      exact ⟨v, by simpa [World.cell?, c1] using k1, k2⟩
    refine (f145_calls B.b B.o cap rows.length i j C e w c1 (by omega) a2 hij hj (fun q v hq hv => ?_)).mono ?_
    · obtain ⟨v', k1, k2⟩ := hcell q _ (List.getElem?_eq_getElem (by rw [hfl]; omega))
      rw [hv] at k1; cases k1
      exact k2.one (List.all_eq_true.1 hone _ (List.getElem_mem _))
    · rintro e2 w' ⟨rfl, C', rfl, hsz, hq⟩
      have hwide : Wide 1 (rows.take i ++ rows.drop j) := (hobj.wide.sub fun r hr => List.mem_of_mem_take hr).append (hobj.wide.sub fun r hr => List.mem_of_mem_drop hr)
      have hlen : (rows.take i ++ rows.drop j).length = i + (rows.length - j) := by simp; omega
      have hre := (hs.drawn (w.drawn + 1)).reuse (t := 0) (tn := 1) (off := 0) (rows' := rows.take i ++ rows.drop j) (C' := C') rfl hB av rfl c1 hsz hwide (by rw [hlen]; omega) (fun q c hc => by
        rw [flat_append, flat_take hobj.wide, flat_drop hobj.wide, List.getElem?_append, List.length_take, hfl, Nat.min_eq_left (by omega)] at hc
        have hlt := hq q
        rw [Nat.zero_mul, Nat.add_zero]
        split at hc
        · rename_i hql
          rw [List.getElem?_take, if_pos hql] at hc
          obtain ⟨v, k1, k2⟩ := hcell q c hc
          exact ⟨v, by rw [hq q (by omega), if_pos (by omega)]; exact k1, k2.grow (Grow.drawn _)⟩
        · rename_i hql
          rw [List.getElem?_drop] at hc
          have hin := (List.getElem?_eq_some_iff.1 hc).1
          rw [hfl] at hin
          obtain ⟨v, k1, k2⟩ := hcell _ c hc
          refine ⟨v, ?_, k2.grow (Grow.drawn _)⟩
          rw [hq q (by omega), if_neg (by omega), ← k1]
          congr 1; omega)
      have hst : (⟨(bare [.live 1 rows false]).slots, updM (bare [.live 1 rows false]).mem [(1, .live 1 (rows.take i ++ rows.drop j) false), (0, .dead)]⟩ : AState) = bare [.dead, .live 1 (rows.take i ++ rows.drop j) false] := by
        unfold bare
        congr 1
        funext t
        match t with
        | 0 => rfl
        | 1 => rfl
        | t + 2 => simp [updM, objsOf]
      rw [hst] at hre
      refine ⟨_, _, rfl, hre, ?_⟩
      have := Rep.own (W := Wr W0 (setMu L 1 ⟨B.b, B.o + 0, 1, false, false⟩) (objsOf [.dead, .live 1 (rows.take i ++ rows.drop j) false])) (μ := setMu L 1 ⟨B.b, B.o + 0, 1, false, false⟩)
        (w := w.drew.setRow B.b C') (t := 1) (off := 0) (len := i + (rows.length - j)) (cap := cap) (e := e) (n := C.size) (B := ⟨B.b, B.o + 0, 1, false, false⟩) (by simp [setMu]) rfl rfl (by omega)
        (by simp [World.shape?, setRow_heap w.drew B.b C C' e (0, 0) c1, hsz]) (by simp only [Nat.zero_add]; omega)
      simpa using this
end Go.Proofs.Heir
section
namespace Go.Proofs.Heir
open Go Go.Am Go.RowKit Go.Lib
set_option maxRecDepth 100000
set_option maxHeartbeats 8000000
@[reducible] def formW : ByteArray := ⟨⟨[102, 111, 114, 109]⟩⟩
@[reducible] def idW : ByteArray := ⟨⟨[105, 100]⟩⟩
def isForm (x : NodeM) : Bool := decide (x.kind = 1) && decide (x.name = formW)
def attV (x : NodeM) (w : ByteArray) : Option ByteArray := if 0 ≤ findP x.attrs w then some (getS x.attrs w) else none
def attR (x : NodeM) (w : ByteArray) : Option ByteArray := if 0 ≤ posA x.attrs w then some (((x.attrs[(posA x.attrs w).toNat]?).map AttrM.value).getD noS) else none
def nearBy (l : List NodeM) (q : Int → Bool) (n : Int) : Int := ((wayN l n).tail.find? q).getD (-1)
def nearN (l : List NodeM) (n : Int) : Int := nearBy l (fun p => isForm (nd l p)) n
def nearR (l : List NodeM) (n : Int) : Int := nearBy l (fun p => decide ((nd l p).name = formW)) n
def rootN (l : List NodeM) (n : Int) : Int := ((wayN l n).getLast?).getD n
def addId (l : List NodeM) (t : List (ByteArray × Int)) (k : Int) : List (ByteArray × Int) :=
 match attV (nd l k) idW with
 | some v => (match tget v t with
  | some _ => t
  | none => tput v k t)
 | none => t
def idTab (l : List NodeM) (r : Int) : List (ByteArray × Int) := (ordN l l.length r).foldl (addId l) []
def firstId (l : List NodeM) (r : Int) (v : ByteArray) : Option Int := (ordN l l.length r).find? fun k => decide (attV (nd l k) idW = some v)
def firstR (l : List NodeM) (r : Int) (v : ByteArray) : Option Int := (ordN l l.length r).find? fun k => decide (attR (nd l k) idW = some v)
def conN (l : List NodeM) (n : Int) : Bool := decide ((nd l (topN l n)).kind = 0)
def byId (l : List NodeM) (n : Int) (v : ByteArray) : Int :=
 match firstId l (rootN l n) v with
 | some k => if v ≠ ⟨#[]⟩ ∧ isForm (nd l k) = true then k else -1
 | none => -1
def ownN (l : List NodeM) (n : Int) : Int :=
 if (nd l n).kind = 1 then
  match attV (nd l n) formW with
  | some v => if conN l n = true then byId l n v else nearN l n
  | none => nearN l n
 else -1
def byIdR (l : List NodeM) (n : Int) (v : ByteArray) : Int :=
 if v = ⟨#[]⟩ then -1 else
 match firstR l (rootN l n) v with
 | some k => if (nd l k).name = formW then k else -1
 | none => -1
def ownR (l : List NodeM) (n : Int) : Int :=
 if (nd l n).kind = 1 then
  match attR (nd l n) formW with
  | some v => if conN l n = true then byIdR l n v else nearR l n
  | none => nearR l n
 else -1
theorem tget_fold (l : List NodeM) (v : ByteArray) : ∀ (ks : List Int) (t : List (ByteArray × Int)), tget v (ks.foldl (addId l) t) = match tget v t with
  | some x => some x
  | none => ks.find? fun k => decide (attV (nd l k) idW = some v)
 | [], t => by
   simp only [List.foldl_nil, List.find?_nil]
   cases tget v t <;> rfl
 | k :: r, t => by
   rw [List.foldl_cons, tget_fold l v r]
   rw [List.find?_cons]
   unfold addId
   cases ha : attV (nd l k) idW with
   | none => simp
   | some u =>
     dsimp only
     by_cases huv : u = v
     ·subst huv
      cases ht : tget u t with
      | some x => dsimp only; rw [ht]
      | none => dsimp only; rw [tget_put, if_pos rfl]; simp
     ·have hne : decide (some u = some v) = false := decide_eq_false fun h => huv (Option.some.inj h)
      rw [hne]
      cases ht : tget u t with
      | some x => rfl
      | none => dsimp only; rw [tget_put, if_neg huv]
theorem idTab_get (l : List NodeM) (r : Int) (v : ByteArray) : tget v (idTab l r) = firstId l r v := by
 unfold idTab; rw [tget_fold]; rfl
theorem addId_len (l : List NodeM) (t : List (ByteArray × Int)) (k : Int) : (addId l t k).length ≤ t.length + 1 := by
 unfold addId
 split
 ·split
  ·omega
  ·rw [tput_length]; split <;> omega
 ·omega
theorem fold_len (l : List NodeM) : ∀ (ks : List Int) (t : List (ByteArray × Int)), (ks.foldl (addId l) t).length ≤ t.length + ks.length
 | [], t => Nat.le_refl _
 | k :: r, t => by
   have h1 := fold_len l r (addId l t k)
   have h2 := addId_len l t k
   rw [List.foldl_cons, List.length_cons]; omega
variable {l : List NodeM}
theorem root_top (T : Tree l) {n : Int} (hn : thereN l n = true) (hp : (nd l n).parent = -1) : rootN l n = n := by
 unfold rootN; rw [way_top T hn hp]; rfl
theorem root_step (T : Tree l) {n : Int} (hn : thereN l n = true) (hp : (nd l n).parent ≠ -1) : rootN l n = rootN l (nd l n).parent := by
 obtain ⟨r, hr⟩ := way_head T (T.par n hn hp).1
 unfold rootN; rw [way_step T hn hp, hr, List.getLast?_cons_cons]
 cases h : ((nd l n).parent :: r).getLast? with
 | none => simp at h
 | some a => rfl
theorem root_there (T : Tree l) : ∀ n, thereN l n = true → thereN l (rootN l n) = true ∧ (nd l (rootN l n)).parent = -1 ∧ rootN l n ∈ wayN l n := by
 refine up_ind T (fun n hn h => ?_) (fun n hn h hu ih => ?_)
 ·rw [root_top T hn h]; exact ⟨hn, h, way_self T hn⟩
 ·rw [root_step T hn h]; exact ⟨ih.1, ih.2.1, by rw [way_step T hn h]; exact List.mem_cons_of_mem _ ih.2.2⟩
theorem root_way (T : Tree l) : ∀ n, thereN l n = true → ∀ a ∈ wayN l n, rootN l a = rootN l n := by
 refine up_ind T (fun n hn h a ha => ?_) (fun n hn h hu ih a ha => ?_)
 ·rw [way_top T hn h] at ha; rw [List.mem_singleton.1 ha]
 ·rw [way_step T hn h] at ha
  rcases List.mem_cons.1 ha with rfl | h'
  ·rfl
  ·rw [root_step T hn h]; exact ih a h'
theorem ord_root (T : Tree l) {r n : Int} (hr : thereN l r = true) (h : n ∈ ordN l l.length r) : thereN l n = true ∧ r ∈ wayN l n ∧ rootN l n = rootN l r := by
 obtain ⟨h1, h2⟩ := ord_way T _ r hr n h
 exact ⟨h1, h2, (root_way T n h1 r h2).symm⟩
theorem find_step (T : Tree l) (q : Int → Bool) {n : Int} (hn : thereN l n = true) (hp : (nd l n).parent ≠ -1) : nearBy l q n = if q (nd l n).parent = true then (nd l n).parent else nearBy l q (nd l n).parent := by
 obtain ⟨r, hr⟩ := way_head T (T.par n hn hp).1
 unfold nearBy
 rw [way_step T hn hp, List.tail_cons, hr, List.find?_cons, List.tail_cons]
 cases h : q (nd l n).parent <;> simp
theorem find_top (T : Tree l) (q : Int → Bool) {n : Int} (hn : thereN l n = true) (hp : (nd l n).parent = -1) : nearBy l q n = -1 := by
 unfold nearBy; rw [way_top T hn hp]; rfl
theorem near_spec (T : Tree l) (q : Int → Bool) : ∀ n, thereN l n = true →
  (nearBy l q n = -1 ∧ ∀ a ∈ wayN l n, a ≠ n → q a = false) ∨
  (nearBy l q n ∈ wayN l n ∧ nearBy l q n ≠ n ∧ q (nearBy l q n) = true ∧ ∀ a ∈ wayN l n, a ≠ n → q a = true → a ∈ wayN l (nearBy l q n)) := by
 refine up_ind T (fun n hn h => ?_) (fun n hn h hu ih => ?_)
 ·left
  refine ⟨find_top T q hn h, fun a ha hne => ?_⟩
  rw [way_top T hn h] at ha
  exact absurd (List.mem_singleton.1 ha) hne
 ·have hne : ∀ a ∈ wayN l (nd l n).parent, a ≠ n := by
   intro a ha e
   subst e
   have h1 := way_step T hn h
   obtain ⟨t, ht⟩ := way_cut T _ hu a ha
   rw [ht] at h1
   have := congrArg List.length h1
   simp at this
   omega
  rw [find_step T q hn h]
  have hw := way_step T hn h
  cases hq : q (nd l n).parent with
  | true =>
    rw [if_pos rfl]
    right
    refine ⟨by rw [hw]; exact List.mem_cons_of_mem _ (way_self T hu), hne _ (way_self T hu), hq, fun a ha hna _ => ?_⟩
    rw [hw] at ha
    exact (List.mem_cons.1 ha).resolve_left hna
  | false =>
    rw [if_neg (by simp)]
    rcases ih with ⟨h1, h2⟩ | ⟨h1, h2, h3, h4⟩
    ·left
     refine ⟨h1, fun a ha hna => ?_⟩
     rw [hw] at ha
     have ha' := (List.mem_cons.1 ha).resolve_left hna
     by_cases e : a = (nd l n).parent
     ·rw [e]; exact hq
     ·exact h2 a ha' e
    ·right
     refine ⟨by rw [hw]; exact List.mem_cons_of_mem _ h1, hne _ h1, h3, fun a ha hna hqa => ?_⟩
     rw [hw] at ha
     have ha' := (List.mem_cons.1 ha).resolve_left hna
     refine h4 a ha' (fun e => ?_) hqa
     rw [e, hq] at hqa; cases hqa
theorem first_some {r : Int} {v : ByteArray} {k : Int} (h : firstId l r v = some k) : k ∈ ordN l l.length r ∧ attV (nd l k) idW = some v :=
 ⟨List.mem_of_find?_eq_some h, by have := List.find?_some h; simpa using this⟩
def memN (l : List NodeM) (x : Int) : List Int := (ordN l l.length (rootN l x)).filter fun k => decide (ownN l k = x)
def memR (l : List NodeM) (x : Int) : List Int := (ordN l l.length (rootN l x)).filter fun k => decide (ownR l k = x)
end Go.Proofs.Heir
end
section
namespace Go.Proofs.Heir
open Go Go.Am Go.RowKit Go.Lib
set_option maxRecDepth 100000
set_option maxHeartbeats 8000000
variable {l : List NodeM}
def byNear (l : List NodeM) (n : Int) : Prop := (nd l n).kind = 1 ∧ (attV (nd l n) formW = none ∨ conN l n = false)
theorem own_near {n : Int} (h : byNear l n) : ownN l n = nearN l n := by
 obtain ⟨h1, h2⟩ := h
 unfold ownN
 rw [if_pos h1]
 cases ha : attV (nd l n) formW with
 | none => rfl
 | some v =>
   rcases h2 with h2 | h2
   ·rw [ha] at h2; cases h2
   ·simp only [h2, Bool.false_eq_true, if_false]
def memF (l : List NodeM) (x : Int) : List Int := if isForm (nd l x) = true then memN l x else []
end Go.Proofs.Heir
end
namespace Go.Proofs.Heir
open Go Go.Am Go.RowKit Go.Lib
set_option maxRecDepth 100000
set_option maxHeartbeats 8000000

theorem f163_ok (x : NodeM) : FnOK Tryz.prog 163 [] [eNode x] [] (eBool (isForm x)) := by
 obtain ⟨a1, a2, a3, a4, a5, a6, a7, a8, a9, a10⟩ := x
 unfold isForm
 refine FnOK.startC (rvs := [.tmp 2]) G G_good Tryz.func163 rfl Tryz.ntmps163 rfl rfl ?_; with_reducible refine wD ?_
 by_cases e : a1 = 1
 ·(have fct := (eq_true e); (repeat' (first
  | refine gF ?_ | refine aE ?_ ?_
  | apply trivial)); all_goals clear fct)
  all_goals simp [e]
 ·(have fct := (eq_false e); (repeat' (first
  | refine gF ?_ | refine aE ?_ ?_
  | apply trivial)); all_goals clear fct)
  all_goals simp [e]
theorem f198_ok (f : ForM) (T : Tree f.nodes) (n : Int) (hn : thereN f.nodes n = true) : FnOK Tryz.prog 198 [] [eFor f, eInt n] [] (eInt (rootN f.nodes n)) := by
 have hstep := fun n h1 h2 => root_step T (n := n) h1 h2
 have htop := fun n h1 h2 => root_top T (n := n) h1 h2
 have hwst := fun n h1 h2 => way_step T (n := n) h1 h2
 have hpar : ∀ n, thereN f.nodes n = true → (nd f.nodes n).parent = -1 ∨ thereN f.nodes (nd f.nodes n).parent = true := fun n hn => by
  by_cases h : (nd f.nodes n).parent = -1
  ·exact .inl h
  ·exact .inr (T.par n hn h).1
 obtain ⟨l, m⟩ := f
 simp only at hn hstep htop hpar hwst ⊢
 refine FnOK.startC (rvs := [.tmp 4]) G G_good Tryz.func198 rfl Tryz.ntmps198 rfl rfl ?_; with_reducible refine wD ?_
 refine LoopK.use G G_good (fun (c : Int) => [(1, eInt c), (2, .ptr 20 0 0)]) (fun _ => [(20, .live 2 [eFor ⟨l, m⟩] false)])
  (fun c => thereN l c = true ∧ rootN l c = rootN l n) (fun c => (wayN l c).length) n ⟨hn, rfl⟩
  ⟨⟨rfl, rfl⟩, ⟨rfl, ⟨rfl, rfl⟩, trivial⟩, ⟨⟨rfl, rfl, trivial⟩, trivial⟩, trivial⟩ ?_
 rintro c ⟨hc, hr⟩
 with_reducible refine wK ?_
 obtain ⟨i, y, e, hy, hny⟩ := there_iff.1 hc
 have hpc := hpar c hc
 have hst := hstep c hc
 have htp := htop c hc
 have hws := hwst c hc
 rw [hny] at hpc hst htp hws
 obtain ⟨b1, b2, b3, b4, b5, b6, b7, b8, b9, b10⟩ := y
 simp only at hpc hst htp hws
 by_cases e6 : b6 = -1
 ·rw [← hr, htp e6]
  (have fct := (eq_true e6); (repeat' (first
  | refine gF ?_ | refine aE ?_ ?_
  | ((refine IdxK.mk i (eNode _) e (node_get hy) ?_) <;> with_reducible refine wK ?_)
  | apply trivial)); all_goals clear fct)
  all_goals rfl
 ·(have fct := (eq_false e6); (repeat' (first
  | refine gF ?_ | refine aE ?_ ?_
  | ((first
   | (refine IdxK.mk i (eNode _) e (node_get hy) ?_)
   | ((with_reducible show NextK _ _); refine NextK.mk b6 ⟨hpc.resolve_left e6, by rw [← hst e6, hr]⟩ (by rw [hws e6]; simp) ⟨⟨rfl, rfl⟩, ⟨rfl, ⟨rfl, rfl⟩, trivial⟩, ⟨⟨rfl, rfl, trivial⟩, trivial⟩, trivial⟩)) <;> with_reducible refine wK ?_)
  | apply trivial)); all_goals clear fct)
theorem asked_one (f : ForM) (n : Int) : (rightF f && !decide (0 ≤ idxI (fun n => !thereN f.nodes n) [n])) = (rightF f && thereN f.nodes n) := by
 congr 1
 unfold idxI
 cases h : thereN f.nodes n <;> simp [List.findIdx?_cons, h]
theorem f165_ok (f : ForM) (hs : SmallN f.nodes) (hr : rightF f = true) (n : Int) (hn : thereN f.nodes n = true) : FnOK Tryz.prog 165 [] [eFor f, eInt n] [] (eInt (rootN f.nodes n)) := by
 have h76 := f63_ok f hs [n] (by simp)
 rw [asked_one, hr, hn] at h76
 have h77 := f198_ok f (tree_of hr) n hn
 obtain ⟨l, m⟩ := f
 refine FnOK.startC (rvs := [.tmp 4]) G G_good Tryz.func165 rfl Tryz.ntmps165 rfl rfl ?_; with_reducible refine wD ?_
 refine CallK.lit [71] h76 c63 ⟨⟨rfl, rfl, trivial⟩, frz_ints (l := [n]) rfl rfl rfl rfl, trivial⟩ rfl rfl ?_; with_reducible refine wK ?_
 repeat' (first
  | refine gK ?_ | refine aE ?_ ?_
  | (((with_reducible refine kQ 198 ?_); refine cL h77 c198 ?_) <;> with_reducible refine wK ?_)
  | apply trivial)
 all_goals rfl
end Go.Proofs.Heir
section
namespace Go.Proofs.Heir
open Go Go.Am Go.RowKit Go.Lib
set_option maxRecDepth 100000
set_option maxHeartbeats 8000000
namespace V
variable {l : List NodeM}
theorem ord_more (T : Tree l) : ∀ (m : Nat) (n : Int), thereN l n = true → l.length + 1 ≤ m + (wayN l n).length → ordN l (m + 1) n = ordN l m n
 | 0, n, _, h => by have := way_len (l := l) n; omega
 | m + 1, n, hn, h => by
   rw [ordN, ordN]
   congr 1
   refine flatMap_congrI fun k hk => ?_
   refine ord_more T m k (T.kid n hn k hk).1 ?_
   rw [way_kid T hn hk]; simp; omega
theorem ord_eq (T : Tree l) {n : Int} (hn : thereN l n = true) : ordN l l.length n = n :: (nd l n).kids.flatMap (ordN l l.length) := by
 have h0 := there_pos hn
 obtain ⟨m, hm⟩ : ∃ m, l.length = m + 1 := ⟨l.length - 1, by omega⟩
 have h1 : ∀ k ∈ (nd l n).kids, ordN l l.length k = ordN l m k := fun k hk => by
  rw [hm]
  refine ord_more T m k (T.kid n hn k hk).1 ?_
  obtain ⟨r, hr⟩ := way_head T hn
  rw [way_kid T hn hk, hr]; simp; omega
 conv => lhs; rw [hm, ordN]
 congr 1
 exact flatMap_congrI fun k hk => (h1 k hk).symm
def rest (l : List NodeM) (st : List Int) : List Int := st.reverse.flatMap (ordN l l.length)
theorem rest_pop (T : Tree l) {st : List Int} {t : Int} (ht : thereN l t = true) : rest l (st ++ [t]) = t :: rest l (st ++ (nd l t).kids.reverse) := by
 unfold rest
 rw [List.reverse_append, List.reverse_append, List.reverse_reverse]
 simp only [List.reverse_cons, List.reverse_nil, List.nil_append, List.cons_append, List.flatMap_cons, List.flatMap_append]
 rw [ord_eq T ht]; rfl
theorem rest_len (T : Tree l) : ∀ {st : List Int}, (∀ c ∈ st, thereN l c = true) → st.length ≤ (rest l st).length := by
 intro st h
 unfold rest
 have : ∀ s : List Int, (∀ c ∈ s, thereN l c = true) → s.length ≤ (s.flatMap (ordN l l.length)).length := by
  intro s
  induction s with
  | nil => intro _; exact Nat.le_refl _
  | cons a r ih =>
    intro h
    have h1 := ih fun c hc => h c (List.mem_cons_of_mem _ hc)
    rw [List.flatMap_cons, List.length_append, ord_eq T (h a List.mem_cons_self), List.length_cons, List.length_cons]
    omega
 have := this st.reverse fun c hc => h c (by simpa using hc)
 simpa using this
end V
def ordF (f : ForM) (n : Int) : List Int := if (rightF f && thereN f.nodes n) = true then ordN f.nodes f.nodes.length n else []
end Go.Proofs.Heir
end
