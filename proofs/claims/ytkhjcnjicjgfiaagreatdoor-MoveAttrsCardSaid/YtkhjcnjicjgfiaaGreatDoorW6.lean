/- Models, plain laws and contracts of functions of the given program; conditions as stated in each theorem. By an AI agent. -/
import Derived.Test.YtkhjcnjicjgfiaaGreatDoorW5
set_option linter.unusedSimpArgs false
set_option linter.unusedVariables false
namespace Go.Proofs.Heir
open Go Go.Am Go.RowKit Go.Lib
set_option maxRecDepth 100000
set_option maxHeartbeats 8000000
@[reducible] def mNodes (l : List NodeM) : MS := .live 10 (l.map oNode) false
@[reducible] def mHand (most : Int) (n : Nat) (t : Nat) (notes : AV) : MS := .live 3 [.agg [.own t 0 n, eInt most, notes]] false
theorem noRef_nodeN (x : NodeM) : noRef (oNode x) = true := by
  show noRef (.agg [eInt x.kind, eStr x.name, eStr x.is, eStr x.data, eAttrs x.attrs, eInt x.parent, eInts x.kids, eInt x.host, eInt x.under, eInt x.doc]) = true
  have h1 : noRefL (x.attrs.map oAttr) = true := noRefL_map oAttr (fun _ => rfl) _
  have h2 : noRefL (x.kids.map oInt) = true := noRefL_map oInt (fun _ => rfl) _
  simp [noRef, noRefL, h1, h2]
theorem noRef_nodes (l : List NodeM) : noRefL (l.map oNode) = true := noRefL_map oNode noRef_nodeN l
theorem nodes_outs (l : List NodeM) : okOuts [mNodes l] := ⟨Wide.of_mem fun x hx => by
  obtain ⟨a, _, rfl⟩ := List.mem_map.1 hx; rfl, noRef_nodes l, trivial⟩
theorem one_nodes (l : List NodeM) : oneL (flat (l.map oNode)) = true := oneL_map oNode (fun _ => rfl) l
theorem f137_own (l : List NodeM) (hl : l.length ≤ 100000) : FnOK Tryz.prog 137 [] [eNodes l] [mNodes l] (.own 0 0 l.length) := by
  have hlm : (l.map oNode).length = l.length := List.length_map ..
  refine FnOK.startC (rvs := [.tmp 2]) G G_good Tryz.func137 rfl Tryz.ntmps137 rfl rfl ?_; with_reducible refine wD ?_
  refine GuessK.mk (fun h => ?_) (fun _ => ?_) <;> with_reducible refine wK ?_
  · obtain rfl : l = [] := by simpa using h
    (refine eK ?_ ?_ <;> with_reducible repeat' (first | exact trivial | (show _ ∧ _; refine aK ?_ ?_)))
    all_goals first | rfl | trivial
  · refine AppK.mk [] (l.map oNode) ⟨rfl, rfl, rfl⟩ ⟨rfl, rfl, rfl⟩ (one_nodes l) (by simp; omega) (by simp; omega) ?_; with_reducible refine wK ?_
    (refine eK ?_ ?_ <;> with_reducible repeat' (first | exact trivial | (show _ ∧ _; refine aK ?_ ?_)))
    · exact hlm.symm
    · exact MFL_refl (noRef_nodes l)
theorem f72_fr (l : List Int) (hl : l.length ≤ 100000) : FnOK Tryz.prog 72 [] [eInts l] [] (eInts l) := by
  have hlm : (l.map oInt).length = l.length := List.length_map ..
  refine FnOK.startC (rvs := [.tmp 2]) G G_good Tryz.func72 rfl Tryz.ntmps72 rfl rfl ?_; with_reducible refine wD ?_
  refine GuessK.mk (fun h => ?_) (fun _ => ?_) <;> with_reducible refine wK ?_
  · obtain rfl : l = [] := by simpa using h
    (refine eK ?_ ?_ <;> with_reducible repeat' (first | exact trivial | (show _ ∧ _; refine aK ?_ ?_)))
    all_goals first | rfl | exact .inr (.inr ⟨1, rfl⟩) | trace_state
  · refine AppK.mk [] (l.map oInt) ⟨rfl, rfl, rfl⟩ ⟨rfl, rfl, rfl⟩ (oneL_map oInt (fun _ => rfl) l) (by simp; omega) (by simp; omega) ?_; with_reducible refine wK ?_
    (refine eK ?_ ?_ <;> with_reducible repeat' (first | exact trivial | (show _ ∧ _; refine aK ?_ ?_)))
    all_goals first | exact frz_ints rfl rfl rfl rfl | (refine frz_ints rfl rfl ?_ ?_ <;> simp) | trace_state
theorem f121_fr (f : ForM) (hs : SmallN f.nodes) : FnOK Tryz.prog 121 [] [eFor f] [mHand f.most f.nodes.length 1 (.lit (.slice none 0 0)), mNodes f.nodes] (.ptr 0 0 0) := by
  have h137 := f137_own f.nodes (by have := hs.len; omega)
  have h60 := hs.len
  have h182 : ∀ (k : Nat) (y : NodeM), f.nodes[k]? = some y → FnOK Tryz.prog 72 [] [eInts y.kids] [] (eInts y.kids) := fun k y hy => f72_fr y.kids (by have := hs.kids y (List.mem_of_getElem? hy); omega)
  have hset : ∀ (k : Nat) (y : NodeM), f.nodes[k]? = some y → f.nodes.set k y = f.nodes := fun k y hy => by
    apply List.ext_getElem?
    intro n
    rw [List.getElem?_set]
    by_cases e : k = n
    · subst e
      have := (List.getElem?_eq_some_iff.1 hy).1
      rw [if_pos rfl, if_pos this, hy]
    · rw [if_neg e]
  have hlm : (f.nodes.map oNode).length = f.nodes.length := List.length_map ..
  obtain ⟨l, m⟩ := f
  simp only at h137 h60 h182 hset hlm
  refine FnOK.startC (rvs := [.tmp 2]) G G_good Tryz.func121 rfl Tryz.ntmps121 rfl rfl ?_; with_reducible refine wD ?_
  repeat' (first
    | refine gK ?_
    | ((first
      | ((with_reducible show CallK _ _ 137 _ _ _ _); refine CallK.new 71 [] h137 c137 ⟨rfl, trivial⟩ rfl rfl rfl (nodes_outs l) rfl ?_)
      | ((with_reducible show DrawK _ _ _ _); refine dK ?_)) <;> with_reducible refine wK ?_)
    | ((with_reducible show (_ ∧ _) ∧ _ ∧ _); (refine eK ?_ ?_ <;> with_reducible repeat' (first | exact trivial | (show _ ∧ _; refine aK ?_ ?_)))))
  refine LoopK.use G G_good (fun (k : Nat) => [(3, .ptr 120 0 0), (18, eInt l.length), (19, eInt k)])
    (fun _ => [(120, mHand m l.length 71 (.lit (.slice none 0 0))), (71, mNodes l)])
    (fun k => k ≤ l.length) (fun k => l.length - k) 0 (Nat.zero_le _) ?_ ?_
  · (refine fK ?_; (with_reducible repeat' (first | exact trivial | (show _ ∧ _; refine aK ?_ ?_))); (all_goals try rfl))
    all_goals first
      | exact ⟨.refl rfl, rfl⟩
      | exact .inl rfl
      | exact ⟨.refl (noRef_nodes _), noRef_nodes _⟩
      | trace_state
  intro k hk
  with_reducible refine wK ?_
  refine IfK.mk (fun h1 => ?_) (fun h1 => ?_) <;> (try simp only [castN] at h1) <;> with_reducible refine wK ?_
  · have hkl : k < l.length := by simp only [decide_eq_true_eq, castN] at h1; omega
    obtain ⟨y, hy⟩ : ∃ y, l[k]? = some y := ⟨_, List.getElem?_eq_getElem hkl⟩
    have h182k := h182 k y hy
    have hrow : (l.map oNode).set (0 + k) (oNode y) = l.map oNode := by
      rw [Nat.zero_add, ← List.map_set, hset k y hy]
    obtain ⟨y1, y2, y3, y4, y5, y6, y7, y8, y9, y10⟩ := y
    simp only at h182k
    repeat' (first
    | refine gK ?_
    | ((first
      | ((with_reducible show LtK _ _ _ _ _); refine LtK.mk k rfl hkl ?_)
      | ((with_reducible show ElemK _ _ _ _ _); first | refine ElemK.mk (eNode ⟨y1, y2, y3, y4, y5, y6, y7, y8, y9, y10⟩) (by first | exact node_get hy | (rw [Nat.zero_add]; exact node_get hy)) ?_ | refine ElemK.mk _ rfl ?_)
      | ((with_reducible show CallK _ _ 72 _ _ _ _); refine CallK.val [] h182k c72 ⟨rfl, trivial⟩ rfl rfl rfl ?_)
      | ((with_reducible show DrawK _ _ _ _); refine dK ?_)) <;> with_reducible refine wK ?_)
    | ((with_reducible show (_ ∧ _) ∧ _ ∧ _); (refine eK ?_ ?_ <;> with_reducible repeat' (first | exact trivial | (show _ ∧ _; refine aK ?_ ?_)))))
    refine NextK.mk (k + 1) (by omega) (by omega) ?_
    (refine fK ?_; (with_reducible repeat' (first | exact trivial | (show _ ∧ _; refine aK ?_ ?_))); (all_goals try rfl))
    all_goals first
      | exact ⟨.refl rfl, rfl⟩
      | exact .inl rfl
      | exact ⟨.refl (noRef_nodes _), noRef_nodes _⟩
      | (refine cast (congrArg (ObjK _ _) hrow.symm) ?_; exact ⟨.refl (noRef_nodes _), noRef_nodes _⟩)
      | (simp; done)
      | trace_state
  · have hjl : k = l.length := by simp only [decide_eq_false_iff_not, castN] at h1; omega
    subst hjl
    repeat' (first
    | refine gK ?_
    | (((with_reducible show DrawK _ _ _ _); refine dK ?_) <;> with_reducible refine wK ?_)
    | ((with_reducible show (_ ∧ _) ∧ _ ∧ _); (refine eK ?_ ?_ <;> with_reducible repeat' (first | exact trivial | (show _ ∧ _; refine aK ?_ ?_)))))
    all_goals first | rfl | exact .inl rfl | exact ⟨.refl (noRef_nodes _), noRef_nodes _⟩ | trace_state
end Go.Proofs.Heir
