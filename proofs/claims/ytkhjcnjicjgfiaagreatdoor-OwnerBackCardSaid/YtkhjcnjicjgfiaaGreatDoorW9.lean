/- Models, plain laws and contracts of functions of the given program; conditions as stated in each theorem. By an AI agent. -/
import Derived.Test.YtkhjcnjicjgfiaaGreatDoorW7
import Derived.Test.YtkhjcnjicjgfiaaGreatDoorW8
import Derived.Test.YtkhjcnjicjgfiaaGreatDoorW5
set_option linter.unusedSimpArgs false
set_option linter.unusedVariables false
namespace Go.Proofs.Heir
open Go Go.Am Go.RowKit Go.Lib
set_option maxRecDepth 100000
set_option maxHeartbeats 8000000
@[reducible] def stepV (what : ByteArray) (e : Int) : Value := .iface 178 (.agg #[.string what, .iface 176 (.agg #[.int .i64 e])])
@[reducible] def askedW : ByteArray := ⟨#[97, 115, 107, 101, 100]⟩
@[reducible] def elemWd : ByteArray := ⟨#[101, 108, 101, 109]⟩
@[reducible] def noErr : AV := .lit .nilIface
theorem refused_calls1 (what : ByteArray) (e : Int) (he : e ≠ 0) (w : World) : Calls Tryz.prog 60 #[.string what, .int .i64 e] w fun ev w' => ev = .returned (stepV what e) ∧ w' = w := by
  go_enter Tryz.func60, Tryz.ntmps60
  go_wp2
  go_ret
  exact ⟨rfl, rfl⟩
theorem refused1 (what : ByteArray) (e : Int) (he : e ≠ 0) : FnOK Tryz.prog 60 [] [eStr what, eInt e] [] (.lit (stepV what e)) :=
  FnOK.of_calls (vs := [.string what, .int .i64 e]) fun w _ => (refused_calls1 what e he w).mono (by rintro e w' ⟨rfl, rfl⟩; exact ⟨rfl, Below.refl _ _⟩)
theorem there_yes (f : ForM) (hs : SmallN f.nodes) (n : Int) (h : (rightF f && thereN f.nodes n) = true) : FnOK Tryz.prog 77 [] [eFor f, eInt n] [] noErr := by
  have h17 := f17_ok f hs
  have hr : rightF f = true := by simp only [Bool.and_eq_true] at h; exact h.1
  have ht : thereN f.nodes n = true := by simp only [Bool.and_eq_true] at h; exact h.2
  rw [hr] at h17
  obtain ⟨l, m⟩ := f
  simp only at h17 ht
  have hlm : (l.map oNode).length = l.length := List.length_map ..
  have e0 : ¬ n < 0 := by unfold thereN at ht; simp at ht; omega
  have e1 : ¬ (l.length : Int) ≤ n := by unfold thereN at ht; simp at ht; omega
  refine FnOK.startC (rvs := [.tmp 4]) G G_good Tryz.func77 rfl Tryz.ntmps77 rfl rfl ?_; with_reducible refine wD ?_
  (have fct := And.intro hlm (And.intro e0 (e1)); (repeat' (first
    | refine gF ?_
    | (((with_reducible show CallK _ _ 17 _ _ _ _); refine CallK.lit [] h17 c17 ⟨⟨rfl, rfl, trivial⟩, trivial⟩ rfl rfl ?_) <;> with_reducible refine wK ?_)
    | ((with_reducible show (_ ∧ _) ∧ _ ∧ _); (refine eK ?_ ?_ <;> with_reducible repeat' (first | exact trivial | (show _ ∧ _; refine aK ?_ ?_)))))); all_goals clear fct)
  all_goals rfl
theorem there_no (f : ForM) (hs : SmallN f.nodes) (n : Int) (h : (rightF f && thereN f.nodes n) = false) : FnOK Tryz.prog 77 [] [eFor f, eInt n] [] (.lit (stepV askedW 1)) := by
  have h17 := f17_ok f hs
  have h60 := refused1 askedW 1 (by decide)
  obtain ⟨l, m⟩ := f
  simp only at h h17
  have hlm : (l.map oNode).length = l.length := List.length_map ..
  cases hr : rightF ⟨l, m⟩ with
  | false =>
    rw [hr] at h17
    refine FnOK.startC (rvs := [.tmp 4]) G G_good Tryz.func77 rfl Tryz.ntmps77 rfl rfl ?_; with_reducible refine wD ?_
    (have fct := hlm; (repeat' (first
    | refine gF ?_
    | ((first
      | ((with_reducible show CallK _ _ 17 _ _ _ _); refine CallK.lit [] h17 c17 ⟨⟨rfl, rfl, trivial⟩, trivial⟩ rfl rfl ?_)
      | ((with_reducible show CallK _ _ 60 _ _ _ _); refine CallK.lit [] h60 c60 ⟨rfl, rfl, trivial⟩ rfl rfl ?_)) <;> with_reducible refine wK ?_)
    | ((with_reducible show (_ ∧ _) ∧ _ ∧ _); (refine eK ?_ ?_ <;> with_reducible repeat' (first | exact trivial | (show _ ∧ _; refine aK ?_ ?_)))))); all_goals clear fct)
    all_goals rfl
  | true =>
    have ht : thereN l n = false := by rw [hr] at h; simpa using h
    rw [hr] at h17
    by_cases e0 : n < 0
    · refine FnOK.startC (rvs := [.tmp 4]) G G_good Tryz.func77 rfl Tryz.ntmps77 rfl rfl ?_; with_reducible refine wD ?_
      (have fct := And.intro hlm (e0); (repeat' (first
    | refine gF ?_
    | ((first
      | ((with_reducible show CallK _ _ 17 _ _ _ _); refine CallK.lit [] h17 c17 ⟨⟨rfl, rfl, trivial⟩, trivial⟩ rfl rfl ?_)
      | ((with_reducible show CallK _ _ 60 _ _ _ _); refine CallK.lit [] h60 c60 ⟨rfl, rfl, trivial⟩ rfl rfl ?_)) <;> with_reducible refine wK ?_)
    | ((with_reducible show (_ ∧ _) ∧ _ ∧ _); (refine eK ?_ ?_ <;> with_reducible repeat' (first | exact trivial | (show _ ∧ _; refine aK ?_ ?_)))))); all_goals clear fct)
      all_goals rfl
    · have e1 : (l.length : Int) ≤ n := by unfold thereN at ht; simp at ht; omega
      refine FnOK.startC (rvs := [.tmp 4]) G G_good Tryz.func77 rfl Tryz.ntmps77 rfl rfl ?_; with_reducible refine wD ?_
      (have fct := And.intro hlm (And.intro e0 (e1)); (repeat' (first
    | refine gF ?_
    | ((first
      | ((with_reducible show CallK _ _ 17 _ _ _ _); refine CallK.lit [] h17 c17 ⟨⟨rfl, rfl, trivial⟩, trivial⟩ rfl rfl ?_)
      | ((with_reducible show CallK _ _ 60 _ _ _ _); refine CallK.lit [] h60 c60 ⟨rfl, rfl, trivial⟩ rfl rfl ?_)) <;> with_reducible refine wK ?_)
    | ((with_reducible show (_ ∧ _) ∧ _ ∧ _); (refine eK ?_ ?_ <;> with_reducible repeat' (first | exact trivial | (show _ ∧ _; refine aK ?_ ?_)))))); all_goals clear fct)
      all_goals rfl
theorem elem_yes (f : ForM) (hs : SmallN f.nodes) (k : Nat) (y : NodeM) (hy : f.nodes[k]? = some y) (hr : rightF f = true) (hk : y.kind = 1) : FnOK Tryz.prog 57 [] [eFor f, eInt k] [] noErr := by
  have h77 := there_yes f hs k (by rw [hr, there_get hy]; rfl)
  obtain ⟨l, m⟩ := f
  simp only at h77 hy
  have hkl : k < l.length := (List.getElem?_eq_some_iff.1 hy).1
  have hlm : (l.map oNode).length = l.length := List.length_map ..
  obtain ⟨y1, y2, y3, y4, y5, y6, y7, y8, y9, y10⟩ := y
  simp only at hk
  subst hk
  refine FnOK.startC (rvs := [.tmp 4]) G G_good Tryz.func57 rfl Tryz.ntmps57 rfl rfl ?_; with_reducible refine wD ?_
  (have fct := hlm; (repeat' (first
    | refine gF ?_
    | ((first
      | ((with_reducible show CallK _ _ 77 _ _ _ _); refine CallK.lit [] h77 c77 ⟨⟨rfl, rfl, trivial⟩, rfl, trivial⟩ rfl rfl ?_)
      | ((with_reducible show IdxK _ _ _ _ _); refine IdxK.mk k (eNode ⟨1, y2, y3, y4, y5, y6, y7, y8, y9, y10⟩) rfl (node_get hy) ?_)
      | ((with_reducible show HandK _ _ _ _ _); first | refine HandK.nilEq true Tryz.underlying98 rfl rfl rfl rfl rfl ?_ | refine HandK.nilNe false Tryz.underlying98 rfl rfl rfl rfl rfl ?_)) <;> with_reducible refine wK ?_)
    | ((with_reducible show (_ ∧ _) ∧ _ ∧ _); (refine eK ?_ ?_ <;> with_reducible repeat' (first | exact trivial | (show _ ∧ _; refine aK ?_ ?_)))))); all_goals clear fct)
  all_goals first | rfl | trace_state
theorem elem_kind (f : ForM) (hs : SmallN f.nodes) (k : Nat) (y : NodeM) (hy : f.nodes[k]? = some y) (hr : rightF f = true) (hk : y.kind ≠ 1) : FnOK Tryz.prog 57 [] [eFor f, eInt k] [] (.lit (stepV elemWd 5)) := by
  have h77 := there_yes f hs k (by rw [hr, there_get hy]; rfl)
  have h60 := refused1 elemWd 5 (by decide)
  obtain ⟨l, m⟩ := f
  simp only at h77 hy
  have hkl : k < l.length := (List.getElem?_eq_some_iff.1 hy).1
  have hlm : (l.map oNode).length = l.length := List.length_map ..
  obtain ⟨y1, y2, y3, y4, y5, y6, y7, y8, y9, y10⟩ := y
  simp only at hk
  have hk := decide_eq_false hk
  refine FnOK.startC (rvs := [.tmp 4]) G G_good Tryz.func57 rfl Tryz.ntmps57 rfl rfl ?_; with_reducible refine wD ?_
  (have fct := And.intro hlm (hk); (repeat' (first
    | refine gF ?_
    | ((first
      | ((with_reducible show CallK _ _ 77 _ _ _ _); refine CallK.lit [] h77 c77 ⟨⟨rfl, rfl, trivial⟩, rfl, trivial⟩ rfl rfl ?_)
      | ((with_reducible show CallK _ _ 60 _ _ _ _); refine CallK.lit [] h60 c60 ⟨rfl, rfl, trivial⟩ rfl rfl ?_)
      | ((with_reducible show IdxK _ _ _ _ _); refine IdxK.mk k (eNode ⟨y1, y2, y3, y4, y5, y6, y7, y8, y9, y10⟩) rfl (node_get hy) ?_)
      | ((with_reducible show HandK _ _ _ _ _); first | refine HandK.nilEq true Tryz.underlying98 rfl rfl rfl rfl rfl ?_ | refine HandK.nilNe false Tryz.underlying98 rfl rfl rfl rfl rfl ?_)) <;> with_reducible refine wK ?_)
    | ((with_reducible show (_ ∧ _) ∧ _ ∧ _); (refine eK ?_ ?_ <;> with_reducible repeat' (first | exact trivial | (show _ ∧ _; refine aK ?_ ?_)))))); all_goals clear fct)
  all_goals first | rfl | trace_state
theorem elem_no (f : ForM) (hs : SmallN f.nodes) (n : Int) (h : (rightF f && thereN f.nodes n) = false) : FnOK Tryz.prog 57 [] [eFor f, eInt n] [] (.lit (stepV askedW 1)) := by
  have h77 := there_no f hs n h
  refine FnOK.startC (rvs := [.tmp 4]) G G_good Tryz.func57 rfl Tryz.ntmps57 rfl rfl ?_; with_reducible refine wD ?_
  repeat' (first
    | refine gK ?_
    | ((first
      | ((with_reducible show CallK _ _ 77 _ _ _ _); refine CallK.lit [] h77 c77 ⟨⟨rfl, rfl, trivial⟩, rfl, trivial⟩ rfl rfl ?_)
      | ((with_reducible show HandK _ _ _ _ _); first | refine HandK.nilEq false Tryz.underlying98 rfl rfl rfl rfl rfl ?_ | refine HandK.nilNe true Tryz.underlying98 rfl rfl rfl rfl rfl ?_)) <;> with_reducible refine wK ?_)
    | ((with_reducible show (_ ∧ _) ∧ _ ∧ _); (refine eK ?_ ?_ <;> with_reducible repeat' (first | exact trivial | (show _ ∧ _; refine aK ?_ ?_)))))
  all_goals first | rfl | trace_state
end Go.Proofs.Heir
namespace Go.Proofs.Heir
open Go Go.Am Go.RowKit Go.Lib
set_option maxRecDepth 100000
set_option maxHeartbeats 8000000
set_option maxHeartbeats 8000000
theorem find_at {l : List AttrM} {n : ByteArray} (hr : rightA l = true) (hn : rightS n = true) {k : Nat} {a : AttrM} (h : l[k]? = some a) (e : a.name = lowS n) : findP l n = k := by
  rw [findP_ref hr hn, ← e]; exact posA_atH (rightA_nodup hr) h
theorem set_shape {l : List AttrM} {n v : ByteArray} (h : (setA l n v).2 = 0) : (rightA l = true ∧ rightS n = true ∧ v.size ≤ 200) ∧ ((∃ (k : Nat) (o : AttrM), findP l n = k ∧ l[k]? = some o ∧ o.name = lowS n ∧ (setA l n v).1 = l.set k ⟨lowS n, v⟩) ∨ (¬ 0 ≤ findP l n ∧ l.length ≠ 40 ∧ (setA l n v).1 = l ++ [⟨lowS n, v⟩])) := by
  unfold setA at h ⊢
  by_cases hE : findE l n = 0
  · obtain ⟨h1, h2, _⟩ := findE_zero hE
    rw [if_pos hE] at h ⊢
    by_cases hv : v.size ≤ 200
    · rw [if_pos hv] at h ⊢
      refine ⟨⟨h1, h2, hv⟩, ?_⟩
      by_cases hP : 0 ≤ findP l n
      · rw [if_pos hP]
        rcases findP_cases l n with e | ⟨k, o, e1, e2, e3⟩
        · omega
        · exact .inl ⟨k, o, e1, e2, e3, by rw [e1, Int.toNat_natCast]⟩
      · rw [if_neg hP] at h ⊢
        by_cases hl : l.length = 40
        · rw [if_pos hl] at h; cases h
        · rw [if_neg hl]; exact .inr ⟨hP, hl, rfl⟩
    · rw [if_neg hv] at h; cases h
  · rw [if_neg hE] at h; exact absurd h hE
theorem set_at {l : List AttrM} {n v : ByteArray} (h : (setA l n v).2 = 0) : ∃ k : Nat, (setA l n v).1[k]? = some ⟨lowS n, v⟩ := by
  rcases (set_shape h).2 with ⟨k, o, _, h2, _, h4⟩ | ⟨_, _, h4⟩
  · have := (List.getElem?_eq_some_iff.1 h2).1
    exact ⟨k, by rw [h4, List.getElem?_set, if_pos rfl, if_pos this]⟩
  · exact ⟨l.length, by rw [h4, List.getElem?_append_right (Nat.le_refl _), Nat.sub_self]; rfl⟩
section
variable {l l' : List NodeM} {m : Int}
theorem att_att {n : Int} (hn : thereN l n = true) (xs ys : List AttrM) : attL (attL l n xs) n ys = attL l n ys := by
  have T := there_len (len_att l n xs)
  refine nodes_ext (by rw [len_att, len_att, len_att]) fun x hx => ?_
  have hx0 : thereN l x = true := by rw [there_len (len_att l n ys)] at hx; exact hx
  rw [nd_att (by rw [T]; exact hn) (by rw [T]; exact hx0), nd_att hn hx0, nd_att hn hx0]
  by_cases e : x = n
  · rw [if_pos e, if_pos e, if_pos e]
  · rw [if_neg e, if_neg e, if_neg e]
theorem nd_att_self {n : Int} {xs : List AttrM} (hn : thereN l n = true) : (nd (attL l n xs) n).attrs = xs := by rw [nd_att hn hn, if_pos rfl]
end
end Go.Proofs.Heir
namespace Go.Proofs.Heir
open Go Go.Am Go.RowKit Go.Lib
set_option maxRecDepth 100000
set_option maxHeartbeats 8000000
set_option maxHeartbeats 2000000
section
variable {l l' : List NodeM} {m : Int}
end
end Go.Proofs.Heir
namespace Go.Proofs.Heir
open Go Go.Am Go.RowKit Go.Lib
set_option maxRecDepth 100000
set_option maxHeartbeats 8000000
@[reducible] def setWd : ByteArray := ⟨#[115, 101, 116]⟩
@[reducible] def unsetWd : ByteArray := ⟨#[117, 110, 115, 101, 116]⟩
theorem noRef_at2 (xs : List AttrM) (e : Int) : noRef (.tup [eAttrs xs, eInt e]) = true := by
  have := noRef_attrs xs
  simp [noRef, noRefL, this]
theorem noRef_atB (xs : List AttrM) (b : Bool) : noRef (.tup [eAttrs xs, eBool b]) = true := by
  have := noRef_attrs xs
  simp [noRef, noRefL, this]
theorem set_found {l : List AttrM} {s v : ByteArray} (he : (setA l s v).2 = 0) : 0 ≤ findP (setA l s v).1 s := by
  obtain ⟨k, hk⟩ := set_at he
  have h1 := (set_ok he).2
  have h2 := (set_shape he).1.2.1
  rw [find_at h1.right h2 hk rfl]
  omega
theorem setC_ok (l : List NodeM) (m : Int) (hs : SmallN l) (k : Nat) (y : NodeM) (hy : l[k]? = some y) (s v : ByteArray) (hs3 : s.size ≤ 100000) (he : (setA y.attrs s v).2 = 0) :
    FnOK Tryz.prog 58 [mHand m l.length 1 nilNs, mNodes l] [.ptr 0 0 0, .fptr (eInt k) 0, .fptr (eStr s) 0, .fptr (eStr v) 0]
      [mHand m l.length 1 (.own 2 0 1), mNodes (attL l k (setA y.attrs s v).1), .live 9 [oNote (chNote y k s (setA y.attrs s v).1)] false] noErr := by
  have hl := hs.attrs y (List.mem_of_getElem? hy)
  have hkl : k < l.length := (List.getElem?_eq_some_iff.1 hy).1
  have hlm : (l.map oNode).length = l.length := List.length_map ..
  have h59 := f59_ok y.attrs (by omega) s v
  have h61 := change_yes l m hs k y hy s hs3 (setA y.attrs s v).1 (by have := setA_len y.attrs s v; omega) (.inr (set_found he))
  rw [he] at h59
  have ha : (attL l k (setA y.attrs s v).1).length = l.length := len_att ..
  generalize attL l k (setA y.attrs s v).1 = l' at h61 ha ⊢
  generalize chNote y k s (setA y.attrs s v).1 = x at h61 ⊢
  obtain ⟨y1, y2, y3, y4, y5, y6, y7, y8, y9, y10⟩ := y
  simp only at *
  refine FnOK.startN [(2, 311)] (rvs := [.tmp 5]) G G_good Tryz.func58 rfl Tryz.ntmps58 rfl rfl ?_; with_reducible refine wD ?_
  repeat' (first
    | refine gK ?_
    | ((first
      | ((with_reducible show CallK _ _ 59 _ _ _ _); refine CallK.val [] h59 c59 ⟨rfl, rfl, rfl, trivial⟩ rfl rfl (noRef_at2 _ _) ?_)
      | ((with_reducible show LtK _ _ _ _ _); refine LtK.mk k rfl hkl ?_)
      | ((with_reducible show ElemK _ _ _ _ _); first | refine ElemK.mk (eNode ⟨y1, y2, y3, y4, y5, y6, y7, y8, y9, y10⟩) (by first | exact node_get hy | (rw [Nat.zero_add]; exact node_get hy)) ?_ | refine ElemK.mk _ rfl ?_)
      | ((with_reducible show CallK _ _ 61 _ _ _ _); refine CallK.lend (news := [mHand m l.length 1 (.own 311 0 1), mNodes l', .live 9 [oNote x] false]) [0, 1, 311] [] h61 c61 ⟨⟨rfl, rfl⟩, rfl, rfl, rfl, trivial⟩ ⟨⟨rfl, .inr ⟨⟨⟨⟨rfl, rfl⟩, rfl, .inl rfl, trivial⟩, trivial⟩, rfl⟩⟩, ⟨rfl, .inl ⟨rfl, noRef_nodes _⟩⟩, trivial⟩ rfl ⟨⟨rfl, rfl⟩, rfl⟩ rfl ⟨⟨rfl, .inr ⟨rfl, rfl, rfl⟩⟩, ⟨rfl, .inl ⟨rfl, noRef_nodes _⟩⟩, ⟨rfl, .inl ⟨rfl, rfl⟩⟩, trivial⟩ rfl rfl ?_)
      | ((with_reducible show DrawK _ _ _ _); refine dK ?_)) <;> with_reducible refine wK ?_)
    | ((with_reducible show (_ ∧ _) ∧ _ ∧ _); (refine eK ?_ ?_ <;> with_reducible repeat' (first | exact trivial | (show _ ∧ _; refine aK ?_ ?_)))))
  all_goals first
    | rfl
    | exact ⟨.refl rfl, rfl⟩
    | exact (.inl rfl : NilK _)
    | exact ⟨.refl (noRef_nodes _), noRef_nodes _⟩
    | trace_state
theorem setC_err (l : List NodeM) (m : Int) (hs : SmallN l) (k : Nat) (y : NodeM) (hy : l[k]? = some y) (s v : ByteArray) (hs3 : s.size ≤ 100000) (he : (setA y.attrs s v).2 ≠ 0) :
    FnOK Tryz.prog 58 [mHand m l.length 1 nilNs, mNodes l] [.ptr 0 0 0, .fptr (eInt k) 0, .fptr (eStr s) 0, .fptr (eStr v) 0]
      [mHand m l.length 1 nilNs, mNodes l] (.lit (stepV setWd (setA y.attrs s v).2)) := by
  have hl := hs.attrs y (List.mem_of_getElem? hy)
  have hkl : k < l.length := (List.getElem?_eq_some_iff.1 hy).1
  have hlm : (l.map oNode).length = l.length := List.length_map ..
  have h59 := f59_ok y.attrs (by omega) s v
  have h60 := refused1 setWd (setA y.attrs s v).2 he
  have hd := decide_eq_false he
  generalize (setA y.attrs s v).2 = e at h59 h60 hd he ⊢
  obtain ⟨y1, y2, y3, y4, y5, y6, y7, y8, y9, y10⟩ := y
  simp only at *
  refine FnOK.startN [] (rvs := [.tmp 5]) G G_good Tryz.func58 rfl Tryz.ntmps58 rfl rfl ?_; with_reducible refine wD ?_
  (have fct := hd; (repeat' (first
    | refine gF ?_
    | ((first
      | ((with_reducible show CallK _ _ 59 _ _ _ _); refine CallK.val [] h59 c59 ⟨rfl, rfl, rfl, trivial⟩ rfl rfl (noRef_at2 _ _) ?_)
      | ((with_reducible show LtK _ _ _ _ _); refine LtK.mk k rfl hkl ?_)
      | ((with_reducible show ElemK _ _ _ _ _); first | refine ElemK.mk (eNode ⟨y1, y2, y3, y4, y5, y6, y7, y8, y9, y10⟩) (by first | exact node_get hy | (rw [Nat.zero_add]; exact node_get hy)) ?_ | refine ElemK.mk _ rfl ?_)
      | ((with_reducible show CallK _ _ 60 _ _ _ _); refine CallK.lit [] h60 c60 ⟨rfl, rfl, trivial⟩ rfl rfl ?_)
      | ((with_reducible show DrawK _ _ _ _); refine dK ?_)) <;> with_reducible refine wK ?_)
    | ((with_reducible show (_ ∧ _) ∧ _ ∧ _); (refine eK ?_ ?_ <;> with_reducible repeat' (first | exact trivial | (show _ ∧ _; refine aK ?_ ?_)))))); all_goals clear fct)
  all_goals first
    | rfl
    | exact ⟨.refl rfl, rfl⟩
    | exact (.inl rfl : NilK _)
    | exact ⟨.refl (noRef_nodes _), noRef_nodes _⟩
    | trace_state
theorem unsetC_yes (l : List NodeM) (m : Int) (hs : SmallN l) (k : Nat) (y : NodeM) (hy : l[k]? = some y) (s : ByteArray) (hs3 : s.size ≤ 100000) (hr : rightS s = true) (hf : 0 ≤ findP y.attrs s ∨ 0 ≤ findP (removeA y.attrs s).1 s) :
    FnOK Tryz.prog 66 [mHand m l.length 1 nilNs, mNodes l] [.ptr 0 0 0, .fptr (eStr s) 0, .fptr (eInt k) 0]
      [mHand m l.length 1 (.own 2 0 1), mNodes (attL l k (removeA y.attrs s).1), .live 9 [oNote (chNote y k s (removeA y.attrs s).1)] false] noErr := by
  have hl := hs.attrs y (List.mem_of_getElem? hy)
  have hkl : k < l.length := (List.getElem?_eq_some_iff.1 hy).1
  have hlm : (l.map oNode).length = l.length := List.length_map ..
  have h67 := f67_ok s
  have h68 := f68_ok y.attrs (by omega) s
  rw [hr] at h67
  have h61 := change_yes l m hs k y hy s hs3 (removeA y.attrs s).1 (by have := removeA_len y.attrs s; omega) hf
  have ha : (attL l k (removeA y.attrs s).1).length = l.length := len_att ..
  generalize attL l k (removeA y.attrs s).1 = l' at h61 ha ⊢
  generalize chNote y k s (removeA y.attrs s).1 = x at h61 ⊢
  obtain ⟨y1, y2, y3, y4, y5, y6, y7, y8, y9, y10⟩ := y
  simp only at *
  refine FnOK.startN [(2, 291)] (rvs := [.tmp 4]) G G_good Tryz.func66 rfl Tryz.ntmps66 rfl rfl ?_; with_reducible refine wD ?_
  repeat' (first
    | refine gK ?_
    | ((first
      | ((with_reducible show CallK _ _ 67 _ _ _ _); refine CallK.lit [] h67 c67 ⟨rfl, trivial⟩ rfl rfl ?_)
      | ((with_reducible show CallK _ _ 68 _ _ _ _); refine CallK.val [] h68 c68 ⟨rfl, rfl, trivial⟩ rfl rfl (noRef_atB _ _) ?_)
      | ((with_reducible show LtK _ _ _ _ _); refine LtK.mk k rfl hkl ?_)
      | ((with_reducible show ElemK _ _ _ _ _); first | refine ElemK.mk (eNode ⟨y1, y2, y3, y4, y5, y6, y7, y8, y9, y10⟩) (by first | exact node_get hy | (rw [Nat.zero_add]; exact node_get hy)) ?_ | refine ElemK.mk _ rfl ?_)
      | ((with_reducible show CallK _ _ 61 _ _ _ _); refine CallK.lend (news := [mHand m l.length 1 (.own 291 0 1), mNodes l', .live 9 [oNote x] false]) [0, 1, 291] [] h61 c61 ⟨⟨rfl, rfl⟩, rfl, rfl, rfl, trivial⟩ ⟨⟨rfl, .inr ⟨⟨⟨⟨rfl, rfl⟩, rfl, .inl rfl, trivial⟩, trivial⟩, rfl⟩⟩, ⟨rfl, .inl ⟨rfl, noRef_nodes _⟩⟩, trivial⟩ rfl ⟨⟨rfl, rfl⟩, rfl⟩ rfl ⟨⟨rfl, .inr ⟨rfl, rfl, rfl⟩⟩, ⟨rfl, .inl ⟨rfl, noRef_nodes _⟩⟩, ⟨rfl, .inl ⟨rfl, rfl⟩⟩, trivial⟩ rfl rfl ?_)
      | ((with_reducible show DrawK _ _ _ _); refine dK ?_)) <;> with_reducible refine wK ?_)
    | ((with_reducible show (_ ∧ _) ∧ _ ∧ _); (refine eK ?_ ?_ <;> with_reducible repeat' (first | exact trivial | (show _ ∧ _; refine aK ?_ ?_)))))
  all_goals first
    | rfl
    | exact ⟨.refl rfl, rfl⟩
    | exact (.inl rfl : NilK _)
    | exact ⟨.refl (noRef_nodes _), noRef_nodes _⟩
    | trace_state
theorem unsetC_no (l : List NodeM) (m : Int) (hs : SmallN l) (k : Nat) (y : NodeM) (hy : l[k]? = some y) (s : ByteArray) (hs3 : s.size ≤ 100000) (hr : rightS s = true) (hf : ¬ 0 ≤ findP y.attrs s ∧ ¬ 0 ≤ findP (removeA y.attrs s).1 s) :
    FnOK Tryz.prog 66 [mHand m l.length 1 nilNs, mNodes l] [.ptr 0 0 0, .fptr (eStr s) 0, .fptr (eInt k) 0]
      [mHand m l.length 1 nilNs, mNodes (attL l k (removeA y.attrs s).1)] noErr := by
  have hl := hs.attrs y (List.mem_of_getElem? hy)
  have hkl : k < l.length := (List.getElem?_eq_some_iff.1 hy).1
  have hlm : (l.map oNode).length = l.length := List.length_map ..
  have h67 := f67_ok s
  have h68 := f68_ok y.attrs (by omega) s
  rw [hr] at h67
  have h61 := change_no l m hs k y hy s hs3 (removeA y.attrs s).1 (by have := removeA_len y.attrs s; omega) hf
  have ha : (attL l k (removeA y.attrs s).1).length = l.length := len_att ..
  generalize attL l k (removeA y.attrs s).1 = l' at h61 ha ⊢
  obtain ⟨y1, y2, y3, y4, y5, y6, y7, y8, y9, y10⟩ := y
  simp only at *
  refine FnOK.startN [] (rvs := [.tmp 4]) G G_good Tryz.func66 rfl Tryz.ntmps66 rfl rfl ?_; with_reducible refine wD ?_
  repeat' (first
    | refine gK ?_
    | ((first
      | ((with_reducible show CallK _ _ 67 _ _ _ _); refine CallK.lit [] h67 c67 ⟨rfl, trivial⟩ rfl rfl ?_)
      | ((with_reducible show CallK _ _ 68 _ _ _ _); refine CallK.val [] h68 c68 ⟨rfl, rfl, trivial⟩ rfl rfl (noRef_atB _ _) ?_)
      | ((with_reducible show LtK _ _ _ _ _); refine LtK.mk k rfl hkl ?_)
      | ((with_reducible show ElemK _ _ _ _ _); first | refine ElemK.mk (eNode ⟨y1, y2, y3, y4, y5, y6, y7, y8, y9, y10⟩) (by first | exact node_get hy | (rw [Nat.zero_add]; exact node_get hy)) ?_ | refine ElemK.mk _ rfl ?_)
      | ((with_reducible show CallK _ _ 61 _ _ _ _); refine CallK.lend (news := [mHand m l.length 1 nilNs, mNodes l']) [0, 1] [] h61 c61 ⟨⟨rfl, rfl⟩, rfl, rfl, rfl, trivial⟩ ⟨⟨rfl, .inr ⟨⟨⟨⟨rfl, rfl⟩, rfl, .inl rfl, trivial⟩, trivial⟩, rfl⟩⟩, ⟨rfl, .inl ⟨rfl, noRef_nodes _⟩⟩, trivial⟩ rfl ⟨⟨rfl, rfl⟩, rfl⟩ rfl ⟨⟨rfl, .inr ⟨rfl, rfl, rfl⟩⟩, ⟨rfl, .inl ⟨rfl, noRef_nodes _⟩⟩, trivial⟩ rfl rfl ?_)
      | ((with_reducible show DrawK _ _ _ _); refine dK ?_)) <;> with_reducible refine wK ?_)
    | ((with_reducible show (_ ∧ _) ∧ _ ∧ _); (refine eK ?_ ?_ <;> with_reducible repeat' (first | exact trivial | (show _ ∧ _; refine aK ?_ ?_)))))
  all_goals first
    | rfl
    | exact ⟨.refl rfl, rfl⟩
    | exact (.inl rfl : NilK _)
    | exact ⟨.refl (noRef_nodes _), noRef_nodes _⟩
    | trace_state
theorem unsetC_err (l : List NodeM) (m : Int) (hs : SmallN l) (k : Nat) (y : NodeM) (hy : l[k]? = some y) (s : ByteArray) (hs3 : s.size ≤ 100000) (hr : rightS s = false) :
    FnOK Tryz.prog 66 [mHand m l.length 1 nilNs, mNodes l] [.ptr 0 0 0, .fptr (eStr s) 0, .fptr (eInt k) 0]
      [mHand m l.length 1 nilNs, mNodes l] (.lit (stepV unsetWd 4)) := by
  have hl := hs.attrs y (List.mem_of_getElem? hy)
  have hkl : k < l.length := (List.getElem?_eq_some_iff.1 hy).1
  have hlm : (l.map oNode).length = l.length := List.length_map ..
  have h67 := f67_ok s
  have h68 := f68_ok y.attrs (by omega) s
  rw [hr] at h67
  have h60 := refused1 unsetWd 4 (by decide)
  obtain ⟨y1, y2, y3, y4, y5, y6, y7, y8, y9, y10⟩ := y
  simp only at *
  refine FnOK.startN [] (rvs := [.tmp 4]) G G_good Tryz.func66 rfl Tryz.ntmps66 rfl rfl ?_; with_reducible refine wD ?_
  repeat' (first
    | refine gK ?_
    | ((first
      | ((with_reducible show CallK _ _ 67 _ _ _ _); refine CallK.lit [] h67 c67 ⟨rfl, trivial⟩ rfl rfl ?_)
      | ((with_reducible show CallK _ _ 68 _ _ _ _); refine CallK.val [] h68 c68 ⟨rfl, rfl, trivial⟩ rfl rfl (noRef_atB _ _) ?_)
      | ((with_reducible show LtK _ _ _ _ _); refine LtK.mk k rfl hkl ?_)
      | ((with_reducible show ElemK _ _ _ _ _); first | refine ElemK.mk (eNode ⟨y1, y2, y3, y4, y5, y6, y7, y8, y9, y10⟩) (by first | exact node_get hy | (rw [Nat.zero_add]; exact node_get hy)) ?_ | refine ElemK.mk _ rfl ?_)
      | ((with_reducible show CallK _ _ 60 _ _ _ _); refine CallK.lit [] h60 c60 ⟨rfl, rfl, trivial⟩ rfl rfl ?_)
      | ((with_reducible show DrawK _ _ _ _); refine dK ?_)) <;> with_reducible refine wK ?_)
    | ((with_reducible show (_ ∧ _) ∧ _ ∧ _); (refine eK ?_ ?_ <;> with_reducible repeat' (first | exact trivial | (show _ ∧ _; refine aK ?_ ?_)))))
  all_goals first
    | rfl
    | exact ⟨.refl rfl, rfl⟩
    | exact (.inl rfl : NilK _)
    | exact ⟨.refl (noRef_nodes _), noRef_nodes _⟩
    | trace_state
theorem frz_w {m : ML} {fz : Nat → Bool} {tab : List (Nat × Nat)} {n t len wd : Nat} {ro : Bool} {rows rows' : List AV} (h1 : lkM m t = .live wd rows ro) (h2 : fz t = true) (h3 : rows = rows') (h4 : len = rows'.length) (h5 : noRefL rows' = true) : FrzK m fz (MF tab fz m n) (.sl wd rows') t 0 len := by
  subst h3; subst h4
  exact .cut h1 h2 (by omega) (by rw [List.drop_zero, List.take_of_length_le (by omega)]) h5
@[reducible] def eNs (l : List NoteM) : AV := .sl 9 (l.map oNote)
theorem done_told (f : ForM) (hs : SmallN f.nodes) (g : Nat) (cg : Callable Tryz.prog g) (caps : List AV) (hcaps : noRefL caps = true) (l' : List NodeM) (x : NoteM) (hl : l'.length = f.nodes.length) (hg : FnOK Tryz.prog g [mHand f.most f.nodes.length 1 nilNs, mNodes f.nodes] (.ptr 0 0 0 :: caps) [mHand f.most f.nodes.length 1 (.own 2 0 1), mNodes l', .live 9 [oNote x] false] noErr) :
    FnOK Tryz.prog 56 [] [eFor f, noErr, .clo (.func g) [] caps] [] (.tup [eFor ⟨l', f.most⟩, eNs [x], eInt 0]) := by
  have h121 := f121_fr f hs
  have hlm : (l'.map oNode).length = f.nodes.length := by rw [List.length_map, hl]
  obtain ⟨l, m⟩ := f
  simp only at *
  refine FnOK.startC (rvs := [.cell 6 24, .tmp 7, .tmp 8]) G G_good Tryz.func56 rfl Tryz.ntmps56 rfl rfl ?_; with_reducible refine wD ?_
  repeat' (first
    | refine gK ?_
    | ((first
      | ((with_reducible show CallK _ _ 121 _ _ _ _); refine CallK.lend (news := [mHand m l.length 111 nilNs, mNodes l]) [110, 111] [] h121 c121 ⟨⟨rfl, rfl, trivial⟩, trivial⟩ trivial rfl ⟨⟨rfl, rfl⟩, rfl⟩ rfl ⟨⟨rfl, .inr ⟨rfl, rfl, rfl⟩⟩, ⟨rfl, .inl ⟨rfl, noRef_nodes _⟩⟩, trivial⟩ rfl rfl ?_)
      | ((with_reducible show HandK _ _ _ _ _); first | refine HandK.nilEq true Tryz.underlying98 rfl rfl rfl rfl rfl ?_ | refine HandK.nilEq false Tryz.underlying98 rfl rfl rfl rfl rfl ?_ | refine HandK.nilNe false Tryz.underlying98 rfl rfl rfl rfl rfl ?_ | refine HandK.nilNe true Tryz.underlying98 rfl rfl rfl rfl rfl ?_)
      | ((with_reducible show CallK _ _ 122 _ _ _ _); refine CallK.lit [] h122 c122 ⟨⟨rfl, rfl⟩, trivial⟩ rfl rfl ?_)
      | ((with_reducible show CallK _ _ _ _ _ _ _); refine CallK.lend (news := [mHand m l.length 111 (.own 161 0 1), mNodes l', .live 9 [oNote x] false]) [110, 111, 161] [] hg cg ⟨⟨rfl, rfl⟩, MFL_refl hcaps⟩ ⟨⟨rfl, .inr ⟨⟨⟨⟨rfl, rfl⟩, rfl, .inl rfl, trivial⟩, trivial⟩, rfl⟩⟩, ⟨rfl, .inl ⟨rfl, noRef_nodes _⟩⟩, trivial⟩ rfl ⟨⟨rfl, rfl⟩, rfl⟩ rfl ⟨⟨rfl, .inr ⟨rfl, rfl, rfl⟩⟩, ⟨rfl, .inl ⟨rfl, noRef_nodes _⟩⟩, ⟨rfl, .inl ⟨rfl, rfl⟩⟩, trivial⟩ rfl rfl ?_)
      | ((with_reducible show DrawK _ _ _ _); refine dK ?_)) <;> with_reducible refine wK ?_)
    | ((with_reducible show (_ ∧ _) ∧ _ ∧ _); (refine eK ?_ ?_ <;> with_reducible repeat' (first | exact trivial | (show _ ∧ _; refine aK ?_ ?_)))))
  all_goals first
    | rfl
    | exact frz_w rfl rfl rfl hlm.symm (noRef_nodes _)
    | exact frz_w rfl rfl rfl rfl rfl
    | exact ⟨.refl rfl, rfl⟩
    | exact (.inl rfl : NilK _)
    | exact .inr (.inr ⟨9, rfl⟩)
    | trace_state
theorem done_quiet (f : ForM) (hs : SmallN f.nodes) (g : Nat) (cg : Callable Tryz.prog g) (caps : List AV) (hcaps : noRefL caps = true) (l' : List NodeM) (hl : l'.length = f.nodes.length) (hg : FnOK Tryz.prog g [mHand f.most f.nodes.length 1 nilNs, mNodes f.nodes] (.ptr 0 0 0 :: caps) [mHand f.most f.nodes.length 1 nilNs, mNodes l'] noErr) :
    FnOK Tryz.prog 56 [] [eFor f, noErr, .clo (.func g) [] caps] [] (.tup [eFor ⟨l', f.most⟩, eNs [], eInt 0]) := by
  have h121 := f121_fr f hs
  have hlm : (l'.map oNode).length = f.nodes.length := by rw [List.length_map, hl]
  obtain ⟨l, m⟩ := f
  simp only at *
  refine FnOK.startC (rvs := [.cell 6 24, .tmp 7, .tmp 8]) G G_good Tryz.func56 rfl Tryz.ntmps56 rfl rfl ?_; with_reducible refine wD ?_
  repeat' (first
    | refine gK ?_
    | ((first
      | ((with_reducible show CallK _ _ 121 _ _ _ _); refine CallK.lend (news := [mHand m l.length 111 nilNs, mNodes l]) [110, 111] [] h121 c121 ⟨⟨rfl, rfl, trivial⟩, trivial⟩ trivial rfl ⟨⟨rfl, rfl⟩, rfl⟩ rfl ⟨⟨rfl, .inr ⟨rfl, rfl, rfl⟩⟩, ⟨rfl, .inl ⟨rfl, noRef_nodes _⟩⟩, trivial⟩ rfl rfl ?_)
      | ((with_reducible show HandK _ _ _ _ _); first | refine HandK.nilEq true Tryz.underlying98 rfl rfl rfl rfl rfl ?_ | refine HandK.nilEq false Tryz.underlying98 rfl rfl rfl rfl rfl ?_ | refine HandK.nilNe false Tryz.underlying98 rfl rfl rfl rfl rfl ?_ | refine HandK.nilNe true Tryz.underlying98 rfl rfl rfl rfl rfl ?_)
      | ((with_reducible show CallK _ _ 122 _ _ _ _); refine CallK.lit [] h122 c122 ⟨⟨rfl, rfl⟩, trivial⟩ rfl rfl ?_)
      | ((with_reducible show CallK _ _ _ _ _ _ _); refine CallK.lend (news := [mHand m l.length 111 nilNs, mNodes l']) [110, 111] [] hg cg ⟨⟨rfl, rfl⟩, MFL_refl hcaps⟩ ⟨⟨rfl, .inr ⟨⟨⟨⟨rfl, rfl⟩, rfl, .inl rfl, trivial⟩, trivial⟩, rfl⟩⟩, ⟨rfl, .inl ⟨rfl, noRef_nodes _⟩⟩, trivial⟩ rfl ⟨⟨rfl, rfl⟩, rfl⟩ rfl ⟨⟨rfl, .inr ⟨rfl, rfl, rfl⟩⟩, ⟨rfl, .inl ⟨rfl, noRef_nodes _⟩⟩, trivial⟩ rfl rfl ?_)
      | ((with_reducible show DrawK _ _ _ _); refine dK ?_)) <;> with_reducible refine wK ?_)
    | ((with_reducible show (_ ∧ _) ∧ _ ∧ _); (refine eK ?_ ?_ <;> with_reducible repeat' (first | exact trivial | (show _ ∧ _; refine aK ?_ ?_)))))
  all_goals first
    | rfl
    | exact frz_w rfl rfl rfl hlm.symm (noRef_nodes _)
    | exact frz_w rfl rfl rfl rfl rfl
    | exact ⟨.refl rfl, rfl⟩
    | exact (.inl rfl : NilK _)
    | exact .inr (.inr ⟨9, rfl⟩)
    | trace_state
theorem done_err (f : ForM) (hs : SmallN f.nodes) (g : Nat) (cg : Callable Tryz.prog g) (caps : List AV) (hcaps : noRefL caps = true) (what : ByteArray) (e : Int) (hg : FnOK Tryz.prog g [mHand f.most f.nodes.length 1 nilNs, mNodes f.nodes] (.ptr 0 0 0 :: caps) [mHand f.most f.nodes.length 1 nilNs, mNodes f.nodes] (.lit (stepV what e))) :
    FnOK Tryz.prog 56 [] [eFor f, noErr, .clo (.func g) [] caps] [] (.tup [eFor f, eNs [], eInt e]) := by
  have h121 := f121_fr f hs
  have h122 := why_ok what e
  obtain ⟨l, m⟩ := f
  simp only at *
  refine FnOK.startC (rvs := [.cell 6 24, .tmp 7, .tmp 8]) G G_good Tryz.func56 rfl Tryz.ntmps56 rfl rfl ?_; with_reducible refine wD ?_
  repeat' (first
    | refine gK ?_
    | ((first
      | ((with_reducible show CallK _ _ 121 _ _ _ _); refine CallK.lend (news := [mHand m l.length 111 nilNs, mNodes l]) [110, 111] [] h121 c121 ⟨⟨rfl, rfl, trivial⟩, trivial⟩ trivial rfl ⟨⟨rfl, rfl⟩, rfl⟩ rfl ⟨⟨rfl, .inr ⟨rfl, rfl, rfl⟩⟩, ⟨rfl, .inl ⟨rfl, noRef_nodes _⟩⟩, trivial⟩ rfl rfl ?_)
      | ((with_reducible show HandK _ _ _ _ _); first | refine HandK.nilEq true Tryz.underlying98 rfl rfl rfl rfl rfl ?_ | refine HandK.nilEq false Tryz.underlying98 rfl rfl rfl rfl rfl ?_ | refine HandK.nilNe false Tryz.underlying98 rfl rfl rfl rfl rfl ?_ | refine HandK.nilNe true Tryz.underlying98 rfl rfl rfl rfl rfl ?_)
      | ((with_reducible show CallK _ _ 122 _ _ _ _); refine CallK.lit [] h122 c122 ⟨⟨rfl, rfl⟩, trivial⟩ rfl rfl ?_)
      | ((with_reducible show CallK _ _ _ _ _ _ _); refine CallK.lend (news := [mHand m l.length 111 nilNs, mNodes l]) [110, 111] [] hg cg ⟨⟨rfl, rfl⟩, MFL_refl hcaps⟩ ⟨⟨rfl, .inr ⟨⟨⟨⟨rfl, rfl⟩, rfl, .inl rfl, trivial⟩, trivial⟩, rfl⟩⟩, ⟨rfl, .inl ⟨rfl, noRef_nodes _⟩⟩, trivial⟩ rfl ⟨⟨rfl, rfl⟩, rfl⟩ rfl ⟨⟨rfl, .inr ⟨rfl, rfl, rfl⟩⟩, ⟨rfl, .inl ⟨rfl, noRef_nodes _⟩⟩, trivial⟩ rfl rfl ?_)
      | ((with_reducible show DrawK _ _ _ _); refine dK ?_)) <;> with_reducible refine wK ?_)
    | ((with_reducible show (_ ∧ _) ∧ _ ∧ _); (refine eK ?_ ?_ <;> with_reducible repeat' (first | exact trivial | (show _ ∧ _; refine aK ?_ ?_)))))
  all_goals first
    | rfl
    | exact frz_w rfl rfl rfl hlm.symm (noRef_nodes _)
    | exact frz_w rfl rfl rfl rfl rfl
    | exact ⟨.refl rfl, rfl⟩
    | exact (.inl rfl : NilK _)
    | exact .inr (.inr ⟨9, rfl⟩)
    | trace_state
theorem done_bad (f : ForM) (hs : SmallN f.nodes) (g : Nat) (caps : List AV) (what : ByteArray) (e : Int)  :
    FnOK Tryz.prog 56 [] [eFor f, .lit (stepV what e), .clo (.func g) [] caps] [] (.tup [eFor f, eNs [], eInt e]) := by
  have h121 := f121_fr f hs
  have h122 := why_ok what e
  obtain ⟨l, m⟩ := f
  simp only at *
  refine FnOK.startC (rvs := [.cell 6 24, .tmp 7, .tmp 8]) G G_good Tryz.func56 rfl Tryz.ntmps56 rfl rfl ?_; with_reducible refine wD ?_
  repeat' (first
    | refine gK ?_
    | ((first
      | ((with_reducible show CallK _ _ 121 _ _ _ _); refine CallK.lend (news := [mHand m l.length 111 nilNs, mNodes l]) [110, 111] [] h121 c121 ⟨⟨rfl, rfl, trivial⟩, trivial⟩ trivial rfl ⟨⟨rfl, rfl⟩, rfl⟩ rfl ⟨⟨rfl, .inr ⟨rfl, rfl, rfl⟩⟩, ⟨rfl, .inl ⟨rfl, noRef_nodes _⟩⟩, trivial⟩ rfl rfl ?_)
      | ((with_reducible show HandK _ _ _ _ _); first | refine HandK.nilEq true Tryz.underlying98 rfl rfl rfl rfl rfl ?_ | refine HandK.nilEq false Tryz.underlying98 rfl rfl rfl rfl rfl ?_ | refine HandK.nilNe false Tryz.underlying98 rfl rfl rfl rfl rfl ?_ | refine HandK.nilNe true Tryz.underlying98 rfl rfl rfl rfl rfl ?_)
      | ((with_reducible show CallK _ _ 122 _ _ _ _); refine CallK.lit [] h122 c122 ⟨⟨rfl, rfl⟩, trivial⟩ rfl rfl ?_)
      | ((with_reducible show DrawK _ _ _ _); refine dK ?_)) <;> with_reducible refine wK ?_)
    | ((with_reducible show (_ ∧ _) ∧ _ ∧ _); (refine eK ?_ ?_ <;> with_reducible repeat' (first | exact trivial | (show _ ∧ _; refine aK ?_ ?_)))))
  all_goals first
    | rfl
    | exact frz_w rfl rfl rfl hlm.symm (noRef_nodes _)
    | exact frz_w rfl rfl rfl rfl rfl
    | exact ⟨.refl rfl, rfl⟩
    | exact (.inl rfl : NilK _)
    | exact .inr (.inr ⟨9, rfl⟩)
    | trace_state
theorem noRef_done (f : ForM) (ns : List NoteM) (e : Int) : noRef (.tup [eFor f, eNs ns, eInt e]) = true := by
  have h1 := noRef_nodes f.nodes
  have h2 : noRefL (ns.map oNote) = true := noRefL_map oNote (fun _ => rfl) _
  simp [noRef, noRefL, h1, h2]
theorem set_yes (f : ForM) (n : Int) (s v : ByteArray)  (r : ForM) (ns : List NoteM) (z : Int) (h57 : FnOK Tryz.prog 57 [] [eFor f, eInt n] [] noErr)
    (h56 : FnOK Tryz.prog 56 [] [eFor f, noErr, .clo (.func 58) [] [.fptr (eInt n) 0, .fptr (eStr s) 0, .fptr (eStr v) 0]] [] (.tup [eFor r, eNs ns, eInt z])) : FnOK Tryz.prog 18 [] [eFor f, eInt n, eStr s, eStr v] [] (.tup [eFor r, eNs ns, eInt z]) := by
  obtain ⟨l, m⟩ := f
  obtain ⟨l', m'⟩ := r
  have hn := noRef_done ⟨l', m'⟩ ns z
  refine FnOK.startC (rvs := [.cell 8 24, .tmp 9, .tmp 10]) G G_good Tryz.func18 rfl Tryz.ntmps18 rfl rfl ?_; with_reducible refine wD ?_
  repeat' (first
    | refine gK ?_
    | ((first
      | ((with_reducible show CallK _ _ 57 _ _ _ _); refine CallK.lit [] h57 c57 ⟨⟨rfl, rfl, trivial⟩, rfl, trivial⟩ rfl rfl ?_)
      | ((with_reducible show CallK _ _ 56 _ _ _ _); refine CallK.val [50, 60, 70] h56 c56 ⟨⟨rfl, rfl, trivial⟩, ⟨rfl, rfl⟩, ⟨rfl, trivial, ⟨_, _, _, _, _, rfl, rfl, rfl, rfl, rfl, rfl⟩, ⟨_, _, _, _, _, rfl, rfl, rfl, rfl, rfl, rfl⟩, ⟨_, _, _, _, _, rfl, rfl, rfl, rfl, rfl, rfl⟩, trivial⟩, trivial⟩ rfl rfl hn ?_)
      | ((with_reducible show DrawK _ _ _ _); refine dK ?_)) <;> with_reducible refine wK ?_)
    | ((with_reducible show (_ ∧ _) ∧ _ ∧ _); (refine eK ?_ ?_ <;> with_reducible repeat' (first | exact trivial | (show _ ∧ _; refine aK ?_ ?_)))))
  all_goals first | rfl | trace_state
theorem set_bad (f : ForM) (n : Int) (s v : ByteArray) (what : ByteArray) (e : Int) (r : ForM) (ns : List NoteM) (z : Int) (h57 : FnOK Tryz.prog 57 [] [eFor f, eInt n] [] (.lit (stepV what e)))
    (h56 : FnOK Tryz.prog 56 [] [eFor f, (.lit (stepV what e)), .clo (.func 58) [] [.fptr (eInt n) 0, .fptr (eStr s) 0, .fptr (eStr v) 0]] [] (.tup [eFor r, eNs ns, eInt z])) : FnOK Tryz.prog 18 [] [eFor f, eInt n, eStr s, eStr v] [] (.tup [eFor r, eNs ns, eInt z]) := by
  obtain ⟨l, m⟩ := f
  obtain ⟨l', m'⟩ := r
  have hn := noRef_done ⟨l', m'⟩ ns z
  refine FnOK.startC (rvs := [.cell 8 24, .tmp 9, .tmp 10]) G G_good Tryz.func18 rfl Tryz.ntmps18 rfl rfl ?_; with_reducible refine wD ?_
  repeat' (first
    | refine gK ?_
    | ((first
      | ((with_reducible show CallK _ _ 57 _ _ _ _); refine CallK.lit [] h57 c57 ⟨⟨rfl, rfl, trivial⟩, rfl, trivial⟩ rfl rfl ?_)
      | ((with_reducible show CallK _ _ 56 _ _ _ _); refine CallK.val [50, 60, 70] h56 c56 ⟨⟨rfl, rfl, trivial⟩, ⟨rfl, rfl⟩, ⟨rfl, trivial, ⟨_, _, _, _, _, rfl, rfl, rfl, rfl, rfl, rfl⟩, ⟨_, _, _, _, _, rfl, rfl, rfl, rfl, rfl, rfl⟩, ⟨_, _, _, _, _, rfl, rfl, rfl, rfl, rfl, rfl⟩, trivial⟩, trivial⟩ rfl rfl hn ?_)
      | ((with_reducible show DrawK _ _ _ _); refine dK ?_)) <;> with_reducible refine wK ?_)
    | ((with_reducible show (_ ∧ _) ∧ _ ∧ _); (refine eK ?_ ?_ <;> with_reducible repeat' (first | exact trivial | (show _ ∧ _; refine aK ?_ ?_)))))
  all_goals first | rfl | trace_state
theorem unset_yes (f : ForM) (n : Int) (s : ByteArray)  (r : ForM) (ns : List NoteM) (z : Int) (h57 : FnOK Tryz.prog 57 [] [eFor f, eInt n] [] noErr)
    (h56 : FnOK Tryz.prog 56 [] [eFor f, noErr, .clo (.func 66) [] [.fptr (eStr s) 0, .fptr (eInt n) 0]] [] (.tup [eFor r, eNs ns, eInt z])) : FnOK Tryz.prog 24 [] [eFor f, eInt n, eStr s] [] (.tup [eFor r, eNs ns, eInt z]) := by
  obtain ⟨l, m⟩ := f
  obtain ⟨l', m'⟩ := r
  have hn := noRef_done ⟨l', m'⟩ ns z
  refine FnOK.startC (rvs := [.cell 6 24, .tmp 7, .tmp 8]) G G_good Tryz.func24 rfl Tryz.ntmps24 rfl rfl ?_; with_reducible refine wD ?_
  repeat' (first
    | refine gK ?_
    | ((first
      | ((with_reducible show CallK _ _ 57 _ _ _ _); refine CallK.lit [] h57 c57 ⟨⟨rfl, rfl, trivial⟩, rfl, trivial⟩ rfl rfl ?_)
      | ((with_reducible show CallK _ _ 56 _ _ _ _); refine CallK.val [50, 40] h56 c56 ⟨⟨rfl, rfl, trivial⟩, ⟨rfl, rfl⟩, ⟨rfl, trivial, ⟨_, _, _, _, _, rfl, rfl, rfl, rfl, rfl, rfl⟩, ⟨_, _, _, _, _, rfl, rfl, rfl, rfl, rfl, rfl⟩, trivial⟩, trivial⟩ rfl rfl hn ?_)
      | ((with_reducible show DrawK _ _ _ _); refine dK ?_)) <;> with_reducible refine wK ?_)
    | ((with_reducible show (_ ∧ _) ∧ _ ∧ _); (refine eK ?_ ?_ <;> with_reducible repeat' (first | exact trivial | (show _ ∧ _; refine aK ?_ ?_)))))
  all_goals first | rfl | trace_state
theorem unset_bad (f : ForM) (n : Int) (s : ByteArray) (what : ByteArray) (e : Int) (r : ForM) (ns : List NoteM) (z : Int) (h57 : FnOK Tryz.prog 57 [] [eFor f, eInt n] [] (.lit (stepV what e)))
    (h56 : FnOK Tryz.prog 56 [] [eFor f, (.lit (stepV what e)), .clo (.func 66) [] [.fptr (eStr s) 0, .fptr (eInt n) 0]] [] (.tup [eFor r, eNs ns, eInt z])) : FnOK Tryz.prog 24 [] [eFor f, eInt n, eStr s] [] (.tup [eFor r, eNs ns, eInt z]) := by
  obtain ⟨l, m⟩ := f
  obtain ⟨l', m'⟩ := r
  have hn := noRef_done ⟨l', m'⟩ ns z
  refine FnOK.startC (rvs := [.cell 6 24, .tmp 7, .tmp 8]) G G_good Tryz.func24 rfl Tryz.ntmps24 rfl rfl ?_; with_reducible refine wD ?_
  repeat' (first
    | refine gK ?_
    | ((first
      | ((with_reducible show CallK _ _ 57 _ _ _ _); refine CallK.lit [] h57 c57 ⟨⟨rfl, rfl, trivial⟩, rfl, trivial⟩ rfl rfl ?_)
      | ((with_reducible show CallK _ _ 56 _ _ _ _); refine CallK.val [50, 40] h56 c56 ⟨⟨rfl, rfl, trivial⟩, ⟨rfl, rfl⟩, ⟨rfl, trivial, ⟨_, _, _, _, _, rfl, rfl, rfl, rfl, rfl, rfl⟩, ⟨_, _, _, _, _, rfl, rfl, rfl, rfl, rfl, rfl⟩, trivial⟩, trivial⟩ rfl rfl hn ?_)
      | ((with_reducible show DrawK _ _ _ _); refine dK ?_)) <;> with_reducible refine wK ?_)
    | ((with_reducible show (_ ∧ _) ∧ _ ∧ _); (refine eK ?_ ?_ <;> with_reducible repeat' (first | exact trivial | (show _ ∧ _; refine aK ?_ ?_)))))
  all_goals first | rfl | trace_state
theorem f18_ok (f : ForM) (hs : SmallN f.nodes) (n : Int) (s v : ByteArray) (hs3 : s.size ≤ 100000) : FnOK Tryz.prog 18 [] [eFor f, eInt n, eStr s, eStr v] [] (.tup [eFor (setM f n s v).1, eNs (setM f n s v).2.1, eInt (setM f n s v).2.2]) := by
  cases ht : (rightF f && thereN f.nodes n) with
  | false =>
    have e : setM f n s v = (f, [], 1) := by unfold setM elemE; rw [ht]; rfl
    rw [e]
    exact set_bad f n s v askedW 1 f [] 1 (elem_no f hs n ht) (done_bad f hs 58 _ askedW 1)
  | true =>
    simp only [Bool.and_eq_true] at ht
    obtain ⟨hr, ht⟩ := ht
    obtain ⟨k, y, rfl, hy, _⟩ := there_iff.1 ht
    have hnd := nd_get hy
    by_cases hk : y.kind = 1
    · have he0 : elemE f k = 0 := by unfold elemE; rw [hr, ht, hnd, hk]; rfl
      have h57 := elem_yes f hs k y hy hr hk
      by_cases he : (setA y.attrs s v).2 = 0
      · have e : setM f k s v = (⟨attL f.nodes k (setA y.attrs s v).1, f.most⟩, [chNote y k s (setA y.attrs s v).1], 0) := by
          unfold setM; rw [he0, hnd]; simp only [he, ne_eq, not_true, if_false]
          unfold changeM changeN; rw [hnd, if_pos (.inr (set_found he))]
        rw [e]
        exact set_yes f k s v _ _ _ h57 (done_told f hs 58 c58 _ rfl _ _ (len_att ..) (setC_ok f.nodes f.most hs k y hy s v hs3 he))
      · have e : setM f k s v = (f, [], (setA y.attrs s v).2) := by
          unfold setM; rw [he0, hnd]; simp [he]
        rw [e]
        exact set_yes f k s v _ _ _ h57 (done_err f hs 58 c58 _ rfl setWd _ (setC_err f.nodes f.most hs k y hy s v hs3 he))
    · have e : setM f k s v = (f, [], 5) := by
        have : elemE f k = 5 := by unfold elemE; rw [hr, ht, hnd]; simp [hk]
        unfold setM; rw [this]; rfl
      rw [e]
      exact set_bad f k s v elemWd 5 f [] 5 (elem_kind f hs k y hy hr hk) (done_bad f hs 58 _ elemWd 5)
theorem f24_ok (f : ForM) (hs : SmallN f.nodes) (n : Int) (s : ByteArray) (hs3 : s.size ≤ 100000) : FnOK Tryz.prog 24 [] [eFor f, eInt n, eStr s] [] (.tup [eFor (unsetM f n s).1, eNs (unsetM f n s).2.1, eInt (unsetM f n s).2.2]) := by
  cases ht : (rightF f && thereN f.nodes n) with
  | false =>
    have e : unsetM f n s = (f, [], 1) := by unfold unsetM elemE; rw [ht]; rfl
    rw [e]
    exact unset_bad f n s askedW 1 f [] 1 (elem_no f hs n ht) (done_bad f hs 66 _ askedW 1)
  | true =>
    simp only [Bool.and_eq_true] at ht
    obtain ⟨hr, ht⟩ := ht
    obtain ⟨k, y, rfl, hy, _⟩ := there_iff.1 ht
    have hnd := nd_get hy
    by_cases hk : y.kind = 1
    · have he0 : elemE f k = 0 := by unfold elemE; rw [hr, ht, hnd, hk]; rfl
      have h57 := elem_yes f hs k y hy hr hk
      by_cases he : rightS s = true
      · have e : unsetM f k s = changeM f k s (removeA y.attrs s).1 := by
          unfold unsetM; rw [he0, hnd, he]; rfl
        rw [e]
        unfold changeM changeN
        rw [hnd]
        by_cases hf : 0 ≤ findP y.attrs s ∨ 0 ≤ findP (removeA y.attrs s).1 s
        · rw [if_pos hf]
          exact unset_yes f k s _ _ _ h57 (done_told f hs 66 c66 _ rfl _ _ (len_att ..) (unsetC_yes f.nodes f.most hs k y hy s hs3 he hf))
        · rw [if_neg hf]
          exact unset_yes f k s _ _ _ h57 (done_quiet f hs 66 c66 _ rfl _ (len_att ..) (unsetC_no f.nodes f.most hs k y hy s hs3 he ⟨fun h => hf (.inl h), fun h => hf (.inr h)⟩))
      · have he := Bool.eq_false_iff.2 he
        have e : unsetM f k s = (f, [], 4) := by
          unfold unsetM; rw [he0, he]; rfl
        rw [e]
        exact unset_yes f k s _ _ _ h57 (done_err f hs 66 c66 _ rfl unsetWd _ (unsetC_err f.nodes f.most hs k y hy s hs3 he))
    · have e : unsetM f k s = (f, [], 5) := by
        have : elemE f k = 5 := by unfold elemE; rw [hr, ht, hnd]; simp [hk]
        unfold unsetM; rw [this]; rfl
      rw [e]
      exact unset_bad f k s elemWd 5 f [] 5 (elem_kind f hs k y hy hr hk) (done_bad f hs 66 _ elemWd 5)
end Go.Proofs.Heir
