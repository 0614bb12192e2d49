/- Models, plain laws and contracts of functions of the given program; conditions as stated in each theorem. By an AI agent. -/
import Derived.Test.YtkhjcnjicjgfiaaGreatDoorW8
import Derived.Test.YtkhjcnjicjgfiaaGreatDoorW9
import Derived.Test.YtkhjcnjicjgfiaaGreatDoorW5
set_option linter.unusedSimpArgs false
set_option linter.unusedVariables false
namespace Go.Proofs.Heir
open Go Go.Am Go.RowKit Go.Lib
set_option maxRecDepth 100000
set_option maxHeartbeats 8000000
@[reducible] def stepV (what : ByteArray) (e : Int) : Value := .iface 178 (.agg #[.string what, .iface 176 (.agg #[.int .i64 e])])
@[reducible] def askedW : ByteArray := ⟨#[97, 115, 107, 101, 100]⟩
@[reducible] def elemWd : ByteArray := ⟨#[101, 108, 101, 109]⟩
@[reducible] def noErr : AV := .lit .nilIface
theorem refused_calls1 (what : ByteArray) (e : Int) (he : e ≠ 0) (w : World) : Calls Tryz.prog 60 #[.string what, .int .i64 e] w fun ev w' => ev = .returned (stepV what e) ∧ w' = w := by
  go_enter Tryz.func60, Tryz.ntmps60
  go_wp2
  go_ret
  exact ⟨rfl, rfl⟩
theorem refused1 (what : ByteArray) (e : Int) (he : e ≠ 0) : FnOK Tryz.prog 60 [] [eStr what, eInt e] [] (.lit (stepV what e)) :=
  FnOK.of_calls (vs := [.string what, .int .i64 e]) fun w _ => (refused_calls1 what e he w).mono (by rintro e w' ⟨rfl, rfl⟩; exact ⟨rfl, Below.refl _ _⟩)
theorem there_yes (f : ForM) (hs : SmallN f.nodes) (n : Int) (h : (rightF f && thereN f.nodes n) = true) : FnOK Tryz.prog 77 [] [eFor f, eInt n] [] noErr := by
  have h17 := f17_ok f hs
  have hr : rightF f = true := by simp only [Bool.and_eq_true] at h; exact h.1
  have ht : thereN f.nodes n = true := by simp only [Bool.and_eq_true] at h; exact h.2
  rw [hr] at h17
  obtain ⟨l, m⟩ := f
  simp only at h17 ht
  have hlm : (l.map oNode).length = l.length := List.length_map ..
  have e0 : ¬ n < 0 := by unfold thereN at ht; simp at ht; omega
  have e1 : ¬ (l.length : Int) ≤ n := by unfold thereN at ht; simp at ht; omega
  refine FnOK.startC (rvs := [.tmp 4]) G G_good Tryz.func77 rfl Tryz.ntmps77 rfl rfl ?_; with_reducible refine wD ?_
  (have fct := And.intro hlm (And.intro e0 (e1)); (repeat' (first
    | refine gF ?_
    | (((with_reducible show CallK _ _ 17 _ _ _ _); refine CallK.lit [] h17 c17 ⟨⟨rfl, rfl, trivial⟩, trivial⟩ rfl rfl ?_) <;> with_reducible refine wK ?_)
    | ((with_reducible show (_ ∧ _) ∧ _ ∧ _); (refine eK ?_ ?_ <;> with_reducible repeat' (first | exact trivial | (show _ ∧ _; refine aK ?_ ?_)))))); all_goals clear fct)
  all_goals rfl
theorem there_no (f : ForM) (hs : SmallN f.nodes) (n : Int) (h : (rightF f && thereN f.nodes n) = false) : FnOK Tryz.prog 77 [] [eFor f, eInt n] [] (.lit (stepV askedW 1)) := by
  have h17 := f17_ok f hs
  have h60 := refused1 askedW 1 (by decide)
  obtain ⟨l, m⟩ := f
  simp only at h h17
  have hlm : (l.map oNode).length = l.length := List.length_map ..
  cases hr : rightF ⟨l, m⟩ with
  | false =>
    rw [hr] at h17
    refine FnOK.startC (rvs := [.tmp 4]) G G_good Tryz.func77 rfl Tryz.ntmps77 rfl rfl ?_; with_reducible refine wD ?_
    (have fct := hlm; (repeat' (first
    | refine gF ?_
    | ((first
      | ((with_reducible show CallK _ _ 17 _ _ _ _); refine CallK.lit [] h17 c17 ⟨⟨rfl, rfl, trivial⟩, trivial⟩ rfl rfl ?_)
      | ((with_reducible show CallK _ _ 60 _ _ _ _); refine CallK.lit [] h60 c60 ⟨rfl, rfl, trivial⟩ rfl rfl ?_)) <;> with_reducible refine wK ?_)
    | ((with_reducible show (_ ∧ _) ∧ _ ∧ _); (refine eK ?_ ?_ <;> with_reducible repeat' (first | exact trivial | (show _ ∧ _; refine aK ?_ ?_)))))); all_goals clear fct)
    all_goals rfl
  | true =>
    have ht : thereN l n = false := by rw [hr] at h; simpa using h
    rw [hr] at h17
    by_cases e0 : n < 0
    · refine FnOK.startC (rvs := [.tmp 4]) G G_good Tryz.func77 rfl Tryz.ntmps77 rfl rfl ?_; with_reducible refine wD ?_
      (have fct := And.intro hlm (e0); (repeat' (first
    | refine gF ?_
    | ((first
      | ((with_reducible show CallK _ _ 17 _ _ _ _); refine CallK.lit [] h17 c17 ⟨⟨rfl, rfl, trivial⟩, trivial⟩ rfl rfl ?_)
      | ((with_reducible show CallK _ _ 60 _ _ _ _); refine CallK.lit [] h60 c60 ⟨rfl, rfl, trivial⟩ rfl rfl ?_)) <;> with_reducible refine wK ?_)
    | ((with_reducible show (_ ∧ _) ∧ _ ∧ _); (refine eK ?_ ?_ <;> with_reducible repeat' (first | exact trivial | (show _ ∧ _; refine aK ?_ ?_)))))); all_goals clear fct)
      all_goals rfl
    · have e1 : (l.length : Int) ≤ n := by unfold thereN at ht; simp at ht; omega
      refine FnOK.startC (rvs := [.tmp 4]) G G_good Tryz.func77 rfl Tryz.ntmps77 rfl rfl ?_; with_reducible refine wD ?_
      (have fct := And.intro hlm (And.intro e0 (e1)); (repeat' (first
    | refine gF ?_
    | ((first
      | ((with_reducible show CallK _ _ 17 _ _ _ _); refine CallK.lit [] h17 c17 ⟨⟨rfl, rfl, trivial⟩, trivial⟩ rfl rfl ?_)
      | ((with_reducible show CallK _ _ 60 _ _ _ _); refine CallK.lit [] h60 c60 ⟨rfl, rfl, trivial⟩ rfl rfl ?_)) <;> with_reducible refine wK ?_)
    | ((with_reducible show (_ ∧ _) ∧ _ ∧ _); (refine eK ?_ ?_ <;> with_reducible repeat' (first | exact trivial | (show _ ∧ _; refine aK ?_ ?_)))))); all_goals clear fct)
      all_goals rfl
theorem elem_yes (f : ForM) (hs : SmallN f.nodes) (k : Nat) (y : NodeM) (hy : f.nodes[k]? = some y) (hr : rightF f = true) (hk : y.kind = 1) : FnOK Tryz.prog 57 [] [eFor f, eInt k] [] noErr := by
  have h77 := there_yes f hs k (by rw [hr, there_get hy]; rfl)
  obtain ⟨l, m⟩ := f
  simp only at h77 hy
  have hkl : k < l.length := (List.getElem?_eq_some_iff.1 hy).1
  have hlm : (l.map oNode).length = l.length := List.length_map ..
  obtain ⟨y1, y2, y3, y4, y5, y6, y7, y8, y9, y10⟩ := y
  simp only at hk
  subst hk
  refine FnOK.startC (rvs := [.tmp 4]) G G_good Tryz.func57 rfl Tryz.ntmps57 rfl rfl ?_; with_reducible refine wD ?_
  (have fct := hlm; (repeat' (first
    | refine gF ?_
    | ((first
      | ((with_reducible show CallK _ _ 77 _ _ _ _); refine CallK.lit [] h77 c77 ⟨⟨rfl, rfl, trivial⟩, rfl, trivial⟩ rfl rfl ?_)
      | ((with_reducible show IdxK _ _ _ _ _); refine IdxK.mk k (eNode ⟨1, y2, y3, y4, y5, y6, y7, y8, y9, y10⟩) rfl (node_get hy) ?_)
      | ((with_reducible show HandK _ _ _ _ _); first | refine HandK.nilEq true Tryz.underlying98 rfl rfl rfl rfl rfl ?_ | refine HandK.nilNe false Tryz.underlying98 rfl rfl rfl rfl rfl ?_)) <;> with_reducible refine wK ?_)
    | ((with_reducible show (_ ∧ _) ∧ _ ∧ _); (refine eK ?_ ?_ <;> with_reducible repeat' (first | exact trivial | (show _ ∧ _; refine aK ?_ ?_)))))); all_goals clear fct)
  all_goals first | rfl | trace_state
theorem elem_kind (f : ForM) (hs : SmallN f.nodes) (k : Nat) (y : NodeM) (hy : f.nodes[k]? = some y) (hr : rightF f = true) (hk : y.kind ≠ 1) : FnOK Tryz.prog 57 [] [eFor f, eInt k] [] (.lit (stepV elemWd 5)) := by
  have h77 := there_yes f hs k (by rw [hr, there_get hy]; rfl)
  have h60 := refused1 elemWd 5 (by decide)
  obtain ⟨l, m⟩ := f
  simp only at h77 hy
  have hkl : k < l.length := (List.getElem?_eq_some_iff.1 hy).1
  have hlm : (l.map oNode).length = l.length := List.length_map ..
  obtain ⟨y1, y2, y3, y4, y5, y6, y7, y8, y9, y10⟩ := y
  simp only at hk
  have hk := decide_eq_false hk
  refine FnOK.startC (rvs := [.tmp 4]) G G_good Tryz.func57 rfl Tryz.ntmps57 rfl rfl ?_; with_reducible refine wD ?_
  (have fct := And.intro hlm (hk); (repeat' (first
    | refine gF ?_
    | ((first
      | ((with_reducible show CallK _ _ 77 _ _ _ _); refine CallK.lit [] h77 c77 ⟨⟨rfl, rfl, trivial⟩, rfl, trivial⟩ rfl rfl ?_)
      | ((with_reducible show CallK _ _ 60 _ _ _ _); refine CallK.lit [] h60 c60 ⟨rfl, rfl, trivial⟩ rfl rfl ?_)
      | ((with_reducible show IdxK _ _ _ _ _); refine IdxK.mk k (eNode ⟨y1, y2, y3, y4, y5, y6, y7, y8, y9, y10⟩) rfl (node_get hy) ?_)
      | ((with_reducible show HandK _ _ _ _ _); first | refine HandK.nilEq true Tryz.underlying98 rfl rfl rfl rfl rfl ?_ | refine HandK.nilNe false Tryz.underlying98 rfl rfl rfl rfl rfl ?_)) <;> with_reducible refine wK ?_)
    | ((with_reducible show (_ ∧ _) ∧ _ ∧ _); (refine eK ?_ ?_ <;> with_reducible repeat' (first | exact trivial | (show _ ∧ _; refine aK ?_ ?_)))))); all_goals clear fct)
  all_goals first | rfl | trace_state
theorem elem_no (f : ForM) (hs : SmallN f.nodes) (n : Int) (h : (rightF f && thereN f.nodes n) = false) : FnOK Tryz.prog 57 [] [eFor f, eInt n] [] (.lit (stepV askedW 1)) := by
  have h77 := there_no f hs n h
  refine FnOK.startC (rvs := [.tmp 4]) G G_good Tryz.func57 rfl Tryz.ntmps57 rfl rfl ?_; with_reducible refine wD ?_
  repeat' (first
    | refine gK ?_
    | ((first
      | ((with_reducible show CallK _ _ 77 _ _ _ _); refine CallK.lit [] h77 c77 ⟨⟨rfl, rfl, trivial⟩, rfl, trivial⟩ rfl rfl ?_)
      | ((with_reducible show HandK _ _ _ _ _); first | refine HandK.nilEq false Tryz.underlying98 rfl rfl rfl rfl rfl ?_ | refine HandK.nilNe true Tryz.underlying98 rfl rfl rfl rfl rfl ?_)) <;> with_reducible refine wK ?_)
    | ((with_reducible show (_ ∧ _) ∧ _ ∧ _); (refine eK ?_ ?_ <;> with_reducible repeat' (first | exact trivial | (show _ ∧ _; refine aK ?_ ?_)))))
  all_goals first | rfl | trace_state
end Go.Proofs.Heir
namespace Go.Proofs.Heir
open Go Go.Am Go.RowKit Go.Lib
set_option maxRecDepth 100000
set_option maxHeartbeats 8000000
set_option maxHeartbeats 8000000
theorem find_at {l : List AttrM} {n : ByteArray} (hr : rightA l = true) (hn : rightS n = true) {k : Nat} {a : AttrM} (h : l[k]? = some a) (e : a.name = lowS n) : findP l n = k := by
  rw [findP_ref hr hn, ← e]; exact posA_atH (rightA_nodup hr) h
theorem set_shape {l : List AttrM} {n v : ByteArray} (h : (setA l n v).2 = 0) : (rightA l = true ∧ rightS n = true ∧ v.size ≤ 200) ∧ ((∃ (k : Nat) (o : AttrM), findP l n = k ∧ l[k]? = some o ∧ o.name = lowS n ∧ (setA l n v).1 = l.set k ⟨lowS n, v⟩) ∨ (¬ 0 ≤ findP l n ∧ l.length ≠ 40 ∧ (setA l n v).1 = l ++ [⟨lowS n, v⟩])) := by
  unfold setA at h ⊢
  by_cases hE : findE l n = 0
  · obtain ⟨h1, h2, _⟩ := findE_zero hE
    rw [if_pos hE] at h ⊢
    by_cases hv : v.size ≤ 200
    · rw [if_pos hv] at h ⊢
      refine ⟨⟨h1, h2, hv⟩, ?_⟩
      by_cases hP : 0 ≤ findP l n
      · rw [if_pos hP]
        rcases findP_cases l n with e | ⟨k, o, e1, e2, e3⟩
        · omega
        · exact .inl ⟨k, o, e1, e2, e3, by rw [e1, Int.toNat_natCast]⟩
      · rw [if_neg hP] at h ⊢
        by_cases hl : l.length = 40
        · rw [if_pos hl] at h; cases h
        · rw [if_neg hl]; exact .inr ⟨hP, hl, rfl⟩
    · rw [if_neg hv] at h; cases h
  · rw [if_neg hE] at h; exact absurd h hE
theorem set_at {l : List AttrM} {n v : ByteArray} (h : (setA l n v).2 = 0) : ∃ k : Nat, (setA l n v).1[k]? = some ⟨lowS n, v⟩ := by
  rcases (set_shape h).2 with ⟨k, o, _, h2, _, h4⟩ | ⟨_, _, h4⟩
  · have := (List.getElem?_eq_some_iff.1 h2).1
    exact ⟨k, by rw [h4, List.getElem?_set, if_pos rfl, if_pos this]⟩
  · exact ⟨l.length, by rw [h4, List.getElem?_append_right (Nat.le_refl _), Nat.sub_self]; rfl⟩
section
variable {l l' : List NodeM} {m : Int}
theorem att_self {n : Int} (hn : thereN l n = true) : attL l n (nd l n).attrs = l := by
  refine nodes_ext (len_att ..) fun x hx => ?_
  rw [nd_att hn hx]
  by_cases e : x = n
  · rw [if_pos e, e]
  · rw [if_neg e]
end
end Go.Proofs.Heir
namespace Go.Proofs.Heir
open Go Go.Am Go.RowKit Go.Lib
set_option maxRecDepth 100000
set_option maxHeartbeats 8000000
set_option maxHeartbeats 2000000
section
variable {l l' : List NodeM} {m : Int}
end
end Go.Proofs.Heir
namespace Go.Proofs.Heir
open Go Go.Am Go.RowKit Go.Lib
set_option maxRecDepth 100000
set_option maxHeartbeats 8000000
@[reducible] def setWd : ByteArray := ⟨#[115, 101, 116]⟩
@[reducible] def unsetWd : ByteArray := ⟨#[117, 110, 115, 101, 116]⟩
@[reducible] def toggleWd : ByteArray := ⟨#[116, 111, 103, 103, 108, 101]⟩
theorem noRef_at2 (xs : List AttrM) (e : Int) : noRef (.tup [eAttrs xs, eInt e]) = true := by
  have := noRef_attrs xs
  simp [noRef, noRefL, this]
theorem noRef_atB (xs : List AttrM) (b : Bool) : noRef (.tup [eAttrs xs, eBool b]) = true := by
  have := noRef_attrs xs
  simp [noRef, noRefL, this]
theorem noRef_at3 (xs : List AttrM) (b : Bool) (e : Int) : noRef (.tup [eAttrs xs, eBool b, eInt e]) = true := by
  have := noRef_attrs xs
  simp [noRef, noRefL, this]
theorem set_found {l : List AttrM} {s v : ByteArray} (he : (setA l s v).2 = 0) : 0 ≤ findP (setA l s v).1 s := by
  obtain ⟨k, hk⟩ := set_at he
  have h1 := (set_ok he).2
  have h2 := (set_shape he).1.2.1
  rw [find_at h1.right h2 hk rfl]
  omega
theorem setC_ok (l : List NodeM) (m : Int) (hs : SmallN l) (k : Nat) (y : NodeM) (hy : l[k]? = some y) (s v : ByteArray) (hs3 : s.size ≤ 100000) (he : (setA y.attrs s v).2 = 0) :
    FnOK Tryz.prog 58 [mHand m l.length 1 nilNs, mNodes l] [.ptr 0 0 0, .fptr (eInt k) 0, .fptr (eStr s) 0, .fptr (eStr v) 0]
      [mHand m l.length 1 (.own 2 0 1), mNodes (attL l k (setA y.attrs s v).1), .live 9 [oNote (chNote y k s (setA y.attrs s v).1)] false] noErr := by
  have hl := hs.attrs y (List.mem_of_getElem? hy)
  have hkl : k < l.length := (List.getElem?_eq_some_iff.1 hy).1
  have hlm : (l.map oNode).length = l.length := List.length_map ..
  have h59 := f59_ok y.attrs (by omega) s v
  have h61 := change_yes l m hs k y hy s hs3 (setA y.attrs s v).1 (by have := setA_len y.attrs s v; omega) (.inr (set_found he))
  rw [he] at h59
  have ha : (attL l k (setA y.attrs s v).1).length = l.length := len_att ..
  generalize attL l k (setA y.attrs s v).1 = l' at h61 ha ⊢
  generalize chNote y k s (setA y.attrs s v).1 = x at h61 ⊢
  obtain ⟨y1, y2, y3, y4, y5, y6, y7, y8, y9, y10⟩ := y
  simp only at *
  refine FnOK.startN [(2, 311)] (rvs := [.tmp 5]) G G_good Tryz.func58 rfl Tryz.ntmps58 rfl rfl ?_; with_reducible refine wD ?_
  repeat' (first
    | refine gK ?_
    | ((first
      | ((with_reducible show CallK _ _ 59 _ _ _ _); refine CallK.val [] h59 c59 ⟨rfl, rfl, rfl, trivial⟩ rfl rfl (noRef_at2 _ _) ?_)
      | ((with_reducible show LtK _ _ _ _ _); refine LtK.mk k rfl hkl ?_)
      | ((with_reducible show ElemK _ _ _ _ _); first | refine ElemK.mk (eNode ⟨y1, y2, y3, y4, y5, y6, y7, y8, y9, y10⟩) (by first | exact node_get hy | (rw [Nat.zero_add]; exact node_get hy)) ?_ | refine ElemK.mk _ rfl ?_)
      | ((with_reducible show CallK _ _ 61 _ _ _ _); refine CallK.lend (news := [mHand m l.length 1 (.own 311 0 1), mNodes l', .live 9 [oNote x] false]) [0, 1, 311] [] h61 c61 ⟨⟨rfl, rfl⟩, rfl, rfl, rfl, trivial⟩ ⟨⟨rfl, .inr ⟨⟨⟨⟨rfl, rfl⟩, rfl, .inl rfl, trivial⟩, trivial⟩, rfl⟩⟩, ⟨rfl, .inl ⟨rfl, noRef_nodes _⟩⟩, trivial⟩ rfl ⟨⟨rfl, rfl⟩, rfl⟩ rfl ⟨⟨rfl, .inr ⟨rfl, rfl, rfl⟩⟩, ⟨rfl, .inl ⟨rfl, noRef_nodes _⟩⟩, ⟨rfl, .inl ⟨rfl, rfl⟩⟩, trivial⟩ rfl rfl ?_)
      | ((with_reducible show DrawK _ _ _ _); refine dK ?_)) <;> with_reducible refine wK ?_)
    | ((with_reducible show (_ ∧ _) ∧ _ ∧ _); (refine eK ?_ ?_ <;> with_reducible repeat' (first | exact trivial | (show _ ∧ _; refine aK ?_ ?_)))))
  all_goals first
    | rfl
    | exact ⟨.refl rfl, rfl⟩
    | exact (.inl rfl : NilK _)
    | exact ⟨.refl (noRef_nodes _), noRef_nodes _⟩
    | trace_state
theorem setC_err (l : List NodeM) (m : Int) (hs : SmallN l) (k : Nat) (y : NodeM) (hy : l[k]? = some y) (s v : ByteArray) (hs3 : s.size ≤ 100000) (he : (setA y.attrs s v).2 ≠ 0) :
    FnOK Tryz.prog 58 [mHand m l.length 1 nilNs, mNodes l] [.ptr 0 0 0, .fptr (eInt k) 0, .fptr (eStr s) 0, .fptr (eStr v) 0]
      [mHand m l.length 1 nilNs, mNodes l] (.lit (stepV setWd (setA y.attrs s v).2)) := by
  have hl := hs.attrs y (List.mem_of_getElem? hy)
  have hkl : k < l.length := (List.getElem?_eq_some_iff.1 hy).1
  have hlm : (l.map oNode).length = l.length := List.length_map ..
  have h59 := f59_ok y.attrs (by omega) s v
  have h60 := refused1 setWd (setA y.attrs s v).2 he
  have hd := decide_eq_false he
  generalize (setA y.attrs s v).2 = e at h59 h60 hd he ⊢
  obtain ⟨y1, y2, y3, y4, y5, y6, y7, y8, y9, y10⟩ := y
  simp only at *
  refine FnOK.startN [] (rvs := [.tmp 5]) G G_good Tryz.func58 rfl Tryz.ntmps58 rfl rfl ?_; with_reducible refine wD ?_
  (have fct := hd; (repeat' (first
    | refine gF ?_
    | ((first
      | ((with_reducible show CallK _ _ 59 _ _ _ _); refine CallK.val [] h59 c59 ⟨rfl, rfl, rfl, trivial⟩ rfl rfl (noRef_at2 _ _) ?_)
      | ((with_reducible show LtK _ _ _ _ _); refine LtK.mk k rfl hkl ?_)
      | ((with_reducible show ElemK _ _ _ _ _); first | refine ElemK.mk (eNode ⟨y1, y2, y3, y4, y5, y6, y7, y8, y9, y10⟩) (by first | exact node_get hy | (rw [Nat.zero_add]; exact node_get hy)) ?_ | refine ElemK.mk _ rfl ?_)
      | ((with_reducible show CallK _ _ 60 _ _ _ _); refine CallK.lit [] h60 c60 ⟨rfl, rfl, trivial⟩ rfl rfl ?_)
      | ((with_reducible show DrawK _ _ _ _); refine dK ?_)) <;> with_reducible refine wK ?_)
    | ((with_reducible show (_ ∧ _) ∧ _ ∧ _); (refine eK ?_ ?_ <;> with_reducible repeat' (first | exact trivial | (show _ ∧ _; refine aK ?_ ?_)))))); all_goals clear fct)
  all_goals first
    | rfl
    | exact ⟨.refl rfl, rfl⟩
    | exact (.inl rfl : NilK _)
    | exact ⟨.refl (noRef_nodes _), noRef_nodes _⟩
    | trace_state
theorem unsetC_yes (l : List NodeM) (m : Int) (hs : SmallN l) (k : Nat) (y : NodeM) (hy : l[k]? = some y) (s : ByteArray) (hs3 : s.size ≤ 100000) (hr : rightS s = true) (hf : 0 ≤ findP y.attrs s ∨ 0 ≤ findP (removeA y.attrs s).1 s) :
    FnOK Tryz.prog 66 [mHand m l.length 1 nilNs, mNodes l] [.ptr 0 0 0, .fptr (eStr s) 0, .fptr (eInt k) 0]
      [mHand m l.length 1 (.own 2 0 1), mNodes (attL l k (removeA y.attrs s).1), .live 9 [oNote (chNote y k s (removeA y.attrs s).1)] false] noErr := by
  have hl := hs.attrs y (List.mem_of_getElem? hy)
  have hkl : k < l.length := (List.getElem?_eq_some_iff.1 hy).1
  have hlm : (l.map oNode).length = l.length := List.length_map ..
  have h67 := f67_ok s
  have h68 := f68_ok y.attrs (by omega) s
  rw [hr] at h67
  have h61 := change_yes l m hs k y hy s hs3 (removeA y.attrs s).1 (by have := removeA_len y.attrs s; omega) hf
  have ha : (attL l k (removeA y.attrs s).1).length = l.length := len_att ..
  generalize attL l k (removeA y.attrs s).1 = l' at h61 ha ⊢
  generalize chNote y k s (removeA y.attrs s).1 = x at h61 ⊢
  obtain ⟨y1, y2, y3, y4, y5, y6, y7, y8, y9, y10⟩ := y
  simp only at *
  refine FnOK.startN [(2, 291)] (rvs := [.tmp 4]) G G_good Tryz.func66 rfl Tryz.ntmps66 rfl rfl ?_; with_reducible refine wD ?_
  repeat' (first
    | refine gK ?_
    | ((first
      | ((with_reducible show CallK _ _ 67 _ _ _ _); refine CallK.lit [] h67 c67 ⟨rfl, trivial⟩ rfl rfl ?_)
      | ((with_reducible show CallK _ _ 68 _ _ _ _); refine CallK.val [] h68 c68 ⟨rfl, rfl, trivial⟩ rfl rfl (noRef_atB _ _) ?_)
      | ((with_reducible show LtK _ _ _ _ _); refine LtK.mk k rfl hkl ?_)
      | ((with_reducible show ElemK _ _ _ _ _); first | refine ElemK.mk (eNode ⟨y1, y2, y3, y4, y5, y6, y7, y8, y9, y10⟩) (by first | exact node_get hy | (rw [Nat.zero_add]; exact node_get hy)) ?_ | refine ElemK.mk _ rfl ?_)
      | ((with_reducible show CallK _ _ 61 _ _ _ _); refine CallK.lend (news := [mHand m l.length 1 (.own 291 0 1), mNodes l', .live 9 [oNote x] false]) [0, 1, 291] [] h61 c61 ⟨⟨rfl, rfl⟩, rfl, rfl, rfl, trivial⟩ ⟨⟨rfl, .inr ⟨⟨⟨⟨rfl, rfl⟩, rfl, .inl rfl, trivial⟩, trivial⟩, rfl⟩⟩, ⟨rfl, .inl ⟨rfl, noRef_nodes _⟩⟩, trivial⟩ rfl ⟨⟨rfl, rfl⟩, rfl⟩ rfl ⟨⟨rfl, .inr ⟨rfl, rfl, rfl⟩⟩, ⟨rfl, .inl ⟨rfl, noRef_nodes _⟩⟩, ⟨rfl, .inl ⟨rfl, rfl⟩⟩, trivial⟩ rfl rfl ?_)
      | ((with_reducible show DrawK _ _ _ _); refine dK ?_)) <;> with_reducible refine wK ?_)
    | ((with_reducible show (_ ∧ _) ∧ _ ∧ _); (refine eK ?_ ?_ <;> with_reducible repeat' (first | exact trivial | (show _ ∧ _; refine aK ?_ ?_)))))
  all_goals first
    | rfl
    | exact ⟨.refl rfl, rfl⟩
    | exact (.inl rfl : NilK _)
    | exact ⟨.refl (noRef_nodes _), noRef_nodes _⟩
    | trace_state
theorem unsetC_no (l : List NodeM) (m : Int) (hs : SmallN l) (k : Nat) (y : NodeM) (hy : l[k]? = some y) (s : ByteArray) (hs3 : s.size ≤ 100000) (hr : rightS s = true) (hf : ¬ 0 ≤ findP y.attrs s ∧ ¬ 0 ≤ findP (removeA y.attrs s).1 s) :
    FnOK Tryz.prog 66 [mHand m l.length 1 nilNs, mNodes l] [.ptr 0 0 0, .fptr (eStr s) 0, .fptr (eInt k) 0]
      [mHand m l.length 1 nilNs, mNodes (attL l k (removeA y.attrs s).1)] noErr := by
  have hl := hs.attrs y (List.mem_of_getElem? hy)
  have hkl : k < l.length := (List.getElem?_eq_some_iff.1 hy).1
  have hlm : (l.map oNode).length = l.length := List.length_map ..
  have h67 := f67_ok s
  have h68 := f68_ok y.attrs (by omega) s
  rw [hr] at h67
  have h61 := change_no l m hs k y hy s hs3 (removeA y.attrs s).1 (by have := removeA_len y.attrs s; omega) hf
  have ha : (attL l k (removeA y.attrs s).1).length = l.length := len_att ..
  generalize attL l k (removeA y.attrs s).1 = l' at h61 ha ⊢
  obtain ⟨y1, y2, y3, y4, y5, y6, y7, y8, y9, y10⟩ := y
  simp only at *
  refine FnOK.startN [] (rvs := [.tmp 4]) G G_good Tryz.func66 rfl Tryz.ntmps66 rfl rfl ?_; with_reducible refine wD ?_
  repeat' (first
    | refine gK ?_
    | ((first
      | ((with_reducible show CallK _ _ 67 _ _ _ _); refine CallK.lit [] h67 c67 ⟨rfl, trivial⟩ rfl rfl ?_)
      | ((with_reducible show CallK _ _ 68 _ _ _ _); refine CallK.val [] h68 c68 ⟨rfl, rfl, trivial⟩ rfl rfl (noRef_atB _ _) ?_)
      | ((with_reducible show LtK _ _ _ _ _); refine LtK.mk k rfl hkl ?_)
      | ((with_reducible show ElemK _ _ _ _ _); first | refine ElemK.mk (eNode ⟨y1, y2, y3, y4, y5, y6, y7, y8, y9, y10⟩) (by first | exact node_get hy | (rw [Nat.zero_add]; exact node_get hy)) ?_ | refine ElemK.mk _ rfl ?_)
      | ((with_reducible show CallK _ _ 61 _ _ _ _); refine CallK.lend (news := [mHand m l.length 1 nilNs, mNodes l']) [0, 1] [] h61 c61 ⟨⟨rfl, rfl⟩, rfl, rfl, rfl, trivial⟩ ⟨⟨rfl, .inr ⟨⟨⟨⟨rfl, rfl⟩, rfl, .inl rfl, trivial⟩, trivial⟩, rfl⟩⟩, ⟨rfl, .inl ⟨rfl, noRef_nodes _⟩⟩, trivial⟩ rfl ⟨⟨rfl, rfl⟩, rfl⟩ rfl ⟨⟨rfl, .inr ⟨rfl, rfl, rfl⟩⟩, ⟨rfl, .inl ⟨rfl, noRef_nodes _⟩⟩, trivial⟩ rfl rfl ?_)
      | ((with_reducible show DrawK _ _ _ _); refine dK ?_)) <;> with_reducible refine wK ?_)
    | ((with_reducible show (_ ∧ _) ∧ _ ∧ _); (refine eK ?_ ?_ <;> with_reducible repeat' (first | exact trivial | (show _ ∧ _; refine aK ?_ ?_)))))
  all_goals first
    | rfl
    | exact ⟨.refl rfl, rfl⟩
    | exact (.inl rfl : NilK _)
    | exact ⟨.refl (noRef_nodes _), noRef_nodes _⟩
    | trace_state
theorem unsetC_err (l : List NodeM) (m : Int) (hs : SmallN l) (k : Nat) (y : NodeM) (hy : l[k]? = some y) (s : ByteArray) (hs3 : s.size ≤ 100000) (hr : rightS s = false) :
    FnOK Tryz.prog 66 [mHand m l.length 1 nilNs, mNodes l] [.ptr 0 0 0, .fptr (eStr s) 0, .fptr (eInt k) 0]
      [mHand m l.length 1 nilNs, mNodes l] (.lit (stepV unsetWd 4)) := by
  have hl := hs.attrs y (List.mem_of_getElem? hy)
  have hkl : k < l.length := (List.getElem?_eq_some_iff.1 hy).1
  have hlm : (l.map oNode).length = l.length := List.length_map ..
  have h67 := f67_ok s
  have h68 := f68_ok y.attrs (by omega) s
  rw [hr] at h67
  have h60 := refused1 unsetWd 4 (by decide)
  obtain ⟨y1, y2, y3, y4, y5, y6, y7, y8, y9, y10⟩ := y
  simp only at *
  refine FnOK.startN [] (rvs := [.tmp 4]) G G_good Tryz.func66 rfl Tryz.ntmps66 rfl rfl ?_; with_reducible refine wD ?_
  repeat' (first
    | refine gK ?_
    | ((first
      | ((with_reducible show CallK _ _ 67 _ _ _ _); refine CallK.lit [] h67 c67 ⟨rfl, trivial⟩ rfl rfl ?_)
      | ((with_reducible show CallK _ _ 68 _ _ _ _); refine CallK.val [] h68 c68 ⟨rfl, rfl, trivial⟩ rfl rfl (noRef_atB _ _) ?_)
      | ((with_reducible show LtK _ _ _ _ _); refine LtK.mk k rfl hkl ?_)
      | ((with_reducible show ElemK _ _ _ _ _); first | refine ElemK.mk (eNode ⟨y1, y2, y3, y4, y5, y6, y7, y8, y9, y10⟩) (by first | exact node_get hy | (rw [Nat.zero_add]; exact node_get hy)) ?_ | refine ElemK.mk _ rfl ?_)
      | ((with_reducible show CallK _ _ 60 _ _ _ _); refine CallK.lit [] h60 c60 ⟨rfl, rfl, trivial⟩ rfl rfl ?_)
      | ((with_reducible show DrawK _ _ _ _); refine dK ?_)) <;> with_reducible refine wK ?_)
    | ((with_reducible show (_ ∧ _) ∧ _ ∧ _); (refine eK ?_ ?_ <;> with_reducible repeat' (first | exact trivial | (show _ ∧ _; refine aK ?_ ?_)))))
  all_goals first
    | rfl
    | exact ⟨.refl rfl, rfl⟩
    | exact (.inl rfl : NilK _)
    | exact ⟨.refl (noRef_nodes _), noRef_nodes _⟩
    | trace_state
theorem toggleC_yes (l : List NodeM) (m : Int) (hs : SmallN l) (k : Nat) (y : NodeM) (hy : l[k]? = some y) (s : ByteArray) (hs3 : s.size ≤ 100000) (c : Int) (he : (toggleA y.attrs s c).2.2 = 0) (hw : decide (0 ≤ findP y.attrs s) ≠ (toggleA y.attrs s c).2.1) (hf : 0 ≤ findP y.attrs s ∨ 0 ≤ findP (toggleA y.attrs s c).1 s) :
    FnOK Tryz.prog 94 [mHand m l.length 1 nilNs, mNodes l] [.ptr 0 0 0, .fptr (eInt k) 0, .fptr (eStr s) 0, .fptr (eInt c) 0]
      [mHand m l.length 1 (.own 2 0 1), mNodes (attL l k (toggleA y.attrs s c).1), .live 9 [oNote (chNote y k s (toggleA y.attrs s c).1)] false] noErr := by
  have hl := hs.attrs y (List.mem_of_getElem? hy)
  have hkl : k < l.length := (List.getElem?_eq_some_iff.1 hy).1
  have hlm : (l.map oNode).length = l.length := List.length_map ..
  have h23 := f23_ok y.attrs (by omega) s
  have h95 := f95_ok y.attrs (by omega) s c
  have h61 := change_yes l m hs k y hy s hs3 (toggleA y.attrs s c).1 (by have := toggleA_len y.attrs s c; omega) hf
  rw [he] at h95
  have hw : (decide (0 ≤ findP y.attrs s) == (toggleA y.attrs s c).2.1) = false := by simpa using hw
  have ha : (attL l k (toggleA y.attrs s c).1).length = l.length := len_att ..
  generalize attL l k (toggleA y.attrs s c).1 = l' at h61 ha ⊢
  generalize chNote y k s (toggleA y.attrs s c).1 = x at h61 ⊢
  obtain ⟨y1, y2, y3, y4, y5, y6, y7, y8, y9, y10⟩ := y
  simp only at *
  refine FnOK.startN [(2, 521)] (rvs := [.tmp 5]) G G_good Tryz.func94 rfl Tryz.ntmps94 rfl rfl ?_; with_reducible refine wD ?_
  (have fct := hw; (repeat' (first
    | refine gF ?_
    | ((first
      | ((with_reducible show CallK _ _ 23 _ _ _ _); refine CallK.lit [] h23 c23 ⟨rfl, rfl, trivial⟩ rfl rfl ?_)
      | ((with_reducible show CallK _ _ 95 _ _ _ _); refine CallK.val [] h95 c95 ⟨rfl, rfl, rfl, trivial⟩ rfl rfl (noRef_at3 _ _ _) ?_)
      | ((with_reducible show LtK _ _ _ _ _); refine LtK.mk k rfl hkl ?_)
      | ((with_reducible show ElemK _ _ _ _ _); first | refine ElemK.mk (eNode ⟨y1, y2, y3, y4, y5, y6, y7, y8, y9, y10⟩) (by first | exact node_get hy | (rw [Nat.zero_add]; exact node_get hy)) ?_ | refine ElemK.mk _ rfl ?_)
      | ((with_reducible show CallK _ _ 61 _ _ _ _); refine CallK.lend (news := [mHand m l.length 1 (.own 521 0 1), mNodes l', .live 9 [oNote x] false]) [0, 1, 521] [] h61 c61 ⟨⟨rfl, rfl⟩, rfl, rfl, rfl, trivial⟩ ⟨⟨rfl, .inr ⟨⟨⟨⟨rfl, rfl⟩, rfl, .inl rfl, trivial⟩, trivial⟩, rfl⟩⟩, ⟨rfl, .inl ⟨rfl, noRef_nodes _⟩⟩, trivial⟩ rfl ⟨⟨rfl, rfl⟩, rfl⟩ rfl ⟨⟨rfl, .inr ⟨rfl, rfl, rfl⟩⟩, ⟨rfl, .inl ⟨rfl, noRef_nodes _⟩⟩, ⟨rfl, .inl ⟨rfl, rfl⟩⟩, trivial⟩ rfl rfl ?_)
      | ((with_reducible show DrawK _ _ _ _); refine dK ?_)) <;> with_reducible refine wK ?_)
    | ((with_reducible show (_ ∧ _) ∧ _ ∧ _); (refine eK ?_ ?_ <;> with_reducible repeat' (first | exact trivial | (show _ ∧ _; refine aK ?_ ?_)))))); all_goals clear fct)
  all_goals first
    | rfl
    | exact ⟨.refl rfl, rfl⟩
    | exact (.inl rfl : NilK _)
    | exact ⟨.refl (noRef_nodes _), noRef_nodes _⟩
    | trace_state
theorem toggleC_same (l : List NodeM) (m : Int) (hs : SmallN l) (k : Nat) (y : NodeM) (hy : l[k]? = some y) (s : ByteArray) (hs3 : s.size ≤ 100000) (c : Int) (he : (toggleA y.attrs s c).2.2 = 0) (hw : decide (0 ≤ findP y.attrs s) = (toggleA y.attrs s c).2.1) :
    FnOK Tryz.prog 94 [mHand m l.length 1 nilNs, mNodes l] [.ptr 0 0 0, .fptr (eInt k) 0, .fptr (eStr s) 0, .fptr (eInt c) 0]
      [mHand m l.length 1 nilNs, mNodes l] noErr := by
  have hl := hs.attrs y (List.mem_of_getElem? hy)
  have hkl : k < l.length := (List.getElem?_eq_some_iff.1 hy).1
  have hlm : (l.map oNode).length = l.length := List.length_map ..
  have h23 := f23_ok y.attrs (by omega) s
  have h95 := f95_ok y.attrs (by omega) s c
  rw [he] at h95
  have hw : (decide (0 ≤ findP y.attrs s) == (toggleA y.attrs s c).2.1) = true := by simpa using hw
  obtain ⟨y1, y2, y3, y4, y5, y6, y7, y8, y9, y10⟩ := y
  simp only at *
  refine FnOK.startN [] (rvs := [.tmp 5]) G G_good Tryz.func94 rfl Tryz.ntmps94 rfl rfl ?_; with_reducible refine wD ?_
  (have fct := hw; (repeat' (first
    | refine gF ?_
    | ((first
      | ((with_reducible show CallK _ _ 23 _ _ _ _); refine CallK.lit [] h23 c23 ⟨rfl, rfl, trivial⟩ rfl rfl ?_)
      | ((with_reducible show CallK _ _ 95 _ _ _ _); refine CallK.val [] h95 c95 ⟨rfl, rfl, rfl, trivial⟩ rfl rfl (noRef_at3 _ _ _) ?_)
      | ((with_reducible show LtK _ _ _ _ _); refine LtK.mk k rfl hkl ?_)
      | ((with_reducible show ElemK _ _ _ _ _); first | refine ElemK.mk (eNode ⟨y1, y2, y3, y4, y5, y6, y7, y8, y9, y10⟩) (by first | exact node_get hy | (rw [Nat.zero_add]; exact node_get hy)) ?_ | refine ElemK.mk _ rfl ?_)
      | ((with_reducible show DrawK _ _ _ _); refine dK ?_)) <;> with_reducible refine wK ?_)
    | ((with_reducible show (_ ∧ _) ∧ _ ∧ _); (refine eK ?_ ?_ <;> with_reducible repeat' (first | exact trivial | (show _ ∧ _; refine aK ?_ ?_)))))); all_goals clear fct)
  all_goals first
    | rfl
    | exact ⟨.refl rfl, rfl⟩
    | exact (.inl rfl : NilK _)
    | exact ⟨.refl (noRef_nodes _), noRef_nodes _⟩
    | trace_state
theorem toggleC_err (l : List NodeM) (m : Int) (hs : SmallN l) (k : Nat) (y : NodeM) (hy : l[k]? = some y) (s : ByteArray) (hs3 : s.size ≤ 100000) (c : Int) (he : (toggleA y.attrs s c).2.2 ≠ 0) :
    FnOK Tryz.prog 94 [mHand m l.length 1 nilNs, mNodes l] [.ptr 0 0 0, .fptr (eInt k) 0, .fptr (eStr s) 0, .fptr (eInt c) 0]
      [mHand m l.length 1 nilNs, mNodes l] (.lit (stepV toggleWd (toggleA y.attrs s c).2.2)) := by
  have hl := hs.attrs y (List.mem_of_getElem? hy)
  have hkl : k < l.length := (List.getElem?_eq_some_iff.1 hy).1
  have hlm : (l.map oNode).length = l.length := List.length_map ..
  have h23 := f23_ok y.attrs (by omega) s
  have h95 := f95_ok y.attrs (by omega) s c
  have h60 := refused1 toggleWd (toggleA y.attrs s c).2.2 he
  have hd := decide_eq_false he
  generalize (toggleA y.attrs s c).2.2 = e at h95 h60 hd he ⊢
  obtain ⟨y1, y2, y3, y4, y5, y6, y7, y8, y9, y10⟩ := y
  simp only at *
  refine FnOK.startN [] (rvs := [.tmp 5]) G G_good Tryz.func94 rfl Tryz.ntmps94 rfl rfl ?_; with_reducible refine wD ?_
  (have fct := hd; (repeat' (first
    | refine gF ?_
    | ((first
      | ((with_reducible show CallK _ _ 23 _ _ _ _); refine CallK.lit [] h23 c23 ⟨rfl, rfl, trivial⟩ rfl rfl ?_)
      | ((with_reducible show CallK _ _ 95 _ _ _ _); refine CallK.val [] h95 c95 ⟨rfl, rfl, rfl, trivial⟩ rfl rfl (noRef_at3 _ _ _) ?_)
      | ((with_reducible show LtK _ _ _ _ _); refine LtK.mk k rfl hkl ?_)
      | ((with_reducible show ElemK _ _ _ _ _); first | refine ElemK.mk (eNode ⟨y1, y2, y3, y4, y5, y6, y7, y8, y9, y10⟩) (by first | exact node_get hy | (rw [Nat.zero_add]; exact node_get hy)) ?_ | refine ElemK.mk _ rfl ?_)
      | ((with_reducible show CallK _ _ 60 _ _ _ _); refine CallK.lit [] h60 c60 ⟨rfl, rfl, trivial⟩ rfl rfl ?_)
      | ((with_reducible show DrawK _ _ _ _); refine dK ?_)) <;> with_reducible refine wK ?_)
    | ((with_reducible show (_ ∧ _) ∧ _ ∧ _); (refine eK ?_ ?_ <;> with_reducible repeat' (first | exact trivial | (show _ ∧ _; refine aK ?_ ?_)))))); all_goals clear fct)
  all_goals first
    | rfl
    | exact ⟨.refl rfl, rfl⟩
    | exact (.inl rfl : NilK _)
    | exact ⟨.refl (noRef_nodes _), noRef_nodes _⟩
    | trace_state
theorem frz_w {m : ML} {fz : Nat → Bool} {tab : List (Nat × Nat)} {n t len wd : Nat} {ro : Bool} {rows rows' : List AV} (h1 : lkM m t = .live wd rows ro) (h2 : fz t = true) (h3 : rows = rows') (h4 : len = rows'.length) (h5 : noRefL rows' = true) : FrzK m fz (MF tab fz m n) (.sl wd rows') t 0 len := by
  subst h3; subst h4
  exact .cut h1 h2 (by omega) (by rw [List.drop_zero, List.take_of_length_le (by omega)]) h5
@[reducible] def eNs (l : List NoteM) : AV := .sl 9 (l.map oNote)
theorem done_told (f : ForM) (hs : SmallN f.nodes) (g : Nat) (cg : Callable Tryz.prog g) (caps : List AV) (hcaps : noRefL caps = true) (l' : List NodeM) (x : NoteM) (hl : l'.length = f.nodes.length) (hg : FnOK Tryz.prog g [mHand f.most f.nodes.length 1 nilNs, mNodes f.nodes] (.ptr 0 0 0 :: caps) [mHand f.most f.nodes.length 1 (.own 2 0 1), mNodes l', .live 9 [oNote x] false] noErr) :
    FnOK Tryz.prog 56 [] [eFor f, noErr, .clo (.func g) [] caps] [] (.tup [eFor ⟨l', f.most⟩, eNs [x], eInt 0]) := by
  have h121 := f121_fr f hs
  have hlm : (l'.map oNode).length = f.nodes.length := by rw [List.length_map, hl]
  obtain ⟨l, m⟩ := f
  simp only at *
  refine FnOK.startC (rvs := [.cell 6 24, .tmp 7, .tmp 8]) G G_good Tryz.func56 rfl Tryz.ntmps56 rfl rfl ?_; with_reducible refine wD ?_
  repeat' (first
    | refine gK ?_
    | ((first
      | ((with_reducible show CallK _ _ 121 _ _ _ _); refine CallK.lend (news := [mHand m l.length 111 nilNs, mNodes l]) [110, 111] [] h121 c121 ⟨⟨rfl, rfl, trivial⟩, trivial⟩ trivial rfl ⟨⟨rfl, rfl⟩, rfl⟩ rfl ⟨⟨rfl, .inr ⟨rfl, rfl, rfl⟩⟩, ⟨rfl, .inl ⟨rfl, noRef_nodes _⟩⟩, trivial⟩ rfl rfl ?_)
      | ((with_reducible show HandK _ _ _ _ _); first | refine HandK.nilEq true Tryz.underlying98 rfl rfl rfl rfl rfl ?_ | refine HandK.nilEq false Tryz.underlying98 rfl rfl rfl rfl rfl ?_ | refine HandK.nilNe false Tryz.underlying98 rfl rfl rfl rfl rfl ?_ | refine HandK.nilNe true Tryz.underlying98 rfl rfl rfl rfl rfl ?_)
      | ((with_reducible show CallK _ _ 122 _ _ _ _); refine CallK.lit [] h122 c122 ⟨⟨rfl, rfl⟩, trivial⟩ rfl rfl ?_)
      | ((with_reducible show CallK _ _ _ _ _ _ _); refine CallK.lend (news := [mHand m l.length 111 (.own 161 0 1), mNodes l', .live 9 [oNote x] false]) [110, 111, 161] [] hg cg ⟨⟨rfl, rfl⟩, MFL_refl hcaps⟩ ⟨⟨rfl, .inr ⟨⟨⟨⟨rfl, rfl⟩, rfl, .inl rfl, trivial⟩, trivial⟩, rfl⟩⟩, ⟨rfl, .inl ⟨rfl, noRef_nodes _⟩⟩, trivial⟩ rfl ⟨⟨rfl, rfl⟩, rfl⟩ rfl ⟨⟨rfl, .inr ⟨rfl, rfl, rfl⟩⟩, ⟨rfl, .inl ⟨rfl, noRef_nodes _⟩⟩, ⟨rfl, .inl ⟨rfl, rfl⟩⟩, trivial⟩ rfl rfl ?_)
      | ((with_reducible show DrawK _ _ _ _); refine dK ?_)) <;> with_reducible refine wK ?_)
    | ((with_reducible show (_ ∧ _) ∧ _ ∧ _); (refine eK ?_ ?_ <;> with_reducible repeat' (first | exact trivial | (show _ ∧ _; refine aK ?_ ?_)))))
  all_goals first
    | rfl
    | exact frz_w rfl rfl rfl hlm.symm (noRef_nodes _)
    | exact frz_w rfl rfl rfl rfl rfl
    | exact ⟨.refl rfl, rfl⟩
    | exact (.inl rfl : NilK _)
    | exact .inr (.inr ⟨9, rfl⟩)
    | trace_state
theorem done_quiet (f : ForM) (hs : SmallN f.nodes) (g : Nat) (cg : Callable Tryz.prog g) (caps : List AV) (hcaps : noRefL caps = true) (l' : List NodeM) (hl : l'.length = f.nodes.length) (hg : FnOK Tryz.prog g [mHand f.most f.nodes.length 1 nilNs, mNodes f.nodes] (.ptr 0 0 0 :: caps) [mHand f.most f.nodes.length 1 nilNs, mNodes l'] noErr) :
    FnOK Tryz.prog 56 [] [eFor f, noErr, .clo (.func g) [] caps] [] (.tup [eFor ⟨l', f.most⟩, eNs [], eInt 0]) := by
  have h121 := f121_fr f hs
  have hlm : (l'.map oNode).length = f.nodes.length := by rw [List.length_map, hl]
  obtain ⟨l, m⟩ := f
  simp only at *
  refine FnOK.startC (rvs := [.cell 6 24, .tmp 7, .tmp 8]) G G_good Tryz.func56 rfl Tryz.ntmps56 rfl rfl ?_; with_reducible refine wD ?_
  repeat' (first
    | refine gK ?_
    | ((first
      | ((with_reducible show CallK _ _ 121 _ _ _ _); refine CallK.lend (news := [mHand m l.length 111 nilNs, mNodes l]) [110, 111] [] h121 c121 ⟨⟨rfl, rfl, trivial⟩, trivial⟩ trivial rfl ⟨⟨rfl, rfl⟩, rfl⟩ rfl ⟨⟨rfl, .inr ⟨rfl, rfl, rfl⟩⟩, ⟨rfl, .inl ⟨rfl, noRef_nodes _⟩⟩, trivial⟩ rfl rfl ?_)
      | ((with_reducible show HandK _ _ _ _ _); first | refine HandK.nilEq true Tryz.underlying98 rfl rfl rfl rfl rfl ?_ | refine HandK.nilEq false Tryz.underlying98 rfl rfl rfl rfl rfl ?_ | refine HandK.nilNe false Tryz.underlying98 rfl rfl rfl rfl rfl ?_ | refine HandK.nilNe true Tryz.underlying98 rfl rfl rfl rfl rfl ?_)
      | ((with_reducible show CallK _ _ 122 _ _ _ _); refine CallK.lit [] h122 c122 ⟨⟨rfl, rfl⟩, trivial⟩ rfl rfl ?_)
      | ((with_reducible show CallK _ _ _ _ _ _ _); refine CallK.lend (news := [mHand m l.length 111 nilNs, mNodes l']) [110, 111] [] hg cg ⟨⟨rfl, rfl⟩, MFL_refl hcaps⟩ ⟨⟨rfl, .inr ⟨⟨⟨⟨rfl, rfl⟩, rfl, .inl rfl, trivial⟩, trivial⟩, rfl⟩⟩, ⟨rfl, .inl ⟨rfl, noRef_nodes _⟩⟩, trivial⟩ rfl ⟨⟨rfl, rfl⟩, rfl⟩ rfl ⟨⟨rfl, .inr ⟨rfl, rfl, rfl⟩⟩, ⟨rfl, .inl ⟨rfl, noRef_nodes _⟩⟩, trivial⟩ rfl rfl ?_)
      | ((with_reducible show DrawK _ _ _ _); refine dK ?_)) <;> with_reducible refine wK ?_)
    | ((with_reducible show (_ ∧ _) ∧ _ ∧ _); (refine eK ?_ ?_ <;> with_reducible repeat' (first | exact trivial | (show _ ∧ _; refine aK ?_ ?_)))))
  all_goals first
    | rfl
    | exact frz_w rfl rfl rfl hlm.symm (noRef_nodes _)
    | exact frz_w rfl rfl rfl rfl rfl
    | exact ⟨.refl rfl, rfl⟩
    | exact (.inl rfl : NilK _)
    | exact .inr (.inr ⟨9, rfl⟩)
    | trace_state
theorem done_err (f : ForM) (hs : SmallN f.nodes) (g : Nat) (cg : Callable Tryz.prog g) (caps : List AV) (hcaps : noRefL caps = true) (what : ByteArray) (e : Int) (hg : FnOK Tryz.prog g [mHand f.most f.nodes.length 1 nilNs, mNodes f.nodes] (.ptr 0 0 0 :: caps) [mHand f.most f.nodes.length 1 nilNs, mNodes f.nodes] (.lit (stepV what e))) :
    FnOK Tryz.prog 56 [] [eFor f, noErr, .clo (.func g) [] caps] [] (.tup [eFor f, eNs [], eInt e]) := by
  have h121 := f121_fr f hs
  have h122 := why_ok what e
  obtain ⟨l, m⟩ := f
  simp only at *
  refine FnOK.startC (rvs := [.cell 6 24, .tmp 7, .tmp 8]) G G_good Tryz.func56 rfl Tryz.ntmps56 rfl rfl ?_; with_reducible refine wD ?_
  repeat' (first
    | refine gK ?_
    | ((first
      | ((with_reducible show CallK _ _ 121 _ _ _ _); refine CallK.lend (news := [mHand m l.length 111 nilNs, mNodes l]) [110, 111] [] h121 c121 ⟨⟨rfl, rfl, trivial⟩, trivial⟩ trivial rfl ⟨⟨rfl, rfl⟩, rfl⟩ rfl ⟨⟨rfl, .inr ⟨rfl, rfl, rfl⟩⟩, ⟨rfl, .inl ⟨rfl, noRef_nodes _⟩⟩, trivial⟩ rfl rfl ?_)
      | ((with_reducible show HandK _ _ _ _ _); first | refine HandK.nilEq true Tryz.underlying98 rfl rfl rfl rfl rfl ?_ | refine HandK.nilEq false Tryz.underlying98 rfl rfl rfl rfl rfl ?_ | refine HandK.nilNe false Tryz.underlying98 rfl rfl rfl rfl rfl ?_ | refine HandK.nilNe true Tryz.underlying98 rfl rfl rfl rfl rfl ?_)
      | ((with_reducible show CallK _ _ 122 _ _ _ _); refine CallK.lit [] h122 c122 ⟨⟨rfl, rfl⟩, trivial⟩ rfl rfl ?_)
      | ((with_reducible show CallK _ _ _ _ _ _ _); refine CallK.lend (news := [mHand m l.length 111 nilNs, mNodes l]) [110, 111] [] hg cg ⟨⟨rfl, rfl⟩, MFL_refl hcaps⟩ ⟨⟨rfl, .inr ⟨⟨⟨⟨rfl, rfl⟩, rfl, .inl rfl, trivial⟩, trivial⟩, rfl⟩⟩, ⟨rfl, .inl ⟨rfl, noRef_nodes _⟩⟩, trivial⟩ rfl ⟨⟨rfl, rfl⟩, rfl⟩ rfl ⟨⟨rfl, .inr ⟨rfl, rfl, rfl⟩⟩, ⟨rfl, .inl ⟨rfl, noRef_nodes _⟩⟩, trivial⟩ rfl rfl ?_)
      | ((with_reducible show DrawK _ _ _ _); refine dK ?_)) <;> with_reducible refine wK ?_)
    | ((with_reducible show (_ ∧ _) ∧ _ ∧ _); (refine eK ?_ ?_ <;> with_reducible repeat' (first | exact trivial | (show _ ∧ _; refine aK ?_ ?_)))))
  all_goals first
    | rfl
    | exact frz_w rfl rfl rfl hlm.symm (noRef_nodes _)
    | exact frz_w rfl rfl rfl rfl rfl
    | exact ⟨.refl rfl, rfl⟩
    | exact (.inl rfl : NilK _)
    | exact .inr (.inr ⟨9, rfl⟩)
    | trace_state
theorem done_bad (f : ForM) (hs : SmallN f.nodes) (g : Nat) (caps : List AV) (what : ByteArray) (e : Int)  :
    FnOK Tryz.prog 56 [] [eFor f, .lit (stepV what e), .clo (.func g) [] caps] [] (.tup [eFor f, eNs [], eInt e]) := by
  have h121 := f121_fr f hs
  have h122 := why_ok what e
  obtain ⟨l, m⟩ := f
  simp only at *
  refine FnOK.startC (rvs := [.cell 6 24, .tmp 7, .tmp 8]) G G_good Tryz.func56 rfl Tryz.ntmps56 rfl rfl ?_; with_reducible refine wD ?_
  repeat' (first
    | refine gK ?_
    | ((first
      | ((with_reducible show CallK _ _ 121 _ _ _ _); refine CallK.lend (news := [mHand m l.length 111 nilNs, mNodes l]) [110, 111] [] h121 c121 ⟨⟨rfl, rfl, trivial⟩, trivial⟩ trivial rfl ⟨⟨rfl, rfl⟩, rfl⟩ rfl ⟨⟨rfl, .inr ⟨rfl, rfl, rfl⟩⟩, ⟨rfl, .inl ⟨rfl, noRef_nodes _⟩⟩, trivial⟩ rfl rfl ?_)
      | ((with_reducible show HandK _ _ _ _ _); first | refine HandK.nilEq true Tryz.underlying98 rfl rfl rfl rfl rfl ?_ | refine HandK.nilEq false Tryz.underlying98 rfl rfl rfl rfl rfl ?_ | refine HandK.nilNe false Tryz.underlying98 rfl rfl rfl rfl rfl ?_ | refine HandK.nilNe true Tryz.underlying98 rfl rfl rfl rfl rfl ?_)
      | ((with_reducible show CallK _ _ 122 _ _ _ _); refine CallK.lit [] h122 c122 ⟨⟨rfl, rfl⟩, trivial⟩ rfl rfl ?_)
      | ((with_reducible show DrawK _ _ _ _); refine dK ?_)) <;> with_reducible refine wK ?_)
    | ((with_reducible show (_ ∧ _) ∧ _ ∧ _); (refine eK ?_ ?_ <;> with_reducible repeat' (first | exact trivial | (show _ ∧ _; refine aK ?_ ?_)))))
  all_goals first
    | rfl
    | exact frz_w rfl rfl rfl hlm.symm (noRef_nodes _)
    | exact frz_w rfl rfl rfl rfl rfl
    | exact ⟨.refl rfl, rfl⟩
    | exact (.inl rfl : NilK _)
    | exact .inr (.inr ⟨9, rfl⟩)
    | trace_state
theorem noRef_done (f : ForM) (ns : List NoteM) (e : Int) : noRef (.tup [eFor f, eNs ns, eInt e]) = true := by
  have h1 := noRef_nodes f.nodes
  have h2 : noRefL (ns.map oNote) = true := noRefL_map oNote (fun _ => rfl) _
  simp [noRef, noRefL, h1, h2]
theorem set_yes (f : ForM) (n : Int) (s v : ByteArray)  (r : ForM) (ns : List NoteM) (z : Int) (h57 : FnOK Tryz.prog 57 [] [eFor f, eInt n] [] noErr)
    (h56 : FnOK Tryz.prog 56 [] [eFor f, noErr, .clo (.func 58) [] [.fptr (eInt n) 0, .fptr (eStr s) 0, .fptr (eStr v) 0]] [] (.tup [eFor r, eNs ns, eInt z])) : FnOK Tryz.prog 18 [] [eFor f, eInt n, eStr s, eStr v] [] (.tup [eFor r, eNs ns, eInt z]) := by
  obtain ⟨l, m⟩ := f
  obtain ⟨l', m'⟩ := r
  have hn := noRef_done ⟨l', m'⟩ ns z
  refine FnOK.startC (rvs := [.cell 8 24, .tmp 9, .tmp 10]) G G_good Tryz.func18 rfl Tryz.ntmps18 rfl rfl ?_; with_reducible refine wD ?_
  repeat' (first
    | refine gK ?_
    | ((first
      | ((with_reducible show CallK _ _ 57 _ _ _ _); refine CallK.lit [] h57 c57 ⟨⟨rfl, rfl, trivial⟩, rfl, trivial⟩ rfl rfl ?_)
      | ((with_reducible show CallK _ _ 56 _ _ _ _); refine CallK.val [50, 60, 70] h56 c56 ⟨⟨rfl, rfl, trivial⟩, ⟨rfl, rfl⟩, ⟨rfl, trivial, ⟨_, _, _, _, _, rfl, rfl, rfl, rfl, rfl, rfl⟩, ⟨_, _, _, _, _, rfl, rfl, rfl, rfl, rfl, rfl⟩, ⟨_, _, _, _, _, rfl, rfl, rfl, rfl, rfl, rfl⟩, trivial⟩, trivial⟩ rfl rfl hn ?_)
      | ((with_reducible show DrawK _ _ _ _); refine dK ?_)) <;> with_reducible refine wK ?_)
    | ((with_reducible show (_ ∧ _) ∧ _ ∧ _); (refine eK ?_ ?_ <;> with_reducible repeat' (first | exact trivial | (show _ ∧ _; refine aK ?_ ?_)))))
  all_goals first | rfl | trace_state
theorem set_bad (f : ForM) (n : Int) (s v : ByteArray) (what : ByteArray) (e : Int) (r : ForM) (ns : List NoteM) (z : Int) (h57 : FnOK Tryz.prog 57 [] [eFor f, eInt n] [] (.lit (stepV what e)))
    (h56 : FnOK Tryz.prog 56 [] [eFor f, (.lit (stepV what e)), .clo (.func 58) [] [.fptr (eInt n) 0, .fptr (eStr s) 0, .fptr (eStr v) 0]] [] (.tup [eFor r, eNs ns, eInt z])) : FnOK Tryz.prog 18 [] [eFor f, eInt n, eStr s, eStr v] [] (.tup [eFor r, eNs ns, eInt z]) := by
  obtain ⟨l, m⟩ := f
  obtain ⟨l', m'⟩ := r
  have hn := noRef_done ⟨l', m'⟩ ns z
  refine FnOK.startC (rvs := [.cell 8 24, .tmp 9, .tmp 10]) G G_good Tryz.func18 rfl Tryz.ntmps18 rfl rfl ?_; with_reducible refine wD ?_
  repeat' (first
    | refine gK ?_
    | ((first
      | ((with_reducible show CallK _ _ 57 _ _ _ _); refine CallK.lit [] h57 c57 ⟨⟨rfl, rfl, trivial⟩, rfl, trivial⟩ rfl rfl ?_)
      | ((with_reducible show CallK _ _ 56 _ _ _ _); refine CallK.val [50, 60, 70] h56 c56 ⟨⟨rfl, rfl, trivial⟩, ⟨rfl, rfl⟩, ⟨rfl, trivial, ⟨_, _, _, _, _, rfl, rfl, rfl, rfl, rfl, rfl⟩, ⟨_, _, _, _, _, rfl, rfl, rfl, rfl, rfl, rfl⟩, ⟨_, _, _, _, _, rfl, rfl, rfl, rfl, rfl, rfl⟩, trivial⟩, trivial⟩ rfl rfl hn ?_)
      | ((with_reducible show DrawK _ _ _ _); refine dK ?_)) <;> with_reducible refine wK ?_)
    | ((with_reducible show (_ ∧ _) ∧ _ ∧ _); (refine eK ?_ ?_ <;> with_reducible repeat' (first | exact trivial | (show _ ∧ _; refine aK ?_ ?_)))))
  all_goals first | rfl | trace_state
theorem unset_yes (f : ForM) (n : Int) (s : ByteArray)  (r : ForM) (ns : List NoteM) (z : Int) (h57 : FnOK Tryz.prog 57 [] [eFor f, eInt n] [] noErr)
    (h56 : FnOK Tryz.prog 56 [] [eFor f, noErr, .clo (.func 66) [] [.fptr (eStr s) 0, .fptr (eInt n) 0]] [] (.tup [eFor r, eNs ns, eInt z])) : FnOK Tryz.prog 24 [] [eFor f, eInt n, eStr s] [] (.tup [eFor r, eNs ns, eInt z]) := by
  obtain ⟨l, m⟩ := f
  obtain ⟨l', m'⟩ := r
  have hn := noRef_done ⟨l', m'⟩ ns z
  refine FnOK.startC (rvs := [.cell 6 24, .tmp 7, .tmp 8]) G G_good Tryz.func24 rfl Tryz.ntmps24 rfl rfl ?_; with_reducible refine wD ?_
  repeat' (first
    | refine gK ?_
    | ((first
      | ((with_reducible show CallK _ _ 57 _ _ _ _); refine CallK.lit [] h57 c57 ⟨⟨rfl, rfl, trivial⟩, rfl, trivial⟩ rfl rfl ?_)
      | ((with_reducible show CallK _ _ 56 _ _ _ _); refine CallK.val [50, 40] h56 c56 ⟨⟨rfl, rfl, trivial⟩, ⟨rfl, rfl⟩, ⟨rfl, trivial, ⟨_, _, _, _, _, rfl, rfl, rfl, rfl, rfl, rfl⟩, ⟨_, _, _, _, _, rfl, rfl, rfl, rfl, rfl, rfl⟩, trivial⟩, trivial⟩ rfl rfl hn ?_)
      | ((with_reducible show DrawK _ _ _ _); refine dK ?_)) <;> with_reducible refine wK ?_)
    | ((with_reducible show (_ ∧ _) ∧ _ ∧ _); (refine eK ?_ ?_ <;> with_reducible repeat' (first | exact trivial | (show _ ∧ _; refine aK ?_ ?_)))))
  all_goals first | rfl | trace_state
theorem unset_bad (f : ForM) (n : Int) (s : ByteArray) (what : ByteArray) (e : Int) (r : ForM) (ns : List NoteM) (z : Int) (h57 : FnOK Tryz.prog 57 [] [eFor f, eInt n] [] (.lit (stepV what e)))
    (h56 : FnOK Tryz.prog 56 [] [eFor f, (.lit (stepV what e)), .clo (.func 66) [] [.fptr (eStr s) 0, .fptr (eInt n) 0]] [] (.tup [eFor r, eNs ns, eInt z])) : FnOK Tryz.prog 24 [] [eFor f, eInt n, eStr s] [] (.tup [eFor r, eNs ns, eInt z]) := by
  obtain ⟨l, m⟩ := f
  obtain ⟨l', m'⟩ := r
  have hn := noRef_done ⟨l', m'⟩ ns z
  refine FnOK.startC (rvs := [.cell 6 24, .tmp 7, .tmp 8]) G G_good Tryz.func24 rfl Tryz.ntmps24 rfl rfl ?_; with_reducible refine wD ?_
  repeat' (first
    | refine gK ?_
    | ((first
      | ((with_reducible show CallK _ _ 57 _ _ _ _); refine CallK.lit [] h57 c57 ⟨⟨rfl, rfl, trivial⟩, rfl, trivial⟩ rfl rfl ?_)
      | ((with_reducible show CallK _ _ 56 _ _ _ _); refine CallK.val [50, 40] h56 c56 ⟨⟨rfl, rfl, trivial⟩, ⟨rfl, rfl⟩, ⟨rfl, trivial, ⟨_, _, _, _, _, rfl, rfl, rfl, rfl, rfl, rfl⟩, ⟨_, _, _, _, _, rfl, rfl, rfl, rfl, rfl, rfl⟩, trivial⟩, trivial⟩ rfl rfl hn ?_)
      | ((with_reducible show DrawK _ _ _ _); refine dK ?_)) <;> with_reducible refine wK ?_)
    | ((with_reducible show (_ ∧ _) ∧ _ ∧ _); (refine eK ?_ ?_ <;> with_reducible repeat' (first | exact trivial | (show _ ∧ _; refine aK ?_ ?_)))))
  all_goals first | rfl | trace_state
theorem toggle_yes (f : ForM) (n : Int) (s : ByteArray) (c : Int)  (r : ForM) (ns : List NoteM) (z : Int) (h57 : FnOK Tryz.prog 57 [] [eFor f, eInt n] [] noErr)
    (h56 : FnOK Tryz.prog 56 [] [eFor f, noErr, .clo (.func 94) [] [.fptr (eInt n) 0, .fptr (eStr s) 0, .fptr (eInt c) 0]] [] (.tup [eFor r, eNs ns, eInt z])) : FnOK Tryz.prog 43 [] [eFor f, eInt n, eStr s, eInt c] [] (.tup [eFor r, eNs ns, eInt z]) := by
  obtain ⟨l, m⟩ := f
  obtain ⟨l', m'⟩ := r
  have hn := noRef_done ⟨l', m'⟩ ns z
  refine FnOK.startC (rvs := [.cell 8 24, .tmp 9, .tmp 10]) G G_good Tryz.func43 rfl Tryz.ntmps43 rfl rfl ?_; with_reducible refine wD ?_
  repeat' (first
    | refine gK ?_
    | ((first
      | ((with_reducible show CallK _ _ 57 _ _ _ _); refine CallK.lit [] h57 c57 ⟨⟨rfl, rfl, trivial⟩, rfl, trivial⟩ rfl rfl ?_)
      | ((with_reducible show CallK _ _ 56 _ _ _ _); refine CallK.val [50, 60, 70] h56 c56 ⟨⟨rfl, rfl, trivial⟩, ⟨rfl, rfl⟩, ⟨rfl, trivial, ⟨_, _, _, _, _, rfl, rfl, rfl, rfl, rfl, rfl⟩, ⟨_, _, _, _, _, rfl, rfl, rfl, rfl, rfl, rfl⟩, ⟨_, _, _, _, _, rfl, rfl, rfl, rfl, rfl, rfl⟩, trivial⟩, trivial⟩ rfl rfl hn ?_)
      | ((with_reducible show DrawK _ _ _ _); refine dK ?_)) <;> with_reducible refine wK ?_)
    | ((with_reducible show (_ ∧ _) ∧ _ ∧ _); (refine eK ?_ ?_ <;> with_reducible repeat' (first | exact trivial | (show _ ∧ _; refine aK ?_ ?_)))))
  all_goals first | rfl | trace_state
theorem toggle_bad (f : ForM) (n : Int) (s : ByteArray) (c : Int) (what : ByteArray) (e : Int) (r : ForM) (ns : List NoteM) (z : Int) (h57 : FnOK Tryz.prog 57 [] [eFor f, eInt n] [] (.lit (stepV what e)))
    (h56 : FnOK Tryz.prog 56 [] [eFor f, (.lit (stepV what e)), .clo (.func 94) [] [.fptr (eInt n) 0, .fptr (eStr s) 0, .fptr (eInt c) 0]] [] (.tup [eFor r, eNs ns, eInt z])) : FnOK Tryz.prog 43 [] [eFor f, eInt n, eStr s, eInt c] [] (.tup [eFor r, eNs ns, eInt z]) := by
  obtain ⟨l, m⟩ := f
  obtain ⟨l', m'⟩ := r
  have hn := noRef_done ⟨l', m'⟩ ns z
  refine FnOK.startC (rvs := [.cell 8 24, .tmp 9, .tmp 10]) G G_good Tryz.func43 rfl Tryz.ntmps43 rfl rfl ?_; with_reducible refine wD ?_
  repeat' (first
    | refine gK ?_
    | ((first
      | ((with_reducible show CallK _ _ 57 _ _ _ _); refine CallK.lit [] h57 c57 ⟨⟨rfl, rfl, trivial⟩, rfl, trivial⟩ rfl rfl ?_)
      | ((with_reducible show CallK _ _ 56 _ _ _ _); refine CallK.val [50, 60, 70] h56 c56 ⟨⟨rfl, rfl, trivial⟩, ⟨rfl, rfl⟩, ⟨rfl, trivial, ⟨_, _, _, _, _, rfl, rfl, rfl, rfl, rfl, rfl⟩, ⟨_, _, _, _, _, rfl, rfl, rfl, rfl, rfl, rfl⟩, ⟨_, _, _, _, _, rfl, rfl, rfl, rfl, rfl, rfl⟩, trivial⟩, trivial⟩ rfl rfl hn ?_)
      | ((with_reducible show DrawK _ _ _ _); refine dK ?_)) <;> with_reducible refine wK ?_)
    | ((with_reducible show (_ ∧ _) ∧ _ ∧ _); (refine eK ?_ ?_ <;> with_reducible repeat' (first | exact trivial | (show _ ∧ _; refine aK ?_ ?_)))))
  all_goals first | rfl | trace_state
theorem f18_ok (f : ForM) (hs : SmallN f.nodes) (n : Int) (s v : ByteArray) (hs3 : s.size ≤ 100000) : FnOK Tryz.prog 18 [] [eFor f, eInt n, eStr s, eStr v] [] (.tup [eFor (setM f n s v).1, eNs (setM f n s v).2.1, eInt (setM f n s v).2.2]) := by
  cases ht : (rightF f && thereN f.nodes n) with
  | false =>
    have e : setM f n s v = (f, [], 1) := by unfold setM elemE; rw [ht]; rfl
    rw [e]
    exact set_bad f n s v askedW 1 f [] 1 (elem_no f hs n ht) (done_bad f hs 58 _ askedW 1)
  | true =>
    simp only [Bool.and_eq_true] at ht
    obtain ⟨hr, ht⟩ := ht
    obtain ⟨k, y, rfl, hy, _⟩ := there_iff.1 ht
    have hnd := nd_get hy
    by_cases hk : y.kind = 1
    · have he0 : elemE f k = 0 := by unfold elemE; rw [hr, ht, hnd, hk]; rfl
      have h57 := elem_yes f hs k y hy hr hk
      by_cases he : (setA y.attrs s v).2 = 0
      · have e : setM f k s v = (⟨attL f.nodes k (setA y.attrs s v).1, f.most⟩, [chNote y k s (setA y.attrs s v).1], 0) := by
          unfold setM; rw [he0, hnd]; simp only [he, ne_eq, not_true, if_false]
          unfold changeM changeN; rw [hnd, if_pos (.inr (set_found he))]
        rw [e]
        exact set_yes f k s v _ _ _ h57 (done_told f hs 58 c58 _ rfl _ _ (len_att ..) (setC_ok f.nodes f.most hs k y hy s v hs3 he))
      · have e : setM f k s v = (f, [], (setA y.attrs s v).2) := by
          unfold setM; rw [he0, hnd]; simp [he]
        rw [e]
        exact set_yes f k s v _ _ _ h57 (done_err f hs 58 c58 _ rfl setWd _ (setC_err f.nodes f.most hs k y hy s v hs3 he))
    · have e : setM f k s v = (f, [], 5) := by
        have : elemE f k = 5 := by unfold elemE; rw [hr, ht, hnd]; simp [hk]
        unfold setM; rw [this]; rfl
      rw [e]
      exact set_bad f k s v elemWd 5 f [] 5 (elem_kind f hs k y hy hr hk) (done_bad f hs 58 _ elemWd 5)
theorem f24_ok (f : ForM) (hs : SmallN f.nodes) (n : Int) (s : ByteArray) (hs3 : s.size ≤ 100000) : FnOK Tryz.prog 24 [] [eFor f, eInt n, eStr s] [] (.tup [eFor (unsetM f n s).1, eNs (unsetM f n s).2.1, eInt (unsetM f n s).2.2]) := by
  cases ht : (rightF f && thereN f.nodes n) with
  | false =>
    have e : unsetM f n s = (f, [], 1) := by unfold unsetM elemE; rw [ht]; rfl
    rw [e]
    exact unset_bad f n s askedW 1 f [] 1 (elem_no f hs n ht) (done_bad f hs 66 _ askedW 1)
  | true =>
    simp only [Bool.and_eq_true] at ht
    obtain ⟨hr, ht⟩ := ht
    obtain ⟨k, y, rfl, hy, _⟩ := there_iff.1 ht
    have hnd := nd_get hy
    by_cases hk : y.kind = 1
    · have he0 : elemE f k = 0 := by unfold elemE; rw [hr, ht, hnd, hk]; rfl
      have h57 := elem_yes f hs k y hy hr hk
      by_cases he : rightS s = true
      · have e : unsetM f k s = changeM f k s (removeA y.attrs s).1 := by
          unfold unsetM; rw [he0, hnd, he]; rfl
        rw [e]
        unfold changeM changeN
        rw [hnd]
        by_cases hf : 0 ≤ findP y.attrs s ∨ 0 ≤ findP (removeA y.attrs s).1 s
        · rw [if_pos hf]
          exact unset_yes f k s _ _ _ h57 (done_told f hs 66 c66 _ rfl _ _ (len_att ..) (unsetC_yes f.nodes f.most hs k y hy s hs3 he hf))
        · rw [if_neg hf]
          exact unset_yes f k s _ _ _ h57 (done_quiet f hs 66 c66 _ rfl _ (len_att ..) (unsetC_no f.nodes f.most hs k y hy s hs3 he ⟨fun h => hf (.inl h), fun h => hf (.inr h)⟩))
      · have he := Bool.eq_false_iff.2 he
        have e : unsetM f k s = (f, [], 4) := by
          unfold unsetM; rw [he0, he]; rfl
        rw [e]
        exact unset_yes f k s _ _ _ h57 (done_err f hs 66 c66 _ rfl unsetWd _ (unsetC_err f.nodes f.most hs k y hy s hs3 he))
    · have e : unsetM f k s = (f, [], 5) := by
        have : elemE f k = 5 := by unfold elemE; rw [hr, ht, hnd]; simp [hk]
        unfold unsetM; rw [this]; rfl
      rw [e]
      exact unset_bad f k s elemWd 5 f [] 5 (elem_kind f hs k y hy hr hk) (done_bad f hs 66 _ elemWd 5)
theorem f43_ok (f : ForM) (hs : SmallN f.nodes) (n : Int) (s : ByteArray) (c : Int) (hs3 : s.size ≤ 100000) : FnOK Tryz.prog 43 [] [eFor f, eInt n, eStr s, eInt c] [] (.tup [eFor (toggleM f n s c).1, eNs (toggleM f n s c).2.1, eInt (toggleM f n s c).2.2]) := by
  cases ht : (rightF f && thereN f.nodes n) with
  | false =>
    have e : toggleM f n s c = (f, [], 1) := by unfold toggleM elemE; rw [ht]; rfl
    rw [e]
    exact toggle_bad f n s c askedW 1 f [] 1 (elem_no f hs n ht) (done_bad f hs 94 _ askedW 1)
  | true =>
    simp only [Bool.and_eq_true] at ht
    obtain ⟨hr, ht⟩ := ht
    obtain ⟨k, y, rfl, hy, _⟩ := there_iff.1 ht
    have hnd := nd_get hy
    by_cases hk : y.kind = 1
    · have he0 : elemE f k = 0 := by unfold elemE; rw [hr, ht, hnd, hk]; rfl
      have h57 := elem_yes f hs k y hy hr hk
      by_cases he : (toggleA y.attrs s c).2.2 = 0
      · by_cases hw : decide (0 ≤ findP y.attrs s) = (toggleA y.attrs s c).2.1
        · have e : toggleM f k s c = (f, [], 0) := by
            unfold toggleM; rw [he0, hnd, if_neg (by simp), if_neg (by simp [he]), if_pos hw]
          rw [e]
          exact toggle_yes f k s c _ _ _ h57 (done_quiet f hs 94 c94 _ rfl _ rfl (toggleC_same f.nodes f.most hs k y hy s hs3 c he hw))
        · have e : toggleM f k s c = changeM f k s (toggleA y.attrs s c).1 := by
            unfold toggleM; rw [he0, hnd, if_neg (by simp), if_neg (by simp [he]), if_neg hw]
          rw [e]
          unfold changeM changeN
          rw [hnd]
          have hf : 0 ≤ findP y.attrs s ∨ 0 ≤ findP (toggleA y.attrs s c).1 s := by
            by_cases h1 : findE y.attrs s = 0
            · by_cases h2 : wantA y.attrs s c = decide (0 ≤ findP y.attrs s)
              · exact absurd (by unfold toggleA; rw [if_pos h1, if_pos h2]) hw
              · by_cases h3 : wantA y.attrs s c = true
                · have e1 : toggleA y.attrs s c = ((setA y.attrs s noS).1, decide ((setA y.attrs s noS).2 = 0), (setA y.attrs s noS).2) := by unfold toggleA; rw [if_pos h1, if_neg h2, if_pos h3]
                  rw [e1] at he ⊢
                  exact .inr (set_found he)
                · have e1 : toggleA y.attrs s c = ((removeA y.attrs s).1, false, 0) := by unfold toggleA; rw [if_pos h1, if_neg h2, if_neg h3]
                  rw [e1] at hw
                  exact .inl (by simpa using hw)
            · have e1 : toggleA y.attrs s c = (y.attrs, false, findE y.attrs s) := by unfold toggleA; rw [if_neg h1]
              rw [e1] at he
              exact absurd he h1
          rw [if_pos hf]
          exact toggle_yes f k s c _ _ _ h57 (done_told f hs 94 c94 _ rfl _ _ (len_att ..) (toggleC_yes f.nodes f.most hs k y hy s hs3 c he hw hf))
      · have e : toggleM f k s c = (f, [], (toggleA y.attrs s c).2.2) := by
          unfold toggleM; rw [he0, hnd, if_neg (by simp), if_pos he]
        rw [e]
        exact toggle_yes f k s c _ _ _ h57 (done_err f hs 94 c94 _ rfl toggleWd _ (toggleC_err f.nodes f.most hs k y hy s hs3 c he))
    · have e : toggleM f k s c = (f, [], 5) := by
        have : elemE f k = 5 := by unfold elemE; rw [hr, ht, hnd]; simp [hk]
        unfold toggleM; rw [this]; rfl
      rw [e]
      exact toggle_bad f k s c elemWd 5 f [] 5 (elem_kind f hs k y hy hr hk) (done_bad f hs 94 _ elemWd 5)
theorem set_row (l : List NodeM) (k : Nat) (x : NodeM) : (l.map oNode).set (0 + k) (oNode x) = (l.set k x).map oNode := by rw [Nat.zero_add, List.map_set]
theorem f156_ok (f : ForM) (hs : SmallN f.nodes) (hl1 : 1 ≤ f.nodes.length) (k : Nat) (hk : k < f.nodes.length) (x : NodeM) : FnOK Tryz.prog 156 [] [eFor f, eInt k, eNode x] [] (eFor ⟨f.nodes.set k x, f.most⟩) := by
  have h60 := hs.len
  have hlm : (f.nodes.map oNode).length = f.nodes.length := List.length_map ..
  have hrow := set_row f.nodes k x
  have hln : ((f.nodes.set k x).map oNode).length = f.nodes.length := by rw [List.length_map, List.length_set]
  obtain ⟨y, hy⟩ : ∃ y, f.nodes[k]? = some y := ⟨_, List.getElem?_eq_getElem hk⟩
  obtain ⟨y1, y2, y3, y4, y5, y6, y7, y8, y9, y10⟩ := y
  obtain ⟨l, m⟩ := f
  obtain ⟨x1, x2, x3, x4, x5, x6, x7, x8, x9, x10⟩ := x
  simp only at *
  refine FnOK.startC (rvs := [.cell 6 24]) G G_good Tryz.func156 rfl Tryz.ntmps156 rfl rfl ?_; with_reducible refine wD ?_
  (have fct := hlm; (repeat' (first
    | refine gF ?_
    | ((first
      | ((with_reducible show AppK _ _ _ _ _ _ _ _ _ _); refine AppK.mk [] (l.map oNode) ⟨rfl, rfl, rfl⟩ ⟨rfl, rfl, rfl⟩ (one_nodes l) (by simp; omega) (by simp; omega) ?_)
      | ((with_reducible show LtK _ _ _ _ _); refine LtK.mk k rfl (by first | exact hk | (simp; omega)) ?_)
      | ((with_reducible show ElemK _ _ _ _ _); refine ElemK.mk (eNode ⟨y1, y2, y3, y4, y5, y6, y7, y8, y9, y10⟩) (by simpa using node_get hy) ?_)
      | ((with_reducible show DrawK _ _ _ _); refine dK ?_)) <;> with_reducible refine wK ?_)
    | ((with_reducible show (_ ∧ _) ∧ _ ∧ _); (refine eK ?_ ?_ <;> with_reducible repeat' (first | exact trivial | (show _ ∧ _; refine aK ?_ ?_)))))); all_goals clear fct)
  all_goals first
    | exact frz_w rfl rfl (by rw [List.nil_append]; exact hrow) (by simp) (noRef_nodes _)
    | trace_state
theorem att_set {l : List NodeM} {k : Nat} {y : NodeM} (hy : l[k]? = some y) (xs : List AttrM) : attL l k xs = l.set k { y with attrs := xs } := by
  show l.set ((k : Int).toNat) { nd l k with attrs := xs } = _
  rw [nd_get hy, Int.toNat_natCast]
@[reducible] def eSt (f : ForM) (ns : List NoteM) : AV := .agg [eNodes f.nodes, eInt f.most, eNs ns]
theorem noRef_for (f : ForM) : noRef (eFor f) = true := by
  have h1 := noRef_nodes f.nodes
  simp [noRef, noRefL, h1]
theorem f97_ok (f : ForM) (hs : SmallN f.nodes) (k : Nat) (y : NodeM) (hy : f.nodes[k]? = some y) (s : ByteArray) (hs3 : s.size ≤ 100000) (xs : List AttrM) (hx : xs.length ≤ 100000) :
    FnOK Tryz.prog 97 [] [eFor f, eInt k, eStr s, eAttrs xs] [] (eSt ⟨attL f.nodes k xs, f.most⟩ [chNote y k s xs]) := by
  have hkl : k < f.nodes.length := (List.getElem?_eq_some_iff.1 hy).1
  have h156 := f156_ok f hs (by omega) k hkl { y with attrs := xs }
  have h151 := f151_ok s hs3
  have h100 := f100_ok y.attrs (by have := hs.attrs y (List.mem_of_getElem? hy); omega) s
  have h100x := f100_ok xs hx s
  have hn156 := noRef_for ⟨f.nodes.set k { y with attrs := xs }, f.most⟩
  rw [att_set hy]
  have hlm : (f.nodes.map oNode).length = f.nodes.length := List.length_map ..
  obtain ⟨l, m⟩ := f
  obtain ⟨y1, y2, y3, y4, y5, y6, y7, y8, y9, y10⟩ := y
  simp only at *
  generalize l.set k ⟨y1, y2, y3, y4, xs, y6, y7, y8, y9, y10⟩ = l' at *
  refine FnOK.startC (rvs := [.cell 8 56]) G G_good Tryz.func97 rfl Tryz.ntmps97 rfl rfl ?_; with_reducible refine wD ?_
  (have fct := hlm; (repeat' (first
    | refine gF ?_
    | ((first
      | (refine IdxK.mk k (eNode ⟨y1, y2, y3, y4, y5, y6, y7, y8, y9, y10⟩) rfl (node_get hy) ?_)
      | ((with_reducible show CallK _ _ 151 _ _ _ _); refine CallK.lit [] h151 c151 ⟨rfl, trivial⟩ rfl rfl ?_)
      | ((with_reducible show CallK _ _ 100 _ _ _ _); first | (refine CallK.lit [] h100 c100 ⟨rfl, rfl, trivial⟩ rfl rfl ?_) | (refine CallK.lit [] h100x c100 ⟨rfl, rfl, trivial⟩ rfl rfl ?_))
      | ((with_reducible show CallK _ _ 156 _ _ _ _); refine CallK.val [] h156 c156 ⟨⟨rfl, rfl, trivial⟩, rfl, ⟨rfl, rfl, rfl, rfl, rfl, rfl, rfl, rfl, rfl, rfl, trivial⟩, trivial⟩ rfl rfl hn156 ?_)
      | ((with_reducible show DrawK _ _ _ _); refine dK ?_)) <;> with_reducible refine wK ?_)
    | ((with_reducible show (_ ∧ _) ∧ _ ∧ _); (refine eK ?_ ?_ <;> with_reducible repeat' (first | exact trivial | (show _ ∧ _; refine aK ?_ ?_)))))); all_goals clear fct)
  all_goals first
    | rfl
    | exact frz_w rfl rfl rfl rfl rfl
    | trace_state
theorem noRef_st (f : ForM) (ns : List NoteM) : noRef (eSt f ns) = true := by
  have h1 := noRef_nodes f.nodes
  have h2 : noRefL (ns.map oNote) = true := noRefL_map oNote (fun _ => rfl) _
  simp [noRef, noRefL, h1, h2]
theorem rset_kind (f : ForM) (hs : SmallN f.nodes) (k : Nat) (y : NodeM) (hy : f.nodes[k]? = some y) (s v : ByteArray) (hs3 : s.size ≤ 100000) (hk0 : y.kind ≠ 1) :
    FnOK Tryz.prog 44 [] [eFor f, eInt k, eStr s, eStr v] [] (.tup [eSt f [], eInt 5]) := by
  have hkl : k < f.nodes.length := (List.getElem?_eq_some_iff.1 hy).1
  have hal := hs.attrs y (List.mem_of_getElem? hy)
  have hlm : (f.nodes.map oNode).length = f.nodes.length := List.length_map ..
  have hkd : (y.kind = 1) = False := eq_false hk0
  obtain ⟨l, m⟩ := f
  obtain ⟨y1, y2, y3, y4, y5, y6, y7, y8, y9, y10⟩ := y
  simp only at *
  refine FnOK.startC (rvs := [.cell 8 56, .tmp 9]) G G_good Tryz.func44 rfl Tryz.ntmps44 rfl rfl ?_; with_reducible refine wD ?_
  (have fct := And.intro hlm (hkd); (repeat' (first
    | refine gF ?_
    | ((first
      | (refine IdxK.mk k (eNode ⟨y1, y2, y3, y4, y5, y6, y7, y8, y9, y10⟩) rfl (node_get hy) ?_)
      | ((with_reducible show DrawK _ _ _ _); refine dK ?_)) <;> with_reducible refine wK ?_)
    | ((with_reducible show (_ ∧ _) ∧ _ ∧ _); (refine eK ?_ ?_ <;> with_reducible repeat' (first | exact trivial | (show _ ∧ _; refine aK ?_ ?_)))))); all_goals clear fct)
  all_goals first
    | rfl
    | exact .inr (.inr ⟨9, rfl⟩)
    | trace_state
theorem rset_err (f : ForM) (hs : SmallN f.nodes) (k : Nat) (y : NodeM) (hy : f.nodes[k]? = some y) (s v : ByteArray) (hs3 : s.size ≤ 100000) (hk0 : y.kind = 1) (he : (setA y.attrs s v).2 ≠ 0) :
    FnOK Tryz.prog 44 [] [eFor f, eInt k, eStr s, eStr v] [] (.tup [eSt f [], eInt (setA y.attrs s v).2]) := by
  have hkl : k < f.nodes.length := (List.getElem?_eq_some_iff.1 hy).1
  have hal := hs.attrs y (List.mem_of_getElem? hy)
  have hlm : (f.nodes.map oNode).length = f.nodes.length := List.length_map ..
  have hkd : (y.kind = 1) = True := eq_true hk0
  have h96 := f96_ok y.attrs (by omega) s v
  have hd := eq_false he
  generalize (setA y.attrs s v).2 = e at *
  obtain ⟨l, m⟩ := f
  obtain ⟨y1, y2, y3, y4, y5, y6, y7, y8, y9, y10⟩ := y
  simp only at *
  refine FnOK.startC (rvs := [.cell 8 56, .tmp 9]) G G_good Tryz.func44 rfl Tryz.ntmps44 rfl rfl ?_; with_reducible refine wD ?_
  (have fct := And.intro hlm (And.intro hkd (hd)); (repeat' (first
    | refine gF ?_
    | ((first
      | (refine IdxK.mk k (eNode ⟨y1, y2, y3, y4, y5, y6, y7, y8, y9, y10⟩) rfl (node_get hy) ?_)
      | ((with_reducible show CallK _ _ 96 _ _ _ _); refine CallK.val [] h96 c96 ⟨rfl, rfl, rfl, trivial⟩ rfl rfl (noRef_at2 _ _) ?_)
      | ((with_reducible show DrawK _ _ _ _); refine dK ?_)) <;> with_reducible refine wK ?_)
    | ((with_reducible show (_ ∧ _) ∧ _ ∧ _); (refine eK ?_ ?_ <;> with_reducible repeat' (first | exact trivial | (show _ ∧ _; refine aK ?_ ?_)))))); all_goals clear fct)
  all_goals first
    | rfl
    | exact .inr (.inr ⟨9, rfl⟩)
    | trace_state
theorem rset_yes (f : ForM) (hs : SmallN f.nodes) (k : Nat) (y : NodeM) (hy : f.nodes[k]? = some y) (s v : ByteArray) (hs3 : s.size ≤ 100000) (hk0 : y.kind = 1) (he : (setA y.attrs s v).2 = 0) :
    FnOK Tryz.prog 44 [] [eFor f, eInt k, eStr s, eStr v] [] (.tup [eSt ⟨attL f.nodes k (setA y.attrs s v).1, f.most⟩ [chNote y k s (setA y.attrs s v).1], eInt 0]) := by
  have hkl : k < f.nodes.length := (List.getElem?_eq_some_iff.1 hy).1
  have hal := hs.attrs y (List.mem_of_getElem? hy)
  have hlm : (f.nodes.map oNode).length = f.nodes.length := List.length_map ..
  have hkd : (y.kind = 1) = True := eq_true hk0
  have h96 := f96_ok y.attrs (by omega) s v
  rw [he] at h96
  have h97 := f97_ok f hs k y hy s hs3 (setA y.attrs s v).1 (by have := setA_len y.attrs s v; omega)
  have hn97 := noRef_st ⟨attL f.nodes k (setA y.attrs s v).1, f.most⟩ [chNote y k s (setA y.attrs s v).1]
  generalize attL f.nodes k (setA y.attrs s v).1 = l' at h97 hn97 ⊢
  generalize chNote y k s (setA y.attrs s v).1 = nt at h97 hn97 ⊢
  obtain ⟨l, m⟩ := f
  obtain ⟨y1, y2, y3, y4, y5, y6, y7, y8, y9, y10⟩ := y
  simp only at *
  refine FnOK.startC (rvs := [.cell 8 56, .tmp 9]) G G_good Tryz.func44 rfl Tryz.ntmps44 rfl rfl ?_; with_reducible refine wD ?_
  (have fct := And.intro hlm (hkd); (repeat' (first
    | refine gF ?_
    | ((first
      | (refine IdxK.mk k (eNode ⟨y1, y2, y3, y4, y5, y6, y7, y8, y9, y10⟩) rfl (node_get hy) ?_)
      | ((with_reducible show CallK _ _ 96 _ _ _ _); refine CallK.val [] h96 c96 ⟨rfl, rfl, rfl, trivial⟩ rfl rfl (noRef_at2 _ _) ?_)
      | ((with_reducible show CallK _ _ 97 _ _ _ _); refine CallK.val [] h97 c97 ⟨⟨rfl, rfl, trivial⟩, rfl, rfl, rfl, trivial⟩ rfl rfl hn97 ?_)
      | ((with_reducible show DrawK _ _ _ _); refine dK ?_)) <;> with_reducible refine wK ?_)
    | ((with_reducible show (_ ∧ _) ∧ _ ∧ _); (refine eK ?_ ?_ <;> with_reducible repeat' (first | exact trivial | (show _ ∧ _; refine aK ?_ ?_)))))); all_goals clear fct)
  all_goals first
    | rfl
    | exact .inr (.inr ⟨9, rfl⟩)
    | trace_state
theorem runset_kind (f : ForM) (hs : SmallN f.nodes) (k : Nat) (y : NodeM) (hy : f.nodes[k]? = some y) (s : ByteArray) (hs3 : s.size ≤ 100000) (hk0 : y.kind ≠ 1) :
    FnOK Tryz.prog 45 [] [eFor f, eInt k, eStr s] [] (.tup [eSt f [], eInt 5]) := by
  have hkl : k < f.nodes.length := (List.getElem?_eq_some_iff.1 hy).1
  have hal := hs.attrs y (List.mem_of_getElem? hy)
  have hlm : (f.nodes.map oNode).length = f.nodes.length := List.length_map ..
  have hkd : (y.kind = 1) = False := eq_false hk0
  obtain ⟨l, m⟩ := f
  obtain ⟨y1, y2, y3, y4, y5, y6, y7, y8, y9, y10⟩ := y
  simp only at *
  refine FnOK.startC (rvs := [.cell 6 56, .tmp 7]) G G_good Tryz.func45 rfl Tryz.ntmps45 rfl rfl ?_; with_reducible refine wD ?_
  (have fct := And.intro hlm (hkd); (repeat' (first
    | refine gF ?_
    | ((first
      | (refine IdxK.mk k (eNode ⟨y1, y2, y3, y4, y5, y6, y7, y8, y9, y10⟩) rfl (node_get hy) ?_)
      | ((with_reducible show DrawK _ _ _ _); refine dK ?_)) <;> with_reducible refine wK ?_)
    | ((with_reducible show (_ ∧ _) ∧ _ ∧ _); (refine eK ?_ ?_ <;> with_reducible repeat' (first | exact trivial | (show _ ∧ _; refine aK ?_ ?_)))))); all_goals clear fct)
  all_goals first
    | rfl
    | exact .inr (.inr ⟨9, rfl⟩)
    | trace_state
theorem runset_err (f : ForM) (hs : SmallN f.nodes) (k : Nat) (y : NodeM) (hy : f.nodes[k]? = some y) (s : ByteArray) (hs3 : s.size ≤ 100000) (hk0 : y.kind = 1) (hr : rightS s = false) :
    FnOK Tryz.prog 45 [] [eFor f, eInt k, eStr s] [] (.tup [eSt f [], eInt 4]) := by
  have hkl : k < f.nodes.length := (List.getElem?_eq_some_iff.1 hy).1
  have hal := hs.attrs y (List.mem_of_getElem? hy)
  have hlm : (f.nodes.map oNode).length = f.nodes.length := List.length_map ..
  have hkd : (y.kind = 1) = True := eq_true hk0
  have h98 := f98_ok s
  rw [hr] at h98
  obtain ⟨l, m⟩ := f
  obtain ⟨y1, y2, y3, y4, y5, y6, y7, y8, y9, y10⟩ := y
  simp only at *
  refine FnOK.startC (rvs := [.cell 6 56, .tmp 7]) G G_good Tryz.func45 rfl Tryz.ntmps45 rfl rfl ?_; with_reducible refine wD ?_
  (have fct := And.intro hlm (hkd); (repeat' (first
    | refine gF ?_
    | ((first
      | (refine IdxK.mk k (eNode ⟨y1, y2, y3, y4, y5, y6, y7, y8, y9, y10⟩) rfl (node_get hy) ?_)
      | ((with_reducible show CallK _ _ 98 _ _ _ _); refine CallK.lit [] h98 c98 ⟨rfl, trivial⟩ rfl rfl ?_)
      | ((with_reducible show DrawK _ _ _ _); refine dK ?_)) <;> with_reducible refine wK ?_)
    | ((with_reducible show (_ ∧ _) ∧ _ ∧ _); (refine eK ?_ ?_ <;> with_reducible repeat' (first | exact trivial | (show _ ∧ _; refine aK ?_ ?_)))))); all_goals clear fct)
  all_goals first
    | rfl
    | exact .inr (.inr ⟨9, rfl⟩)
    | trace_state
theorem runset_none (f : ForM) (hs : SmallN f.nodes) (k : Nat) (y : NodeM) (hy : f.nodes[k]? = some y) (s : ByteArray) (hs3 : s.size ≤ 100000) (hk0 : y.kind = 1) (hr : rightS s = true) (ho : decide (0 ≤ findP y.attrs s) = false) :
    FnOK Tryz.prog 45 [] [eFor f, eInt k, eStr s] [] (.tup [eSt f [], eInt 0]) := by
  have hkl : k < f.nodes.length := (List.getElem?_eq_some_iff.1 hy).1
  have hal := hs.attrs y (List.mem_of_getElem? hy)
  have hlm : (f.nodes.map oNode).length = f.nodes.length := List.length_map ..
  have hkd : (y.kind = 1) = True := eq_true hk0
  have h98 := f98_ok s
  have h99 := f99_ok' y.attrs (by omega) s
  rw [hr] at h98
  rw [ho] at h99
  obtain ⟨l, m⟩ := f
  obtain ⟨y1, y2, y3, y4, y5, y6, y7, y8, y9, y10⟩ := y
  simp only at *
  refine FnOK.startC (rvs := [.cell 6 56, .tmp 7]) G G_good Tryz.func45 rfl Tryz.ntmps45 rfl rfl ?_; with_reducible refine wD ?_
  (have fct := And.intro hlm (hkd); (repeat' (first
    | refine gF ?_
    | ((first
      | (refine IdxK.mk k (eNode ⟨y1, y2, y3, y4, y5, y6, y7, y8, y9, y10⟩) rfl (node_get hy) ?_)
      | ((with_reducible show CallK _ _ 98 _ _ _ _); refine CallK.lit [] h98 c98 ⟨rfl, trivial⟩ rfl rfl ?_)
      | ((with_reducible show CallK _ _ 99 _ _ _ _); refine CallK.val [] h99 c99 ⟨rfl, rfl, trivial⟩ rfl rfl (noRef_atB _ _) ?_)
      | ((with_reducible show DrawK _ _ _ _); refine dK ?_)) <;> with_reducible refine wK ?_)
    | ((with_reducible show (_ ∧ _) ∧ _ ∧ _); (refine eK ?_ ?_ <;> with_reducible repeat' (first | exact trivial | (show _ ∧ _; refine aK ?_ ?_)))))); all_goals clear fct)
  all_goals first
    | rfl
    | exact .inr (.inr ⟨9, rfl⟩)
    | trace_state
theorem runset_yes (f : ForM) (hs : SmallN f.nodes) (k : Nat) (y : NodeM) (hy : f.nodes[k]? = some y) (s : ByteArray) (hs3 : s.size ≤ 100000) (hk0 : y.kind = 1) (hr : rightS s = true) (ho : decide (0 ≤ findP y.attrs s) = true) :
    FnOK Tryz.prog 45 [] [eFor f, eInt k, eStr s] [] (.tup [eSt ⟨attL f.nodes k (removeA y.attrs s).1, f.most⟩ [chNote y k s (removeA y.attrs s).1], eInt 0]) := by
  have hkl : k < f.nodes.length := (List.getElem?_eq_some_iff.1 hy).1
  have hal := hs.attrs y (List.mem_of_getElem? hy)
  have hlm : (f.nodes.map oNode).length = f.nodes.length := List.length_map ..
  have hkd : (y.kind = 1) = True := eq_true hk0
  have h98 := f98_ok s
  have h99 := f99_ok' y.attrs (by omega) s
  rw [hr] at h98
  rw [ho] at h99
  have h97 := f97_ok f hs k y hy s hs3 (removeA y.attrs s).1 (by have := removeA_len y.attrs s; omega)
  have hn97 := noRef_st ⟨attL f.nodes k (removeA y.attrs s).1, f.most⟩ [chNote y k s (removeA y.attrs s).1]
  generalize attL f.nodes k (removeA y.attrs s).1 = l' at h97 hn97 ⊢
  generalize chNote y k s (removeA y.attrs s).1 = nt at h97 hn97 ⊢
  obtain ⟨l, m⟩ := f
  obtain ⟨y1, y2, y3, y4, y5, y6, y7, y8, y9, y10⟩ := y
  simp only at *
  refine FnOK.startC (rvs := [.cell 6 56, .tmp 7]) G G_good Tryz.func45 rfl Tryz.ntmps45 rfl rfl ?_; with_reducible refine wD ?_
  (have fct := And.intro hlm (hkd); (repeat' (first
    | refine gF ?_
    | ((first
      | (refine IdxK.mk k (eNode ⟨y1, y2, y3, y4, y5, y6, y7, y8, y9, y10⟩) rfl (node_get hy) ?_)
      | ((with_reducible show CallK _ _ 98 _ _ _ _); refine CallK.lit [] h98 c98 ⟨rfl, trivial⟩ rfl rfl ?_)
      | ((with_reducible show CallK _ _ 99 _ _ _ _); refine CallK.val [] h99 c99 ⟨rfl, rfl, trivial⟩ rfl rfl (noRef_atB _ _) ?_)
      | ((with_reducible show CallK _ _ 97 _ _ _ _); refine CallK.val [] h97 c97 ⟨⟨rfl, rfl, trivial⟩, rfl, rfl, rfl, trivial⟩ rfl rfl hn97 ?_)
      | ((with_reducible show DrawK _ _ _ _); refine dK ?_)) <;> with_reducible refine wK ?_)
    | ((with_reducible show (_ ∧ _) ∧ _ ∧ _); (refine eK ?_ ?_ <;> with_reducible repeat' (first | exact trivial | (show _ ∧ _; refine aK ?_ ?_)))))); all_goals clear fct)
  all_goals first
    | rfl
    | exact .inr (.inr ⟨9, rfl⟩)
    | trace_state
theorem rtoggle_kind (f : ForM) (hs : SmallN f.nodes) (k : Nat) (y : NodeM) (hy : f.nodes[k]? = some y) (s : ByteArray) (c : Int) (hs3 : s.size ≤ 100000) (hk0 : y.kind ≠ 1) :
    FnOK Tryz.prog 46 [] [eFor f, eInt k, eStr s, eInt c] [] (.tup [eSt f [], eInt 5]) := by
  have hkl : k < f.nodes.length := (List.getElem?_eq_some_iff.1 hy).1
  have hal := hs.attrs y (List.mem_of_getElem? hy)
  have hlm : (f.nodes.map oNode).length = f.nodes.length := List.length_map ..
  have hkd : (y.kind = 1) = False := eq_false hk0
  obtain ⟨l, m⟩ := f
  obtain ⟨y1, y2, y3, y4, y5, y6, y7, y8, y9, y10⟩ := y
  simp only at *
  refine FnOK.startC (rvs := [.cell 8 56, .tmp 9]) G G_good Tryz.func46 rfl Tryz.ntmps46 rfl rfl ?_; with_reducible refine wD ?_
  (have fct := And.intro hlm (hkd); (repeat' (first
    | refine gF ?_
    | ((first
      | (refine IdxK.mk k (eNode ⟨y1, y2, y3, y4, y5, y6, y7, y8, y9, y10⟩) rfl (node_get hy) ?_)
      | ((with_reducible show DrawK _ _ _ _); refine dK ?_)) <;> with_reducible refine wK ?_)
    | ((with_reducible show (_ ∧ _) ∧ _ ∧ _); (refine eK ?_ ?_ <;> with_reducible repeat' (first | exact trivial | (show _ ∧ _; refine aK ?_ ?_)))))); all_goals clear fct)
  all_goals first
    | rfl
    | exact .inr (.inr ⟨9, rfl⟩)
    | trace_state
theorem rtoggle_err (f : ForM) (hs : SmallN f.nodes) (k : Nat) (y : NodeM) (hy : f.nodes[k]? = some y) (s : ByteArray) (c : Int) (hs3 : s.size ≤ 100000) (hk0 : y.kind = 1) (he : (toggleA y.attrs s c).2.2 ≠ 0) :
    FnOK Tryz.prog 46 [] [eFor f, eInt k, eStr s, eInt c] [] (.tup [eSt f [], eInt (toggleA y.attrs s c).2.2]) := by
  have hkl : k < f.nodes.length := (List.getElem?_eq_some_iff.1 hy).1
  have hal := hs.attrs y (List.mem_of_getElem? hy)
  have hlm : (f.nodes.map oNode).length = f.nodes.length := List.length_map ..
  have hkd : (y.kind = 1) = True := eq_true hk0
  have h100 := f100_ok y.attrs (by omega) s
  have h101 := f101_ok y.attrs (by omega) s c
  have hd := eq_false he
  generalize (toggleA y.attrs s c).2.2 = e at *
  obtain ⟨l, m⟩ := f
  obtain ⟨y1, y2, y3, y4, y5, y6, y7, y8, y9, y10⟩ := y
  simp only at *
  refine FnOK.startC (rvs := [.cell 8 56, .tmp 9]) G G_good Tryz.func46 rfl Tryz.ntmps46 rfl rfl ?_; with_reducible refine wD ?_
  (have fct := And.intro hlm (And.intro hkd (hd)); (repeat' (first
    | refine gF ?_
    | ((first
      | (refine IdxK.mk k (eNode ⟨y1, y2, y3, y4, y5, y6, y7, y8, y9, y10⟩) rfl (node_get hy) ?_)
      | ((with_reducible show CallK _ _ 100 _ _ _ _); refine CallK.lit [] h100 c100 ⟨rfl, rfl, trivial⟩ rfl rfl ?_)
      | ((with_reducible show CallK _ _ 101 _ _ _ _); refine CallK.val [] h101 c101 ⟨rfl, rfl, rfl, trivial⟩ rfl rfl (noRef_at3 _ _ _) ?_)
      | ((with_reducible show DrawK _ _ _ _); refine dK ?_)) <;> with_reducible refine wK ?_)
    | ((with_reducible show (_ ∧ _) ∧ _ ∧ _); (refine eK ?_ ?_ <;> with_reducible repeat' (first | exact trivial | (show _ ∧ _; refine aK ?_ ?_)))))); all_goals clear fct)
  all_goals first
    | rfl
    | exact .inr (.inr ⟨9, rfl⟩)
    | trace_state
theorem rtoggle_same (f : ForM) (hs : SmallN f.nodes) (k : Nat) (y : NodeM) (hy : f.nodes[k]? = some y) (s : ByteArray) (c : Int) (hs3 : s.size ≤ 100000) (hk0 : y.kind = 1) (he : (toggleA y.attrs s c).2.2 = 0) (hw : decide (0 ≤ findP y.attrs s) = (toggleA y.attrs s c).2.1) :
    FnOK Tryz.prog 46 [] [eFor f, eInt k, eStr s, eInt c] [] (.tup [eSt f [], eInt 0]) := by
  have hkl : k < f.nodes.length := (List.getElem?_eq_some_iff.1 hy).1
  have hal := hs.attrs y (List.mem_of_getElem? hy)
  have hlm : (f.nodes.map oNode).length = f.nodes.length := List.length_map ..
  have hkd : (y.kind = 1) = True := eq_true hk0
  have h100 := f100_ok y.attrs (by omega) s
  have h101 := f101_ok y.attrs (by omega) s c
  rw [he] at h101
  have hw : (decide (0 ≤ findP y.attrs s) == (toggleA y.attrs s c).2.1) = true := by simpa using hw
  obtain ⟨l, m⟩ := f
  obtain ⟨y1, y2, y3, y4, y5, y6, y7, y8, y9, y10⟩ := y
  simp only at *
  refine FnOK.startC (rvs := [.cell 8 56, .tmp 9]) G G_good Tryz.func46 rfl Tryz.ntmps46 rfl rfl ?_; with_reducible refine wD ?_
  (have fct := And.intro hlm (And.intro hkd (hw)); (repeat' (first
    | refine gF ?_
    | ((first
      | (refine IdxK.mk k (eNode ⟨y1, y2, y3, y4, y5, y6, y7, y8, y9, y10⟩) rfl (node_get hy) ?_)
      | ((with_reducible show CallK _ _ 100 _ _ _ _); refine CallK.lit [] h100 c100 ⟨rfl, rfl, trivial⟩ rfl rfl ?_)
      | ((with_reducible show CallK _ _ 101 _ _ _ _); refine CallK.val [] h101 c101 ⟨rfl, rfl, rfl, trivial⟩ rfl rfl (noRef_at3 _ _ _) ?_)
      | ((with_reducible show DrawK _ _ _ _); refine dK ?_)) <;> with_reducible refine wK ?_)
    | ((with_reducible show (_ ∧ _) ∧ _ ∧ _); (refine eK ?_ ?_ <;> with_reducible repeat' (first | exact trivial | (show _ ∧ _; refine aK ?_ ?_)))))); all_goals clear fct)
  all_goals first
    | rfl
    | exact .inr (.inr ⟨9, rfl⟩)
    | trace_state
theorem rtoggle_yes (f : ForM) (hs : SmallN f.nodes) (k : Nat) (y : NodeM) (hy : f.nodes[k]? = some y) (s : ByteArray) (c : Int) (hs3 : s.size ≤ 100000) (hk0 : y.kind = 1) (he : (toggleA y.attrs s c).2.2 = 0) (hw : decide (0 ≤ findP y.attrs s) ≠ (toggleA y.attrs s c).2.1) :
    FnOK Tryz.prog 46 [] [eFor f, eInt k, eStr s, eInt c] [] (.tup [eSt ⟨attL f.nodes k (toggleA y.attrs s c).1, f.most⟩ [chNote y k s (toggleA y.attrs s c).1], eInt 0]) := by
  have hkl : k < f.nodes.length := (List.getElem?_eq_some_iff.1 hy).1
  have hal := hs.attrs y (List.mem_of_getElem? hy)
  have hlm : (f.nodes.map oNode).length = f.nodes.length := List.length_map ..
  have hkd : (y.kind = 1) = True := eq_true hk0
  have h100 := f100_ok y.attrs (by omega) s
  have h101 := f101_ok y.attrs (by omega) s c
  rw [he] at h101
  have hw : (decide (0 ≤ findP y.attrs s) == (toggleA y.attrs s c).2.1) = false := by simpa using hw
  have h97 := f97_ok f hs k y hy s hs3 (toggleA y.attrs s c).1 (by have := toggleA_len y.attrs s c; omega)
  have hn97 := noRef_st ⟨attL f.nodes k (toggleA y.attrs s c).1, f.most⟩ [chNote y k s (toggleA y.attrs s c).1]
  generalize attL f.nodes k (toggleA y.attrs s c).1 = l' at h97 hn97 ⊢
  generalize chNote y k s (toggleA y.attrs s c).1 = nt at h97 hn97 ⊢
  obtain ⟨l, m⟩ := f
  obtain ⟨y1, y2, y3, y4, y5, y6, y7, y8, y9, y10⟩ := y
  simp only at *
  refine FnOK.startC (rvs := [.cell 8 56, .tmp 9]) G G_good Tryz.func46 rfl Tryz.ntmps46 rfl rfl ?_; with_reducible refine wD ?_
  (have fct := And.intro hlm (And.intro hkd (hw)); (repeat' (first
    | refine gF ?_
    | ((first
      | (refine IdxK.mk k (eNode ⟨y1, y2, y3, y4, y5, y6, y7, y8, y9, y10⟩) rfl (node_get hy) ?_)
      | ((with_reducible show CallK _ _ 100 _ _ _ _); refine CallK.lit [] h100 c100 ⟨rfl, rfl, trivial⟩ rfl rfl ?_)
      | ((with_reducible show CallK _ _ 101 _ _ _ _); refine CallK.val [] h101 c101 ⟨rfl, rfl, rfl, trivial⟩ rfl rfl (noRef_at3 _ _ _) ?_)
      | ((with_reducible show CallK _ _ 97 _ _ _ _); refine CallK.val [] h97 c97 ⟨⟨rfl, rfl, trivial⟩, rfl, rfl, rfl, trivial⟩ rfl rfl hn97 ?_)
      | ((with_reducible show DrawK _ _ _ _); refine dK ?_)) <;> with_reducible refine wK ?_)
    | ((with_reducible show (_ ∧ _) ∧ _ ∧ _); (refine eK ?_ ?_ <;> with_reducible repeat' (first | exact trivial | (show _ ∧ _; refine aK ?_ ?_)))))); all_goals clear fct)
  all_goals first
    | rfl
    | exact .inr (.inr ⟨9, rfl⟩)
    | trace_state
end Go.Proofs.Heir
namespace Go.Proofs.Heir
open Go Go.Am Go.RowKit Go.Lib
set_option maxRecDepth 100000
set_option maxHeartbeats 8000000
set_option maxHeartbeats 8000000
theorem note_self (a : NoteM) (y z : Operand) (w : World) : ((do eqGuard .neq 53 y z (.agg #[.int .i64 a.kind, .int .i64 a.node, .int .i64 a.src, .int .i64 a.dst, .string a.name, .bool a.had, .bool a.has, .string a.old, .string a.new]) (.agg #[.int .i64 a.kind, .int .i64 a.node, .int .i64 a.src, .int .i64 a.dst, .string a.name, .bool a.had, .bool a.has, .string a.old, .string a.new]); binOp .neq 53 (.agg #[.int .i64 a.kind, .int .i64 a.node, .int .i64 a.src, .int .i64 a.dst, .string a.name, .bool a.had, .bool a.has, .string a.old, .string a.new]) (.agg #[.int .i64 a.kind, .int .i64 a.node, .int .i64 a.src, .int .i64 a.dst, .string a.name, .bool a.had, .bool a.has, .string a.old, .string a.new]) : Sem Value)).run Tryz.prog w = .ok (.bool false) w := by
  have hS : Tryz.prog.underlying 53 = some (.struct (Tryz.prog.fieldsOf 53)) := by kernel_rfl
  have hp : Tryz.prog.stoodInHeld 53 = false := by kernel_rfl
  have u3 := Tryz.underlying3
  have a3 := Tryz.isAgg3
  have z3 := Tryz.sizeOf3
  have u4 := Tryz.underlying4
  have a4 := Tryz.isAgg4
  have z4 := Tryz.sizeOf4
  have u9 := Tryz.underlying9
  have a9 := Tryz.isAgg9
  have z9 := Tryz.sizeOf9
  rw [Sem.run_bind, run_eqGuard_agg w .neq 53 y z _ _ (by kernel_rfl), Result.andThen_ok, run_neq_struct, show (10000 : Nat) = 9999 + 1 from rfl, run_equalIn_agg w 9999 53 _ _ hS hp]
  simp only [Program.fieldsOf, Tryz.underlying53]
  go_simp
theorem notes_same (l : List NoteM) (hl : l.length ≤ 100000) : FnOK Tryz.prog 90 [] [eNs l, eNs l] [] (eBool true) := by
  have hlm : (l.map oNote).length = l.length := List.length_map ..
  refine FnOK.startC (rvs := [.tmp 4]) G G_good Tryz.func90 rfl Tryz.ntmps90 rfl rfl ?_; with_reducible refine wD ?_
  (have fct := hlm; (repeat' (first
    | refine gF ?_
    | ((with_reducible show (_ ∧ _) ∧ _ ∧ _); (refine eK ?_ ?_ <;> with_reducible repeat' (first | exact trivial | (show _ ∧ _; refine aK ?_ ?_)))))); all_goals clear fct)
  refine LoopK.use G G_good (fun (k : Nat) => [(0, eNs l), (1, eNs l), (5, eInt k)]) (fun _ => []) (fun k => k ≤ l.length) (fun k => l.length - k) 0 (Nat.zero_le _)
    ⟨⟨rfl, rfl⟩, ⟨rfl, rfl, rfl, trivial⟩, trivial⟩ ?_
  intro k hk
  with_reducible refine wK ?_
  refine IfK.mk (fun h1 => ?_) (fun h1 => ?_) <;> (try simp only [castN] at h1) <;> with_reducible refine wK ?_
  · have hk' : k < l.length := by simp only [decide_eq_true_eq] at h1; omega
    obtain ⟨x, hx⟩ : ∃ x, l[k]? = some x := ⟨_, List.getElem?_eq_getElem hk'⟩
    obtain ⟨x1, x2, x3, x4, x5, x6, x7, x8, x9⟩ := x
    repeat' (first
    | refine gK ?_
    | ((first
      | ((with_reducible show IdxK _ _ _ _ _); refine IdxK.mk k (eNote ⟨x1, x2, x3, x4, x5, x6, x7, x8, x9⟩) rfl (note_get hx) ?_)
      | ((with_reducible show EqK _ _ _ _ _ _ _ _); refine EqK.mk _ (fun y z w => note_self ⟨x1, x2, x3, x4, x5, x6, x7, x8, x9⟩ y z w) ?_)
      | ((with_reducible show DrawK _ _ _ _); refine dK ?_)
      | ((with_reducible show NextK _ _); refine NextK.mk (k + 1) (by omega) (by omega) ⟨⟨rfl, rfl⟩, ⟨rfl, rfl, by show ((k + 1 : Nat) : Int) = (k : Int) + 1; omega, trivial⟩, trivial⟩)) <;> with_reducible refine wK ?_)
    | ((with_reducible show (_ ∧ _) ∧ _ ∧ _); (refine eK ?_ ?_ <;> with_reducible repeat' (first | exact trivial | (show _ ∧ _; refine aK ?_ ?_)))))
  · repeat' (first
    | refine gK ?_
    | ((with_reducible show (_ ∧ _) ∧ _ ∧ _); (refine eK ?_ ?_ <;> with_reducible repeat' (first | exact trivial | (show _ ∧ _; refine aK ?_ ?_)))))
theorem one_same (x : NodeM) (h1 : x.attrs.length ≤ 100000) (h2 : x.kids.length ≤ 100000) : FnOK Tryz.prog 80 [] [eNode x, eNode x] [] (eBool true) := by
  have ha := f146_ok x.attrs x.attrs h1
  rw [decide_eq_true rfl] at ha
  have hk := f25_ok x.kids x.kids h2
  rw [decide_eq_true rfl] at hk
  obtain ⟨x0, x1, x2, x3, x4, x5, x6, x7, x8, x9⟩ := x
  simp only at ha hk
  refine FnOK.startC (rvs := [.tmp 4]) G G_good Tryz.func80 rfl Tryz.ntmps80 rfl rfl ?_; with_reducible refine wD ?_
  dsimp only [List.append]; with_reducible refine wK ?_
  repeat' (first
    | refine gK ?_
    | ((first
      | ((with_reducible show CallK _ _ 146 _ _ _ _); refine CallK.lit [] ha c146 ⟨rfl, rfl, trivial⟩ rfl rfl ?_)
      | ((with_reducible show CallK _ _ 25 _ _ _ _); refine CallK.lit [] hk c25 ⟨rfl, rfl, trivial⟩ rfl rfl ?_)) <;> with_reducible refine wK ?_)
    | ((with_reducible show (_ ∧ _) ∧ _ ∧ _); (refine eK ?_ ?_ <;> with_reducible repeat' (first | exact trivial | (show _ ∧ _; refine aK ?_ ?_)))))
  all_goals first | rfl | (simp; done) | trace_state
theorem for_same (f : ForM) (hs : SmallN f.nodes) : FnOK Tryz.prog 33 [] [eFor f, eFor f] [] (eBool true) := by
  have hl1 := hs.len
  have hone : ∀ x ∈ f.nodes, FnOK Tryz.prog 80 [] [eNode x, eNode x] [] (eBool true) := fun x hx => one_same x (by have := hs.attrs x hx; omega) (by have := hs.kids x hx; omega)
  obtain ⟨l, m⟩ := f
  have hlm : (l.map oNode).length = l.length := List.length_map ..
  simp only at hone hl1
  refine FnOK.startC (rvs := [.tmp 4]) G G_good Tryz.func33 rfl Tryz.ntmps33 rfl rfl ?_; with_reducible refine wD ?_
  (have fct := hlm; (repeat' (first
    | refine gF ?_
    | ((with_reducible show (_ ∧ _) ∧ _ ∧ _); (refine eK ?_ ?_ <;> with_reducible repeat' (first | exact trivial | (show _ ∧ _; refine aK ?_ ?_)))))); all_goals clear fct)
  refine LoopK.use G G_good (fun (k : Nat) => [(2, .ptr 20 0 0), (3, .ptr 30 0 0), (5, eInt k)]) (fun _ => [(20, .live 2 [eFor ⟨l, m⟩] false), (30, .live 2 [eFor ⟨l, m⟩] false)]) (fun k => k ≤ l.length) (fun k => l.length - k) 0 (Nat.zero_le _)
    ⟨⟨rfl, rfl⟩, ⟨⟨rfl, rfl⟩, ⟨rfl, rfl⟩, rfl, trivial⟩, ⟨⟨rfl, rfl, trivial⟩, trivial⟩, ⟨⟨rfl, rfl, trivial⟩, trivial⟩, trivial⟩ ?_
  intro k0 hk0
  with_reducible refine wK ?_
  refine IfK.mk (fun h0 => ?_) (fun h0 => ?_) <;> (try simp only [castN] at h0) <;> with_reducible refine wK ?_
  · have hk' : k0 < l.length := by simp only [decide_eq_true_eq] at h0; omega
    obtain ⟨x, hx⟩ : ∃ x, l[k0]? = some x := ⟨_, List.getElem?_eq_getElem hk'⟩
    have hx1 := hone x (List.mem_of_getElem? hx)
    obtain ⟨y0, y1, y2, y3, y4, y5, y6, y7, y8, y9⟩ := x
    repeat' (first
    | refine gK ?_
    | ((first
      | ((with_reducible show IdxK _ _ _ _ _); refine IdxK.mk k0 (eNode ⟨y0, y1, y2, y3, y4, y5, y6, y7, y8, y9⟩) rfl (node_get hx) ?_)
      | ((with_reducible show CallK _ _ 80 _ _ _ _); refine CallK.lit [] hx1 c80 ⟨⟨rfl, rfl, rfl, rfl, rfl, rfl, rfl, rfl, rfl, rfl, trivial⟩, ⟨rfl, rfl, rfl, rfl, rfl, rfl, rfl, rfl, rfl, rfl, trivial⟩, trivial⟩ rfl rfl ?_)
      | ((with_reducible show DrawK _ _ _ _); refine dK ?_)
      | ((with_reducible show NextK _ _); refine NextK.mk (k0 + 1) (by omega) (by omega) ⟨⟨rfl, rfl⟩, ⟨⟨rfl, rfl⟩, ⟨rfl, rfl⟩, by show ((k0 + 1 : Nat) : Int) = (k0 : Int) + 1; omega, trivial⟩, ⟨⟨rfl, rfl, trivial⟩, trivial⟩, ⟨⟨rfl, rfl, trivial⟩, trivial⟩, trivial⟩)) <;> with_reducible refine wK ?_)
    | ((with_reducible show (_ ∧ _) ∧ _ ∧ _); (refine eK ?_ ?_ <;> with_reducible repeat' (first | exact trivial | (show _ ∧ _; refine aK ?_ ?_)))))
  · repeat' (first
    | refine gK ?_
    | ((with_reducible show (_ ∧ _) ∧ _ ∧ _); (refine eK ?_ ?_ <;> with_reducible repeat' (first | exact trivial | (show _ ∧ _; refine aK ?_ ?_)))))
theorem f40_ok (f : ForM) (hs : SmallN f.nodes) (ns : List NoteM) (hn : ns.length ≤ 100000) (e : Int) : FnOK Tryz.prog 40 [] [eFor f, eNs ns, eInt e, eSt f ns, eInt e] [] (eBool true) := by
  have h33 := for_same f hs
  have h90 := notes_same ns hn
  obtain ⟨l, m⟩ := f
  simp only at *
  refine FnOK.startC (rvs := [.tmp 10]) G G_good Tryz.func40 rfl Tryz.ntmps40 rfl rfl ?_; with_reducible refine wD ?_
  repeat' (first
    | refine gK ?_
    | ((first
      | ((with_reducible show CallK _ _ 33 _ _ _ _); refine CallK.lit [] h33 c33 ⟨⟨rfl, rfl, trivial⟩, ⟨rfl, rfl, trivial⟩, trivial⟩ rfl rfl ?_)
      | ((with_reducible show CallK _ _ 90 _ _ _ _); refine CallK.lit [] h90 c90 ⟨rfl, rfl, trivial⟩ rfl rfl ?_)
      | ((with_reducible show DrawK _ _ _ _); refine dK ?_)) <;> with_reducible refine wK ?_)
    | ((with_reducible show (_ ∧ _) ∧ _ ∧ _); (refine eK ?_ ?_ <;> with_reducible repeat' (first | exact trivial | (show _ ∧ _; refine aK ?_ ?_)))))
  all_goals first | rfl | (simp; done) | trace_state
theorem f38_ok (f : ForM) (hs : SmallN f.nodes) : FnOK Tryz.prog 38 [] [eFor f, eFor f, eNs [], eInt 1] [] (eBool true) := by
  have h33 := for_same f hs
  obtain ⟨l, m⟩ := f
  simp only at *
  refine FnOK.startC (rvs := [.tmp 8]) G G_good Tryz.func38 rfl Tryz.ntmps38 rfl rfl ?_; with_reducible refine wD ?_
  repeat' (first
    | refine gK ?_
    | ((first
      | ((with_reducible show CallK _ _ 33 _ _ _ _); refine CallK.lit [] h33 c33 ⟨⟨rfl, rfl, trivial⟩, ⟨rfl, rfl, trivial⟩, trivial⟩ rfl rfl ?_)
      | ((with_reducible show DrawK _ _ _ _); refine dK ?_)) <;> with_reducible refine wK ?_)
    | ((with_reducible show (_ ∧ _) ∧ _ ∧ _); (refine eK ?_ ?_ <;> with_reducible repeat' (first | exact trivial | (show _ ∧ _; refine aK ?_ ?_)))))
  all_goals first | rfl | (simp; done) | trace_state
end Go.Proofs.Heir
namespace Go.Proofs.Heir
open Go Go.Am Go.RowKit Go.Lib
set_option maxRecDepth 100000
set_option maxHeartbeats 8000000
theorem f44_ok (f : ForM) (hs : SmallN f.nodes) (hr : rightF f = true) (k : Nat) (y : NodeM) (hy : f.nodes[k]? = some y) (s v : ByteArray) (hs3 : s.size ≤ 100000) : FnOK Tryz.prog 44 [] [eFor f, eInt k, eStr s, eStr v] [] (.tup [eSt (setM f k s v).1 (setM f k s v).2.1, eInt (setM f k s v).2.2]) := by
  have ht := there_get hy
  have hnd := nd_get hy
  by_cases hk0 : y.kind = 1
  · have he0 : elemE f k = 0 := by unfold elemE; rw [hr, ht, hnd, hk0]; rfl
    by_cases he : (setA y.attrs s v).2 = 0
    · have e : setM f k s v = (⟨attL f.nodes k (setA y.attrs s v).1, f.most⟩, [chNote y k s (setA y.attrs s v).1], 0) := by
        unfold setM; rw [he0, hnd]; simp only [he, ne_eq, not_true, if_false]
        unfold changeM changeN; rw [hnd, if_pos (.inr (set_found he))]
      rw [e]
      exact rset_yes f hs k y hy s v hs3 hk0 he
    · have e : setM f k s v = (f, [], (setA y.attrs s v).2) := by
        unfold setM; rw [he0, hnd]; simp [he]
      rw [e]
      exact rset_err f hs k y hy s v hs3 hk0 he
  · have e : setM f k s v = (f, [], 5) := by
      have : elemE f k = 5 := by unfold elemE; rw [hr, ht, hnd]; simp [hk0]
      unfold setM; rw [this]; rfl
    rw [e]
    exact rset_kind f hs k y hy s v hs3 hk0
theorem removed_none {l : List AttrM} {s : ByteArray} (h : decide (0 ≤ findP l s) = false) : (removeA l s).1 = l := by
  unfold removeA; rw [if_neg (of_decide_eq_false h)]
theorem f45_ok (f : ForM) (hs : SmallN f.nodes) (hr : rightF f = true) (k : Nat) (y : NodeM) (hy : f.nodes[k]? = some y) (s : ByteArray) (hs3 : s.size ≤ 100000) : FnOK Tryz.prog 45 [] [eFor f, eInt k, eStr s] [] (.tup [eSt (unsetM f k s).1 (unsetM f k s).2.1, eInt (unsetM f k s).2.2]) := by
  have ht := there_get hy
  have hnd := nd_get hy
  by_cases hk0 : y.kind = 1
  · have he0 : elemE f k = 0 := by unfold elemE; rw [hr, ht, hnd, hk0]; rfl
    cases hrs : rightS s with
    | false =>
      have e : unsetM f k s = (f, [], 4) := by unfold unsetM; rw [he0, hrs]; rfl
      rw [e]
      exact runset_err f hs k y hy s hs3 hk0 hrs
    | true =>
      have e : unsetM f k s = changeM f k s (removeA y.attrs s).1 := by unfold unsetM; rw [he0, hnd, hrs]; rfl
      rw [e]
      unfold changeM changeN
      rw [hnd]
      cases ho : decide (0 ≤ findP y.attrs s) with
      | true =>
        rw [if_pos (.inl (of_decide_eq_true ho))]
        have := runset_yes f hs k y hy s hs3 hk0 hrs ho
        unfold chNote at this
        rw [ho] at this
        exact this
      | false =>
        have h1 := removed_none ho
        have h2 := of_decide_eq_false ho
        rw [h1, if_neg (by rintro (h | h) <;> exact h2 h)]
        have h3 : attL f.nodes k y.attrs = f.nodes := by
          have := att_self (l := f.nodes) ht
          rwa [hnd] at this
        rw [h3]
        exact runset_none f hs k y hy s hs3 hk0 hrs ho
  · have e : unsetM f k s = (f, [], 5) := by
      have : elemE f k = 5 := by unfold elemE; rw [hr, ht, hnd]; simp [hk0]
      unfold unsetM; rw [this]; rfl
    rw [e]
    exact runset_kind f hs k y hy s hs3 hk0
theorem toggled {l : List AttrM} {s : ByteArray} {c : Int} (he : (toggleA l s c).2.2 = 0) (hw : ¬ decide (0 ≤ findP l s) = (toggleA l s c).2.1) : 0 ≤ findP l s ∨ 0 ≤ findP (toggleA l s c).1 s := by
  by_cases h1 : findE l s = 0
  · by_cases h2 : wantA l s c = decide (0 ≤ findP l s)
    · exact absurd (by unfold toggleA; rw [if_pos h1, if_pos h2]) hw
    · by_cases h3 : wantA l s c = true
      · have e1 : toggleA l s c = ((setA l s noS).1, decide ((setA l s noS).2 = 0), (setA l s noS).2) := by unfold toggleA; rw [if_pos h1, if_neg h2, if_pos h3]
        rw [e1] at he ⊢
        exact .inr (set_found he)
      · have e1 : toggleA l s c = ((removeA l s).1, false, 0) := by unfold toggleA; rw [if_pos h1, if_neg h2, if_neg h3]
        rw [e1] at hw
        exact .inl (by simpa using hw)
  · have e1 : toggleA l s c = (l, false, findE l s) := by unfold toggleA; rw [if_neg h1]
    rw [e1] at he
    exact absurd he h1
theorem f46_ok (f : ForM) (hs : SmallN f.nodes) (hr : rightF f = true) (k : Nat) (y : NodeM) (hy : f.nodes[k]? = some y) (s : ByteArray) (hs3 : s.size ≤ 100000) (c : Int) : FnOK Tryz.prog 46 [] [eFor f, eInt k, eStr s, eInt c] [] (.tup [eSt (toggleM f k s c).1 (toggleM f k s c).2.1, eInt (toggleM f k s c).2.2]) := by
  have ht := there_get hy
  have hnd := nd_get hy
  by_cases hk0 : y.kind = 1
  · have he0 : elemE f k = 0 := by unfold elemE; rw [hr, ht, hnd, hk0]; rfl
    by_cases he : (toggleA y.attrs s c).2.2 = 0
    · by_cases hw : decide (0 ≤ findP y.attrs s) = (toggleA y.attrs s c).2.1
      · have e : toggleM f k s c = (f, [], 0) := by
          unfold toggleM; rw [he0, hnd, if_neg (by simp), if_neg (by simp [he]), if_pos hw]
        rw [e]
        exact rtoggle_same f hs k y hy s c hs3 hk0 he hw
      · have e : toggleM f k s c = changeM f k s (toggleA y.attrs s c).1 := by
          unfold toggleM; rw [he0, hnd, if_neg (by simp), if_neg (by simp [he]), if_neg hw]
        rw [e]
        unfold changeM changeN
        rw [hnd, if_pos (toggled he hw)]
        exact rtoggle_yes f hs k y hy s c hs3 hk0 he hw
    · have e : toggleM f k s c = (f, [], (toggleA y.attrs s c).2.2) := by
        unfold toggleM; rw [he0, hnd, if_neg (by simp), if_pos he]
      rw [e]
      exact rtoggle_err f hs k y hy s c hs3 hk0 he
  · have e : toggleM f k s c = (f, [], 5) := by
      have : elemE f k = 5 := by unfold elemE; rw [hr, ht, hnd]; simp [hk0]
      unfold toggleM; rw [this]; rfl
    rw [e]
    exact rtoggle_kind f hs k y hy s c hs3 hk0
theorem att_small {l : List NodeM} (hs : SmallN l) (k : Nat) {xs : List AttrM} (hx : xs.length ≤ 60) : SmallN (attL l k xs) := by
  have hmem : ∀ x ∈ attL l k xs, x ∈ l ∨ ∃ y, x = { y with attrs := xs } ∧ (y ∈ l ∨ y = noNode) := fun x hx' => by
    rcases List.mem_or_eq_of_mem_set (show x ∈ l.set ((k : Int).toNat) { nd l k with attrs := xs } from hx') with h | h
    · exact .inl h
    · refine .inr ⟨_, h, ?_⟩
      unfold nd
      cases e : l[(k : Int).toNat]? with
      | none => exact .inr rfl
      | some y => exact .inl (List.mem_of_getElem? e)
  refine ⟨by rw [len_att]; exact hs.len, fun x hx' => ?_, fun x hx' => ?_, fun x hx' => ?_⟩
  · rcases hmem x hx' with h | ⟨y, rfl, h | rfl⟩
    · exact hs.kids _ h
    · show y.kids.length ≤ 60; exact hs.kids y h
    · show noNode.kids.length ≤ 60; decide
  · rcases hmem x hx' with h | ⟨y, rfl, h | rfl⟩
    · exact hs.attrs _ h
    · exact hx
    · exact hx
  · rcases hmem x hx' with h | ⟨y, rfl, h | rfl⟩
    · exact hs.name _ h
    · show y.name.size ≤ 300; exact hs.name y h
    · show noNode.name.size ≤ 300; decide
theorem set_len {l : List AttrM} {s v : ByteArray} (h : (setA l s v).2 = 0) : (setA l s v).1.length ≤ 60 := by
  have := (rightA_all (set_ok h).2.right).1
  omega
theorem setM_small (f : ForM) (hs : SmallN f.nodes) (k : Nat) (y : NodeM) (hy : f.nodes[k]? = some y) (s v : ByteArray) : SmallN (setM f k s v).1.nodes ∧ (setM f k s v).2.1.length ≤ 1 := by
  unfold setM
  split
  · exact ⟨hs, by simp⟩
  · split
    · exact ⟨hs, by simp⟩
    · rename_i h
      refine ⟨att_small hs k (set_len (Decidable.not_not.1 h)), ?_⟩
      unfold changeM changeN; dsimp only; split <;> simp
theorem unsetM_small (f : ForM) (hs : SmallN f.nodes) (k : Nat) (y : NodeM) (hy : f.nodes[k]? = some y) (s : ByteArray) : SmallN (unsetM f k s).1.nodes ∧ (unsetM f k s).2.1.length ≤ 1 := by
  unfold unsetM
  split
  · exact ⟨hs, by simp⟩
  · split
    · exact ⟨hs, by simp⟩
    · refine ⟨att_small hs k ?_, ?_⟩
      · rw [nd_get hy]
        have h1 := removeA_len y.attrs s
        have h2 := hs.attrs y (List.mem_of_getElem? hy)
        omega
      · unfold changeM changeN; dsimp only; split <;> simp
theorem toggle_len {l : List AttrM} (hl : l.length ≤ 60) {s : ByteArray} {c : Int} (h : (toggleA l s c).2.2 = 0) : (toggleA l s c).1.length ≤ 60 := by
  unfold toggleA at h ⊢
  split at h <;> rename_i h1
  · rw [if_pos h1]
    split at h <;> rename_i h2
    · rw [if_pos h2]; exact hl
    · rw [if_neg h2]
      split at h <;> rename_i h3
      · rw [if_pos h3]; exact set_len h
      · rw [if_neg h3]; show (removeA l s).1.length ≤ 60; have := removeA_len l s; omega
  · exact absurd h h1
theorem toggleM_small (f : ForM) (hs : SmallN f.nodes) (k : Nat) (y : NodeM) (hy : f.nodes[k]? = some y) (s : ByteArray) (c : Int) : SmallN (toggleM f k s c).1.nodes ∧ (toggleM f k s c).2.1.length ≤ 1 := by
  unfold toggleM
  split
  · exact ⟨hs, by simp⟩
  · split
    · exact ⟨hs, by simp⟩
    · rename_i h
      split
      · exact ⟨hs, by simp⟩
      · refine ⟨att_small hs k (toggle_len ?_ (Decidable.not_not.1 h)), ?_⟩
        · rw [nd_get hy]; exact hs.attrs y (List.mem_of_getElem? hy)
        · unfold changeM changeN; dsimp only; split <;> simp
theorem f9_of (h26 : FnOK Tryz.prog 26 [] [] [] (eBool true)) (f : ForM) (n : Int) (s v : ByteArray) (c : Int) : FnOK Tryz.prog 9 [] [eFor f, eInt n, eStr s, eStr v, eInt c] [] (eBool true) := by
  have h16 := f16_ok f
  cases hsh : shortF f with
  | false =>
    rw [hsh] at h16
    obtain ⟨l, m⟩ := f
    refine FnOK.startC (rvs := [.tmp 10]) G G_good Tryz.func9 rfl Tryz.ntmps9 rfl rfl ?_; with_reducible refine wD ?_
    repeat' (first
    | refine gK ?_
    | ((first
      | ((with_reducible show CallK _ _ 26 _ _ _ _); refine CallK.lit [] h26 c26 trivial rfl rfl ?_)
      | ((with_reducible show CallK _ _ 16 _ _ _ _); refine CallK.lit [] h16 c16 ⟨⟨rfl, rfl, trivial⟩, trivial⟩ rfl rfl ?_)) <;> with_reducible refine wK ?_)
    | ((with_reducible show (_ ∧ _) ∧ _ ∧ _); (refine eK ?_ ?_ <;> with_reducible repeat' (first | exact trivial | (show _ ∧ _; refine aK ?_ ?_)))))
    all_goals rfl
  | true =>
    rw [hsh] at h16
    have hs := shortF_small hsh
    obtain ⟨l, m⟩ := f
    have hlm : (l.map oNode).length = l.length := List.length_map ..
    by_cases hs3 : s.size ≤ 300
    rotate_left
    · have hd := eq_true (show 300 < (s.size : Int) by omega)
      refine FnOK.startC (rvs := [.tmp 10]) G G_good Tryz.func9 rfl Tryz.ntmps9 rfl rfl ?_; with_reducible refine wD ?_
      (have fct := And.intro hlm (hd); (repeat' (first
    | refine gF ?_
    | ((first
      | ((with_reducible show CallK _ _ 26 _ _ _ _); refine CallK.lit [] h26 c26 trivial rfl rfl ?_)
      | ((with_reducible show CallK _ _ 16 _ _ _ _); refine CallK.lit [] h16 c16 ⟨⟨rfl, rfl, trivial⟩, trivial⟩ rfl rfl ?_)) <;> with_reducible refine wK ?_)
    | ((with_reducible show (_ ∧ _) ∧ _ ∧ _); (refine eK ?_ ?_ <;> with_reducible repeat' (first | exact trivial | (show _ ∧ _; refine aK ?_ ?_)))))); all_goals clear fct)
      all_goals first | rfl | trace_state
    by_cases hv3 : v.size ≤ 300
    rotate_left
    · have hd0 := eq_false (show ¬ 300 < (s.size : Int) by omega)
      have hd := eq_true (show 300 < (v.size : Int) by omega)
      refine FnOK.startC (rvs := [.tmp 10]) G G_good Tryz.func9 rfl Tryz.ntmps9 rfl rfl ?_; with_reducible refine wD ?_
      (have fct := And.intro hlm (And.intro hd0 (hd)); (repeat' (first
    | refine gF ?_
    | ((first
      | ((with_reducible show CallK _ _ 26 _ _ _ _); refine CallK.lit [] h26 c26 trivial rfl rfl ?_)
      | ((with_reducible show CallK _ _ 16 _ _ _ _); refine CallK.lit [] h16 c16 ⟨⟨rfl, rfl, trivial⟩, trivial⟩ rfl rfl ?_)) <;> with_reducible refine wK ?_)
    | ((with_reducible show (_ ∧ _) ∧ _ ∧ _); (refine eK ?_ ?_ <;> with_reducible repeat' (first | exact trivial | (show _ ∧ _; refine aK ?_ ?_)))))); all_goals clear fct)
      all_goals first | rfl | trace_state
    have hz1 := eq_false (show ¬ 300 < (s.size : Int) by omega)
    have hz2 := eq_false (show ¬ 300 < (v.size : Int) by omega)
    have h37 := f37_ok ⟨l, m⟩ hs
    rw [right_eq] at h37
    have h18 := f18_ok ⟨l, m⟩ hs n s v (by omega)
    have h24 := f24_ok ⟨l, m⟩ hs n s (by omega)
    have h43 := f43_ok ⟨l, m⟩ hs n s c (by omega)
    cases hrt : (rightF ⟨l, m⟩ && thereN l n) with
    | false =>
      have e1 : elemE ⟨l, m⟩ n = 1 := by unfold elemE; rw [hrt]; rfl
      rw [show setM ⟨l, m⟩ n s v = (⟨l, m⟩, [], 1) by unfold setM; rw [e1]; rfl] at h18
      rw [show unsetM ⟨l, m⟩ n s = (⟨l, m⟩, [], 1) by unfold unsetM; rw [e1]; rfl] at h24
      rw [show toggleM ⟨l, m⟩ n s c = (⟨l, m⟩, [], 1) by unfold toggleM; rw [e1]; rfl] at h43
      have hn18 := noRef_done ⟨l, m⟩ [] 1
      have hn24 := hn18
      have hn43 := hn18
      have h38 := f38_ok ⟨l, m⟩ hs
      simp only at h18 h24 h43
      cases hr : rightF ⟨l, m⟩ with
      | false =>
        rw [hr] at h37
        refine FnOK.startC (rvs := [.tmp 10]) G G_good Tryz.func9 rfl Tryz.ntmps9 rfl rfl ?_; with_reducible refine wD ?_
        (have fct := And.intro hlm (And.intro hz1 (hz2)); (repeat' (first
    | refine gF ?_
    | ((first
      | ((with_reducible show CallK _ _ 26 _ _ _ _); refine CallK.lit [] h26 c26 trivial rfl rfl ?_)
      | ((with_reducible show CallK _ _ 16 _ _ _ _); refine CallK.lit [] h16 c16 ⟨⟨rfl, rfl, trivial⟩, trivial⟩ rfl rfl ?_)
      | ((with_reducible show CallK _ _ 18 _ _ _ _); refine CallK.val [] h18 c18 ⟨⟨rfl, rfl, trivial⟩, rfl, rfl, rfl, trivial⟩ rfl rfl hn18 ?_)
      | ((with_reducible show CallK _ _ 24 _ _ _ _); refine CallK.val [] h24 c24 ⟨⟨rfl, rfl, trivial⟩, rfl, rfl, trivial⟩ rfl rfl hn24 ?_)
      | ((with_reducible show CallK _ _ 43 _ _ _ _); refine CallK.val [] h43 c43 ⟨⟨rfl, rfl, trivial⟩, rfl, rfl, rfl, trivial⟩ rfl rfl hn43 ?_)
      | ((with_reducible show CallK _ _ 37 _ _ _ _); refine CallK.lit [] h37 c37 ⟨⟨rfl, rfl, trivial⟩, trivial⟩ rfl rfl ?_)
      | ((with_reducible show CallK _ _ 38 _ _ _ _); refine CallK.lit [] h38 c38 ⟨⟨rfl, rfl, trivial⟩, ⟨rfl, rfl, trivial⟩, rfl, rfl, trivial⟩ rfl rfl ?_)
      | ((with_reducible show DrawK _ _ _ _); refine dK ?_)) <;> with_reducible refine wK ?_)
    | ((with_reducible show (_ ∧ _) ∧ _ ∧ _); (refine eK ?_ ?_ <;> with_reducible repeat' (first | exact trivial | (show _ ∧ _; refine aK ?_ ?_)))))); all_goals clear fct)
        all_goals first | rfl | (simp; done) | trace_state
      | true =>
        rw [hr] at h37 hrt
        rw [Bool.true_and] at hrt
        by_cases e0 : n < 0
        · have e0' := eq_true e0
          refine FnOK.startC (rvs := [.tmp 10]) G G_good Tryz.func9 rfl Tryz.ntmps9 rfl rfl ?_; with_reducible refine wD ?_
          (have fct := And.intro hlm (And.intro hz1 (And.intro hz2 (e0'))); (repeat' (first
    | refine gF ?_
    | ((first
      | ((with_reducible show CallK _ _ 26 _ _ _ _); refine CallK.lit [] h26 c26 trivial rfl rfl ?_)
      | ((with_reducible show CallK _ _ 16 _ _ _ _); refine CallK.lit [] h16 c16 ⟨⟨rfl, rfl, trivial⟩, trivial⟩ rfl rfl ?_)
      | ((with_reducible show CallK _ _ 18 _ _ _ _); refine CallK.val [] h18 c18 ⟨⟨rfl, rfl, trivial⟩, rfl, rfl, rfl, trivial⟩ rfl rfl hn18 ?_)
      | ((with_reducible show CallK _ _ 24 _ _ _ _); refine CallK.val [] h24 c24 ⟨⟨rfl, rfl, trivial⟩, rfl, rfl, trivial⟩ rfl rfl hn24 ?_)
      | ((with_reducible show CallK _ _ 43 _ _ _ _); refine CallK.val [] h43 c43 ⟨⟨rfl, rfl, trivial⟩, rfl, rfl, rfl, trivial⟩ rfl rfl hn43 ?_)
      | ((with_reducible show CallK _ _ 37 _ _ _ _); refine CallK.lit [] h37 c37 ⟨⟨rfl, rfl, trivial⟩, trivial⟩ rfl rfl ?_)
      | ((with_reducible show CallK _ _ 38 _ _ _ _); refine CallK.lit [] h38 c38 ⟨⟨rfl, rfl, trivial⟩, ⟨rfl, rfl, trivial⟩, rfl, rfl, trivial⟩ rfl rfl ?_)
      | ((with_reducible show DrawK _ _ _ _); refine dK ?_)) <;> with_reducible refine wK ?_)
    | ((with_reducible show (_ ∧ _) ∧ _ ∧ _); (refine eK ?_ ?_ <;> with_reducible repeat' (first | exact trivial | (show _ ∧ _; refine aK ?_ ?_)))))); all_goals clear fct)
          all_goals first | rfl | (simp; done) | trace_state
        · have e0' := eq_false e0
          have e2 := eq_true (show (l.length : Int) ≤ n by unfold thereN at hrt; simp at hrt; omega)
          refine FnOK.startC (rvs := [.tmp 10]) G G_good Tryz.func9 rfl Tryz.ntmps9 rfl rfl ?_; with_reducible refine wD ?_
          (have fct := And.intro hlm (And.intro hz1 (And.intro hz2 (And.intro e0' (e2)))); (repeat' (first
    | refine gF ?_
    | ((first
      | ((with_reducible show CallK _ _ 26 _ _ _ _); refine CallK.lit [] h26 c26 trivial rfl rfl ?_)
      | ((with_reducible show CallK _ _ 16 _ _ _ _); refine CallK.lit [] h16 c16 ⟨⟨rfl, rfl, trivial⟩, trivial⟩ rfl rfl ?_)
      | ((with_reducible show CallK _ _ 18 _ _ _ _); refine CallK.val [] h18 c18 ⟨⟨rfl, rfl, trivial⟩, rfl, rfl, rfl, trivial⟩ rfl rfl hn18 ?_)
      | ((with_reducible show CallK _ _ 24 _ _ _ _); refine CallK.val [] h24 c24 ⟨⟨rfl, rfl, trivial⟩, rfl, rfl, trivial⟩ rfl rfl hn24 ?_)
      | ((with_reducible show CallK _ _ 43 _ _ _ _); refine CallK.val [] h43 c43 ⟨⟨rfl, rfl, trivial⟩, rfl, rfl, rfl, trivial⟩ rfl rfl hn43 ?_)
      | ((with_reducible show CallK _ _ 37 _ _ _ _); refine CallK.lit [] h37 c37 ⟨⟨rfl, rfl, trivial⟩, trivial⟩ rfl rfl ?_)
      | ((with_reducible show CallK _ _ 38 _ _ _ _); refine CallK.lit [] h38 c38 ⟨⟨rfl, rfl, trivial⟩, ⟨rfl, rfl, trivial⟩, rfl, rfl, trivial⟩ rfl rfl ?_)
      | ((with_reducible show DrawK _ _ _ _); refine dK ?_)) <;> with_reducible refine wK ?_)
    | ((with_reducible show (_ ∧ _) ∧ _ ∧ _); (refine eK ?_ ?_ <;> with_reducible repeat' (first | exact trivial | (show _ ∧ _; refine aK ?_ ?_)))))); all_goals clear fct)
          all_goals first | rfl | (simp; done) | trace_state
    | true =>
      simp only [Bool.and_eq_true] at hrt
      obtain ⟨hr, ht⟩ := hrt
      obtain ⟨k, y, rfl, hy, _⟩ := there_iff.1 ht
      rw [hr] at h37
      obtain ⟨b1, b2⟩ := setM_small ⟨l, m⟩ hs k y hy s v
      obtain ⟨b3, b4⟩ := unsetM_small ⟨l, m⟩ hs k y hy s
      obtain ⟨b5, b6⟩ := toggleM_small ⟨l, m⟩ hs k y hy s c
      have h44 := f44_ok ⟨l, m⟩ hs hr k y hy s v (by omega)
      have h45 := f45_ok ⟨l, m⟩ hs hr k y hy s (by omega)
      have h46 := f46_ok ⟨l, m⟩ hs hr k y hy s (by omega) c
      have k1 := f40_ok _ b1 (setM ⟨l, m⟩ k s v).2.1 (by omega) (setM ⟨l, m⟩ k s v).2.2
      have k2 := f40_ok _ b3 (unsetM ⟨l, m⟩ k s).2.1 (by omega) (unsetM ⟨l, m⟩ k s).2.2
      have k3 := f40_ok _ b5 (toggleM ⟨l, m⟩ k s c).2.1 (by omega) (toggleM ⟨l, m⟩ k s c).2.2
      have hkl : k < l.length := (List.getElem?_eq_some_iff.1 hy).1
      have e0 := eq_false (show ¬ (k : Int) < 0 by omega)
      have e2 := eq_false (show ¬ (l.length : Int) ≤ (k : Int) by omega)
      clear b1 b2 b3 b4 b5 b6
      generalize setM ⟨l, m⟩ k s v = r1 at *
      generalize unsetM ⟨l, m⟩ k s = r2 at *
      generalize toggleM ⟨l, m⟩ k s c = r3 at *
      obtain ⟨⟨l1, m1⟩, n1, z1⟩ := r1
      obtain ⟨⟨l2, m2⟩, n2, z2⟩ := r2
      obtain ⟨⟨l3, m3⟩, n3, z3⟩ := r3
      have hn18 := noRef_done ⟨l1, m1⟩ n1 z1
      have hn24 := noRef_done ⟨l2, m2⟩ n2 z2
      have hn43 := noRef_done ⟨l3, m3⟩ n3 z3
      have hn44 : noRef (.tup [eSt ⟨l1, m1⟩ n1, eInt z1]) = true := rfl
      simp only at h18 h24 h43 h44 h45 h46 k1 k2 k3
      refine FnOK.startC (rvs := [.tmp 10]) G G_good Tryz.func9 rfl Tryz.ntmps9 rfl rfl ?_; with_reducible refine wD ?_
      (have fct := And.intro hlm (And.intro hz1 (And.intro hz2 (And.intro e0 (e2)))); (repeat' (first
    | refine gF ?_
    | ((first
      | ((with_reducible show CallK _ _ 26 _ _ _ _); refine CallK.lit [] h26 c26 trivial rfl rfl ?_)
      | ((with_reducible show CallK _ _ 16 _ _ _ _); refine CallK.lit [] h16 c16 ⟨⟨rfl, rfl, trivial⟩, trivial⟩ rfl rfl ?_)
      | ((with_reducible show CallK _ _ 18 _ _ _ _); refine CallK.val [] h18 c18 ⟨⟨rfl, rfl, trivial⟩, rfl, rfl, rfl, trivial⟩ rfl rfl hn18 ?_)
      | ((with_reducible show CallK _ _ 24 _ _ _ _); refine CallK.val [] h24 c24 ⟨⟨rfl, rfl, trivial⟩, rfl, rfl, trivial⟩ rfl rfl hn24 ?_)
      | ((with_reducible show CallK _ _ 43 _ _ _ _); refine CallK.val [] h43 c43 ⟨⟨rfl, rfl, trivial⟩, rfl, rfl, rfl, trivial⟩ rfl rfl hn43 ?_)
      | ((with_reducible show CallK _ _ 37 _ _ _ _); refine CallK.lit [] h37 c37 ⟨⟨rfl, rfl, trivial⟩, trivial⟩ rfl rfl ?_)
      | ((with_reducible show CallK _ _ 44 _ _ _ _); refine CallK.val [] h44 c44 ⟨⟨rfl, rfl, trivial⟩, rfl, rfl, rfl, trivial⟩ rfl rfl rfl ?_)
      | ((with_reducible show CallK _ _ 45 _ _ _ _); refine CallK.val [] h45 c45 ⟨⟨rfl, rfl, trivial⟩, rfl, rfl, trivial⟩ rfl rfl rfl ?_)
      | ((with_reducible show CallK _ _ 46 _ _ _ _); refine CallK.val [] h46 c46 ⟨⟨rfl, rfl, trivial⟩, rfl, rfl, rfl, trivial⟩ rfl rfl rfl ?_)
      | ((with_reducible show CallK _ _ 40 _ _ _ _); first | (refine CallK.lit [] k1 c40 ⟨⟨rfl, rfl, trivial⟩, rfl, rfl, ⟨rfl, rfl, rfl, trivial⟩, rfl, trivial⟩ rfl rfl ?_) | (refine CallK.lit [] k2 c40 ⟨⟨rfl, rfl, trivial⟩, rfl, rfl, ⟨rfl, rfl, rfl, trivial⟩, rfl, trivial⟩ rfl rfl ?_) | (refine CallK.lit [] k3 c40 ⟨⟨rfl, rfl, trivial⟩, rfl, rfl, ⟨rfl, rfl, rfl, trivial⟩, rfl, trivial⟩ rfl rfl ?_))
      | ((with_reducible show DrawK _ _ _ _); refine dK ?_)) <;> with_reducible refine wK ?_)
    | ((with_reducible show (_ ∧ _) ∧ _ ∧ _); (refine eK ?_ ?_ <;> with_reducible repeat' (first | exact trivial | (show _ ∧ _; refine aK ?_ ?_)))))); all_goals clear fct)
      all_goals first | rfl | (simp; done) | trace_state
end Go.Proofs.Heir
