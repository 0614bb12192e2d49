/- Models, plain laws and contracts of functions of the given program; conditions as stated in each theorem. By an AI agent. -/
import Derived.Test.YtkhjcnjicjgfiaaGreatDoorW9
import Derived.Test.YtkhjcnjicjgfiaaGreatDoorW10
import Derived.Test.YtkhjcnjicjgfiaaGreatDoorW6
import Derived.Test.YtkhjcnjicjgfiaaGreatDoorW7
import Derived.Test.YtkhjcnjicjgfiaaGreatDoorW2
import Derived.Test.YtkhjcnjicjgfiaaGreatDoorRows
import Derived.ProofKit
import Derived.LaidMore
import Derived.OpenShut
import Derived.Stop.Joined
import Derived.Lib.LaidTab
import Derived.MakeChecks
set_option linter.unusedSimpArgs false
set_option linter.unusedVariables false
namespace Go.Proofs.Heir
open Go Go.Am Go.RowKit Go.Lib
set_option maxRecDepth 100000
set_option maxHeartbeats 8000000
@[reducible] def stepV (what : ByteArray) (e : Int) : Value := .iface 178 (.agg #[.string what, .iface 176 (.agg #[.int .i64 e])])
@[reducible] def askedW : ByteArray := ⟨#[97, 115, 107, 101, 100]⟩
@[reducible] def elemWd : ByteArray := ⟨#[101, 108, 101, 109]⟩
@[reducible] def noErr : AV := .lit .nilIface
theorem refused_calls1 (what : ByteArray) (e : Int) (he : e ≠ 0) (w : World) : Calls Tryz.prog 60 #[.string what, .int .i64 e] w fun ev w' => ev = .returned (stepV what e) ∧ w' = w := by
  go_enter Tryz.func60, Tryz.ntmps60
  go_wp2
  go_ret
  exact ⟨rfl, rfl⟩
theorem refused1 (what : ByteArray) (e : Int) (he : e ≠ 0) : FnOK Tryz.prog 60 [] [eStr what, eInt e] [] (.lit (stepV what e)) :=
  FnOK.of_calls (vs := [.string what, .int .i64 e]) fun w _ => (refused_calls1 what e he w).mono (by rintro e w' ⟨rfl, rfl⟩; exact ⟨rfl, Below.refl _ _⟩)
theorem there_yes (f : ForM) (hs : SmallN f.nodes) (n : Int) (h : (rightF f && thereN f.nodes n) = true) : FnOK Tryz.prog 77 [] [eFor f, eInt n] [] noErr := by
  have h17 := f17_ok f hs
  have hr : rightF f = true := by simp only [Bool.and_eq_true] at h; exact h.1
  have ht : thereN f.nodes n = true := by simp only [Bool.and_eq_true] at h; exact h.2
  rw [hr] at h17
  obtain ⟨l, m⟩ := f
  simp only at h17 ht
  have hlm : (l.map oNode).length = l.length := List.length_map ..
  have e0 : ¬ n < 0 := by unfold thereN at ht; simp at ht; omega
  have e1 : ¬ (l.length : Int) ≤ n := by unfold thereN at ht; simp at ht; omega
  refine FnOK.startC (rvs := [.tmp 4]) G G_good Tryz.func77 rfl Tryz.ntmps77 rfl rfl ?_; with_reducible refine wD ?_
  (have fct := And.intro hlm (And.intro e0 (e1)); (repeat' (first
    | refine gF ?_
    | (((with_reducible show CallK _ _ 17 _ _ _ _); refine CallK.lit [] h17 c17 ⟨⟨rfl, rfl, trivial⟩, trivial⟩ rfl rfl ?_) <;> with_reducible refine wK ?_)
    | ((with_reducible show (_ ∧ _) ∧ _ ∧ _); (refine eK ?_ ?_ <;> with_reducible repeat' (first | exact trivial | (show _ ∧ _; refine aK ?_ ?_)))))); all_goals clear fct)
  all_goals rfl
theorem there_no (f : ForM) (hs : SmallN f.nodes) (n : Int) (h : (rightF f && thereN f.nodes n) = false) : FnOK Tryz.prog 77 [] [eFor f, eInt n] [] (.lit (stepV askedW 1)) := by
  have h17 := f17_ok f hs
  have h60 := refused1 askedW 1 (by decide)
  obtain ⟨l, m⟩ := f
  simp only at h h17
  have hlm : (l.map oNode).length = l.length := List.length_map ..
  cases hr : rightF ⟨l, m⟩ with
  | false =>
    rw [hr] at h17
    refine FnOK.startC (rvs := [.tmp 4]) G G_good Tryz.func77 rfl Tryz.ntmps77 rfl rfl ?_; with_reducible refine wD ?_
    (have fct := hlm; (repeat' (first
    | refine gF ?_
    | ((first
      | ((with_reducible show CallK _ _ 17 _ _ _ _); refine CallK.lit [] h17 c17 ⟨⟨rfl, rfl, trivial⟩, trivial⟩ rfl rfl ?_)
      | ((with_reducible show CallK _ _ 60 _ _ _ _); refine CallK.lit [] h60 c60 ⟨rfl, rfl, trivial⟩ rfl rfl ?_)) <;> with_reducible refine wK ?_)
    | ((with_reducible show (_ ∧ _) ∧ _ ∧ _); (refine eK ?_ ?_ <;> with_reducible repeat' (first | exact trivial | (show _ ∧ _; refine aK ?_ ?_)))))); all_goals clear fct)
    all_goals rfl
  | true =>
    have ht : thereN l n = false := by rw [hr] at h; simpa using h
    rw [hr] at h17
    by_cases e0 : n < 0
    · refine FnOK.startC (rvs := [.tmp 4]) G G_good Tryz.func77 rfl Tryz.ntmps77 rfl rfl ?_; with_reducible refine wD ?_
      (have fct := And.intro hlm (e0); (repeat' (first
    | refine gF ?_
    | ((first
      | ((with_reducible show CallK _ _ 17 _ _ _ _); refine CallK.lit [] h17 c17 ⟨⟨rfl, rfl, trivial⟩, trivial⟩ rfl rfl ?_)
      | ((with_reducible show CallK _ _ 60 _ _ _ _); refine CallK.lit [] h60 c60 ⟨rfl, rfl, trivial⟩ rfl rfl ?_)) <;> with_reducible refine wK ?_)
    | ((with_reducible show (_ ∧ _) ∧ _ ∧ _); (refine eK ?_ ?_ <;> with_reducible repeat' (first | exact trivial | (show _ ∧ _; refine aK ?_ ?_)))))); all_goals clear fct)
      all_goals rfl
    · have e1 : (l.length : Int) ≤ n := by unfold thereN at ht; simp at ht; omega
      refine FnOK.startC (rvs := [.tmp 4]) G G_good Tryz.func77 rfl Tryz.ntmps77 rfl rfl ?_; with_reducible refine wD ?_
      (have fct := And.intro hlm (And.intro e0 (e1)); (repeat' (first
    | refine gF ?_
    | ((first
      | ((with_reducible show CallK _ _ 17 _ _ _ _); refine CallK.lit [] h17 c17 ⟨⟨rfl, rfl, trivial⟩, trivial⟩ rfl rfl ?_)
      | ((with_reducible show CallK _ _ 60 _ _ _ _); refine CallK.lit [] h60 c60 ⟨rfl, rfl, trivial⟩ rfl rfl ?_)) <;> with_reducible refine wK ?_)
    | ((with_reducible show (_ ∧ _) ∧ _ ∧ _); (refine eK ?_ ?_ <;> with_reducible repeat' (first | exact trivial | (show _ ∧ _; refine aK ?_ ?_)))))); all_goals clear fct)
      all_goals rfl
theorem elem_yes (f : ForM) (hs : SmallN f.nodes) (k : Nat) (y : NodeM) (hy : f.nodes[k]? = some y) (hr : rightF f = true) (hk : y.kind = 1) : FnOK Tryz.prog 57 [] [eFor f, eInt k] [] noErr := by
  have h77 := there_yes f hs k (by rw [hr, there_get hy]; rfl)
  obtain ⟨l, m⟩ := f
  simp only at h77 hy
  have hkl : k < l.length := (List.getElem?_eq_some_iff.1 hy).1
  have hlm : (l.map oNode).length = l.length := List.length_map ..
  obtain ⟨y1, y2, y3, y4, y5, y6, y7, y8, y9, y10⟩ := y
  simp only at hk
  subst hk
  refine FnOK.startC (rvs := [.tmp 4]) G G_good Tryz.func57 rfl Tryz.ntmps57 rfl rfl ?_; with_reducible refine wD ?_
  (have fct := hlm; (repeat' (first
    | refine gF ?_
    | ((first
      | ((with_reducible show CallK _ _ 77 _ _ _ _); refine CallK.lit [] h77 c77 ⟨⟨rfl, rfl, trivial⟩, rfl, trivial⟩ rfl rfl ?_)
      | ((with_reducible show IdxK _ _ _ _ _); refine IdxK.mk k (eNode ⟨1, y2, y3, y4, y5, y6, y7, y8, y9, y10⟩) rfl (node_get hy) ?_)
      | ((with_reducible show HandK _ _ _ _ _); first | refine HandK.nilEq true Tryz.underlying98 rfl rfl rfl rfl rfl ?_ | refine HandK.nilNe false Tryz.underlying98 rfl rfl rfl rfl rfl ?_)) <;> with_reducible refine wK ?_)
    | ((with_reducible show (_ ∧ _) ∧ _ ∧ _); (refine eK ?_ ?_ <;> with_reducible repeat' (first | exact trivial | (show _ ∧ _; refine aK ?_ ?_)))))); all_goals clear fct)
  all_goals first | rfl | trace_state
theorem elem_kind (f : ForM) (hs : SmallN f.nodes) (k : Nat) (y : NodeM) (hy : f.nodes[k]? = some y) (hr : rightF f = true) (hk : y.kind ≠ 1) : FnOK Tryz.prog 57 [] [eFor f, eInt k] [] (.lit (stepV elemWd 5)) := by
  have h77 := there_yes f hs k (by rw [hr, there_get hy]; rfl)
  have h60 := refused1 elemWd 5 (by decide)
  obtain ⟨l, m⟩ := f
  simp only at h77 hy
  have hkl : k < l.length := (List.getElem?_eq_some_iff.1 hy).1
  have hlm : (l.map oNode).length = l.length := List.length_map ..
  obtain ⟨y1, y2, y3, y4, y5, y6, y7, y8, y9, y10⟩ := y
  simp only at hk
  have hk := decide_eq_false hk
  refine FnOK.startC (rvs := [.tmp 4]) G G_good Tryz.func57 rfl Tryz.ntmps57 rfl rfl ?_; with_reducible refine wD ?_
  (have fct := And.intro hlm (hk); (repeat' (first
    | refine gF ?_
    | ((first
      | ((with_reducible show CallK _ _ 77 _ _ _ _); refine CallK.lit [] h77 c77 ⟨⟨rfl, rfl, trivial⟩, rfl, trivial⟩ rfl rfl ?_)
      | ((with_reducible show CallK _ _ 60 _ _ _ _); refine CallK.lit [] h60 c60 ⟨rfl, rfl, trivial⟩ rfl rfl ?_)
      | ((with_reducible show IdxK _ _ _ _ _); refine IdxK.mk k (eNode ⟨y1, y2, y3, y4, y5, y6, y7, y8, y9, y10⟩) rfl (node_get hy) ?_)
      | ((with_reducible show HandK _ _ _ _ _); first | refine HandK.nilEq true Tryz.underlying98 rfl rfl rfl rfl rfl ?_ | refine HandK.nilNe false Tryz.underlying98 rfl rfl rfl rfl rfl ?_)) <;> with_reducible refine wK ?_)
    | ((with_reducible show (_ ∧ _) ∧ _ ∧ _); (refine eK ?_ ?_ <;> with_reducible repeat' (first | exact trivial | (show _ ∧ _; refine aK ?_ ?_)))))); all_goals clear fct)
  all_goals first | rfl | trace_state
theorem elem_no (f : ForM) (hs : SmallN f.nodes) (n : Int) (h : (rightF f && thereN f.nodes n) = false) : FnOK Tryz.prog 57 [] [eFor f, eInt n] [] (.lit (stepV askedW 1)) := by
  have h77 := there_no f hs n h
  refine FnOK.startC (rvs := [.tmp 4]) G G_good Tryz.func57 rfl Tryz.ntmps57 rfl rfl ?_; with_reducible refine wD ?_
  repeat' (first
    | refine gK ?_
    | ((first
      | ((with_reducible show CallK _ _ 77 _ _ _ _); refine CallK.lit [] h77 c77 ⟨⟨rfl, rfl, trivial⟩, rfl, trivial⟩ rfl rfl ?_)
      | ((with_reducible show HandK _ _ _ _ _); first | refine HandK.nilEq false Tryz.underlying98 rfl rfl rfl rfl rfl ?_ | refine HandK.nilNe true Tryz.underlying98 rfl rfl rfl rfl rfl ?_)) <;> with_reducible refine wK ?_)
    | ((with_reducible show (_ ∧ _) ∧ _ ∧ _); (refine eK ?_ ?_ <;> with_reducible repeat' (first | exact trivial | (show _ ∧ _; refine aK ?_ ?_)))))
  all_goals first | rfl | trace_state
end Go.Proofs.Heir
namespace Go.Proofs.Heir
open Go Go.Am Go.RowKit Go.Lib
set_option maxRecDepth 100000
set_option maxHeartbeats 8000000
set_option maxHeartbeats 8000000
theorem find_at {l : List AttrM} {n : ByteArray} (hr : rightA l = true) (hn : rightS n = true) {k : Nat} {a : AttrM} (h : l[k]? = some a) (e : a.name = lowS n) : findP l n = k := by
  rw [findP_ref hr hn, ← e]; exact posA_atH (rightA_nodup hr) h
theorem set_shape {l : List AttrM} {n v : ByteArray} (h : (setA l n v).2 = 0) : (rightA l = true ∧ rightS n = true ∧ v.size ≤ 200) ∧ ((∃ (k : Nat) (o : AttrM), findP l n = k ∧ l[k]? = some o ∧ o.name = lowS n ∧ (setA l n v).1 = l.set k ⟨lowS n, v⟩) ∨ (¬ 0 ≤ findP l n ∧ l.length ≠ 40 ∧ (setA l n v).1 = l ++ [⟨lowS n, v⟩])) := by
  unfold setA at h ⊢
  by_cases hE : findE l n = 0
  · obtain ⟨h1, h2, _⟩ := findE_zero hE
    rw [if_pos hE] at h ⊢
    by_cases hv : v.size ≤ 200
    · rw [if_pos hv] at h ⊢
      refine ⟨⟨h1, h2, hv⟩, ?_⟩
      by_cases hP : 0 ≤ findP l n
      · rw [if_pos hP]
        rcases findP_cases l n with e | ⟨k, o, e1, e2, e3⟩
        · omega
        · exact .inl ⟨k, o, e1, e2, e3, by rw [e1, Int.toNat_natCast]⟩
      · rw [if_neg hP] at h ⊢
        by_cases hl : l.length = 40
        · rw [if_pos hl] at h; cases h
        · rw [if_neg hl]; exact .inr ⟨hP, hl, rfl⟩
    · rw [if_neg hv] at h; cases h
  · rw [if_neg hE] at h; exact absurd h hE
theorem set_at {l : List AttrM} {n v : ByteArray} (h : (setA l n v).2 = 0) : ∃ k : Nat, (setA l n v).1[k]? = some ⟨lowS n, v⟩ := by
  rcases (set_shape h).2 with ⟨k, o, _, h2, _, h4⟩ | ⟨_, _, h4⟩
  · have := (List.getElem?_eq_some_iff.1 h2).1
    exact ⟨k, by rw [h4, List.getElem?_set, if_pos rfl, if_pos this]⟩
  · exact ⟨l.length, by rw [h4, List.getElem?_append_right (Nat.le_refl _), Nat.sub_self]; rfl⟩
section
variable {l l' : List NodeM} {m : Int}
theorem att_att {n : Int} (hn : thereN l n = true) (xs ys : List AttrM) : attL (attL l n xs) n ys = attL l n ys := by
  have T := there_len (len_att l n xs)
  refine nodes_ext (by rw [len_att, len_att, len_att]) fun x hx => ?_
  have hx0 : thereN l x = true := by rw [there_len (len_att l n ys)] at hx; exact hx
  rw [nd_att (by rw [T]; exact hn) (by rw [T]; exact hx0), nd_att hn hx0, nd_att hn hx0]
  by_cases e : x = n
  · rw [if_pos e, if_pos e, if_pos e]
  · rw [if_neg e, if_neg e, if_neg e]
theorem att_self {n : Int} (hn : thereN l n = true) : attL l n (nd l n).attrs = l := by
  refine nodes_ext (len_att ..) fun x hx => ?_
  rw [nd_att hn hx]
  by_cases e : x = n
  · rw [if_pos e, e]
  · rw [if_neg e]
theorem nd_att_self {n : Int} {xs : List AttrM} (hn : thereN l n = true) : (nd (attL l n xs) n).attrs = xs := by rw [nd_att hn hn, if_pos rfl]
end
end Go.Proofs.Heir
namespace Go.Proofs.Heir
open Go Go.Am Go.RowKit Go.Lib
set_option maxRecDepth 100000
set_option maxHeartbeats 8000000
set_option maxHeartbeats 2000000
theorem set_unset {l : List AttrM} {n v : ByteArray} (h : (setA l n v).2 = 0) (hm : ¬ 0 ≤ findP l n) : (removeA (setA l n v).1 n).1 = l := by
  obtain ⟨⟨_, h2, _⟩, h4⟩ := set_shape h
  have e : (setA l n v).1 = l ++ [⟨lowS n, v⟩] := by
    rcases h4 with ⟨k, _, e, _⟩ | ⟨_, _, e⟩
    · omega
    · exact e
  have hr := (set_ok h).2.right
  rw [e] at hr ⊢
  have hk : (l ++ [(⟨lowS n, v⟩ : AttrM)])[l.length]? = some ⟨lowS n, v⟩ := by rw [List.getElem?_append_right (Nat.le_refl _), Nat.sub_self]; rfl
  have hf := find_at hr h2 hk rfl
  unfold removeA cutA
  rw [hf, if_pos (by omega), Int.toNat_natCast, List.take_append_of_le_length (Nat.le_refl _), List.take_length, List.drop_eq_nil_of_le (by simp), List.append_nil]
section
variable {l l' : List NodeM} {m : Int}
theorem unset_back (R : RF l m) {n : Int} (hn : thereN l n = true) {s v : ByteArray} (he : (setM ⟨l, m⟩ n s v).2.2 = 0) (hm : ¬ 0 ≤ findP (nd l n).attrs s) : (unsetM (setM ⟨l, m⟩ n s v).1 n s).1 = ⟨l, m⟩ ∧ (unsetM (setM ⟨l, m⟩ n s v).1 n s).2.2 = 0 := by
  obtain ⟨hk, h0, h1, h2⟩ := set_right R hn he
  obtain ⟨_, S⟩ := set_ok h0
  have T := there_len (len_att l n (setA (nd l n).attrs s v).1)
  have hn1 : thereN (attL l n (setA (nd l n).attrs s v).1) n = true := by rw [T]; exact hn
  have R1 := att_right R hn hk h2
  have ha := nd_att_self (xs := (setA (nd l n).attrs s v).1) hn
  have hk1 : (nd (attL l n (setA (nd l n).attrs s v).1) n).kind = 1 := by rw [(att_same hn n hn).1.kind]; exact hk
  have hu := set_unset h0 hm
  have e2 : (changeM ⟨l, m⟩ n s (setA (nd l n).attrs s v).1).1 = ⟨attL l n (setA (nd l n).attrs s v).1, m⟩ := rfl
  have e3 : unsetM ⟨attL l n (setA (nd l n).attrs s v).1, m⟩ n s = changeM ⟨attL l n (setA (nd l n).attrs s v).1, m⟩ n s (nd l n).attrs := by
    unfold unsetM
    rw [elem_iff R1 hn1, if_pos hk1, if_neg (show ¬ (0 : Int) ≠ 0 from fun q => q rfl), S.name, if_neg (show ¬ true = false by decide)]
    dsimp only
    rw [ha, hu]
  rw [h1, e2, e3]
  refine ⟨?_, rfl⟩
  unfold changeM
  dsimp only
  rw [att_att hn, att_self hn]
theorem more_law (R : RF l m) {n : Int} (hn : thereN l n = true) {v : ByteArray} (he : (setM ⟨l, m⟩ n disW v).2.2 = 0) {i : Int} (hi : thereN l i = true) :
    barN (setM ⟨l, m⟩ n disW v).1.nodes i = (barN l i || (decide (i = n) || underB l n i)) ∧ legN (setM ⟨l, m⟩ n disW v).1.nodes n = legN l n ∧ RF (setM ⟨l, m⟩ n disW v).1.nodes m ∧ (setM ⟨l, m⟩ n disW v).1.nodes.length = l.length ∧ (setM ⟨l, m⟩ n disW v).1.most = m := by
  obtain ⟨hk, h0, h1, h2⟩ := set_right R hn he
  have R1 := att_right R hn hk h2
  have e2 : (changeM ⟨l, m⟩ n disW (setA (nd l n).attrs disW v).1).1 = ⟨attL l n (setA (nd l n).attrs disW v).1, m⟩ := rfl
  rw [h1, e2]
  dsimp only
  have S := fun x (hx : thereN l x = true) => att_same (xs := (setA (nd l n).attrs disW v).1) hn x hx
  refine ⟨bar_more R R1 (len_att ..) (fun x hx => ⟨(S x hx).1, (S x hx).2.1⟩) hn (fun x hx => ?_) hi, leg_same R (fun x hx => ⟨(S x hx).1.kind, (S x hx).2.1, (S x hx).1.kids⟩) hn, R1, len_att .., rfl⟩
  rw [nd_att_dis hn hx]
  split
  · exact dis_set hk h0
  · rfl
theorem set_bars (R : RF l m) {n : Int} (hn : thereN l n = true) {v : ByteArray} (he : (setM ⟨l, m⟩ n disW v).2.2 = 0) : barN (setM ⟨l, m⟩ n disW v).1.nodes n = true := by
  rw [(more_law R hn he hn).1]; simp
end
end Go.Proofs.Heir
namespace Go.Proofs.Heir
open Go Go.Am Go.RowKit Go.Lib
set_option maxRecDepth 100000
set_option maxHeartbeats 8000000
@[reducible] def setWd : ByteArray := ⟨#[115, 101, 116]⟩
@[reducible] def unsetWd : ByteArray := ⟨#[117, 110, 115, 101, 116]⟩
theorem noRef_at2 (xs : List AttrM) (e : Int) : noRef (.tup [eAttrs xs, eInt e]) = true := by
  have := noRef_attrs xs
  simp [noRef, noRefL, this]
theorem noRef_atB (xs : List AttrM) (b : Bool) : noRef (.tup [eAttrs xs, eBool b]) = true := by
  have := noRef_attrs xs
  simp [noRef, noRefL, this]
theorem set_found {l : List AttrM} {s v : ByteArray} (he : (setA l s v).2 = 0) : 0 ≤ findP (setA l s v).1 s := by
  obtain ⟨k, hk⟩ := set_at he
  have h1 := (set_ok he).2
  have h2 := (set_shape he).1.2.1
  rw [find_at h1.right h2 hk rfl]
  omega
theorem setC_ok (l : List NodeM) (m : Int) (hs : SmallN l) (k : Nat) (y : NodeM) (hy : l[k]? = some y) (s v : ByteArray) (hs3 : s.size ≤ 100000) (he : (setA y.attrs s v).2 = 0) :
    FnOK Tryz.prog 58 [mHand m l.length 1 nilNs, mNodes l] [.ptr 0 0 0, .fptr (eInt k) 0, .fptr (eStr s) 0, .fptr (eStr v) 0]
      [mHand m l.length 1 (.own 2 0 1), mNodes (attL l k (setA y.attrs s v).1), .live 9 [oNote (chNote y k s (setA y.attrs s v).1)] false] noErr := by
  have hl := hs.attrs y (List.mem_of_getElem? hy)
  have hkl : k < l.length := (List.getElem?_eq_some_iff.1 hy).1
  have hlm : (l.map oNode).length = l.length := List.length_map ..
  have h59 := f59_ok y.attrs (by omega) s v
  have h61 := change_yes l m hs k y hy s hs3 (setA y.attrs s v).1 (by have := setA_len y.attrs s v; omega) (.inr (set_found he))
  rw [he] at h59
  have ha : (attL l k (setA y.attrs s v).1).length = l.length := len_att ..
  generalize attL l k (setA y.attrs s v).1 = l' at h61 ha ⊢
  generalize chNote y k s (setA y.attrs s v).1 = x at h61 ⊢
  obtain ⟨y1, y2, y3, y4, y5, y6, y7, y8, y9, y10⟩ := y
  simp only at *
  refine FnOK.startN [(2, 311)] (rvs := [.tmp 5]) G G_good Tryz.func58 rfl Tryz.ntmps58 rfl rfl ?_; with_reducible refine wD ?_
  repeat' (first
    | refine gK ?_
    | ((first
      | ((with_reducible show CallK _ _ 59 _ _ _ _); refine CallK.val [] h59 c59 ⟨rfl, rfl, rfl, trivial⟩ rfl rfl (noRef_at2 _ _) ?_)
      | ((with_reducible show LtK _ _ _ _ _); refine LtK.mk k rfl hkl ?_)
      | ((with_reducible show ElemK _ _ _ _ _); first | refine ElemK.mk (eNode ⟨y1, y2, y3, y4, y5, y6, y7, y8, y9, y10⟩) (by first | exact node_get hy | (rw [Nat.zero_add]; exact node_get hy)) ?_ | refine ElemK.mk _ rfl ?_)
      | ((with_reducible show CallK _ _ 61 _ _ _ _); refine CallK.lend (news := [mHand m l.length 1 (.own 311 0 1), mNodes l', .live 9 [oNote x] false]) [0, 1, 311] [] h61 c61 ⟨⟨rfl, rfl⟩, rfl, rfl, rfl, trivial⟩ ⟨⟨rfl, .inr ⟨⟨⟨⟨rfl, rfl⟩, rfl, .inl rfl, trivial⟩, trivial⟩, rfl⟩⟩, ⟨rfl, .inl ⟨rfl, noRef_nodes _⟩⟩, trivial⟩ rfl ⟨⟨rfl, rfl⟩, rfl⟩ rfl ⟨⟨rfl, .inr ⟨rfl, rfl, rfl⟩⟩, ⟨rfl, .inl ⟨rfl, noRef_nodes _⟩⟩, ⟨rfl, .inl ⟨rfl, rfl⟩⟩, trivial⟩ rfl rfl ?_)
      | ((with_reducible show DrawK _ _ _ _); refine dK ?_)) <;> with_reducible refine wK ?_)
    | ((with_reducible show (_ ∧ _) ∧ _ ∧ _); (refine eK ?_ ?_ <;> with_reducible repeat' (first | exact trivial | (show _ ∧ _; refine aK ?_ ?_)))))
  all_goals first
    | rfl
    | exact ⟨.refl rfl, rfl⟩
    | exact (.inl rfl : NilK _)
    | exact ⟨.refl (noRef_nodes _), noRef_nodes _⟩
    | trace_state
theorem setC_err (l : List NodeM) (m : Int) (hs : SmallN l) (k : Nat) (y : NodeM) (hy : l[k]? = some y) (s v : ByteArray) (hs3 : s.size ≤ 100000) (he : (setA y.attrs s v).2 ≠ 0) :
    FnOK Tryz.prog 58 [mHand m l.length 1 nilNs, mNodes l] [.ptr 0 0 0, .fptr (eInt k) 0, .fptr (eStr s) 0, .fptr (eStr v) 0]
      [mHand m l.length 1 nilNs, mNodes l] (.lit (stepV setWd (setA y.attrs s v).2)) := by
  have hl := hs.attrs y (List.mem_of_getElem? hy)
  have hkl : k < l.length := (List.getElem?_eq_some_iff.1 hy).1
  have hlm : (l.map oNode).length = l.length := List.length_map ..
  have h59 := f59_ok y.attrs (by omega) s v
  have h60 := refused1 setWd (setA y.attrs s v).2 he
  have hd := decide_eq_false he
  generalize (setA y.attrs s v).2 = e at h59 h60 hd he ⊢
  obtain ⟨y1, y2, y3, y4, y5, y6, y7, y8, y9, y10⟩ := y
  simp only at *
  refine FnOK.startN [] (rvs := [.tmp 5]) G G_good Tryz.func58 rfl Tryz.ntmps58 rfl rfl ?_; with_reducible refine wD ?_
  (have fct := hd; (repeat' (first
    | refine gF ?_
    | ((first
      | ((with_reducible show CallK _ _ 59 _ _ _ _); refine CallK.val [] h59 c59 ⟨rfl, rfl, rfl, trivial⟩ rfl rfl (noRef_at2 _ _) ?_)
      | ((with_reducible show LtK _ _ _ _ _); refine LtK.mk k rfl hkl ?_)
      | ((with_reducible show ElemK _ _ _ _ _); first | refine ElemK.mk (eNode ⟨y1, y2, y3, y4, y5, y6, y7, y8, y9, y10⟩) (by first | exact node_get hy | (rw [Nat.zero_add]; exact node_get hy)) ?_ | refine ElemK.mk _ rfl ?_)
      | ((with_reducible show CallK _ _ 60 _ _ _ _); refine CallK.lit [] h60 c60 ⟨rfl, rfl, trivial⟩ rfl rfl ?_)
      | ((with_reducible show DrawK _ _ _ _); refine dK ?_)) <;> with_reducible refine wK ?_)
    | ((with_reducible show (_ ∧ _) ∧ _ ∧ _); (refine eK ?_ ?_ <;> with_reducible repeat' (first | exact trivial | (show _ ∧ _; refine aK ?_ ?_)))))); all_goals clear fct)
  all_goals first
    | rfl
    | exact ⟨.refl rfl, rfl⟩
    | exact (.inl rfl : NilK _)
    | exact ⟨.refl (noRef_nodes _), noRef_nodes _⟩
    | trace_state
theorem unsetC_yes (l : List NodeM) (m : Int) (hs : SmallN l) (k : Nat) (y : NodeM) (hy : l[k]? = some y) (s : ByteArray) (hs3 : s.size ≤ 100000) (hr : rightS s = true) (hf : 0 ≤ findP y.attrs s ∨ 0 ≤ findP (removeA y.attrs s).1 s) :
    FnOK Tryz.prog 66 [mHand m l.length 1 nilNs, mNodes l] [.ptr 0 0 0, .fptr (eStr s) 0, .fptr (eInt k) 0]
      [mHand m l.length 1 (.own 2 0 1), mNodes (attL l k (removeA y.attrs s).1), .live 9 [oNote (chNote y k s (removeA y.attrs s).1)] false] noErr := by
  have hl := hs.attrs y (List.mem_of_getElem? hy)
  have hkl : k < l.length := (List.getElem?_eq_some_iff.1 hy).1
  have hlm : (l.map oNode).length = l.length := List.length_map ..
  have h67 := f67_ok s
  have h68 := f68_ok y.attrs (by omega) s
  rw [hr] at h67
  have h61 := change_yes l m hs k y hy s hs3 (removeA y.attrs s).1 (by have := removeA_len y.attrs s; omega) hf
  have ha : (attL l k (removeA y.attrs s).1).length = l.length := len_att ..
  generalize attL l k (removeA y.attrs s).1 = l' at h61 ha ⊢
  generalize chNote y k s (removeA y.attrs s).1 = x at h61 ⊢
  obtain ⟨y1, y2, y3, y4, y5, y6, y7, y8, y9, y10⟩ := y
  simp only at *
  refine FnOK.startN [(2, 291)] (rvs := [.tmp 4]) G G_good Tryz.func66 rfl Tryz.ntmps66 rfl rfl ?_; with_reducible refine wD ?_
  repeat' (first
    | refine gK ?_
    | ((first
      | ((with_reducible show CallK _ _ 67 _ _ _ _); refine CallK.lit [] h67 c67 ⟨rfl, trivial⟩ rfl rfl ?_)
      | ((with_reducible show CallK _ _ 68 _ _ _ _); refine CallK.val [] h68 c68 ⟨rfl, rfl, trivial⟩ rfl rfl (noRef_atB _ _) ?_)
      | ((with_reducible show LtK _ _ _ _ _); refine LtK.mk k rfl hkl ?_)
      | ((with_reducible show ElemK _ _ _ _ _); first | refine ElemK.mk (eNode ⟨y1, y2, y3, y4, y5, y6, y7, y8, y9, y10⟩) (by first | exact node_get hy | (rw [Nat.zero_add]; exact node_get hy)) ?_ | refine ElemK.mk _ rfl ?_)
      | ((with_reducible show CallK _ _ 61 _ _ _ _); refine CallK.lend (news := [mHand m l.length 1 (.own 291 0 1), mNodes l', .live 9 [oNote x] false]) [0, 1, 291] [] h61 c61 ⟨⟨rfl, rfl⟩, rfl, rfl, rfl, trivial⟩ ⟨⟨rfl, .inr ⟨⟨⟨⟨rfl, rfl⟩, rfl, .inl rfl, trivial⟩, trivial⟩, rfl⟩⟩, ⟨rfl, .inl ⟨rfl, noRef_nodes _⟩⟩, trivial⟩ rfl ⟨⟨rfl, rfl⟩, rfl⟩ rfl ⟨⟨rfl, .inr ⟨rfl, rfl, rfl⟩⟩, ⟨rfl, .inl ⟨rfl, noRef_nodes _⟩⟩, ⟨rfl, .inl ⟨rfl, rfl⟩⟩, trivial⟩ rfl rfl ?_)
      | ((with_reducible show DrawK _ _ _ _); refine dK ?_)) <;> with_reducible refine wK ?_)
    | ((with_reducible show (_ ∧ _) ∧ _ ∧ _); (refine eK ?_ ?_ <;> with_reducible repeat' (first | exact trivial | (show _ ∧ _; refine aK ?_ ?_)))))
  all_goals first
    | rfl
    | exact ⟨.refl rfl, rfl⟩
    | exact (.inl rfl : NilK _)
    | exact ⟨.refl (noRef_nodes _), noRef_nodes _⟩
    | trace_state
theorem unsetC_no (l : List NodeM) (m : Int) (hs : SmallN l) (k : Nat) (y : NodeM) (hy : l[k]? = some y) (s : ByteArray) (hs3 : s.size ≤ 100000) (hr : rightS s = true) (hf : ¬ 0 ≤ findP y.attrs s ∧ ¬ 0 ≤ findP (removeA y.attrs s).1 s) :
    FnOK Tryz.prog 66 [mHand m l.length 1 nilNs, mNodes l] [.ptr 0 0 0, .fptr (eStr s) 0, .fptr (eInt k) 0]
      [mHand m l.length 1 nilNs, mNodes (attL l k (removeA y.attrs s).1)] noErr := by
  have hl := hs.attrs y (List.mem_of_getElem? hy)
  have hkl : k < l.length := (List.getElem?_eq_some_iff.1 hy).1
  have hlm : (l.map oNode).length = l.length := List.length_map ..
  have h67 := f67_ok s
  have h68 := f68_ok y.attrs (by omega) s
  rw [hr] at h67
  have h61 := change_no l m hs k y hy s hs3 (removeA y.attrs s).1 (by have := removeA_len y.attrs s; omega) hf
  have ha : (attL l k (removeA y.attrs s).1).length = l.length := len_att ..
  generalize attL l k (removeA y.attrs s).1 = l' at h61 ha ⊢
  obtain ⟨y1, y2, y3, y4, y5, y6, y7, y8, y9, y10⟩ := y
  simp only at *
  refine FnOK.startN [] (rvs := [.tmp 4]) G G_good Tryz.func66 rfl Tryz.ntmps66 rfl rfl ?_; with_reducible refine wD ?_
  repeat' (first
    | refine gK ?_
    | ((first
      | ((with_reducible show CallK _ _ 67 _ _ _ _); refine CallK.lit [] h67 c67 ⟨rfl, trivial⟩ rfl rfl ?_)
      | ((with_reducible show CallK _ _ 68 _ _ _ _); refine CallK.val [] h68 c68 ⟨rfl, rfl, trivial⟩ rfl rfl (noRef_atB _ _) ?_)
      | ((with_reducible show LtK _ _ _ _ _); refine LtK.mk k rfl hkl ?_)
      | ((with_reducible show ElemK _ _ _ _ _); first | refine ElemK.mk (eNode ⟨y1, y2, y3, y4, y5, y6, y7, y8, y9, y10⟩) (by first | exact node_get hy | (rw [Nat.zero_add]; exact node_get hy)) ?_ | refine ElemK.mk _ rfl ?_)
      | ((with_reducible show CallK _ _ 61 _ _ _ _); refine CallK.lend (news := [mHand m l.length 1 nilNs, mNodes l']) [0, 1] [] h61 c61 ⟨⟨rfl, rfl⟩, rfl, rfl, rfl, trivial⟩ ⟨⟨rfl, .inr ⟨⟨⟨⟨rfl, rfl⟩, rfl, .inl rfl, trivial⟩, trivial⟩, rfl⟩⟩, ⟨rfl, .inl ⟨rfl, noRef_nodes _⟩⟩, trivial⟩ rfl ⟨⟨rfl, rfl⟩, rfl⟩ rfl ⟨⟨rfl, .inr ⟨rfl, rfl, rfl⟩⟩, ⟨rfl, .inl ⟨rfl, noRef_nodes _⟩⟩, trivial⟩ rfl rfl ?_)
      | ((with_reducible show DrawK _ _ _ _); refine dK ?_)) <;> with_reducible refine wK ?_)
    | ((with_reducible show (_ ∧ _) ∧ _ ∧ _); (refine eK ?_ ?_ <;> with_reducible repeat' (first | exact trivial | (show _ ∧ _; refine aK ?_ ?_)))))
  all_goals first
    | rfl
    | exact ⟨.refl rfl, rfl⟩
    | exact (.inl rfl : NilK _)
    | exact ⟨.refl (noRef_nodes _), noRef_nodes _⟩
    | trace_state
theorem unsetC_err (l : List NodeM) (m : Int) (hs : SmallN l) (k : Nat) (y : NodeM) (hy : l[k]? = some y) (s : ByteArray) (hs3 : s.size ≤ 100000) (hr : rightS s = false) :
    FnOK Tryz.prog 66 [mHand m l.length 1 nilNs, mNodes l] [.ptr 0 0 0, .fptr (eStr s) 0, .fptr (eInt k) 0]
      [mHand m l.length 1 nilNs, mNodes l] (.lit (stepV unsetWd 4)) := by
  have hl := hs.attrs y (List.mem_of_getElem? hy)
  have hkl : k < l.length := (List.getElem?_eq_some_iff.1 hy).1
  have hlm : (l.map oNode).length = l.length := List.length_map ..
  have h67 := f67_ok s
  have h68 := f68_ok y.attrs (by omega) s
  rw [hr] at h67
  have h60 := refused1 unsetWd 4 (by decide)
  obtain ⟨y1, y2, y3, y4, y5, y6, y7, y8, y9, y10⟩ := y
  simp only at *
  refine FnOK.startN [] (rvs := [.tmp 4]) G G_good Tryz.func66 rfl Tryz.ntmps66 rfl rfl ?_; with_reducible refine wD ?_
  repeat' (first
    | refine gK ?_
    | ((first
      | ((with_reducible show CallK _ _ 67 _ _ _ _); refine CallK.lit [] h67 c67 ⟨rfl, trivial⟩ rfl rfl ?_)
      | ((with_reducible show CallK _ _ 68 _ _ _ _); refine CallK.val [] h68 c68 ⟨rfl, rfl, trivial⟩ rfl rfl (noRef_atB _ _) ?_)
      | ((with_reducible show LtK _ _ _ _ _); refine LtK.mk k rfl hkl ?_)
      | ((with_reducible show ElemK _ _ _ _ _); first | refine ElemK.mk (eNode ⟨y1, y2, y3, y4, y5, y6, y7, y8, y9, y10⟩) (by first | exact node_get hy | (rw [Nat.zero_add]; exact node_get hy)) ?_ | refine ElemK.mk _ rfl ?_)
      | ((with_reducible show CallK _ _ 60 _ _ _ _); refine CallK.lit [] h60 c60 ⟨rfl, rfl, trivial⟩ rfl rfl ?_)
      | ((with_reducible show DrawK _ _ _ _); refine dK ?_)) <;> with_reducible refine wK ?_)
    | ((with_reducible show (_ ∧ _) ∧ _ ∧ _); (refine eK ?_ ?_ <;> with_reducible repeat' (first | exact trivial | (show _ ∧ _; refine aK ?_ ?_)))))
  all_goals first
    | rfl
    | exact ⟨.refl rfl, rfl⟩
    | exact (.inl rfl : NilK _)
    | exact ⟨.refl (noRef_nodes _), noRef_nodes _⟩
    | trace_state
theorem frz_w {m : ML} {fz : Nat → Bool} {tab : List (Nat × Nat)} {n t len wd : Nat} {ro : Bool} {rows rows' : List AV} (h1 : lkM m t = .live wd rows ro) (h2 : fz t = true) (h3 : rows = rows') (h4 : len = rows'.length) (h5 : noRefL rows' = true) : FrzK m fz (MF tab fz m n) (.sl wd rows') t 0 len := by
  subst h3; subst h4
  exact .cut h1 h2 (by omega) (by rw [List.drop_zero, List.take_of_length_le (by omega)]) h5
@[reducible] def eNs (l : List NoteM) : AV := .sl 9 (l.map oNote)
theorem done_told (f : ForM) (hs : SmallN f.nodes) (g : Nat) (cg : Callable Tryz.prog g) (caps : List AV) (hcaps : noRefL caps = true) (l' : List NodeM) (x : NoteM) (hl : l'.length = f.nodes.length) (hg : FnOK Tryz.prog g [mHand f.most f.nodes.length 1 nilNs, mNodes f.nodes] (.ptr 0 0 0 :: caps) [mHand f.most f.nodes.length 1 (.own 2 0 1), mNodes l', .live 9 [oNote x] false] noErr) :
    FnOK Tryz.prog 56 [] [eFor f, noErr, .clo (.func g) [] caps] [] (.tup [eFor ⟨l', f.most⟩, eNs [x], eInt 0]) := by
  have h121 := f121_fr f hs
  have hlm : (l'.map oNode).length = f.nodes.length := by rw [List.length_map, hl]
  obtain ⟨l, m⟩ := f
  simp only at *
  refine FnOK.startC (rvs := [.cell 6 24, .tmp 7, .tmp 8]) G G_good Tryz.func56 rfl Tryz.ntmps56 rfl rfl ?_; with_reducible refine wD ?_
  repeat' (first
    | refine gK ?_
    | ((first
      | ((with_reducible show CallK _ _ 121 _ _ _ _); refine CallK.lend (news := [mHand m l.length 111 nilNs, mNodes l]) [110, 111] [] h121 c121 ⟨⟨rfl, rfl, trivial⟩, trivial⟩ trivial rfl ⟨⟨rfl, rfl⟩, rfl⟩ rfl ⟨⟨rfl, .inr ⟨rfl, rfl, rfl⟩⟩, ⟨rfl, .inl ⟨rfl, noRef_nodes _⟩⟩, trivial⟩ rfl rfl ?_)
      | ((with_reducible show HandK _ _ _ _ _); first | refine HandK.nilEq true Tryz.underlying98 rfl rfl rfl rfl rfl ?_ | refine HandK.nilEq false Tryz.underlying98 rfl rfl rfl rfl rfl ?_ | refine HandK.nilNe false Tryz.underlying98 rfl rfl rfl rfl rfl ?_ | refine HandK.nilNe true Tryz.underlying98 rfl rfl rfl rfl rfl ?_)
      | ((with_reducible show CallK _ _ 122 _ _ _ _); refine CallK.lit [] h122 c122 ⟨⟨rfl, rfl⟩, trivial⟩ rfl rfl ?_)
      | ((with_reducible show CallK _ _ _ _ _ _ _); refine CallK.lend (news := [mHand m l.length 111 (.own 161 0 1), mNodes l', .live 9 [oNote x] false]) [110, 111, 161] [] hg cg ⟨⟨rfl, rfl⟩, MFL_refl hcaps⟩ ⟨⟨rfl, .inr ⟨⟨⟨⟨rfl, rfl⟩, rfl, .inl rfl, trivial⟩, trivial⟩, rfl⟩⟩, ⟨rfl, .inl ⟨rfl, noRef_nodes _⟩⟩, trivial⟩ rfl ⟨⟨rfl, rfl⟩, rfl⟩ rfl ⟨⟨rfl, .inr ⟨rfl, rfl, rfl⟩⟩, ⟨rfl, .inl ⟨rfl, noRef_nodes _⟩⟩, ⟨rfl, .inl ⟨rfl, rfl⟩⟩, trivial⟩ rfl rfl ?_)
      | ((with_reducible show DrawK _ _ _ _); refine dK ?_)) <;> with_reducible refine wK ?_)
    | ((with_reducible show (_ ∧ _) ∧ _ ∧ _); (refine eK ?_ ?_ <;> with_reducible repeat' (first | exact trivial | (show _ ∧ _; refine aK ?_ ?_)))))
  all_goals first
    | rfl
    | exact frz_w rfl rfl rfl hlm.symm (noRef_nodes _)
    | exact frz_w rfl rfl rfl rfl rfl
    | exact ⟨.refl rfl, rfl⟩
    | exact (.inl rfl : NilK _)
    | exact .inr (.inr ⟨9, rfl⟩)
    | trace_state
theorem done_quiet (f : ForM) (hs : SmallN f.nodes) (g : Nat) (cg : Callable Tryz.prog g) (caps : List AV) (hcaps : noRefL caps = true) (l' : List NodeM) (hl : l'.length = f.nodes.length) (hg : FnOK Tryz.prog g [mHand f.most f.nodes.length 1 nilNs, mNodes f.nodes] (.ptr 0 0 0 :: caps) [mHand f.most f.nodes.length 1 nilNs, mNodes l'] noErr) :
    FnOK Tryz.prog 56 [] [eFor f, noErr, .clo (.func g) [] caps] [] (.tup [eFor ⟨l', f.most⟩, eNs [], eInt 0]) := by
  have h121 := f121_fr f hs
  have hlm : (l'.map oNode).length = f.nodes.length := by rw [List.length_map, hl]
  obtain ⟨l, m⟩ := f
  simp only at *
  refine FnOK.startC (rvs := [.cell 6 24, .tmp 7, .tmp 8]) G G_good Tryz.func56 rfl Tryz.ntmps56 rfl rfl ?_; with_reducible refine wD ?_
  repeat' (first
    | refine gK ?_
    | ((first
      | ((with_reducible show CallK _ _ 121 _ _ _ _); refine CallK.lend (news := [mHand m l.length 111 nilNs, mNodes l]) [110, 111] [] h121 c121 ⟨⟨rfl, rfl, trivial⟩, trivial⟩ trivial rfl ⟨⟨rfl, rfl⟩, rfl⟩ rfl ⟨⟨rfl, .inr ⟨rfl, rfl, rfl⟩⟩, ⟨rfl, .inl ⟨rfl, noRef_nodes _⟩⟩, trivial⟩ rfl rfl ?_)
      | ((with_reducible show HandK _ _ _ _ _); first | refine HandK.nilEq true Tryz.underlying98 rfl rfl rfl rfl rfl ?_ | refine HandK.nilEq false Tryz.underlying98 rfl rfl rfl rfl rfl ?_ | refine HandK.nilNe false Tryz.underlying98 rfl rfl rfl rfl rfl ?_ | refine HandK.nilNe true Tryz.underlying98 rfl rfl rfl rfl rfl ?_)
      | ((with_reducible show CallK _ _ 122 _ _ _ _); refine CallK.lit [] h122 c122 ⟨⟨rfl, rfl⟩, trivial⟩ rfl rfl ?_)
      | ((with_reducible show CallK _ _ _ _ _ _ _); refine CallK.lend (news := [mHand m l.length 111 nilNs, mNodes l']) [110, 111] [] hg cg ⟨⟨rfl, rfl⟩, MFL_refl hcaps⟩ ⟨⟨rfl, .inr ⟨⟨⟨⟨rfl, rfl⟩, rfl, .inl rfl, trivial⟩, trivial⟩, rfl⟩⟩, ⟨rfl, .inl ⟨rfl, noRef_nodes _⟩⟩, trivial⟩ rfl ⟨⟨rfl, rfl⟩, rfl⟩ rfl ⟨⟨rfl, .inr ⟨rfl, rfl, rfl⟩⟩, ⟨rfl, .inl ⟨rfl, noRef_nodes _⟩⟩, trivial⟩ rfl rfl ?_)
      | ((with_reducible show DrawK _ _ _ _); refine dK ?_)) <;> with_reducible refine wK ?_)
    | ((with_reducible show (_ ∧ _) ∧ _ ∧ _); (refine eK ?_ ?_ <;> with_reducible repeat' (first | exact trivial | (show _ ∧ _; refine aK ?_ ?_)))))
  all_goals first
    | rfl
    | exact frz_w rfl rfl rfl hlm.symm (noRef_nodes _)
    | exact frz_w rfl rfl rfl rfl rfl
    | exact ⟨.refl rfl, rfl⟩
    | exact (.inl rfl : NilK _)
    | exact .inr (.inr ⟨9, rfl⟩)
    | trace_state
theorem done_err (f : ForM) (hs : SmallN f.nodes) (g : Nat) (cg : Callable Tryz.prog g) (caps : List AV) (hcaps : noRefL caps = true) (what : ByteArray) (e : Int) (hg : FnOK Tryz.prog g [mHand f.most f.nodes.length 1 nilNs, mNodes f.nodes] (.ptr 0 0 0 :: caps) [mHand f.most f.nodes.length 1 nilNs, mNodes f.nodes] (.lit (stepV what e))) :
    FnOK Tryz.prog 56 [] [eFor f, noErr, .clo (.func g) [] caps] [] (.tup [eFor f, eNs [], eInt e]) := by
  have h121 := f121_fr f hs
  have h122 := why_ok what e
  obtain ⟨l, m⟩ := f
  simp only at *
  refine FnOK.startC (rvs := [.cell 6 24, .tmp 7, .tmp 8]) G G_good Tryz.func56 rfl Tryz.ntmps56 rfl rfl ?_; with_reducible refine wD ?_
  repeat' (first
    | refine gK ?_
    | ((first
      | ((with_reducible show CallK _ _ 121 _ _ _ _); refine CallK.lend (news := [mHand m l.length 111 nilNs, mNodes l]) [110, 111] [] h121 c121 ⟨⟨rfl, rfl, trivial⟩, trivial⟩ trivial rfl ⟨⟨rfl, rfl⟩, rfl⟩ rfl ⟨⟨rfl, .inr ⟨rfl, rfl, rfl⟩⟩, ⟨rfl, .inl ⟨rfl, noRef_nodes _⟩⟩, trivial⟩ rfl rfl ?_)
      | ((with_reducible show HandK _ _ _ _ _); first | refine HandK.nilEq true Tryz.underlying98 rfl rfl rfl rfl rfl ?_ | refine HandK.nilEq false Tryz.underlying98 rfl rfl rfl rfl rfl ?_ | refine HandK.nilNe false Tryz.underlying98 rfl rfl rfl rfl rfl ?_ | refine HandK.nilNe true Tryz.underlying98 rfl rfl rfl rfl rfl ?_)
      | ((with_reducible show CallK _ _ 122 _ _ _ _); refine CallK.lit [] h122 c122 ⟨⟨rfl, rfl⟩, trivial⟩ rfl rfl ?_)
      | ((with_reducible show CallK _ _ _ _ _ _ _); refine CallK.lend (news := [mHand m l.length 111 nilNs, mNodes l]) [110, 111] [] hg cg ⟨⟨rfl, rfl⟩, MFL_refl hcaps⟩ ⟨⟨rfl, .inr ⟨⟨⟨⟨rfl, rfl⟩, rfl, .inl rfl, trivial⟩, trivial⟩, rfl⟩⟩, ⟨rfl, .inl ⟨rfl, noRef_nodes _⟩⟩, trivial⟩ rfl ⟨⟨rfl, rfl⟩, rfl⟩ rfl ⟨⟨rfl, .inr ⟨rfl, rfl, rfl⟩⟩, ⟨rfl, .inl ⟨rfl, noRef_nodes _⟩⟩, trivial⟩ rfl rfl ?_)
      | ((with_reducible show DrawK _ _ _ _); refine dK ?_)) <;> with_reducible refine wK ?_)
    | ((with_reducible show (_ ∧ _) ∧ _ ∧ _); (refine eK ?_ ?_ <;> with_reducible repeat' (first | exact trivial | (show _ ∧ _; refine aK ?_ ?_)))))
  all_goals first
    | rfl
    | exact frz_w rfl rfl rfl hlm.symm (noRef_nodes _)
    | exact frz_w rfl rfl rfl rfl rfl
    | exact ⟨.refl rfl, rfl⟩
    | exact (.inl rfl : NilK _)
    | exact .inr (.inr ⟨9, rfl⟩)
    | trace_state
theorem done_bad (f : ForM) (hs : SmallN f.nodes) (g : Nat) (caps : List AV) (what : ByteArray) (e : Int)  :
    FnOK Tryz.prog 56 [] [eFor f, .lit (stepV what e), .clo (.func g) [] caps] [] (.tup [eFor f, eNs [], eInt e]) := by
  have h121 := f121_fr f hs
  have h122 := why_ok what e
  obtain ⟨l, m⟩ := f
  simp only at *
  refine FnOK.startC (rvs := [.cell 6 24, .tmp 7, .tmp 8]) G G_good Tryz.func56 rfl Tryz.ntmps56 rfl rfl ?_; with_reducible refine wD ?_
  repeat' (first
    | refine gK ?_
    | ((first
      | ((with_reducible show CallK _ _ 121 _ _ _ _); refine CallK.lend (news := [mHand m l.length 111 nilNs, mNodes l]) [110, 111] [] h121 c121 ⟨⟨rfl, rfl, trivial⟩, trivial⟩ trivial rfl ⟨⟨rfl, rfl⟩, rfl⟩ rfl ⟨⟨rfl, .inr ⟨rfl, rfl, rfl⟩⟩, ⟨rfl, .inl ⟨rfl, noRef_nodes _⟩⟩, trivial⟩ rfl rfl ?_)
      | ((with_reducible show HandK _ _ _ _ _); first | refine HandK.nilEq true Tryz.underlying98 rfl rfl rfl rfl rfl ?_ | refine HandK.nilEq false Tryz.underlying98 rfl rfl rfl rfl rfl ?_ | refine HandK.nilNe false Tryz.underlying98 rfl rfl rfl rfl rfl ?_ | refine HandK.nilNe true Tryz.underlying98 rfl rfl rfl rfl rfl ?_)
      | ((with_reducible show CallK _ _ 122 _ _ _ _); refine CallK.lit [] h122 c122 ⟨⟨rfl, rfl⟩, trivial⟩ rfl rfl ?_)
      | ((with_reducible show DrawK _ _ _ _); refine dK ?_)) <;> with_reducible refine wK ?_)
    | ((with_reducible show (_ ∧ _) ∧ _ ∧ _); (refine eK ?_ ?_ <;> with_reducible repeat' (first | exact trivial | (show _ ∧ _; refine aK ?_ ?_)))))
  all_goals first
    | rfl
    | exact frz_w rfl rfl rfl hlm.symm (noRef_nodes _)
    | exact frz_w rfl rfl rfl rfl rfl
    | exact ⟨.refl rfl, rfl⟩
    | exact (.inl rfl : NilK _)
    | exact .inr (.inr ⟨9, rfl⟩)
    | trace_state
theorem noRef_done (f : ForM) (ns : List NoteM) (e : Int) : noRef (.tup [eFor f, eNs ns, eInt e]) = true := by
  have h1 := noRef_nodes f.nodes
  have h2 : noRefL (ns.map oNote) = true := noRefL_map oNote (fun _ => rfl) _
  simp [noRef, noRefL, h1, h2]
theorem set_yes (f : ForM) (n : Int) (s v : ByteArray)  (r : ForM) (ns : List NoteM) (z : Int) (h57 : FnOK Tryz.prog 57 [] [eFor f, eInt n] [] noErr)
    (h56 : FnOK Tryz.prog 56 [] [eFor f, noErr, .clo (.func 58) [] [.fptr (eInt n) 0, .fptr (eStr s) 0, .fptr (eStr v) 0]] [] (.tup [eFor r, eNs ns, eInt z])) : FnOK Tryz.prog 18 [] [eFor f, eInt n, eStr s, eStr v] [] (.tup [eFor r, eNs ns, eInt z]) := by
  obtain ⟨l, m⟩ := f
  obtain ⟨l', m'⟩ := r
  have hn := noRef_done ⟨l', m'⟩ ns z
  refine FnOK.startC (rvs := [.cell 8 24, .tmp 9, .tmp 10]) G G_good Tryz.func18 rfl Tryz.ntmps18 rfl rfl ?_; with_reducible refine wD ?_
  repeat' (first
    | refine gK ?_
    | ((first
      | ((with_reducible show CallK _ _ 57 _ _ _ _); refine CallK.lit [] h57 c57 ⟨⟨rfl, rfl, trivial⟩, rfl, trivial⟩ rfl rfl ?_)
      | ((with_reducible show CallK _ _ 56 _ _ _ _); refine CallK.val [50, 60, 70] h56 c56 ⟨⟨rfl, rfl, trivial⟩, ⟨rfl, rfl⟩, ⟨rfl, trivial, ⟨_, _, _, _, _, rfl, rfl, rfl, rfl, rfl, rfl⟩, ⟨_, _, _, _, _, rfl, rfl, rfl, rfl, rfl, rfl⟩, ⟨_, _, _, _, _, rfl, rfl, rfl, rfl, rfl, rfl⟩, trivial⟩, trivial⟩ rfl rfl hn ?_)
      | ((with_reducible show DrawK _ _ _ _); refine dK ?_)) <;> with_reducible refine wK ?_)
    | ((with_reducible show (_ ∧ _) ∧ _ ∧ _); (refine eK ?_ ?_ <;> with_reducible repeat' (first | exact trivial | (show _ ∧ _; refine aK ?_ ?_)))))
  all_goals first | rfl | trace_state
theorem set_bad (f : ForM) (n : Int) (s v : ByteArray) (what : ByteArray) (e : Int) (r : ForM) (ns : List NoteM) (z : Int) (h57 : FnOK Tryz.prog 57 [] [eFor f, eInt n] [] (.lit (stepV what e)))
    (h56 : FnOK Tryz.prog 56 [] [eFor f, (.lit (stepV what e)), .clo (.func 58) [] [.fptr (eInt n) 0, .fptr (eStr s) 0, .fptr (eStr v) 0]] [] (.tup [eFor r, eNs ns, eInt z])) : FnOK Tryz.prog 18 [] [eFor f, eInt n, eStr s, eStr v] [] (.tup [eFor r, eNs ns, eInt z]) := by
  obtain ⟨l, m⟩ := f
  obtain ⟨l', m'⟩ := r
  have hn := noRef_done ⟨l', m'⟩ ns z
  refine FnOK.startC (rvs := [.cell 8 24, .tmp 9, .tmp 10]) G G_good Tryz.func18 rfl Tryz.ntmps18 rfl rfl ?_; with_reducible refine wD ?_
  repeat' (first
    | refine gK ?_
    | ((first
      | ((with_reducible show CallK _ _ 57 _ _ _ _); refine CallK.lit [] h57 c57 ⟨⟨rfl, rfl, trivial⟩, rfl, trivial⟩ rfl rfl ?_)
      | ((with_reducible show CallK _ _ 56 _ _ _ _); refine CallK.val [50, 60, 70] h56 c56 ⟨⟨rfl, rfl, trivial⟩, ⟨rfl, rfl⟩, ⟨rfl, trivial, ⟨_, _, _, _, _, rfl, rfl, rfl, rfl, rfl, rfl⟩, ⟨_, _, _, _, _, rfl, rfl, rfl, rfl, rfl, rfl⟩, ⟨_, _, _, _, _, rfl, rfl, rfl, rfl, rfl, rfl⟩, trivial⟩, trivial⟩ rfl rfl hn ?_)
      | ((with_reducible show DrawK _ _ _ _); refine dK ?_)) <;> with_reducible refine wK ?_)
    | ((with_reducible show (_ ∧ _) ∧ _ ∧ _); (refine eK ?_ ?_ <;> with_reducible repeat' (first | exact trivial | (show _ ∧ _; refine aK ?_ ?_)))))
  all_goals first | rfl | trace_state
theorem unset_yes (f : ForM) (n : Int) (s : ByteArray)  (r : ForM) (ns : List NoteM) (z : Int) (h57 : FnOK Tryz.prog 57 [] [eFor f, eInt n] [] noErr)
    (h56 : FnOK Tryz.prog 56 [] [eFor f, noErr, .clo (.func 66) [] [.fptr (eStr s) 0, .fptr (eInt n) 0]] [] (.tup [eFor r, eNs ns, eInt z])) : FnOK Tryz.prog 24 [] [eFor f, eInt n, eStr s] [] (.tup [eFor r, eNs ns, eInt z]) := by
  obtain ⟨l, m⟩ := f
  obtain ⟨l', m'⟩ := r
  have hn := noRef_done ⟨l', m'⟩ ns z
  refine FnOK.startC (rvs := [.cell 6 24, .tmp 7, .tmp 8]) G G_good Tryz.func24 rfl Tryz.ntmps24 rfl rfl ?_; with_reducible refine wD ?_
  repeat' (first
    | refine gK ?_
    | ((first
      | ((with_reducible show CallK _ _ 57 _ _ _ _); refine CallK.lit [] h57 c57 ⟨⟨rfl, rfl, trivial⟩, rfl, trivial⟩ rfl rfl ?_)
      | ((with_reducible show CallK _ _ 56 _ _ _ _); refine CallK.val [50, 40] h56 c56 ⟨⟨rfl, rfl, trivial⟩, ⟨rfl, rfl⟩, ⟨rfl, trivial, ⟨_, _, _, _, _, rfl, rfl, rfl, rfl, rfl, rfl⟩, ⟨_, _, _, _, _, rfl, rfl, rfl, rfl, rfl, rfl⟩, trivial⟩, trivial⟩ rfl rfl hn ?_)
      | ((with_reducible show DrawK _ _ _ _); refine dK ?_)) <;> with_reducible refine wK ?_)
    | ((with_reducible show (_ ∧ _) ∧ _ ∧ _); (refine eK ?_ ?_ <;> with_reducible repeat' (first | exact trivial | (show _ ∧ _; refine aK ?_ ?_)))))
  all_goals first | rfl | trace_state
theorem unset_bad (f : ForM) (n : Int) (s : ByteArray) (what : ByteArray) (e : Int) (r : ForM) (ns : List NoteM) (z : Int) (h57 : FnOK Tryz.prog 57 [] [eFor f, eInt n] [] (.lit (stepV what e)))
    (h56 : FnOK Tryz.prog 56 [] [eFor f, (.lit (stepV what e)), .clo (.func 66) [] [.fptr (eStr s) 0, .fptr (eInt n) 0]] [] (.tup [eFor r, eNs ns, eInt z])) : FnOK Tryz.prog 24 [] [eFor f, eInt n, eStr s] [] (.tup [eFor r, eNs ns, eInt z]) := by
  obtain ⟨l, m⟩ := f
  obtain ⟨l', m'⟩ := r
  have hn := noRef_done ⟨l', m'⟩ ns z
  refine FnOK.startC (rvs := [.cell 6 24, .tmp 7, .tmp 8]) G G_good Tryz.func24 rfl Tryz.ntmps24 rfl rfl ?_; with_reducible refine wD ?_
  repeat' (first
    | refine gK ?_
    | ((first
      | ((with_reducible show CallK _ _ 57 _ _ _ _); refine CallK.lit [] h57 c57 ⟨⟨rfl, rfl, trivial⟩, rfl, trivial⟩ rfl rfl ?_)
      | ((with_reducible show CallK _ _ 56 _ _ _ _); refine CallK.val [50, 40] h56 c56 ⟨⟨rfl, rfl, trivial⟩, ⟨rfl, rfl⟩, ⟨rfl, trivial, ⟨_, _, _, _, _, rfl, rfl, rfl, rfl, rfl, rfl⟩, ⟨_, _, _, _, _, rfl, rfl, rfl, rfl, rfl, rfl⟩, trivial⟩, trivial⟩ rfl rfl hn ?_)
      | ((with_reducible show DrawK _ _ _ _); refine dK ?_)) <;> with_reducible refine wK ?_)
    | ((with_reducible show (_ ∧ _) ∧ _ ∧ _); (refine eK ?_ ?_ <;> with_reducible repeat' (first | exact trivial | (show _ ∧ _; refine aK ?_ ?_)))))
  all_goals first | rfl | trace_state
theorem f18_ok (f : ForM) (hs : SmallN f.nodes) (n : Int) (s v : ByteArray) (hs3 : s.size ≤ 100000) : FnOK Tryz.prog 18 [] [eFor f, eInt n, eStr s, eStr v] [] (.tup [eFor (setM f n s v).1, eNs (setM f n s v).2.1, eInt (setM f n s v).2.2]) := by
  cases ht : (rightF f && thereN f.nodes n) with
  | false =>
    have e : setM f n s v = (f, [], 1) := by unfold setM elemE; rw [ht]; rfl
    rw [e]
    exact set_bad f n s v askedW 1 f [] 1 (elem_no f hs n ht) (done_bad f hs 58 _ askedW 1)
  | true =>
    simp only [Bool.and_eq_true] at ht
    obtain ⟨hr, ht⟩ := ht
    obtain ⟨k, y, rfl, hy, _⟩ := there_iff.1 ht
    have hnd := nd_get hy
    by_cases hk : y.kind = 1
    · have he0 : elemE f k = 0 := by unfold elemE; rw [hr, ht, hnd, hk]; rfl
      have h57 := elem_yes f hs k y hy hr hk
      by_cases he : (setA y.attrs s v).2 = 0
      · have e : setM f k s v = (⟨attL f.nodes k (setA y.attrs s v).1, f.most⟩, [chNote y k s (setA y.attrs s v).1], 0) := by
          unfold setM; rw [he0, hnd]; simp only [he, ne_eq, not_true, if_false]
          unfold changeM changeN; rw [hnd, if_pos (.inr (set_found he))]
        rw [e]
        exact set_yes f k s v _ _ _ h57 (done_told f hs 58 c58 _ rfl _ _ (len_att ..) (setC_ok f.nodes f.most hs k y hy s v hs3 he))
      · have e : setM f k s v = (f, [], (setA y.attrs s v).2) := by
          unfold setM; rw [he0, hnd]; simp [he]
        rw [e]
        exact set_yes f k s v _ _ _ h57 (done_err f hs 58 c58 _ rfl setWd _ (setC_err f.nodes f.most hs k y hy s v hs3 he))
    · have e : setM f k s v = (f, [], 5) := by
        have : elemE f k = 5 := by unfold elemE; rw [hr, ht, hnd]; simp [hk]
        unfold setM; rw [this]; rfl
      rw [e]
      exact set_bad f k s v elemWd 5 f [] 5 (elem_kind f hs k y hy hr hk) (done_bad f hs 58 _ elemWd 5)
theorem f24_ok (f : ForM) (hs : SmallN f.nodes) (n : Int) (s : ByteArray) (hs3 : s.size ≤ 100000) : FnOK Tryz.prog 24 [] [eFor f, eInt n, eStr s] [] (.tup [eFor (unsetM f n s).1, eNs (unsetM f n s).2.1, eInt (unsetM f n s).2.2]) := by
  cases ht : (rightF f && thereN f.nodes n) with
  | false =>
    have e : unsetM f n s = (f, [], 1) := by unfold unsetM elemE; rw [ht]; rfl
    rw [e]
    exact unset_bad f n s askedW 1 f [] 1 (elem_no f hs n ht) (done_bad f hs 66 _ askedW 1)
  | true =>
    simp only [Bool.and_eq_true] at ht
    obtain ⟨hr, ht⟩ := ht
    obtain ⟨k, y, rfl, hy, _⟩ := there_iff.1 ht
    have hnd := nd_get hy
    by_cases hk : y.kind = 1
    · have he0 : elemE f k = 0 := by unfold elemE; rw [hr, ht, hnd, hk]; rfl
      have h57 := elem_yes f hs k y hy hr hk
      by_cases he : rightS s = true
      · have e : unsetM f k s = changeM f k s (removeA y.attrs s).1 := by
          unfold unsetM; rw [he0, hnd, he]; rfl
        rw [e]
        unfold changeM changeN
        rw [hnd]
        by_cases hf : 0 ≤ findP y.attrs s ∨ 0 ≤ findP (removeA y.attrs s).1 s
        · rw [if_pos hf]
          exact unset_yes f k s _ _ _ h57 (done_told f hs 66 c66 _ rfl _ _ (len_att ..) (unsetC_yes f.nodes f.most hs k y hy s hs3 he hf))
        · rw [if_neg hf]
          exact unset_yes f k s _ _ _ h57 (done_quiet f hs 66 c66 _ rfl _ (len_att ..) (unsetC_no f.nodes f.most hs k y hy s hs3 he ⟨fun h => hf (.inl h), fun h => hf (.inr h)⟩))
      · have he := Bool.eq_false_iff.2 he
        have e : unsetM f k s = (f, [], 4) := by
          unfold unsetM; rw [he0, he]; rfl
        rw [e]
        exact unset_yes f k s _ _ _ h57 (done_err f hs 66 c66 _ rfl unsetWd _ (unsetC_err f.nodes f.most hs k y hy s hs3 he))
    · have e : unsetM f k s = (f, [], 5) := by
        have : elemE f k = 5 := by unfold elemE; rw [hr, ht, hnd]; simp [hk]
        unfold unsetM; rw [this]; rfl
      rw [e]
      exact unset_bad f k s elemWd 5 f [] 5 (elem_kind f hs k y hy hr hk) (done_bad f hs 66 _ elemWd 5)
@[reducible] def eU8 (a : Int) : AV := .lit (.int .u8 a)
theorem f3_ok (f : ForM) (a : Int) (ha : 0 ≤ a ∧ a < 256) : FnOK Tryz.prog 3 [] [eFor f, eU8 a] [] (eBool true) := by
  have h15 := f15_ok
  have h16 := f16_ok f
  cases hsh : shortF f with
  | false =>
    rw [hsh] at h16
    obtain ⟨l, m⟩ := f
    refine FnOK.startC (rvs := [.tmp 4]) G G_good Tryz.func3 rfl Tryz.ntmps3 rfl rfl ?_; with_reducible refine wD ?_
    repeat' (first
    | refine gK ?_
    | ((first
      | ((with_reducible show CallK _ _ 15 _ _ _ _); refine CallK.lit [] h15 c15 trivial rfl rfl ?_)
      | ((with_reducible show CallK _ _ 16 _ _ _ _); refine CallK.lit [] h16 c16 ⟨⟨rfl, rfl, trivial⟩, trivial⟩ rfl rfl ?_)) <;> with_reducible refine wK ?_)
    | ((with_reducible show (_ ∧ _) ∧ _ ∧ _); (refine eK ?_ ?_ <;> with_reducible repeat' (first | exact trivial | (show _ ∧ _; refine aK ?_ ?_)))))
    all_goals rfl
  | true =>
    rw [hsh] at h16
    have hs := shortF_small hsh
    have h17 := f17_ok f hs
    cases hr : rightF f with
    | false =>
      rw [hr] at h17
      obtain ⟨l, m⟩ := f
      refine FnOK.startC (rvs := [.tmp 4]) G G_good Tryz.func3 rfl Tryz.ntmps3 rfl rfl ?_; with_reducible refine wD ?_
      repeat' (first
    | refine gK ?_
    | ((first
      | ((with_reducible show CallK _ _ 15 _ _ _ _); refine CallK.lit [] h15 c15 trivial rfl rfl ?_)
      | ((with_reducible show CallK _ _ 16 _ _ _ _); refine CallK.lit [] h16 c16 ⟨⟨rfl, rfl, trivial⟩, trivial⟩ rfl rfl ?_)
      | ((with_reducible show CallK _ _ 17 _ _ _ _); refine CallK.lit [] h17 c17 ⟨⟨rfl, rfl, trivial⟩, trivial⟩ rfl rfl ?_)) <;> with_reducible refine wK ?_)
    | ((with_reducible show (_ ∧ _) ∧ _ ∧ _); (refine eK ?_ ?_ <;> with_reducible repeat' (first | exact trivial | (show _ ∧ _; refine aK ?_ ?_)))))
      all_goals rfl
    | true =>
      rw [hr] at h17
      have hpos : 1 ≤ f.nodes.length := by
        have h0 := hr
        unfold rightF headOK at h0
        simp only [Bool.and_eq_true, decide_eq_true_eq] at h0
        exact h0.1.1.1.2
      obtain ⟨l, m⟩ := f
      have R : RF l m := rf_iff.1 hr
      have h60 : l.length ≤ 60 := by
        have := hsh; rw [short_eq] at this; simp only [Bool.and_eq_true, decide_eq_true_eq] at this; exact this.1
      simp only at hpos
      have hlm : (l.map oNode).length = l.length := List.length_map ..
      obtain ⟨i, x, hni, hx, hnx⟩ := node_at (l := l) (n := a % ((l.map oNode).length : Int)) (by rw [hlm]; exact ⟨Int.emod_nonneg _ (by omega), Int.emod_lt_of_pos _ (by omega)⟩)
      have ht := there_get hx
      have h18 := f18_ok ⟨l, m⟩ hs (i : Int) disW noS (by decide)
      have hn18 := noRef_done (setM ⟨l, m⟩ i disW noS).1 (setM ⟨l, m⟩ i disW noS).2.1 (setM ⟨l, m⟩ i disW noS).2.2
      by_cases he : (setM ⟨l, m⟩ i disW noS).2.2 = 0
      · have hmore := fun j hj => more_law R ht (v := noS) he (i := j) hj
        rw [he] at h18 hn18
        generalize (setM ⟨l, m⟩ i disW noS).2.1 = ns at h18 hn18
        generalize (setM ⟨l, m⟩ i disW noS).1 = g at h18 hn18 hmore
        obtain ⟨l', m'⟩ := g
        simp only at hmore h18 hn18
        obtain ⟨-, hlg, R', hlen, hm⟩ := hmore i ht
        subst hm
        have hs' : SmallN l' := rf_small R' (by rw [hlen]; exact h60)
        have h19 := f19_ok ⟨l, m'⟩ hs (i : Int)
        have h19' := f19_ok ⟨l', m'⟩ hs' (i : Int)
        have h21 := fun j => f21_ok ⟨l, m'⟩ hs j
        have h21' := fun j => f21_ok ⟨l', m'⟩ hs' j
        have h20 := fun a b ha hb => f20_ok ⟨l, m'⟩ hs hr a b ha hb
        have ht' : thereN l' i = true := by rw [there_len hlen]; exact ht
        have hr' : rightF ⟨l', m'⟩ = true := rf_iff.2 R'
        simp only [hr, hr', ht, ht', Bool.true_and, Bool.and_true, if_true] at h19 h19' h21 h21' h20
        rw [hlg] at h19'
        refine FnOK.startC (rvs := [.tmp 4]) G G_good Tryz.func3 rfl Tryz.ntmps3 rfl rfl ?_; with_reducible refine wD ?_
        (have fct := hlm; (repeat' (first
    | refine gF ?_
    | ((first
      | ((with_reducible show CallK _ _ 15 _ _ _ _); refine CallK.lit [] h15 c15 trivial rfl rfl ?_)
      | ((with_reducible show CallK _ _ 16 _ _ _ _); refine CallK.lit [] h16 c16 ⟨⟨rfl, rfl, trivial⟩, trivial⟩ rfl rfl ?_)
      | ((with_reducible show CallK _ _ 17 _ _ _ _); refine CallK.lit [] h17 c17 ⟨⟨rfl, rfl, trivial⟩, trivial⟩ rfl rfl ?_)
      | (refine ConvK.int (by kernel_rfl) (by kernel_rfl) (wrap_u8 ha) ?_)
      | (refine HandK.rem ha.1 (by (try simp only [castN]); omega) rfl rfl rfl rfl ?_)
      | ((with_reducible show CallK _ _ 18 _ _ _ _); rw [hni]; refine CallK.val [] h18 c18 ⟨⟨rfl, rfl, trivial⟩, rfl, rfl, rfl, trivial⟩ rfl rfl hn18 ?_)
      | ((with_reducible show CallK _ _ 19 _ _ _ _); refine CallK.lit [] h19 c19 ⟨⟨rfl, rfl, trivial⟩, rfl, trivial⟩ rfl rfl ?_)) <;> with_reducible refine wK ?_)
    | ((with_reducible show (_ ∧ _) ∧ _ ∧ _); (refine eK ?_ ?_ <;> with_reducible repeat' (first | exact trivial | (show _ ∧ _; refine aK ?_ ?_)))))); all_goals clear fct)
        refine LoopK.use G G_good (fun (k : Nat) => [(2, .ptr 20 0 0), (5, eInt i), (6, .ptr 60 0 0), (9, eInt (legN l i)), (10, eInt k)])
          (fun _ => [(20, .live 2 [eFor ⟨l, m'⟩] false), (60, .live 2 [eFor ⟨l', m'⟩] false)]) (fun k => k ≤ l.length) (fun k => l.length - k) 0 (Nat.zero_le _)
          ⟨⟨rfl, rfl⟩, ⟨⟨rfl, rfl⟩, rfl, ⟨rfl, rfl⟩, rfl, rfl, trivial⟩, ⟨⟨rfl, rfl, trivial⟩, trivial⟩, ⟨⟨rfl, rfl, trivial⟩, trivial⟩, trivial⟩ ?_
        intro k hk
        with_reducible refine wK ?_
        refine IfK.mk (fun h1 => ?_) (fun h1 => ?_) <;> (try simp only [castN] at h1) <;> with_reducible refine wK ?_
        · have hk' : k < l.length := by simp only [decide_eq_true_eq] at h1; omega
          obtain ⟨y, hy⟩ : ∃ y, l[k]? = some y := ⟨_, List.getElem?_eq_getElem hk'⟩
          have hty := there_get hy
          have hbk := (hmore k hty).1
          have h21k := h21 k
          have h21k' := h21' k
          have h20k := h20 i k ht hty
          rw [hty, Bool.true_and] at h21k
          rw [show thereN l' k = true by rw [there_len hlen]; exact hty, Bool.true_and, hbk] at h21k'
          have hcx := nd_get hx
          have hcy := nd_get hy
          unfold underB at h21k'
          rw [hcx, hcy] at h21k'
          have hleg : legN l i ≠ -1 → thereN l (legN l i) = true := fun h => by
            rcases kidAt_cases (isLeg l) (nd l i).kids with h' | h'
            · exact absurd h' h
            · exact (R.kid i ht _ h').1
          obtain ⟨x1, x2, x3, x4, x5, x6, x7, x8, x9, x10⟩ := x
          obtain ⟨y1, y2, y3, y4, y5, y6, y7, y8, y9, y10⟩ := y
          simp only at h21k'
          generalize barN l k = b1 at h21k h21k'
          generalize holdsN l i k = bH at h20k h21k'
          obtain ⟨v, hv⟩ : ∃ v, (b1 || (decide ((k : Int) = (i : Int)) || decide (x2 = fldW) && (decide (y1 = 1) && (bH && (decide (legN l i = -1) || !holdsN l (legN l i) k))))) = v := ⟨_, rfl⟩
          rw [hv] at h21k'
          cases hF : decide (x2 = fldW) with
          | false =>
            have hF' : (x2 = (⟨#[102, 105, 101, 108, 100, 115, 101, 116]⟩ : ByteArray)) = False := eq_false (of_decide_eq_false hF)
            cases b1 with
            | true =>
              simp at hv
              subst hv
              (have fct := And.intro hlm (hF'); (repeat' (first
    | refine gF ?_
    | ((first
      | (refine IdxK.mk i (eNode ⟨x1, x2, x3, x4, x5, x6, x7, x8, x9, x10⟩) rfl (node_get hx) ?_)
      | (refine IdxK.mk k (eNode ⟨y1, y2, y3, y4, y5, y6, y7, y8, y9, y10⟩) rfl (node_get hy) ?_)
      | ((with_reducible show CallK _ _ 20 _ _ _ _); first | (refine CallK.lit [] h20k c20 ⟨⟨rfl, rfl, trivial⟩, rfl, rfl, trivial⟩ rfl rfl ?_))
      | ((with_reducible show CallK _ _ 21 _ _ _ _); first | (refine CallK.lit [] h21k' c21 ⟨⟨rfl, rfl, trivial⟩, rfl, trivial⟩ rfl rfl ?_) | (refine CallK.lit [] h21k c21 ⟨⟨rfl, rfl, trivial⟩, rfl, trivial⟩ rfl rfl ?_))
      | ((with_reducible show NextK _ _); refine NextK.mk (k + 1) (by omega) (by omega) ⟨⟨rfl, rfl⟩, ⟨⟨rfl, rfl⟩, rfl, ⟨rfl, rfl⟩, rfl, by show ((k + 1 : Nat) : Int) = (k : Int) + 1; omega, trivial⟩, ⟨⟨rfl, rfl, trivial⟩, trivial⟩, ⟨⟨rfl, rfl, trivial⟩, trivial⟩, trivial⟩)) <;> with_reducible refine wK ?_)
    | ((with_reducible show (_ ∧ _) ∧ _ ∧ _); (refine eK ?_ ?_ <;> with_reducible repeat' (first | exact trivial | (show _ ∧ _; refine aK ?_ ?_)))))); all_goals clear fct)
            | false =>
              cases hE : decide ((k : Int) = (i : Int)) with
              | true =>
                have hE' : ((k : Int) = (i : Int)) = True := eq_true (of_decide_eq_true hE)
                rw [hE] at hv; simp at hv
                subst hv
                (have fct := And.intro hlm (And.intro hF' (hE')); (repeat' (first
    | refine gF ?_
    | ((first
      | (refine IdxK.mk i (eNode ⟨x1, x2, x3, x4, x5, x6, x7, x8, x9, x10⟩) rfl (node_get hx) ?_)
      | (refine IdxK.mk k (eNode ⟨y1, y2, y3, y4, y5, y6, y7, y8, y9, y10⟩) rfl (node_get hy) ?_)
      | ((with_reducible show CallK _ _ 20 _ _ _ _); first | (refine CallK.lit [] h20k c20 ⟨⟨rfl, rfl, trivial⟩, rfl, rfl, trivial⟩ rfl rfl ?_))
      | ((with_reducible show CallK _ _ 21 _ _ _ _); first | (refine CallK.lit [] h21k' c21 ⟨⟨rfl, rfl, trivial⟩, rfl, trivial⟩ rfl rfl ?_) | (refine CallK.lit [] h21k c21 ⟨⟨rfl, rfl, trivial⟩, rfl, trivial⟩ rfl rfl ?_))
      | ((with_reducible show NextK _ _); refine NextK.mk (k + 1) (by omega) (by omega) ⟨⟨rfl, rfl⟩, ⟨⟨rfl, rfl⟩, rfl, ⟨rfl, rfl⟩, rfl, by show ((k + 1 : Nat) : Int) = (k : Int) + 1; omega, trivial⟩, ⟨⟨rfl, rfl, trivial⟩, trivial⟩, ⟨⟨rfl, rfl, trivial⟩, trivial⟩, trivial⟩)) <;> with_reducible refine wK ?_)
    | ((with_reducible show (_ ∧ _) ∧ _ ∧ _); (refine eK ?_ ?_ <;> with_reducible repeat' (first | exact trivial | (show _ ∧ _; refine aK ?_ ?_)))))); all_goals clear fct)
              | false =>
                have hE' : ((k : Int) = (i : Int)) = False := eq_false (of_decide_eq_false hE)
                rw [hE, hF] at hv; simp at hv
                subst hv
                (have fct := And.intro hlm (And.intro hF' (hE')); (repeat' (first
    | refine gF ?_
    | ((first
      | (refine IdxK.mk i (eNode ⟨x1, x2, x3, x4, x5, x6, x7, x8, x9, x10⟩) rfl (node_get hx) ?_)
      | (refine IdxK.mk k (eNode ⟨y1, y2, y3, y4, y5, y6, y7, y8, y9, y10⟩) rfl (node_get hy) ?_)
      | ((with_reducible show CallK _ _ 20 _ _ _ _); first | (refine CallK.lit [] h20k c20 ⟨⟨rfl, rfl, trivial⟩, rfl, rfl, trivial⟩ rfl rfl ?_))
      | ((with_reducible show CallK _ _ 21 _ _ _ _); first | (refine CallK.lit [] h21k' c21 ⟨⟨rfl, rfl, trivial⟩, rfl, trivial⟩ rfl rfl ?_) | (refine CallK.lit [] h21k c21 ⟨⟨rfl, rfl, trivial⟩, rfl, trivial⟩ rfl rfl ?_))
      | ((with_reducible show NextK _ _); refine NextK.mk (k + 1) (by omega) (by omega) ⟨⟨rfl, rfl⟩, ⟨⟨rfl, rfl⟩, rfl, ⟨rfl, rfl⟩, rfl, by show ((k + 1 : Nat) : Int) = (k : Int) + 1; omega, trivial⟩, ⟨⟨rfl, rfl, trivial⟩, trivial⟩, ⟨⟨rfl, rfl, trivial⟩, trivial⟩, trivial⟩)) <;> with_reducible refine wK ?_)
    | ((with_reducible show (_ ∧ _) ∧ _ ∧ _); (refine eK ?_ ?_ <;> with_reducible repeat' (first | exact trivial | (show _ ∧ _; refine aK ?_ ?_)))))); all_goals clear fct)
          | true =>
            have hF' : (x2 = (⟨#[102, 105, 101, 108, 100, 115, 101, 116]⟩ : ByteArray)) = True := eq_true (of_decide_eq_true hF)
            cases hKd : decide (y1 = 1) with
            | false =>
              have hKd' : (y1 = 1) = False := eq_false (of_decide_eq_false hKd)
              cases b1 with
              | true =>
                simp at hv
                subst hv
                (have fct := And.intro hlm (And.intro hF' (hKd')); (repeat' (first
    | refine gF ?_
    | ((first
      | (refine IdxK.mk i (eNode ⟨x1, x2, x3, x4, x5, x6, x7, x8, x9, x10⟩) rfl (node_get hx) ?_)
      | (refine IdxK.mk k (eNode ⟨y1, y2, y3, y4, y5, y6, y7, y8, y9, y10⟩) rfl (node_get hy) ?_)
      | ((with_reducible show CallK _ _ 20 _ _ _ _); first | (refine CallK.lit [] h20k c20 ⟨⟨rfl, rfl, trivial⟩, rfl, rfl, trivial⟩ rfl rfl ?_))
      | ((with_reducible show CallK _ _ 21 _ _ _ _); first | (refine CallK.lit [] h21k' c21 ⟨⟨rfl, rfl, trivial⟩, rfl, trivial⟩ rfl rfl ?_) | (refine CallK.lit [] h21k c21 ⟨⟨rfl, rfl, trivial⟩, rfl, trivial⟩ rfl rfl ?_))
      | ((with_reducible show NextK _ _); refine NextK.mk (k + 1) (by omega) (by omega) ⟨⟨rfl, rfl⟩, ⟨⟨rfl, rfl⟩, rfl, ⟨rfl, rfl⟩, rfl, by show ((k + 1 : Nat) : Int) = (k : Int) + 1; omega, trivial⟩, ⟨⟨rfl, rfl, trivial⟩, trivial⟩, ⟨⟨rfl, rfl, trivial⟩, trivial⟩, trivial⟩)) <;> with_reducible refine wK ?_)
    | ((with_reducible show (_ ∧ _) ∧ _ ∧ _); (refine eK ?_ ?_ <;> with_reducible repeat' (first | exact trivial | (show _ ∧ _; refine aK ?_ ?_)))))); all_goals clear fct)
              | false =>
                cases hE : decide ((k : Int) = (i : Int)) with
                | true =>
                  have hE' : ((k : Int) = (i : Int)) = True := eq_true (of_decide_eq_true hE)
                  rw [hE] at hv; simp at hv
                  subst hv
                  (have fct := And.intro hlm (And.intro hF' (And.intro hKd' (hE'))); (repeat' (first
    | refine gF ?_
    | ((first
      | (refine IdxK.mk i (eNode ⟨x1, x2, x3, x4, x5, x6, x7, x8, x9, x10⟩) rfl (node_get hx) ?_)
      | (refine IdxK.mk k (eNode ⟨y1, y2, y3, y4, y5, y6, y7, y8, y9, y10⟩) rfl (node_get hy) ?_)
      | ((with_reducible show CallK _ _ 20 _ _ _ _); first | (refine CallK.lit [] h20k c20 ⟨⟨rfl, rfl, trivial⟩, rfl, rfl, trivial⟩ rfl rfl ?_))
      | ((with_reducible show CallK _ _ 21 _ _ _ _); first | (refine CallK.lit [] h21k' c21 ⟨⟨rfl, rfl, trivial⟩, rfl, trivial⟩ rfl rfl ?_) | (refine CallK.lit [] h21k c21 ⟨⟨rfl, rfl, trivial⟩, rfl, trivial⟩ rfl rfl ?_))
      | ((with_reducible show NextK _ _); refine NextK.mk (k + 1) (by omega) (by omega) ⟨⟨rfl, rfl⟩, ⟨⟨rfl, rfl⟩, rfl, ⟨rfl, rfl⟩, rfl, by show ((k + 1 : Nat) : Int) = (k : Int) + 1; omega, trivial⟩, ⟨⟨rfl, rfl, trivial⟩, trivial⟩, ⟨⟨rfl, rfl, trivial⟩, trivial⟩, trivial⟩)) <;> with_reducible refine wK ?_)
    | ((with_reducible show (_ ∧ _) ∧ _ ∧ _); (refine eK ?_ ?_ <;> with_reducible repeat' (first | exact trivial | (show _ ∧ _; refine aK ?_ ?_)))))); all_goals clear fct)
                | false =>
                  have hE' : ((k : Int) = (i : Int)) = False := eq_false (of_decide_eq_false hE)
                  rw [hE, hF, hKd] at hv; simp at hv
                  subst hv
                  (have fct := And.intro hlm (And.intro hF' (And.intro hKd' (hE'))); (repeat' (first
    | refine gF ?_
    | ((first
      | (refine IdxK.mk i (eNode ⟨x1, x2, x3, x4, x5, x6, x7, x8, x9, x10⟩) rfl (node_get hx) ?_)
      | (refine IdxK.mk k (eNode ⟨y1, y2, y3, y4, y5, y6, y7, y8, y9, y10⟩) rfl (node_get hy) ?_)
      | ((with_reducible show CallK _ _ 20 _ _ _ _); first | (refine CallK.lit [] h20k c20 ⟨⟨rfl, rfl, trivial⟩, rfl, rfl, trivial⟩ rfl rfl ?_))
      | ((with_reducible show CallK _ _ 21 _ _ _ _); first | (refine CallK.lit [] h21k' c21 ⟨⟨rfl, rfl, trivial⟩, rfl, trivial⟩ rfl rfl ?_) | (refine CallK.lit [] h21k c21 ⟨⟨rfl, rfl, trivial⟩, rfl, trivial⟩ rfl rfl ?_))
      | ((with_reducible show NextK _ _); refine NextK.mk (k + 1) (by omega) (by omega) ⟨⟨rfl, rfl⟩, ⟨⟨rfl, rfl⟩, rfl, ⟨rfl, rfl⟩, rfl, by show ((k + 1 : Nat) : Int) = (k : Int) + 1; omega, trivial⟩, ⟨⟨rfl, rfl, trivial⟩, trivial⟩, ⟨⟨rfl, rfl, trivial⟩, trivial⟩, trivial⟩)) <;> with_reducible refine wK ?_)
    | ((with_reducible show (_ ∧ _) ∧ _ ∧ _); (refine eK ?_ ?_ <;> with_reducible repeat' (first | exact trivial | (show _ ∧ _; refine aK ?_ ?_)))))); all_goals clear fct)
            | true =>
              have hKd' : (y1 = 1) = True := eq_true (of_decide_eq_true hKd)
              cases bH with
              | false =>
                cases b1 with
                | true =>
                  simp at hv
                  subst hv
                  (have fct := And.intro hlm (And.intro hF' (hKd')); (repeat' (first
    | refine gF ?_
    | ((first
      | (refine IdxK.mk i (eNode ⟨x1, x2, x3, x4, x5, x6, x7, x8, x9, x10⟩) rfl (node_get hx) ?_)
      | (refine IdxK.mk k (eNode ⟨y1, y2, y3, y4, y5, y6, y7, y8, y9, y10⟩) rfl (node_get hy) ?_)
      | ((with_reducible show CallK _ _ 20 _ _ _ _); first | (refine CallK.lit [] h20k c20 ⟨⟨rfl, rfl, trivial⟩, rfl, rfl, trivial⟩ rfl rfl ?_))
      | ((with_reducible show CallK _ _ 21 _ _ _ _); first | (refine CallK.lit [] h21k' c21 ⟨⟨rfl, rfl, trivial⟩, rfl, trivial⟩ rfl rfl ?_) | (refine CallK.lit [] h21k c21 ⟨⟨rfl, rfl, trivial⟩, rfl, trivial⟩ rfl rfl ?_))
      | ((with_reducible show NextK _ _); refine NextK.mk (k + 1) (by omega) (by omega) ⟨⟨rfl, rfl⟩, ⟨⟨rfl, rfl⟩, rfl, ⟨rfl, rfl⟩, rfl, by show ((k + 1 : Nat) : Int) = (k : Int) + 1; omega, trivial⟩, ⟨⟨rfl, rfl, trivial⟩, trivial⟩, ⟨⟨rfl, rfl, trivial⟩, trivial⟩, trivial⟩)) <;> with_reducible refine wK ?_)
    | ((with_reducible show (_ ∧ _) ∧ _ ∧ _); (refine eK ?_ ?_ <;> with_reducible repeat' (first | exact trivial | (show _ ∧ _; refine aK ?_ ?_)))))); all_goals clear fct)
                | false =>
                  cases hE : decide ((k : Int) = (i : Int)) with
                  | true =>
                    have hE' : ((k : Int) = (i : Int)) = True := eq_true (of_decide_eq_true hE)
                    rw [hE] at hv; simp at hv
                    subst hv
                    (have fct := And.intro hlm (And.intro hF' (And.intro hKd' (hE'))); (repeat' (first
    | refine gF ?_
    | ((first
      | (refine IdxK.mk i (eNode ⟨x1, x2, x3, x4, x5, x6, x7, x8, x9, x10⟩) rfl (node_get hx) ?_)
      | (refine IdxK.mk k (eNode ⟨y1, y2, y3, y4, y5, y6, y7, y8, y9, y10⟩) rfl (node_get hy) ?_)
      | ((with_reducible show CallK _ _ 20 _ _ _ _); first | (refine CallK.lit [] h20k c20 ⟨⟨rfl, rfl, trivial⟩, rfl, rfl, trivial⟩ rfl rfl ?_))
      | ((with_reducible show CallK _ _ 21 _ _ _ _); first | (refine CallK.lit [] h21k' c21 ⟨⟨rfl, rfl, trivial⟩, rfl, trivial⟩ rfl rfl ?_) | (refine CallK.lit [] h21k c21 ⟨⟨rfl, rfl, trivial⟩, rfl, trivial⟩ rfl rfl ?_))
      | ((with_reducible show NextK _ _); refine NextK.mk (k + 1) (by omega) (by omega) ⟨⟨rfl, rfl⟩, ⟨⟨rfl, rfl⟩, rfl, ⟨rfl, rfl⟩, rfl, by show ((k + 1 : Nat) : Int) = (k : Int) + 1; omega, trivial⟩, ⟨⟨rfl, rfl, trivial⟩, trivial⟩, ⟨⟨rfl, rfl, trivial⟩, trivial⟩, trivial⟩)) <;> with_reducible refine wK ?_)
    | ((with_reducible show (_ ∧ _) ∧ _ ∧ _); (refine eK ?_ ?_ <;> with_reducible repeat' (first | exact trivial | (show _ ∧ _; refine aK ?_ ?_)))))); all_goals clear fct)
                  | false =>
                    have hE' : ((k : Int) = (i : Int)) = False := eq_false (of_decide_eq_false hE)
                    rw [hE, hF, hKd] at hv; simp at hv
                    subst hv
                    (have fct := And.intro hlm (And.intro hF' (And.intro hKd' (hE'))); (repeat' (first
    | refine gF ?_
    | ((first
      | (refine IdxK.mk i (eNode ⟨x1, x2, x3, x4, x5, x6, x7, x8, x9, x10⟩) rfl (node_get hx) ?_)
      | (refine IdxK.mk k (eNode ⟨y1, y2, y3, y4, y5, y6, y7, y8, y9, y10⟩) rfl (node_get hy) ?_)
      | ((with_reducible show CallK _ _ 20 _ _ _ _); first | (refine CallK.lit [] h20k c20 ⟨⟨rfl, rfl, trivial⟩, rfl, rfl, trivial⟩ rfl rfl ?_))
      | ((with_reducible show CallK _ _ 21 _ _ _ _); first | (refine CallK.lit [] h21k' c21 ⟨⟨rfl, rfl, trivial⟩, rfl, trivial⟩ rfl rfl ?_) | (refine CallK.lit [] h21k c21 ⟨⟨rfl, rfl, trivial⟩, rfl, trivial⟩ rfl rfl ?_))
      | ((with_reducible show NextK _ _); refine NextK.mk (k + 1) (by omega) (by omega) ⟨⟨rfl, rfl⟩, ⟨⟨rfl, rfl⟩, rfl, ⟨rfl, rfl⟩, rfl, by show ((k + 1 : Nat) : Int) = (k : Int) + 1; omega, trivial⟩, ⟨⟨rfl, rfl, trivial⟩, trivial⟩, ⟨⟨rfl, rfl, trivial⟩, trivial⟩, trivial⟩)) <;> with_reducible refine wK ?_)
    | ((with_reducible show (_ ∧ _) ∧ _ ∧ _); (refine eK ?_ ?_ <;> with_reducible repeat' (first | exact trivial | (show _ ∧ _; refine aK ?_ ?_)))))); all_goals clear fct)
              | true =>
                cases hL : decide (legN l i = -1) with
                | true =>
                  have hL' : (legN l i = -1) = True := eq_true (of_decide_eq_true hL)
                  cases b1 with
                  | true =>
                    simp at hv
                    subst hv
                    (have fct := And.intro hlm (And.intro hF' (And.intro hKd' (hL'))); (repeat' (first
    | refine gF ?_
    | ((first
      | (refine IdxK.mk i (eNode ⟨x1, x2, x3, x4, x5, x6, x7, x8, x9, x10⟩) rfl (node_get hx) ?_)
      | (refine IdxK.mk k (eNode ⟨y1, y2, y3, y4, y5, y6, y7, y8, y9, y10⟩) rfl (node_get hy) ?_)
      | ((with_reducible show CallK _ _ 20 _ _ _ _); first | (refine CallK.lit [] h20k c20 ⟨⟨rfl, rfl, trivial⟩, rfl, rfl, trivial⟩ rfl rfl ?_))
      | ((with_reducible show CallK _ _ 21 _ _ _ _); first | (refine CallK.lit [] h21k' c21 ⟨⟨rfl, rfl, trivial⟩, rfl, trivial⟩ rfl rfl ?_) | (refine CallK.lit [] h21k c21 ⟨⟨rfl, rfl, trivial⟩, rfl, trivial⟩ rfl rfl ?_))
      | ((with_reducible show NextK _ _); refine NextK.mk (k + 1) (by omega) (by omega) ⟨⟨rfl, rfl⟩, ⟨⟨rfl, rfl⟩, rfl, ⟨rfl, rfl⟩, rfl, by show ((k + 1 : Nat) : Int) = (k : Int) + 1; omega, trivial⟩, ⟨⟨rfl, rfl, trivial⟩, trivial⟩, ⟨⟨rfl, rfl, trivial⟩, trivial⟩, trivial⟩)) <;> with_reducible refine wK ?_)
    | ((with_reducible show (_ ∧ _) ∧ _ ∧ _); (refine eK ?_ ?_ <;> with_reducible repeat' (first | exact trivial | (show _ ∧ _; refine aK ?_ ?_)))))); all_goals clear fct)
                  | false =>
                    cases hE : decide ((k : Int) = (i : Int)) with
                    | true =>
                      have hE' : ((k : Int) = (i : Int)) = True := eq_true (of_decide_eq_true hE)
                      rw [hE] at hv; simp at hv
                      subst hv
                      (have fct := And.intro hlm (And.intro hF' (And.intro hKd' (And.intro hL' (hE')))); (repeat' (first
    | refine gF ?_
    | ((first
      | (refine IdxK.mk i (eNode ⟨x1, x2, x3, x4, x5, x6, x7, x8, x9, x10⟩) rfl (node_get hx) ?_)
      | (refine IdxK.mk k (eNode ⟨y1, y2, y3, y4, y5, y6, y7, y8, y9, y10⟩) rfl (node_get hy) ?_)
      | ((with_reducible show CallK _ _ 20 _ _ _ _); first | (refine CallK.lit [] h20k c20 ⟨⟨rfl, rfl, trivial⟩, rfl, rfl, trivial⟩ rfl rfl ?_))
      | ((with_reducible show CallK _ _ 21 _ _ _ _); first | (refine CallK.lit [] h21k' c21 ⟨⟨rfl, rfl, trivial⟩, rfl, trivial⟩ rfl rfl ?_) | (refine CallK.lit [] h21k c21 ⟨⟨rfl, rfl, trivial⟩, rfl, trivial⟩ rfl rfl ?_))
      | ((with_reducible show NextK _ _); refine NextK.mk (k + 1) (by omega) (by omega) ⟨⟨rfl, rfl⟩, ⟨⟨rfl, rfl⟩, rfl, ⟨rfl, rfl⟩, rfl, by show ((k + 1 : Nat) : Int) = (k : Int) + 1; omega, trivial⟩, ⟨⟨rfl, rfl, trivial⟩, trivial⟩, ⟨⟨rfl, rfl, trivial⟩, trivial⟩, trivial⟩)) <;> with_reducible refine wK ?_)
    | ((with_reducible show (_ ∧ _) ∧ _ ∧ _); (refine eK ?_ ?_ <;> with_reducible repeat' (first | exact trivial | (show _ ∧ _; refine aK ?_ ?_)))))); all_goals clear fct)
                    | false =>
                      have hE' : ((k : Int) = (i : Int)) = False := eq_false (of_decide_eq_false hE)
                      rw [hE, hF, hKd, hL] at hv; simp at hv
                      subst hv
                      (have fct := And.intro hlm (And.intro hF' (And.intro hKd' (And.intro hL' (hE')))); (repeat' (first
    | refine gF ?_
    | ((first
      | (refine IdxK.mk i (eNode ⟨x1, x2, x3, x4, x5, x6, x7, x8, x9, x10⟩) rfl (node_get hx) ?_)
      | (refine IdxK.mk k (eNode ⟨y1, y2, y3, y4, y5, y6, y7, y8, y9, y10⟩) rfl (node_get hy) ?_)
      | ((with_reducible show CallK _ _ 20 _ _ _ _); first | (refine CallK.lit [] h20k c20 ⟨⟨rfl, rfl, trivial⟩, rfl, rfl, trivial⟩ rfl rfl ?_))
      | ((with_reducible show CallK _ _ 21 _ _ _ _); first | (refine CallK.lit [] h21k' c21 ⟨⟨rfl, rfl, trivial⟩, rfl, trivial⟩ rfl rfl ?_) | (refine CallK.lit [] h21k c21 ⟨⟨rfl, rfl, trivial⟩, rfl, trivial⟩ rfl rfl ?_))
      | ((with_reducible show NextK _ _); refine NextK.mk (k + 1) (by omega) (by omega) ⟨⟨rfl, rfl⟩, ⟨⟨rfl, rfl⟩, rfl, ⟨rfl, rfl⟩, rfl, by show ((k + 1 : Nat) : Int) = (k : Int) + 1; omega, trivial⟩, ⟨⟨rfl, rfl, trivial⟩, trivial⟩, ⟨⟨rfl, rfl, trivial⟩, trivial⟩, trivial⟩)) <;> with_reducible refine wK ?_)
    | ((with_reducible show (_ ∧ _) ∧ _ ∧ _); (refine eK ?_ ?_ <;> with_reducible repeat' (first | exact trivial | (show _ ∧ _; refine aK ?_ ?_)))))); all_goals clear fct)
                | false =>
                  have hL' : (legN l i = -1) = False := eq_false (of_decide_eq_false hL)
                  have h20q := h20 (legN l i) k (hleg (of_decide_eq_false hL)) hty
                  cases hQ : holdsN l (legN l i) k with
                  | false =>
                    rw [hQ] at h20q
                    cases b1 with
                    | true =>
                      simp at hv
                      subst hv
                      (have fct := And.intro hlm (And.intro hF' (And.intro hKd' (hL'))); (repeat' (first
    | refine gF ?_
    | ((first
      | (refine IdxK.mk i (eNode ⟨x1, x2, x3, x4, x5, x6, x7, x8, x9, x10⟩) rfl (node_get hx) ?_)
      | (refine IdxK.mk k (eNode ⟨y1, y2, y3, y4, y5, y6, y7, y8, y9, y10⟩) rfl (node_get hy) ?_)
      | ((with_reducible show CallK _ _ 20 _ _ _ _); first | (refine CallK.lit [] h20k c20 ⟨⟨rfl, rfl, trivial⟩, rfl, rfl, trivial⟩ rfl rfl ?_) | (refine CallK.lit [] h20q c20 ⟨⟨rfl, rfl, trivial⟩, rfl, rfl, trivial⟩ rfl rfl ?_))
      | ((with_reducible show CallK _ _ 21 _ _ _ _); first | (refine CallK.lit [] h21k' c21 ⟨⟨rfl, rfl, trivial⟩, rfl, trivial⟩ rfl rfl ?_) | (refine CallK.lit [] h21k c21 ⟨⟨rfl, rfl, trivial⟩, rfl, trivial⟩ rfl rfl ?_))
      | ((with_reducible show NextK _ _); refine NextK.mk (k + 1) (by omega) (by omega) ⟨⟨rfl, rfl⟩, ⟨⟨rfl, rfl⟩, rfl, ⟨rfl, rfl⟩, rfl, by show ((k + 1 : Nat) : Int) = (k : Int) + 1; omega, trivial⟩, ⟨⟨rfl, rfl, trivial⟩, trivial⟩, ⟨⟨rfl, rfl, trivial⟩, trivial⟩, trivial⟩)) <;> with_reducible refine wK ?_)
    | ((with_reducible show (_ ∧ _) ∧ _ ∧ _); (refine eK ?_ ?_ <;> with_reducible repeat' (first | exact trivial | (show _ ∧ _; refine aK ?_ ?_)))))); all_goals clear fct)
                    | false =>
                      cases hE : decide ((k : Int) = (i : Int)) with
                      | true =>
                        have hE' : ((k : Int) = (i : Int)) = True := eq_true (of_decide_eq_true hE)
                        rw [hE] at hv; simp at hv
                        subst hv
                        (have fct := And.intro hlm (And.intro hF' (And.intro hKd' (And.intro hL' (hE')))); (repeat' (first
    | refine gF ?_
    | ((first
      | (refine IdxK.mk i (eNode ⟨x1, x2, x3, x4, x5, x6, x7, x8, x9, x10⟩) rfl (node_get hx) ?_)
      | (refine IdxK.mk k (eNode ⟨y1, y2, y3, y4, y5, y6, y7, y8, y9, y10⟩) rfl (node_get hy) ?_)
      | ((with_reducible show CallK _ _ 20 _ _ _ _); first | (refine CallK.lit [] h20k c20 ⟨⟨rfl, rfl, trivial⟩, rfl, rfl, trivial⟩ rfl rfl ?_) | (refine CallK.lit [] h20q c20 ⟨⟨rfl, rfl, trivial⟩, rfl, rfl, trivial⟩ rfl rfl ?_))
      | ((with_reducible show CallK _ _ 21 _ _ _ _); first | (refine CallK.lit [] h21k' c21 ⟨⟨rfl, rfl, trivial⟩, rfl, trivial⟩ rfl rfl ?_) | (refine CallK.lit [] h21k c21 ⟨⟨rfl, rfl, trivial⟩, rfl, trivial⟩ rfl rfl ?_))
      | ((with_reducible show NextK _ _); refine NextK.mk (k + 1) (by omega) (by omega) ⟨⟨rfl, rfl⟩, ⟨⟨rfl, rfl⟩, rfl, ⟨rfl, rfl⟩, rfl, by show ((k + 1 : Nat) : Int) = (k : Int) + 1; omega, trivial⟩, ⟨⟨rfl, rfl, trivial⟩, trivial⟩, ⟨⟨rfl, rfl, trivial⟩, trivial⟩, trivial⟩)) <;> with_reducible refine wK ?_)
    | ((with_reducible show (_ ∧ _) ∧ _ ∧ _); (refine eK ?_ ?_ <;> with_reducible repeat' (first | exact trivial | (show _ ∧ _; refine aK ?_ ?_)))))); all_goals clear fct)
                      | false =>
                        have hE' : ((k : Int) = (i : Int)) = False := eq_false (of_decide_eq_false hE)
                        rw [hE, hF, hKd, hL, hQ] at hv; simp at hv
                        subst hv
                        (have fct := And.intro hlm (And.intro hF' (And.intro hKd' (And.intro hL' (hE')))); (repeat' (first
    | refine gF ?_
    | ((first
      | (refine IdxK.mk i (eNode ⟨x1, x2, x3, x4, x5, x6, x7, x8, x9, x10⟩) rfl (node_get hx) ?_)
      | (refine IdxK.mk k (eNode ⟨y1, y2, y3, y4, y5, y6, y7, y8, y9, y10⟩) rfl (node_get hy) ?_)
      | ((with_reducible show CallK _ _ 20 _ _ _ _); first | (refine CallK.lit [] h20k c20 ⟨⟨rfl, rfl, trivial⟩, rfl, rfl, trivial⟩ rfl rfl ?_) | (refine CallK.lit [] h20q c20 ⟨⟨rfl, rfl, trivial⟩, rfl, rfl, trivial⟩ rfl rfl ?_))
      | ((with_reducible show CallK _ _ 21 _ _ _ _); first | (refine CallK.lit [] h21k' c21 ⟨⟨rfl, rfl, trivial⟩, rfl, trivial⟩ rfl rfl ?_) | (refine CallK.lit [] h21k c21 ⟨⟨rfl, rfl, trivial⟩, rfl, trivial⟩ rfl rfl ?_))
      | ((with_reducible show NextK _ _); refine NextK.mk (k + 1) (by omega) (by omega) ⟨⟨rfl, rfl⟩, ⟨⟨rfl, rfl⟩, rfl, ⟨rfl, rfl⟩, rfl, by show ((k + 1 : Nat) : Int) = (k : Int) + 1; omega, trivial⟩, ⟨⟨rfl, rfl, trivial⟩, trivial⟩, ⟨⟨rfl, rfl, trivial⟩, trivial⟩, trivial⟩)) <;> with_reducible refine wK ?_)
    | ((with_reducible show (_ ∧ _) ∧ _ ∧ _); (refine eK ?_ ?_ <;> with_reducible repeat' (first | exact trivial | (show _ ∧ _; refine aK ?_ ?_)))))); all_goals clear fct)
                  | true =>
                    rw [hQ] at h20q
                    cases b1 with
                    | true =>
                      simp at hv
                      subst hv
                      (have fct := And.intro hlm (And.intro hF' (And.intro hKd' (hL'))); (repeat' (first
    | refine gF ?_
    | ((first
      | (refine IdxK.mk i (eNode ⟨x1, x2, x3, x4, x5, x6, x7, x8, x9, x10⟩) rfl (node_get hx) ?_)
      | (refine IdxK.mk k (eNode ⟨y1, y2, y3, y4, y5, y6, y7, y8, y9, y10⟩) rfl (node_get hy) ?_)
      | ((with_reducible show CallK _ _ 20 _ _ _ _); first | (refine CallK.lit [] h20k c20 ⟨⟨rfl, rfl, trivial⟩, rfl, rfl, trivial⟩ rfl rfl ?_) | (refine CallK.lit [] h20q c20 ⟨⟨rfl, rfl, trivial⟩, rfl, rfl, trivial⟩ rfl rfl ?_))
      | ((with_reducible show CallK _ _ 21 _ _ _ _); first | (refine CallK.lit [] h21k' c21 ⟨⟨rfl, rfl, trivial⟩, rfl, trivial⟩ rfl rfl ?_) | (refine CallK.lit [] h21k c21 ⟨⟨rfl, rfl, trivial⟩, rfl, trivial⟩ rfl rfl ?_))
      | ((with_reducible show NextK _ _); refine NextK.mk (k + 1) (by omega) (by omega) ⟨⟨rfl, rfl⟩, ⟨⟨rfl, rfl⟩, rfl, ⟨rfl, rfl⟩, rfl, by show ((k + 1 : Nat) : Int) = (k : Int) + 1; omega, trivial⟩, ⟨⟨rfl, rfl, trivial⟩, trivial⟩, ⟨⟨rfl, rfl, trivial⟩, trivial⟩, trivial⟩)) <;> with_reducible refine wK ?_)
    | ((with_reducible show (_ ∧ _) ∧ _ ∧ _); (refine eK ?_ ?_ <;> with_reducible repeat' (first | exact trivial | (show _ ∧ _; refine aK ?_ ?_)))))); all_goals clear fct)
                    | false =>
                      cases hE : decide ((k : Int) = (i : Int)) with
                      | true =>
                        have hE' : ((k : Int) = (i : Int)) = True := eq_true (of_decide_eq_true hE)
                        rw [hE] at hv; simp at hv
                        subst hv
                        (have fct := And.intro hlm (And.intro hF' (And.intro hKd' (And.intro hL' (hE')))); (repeat' (first
    | refine gF ?_
    | ((first
      | (refine IdxK.mk i (eNode ⟨x1, x2, x3, x4, x5, x6, x7, x8, x9, x10⟩) rfl (node_get hx) ?_)
      | (refine IdxK.mk k (eNode ⟨y1, y2, y3, y4, y5, y6, y7, y8, y9, y10⟩) rfl (node_get hy) ?_)
      | ((with_reducible show CallK _ _ 20 _ _ _ _); first | (refine CallK.lit [] h20k c20 ⟨⟨rfl, rfl, trivial⟩, rfl, rfl, trivial⟩ rfl rfl ?_) | (refine CallK.lit [] h20q c20 ⟨⟨rfl, rfl, trivial⟩, rfl, rfl, trivial⟩ rfl rfl ?_))
      | ((with_reducible show CallK _ _ 21 _ _ _ _); first | (refine CallK.lit [] h21k' c21 ⟨⟨rfl, rfl, trivial⟩, rfl, trivial⟩ rfl rfl ?_) | (refine CallK.lit [] h21k c21 ⟨⟨rfl, rfl, trivial⟩, rfl, trivial⟩ rfl rfl ?_))
      | ((with_reducible show NextK _ _); refine NextK.mk (k + 1) (by omega) (by omega) ⟨⟨rfl, rfl⟩, ⟨⟨rfl, rfl⟩, rfl, ⟨rfl, rfl⟩, rfl, by show ((k + 1 : Nat) : Int) = (k : Int) + 1; omega, trivial⟩, ⟨⟨rfl, rfl, trivial⟩, trivial⟩, ⟨⟨rfl, rfl, trivial⟩, trivial⟩, trivial⟩)) <;> with_reducible refine wK ?_)
    | ((with_reducible show (_ ∧ _) ∧ _ ∧ _); (refine eK ?_ ?_ <;> with_reducible repeat' (first | exact trivial | (show _ ∧ _; refine aK ?_ ?_)))))); all_goals clear fct)
                      | false =>
                        have hE' : ((k : Int) = (i : Int)) = False := eq_false (of_decide_eq_false hE)
                        rw [hE, hF, hKd, hL, hQ] at hv; simp at hv
                        subst hv
                        (have fct := And.intro hlm (And.intro hF' (And.intro hKd' (And.intro hL' (hE')))); (repeat' (first
    | refine gF ?_
    | ((first
      | (refine IdxK.mk i (eNode ⟨x1, x2, x3, x4, x5, x6, x7, x8, x9, x10⟩) rfl (node_get hx) ?_)
      | (refine IdxK.mk k (eNode ⟨y1, y2, y3, y4, y5, y6, y7, y8, y9, y10⟩) rfl (node_get hy) ?_)
      | ((with_reducible show CallK _ _ 20 _ _ _ _); first | (refine CallK.lit [] h20k c20 ⟨⟨rfl, rfl, trivial⟩, rfl, rfl, trivial⟩ rfl rfl ?_) | (refine CallK.lit [] h20q c20 ⟨⟨rfl, rfl, trivial⟩, rfl, rfl, trivial⟩ rfl rfl ?_))
      | ((with_reducible show CallK _ _ 21 _ _ _ _); first | (refine CallK.lit [] h21k' c21 ⟨⟨rfl, rfl, trivial⟩, rfl, trivial⟩ rfl rfl ?_) | (refine CallK.lit [] h21k c21 ⟨⟨rfl, rfl, trivial⟩, rfl, trivial⟩ rfl rfl ?_))
      | ((with_reducible show NextK _ _); refine NextK.mk (k + 1) (by omega) (by omega) ⟨⟨rfl, rfl⟩, ⟨⟨rfl, rfl⟩, rfl, ⟨rfl, rfl⟩, rfl, by show ((k + 1 : Nat) : Int) = (k : Int) + 1; omega, trivial⟩, ⟨⟨rfl, rfl, trivial⟩, trivial⟩, ⟨⟨rfl, rfl, trivial⟩, trivial⟩, trivial⟩)) <;> with_reducible refine wK ?_)
    | ((with_reducible show (_ ∧ _) ∧ _ ∧ _); (refine eK ?_ ?_ <;> with_reducible repeat' (first | exact trivial | (show _ ∧ _; refine aK ?_ ?_)))))); all_goals clear fct)
        · have hkl : k = l.length := by simp only [decide_eq_false_iff_not] at h1; omega
          subst hkl
          repeat' (first
    | refine gK ?_
    | (((with_reducible show CallK _ _ 19 _ _ _ _); refine CallK.lit [] h19' c19 ⟨⟨rfl, rfl, trivial⟩, rfl, trivial⟩ rfl rfl ?_) <;> with_reducible refine wK ?_)
    | ((with_reducible show (_ ∧ _) ∧ _ ∧ _); (refine eK ?_ ?_ <;> with_reducible repeat' (first | exact trivial | (show _ ∧ _; refine aK ?_ ?_)))))
          all_goals simp
      · have hd := decide_eq_false he
        generalize (setM ⟨l, m⟩ i disW noS).2.2 = e at h18 hn18 hd
        generalize (setM ⟨l, m⟩ i disW noS).2.1 = ns at h18 hn18
        generalize (setM ⟨l, m⟩ i disW noS).1 = g at h18 hn18
        obtain ⟨l', m'⟩ := g
        refine FnOK.startC (rvs := [.tmp 4]) G G_good Tryz.func3 rfl Tryz.ntmps3 rfl rfl ?_; with_reducible refine wD ?_
        (have fct := And.intro hlm (hd); (repeat' (first
    | refine gF ?_
    | ((first
      | ((with_reducible show CallK _ _ 15 _ _ _ _); refine CallK.lit [] h15 c15 trivial rfl rfl ?_)
      | ((with_reducible show CallK _ _ 16 _ _ _ _); refine CallK.lit [] h16 c16 ⟨⟨rfl, rfl, trivial⟩, trivial⟩ rfl rfl ?_)
      | ((with_reducible show CallK _ _ 17 _ _ _ _); refine CallK.lit [] h17 c17 ⟨⟨rfl, rfl, trivial⟩, trivial⟩ rfl rfl ?_)
      | (refine ConvK.int (by kernel_rfl) (by kernel_rfl) (wrap_u8 ha) ?_)
      | (refine HandK.rem ha.1 (by (try simp only [castN]); omega) rfl rfl rfl rfl ?_)
      | ((with_reducible show CallK _ _ 18 _ _ _ _); rw [hni]; refine CallK.val [] h18 c18 ⟨⟨rfl, rfl, trivial⟩, rfl, rfl, rfl, trivial⟩ rfl rfl hn18 ?_)) <;> with_reducible refine wK ?_)
    | ((with_reducible show (_ ∧ _) ∧ _ ∧ _); (refine eK ?_ ?_ <;> with_reducible repeat' (first | exact trivial | (show _ ∧ _; refine aK ?_ ?_)))))); all_goals clear fct)
        all_goals first | rfl | trace_state
@[reducible] def exW : ByteArray := ⟨#[120]⟩
theorem f4_ok (f : ForM) (a : Int) (ha : 0 ≤ a ∧ a < 256) : FnOK Tryz.prog 4 [] [eFor f, eU8 a] [] (eBool true) := by
  have h15 := f15_ok
  have h16 := f16_ok f
  cases hsh : shortF f with
  | false =>
    rw [hsh] at h16
    obtain ⟨l, m⟩ := f
    refine FnOK.startC (rvs := [.tmp 4]) G G_good Tryz.func4 rfl Tryz.ntmps4 rfl rfl ?_; with_reducible refine wD ?_
    repeat' (first
    | refine gK ?_
    | ((first
      | ((with_reducible show CallK _ _ 15 _ _ _ _); refine CallK.lit [] h15 c15 trivial rfl rfl ?_)
      | ((with_reducible show CallK _ _ 16 _ _ _ _); refine CallK.lit [] h16 c16 ⟨⟨rfl, rfl, trivial⟩, trivial⟩ rfl rfl ?_)) <;> with_reducible refine wK ?_)
    | ((with_reducible show (_ ∧ _) ∧ _ ∧ _); (refine eK ?_ ?_ <;> with_reducible repeat' (first | exact trivial | (show _ ∧ _; refine aK ?_ ?_)))))
    all_goals rfl
  | true =>
    rw [hsh] at h16
    have hs := shortF_small hsh
    have h17 := f17_ok f hs
    cases hr : rightF f with
    | false =>
      rw [hr] at h17
      obtain ⟨l, m⟩ := f
      refine FnOK.startC (rvs := [.tmp 4]) G G_good Tryz.func4 rfl Tryz.ntmps4 rfl rfl ?_; with_reducible refine wD ?_
      repeat' (first
    | refine gK ?_
    | ((first
      | ((with_reducible show CallK _ _ 15 _ _ _ _); refine CallK.lit [] h15 c15 trivial rfl rfl ?_)
      | ((with_reducible show CallK _ _ 16 _ _ _ _); refine CallK.lit [] h16 c16 ⟨⟨rfl, rfl, trivial⟩, trivial⟩ rfl rfl ?_)
      | ((with_reducible show CallK _ _ 17 _ _ _ _); refine CallK.lit [] h17 c17 ⟨⟨rfl, rfl, trivial⟩, trivial⟩ rfl rfl ?_)) <;> with_reducible refine wK ?_)
    | ((with_reducible show (_ ∧ _) ∧ _ ∧ _); (refine eK ?_ ?_ <;> with_reducible repeat' (first | exact trivial | (show _ ∧ _; refine aK ?_ ?_)))))
      all_goals rfl
    | true =>
      rw [hr] at h17
      have hpos : 1 ≤ f.nodes.length := by
        have h0 := hr
        unfold rightF headOK at h0
        simp only [Bool.and_eq_true, decide_eq_true_eq] at h0
        exact h0.1.1.1.2
      obtain ⟨l, m⟩ := f
      have R : RF l m := rf_iff.1 hr
      simp only at hpos
      have h60 : l.length ≤ 60 := by
        have := hsh; rw [short_eq] at this; simp only [Bool.and_eq_true, decide_eq_true_eq] at this; exact this.1
      have hlm : (l.map oNode).length = l.length := List.length_map ..
      have hlb : ((barTo l l.length).map oInt).length = (barTo l l.length).length := List.length_map ..
      have h22 := f22_ok ⟨l, m⟩ hs
      have h21 := fun j => f21_ok ⟨l, m⟩ hs j
      simp only [hr, Bool.true_and, Bool.and_true, if_true] at h22 h21
      refine FnOK.startC (rvs := [.tmp 4]) G G_good Tryz.func4 rfl Tryz.ntmps4 rfl rfl ?_; with_reducible refine wD ?_
      repeat' (first
    | refine gK ?_
    | ((first
      | ((with_reducible show CallK _ _ 15 _ _ _ _); refine CallK.lit [] h15 c15 trivial rfl rfl ?_)
      | ((with_reducible show CallK _ _ 16 _ _ _ _); refine CallK.lit [] h16 c16 ⟨⟨rfl, rfl, trivial⟩, trivial⟩ rfl rfl ?_)
      | ((with_reducible show CallK _ _ 17 _ _ _ _); refine CallK.lit [] h17 c17 ⟨⟨rfl, rfl, trivial⟩, trivial⟩ rfl rfl ?_)
      | ((with_reducible show CallK _ _ 22 _ _ _ _); refine CallK.val [] h22 c22 ⟨⟨rfl, rfl, trivial⟩, trivial⟩ rfl rfl rfl ?_)) <;> with_reducible refine wK ?_)
    | ((with_reducible show (_ ∧ _) ∧ _ ∧ _); (refine eK ?_ ?_ <;> with_reducible repeat' (first | exact trivial | (show _ ∧ _; refine aK ?_ ?_)))))
      refine LoopK.use G G_good (fun (k : Nat) => [(1, eU8 a), (2, .ptr 20 0 0), (5, eInts (barTo l l.length)), (6, eInt (barTo l k).length), (7, eInt k)]) (fun _ => [(20, .live 2 [eFor ⟨l, m⟩] false)]) (fun k => k ≤ l.length) (fun k => l.length - k) 0 (Nat.zero_le _)
        ⟨⟨rfl, rfl⟩, ⟨rfl, ⟨rfl, rfl⟩, rfl, rfl, rfl, trivial⟩, ⟨⟨rfl, rfl, trivial⟩, trivial⟩, trivial⟩ ?_
      intro k hk
      with_reducible refine wK ?_
      refine IfK.mk (fun h1 => ?_) (fun h1 => ?_) <;> (try simp only [castN] at h1) <;> with_reducible refine wK ?_
      · have hk' : k < l.length := by simp only [decide_eq_true_eq] at h1; omega
        obtain ⟨x, hx⟩ : ∃ x, l[k]? = some x := ⟨_, List.getElem?_eq_getElem hk'⟩
        have h21k := h21 k
        rw [there_get hx, Bool.true_and] at h21k
        have hst := bar_step l k
        have hln := bar_len l k
        refine CallK.lit [] h21k c21 ⟨⟨rfl, rfl, trivial⟩, rfl, trivial⟩ rfl rfl ?_; with_reducible refine wK ?_
        cases hb : barN l (k : Int) with
        | true =>
          rw [hb, if_pos rfl] at hst
          have hat := bar_at hk' hb
          have hlt := (List.getElem?_eq_some_iff.1 hat).1
          have hl1 : (barTo l (k + 1)).length = (barTo l k).length + 1 := by rw [hst]; simp
          repeat' (first
    | refine gK ?_
    | ((first
      | (refine IdxK.mk (barTo l k).length (eInt k) rfl (int_get hat) ?_)
      | ((with_reducible show NextK _ _); refine NextK.mk (k + 1) (by omega) (by omega) ⟨⟨rfl, rfl⟩, ⟨rfl, ⟨rfl, rfl⟩, rfl, by show ((barTo l (k + 1)).length : Int) = ((barTo l k).length : Int) + 1; omega, by show ((k + 1 : Nat) : Int) = (k : Int) + 1; omega, trivial⟩, ⟨⟨rfl, rfl, trivial⟩, trivial⟩, trivial⟩)) <;> with_reducible refine wK ?_)
    | ((with_reducible show (_ ∧ _) ∧ _ ∧ _); (refine eK ?_ ?_ <;> with_reducible repeat' (first | exact trivial | (show _ ∧ _; refine aK ?_ ?_)))))
        | false =>
          rw [hb, if_neg (by decide)] at hst
          repeat' (first
    | refine gK ?_
    | (((with_reducible show NextK _ _); refine NextK.mk (k + 1) (by omega) (by omega) ⟨⟨rfl, rfl⟩, ⟨rfl, ⟨rfl, rfl⟩, rfl, by rw [hst], by show ((k + 1 : Nat) : Int) = (k : Int) + 1; omega, trivial⟩, ⟨⟨rfl, rfl, trivial⟩, trivial⟩, trivial⟩) <;> with_reducible refine wK ?_)
    | ((with_reducible show (_ ∧ _) ∧ _ ∧ _); (refine eK ?_ ?_ <;> with_reducible repeat' (first | exact trivial | (show _ ∧ _; refine aK ?_ ?_)))))
      · have hkl : k = l.length := by simp only [decide_eq_false_iff_not] at h1; omega
        subst hkl
        obtain ⟨i, x, hni, hx, hnx⟩ := node_at (l := l) (n := a % ((l.map oNode).length : Int)) (by rw [hlm]; exact ⟨Int.emod_nonneg _ (by omega), Int.emod_lt_of_pos _ (by omega)⟩)
        have ht := there_get hx
        have hcx := nd_get hx
        have h18 := f18_ok ⟨l, m⟩ hs (i : Int) disW exW (by decide)
        have hn18 := noRef_done (setM ⟨l, m⟩ i disW exW).1 (setM ⟨l, m⟩ i disW exW).2.1 (setM ⟨l, m⟩ i disW exW).2.2
        have h23 := f23_ok x.attrs (by have := hs.attrs x (List.mem_of_getElem? hx); omega) disW
        have hback := fun he hm => unset_back R ht (s := disW) (v := exW) he hm
        have hbars := fun he => set_bars R ht (v := exW) he
        have hmore := fun he => more_law R ht (v := exW) he (i := i) ht
        rw [hcx] at hback
        have hfd : ∀ b, decide (0 ≤ findP x.attrs disW) = b → (b = false → ¬ 0 ≤ findP x.attrs disW) := fun b h hb => by rw [hb] at h; exact of_decide_eq_false h
        cases ho : decide (0 ≤ findP x.attrs disW) with
        | true =>
          rw [ho] at h23
          generalize (setM ⟨l, m⟩ i disW exW).2.2 = e at h18 hn18
          generalize (setM ⟨l, m⟩ i disW exW).2.1 = ns at h18 hn18
          generalize (setM ⟨l, m⟩ i disW exW).1 = g at h18 hn18
          obtain ⟨l', m'⟩ := g
          obtain ⟨x1, x2, x3, x4, x5, x6, x7, x8, x9, x10⟩ := x
          (have fct := And.intro hlm (hlb); (repeat' (first
    | refine gF ?_
    | ((first
      | (refine ConvK.int (by kernel_rfl) (by kernel_rfl) (wrap_u8 ha) ?_)
      | (refine HandK.rem ha.1 (by (try simp only [castN]); omega) rfl rfl rfl rfl ?_)
      | (rw [hni]; refine IdxK.mk i (eNode ⟨x1, x2, x3, x4, x5, x6, x7, x8, x9, x10⟩) rfl (node_get hx) ?_)
      | ((with_reducible show CallK _ _ 23 _ _ _ _); refine CallK.lit [] h23 c23 ⟨rfl, rfl, trivial⟩ rfl rfl ?_)
      | ((with_reducible show CallK _ _ 18 _ _ _ _); refine CallK.val [] h18 c18 ⟨⟨rfl, rfl, trivial⟩, rfl, rfl, rfl, trivial⟩ rfl rfl hn18 ?_)) <;> with_reducible refine wK ?_)
    | ((with_reducible show (_ ∧ _) ∧ _ ∧ _); (refine eK ?_ ?_ <;> with_reducible repeat' (first | exact trivial | (show _ ∧ _; refine aK ?_ ?_)))))); all_goals clear fct)
          all_goals first | rfl | trace_state
        | false =>
          rw [ho] at h23
          have hno := of_decide_eq_false ho
          by_cases he : (setM ⟨l, m⟩ i disW exW).2.2 = 0
          · obtain ⟨u1, u2⟩ := hback he hno
            have hb1 := hbars he
            obtain ⟨-, -, R', hlen, hm⟩ := hmore he
            rw [he] at h18 hn18
            have h24 := fun hs' => f24_ok (setM ⟨l, m⟩ i disW exW).1 hs' (i : Int) disW (by decide)
            have hn24 := noRef_done (unsetM (setM ⟨l, m⟩ i disW exW).1 i disW).1 (unsetM (setM ⟨l, m⟩ i disW exW).1 i disW).2.1 (unsetM (setM ⟨l, m⟩ i disW exW).1 i disW).2.2
            rw [u1, u2] at h24 hn24
            generalize (setM ⟨l, m⟩ i disW exW).2.1 = ns at h18 hn18
            generalize (setM ⟨l, m⟩ i disW exW).1 = g at *
            generalize (unsetM g i disW).2.1 = ns' at *
            obtain ⟨l', m'⟩ := g
            simp only at R' hlen hm h24 hb1
            subst hm
            have hs' : SmallN l' := rf_small R' (by rw [hlen]; exact h60)
            have h24 := h24 hs'
            have h21' := f21_ok ⟨l', m'⟩ hs' (i : Int)
            have hr' : rightF ⟨l', m'⟩ = true := rf_iff.2 R'
            simp only [hr', show thereN l' i = true by rw [there_len hlen]; exact ht, Bool.true_and] at h21'
            rw [hb1] at h21'
            have h25 := f25_ok (barTo l l.length) (barTo l l.length) (by have := bar_len l l.length; omega)
            rw [decide_eq_true rfl] at h25
            obtain ⟨x1, x2, x3, x4, x5, x6, x7, x8, x9, x10⟩ := x
            (have fct := And.intro hlm (hlb); (repeat' (first
    | refine gF ?_
    | ((first
      | (refine ConvK.int (by kernel_rfl) (by kernel_rfl) (wrap_u8 ha) ?_)
      | (refine HandK.rem ha.1 (by (try simp only [castN]); omega) rfl rfl rfl rfl ?_)
      | (rw [hni]; refine IdxK.mk i (eNode ⟨x1, x2, x3, x4, x5, x6, x7, x8, x9, x10⟩) rfl (node_get hx) ?_)
      | ((with_reducible show CallK _ _ 23 _ _ _ _); refine CallK.lit [] h23 c23 ⟨rfl, rfl, trivial⟩ rfl rfl ?_)
      | ((with_reducible show CallK _ _ 18 _ _ _ _); refine CallK.val [] h18 c18 ⟨⟨rfl, rfl, trivial⟩, rfl, rfl, rfl, trivial⟩ rfl rfl hn18 ?_)
      | ((with_reducible show CallK _ _ 24 _ _ _ _); refine CallK.val [] h24 c24 ⟨⟨rfl, rfl, trivial⟩, rfl, rfl, trivial⟩ rfl rfl hn24 ?_)
      | ((with_reducible show CallK _ _ 21 _ _ _ _); refine CallK.lit [] h21' c21 ⟨⟨rfl, rfl, trivial⟩, rfl, trivial⟩ rfl rfl ?_)
      | ((with_reducible show CallK _ _ 22 _ _ _ _); refine CallK.val [] h22 c22 ⟨⟨rfl, rfl, trivial⟩, trivial⟩ rfl rfl rfl ?_)
      | ((with_reducible show CallK _ _ 25 _ _ _ _); refine CallK.lit [] h25 c25 ⟨rfl, rfl, trivial⟩ rfl rfl ?_)) <;> with_reducible refine wK ?_)
    | ((with_reducible show (_ ∧ _) ∧ _ ∧ _); (refine eK ?_ ?_ <;> with_reducible repeat' (first | exact trivial | (show _ ∧ _; refine aK ?_ ?_)))))); all_goals clear fct)
            all_goals first | rfl | trace_state
          · have hd := decide_eq_false he
            generalize (setM ⟨l, m⟩ i disW exW).2.2 = e at h18 hn18 hd
            generalize (setM ⟨l, m⟩ i disW exW).2.1 = ns at h18 hn18
            generalize (setM ⟨l, m⟩ i disW exW).1 = g at h18 hn18
            obtain ⟨l', m'⟩ := g
            obtain ⟨x1, x2, x3, x4, x5, x6, x7, x8, x9, x10⟩ := x
            (have fct := And.intro hlm (And.intro hlb (hd)); (repeat' (first
    | refine gF ?_
    | ((first
      | (refine ConvK.int (by kernel_rfl) (by kernel_rfl) (wrap_u8 ha) ?_)
      | (refine HandK.rem ha.1 (by (try simp only [castN]); omega) rfl rfl rfl rfl ?_)
      | (rw [hni]; refine IdxK.mk i (eNode ⟨x1, x2, x3, x4, x5, x6, x7, x8, x9, x10⟩) rfl (node_get hx) ?_)
      | ((with_reducible show CallK _ _ 23 _ _ _ _); refine CallK.lit [] h23 c23 ⟨rfl, rfl, trivial⟩ rfl rfl ?_)
      | ((with_reducible show CallK _ _ 18 _ _ _ _); refine CallK.val [] h18 c18 ⟨⟨rfl, rfl, trivial⟩, rfl, rfl, rfl, trivial⟩ rfl rfl hn18 ?_)) <;> with_reducible refine wK ?_)
    | ((with_reducible show (_ ∧ _) ∧ _ ∧ _); (refine eK ?_ ?_ <;> with_reducible repeat' (first | exact trivial | (show _ ∧ _; refine aK ?_ ?_)))))); all_goals clear fct)
            all_goals first | rfl | trace_state
theorem rStr : Reads Tryz.prog 9 1 eStr (fun s => s.size ≤ maxLen) := Reads.str Tryz.underlying9 (by kernel_rfl)
theorem rInt : Reads Tryz.prog 3 1 oInt (fun _ => True) := (Reads.int Tryz.underlying3 (by kernel_rfl)).conv id id (fun _ => rfl) (fun _ => rfl) (fun _ _ => trivial)
theorem rAttr : Reads Tryz.prog 90 2 oAttr (fun _ => True) :=
 (Reads.struct (l := [(0, 9), (1, 9)]) Tryz.underlying90 (by kernel_rfl) rfl (.cons rStr (.cons rStr .nil))).conv
  (fun (a, b, _) => ⟨a, b⟩) (fun t => (t.name, t.value, ())) (fun _ => rfl) (fun _ => rfl) (fun _ _ => trivial)
theorem rAttrs1 : Reads Tryz.prog 32 1 eAttrs (fun _ => True) := (Reads.slice Tryz.underlying32 (by kernel_rfl) rAttr (by omega)).conv id id (fun _ => rfl) (fun _ => rfl) (fun _ _ => trivial)
theorem rInts1 : Reads Tryz.prog 33 1 eInts (fun _ => True) := (Reads.slice Tryz.underlying33 (by kernel_rfl) rInt (by omega)).conv id id (fun _ => rfl) (fun _ => rfl) (fun _ _ => trivial)
theorem rNode : Reads Tryz.prog 35 10 oNode (fun _ => True) :=
 (Reads.struct (l := [(0, 3), (1, 9), (2, 9), (3, 9), (4, 32), (5, 3), (6, 33), (7, 3), (8, 3), (9, 3)]) Tryz.underlying35 (by kernel_rfl) rfl
  (.cons rInt (.cons rStr (.cons rStr (.cons rStr (.cons rAttrs1 (.cons rInt (.cons rInts1 (.cons rInt (.cons rInt (.cons rInt .nil))))))))))).conv
  (fun (a, b, c, d, e, f, g, h, i, j, _) => ⟨a, b, c, d, e, f, g, h, i, j⟩)
  (fun t => (t.kind, t.name, t.is, t.data, t.attrs, t.parent, t.kids, t.host, t.under, t.doc, ())) (fun _ => rfl) (fun _ => rfl) (fun _ _ => trivial)
theorem rNodes1 : Reads Tryz.prog 22 1 eNodes (fun _ => True) := (Reads.slice Tryz.underlying22 (by kernel_rfl) rNode (by omega)).conv id id (fun _ => rfl) (fun _ => rfl) (fun _ _ => trivial)
theorem rFor : Reads Tryz.prog 24 2 eFor (fun _ => True) :=
 (Reads.struct (l := [(0, 22), (1, 3)]) Tryz.underlying24 (by kernel_rfl) rfl (.cons rNodes1 (.cons rInt .nil))).conv
  (fun (a, b, _) => ⟨a, b⟩) (fun t => (t.nodes, t.most, ())) (fun _ => rfl) (fun _ => rfl) (fun _ _ => trivial)
theorem laid : Go.laidOutB Tryz.prog = true := by kernel_rfl
abbrev laidRows : List (String × DataW Unit) := [("errors.errorType", Go.Proofs.YtkhjcnjicjgfiaaGreatDoor.Rows.laid_errors_errorType)]
theorem door_met (os : Os) (args : Array Value) : laidMetH Tryz.prog laidRows ((World.doorLaid Tryz.prog 33 os).forCall (fun _ _ => 0) ⟨#[], args, []⟩).memory :=
 laidMetH_of_parts3 (fuel := 8) (laidMet_of_run' 8 (by kernel_rfl) (by kernel_rfl)) (by kernel_rfl) (by kernel_rfl)
theorem tabs_of_laid {W : World} (h : laidMetH Tryz.prog laidRows W) : Tabs Tryz.prog W fun _ => none := by
 refine ⟨fun g hg => (by rw [show Tryz.prog.globalNamed "no such variable" = none by kernel_rfl] at hg; cases hg), fun g hg => ?_⟩
 have h' : handlesMet Tryz.prog laidRows W := h.2
 have h0 := h' _ (List.mem_singleton.2 rfl)
 have h1 : ∃ name u ty, (DataW.handleName? (Go.Proofs.YtkhjcnjicjgfiaaGreatDoor.Rows.laid_errors_errorType : DataW Unit)) = some name ∧ (Tryz.prog.cutTypes.find? (·.1 == "internal/reflectlite.rtype")).map (·.2) = some u ∧ ty < Tryz.prog.types.size ∧ Tryz.prog.rowNamed ty name = true ∧
   W.var? Tryz.prog "errors.errorType" = some #[.iface u (.agg #[typeHandle Tryz.prog ty])] := h0
 obtain ⟨name, u, ty, k1, k2, k3, k4, k5⟩ := h1
 obtain rfl : [101, 114, 114, 111, 114] = name := Option.some.inj k1
 have e : g = 0 := Option.some.inj (hg.symm.trans (by kernel_rfl))
 subst e
 unfold World.var? at k5
 rw [hg] at k5
 simp only [Option.bind_some] at k5
 refine ⟨(by rintro ⟨_, _, h, _⟩; cases h), ?_, _, ⟨u, ty, k2, k3, k4, rfl⟩, ?_⟩
 · split at k5
   · rename_i hh; exact (Array.getElem?_eq_some_iff.1 hh).1
   · cases k5
 · split at k5
   · rename_i cs _ _ hh
     obtain rfl : cs = _ := Option.some.inj k5
     simp [World.cell?, hh]
   · cases k5
end Go.Proofs.Heir
