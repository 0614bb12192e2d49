/- Models, plain laws and contracts of functions of the given program; conditions as stated in each theorem. By an AI agent. -/
import Derived.Test.YtkhjcnjicjgfiaaGreatDoorW12
import Derived.Test.YtkhjcnjicjgfiaaGreatDoorW13
import Derived.Test.YtkhjcnjicjgfiaaGreatDoorW5
import Derived.Test.YtkhjcnjicjgfiaaGreatDoorW7
import Derived.Test.YtkhjcnjicjgfiaaGreatDoorW6
set_option linter.unusedSimpArgs false
set_option linter.unusedVariables false
namespace Go.Proofs.Heir
open Go Go.Am Go.RowKit Go.Lib
set_option maxRecDepth 100000
set_option maxHeartbeats 8000000
@[reducible] def stepV (what : ByteArray) (e : Int) : Value := .iface 178 (.agg #[.string what, .iface 176 (.agg #[.int .i64 e])])
@[reducible] def askedW : ByteArray := ⟨#[97, 115, 107, 101, 100]⟩
@[reducible] def noErr : AV := .lit .nilIface
theorem refused_calls1 (what : ByteArray) (e : Int) (he : e ≠ 0) (w : World) : Calls Tryz.prog 60 #[.string what, .int .i64 e] w fun ev w' => ev = .returned (stepV what e) ∧ w' = w := by
  go_enter Tryz.func60, Tryz.ntmps60
  go_wp2
  go_ret
  exact ⟨rfl, rfl⟩
theorem refused1 (what : ByteArray) (e : Int) (he : e ≠ 0) : FnOK Tryz.prog 60 [] [eStr what, eInt e] [] (.lit (stepV what e)) :=
  FnOK.of_calls (vs := [.string what, .int .i64 e]) fun w _ => (refused_calls1 what e he w).mono (by rintro e w' ⟨rfl, rfl⟩; exact ⟨rfl, Below.refl _ _⟩)
theorem there_yes (f : ForM) (hs : SmallN f.nodes) (n : Int) (h : (rightF f && thereN f.nodes n) = true) : FnOK Tryz.prog 77 [] [eFor f, eInt n] [] noErr := by
  have h17 := f17_ok f hs
  have hr : rightF f = true := by simp only [Bool.and_eq_true] at h; exact h.1
  have ht : thereN f.nodes n = true := by simp only [Bool.and_eq_true] at h; exact h.2
  rw [hr] at h17
  obtain ⟨l, m⟩ := f
  simp only at h17 ht
  have hlm : (l.map oNode).length = l.length := List.length_map ..
  have e0 : ¬ n < 0 := by unfold thereN at ht; simp at ht; omega
  have e1 : ¬ (l.length : Int) ≤ n := by unfold thereN at ht; simp at ht; omega
  refine FnOK.startC (rvs := [.tmp 4]) G G_good Tryz.func77 rfl Tryz.ntmps77 rfl rfl ?_; with_reducible refine wD ?_
  (have fct := And.intro hlm (And.intro e0 (e1)); (repeat' (first
    | refine gF ?_
    | (((with_reducible show CallK _ _ 17 _ _ _ _); refine CallK.lit [] h17 c17 ⟨⟨rfl, rfl, trivial⟩, trivial⟩ rfl rfl ?_) <;> with_reducible refine wK ?_)
    | ((with_reducible show (_ ∧ _) ∧ _ ∧ _); (refine eK ?_ ?_ <;> with_reducible repeat' (first | exact trivial | (show _ ∧ _; refine aK ?_ ?_)))))); all_goals clear fct)
  all_goals rfl
theorem there_no (f : ForM) (hs : SmallN f.nodes) (n : Int) (h : (rightF f && thereN f.nodes n) = false) : FnOK Tryz.prog 77 [] [eFor f, eInt n] [] (.lit (stepV askedW 1)) := by
  have h17 := f17_ok f hs
  have h60 := refused1 askedW 1 (by decide)
  obtain ⟨l, m⟩ := f
  simp only at h h17
  have hlm : (l.map oNode).length = l.length := List.length_map ..
  cases hr : rightF ⟨l, m⟩ with
  | false =>
    rw [hr] at h17
    refine FnOK.startC (rvs := [.tmp 4]) G G_good Tryz.func77 rfl Tryz.ntmps77 rfl rfl ?_; with_reducible refine wD ?_
    (have fct := hlm; (repeat' (first
    | refine gF ?_
    | ((first
      | ((with_reducible show CallK _ _ 17 _ _ _ _); refine CallK.lit [] h17 c17 ⟨⟨rfl, rfl, trivial⟩, trivial⟩ rfl rfl ?_)
      | ((with_reducible show CallK _ _ 60 _ _ _ _); refine CallK.lit [] h60 c60 ⟨rfl, rfl, trivial⟩ rfl rfl ?_)) <;> with_reducible refine wK ?_)
    | ((with_reducible show (_ ∧ _) ∧ _ ∧ _); (refine eK ?_ ?_ <;> with_reducible repeat' (first | exact trivial | (show _ ∧ _; refine aK ?_ ?_)))))); all_goals clear fct)
    all_goals rfl
  | true =>
    have ht : thereN l n = false := by rw [hr] at h; simpa using h
    rw [hr] at h17
    by_cases e0 : n < 0
    · refine FnOK.startC (rvs := [.tmp 4]) G G_good Tryz.func77 rfl Tryz.ntmps77 rfl rfl ?_; with_reducible refine wD ?_
      (have fct := And.intro hlm (e0); (repeat' (first
    | refine gF ?_
    | ((first
      | ((with_reducible show CallK _ _ 17 _ _ _ _); refine CallK.lit [] h17 c17 ⟨⟨rfl, rfl, trivial⟩, trivial⟩ rfl rfl ?_)
      | ((with_reducible show CallK _ _ 60 _ _ _ _); refine CallK.lit [] h60 c60 ⟨rfl, rfl, trivial⟩ rfl rfl ?_)) <;> with_reducible refine wK ?_)
    | ((with_reducible show (_ ∧ _) ∧ _ ∧ _); (refine eK ?_ ?_ <;> with_reducible repeat' (first | exact trivial | (show _ ∧ _; refine aK ?_ ?_)))))); all_goals clear fct)
      all_goals rfl
    · have e1 : (l.length : Int) ≤ n := by unfold thereN at ht; simp at ht; omega
      refine FnOK.startC (rvs := [.tmp 4]) G G_good Tryz.func77 rfl Tryz.ntmps77 rfl rfl ?_; with_reducible refine wD ?_
      (have fct := And.intro hlm (And.intro e0 (e1)); (repeat' (first
    | refine gF ?_
    | ((first
      | ((with_reducible show CallK _ _ 17 _ _ _ _); refine CallK.lit [] h17 c17 ⟨⟨rfl, rfl, trivial⟩, trivial⟩ rfl rfl ?_)
      | ((with_reducible show CallK _ _ 60 _ _ _ _); refine CallK.lit [] h60 c60 ⟨rfl, rfl, trivial⟩ rfl rfl ?_)) <;> with_reducible refine wK ?_)
    | ((with_reducible show (_ ∧ _) ∧ _ ∧ _); (refine eK ?_ ?_ <;> with_reducible repeat' (first | exact trivial | (show _ ∧ _; refine aK ?_ ?_)))))); all_goals clear fct)
      all_goals rfl
@[reducible] def nilNs : AV := .lit (.slice none 0 0)

theorem frz_w {m : ML} {fz : Nat → Bool} {tab : List (Nat × Nat)} {n t len wd : Nat} {ro : Bool} {rows rows' : List AV} (h1 : lkM m t = .live wd rows ro) (h2 : fz t = true) (h3 : rows = rows') (h4 : len = rows'.length) (h5 : noRefL rows' = true) : FrzK m fz (MF tab fz m n) (.sl wd rows') t 0 len := by
  subst h3; subst h4
  exact .cut h1 h2 (by omega) (by rw [List.drop_zero, List.take_of_length_le (by omega)]) h5
@[reducible] def eNs (l : List NoteM) : AV := .sl 9 (l.map oNote)
theorem done_err (f : ForM) (hs : SmallN f.nodes) (g : Nat) (cg : Callable Tryz.prog g) (caps : List AV) (hcaps : noRefL caps = true) (what : ByteArray) (e : Int) (hg : FnOK Tryz.prog g [mHand f.most f.nodes.length 1 nilNs, mNodes f.nodes] (.ptr 0 0 0 :: caps) [mHand f.most f.nodes.length 1 nilNs, mNodes f.nodes] (.lit (stepV what e))) :
    FnOK Tryz.prog 56 [] [eFor f, noErr, .clo (.func g) [] caps] [] (.tup [eFor f, eNs [], eInt e]) := by
  have h121 := f121_fr f hs
  have h122 := why_ok what e
  obtain ⟨l, m⟩ := f
  simp only at *
  refine FnOK.startC (rvs := [.cell 6 24, .tmp 7, .tmp 8]) G G_good Tryz.func56 rfl Tryz.ntmps56 rfl rfl ?_; with_reducible refine wD ?_
  repeat' (first
    | refine gK ?_
    | ((first
      | ((with_reducible show CallK _ _ 121 _ _ _ _); refine CallK.lend (news := [mHand m l.length 111 nilNs, mNodes l]) [110, 111] [] h121 c121 ⟨⟨rfl, rfl, trivial⟩, trivial⟩ trivial rfl ⟨⟨rfl, rfl⟩, rfl⟩ rfl ⟨⟨rfl, .inr ⟨rfl, rfl, rfl⟩⟩, ⟨rfl, .inl ⟨rfl, noRef_nodes _⟩⟩, trivial⟩ rfl rfl ?_)
      | ((with_reducible show HandK _ _ _ _ _); first | refine HandK.nilEq true Tryz.underlying98 rfl rfl rfl rfl rfl ?_ | refine HandK.nilEq false Tryz.underlying98 rfl rfl rfl rfl rfl ?_ | refine HandK.nilNe false Tryz.underlying98 rfl rfl rfl rfl rfl ?_ | refine HandK.nilNe true Tryz.underlying98 rfl rfl rfl rfl rfl ?_)
      | ((with_reducible show CallK _ _ 122 _ _ _ _); refine CallK.lit [] h122 c122 ⟨⟨rfl, rfl⟩, trivial⟩ rfl rfl ?_)
      | ((with_reducible show CallK _ _ _ _ _ _ _); refine CallK.lend (news := [mHand m l.length 111 nilNs, mNodes l]) [110, 111] [] hg cg ⟨⟨rfl, rfl⟩, MFL_refl hcaps⟩ ⟨⟨rfl, .inr ⟨⟨⟨⟨rfl, rfl⟩, rfl, .inl rfl, trivial⟩, trivial⟩, rfl⟩⟩, ⟨rfl, .inl ⟨rfl, noRef_nodes _⟩⟩, trivial⟩ rfl ⟨⟨rfl, rfl⟩, rfl⟩ rfl ⟨⟨rfl, .inr ⟨rfl, rfl, rfl⟩⟩, ⟨rfl, .inl ⟨rfl, noRef_nodes _⟩⟩, trivial⟩ rfl rfl ?_)
      | ((with_reducible show DrawK _ _ _ _); refine dK ?_)) <;> with_reducible refine wK ?_)
    | ((with_reducible show (_ ∧ _) ∧ _ ∧ _); (refine eK ?_ ?_ <;> with_reducible repeat' (first | exact trivial | (show _ ∧ _; refine aK ?_ ?_)))))
  all_goals first
    | rfl
    | exact frz_w rfl rfl rfl hlm.symm (noRef_nodes _)
    | exact frz_w rfl rfl rfl rfl rfl
    | exact ⟨.refl rfl, rfl⟩
    | exact (.inl rfl : NilK _)
    | exact .inr (.inr ⟨9, rfl⟩)
    | trace_state
theorem done_bad (f : ForM) (hs : SmallN f.nodes) (g : Nat) (caps : List AV) (what : ByteArray) (e : Int)  :
    FnOK Tryz.prog 56 [] [eFor f, .lit (stepV what e), .clo (.func g) [] caps] [] (.tup [eFor f, eNs [], eInt e]) := by
  have h121 := f121_fr f hs
  have h122 := why_ok what e
  obtain ⟨l, m⟩ := f
  simp only at *
  refine FnOK.startC (rvs := [.cell 6 24, .tmp 7, .tmp 8]) G G_good Tryz.func56 rfl Tryz.ntmps56 rfl rfl ?_; with_reducible refine wD ?_
  repeat' (first
    | refine gK ?_
    | ((first
      | ((with_reducible show CallK _ _ 121 _ _ _ _); refine CallK.lend (news := [mHand m l.length 111 nilNs, mNodes l]) [110, 111] [] h121 c121 ⟨⟨rfl, rfl, trivial⟩, trivial⟩ trivial rfl ⟨⟨rfl, rfl⟩, rfl⟩ rfl ⟨⟨rfl, .inr ⟨rfl, rfl, rfl⟩⟩, ⟨rfl, .inl ⟨rfl, noRef_nodes _⟩⟩, trivial⟩ rfl rfl ?_)
      | ((with_reducible show HandK _ _ _ _ _); first | refine HandK.nilEq true Tryz.underlying98 rfl rfl rfl rfl rfl ?_ | refine HandK.nilEq false Tryz.underlying98 rfl rfl rfl rfl rfl ?_ | refine HandK.nilNe false Tryz.underlying98 rfl rfl rfl rfl rfl ?_ | refine HandK.nilNe true Tryz.underlying98 rfl rfl rfl rfl rfl ?_)
      | ((with_reducible show CallK _ _ 122 _ _ _ _); refine CallK.lit [] h122 c122 ⟨⟨rfl, rfl⟩, trivial⟩ rfl rfl ?_)
      | ((with_reducible show DrawK _ _ _ _); refine dK ?_)) <;> with_reducible refine wK ?_)
    | ((with_reducible show (_ ∧ _) ∧ _ ∧ _); (refine eK ?_ ?_ <;> with_reducible repeat' (first | exact trivial | (show _ ∧ _; refine aK ?_ ?_)))))
  all_goals first
    | rfl
    | exact frz_w rfl rfl rfl hlm.symm (noRef_nodes _)
    | exact frz_w rfl rfl rfl rfl rfl
    | exact ⟨.refl rfl, rfl⟩
    | exact (.inl rfl : NilK _)
    | exact .inr (.inr ⟨9, rfl⟩)
    | trace_state
end Go.Proofs.Heir
