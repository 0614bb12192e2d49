/- Models, plain laws and contracts of functions of the given program; conditions as stated in each theorem. By an AI agent. -/
import Derived.Test.YtkhjcnjicjgfiaaGreatDoorW14
import Derived.Test.YtkhjcnjicjgfiaaGreatDoorW16
import Derived.Test.YtkhjcnjicjgfiaaGreatDoorW17
import Derived.Test.YtkhjcnjicjgfiaaGreatDoorW5
import Derived.Test.YtkhjcnjicjgfiaaGreatDoorW8
import Derived.Test.YtkhjcnjicjgfiaaGreatDoorW12
import Derived.Test.YtkhjcnjicjgfiaaGreatDoorW6
import Derived.Test.YtkhjcnjicjgfiaaGreatDoorW4
import Derived.Test.YtkhjcnjicjgfiaaGreatDoorW10
import Derived.Test.YtkhjcnjicjgfiaaGreatDoorW2
import Derived.Test.YtkhjcnjicjgfiaaGreatDoorRows
import Derived.ProofKit
import Derived.LaidMore
import Derived.OpenShut
import Derived.Stop.Joined
import Derived.Lib.LaidTab
import Derived.MakeChecks
set_option linter.unusedSimpArgs false
set_option linter.unusedVariables false
namespace Go.Proofs.Heir
open Go Go.Am Go.RowKit Go.Lib
set_option maxRecDepth 100000
set_option maxHeartbeats 8000000
theorem noRef_done (f : ForM) (ns : List NoteM) (e : Int) : noRef (.tup [eFor f, eNs ns, eInt e]) = true := by
  have h1 := noRef_nodes f.nodes
  have h2 : noRefL (ns.map oNote) = true := noRefL_map oNote (fun _ => rfl) _
  simp [noRef, noRefL, h1, h2]

@[reducible] def outWd : ByteArray := ⟨#[111, 117, 116]⟩
theorem removeC_none (l : List NodeM) (m : Int) (hs : SmallN l) (k : Nat) (y : NodeM) (hy : l[k]? = some y) (hp : y.parent = -1) :
    FnOK Tryz.prog 78 [mHand m l.length 1 nilNs, mNodes l] [.ptr 0 0 0, .fptr (eInt k) 0] [mHand m l.length 1 nilNs, mNodes l] (.lit (stepV outWd 6)) := by
  have hkl : k < l.length := (List.getElem?_eq_some_iff.1 hy).1
  have hlm : (l.map oNode).length = l.length := List.length_map ..
  have h60 := refused1 outWd 6 (by decide)
  obtain ⟨y1, y2, y3, y4, y5, y6, y7, y8, y9, y10⟩ := y
  simp only at hp
  have hp' := eq_true hp
  refine FnOK.startN [] (rvs := [.tmp 3]) G G_good Tryz.func78 rfl Tryz.ntmps78 rfl rfl ?_; with_reducible refine wD ?_
  (have fct := And.intro hlm (hp'); (repeat' (first
    | refine gF ?_
    | ((first
      | ((with_reducible show LtK _ _ _ _ _); refine LtK.mk k rfl hkl ?_)
      | ((with_reducible show ElemK _ _ _ _ _); refine ElemK.mk (eNode ⟨y1, y2, y3, y4, y5, y6, y7, y8, y9, y10⟩) (by first | exact node_get hy | (rw [Nat.zero_add]; exact node_get hy)) ?_)
      | ((with_reducible show CallK _ _ 60 _ _ _ _); refine CallK.lit [] h60 c60 ⟨rfl, rfl, trivial⟩ rfl rfl ?_)
      | ((with_reducible show DrawK _ _ _ _); refine dK ?_)) <;> with_reducible refine wK ?_)
    | ((with_reducible show (_ ∧ _) ∧ _ ∧ _); (refine eK ?_ ?_ <;> with_reducible repeat' (first | exact trivial | (show _ ∧ _; refine aK ?_ ?_)))))); all_goals clear fct)
  all_goals first
    | rfl
    | exact ⟨.refl rfl, rfl⟩
    | exact (.inl rfl : NilK _)
    | exact ⟨.refl (noRef_nodes _), noRef_nodes _⟩
    | trace_state
theorem remove_none (f : ForM) (hs : SmallN f.nodes) (hr : rightF f = true) (k : Nat) (y : NodeM) (hy : f.nodes[k]? = some y) (hp : y.parent = -1) : FnOK Tryz.prog 32 [] [eFor f, eInt k] [] (.tup [eFor f, eNs [], eInt 6]) := by
  have h77 := there_yes f hs k (by rw [hr, there_get hy]; rfl)
  have h56 := done_err f hs 78 c78 [.fptr (eInt k) 0] rfl outWd 6 (removeC_none f.nodes f.most hs k y hy hp)
  obtain ⟨l, m⟩ := f
  have hn := noRef_done ⟨l, m⟩ [] 6
  refine FnOK.startC (rvs := [.cell 4 24, .tmp 5, .tmp 6]) G G_good Tryz.func32 rfl Tryz.ntmps32 rfl rfl ?_; with_reducible refine wD ?_
  repeat' (first
    | refine gK ?_
    | ((first
      | ((with_reducible show CallK _ _ 77 _ _ _ _); refine CallK.lit [] h77 c77 ⟨⟨rfl, rfl, trivial⟩, rfl, trivial⟩ rfl rfl ?_)
      | ((with_reducible show CallK _ _ 56 _ _ _ _); refine CallK.val [30] h56 c56 ⟨⟨rfl, rfl, trivial⟩, ⟨rfl, rfl⟩, ⟨rfl, trivial, ⟨_, _, _, _, _, rfl, rfl, rfl, rfl, rfl, rfl⟩, trivial⟩, trivial⟩ rfl rfl hn ?_)
      | ((with_reducible show DrawK _ _ _ _); refine dK ?_)) <;> with_reducible refine wK ?_)
    | ((with_reducible show (_ ∧ _) ∧ _ ∧ _); (refine eK ?_ ?_ <;> with_reducible repeat' (first | exact trivial | (show _ ∧ _; refine aK ?_ ?_)))))
  all_goals first | rfl | trace_state
theorem removeC_yes {l : List NodeM} {m : Int} {a b : Nat} {ka kb k2 : List Int} {y : NodeM} {told : List NoteM} {l' : List NodeM} (hL : l.length ≤ 1000) (hy : l[b]? = some y) (hp : y.parent ≠ -1) (hlen : l'.length = l.length)
    (h79 : FnOK Tryz.prog 79 [mHand m l.length 4 (.own 3 0 0), mKid ka, mKid kb, mNotes [], mRows l a 1 b 2] [.ptr 0 0 0, eInt b]
      [mHand m l.length 4 (.own 6 0 told.length), .dead, mKid kb, .dead, mRows l' a 5 b 2, mKid k2, mNotes told] (.tup [])) (hab : b ≠ a) :
    FnOK Tryz.prog 78 [mHand m l.length 4 (.own 3 0 0), mKid ka, mKid kb, mNotes [], mRows l a 1 b 2] [.ptr 0 0 0, .fptr (eInt b) 0]
      [mHand m l.length 4 (.own 6 0 told.length), .dead, mKid kb, .dead, mRows l' a 5 b 2, mKid k2, mNotes told] noErr := by
  have hbl := (List.getElem?_eq_some_iff.1 hy).1
  have g2 : (rowsK l a 1 b 2)[b]? = some (eNodeK y 2) := get_b hy hab
  have hlr : (rowsK l a 1 b 2).length = l.length := rowsK_len
  obtain ⟨y1, y2, y3, y4, y5, y6, y7, y8, y9, y10⟩ := y
  simp only at hp
  have hp' := eq_false hp
  refine FnOK.startN [(5, 151), (6, 163)] (rvs := [.tmp 3]) G G_good Tryz.func78 rfl Tryz.ntmps78 rfl rfl ?_; with_reducible refine wD ?_
  (have fct := hp'; (repeat' (first
    | refine gF ?_
    | ((first
      | ((with_reducible show LtK _ _ _ _ _); refine LtK.mk b rfl (by first | exact hbl | (simp; omega)) ?_)
      | ((with_reducible show ElemK _ _ _ _ _); refine ElemK.mk _ (by first | exact g2 | (rw [Nat.zero_add]; exact g2)) ?_)
      | ((with_reducible show CallK _ _ 79 _ _ _ _); refine CallK.lend (news := [mHand m l.length 4 (.own 163 0 told.length), .dead, mKid kb, .dead, mRows l' a 151 b 2, mKid k2, mNotes told]) [0, 1, 2, 3, 4, 151, 163] [] h79 c79 ⟨⟨rfl, rfl⟩, rfl, trivial⟩ ⟨⟨rfl, .inr ⟨⟨⟨⟨rfl, rfl⟩, rfl, ⟨rfl, rfl⟩, trivial⟩, trivial⟩, rfl⟩⟩, ⟨rfl, .inl ⟨rfl, noRef_ints _⟩⟩, ⟨rfl, .inl ⟨rfl, noRef_ints _⟩⟩, ⟨rfl, .inl ⟨rfl, noRef_notes _⟩⟩, ⟨rfl, rows_lent (fun _ => rfl) (fun _ => rfl)⟩, trivial⟩ rfl ⟨⟨rfl, rfl⟩, rfl⟩ rfl ⟨⟨rfl, .inr ⟨rfl, rfl, rfl⟩⟩, ⟨rfl, .inl ⟨rfl, noRef_ints _⟩⟩, ⟨rfl, rows_news rfl rfl (by decide) (by decide)⟩, ⟨rfl, .inl ⟨rfl, noRef_ints _⟩⟩, ⟨rfl, .inl ⟨rfl, noRef_notes _⟩⟩, trivial⟩ rfl rfl ?_)
      | ((with_reducible show DrawK _ _ _ _); refine dK ?_)) <;> with_reducible refine wK ?_)
    | ((with_reducible show (_ ∧ _) ∧ _ ∧ _); (refine eK ?_ ?_ <;> with_reducible repeat' (first | exact trivial | (show _ ∧ _; refine aK ?_ ?_)))))); all_goals clear fct)
  all_goals first
    | rfl
    | exact ⟨.refl (noRef_ints _), noRef_ints _⟩
    | exact ⟨.refl (noRef_notes _), noRef_notes _⟩
    | exact rows_fit2 (fun _ => rfl) (fun _ => rfl)
    | trace_state
theorem done_K (f : ForM) (hs : SmallN f.nodes) {a b : Nat} {ya yb : NodeM} (hab : a ≠ b) (ha : f.nodes[a]? = some ya) (hb : f.nodes[b]? = some yb) (g : Nat) (cg : Callable Tryz.prog g) (caps : List AV) (hcaps : noRefL caps = true) (l' : List NodeM) (k2 : List Int) (told : List NoteM) (hl : l'.length = f.nodes.length)
    (hka : ∀ y, l'[a]? = some y → y.kids = k2) (hkb : ∀ y, l'[b]? = some y → y.kids = yb.kids)
    (hg : FnOK Tryz.prog g [mHand f.most f.nodes.length 4 (.own 3 0 0), mKid ya.kids, mKid yb.kids, mNotes [], mRows f.nodes a 1 b 2] (.ptr 0 0 0 :: caps)
      [mHand f.most f.nodes.length 4 (.own 6 0 told.length), .dead, mKid yb.kids, .dead, mRows l' a 5 b 2, mKid k2, mNotes told] noErr) :
    FnOK Tryz.prog 56 [] [eFor f, noErr, .clo (.func g) [] caps] [] (.tup [eFor ⟨l', f.most⟩, eNs told, eInt 0]) := by
  have h121 := own_K f hs hab ha hb
  have hlm : (l'.map oNode).length = f.nodes.length := by rw [List.length_map, hl]
  obtain ⟨l, m⟩ := f
  simp only at *
  refine FnOK.startC (rvs := [.cell 6 24, .tmp 7, .tmp 8]) G G_good Tryz.func56 rfl Tryz.ntmps56 rfl rfl ?_; with_reducible refine wD ?_
  repeat' (first
    | refine gK ?_
    | ((first
      | ((with_reducible show CallK _ _ 121 _ _ _ _); refine CallK.lend (news := [mHand m l.length 114 (.own 113 0 0), mKid ya.kids, mKid yb.kids, .live 9 [] false, mRows l a 111 b 112]) [110, 111, 112, 113, 114] [] h121 c121 ⟨⟨rfl, rfl, trivial⟩, trivial⟩ trivial rfl ⟨⟨rfl, rfl⟩, rfl⟩ rfl ⟨⟨rfl, .inr ⟨rfl, rfl, rfl⟩⟩, ⟨rfl, .inl ⟨rfl, noRef_ints _⟩⟩, ⟨rfl, .inl ⟨rfl, noRef_ints _⟩⟩, ⟨rfl, .inl ⟨rfl, rfl⟩⟩, ⟨rfl, rows_news rfl rfl (by decide) (by decide)⟩, trivial⟩ rfl rfl ?_)
      | ((with_reducible show HandK _ _ _ _ _); first | refine HandK.nilEq true Tryz.underlying98 rfl rfl rfl rfl rfl ?_ | refine HandK.nilNe false Tryz.underlying98 rfl rfl rfl rfl rfl ?_)
      | ((with_reducible show CallK _ _ _ _ _ _ _); refine CallK.lend (news := [mHand m l.length 114 (.own 163 0 told.length), .dead, mKid yb.kids, .dead, mRows l' a 161 b 112, mKid k2, mNotes told]) [110, 111, 112, 113, 114, 161, 163] [] hg cg ⟨⟨rfl, rfl⟩, MFL_refl hcaps⟩ ⟨⟨rfl, .inr ⟨⟨⟨⟨rfl, rfl⟩, rfl, ⟨rfl, rfl⟩, trivial⟩, trivial⟩, rfl⟩⟩, ⟨rfl, .inl ⟨rfl, noRef_ints _⟩⟩, ⟨rfl, .inl ⟨rfl, noRef_ints _⟩⟩, ⟨rfl, .inl ⟨rfl, rfl⟩⟩, ⟨rfl, rows_lent (fun _ => rfl) (fun _ => rfl)⟩, trivial⟩ rfl ⟨⟨rfl, rfl⟩, rfl⟩ rfl ⟨⟨rfl, .inr ⟨rfl, rfl, rfl⟩⟩, ⟨rfl, .inl ⟨rfl, noRef_ints _⟩⟩, ⟨rfl, rows_news rfl rfl (by decide) (by decide)⟩, ⟨rfl, .inl ⟨rfl, noRef_ints _⟩⟩, ⟨rfl, .inl ⟨rfl, noRef_notes _⟩⟩, trivial⟩ rfl rfl ?_)
      | ((with_reducible show DrawK _ _ _ _); refine dK ?_)) <;> with_reducible refine wK ?_)
    | ((with_reducible show (_ ∧ _) ∧ _ ∧ _); (refine eK ?_ ?_ <;> with_reducible repeat' (first | exact trivial | (show _ ∧ _; refine aK ?_ ?_)))))
  all_goals first
    | rfl
    | exact frz_w rfl rfl rfl (by simp) (noRef_notes _)
    | exact (by rw [← hl]; exact frz_rows (ra := false) (rb := false) (ea := []) (eb := []) rfl rfl (fun y hy => by rw [List.append_nil, hka y hy]; exact ⟨rfl, rfl⟩) (fun y hy => by rw [List.append_nil, hkb y hy]; exact ⟨rfl, rfl⟩))
    | trace_state
end Go.Proofs.Heir
namespace Go.Proofs.Heir
open Go Go.Am Go.RowKit Go.Lib
set_option maxRecDepth 100000
set_option maxHeartbeats 8000000
set_option maxHeartbeats 2000000
structure NotesOK (f g : ForM) (ns : List NoteM) : Prop where
  right : rightF g = true
  len : g.nodes.length = f.nodes.length
  told : Told f.nodes g.nodes ns
  kind : ∀ x, thereN f.nodes x = true → (nd g.nodes x).kind = (nd f.nodes x).kind
  chain : ∀ n, thereN f.nodes n = true → ∀ t, rightS t = true → lowS t = t → chainN n t (valV (nd f.nodes n).attrs t) ns = some (valV (nd g.nodes n).attrs t)
theorem NotesOK.nil {f : ForM} (h : rightF f = true) : NotesOK f f [] := ⟨h, rfl, .nil _, fun _ _ => rfl, fun _ _ _ _ _ => rfl⟩
theorem NotesOK.last {f g : ForM} {ns : List NoteM} (h : NotesOK f g ns) {n : Int} (hn : thereN f.nodes n = true) (h1 : (nd f.nodes n).kind = 1) : runN (b2i (conL f.nodes n), (nd f.nodes n).doc) (notesOf n ns) = some (b2i (conL g.nodes n), (nd g.nodes n).doc) := h.told.run n hn h1
section
variable {l : List NodeM} {m : Int}
end
theorem place_of : ∀ {cs : List Int} {b : Int}, b ∈ cs → ∃ k : Nat, k < cs.length ∧ cs[k]? = some b ∧ (∀ (j : Nat) x, j < k → cs[j]? = some x → x ≠ b) ∧ cs.takeWhile (fun c => decide (c ≠ b)) = cs.take k ∧ cs.dropWhile (fun c => decide (c ≠ b)) = cs.drop k ∧ cs.erase b = cs.take k ++ cs.drop (k + 1)
  | [], b, h => by cases h
  | a :: r, b, h => by
    by_cases e : a = b
    · subst e
      refine ⟨0, by simp, rfl, fun j x hj => by omega, ?_, ?_, ?_⟩
      · rw [List.takeWhile_cons, if_neg (by simp)]; rfl
      · rw [List.dropWhile_cons, if_neg (by simp)]; rfl
      · rw [List.erase_cons_head]; rfl
    · obtain ⟨k, h1, h2, h3, h4, h5, h6⟩ := place_of ((List.mem_cons.1 h).resolve_left fun q => e q.symm)
      refine ⟨k + 1, by simp; omega, by simpa using h2, fun j x hj hx => ?_, ?_, ?_, ?_⟩
      · cases j with
        | zero => simp at hx; rw [← hx]; exact e
        | succ j => exact h3 j x (by omega) (by simpa using hx)
      · rw [List.takeWhile_cons, if_pos (by simpa using e), h4]; rfl
      · rw [List.dropWhile_cons, if_pos (by simpa using e), h5]; rfl
      · rw [List.erase_cons, if_neg (by simpa using e), h6]; rfl
end Go.Proofs.Heir
namespace Go.Proofs.Heir
open Go Go.Am Go.RowKit Go.Lib
set_option maxRecDepth 100000
set_option maxHeartbeats 8000000
theorem remove_bad (f : ForM) (n : Int) (what : ByteArray) (e : Int) (r : ForM) (ns : List NoteM) (z : Int) (h77 : FnOK Tryz.prog 77 [] [eFor f, eInt n] [] (.lit (stepV what e)))
    (h56 : FnOK Tryz.prog 56 [] [eFor f, .lit (stepV what e), .clo (.func 78) [] [.fptr (eInt n) 0]] [] (.tup [eFor r, eNs ns, eInt z])) : FnOK Tryz.prog 32 [] [eFor f, eInt n] [] (.tup [eFor r, eNs ns, eInt z]) := by
  obtain ⟨l, m⟩ := f
  obtain ⟨l', m'⟩ := r
  refine FnOK.startC (rvs := [.cell 4 24, .tmp 5, .tmp 6]) G G_good Tryz.func32 rfl Tryz.ntmps32 rfl rfl ?_; with_reducible refine wD ?_
  repeat' (first
    | refine gK ?_
    | ((first
      | ((with_reducible show CallK _ _ 77 _ _ _ _); refine CallK.lit [] h77 c77 ⟨⟨rfl, rfl, trivial⟩, rfl, trivial⟩ rfl rfl ?_)
      | ((with_reducible show CallK _ _ 56 _ _ _ _); refine CallK.val [30] h56 c56 ⟨⟨rfl, rfl, trivial⟩, ⟨rfl, rfl⟩, ⟨rfl, trivial, ⟨_, _, _, _, _, rfl, rfl, rfl, rfl, rfl, rfl⟩, trivial⟩, trivial⟩ rfl rfl rfl ?_)
      | ((with_reducible show DrawK _ _ _ _); refine dK ?_)) <;> with_reducible refine wK ?_)
    | ((with_reducible show (_ ∧ _) ∧ _ ∧ _); (refine eK ?_ ?_ <;> with_reducible repeat' (first | exact trivial | (show _ ∧ _; refine aK ?_ ?_)))))
  all_goals first | rfl | trace_state
theorem remove_yes (f : ForM) (n : Int) (r : ForM) (ns : List NoteM) (z : Int) (h77 : FnOK Tryz.prog 77 [] [eFor f, eInt n] [] noErr)
    (h56 : FnOK Tryz.prog 56 [] [eFor f, noErr, .clo (.func 78) [] [.fptr (eInt n) 0]] [] (.tup [eFor r, eNs ns, eInt z])) : FnOK Tryz.prog 32 [] [eFor f, eInt n] [] (.tup [eFor r, eNs ns, eInt z]) := by
  obtain ⟨l, m⟩ := f
  obtain ⟨l', m'⟩ := r
  refine FnOK.startC (rvs := [.cell 4 24, .tmp 5, .tmp 6]) G G_good Tryz.func32 rfl Tryz.ntmps32 rfl rfl ?_; with_reducible refine wD ?_
  repeat' (first
    | refine gK ?_
    | ((first
      | ((with_reducible show CallK _ _ 77 _ _ _ _); refine CallK.lit [] h77 c77 ⟨⟨rfl, rfl, trivial⟩, rfl, trivial⟩ rfl rfl ?_)
      | ((with_reducible show CallK _ _ 56 _ _ _ _); refine CallK.val [30] h56 c56 ⟨⟨rfl, rfl, trivial⟩, ⟨rfl, rfl⟩, ⟨rfl, trivial, ⟨_, _, _, _, _, rfl, rfl, rfl, rfl, rfl, rfl⟩, trivial⟩, trivial⟩ rfl rfl rfl ?_)
      | ((with_reducible show DrawK _ _ _ _); refine dK ?_)) <;> with_reducible refine wK ?_)
    | ((with_reducible show (_ ∧ _) ∧ _ ∧ _); (refine eK ?_ ?_ <;> with_reducible repeat' (first | exact trivial | (show _ ∧ _; refine aK ?_ ?_)))))
  all_goals first | rfl | trace_state
theorem tellL_eq (l : List NodeM) (m : Int) (R : RF l m) {n : Int} (hn : thereN l n = true) (x : NoteM) : tellL l n x = (elK ⟨l, m⟩ n).map (withN x) := by
  unfold tellL elK elsU keepI allU withN
  rw [if_pos (by rw [rf_iff.2 R, hn]; rfl)]
  simp
theorem elK_len (l : List NodeM) (m : Int) (R : RF l m) (hl : l.length ≤ 64) (n : Int) (hn : thereN l n = true) : (allU ⟨l, m⟩ n).length ≤ 1000 ∧ (elK ⟨l, m⟩ n).length ≤ 1000 := by
  have h : (allU ⟨l, m⟩ n).length ≤ 1000 := by
    unfold allU
    rw [if_pos (by rw [rf_iff.2 R, hn]; rfl)]
    have := U.ord_len R.tree l.length hn
    show (U.ordN l l.length n).length ≤ 1000
    omega
  exact ⟨h, Nat.le_trans (List.length_filter_le ..) h⟩
theorem f32_ok (f : ForM) (hs : SmallN f.nodes) (n : Int) : FnOK Tryz.prog 32 [] [eFor f, eInt n] [] (.tup [eFor (removeM f n).1, eNs (removeM f n).2.1, eInt (removeM f n).2.2]) := by
  cases hrt : (rightF f && thereN f.nodes n) with
  | false =>
    have e : removeM f n = (f, [], 1) := by unfold removeM; rw [hrt]; rfl
    rw [e]
    exact remove_bad f n askedW 1 f [] 1 (there_no f hs n hrt) (done_bad f hs 78 _ askedW 1)
  | true =>
    simp only [Bool.and_eq_true] at hrt
    obtain ⟨hr, ht⟩ := hrt
    obtain ⟨b, y, rfl, hy, _⟩ := there_iff.1 ht
    obtain ⟨l, m⟩ := f
    have R : RF l m := rf_iff.1 hr
    have hnd := nd_get hy
    by_cases hp : y.parent = -1
    · have e := removeM_no R ht (by rw [hnd]; exact hp)
      rw [e]
      exact remove_none ⟨l, m⟩ hs hr b y hy hp
    · have hq := R.par b ht (by rw [hnd]; exact hp)
      rw [hnd] at hq
      have e := removeM_ok R ht (by rw [hnd]; exact hp)
      rw [e]
      obtain ⟨a, ya, hpa, ha, _⟩ := there_iff.1 hq.2.1
      rw [hpa] at hq hp
      have hnda := nd_get ha
      have hmem : (b : Int) ∈ ya.kids := by
        have := hq.2.2.2
        rwa [hnda] at this
      have hab : b ≠ a := by
        intro e
        have h1 := R.not_self ht
        rw [R.kind_par ht (by rw [hnd, hpa]; exact hp), hnd, hpa, e] at h1
        exact h1 rfl
      obtain ⟨i, hi, hib, hno, _, _, her⟩ := place_of hmem
      have hs64 : l.length ≤ 64 := hs.len
      have hkl : ya.kids.length ≤ 60 := hs.kids ya (List.mem_of_getElem? ha)
      have hel := elK_len l m R hs64 b ht
      have h35 := f35_ok ⟨l, m⟩ hs b
      rw [show conF ⟨l, m⟩ b = conL l b by unfold conF conL; rw [hr, ht]; rfl] at h35
      have h34 := f34_own ⟨l, m⟩ hs b (by rw [hr, ht]; rfl) (by omega)
      have h73 := f73_ok ya.kids (by omega) b
      rw [idxI_hit hib (decide_eq_true rfl) fun j x hj hx => decide_eq_false (hno j x hj hx)] at h73
      have h145 := deleteI_ok (rows := ya.kids.map oInt) (one_ints ya.kids) i (i + 1) (by omega) (by simp; omega)
      rw [List.length_map, ← List.map_take, ← List.map_drop, ← List.map_append, show i + (ya.kids.length - (i + 1)) = (ya.kids.take i ++ ya.kids.drop (i + 1)).length by simp; omega] at h145
      have hto : (if conL l b = true then tellL l b (bareNote 2 0 0) else []) = (if conL l b = true then (elK ⟨l, m⟩ b).map (withN wentN) else []) := by
        rw [tellL_eq l m R ht]; rfl
      have h79 := out_b (l := l) (m := m) (a := a) (b := b) (i := i) (ns := []) (told := if conL l b = true then (elK ⟨l, m⟩ b).map (withN wentN) else []) rfl (by omega) ha (kb := y.kids) (fun z hz => by rw [hy] at hz; cases hz; rfl) hy hab rfl hpa hi (by omega) hel.2 (by simp) h35 h34 h73 h145
      have hout : outL l b = (l.set a { ya with kids := ya.kids.take i ++ ya.kids.drop (i + 1) }).set b { y with parent := -1 } := by
        unfold outL
        rw [hnd, if_neg (by rw [hpa]; exact hp)]
        unfold setN
        rw [hpa, hnda]
        dsimp only
        rw [her, Int.toNat_natCast, Int.toNat_natCast]
        congr 1
        have : nd (l.set a { ya with kids := ya.kids.take i ++ ya.kids.drop (i + 1) }) b = y := nd_get (by rw [List.getElem?_set, if_neg (fun e => hab e.symm)]; exact hy)
        rw [this]
      rw [hto, hout]
      have hlen : ((l.set a { ya with kids := ya.kids.take i ++ ya.kids.drop (i + 1) }).set b { y with parent := -1 }).length = l.length := by simp
      generalize (if conL l b = true then (elK ⟨l, m⟩ b).map (withN wentN) else []) = told at h79 ⊢
      have hA : ∀ z, ((l.set a { ya with kids := ya.kids.take i ++ ya.kids.drop (i + 1) }).set b { y with parent := -1 })[a]? = some z → z.kids = ya.kids.take i ++ ya.kids.drop (i + 1) := fun z hz => by
        rw [List.getElem?_set, if_neg hab, List.getElem?_set, if_pos rfl, if_pos (List.getElem?_eq_some_iff.1 ha).1] at hz
        cases hz; rfl
      have hB : ∀ z, ((l.set a { ya with kids := ya.kids.take i ++ ya.kids.drop (i + 1) }).set b { y with parent := -1 })[b]? = some z → z.kids = y.kids := fun z hz => by
        rw [List.getElem?_set, if_pos rfl, if_pos (by rw [List.length_set]; exact (List.getElem?_eq_some_iff.1 hy).1)] at hz
        cases hz; rfl
      exact remove_yes ⟨l, m⟩ b _ _ 0 (there_yes ⟨l, m⟩ hs b (by rw [hr, ht]; rfl))
        (done_K ⟨l, m⟩ hs (fun e => hab e.symm) ha hy 78 c78 [.fptr (eInt b) 0] rfl _ _ told hlen hA hB
          (removeC_yes (show l.length ≤ 1000 by omega) hy (by rw [hpa]; exact hp) hlen h79 hab))
def oI1 (s : ByteArray) : List MS := [.live 5 [.agg [.own 1 0 2, .lit (.int .i64 (400)), .lit (.int .i64 (0)), .lit (.string s), .lit (.bool false)]] false, .live 10 [.agg [.lit (.int .i64 (0)), .lit (.string ⟨⟨[]⟩⟩), .lit (.string ⟨⟨[]⟩⟩), .lit (.string ⟨⟨[]⟩⟩), .lit (.slice none 0 0), .lit (.int .i64 (-1)), .lit (.slice none 0 0), .lit (.int .i64 (-1)), .lit (.int .i64 (-1)), .lit (.int .i64 (0))], .agg [.lit (.int .i64 (1)), .lit (.string ⟨⟨[100, 105, 118]⟩⟩), .lit (.string ⟨⟨[]⟩⟩), .lit (.string ⟨⟨[]⟩⟩), .lit (.slice none 0 0), .lit (.int .i64 (-1)), .lit (.slice none 0 0), .lit (.int .i64 (-1)), .lit (.int .i64 (-1)), .lit (.int .i64 (0))]] false]
def om1 : Ans := ⟨219, oI1 ⟨⟨[34, 102, 34, 62, 60, 112, 62, 60, 105, 110, 112, 117, 116, 62, 60, 47, 105, 110, 112, 117, 116, 62, 60, 47, 112, 62, 60, 47, 102, 111, 114, 109, 62, 60, 105, 110, 112, 117, 116, 32, 102, 111, 114, 109, 61, 34, 102, 34, 62, 60, 47, 105, 110, 112, 117, 116, 62, 60, 47, 100, 105, 118, 62]⟩⟩, [.ptr 0 0 0, .lit (.string ⟨⟨[34]⟩⟩)], oI1 ⟨⟨[102, 34, 62, 60, 112, 62, 60, 105, 110, 112, 117, 116, 62, 60, 47, 105, 110, 112, 117, 116, 62, 60, 47, 112, 62, 60, 47, 102, 111, 114, 109, 62, 60, 105, 110, 112, 117, 116, 32, 102, 111, 114, 109, 61, 34, 102, 34, 62, 60, 47, 105, 110, 112, 117, 116, 62, 60, 47, 100, 105, 118, 62]⟩⟩, .tup []⟩
theorem om1_run : runF envA 1000 60 om1.g om1.ins om1.args = some (om1.outs, om1.res) := by kernel_rfl
def oq1 : Ans := ⟨205, oI1 ⟨⟨[34, 102, 34, 62, 60, 112, 62, 60, 105, 110, 112, 117, 116, 62, 60, 47, 105, 110, 112, 117, 116, 62, 60, 47, 112, 62, 60, 47, 102, 111, 114, 109, 62, 60, 105, 110, 112, 117, 116, 32, 102, 111, 114, 109, 61, 34, 102, 34, 62, 60, 47, 105, 110, 112, 117, 116, 62, 60, 47, 100, 105, 118, 62]⟩⟩, [.ptr 0 0 0], oI1 ⟨⟨[62, 60, 112, 62, 60, 105, 110, 112, 117, 116, 62, 60, 47, 105, 110, 112, 117, 116, 62, 60, 47, 112, 62, 60, 47, 102, 111, 114, 109, 62, 60, 105, 110, 112, 117, 116, 32, 102, 111, 114, 109, 61, 34, 102, 34, 62, 60, 47, 105, 110, 112, 117, 116, 62, 60, 47, 100, 105, 118, 62]⟩⟩, .lit (.string ⟨⟨[102]⟩⟩)⟩
theorem oq1_ok : oq1.OK Tryz.prog := ⟨f205_ok (.own 1 0 2) (.lit (.int .i64 (400))) (.lit (.int .i64 (0))) _ [102] [62, 60, 112, 62, 60, 105, 110, 112, 117, 116, 62, 60, 47, 105, 110, 112, 117, 116, 62, 60, 47, 112, 62, 60, 47, 102, 111, 114, 109, 62, 60, 105, 110, 112, 117, 116, 32, 102, 111, 114, 109, 61, 34, 102, 34, 62, 60, 47, 105, 110, 112, 117, 116, 62, 60, 47, 100, 105, 118, 62] _ (by decide) (by decide) (Ans.of envA_good om1_run).1, c205⟩
def oI2 (s : ByteArray) : List MS := [.live 5 [.agg [.own 1 0 5, .lit (.int .i64 (400)), .lit (.int .i64 (0)), .lit (.string s), .lit (.bool false)]] false, .live 10 [.agg [.lit (.int .i64 (0)), .lit (.string ⟨⟨[]⟩⟩), .lit (.string ⟨⟨[]⟩⟩), .lit (.string ⟨⟨[]⟩⟩), .lit (.slice none 0 0), .lit (.int .i64 (-1)), .lit (.slice none 0 0), .lit (.int .i64 (-1)), .lit (.int .i64 (-1)), .lit (.int .i64 (0))], .agg [.lit (.int .i64 (1)), .lit (.string ⟨⟨[100, 105, 118]⟩⟩), .lit (.string ⟨⟨[]⟩⟩), .lit (.string ⟨⟨[]⟩⟩), .lit (.slice none 0 0), .lit (.int .i64 (-1)), .own 2 0 1, .lit (.int .i64 (-1)), .lit (.int .i64 (-1)), .lit (.int .i64 (0))], .agg [.lit (.int .i64 (1)), .lit (.string ⟨⟨[102, 111, 114, 109]⟩⟩), .lit (.string ⟨⟨[]⟩⟩), .lit (.string ⟨⟨[]⟩⟩), .own 3 0 1, .lit (.int .i64 (1)), .own 4 0 1, .lit (.int .i64 (-1)), .lit (.int .i64 (-1)), .lit (.int .i64 (0))], .agg [.lit (.int .i64 (1)), .lit (.string ⟨⟨[112]⟩⟩), .lit (.string ⟨⟨[]⟩⟩), .lit (.string ⟨⟨[]⟩⟩), .lit (.slice none 0 0), .lit (.int .i64 (2)), .own 5 0 1, .lit (.int .i64 (-1)), .lit (.int .i64 (-1)), .lit (.int .i64 (0))], .agg [.lit (.int .i64 (1)), .lit (.string ⟨⟨[105, 110, 112, 117, 116]⟩⟩), .lit (.string ⟨⟨[]⟩⟩), .lit (.string ⟨⟨[]⟩⟩), .lit (.slice none 0 0), .lit (.int .i64 (3)), .lit (.slice none 0 0), .lit (.int .i64 (-1)), .lit (.int .i64 (-1)), .lit (.int .i64 (0))]] false, .live 1 [.lit (.int .i64 (2))] false, .live 2 [.agg [.lit (.string ⟨⟨[105, 100]⟩⟩), .lit (.string ⟨⟨[102]⟩⟩)]] false, .live 1 [.lit (.int .i64 (3))] false, .live 1 [.lit (.int .i64 (4))] false]
def om2 : Ans := ⟨219, oI2 ⟨⟨[34, 102, 34, 62, 60, 47, 105, 110, 112, 117, 116, 62, 60, 47, 100, 105, 118, 62]⟩⟩, [.ptr 0 0 0, .lit (.string ⟨⟨[34]⟩⟩)], oI2 ⟨⟨[102, 34, 62, 60, 47, 105, 110, 112, 117, 116, 62, 60, 47, 100, 105, 118, 62]⟩⟩, .tup []⟩
theorem om2_run : runF envA 1000 60 om2.g om2.ins om2.args = some (om2.outs, om2.res) := by kernel_rfl
def oq2 : Ans := ⟨205, oI2 ⟨⟨[34, 102, 34, 62, 60, 47, 105, 110, 112, 117, 116, 62, 60, 47, 100, 105, 118, 62]⟩⟩, [.ptr 0 0 0], oI2 ⟨⟨[62, 60, 47, 105, 110, 112, 117, 116, 62, 60, 47, 100, 105, 118, 62]⟩⟩, .lit (.string ⟨⟨[102]⟩⟩)⟩
theorem oq2_ok : oq2.OK Tryz.prog := ⟨f205_ok (.own 1 0 5) (.lit (.int .i64 (400))) (.lit (.int .i64 (0))) _ [102] [62, 60, 47, 105, 110, 112, 117, 116, 62, 60, 47, 100, 105, 118, 62] _ (by decide) (by decide) (Ans.of envA_good om2_run).1, c205⟩
theorem oq_ok : ∀ r ∈ [oq1, oq2], r.OK Tryz.prog := Ans.cons oq1_ok (Ans.cons oq2_ok (fun _ h => by cases h))
def oR : Ans := ⟨54, [], [.lit (.string ⟨⟨[60, 100, 105, 118, 62, 60, 102, 111, 114, 109, 32, 105, 100, 61, 34, 102, 34, 62, 60, 112, 62, 60, 105, 110, 112, 117, 116, 62, 60, 47, 105, 110, 112, 117, 116, 62, 60, 47, 112, 62, 60, 47, 102, 111, 114, 109, 62, 60, 105, 110, 112, 117, 116, 32, 102, 111, 114, 109, 61, 34, 102, 34, 62, 60, 47, 105, 110, 112, 117, 116, 62, 60, 47, 100, 105, 118, 62]⟩⟩), .lit (.int .i64 (9))], [.live 10 [.agg [.lit (.int .i64 (0)), .lit (.string ⟨⟨[]⟩⟩), .lit (.string ⟨⟨[]⟩⟩), .lit (.string ⟨⟨[]⟩⟩), .lit (.slice none 0 0), .lit (.int .i64 (-1)), .lit (.slice none 0 0), .lit (.int .i64 (-1)), .lit (.int .i64 (-1)), .lit (.int .i64 (0))], .agg [.lit (.int .i64 (1)), .lit (.string ⟨⟨[100, 105, 118]⟩⟩), .lit (.string ⟨⟨[]⟩⟩), .lit (.string ⟨⟨[]⟩⟩), .lit (.slice none 0 0), .lit (.int .i64 (-1)), .own 1 0 2, .lit (.int .i64 (-1)), .lit (.int .i64 (-1)), .lit (.int .i64 (0))], .agg [.lit (.int .i64 (1)), .lit (.string ⟨⟨[102, 111, 114, 109]⟩⟩), .lit (.string ⟨⟨[]⟩⟩), .lit (.string ⟨⟨[]⟩⟩), .own 2 0 1, .lit (.int .i64 (1)), .own 3 0 1, .lit (.int .i64 (-1)), .lit (.int .i64 (-1)), .lit (.int .i64 (0))], .agg [.lit (.int .i64 (1)), .lit (.string ⟨⟨[112]⟩⟩), .lit (.string ⟨⟨[]⟩⟩), .lit (.string ⟨⟨[]⟩⟩), .lit (.slice none 0 0), .lit (.int .i64 (2)), .own 4 0 1, .lit (.int .i64 (-1)), .lit (.int .i64 (-1)), .lit (.int .i64 (0))], .agg [.lit (.int .i64 (1)), .lit (.string ⟨⟨[105, 110, 112, 117, 116]⟩⟩), .lit (.string ⟨⟨[]⟩⟩), .lit (.string ⟨⟨[]⟩⟩), .lit (.slice none 0 0), .lit (.int .i64 (3)), .lit (.slice none 0 0), .lit (.int .i64 (-1)), .lit (.int .i64 (-1)), .lit (.int .i64 (0))], .agg [.lit (.int .i64 (1)), .lit (.string ⟨⟨[105, 110, 112, 117, 116]⟩⟩), .lit (.string ⟨⟨[]⟩⟩), .lit (.string ⟨⟨[]⟩⟩), .own 5 0 1, .lit (.int .i64 (1)), .lit (.slice none 0 0), .lit (.int .i64 (-1)), .lit (.int .i64 (-1)), .lit (.int .i64 (0))]] false, .live 1 [.lit (.int .i64 (2)), .lit (.int .i64 (5))] false, .live 2 [.agg [.lit (.string ⟨⟨[105, 100]⟩⟩), .lit (.string ⟨⟨[102]⟩⟩)]] false, .live 1 [.lit (.int .i64 (3))] false, .live 1 [.lit (.int .i64 (4))] false, .live 2 [.agg [.lit (.string ⟨⟨[102, 111, 114, 109]⟩⟩), .lit (.string ⟨⟨[102]⟩⟩)]] false], .tup [.agg [.own 0 0 6, .lit (.int .i64 (9))], .lit (.int .i64 (1)), .lit (.int .i64 (0))]⟩
theorem oR_run : runF (envA.more [oq1, oq2]) 1000 60 oR.g oR.ins oR.args = some (oR.outs, oR.res) := by kernel_rfl
theorem oR_ok : oR.OK Tryz.prog := Ans.of (EEnv.more_good envA_good oq_ok) oR_run
def oT : ByteArray := ⟨⟨[60, 100, 105, 118, 62, 60, 102, 111, 114, 109, 32, 105, 100, 61, 34, 102, 34, 62, 60, 112, 62, 60, 105, 110, 112, 117, 116, 62, 60, 47, 105, 110, 112, 117, 116, 62, 60, 47, 112, 62, 60, 47, 102, 111, 114, 109, 62, 60, 105, 110, 112, 117, 116, 32, 102, 111, 114, 109, 61, 34, 102, 34, 62, 60, 47, 105, 110, 112, 117, 116, 62, 60, 47, 100, 105, 118, 62]⟩⟩
@[reducible] def wDiv : ByteArray := ⟨#[100, 105, 118]⟩
@[reducible] def wForm : ByteArray := ⟨#[102, 111, 114, 109]⟩
@[reducible] def wPe : ByteArray := ⟨#[112]⟩
@[reducible] def wInp : ByteArray := ⟨#[105, 110, 112, 117, 116]⟩
@[reducible] def wId : ByteArray := ⟨#[105, 100]⟩
@[reducible] def wEf : ByteArray := ⟨#[102]⟩
def oF : ForM := ⟨[⟨0, ⟨#[]⟩, ⟨#[]⟩, ⟨#[]⟩, [], -1, [], -1, -1, 0⟩, ⟨1, wDiv, ⟨#[]⟩, ⟨#[]⟩, [], -1, [2, 5], -1, -1, 0⟩, ⟨1, wForm, ⟨#[]⟩, ⟨#[]⟩, [⟨wId, wEf⟩], 1, [3], -1, -1, 0⟩, ⟨1, wPe, ⟨#[]⟩, ⟨#[]⟩, [], 2, [4], -1, -1, 0⟩, ⟨1, wInp, ⟨#[]⟩, ⟨#[]⟩, [], 3, [], -1, -1, 0⟩, ⟨1, wInp, ⟨#[]⟩, ⟨#[]⟩, [⟨wForm, wEf⟩], 1, [], -1, -1, 0⟩], 9⟩
theorem ofresh_ok : FnOK Tryz.prog 54 [] [eStr oT, eInt 9] [] (.tup [eFor oF, eInt 1, eInt 0]) := by
  have h := oR_ok.1
  refine FnOK.frozen (objsR 0 oR.outs) ?_ (by kernel_rfl) h ?_
  · funext t
    match t with
    | 0 => rfl
    | 1 => rfl
    | 2 => rfl
    | 3 => rfl
    | 4 => rfl
    | 5 => rfl
    | n + 6 => rfl
  · have nil2 : ∀ wd, NilK (.sl wd []) := fun wd => .inr (.inr ⟨wd, rfl⟩)
    refine ⟨⟨⟨10, _, _, _, rfl, rfl, rfl, by decide, rfl, RowsM.of ⟨?_, ?_, ?_, ?_, ?_, ?_, trivial⟩⟩, rfl, trivial⟩, rfl, rfl, trivial⟩
    · exact ⟨rfl, rfl, rfl, rfl, nil2 _, rfl, nil2 _, rfl, rfl, rfl, trivial⟩
    · exact ⟨rfl, rfl, rfl, rfl, nil2 _, rfl, ⟨1, _, _, _, rfl, rfl, rfl, by decide, rfl, RowsM.of ⟨rfl, rfl, trivial⟩⟩, rfl, rfl, rfl, trivial⟩
    · exact ⟨rfl, rfl, rfl, rfl, ⟨2, _, _, _, rfl, rfl, rfl, by decide, rfl, RowsM.of ⟨⟨rfl, rfl, trivial⟩, trivial⟩⟩, rfl, ⟨1, _, _, _, rfl, rfl, rfl, by decide, rfl, RowsM.of ⟨rfl, trivial⟩⟩, rfl, rfl, rfl, trivial⟩
    · exact ⟨rfl, rfl, rfl, rfl, nil2 _, rfl, ⟨1, _, _, _, rfl, rfl, rfl, by decide, rfl, RowsM.of ⟨rfl, trivial⟩⟩, rfl, rfl, rfl, trivial⟩
    · exact ⟨rfl, rfl, rfl, rfl, nil2 _, rfl, nil2 _, rfl, rfl, rfl, trivial⟩
    · exact ⟨rfl, rfl, rfl, rfl, ⟨2, _, _, _, rfl, rfl, rfl, by decide, rfl, RowsM.of ⟨⟨rfl, rfl, trivial⟩, trivial⟩⟩, rfl, nil2 _, rfl, rfl, rfl, trivial⟩
noncomputable def fnsO : List (Nat × Func) := [(16, Tryz.f16), (25, Tryz.f25), (17, Tryz.f17), (207, Tryz.f207), (69, Tryz.f69), (133, Tryz.f133), (179, Tryz.f179), (208, Tryz.f208), (55, Tryz.f55), (223, Tryz.f223), (135, Tryz.f135), (137, Tryz.f137), (187, Tryz.f187), (115, Tryz.f115), (116, Tryz.f116), (117, Tryz.f117), (118, Tryz.f118), (119, Tryz.f119), (120, Tryz.f120), (127, Tryz.f127), (67, Tryz.f67), (131, Tryz.f131), (136, Tryz.f136), (129, Tryz.f129), (175, Tryz.f175), (176, Tryz.f176), (177, Tryz.f177), (125, Tryz.f125), (217, Tryz.f217), (124, Tryz.f124), (180, Tryz.f180), (181, Tryz.f181), (182, Tryz.f182), (73, Tryz.f73), (231, Tryz.f231), (183, Tryz.f183), (236, Tryz.f236), (29, Tryz.f29), (56, Tryz.f56), (60, Tryz.f60), (30, Tryz.f30), (74, Tryz.f74), (75, Tryz.f75), (28, Tryz.f28), (121, Tryz.f121), (71, Tryz.f71), (76, Tryz.f76), (27, Tryz.f27), (79, Tryz.f79), (139, Tryz.f139), (141, Tryz.f141), (138, Tryz.f138), (142, Tryz.f142), (144, Tryz.f144), (191, Tryz.f191), (83, Tryz.f83), (34, Tryz.f34), (35, Tryz.f35), (84, Tryz.f84), (147, Tryz.f147), (149, Tryz.f149), (192, Tryz.f192), (81, Tryz.f81), (63, Tryz.f63), (143, Tryz.f143), (140, Tryz.f140)]
theorem fnsO_ok : ∀ p ∈ fnsO, Tryz.prog.funcs[p.1]? = some p.2 ∧ Callable Tryz.prog p.1 := List.forall_mem_cons.2 ⟨⟨Tryz.func16, c16⟩, List.forall_mem_cons.2 ⟨⟨Tryz.func25, c25⟩, List.forall_mem_cons.2 ⟨⟨Tryz.func17, c17⟩, List.forall_mem_cons.2 ⟨⟨Tryz.func207, c207⟩, List.forall_mem_cons.2 ⟨⟨Tryz.func69, c69⟩, List.forall_mem_cons.2 ⟨⟨Tryz.func133, c133⟩, List.forall_mem_cons.2 ⟨⟨Tryz.func179, c179⟩, List.forall_mem_cons.2 ⟨⟨Tryz.func208, c208⟩, List.forall_mem_cons.2 ⟨⟨Tryz.func55, c55⟩, List.forall_mem_cons.2 ⟨⟨Tryz.func223, c223⟩, List.forall_mem_cons.2 ⟨⟨Tryz.func135, c135⟩, List.forall_mem_cons.2 ⟨⟨Tryz.func137, c137⟩, List.forall_mem_cons.2 ⟨⟨Tryz.func187, c187⟩, List.forall_mem_cons.2 ⟨⟨Tryz.func115, c115⟩, List.forall_mem_cons.2 ⟨⟨Tryz.func116, c116⟩, List.forall_mem_cons.2 ⟨⟨Tryz.func117, c117⟩, List.forall_mem_cons.2 ⟨⟨Tryz.func118, c118⟩, List.forall_mem_cons.2 ⟨⟨Tryz.func119, c119⟩, List.forall_mem_cons.2 ⟨⟨Tryz.func120, c120⟩, List.forall_mem_cons.2 ⟨⟨Tryz.func127, c127⟩, List.forall_mem_cons.2 ⟨⟨Tryz.func67, c67⟩, List.forall_mem_cons.2 ⟨⟨Tryz.func131, c131⟩, List.forall_mem_cons.2 ⟨⟨Tryz.func136, c136⟩, List.forall_mem_cons.2 ⟨⟨Tryz.func129, c129⟩, List.forall_mem_cons.2 ⟨⟨Tryz.func175, c175⟩, List.forall_mem_cons.2 ⟨⟨Tryz.func176, c176⟩, List.forall_mem_cons.2 ⟨⟨Tryz.func177, c177⟩, List.forall_mem_cons.2 ⟨⟨Tryz.func125, c125⟩, List.forall_mem_cons.2 ⟨⟨Tryz.func217, c217⟩, List.forall_mem_cons.2 ⟨⟨Tryz.func124, c124⟩, List.forall_mem_cons.2 ⟨⟨Tryz.func180, c180⟩, List.forall_mem_cons.2 ⟨⟨Tryz.func181, c181⟩, List.forall_mem_cons.2 ⟨⟨Tryz.func182, c182⟩, List.forall_mem_cons.2 ⟨⟨Tryz.func73, c73⟩, List.forall_mem_cons.2 ⟨⟨Tryz.func231, c231⟩, List.forall_mem_cons.2 ⟨⟨Tryz.func183, c183⟩, List.forall_mem_cons.2 ⟨⟨Tryz.func236, c236⟩, List.forall_mem_cons.2 ⟨⟨Tryz.func29, c29⟩, List.forall_mem_cons.2 ⟨⟨Tryz.func56, c56⟩, List.forall_mem_cons.2 ⟨⟨Tryz.func60, c60⟩, List.forall_mem_cons.2 ⟨⟨Tryz.func30, c30⟩, List.forall_mem_cons.2 ⟨⟨Tryz.func74, c74⟩, List.forall_mem_cons.2 ⟨⟨Tryz.func75, c75⟩, List.forall_mem_cons.2 ⟨⟨Tryz.func28, c28⟩, List.forall_mem_cons.2 ⟨⟨Tryz.func121, c121⟩, List.forall_mem_cons.2 ⟨⟨Tryz.func71, c71⟩, List.forall_mem_cons.2 ⟨⟨Tryz.func76, c76⟩, List.forall_mem_cons.2 ⟨⟨Tryz.func27, c27⟩, List.forall_mem_cons.2 ⟨⟨Tryz.func79, c79⟩, List.forall_mem_cons.2 ⟨⟨Tryz.func139, c139⟩, List.forall_mem_cons.2 ⟨⟨Tryz.func141, c141⟩, List.forall_mem_cons.2 ⟨⟨Tryz.func138, c138⟩, List.forall_mem_cons.2 ⟨⟨Tryz.func142, c142⟩, List.forall_mem_cons.2 ⟨⟨Tryz.func144, c144⟩, List.forall_mem_cons.2 ⟨⟨Tryz.func191, c191⟩, List.forall_mem_cons.2 ⟨⟨Tryz.func83, c83⟩, List.forall_mem_cons.2 ⟨⟨Tryz.func34, c34⟩, List.forall_mem_cons.2 ⟨⟨Tryz.func35, c35⟩, List.forall_mem_cons.2 ⟨⟨Tryz.func84, c84⟩, List.forall_mem_cons.2 ⟨⟨Tryz.func147, c147⟩, List.forall_mem_cons.2 ⟨⟨Tryz.func149, c149⟩, List.forall_mem_cons.2 ⟨⟨Tryz.func192, c192⟩, List.forall_mem_cons.2 ⟨⟨Tryz.func81, c81⟩, List.forall_mem_cons.2 ⟨⟨Tryz.func63, c63⟩, List.forall_mem_cons.2 ⟨⟨Tryz.func143, c143⟩, List.forall_mem_cons.2 ⟨⟨Tryz.func140, c140⟩, fun _ h => by simp at h⟩⟩⟩⟩⟩⟩⟩⟩⟩⟩⟩⟩⟩⟩⟩⟩⟩⟩⟩⟩⟩⟩⟩⟩⟩⟩⟩⟩⟩⟩⟩⟩⟩⟩⟩⟩⟩⟩⟩⟩⟩⟩⟩⟩⟩⟩⟩⟩⟩⟩⟩⟩⟩⟩⟩⟩⟩⟩⟩⟩⟩⟩⟩⟩⟩⟩
noncomputable def envC : EEnv := ⟨G, mapsT, fnsO, kindsT, orcC, [98]⟩
theorem envC_good : envC.Good Tryz.prog := ⟨G_good, mapsT_ok, fnsO_ok, kindsT_ok, orcC_ok, by kernel_rfl, fun t h => by
  obtain rfl := List.mem_singleton.1 h
  exact ⟨_, Tryz.underlying98⟩⟩
def oG : ForM := ⟨[⟨0, ⟨#[]⟩, ⟨#[]⟩, ⟨#[]⟩, [], -1, [1], -1, -1, 0⟩, ⟨1, wDiv, ⟨#[]⟩, ⟨#[]⟩, [], 0, [2, 5], -1, -1, 0⟩, ⟨1, wForm, ⟨#[]⟩, ⟨#[]⟩, [⟨wId, wEf⟩], 1, [3], -1, -1, 0⟩, ⟨1, wPe, ⟨#[]⟩, ⟨#[]⟩, [], 2, [4], -1, -1, 0⟩, ⟨1, wInp, ⟨#[]⟩, ⟨#[]⟩, [], 3, [], -1, -1, 0⟩, ⟨1, wInp, ⟨#[]⟩, ⟨#[]⟩, [⟨wForm, wEf⟩], 1, [], -1, -1, 0⟩], 9⟩
theorem oF_small : SmallN oF.nodes := ⟨by decide, by decide, by decide, by decide⟩
theorem oG_small : SmallN oG.nodes := ⟨by decide, by decide, by decide, by decide⟩
def oA0 : Ans := ⟨82, [.live 10 [.agg [.lit (.int .i64 (0)), .lit (.string ⟨⟨[]⟩⟩), .lit (.string ⟨⟨[]⟩⟩), .lit (.string ⟨⟨[]⟩⟩), .sl 2 [], .lit (.int .i64 (-1)), .own 1 0 1, .lit (.int .i64 (-1)), .lit (.int .i64 (-1)), .lit (.int .i64 (0))], .agg [.lit (.int .i64 (1)), .lit (.string ⟨⟨[100, 105, 118]⟩⟩), .lit (.string ⟨⟨[]⟩⟩), .lit (.string ⟨⟨[]⟩⟩), .sl 2 [], .lit (.int .i64 (0)), .own 2 0 2, .lit (.int .i64 (-1)), .lit (.int .i64 (-1)), .lit (.int .i64 (0))], .agg [.lit (.int .i64 (1)), .lit (.string ⟨⟨[102, 111, 114, 109]⟩⟩), .lit (.string ⟨⟨[]⟩⟩), .lit (.string ⟨⟨[]⟩⟩), .sl 2 [.agg [.lit (.string ⟨⟨[105, 100]⟩⟩), .lit (.string ⟨⟨[102]⟩⟩)]], .lit (.int .i64 (1)), .own 3 0 1, .lit (.int .i64 (-1)), .lit (.int .i64 (-1)), .lit (.int .i64 (0))], .agg [.lit (.int .i64 (1)), .lit (.string ⟨⟨[112]⟩⟩), .lit (.string ⟨⟨[]⟩⟩), .lit (.string ⟨⟨[]⟩⟩), .sl 2 [], .lit (.int .i64 (2)), .own 4 0 1, .lit (.int .i64 (-1)), .lit (.int .i64 (-1)), .lit (.int .i64 (0))], .agg [.lit (.int .i64 (1)), .lit (.string ⟨⟨[105, 110, 112, 117, 116]⟩⟩), .lit (.string ⟨⟨[]⟩⟩), .lit (.string ⟨⟨[]⟩⟩), .sl 2 [], .lit (.int .i64 (3)), .own 5 0 0, .lit (.int .i64 (-1)), .lit (.int .i64 (-1)), .lit (.int .i64 (0))], .agg [.lit (.int .i64 (1)), .lit (.string ⟨⟨[105, 110, 112, 117, 116]⟩⟩), .lit (.string ⟨⟨[]⟩⟩), .lit (.string ⟨⟨[]⟩⟩), .sl 2 [.agg [.lit (.string ⟨⟨[102, 111, 114, 109]⟩⟩), .lit (.string ⟨⟨[102]⟩⟩)]], .lit (.int .i64 (1)), .own 6 0 0, .lit (.int .i64 (-1)), .lit (.int .i64 (-1)), .lit (.int .i64 (0))]] false, .live 1 [.lit (.int .i64 (1))] false, .live 1 [.lit (.int .i64 (2)), .lit (.int .i64 (5))] false, .live 1 [.lit (.int .i64 (3))] false, .live 1 [.lit (.int .i64 (4))] false, .live 1 [] false, .live 1 [] false], [.agg [.own 0 0 6, .lit (.int .i64 (9))], .lit (.int .i64 (1))], [.live 10 [.agg [.lit (.int .i64 (0)), .lit (.string ⟨⟨[]⟩⟩), .lit (.string ⟨⟨[]⟩⟩), .lit (.string ⟨⟨[]⟩⟩), .sl 2 [], .lit (.int .i64 (-1)), .own 1 0 1, .lit (.int .i64 (-1)), .lit (.int .i64 (-1)), .lit (.int .i64 (0))], .agg [.lit (.int .i64 (1)), .lit (.string ⟨⟨[100, 105, 118]⟩⟩), .lit (.string ⟨⟨[]⟩⟩), .lit (.string ⟨⟨[]⟩⟩), .sl 2 [], .lit (.int .i64 (0)), .own 2 0 2, .lit (.int .i64 (-1)), .lit (.int .i64 (-1)), .lit (.int .i64 (0))], .agg [.lit (.int .i64 (1)), .lit (.string ⟨⟨[102, 111, 114, 109]⟩⟩), .lit (.string ⟨⟨[]⟩⟩), .lit (.string ⟨⟨[]⟩⟩), .sl 2 [.agg [.lit (.string ⟨⟨[105, 100]⟩⟩), .lit (.string ⟨⟨[102]⟩⟩)]], .lit (.int .i64 (1)), .own 3 0 1, .lit (.int .i64 (-1)), .lit (.int .i64 (-1)), .lit (.int .i64 (0))], .agg [.lit (.int .i64 (1)), .lit (.string ⟨⟨[112]⟩⟩), .lit (.string ⟨⟨[]⟩⟩), .lit (.string ⟨⟨[]⟩⟩), .sl 2 [], .lit (.int .i64 (2)), .own 4 0 1, .lit (.int .i64 (-1)), .lit (.int .i64 (-1)), .lit (.int .i64 (0))], .agg [.lit (.int .i64 (1)), .lit (.string ⟨⟨[105, 110, 112, 117, 116]⟩⟩), .lit (.string ⟨⟨[]⟩⟩), .lit (.string ⟨⟨[]⟩⟩), .sl 2 [], .lit (.int .i64 (3)), .own 5 0 0, .lit (.int .i64 (-1)), .lit (.int .i64 (-1)), .lit (.int .i64 (0))], .agg [.lit (.int .i64 (1)), .lit (.string ⟨⟨[105, 110, 112, 117, 116]⟩⟩), .lit (.string ⟨⟨[]⟩⟩), .lit (.string ⟨⟨[]⟩⟩), .sl 2 [.agg [.lit (.string ⟨⟨[102, 111, 114, 109]⟩⟩), .lit (.string ⟨⟨[102]⟩⟩)]], .lit (.int .i64 (1)), .own 6 0 0, .lit (.int .i64 (-1)), .lit (.int .i64 (-1)), .lit (.int .i64 (0))]] false, .live 1 [.lit (.int .i64 (1))] false, .live 1 [.lit (.int .i64 (2)), .lit (.int .i64 (5))] false, .live 1 [.lit (.int .i64 (3))] false, .live 1 [.lit (.int .i64 (4))] false, .live 1 [] false, .live 1 [] false, .live 1 [.lit (.int .i64 (1)), .lit (.int .i64 (2)), .lit (.int .i64 (3)), .lit (.int .i64 (4)), .lit (.int .i64 (5))] false], .own 7 0 5⟩
theorem oA0_ok : oA0.OK Tryz.prog := by
  refine ⟨?_, c82⟩
  have h := f82_own oG oG_small 1 (by kernel_rfl)
  rw [show allU oG 1 = [1, 2, 3, 4, 5] from by kernel_rfl] at h
  have nil2 : ∀ wd, NilK (.sl wd []) := fun wd => .inr (.inr ⟨wd, rfl⟩)
  refine FnOK.thawNew (args' := oA0.args) (ins := oA0.ins) (objsR 0 oA0.ins) [0, 1, 2, 3, 4, 5, 6] ?_ h (by decide) ?_ ?_
  · funext t
    match t with
    | 0 => rfl
    | 1 => rfl
    | 2 => rfl
    | 3 => rfl
    | 4 => rfl
    | 5 => rfl
    | 6 => rfl
    | n + 7 => rfl
  · intro r hr cs e
    obtain ⟨n, _, hn⟩ := List.mem_map.1 (show r ∈ ([1, 2, 3, 4, 5] : List Int).map oInt from hr)
    rw [← hn] at e
    cases e
  · refine ⟨⟨⟨10, _, _, _, rfl, rfl, rfl, by decide, rfl, RowsM.of ⟨?_, ?_, ?_, ?_, ?_, ?_, trivial⟩⟩, rfl, trivial⟩, rfl, trivial⟩
    · exact ⟨rfl, rfl, rfl, rfl, rfl, rfl, ⟨1, _, _, _, rfl, rfl, rfl, by decide, rfl, RowsM.of ⟨rfl, trivial⟩⟩, rfl, rfl, rfl, trivial⟩
    · exact ⟨rfl, rfl, rfl, rfl, rfl, rfl, ⟨1, _, _, _, rfl, rfl, rfl, by decide, rfl, RowsM.of ⟨rfl, rfl, trivial⟩⟩, rfl, rfl, rfl, trivial⟩
    · exact ⟨rfl, rfl, rfl, rfl, rfl, rfl, ⟨1, _, _, _, rfl, rfl, rfl, by decide, rfl, RowsM.of ⟨rfl, trivial⟩⟩, rfl, rfl, rfl, trivial⟩
    · exact ⟨rfl, rfl, rfl, rfl, rfl, rfl, ⟨1, _, _, _, rfl, rfl, rfl, by decide, rfl, RowsM.of ⟨rfl, trivial⟩⟩, rfl, rfl, rfl, trivial⟩
    · exact ⟨rfl, rfl, rfl, rfl, rfl, rfl, ⟨1, _, _, _, rfl, rfl, rfl, by decide, rfl, RowsM.of trivial⟩, rfl, rfl, rfl, trivial⟩
    · exact ⟨rfl, rfl, rfl, rfl, rfl, rfl, ⟨1, _, _, _, rfl, rfl, rfl, by decide, rfl, RowsM.of trivial⟩, rfl, rfl, rfl, trivial⟩
def oB0 : Ans := ⟨17, [], [.agg [.sl 10 [.agg [.lit (.int .i64 (0)), .lit (.string ⟨⟨[]⟩⟩), .lit (.string ⟨⟨[]⟩⟩), .lit (.string ⟨⟨[]⟩⟩), .sl 2 [], .lit (.int .i64 (-1)), .sl 1 [], .lit (.int .i64 (-1)), .lit (.int .i64 (-1)), .lit (.int .i64 (0))], .agg [.lit (.int .i64 (1)), .lit (.string ⟨⟨[100, 105, 118]⟩⟩), .lit (.string ⟨⟨[]⟩⟩), .lit (.string ⟨⟨[]⟩⟩), .sl 2 [], .lit (.int .i64 (-1)), .sl 1 [.lit (.int .i64 (2)), .lit (.int .i64 (5))], .lit (.int .i64 (-1)), .lit (.int .i64 (-1)), .lit (.int .i64 (0))], .agg [.lit (.int .i64 (1)), .lit (.string ⟨⟨[102, 111, 114, 109]⟩⟩), .lit (.string ⟨⟨[]⟩⟩), .lit (.string ⟨⟨[]⟩⟩), .sl 2 [.agg [.lit (.string ⟨⟨[105, 100]⟩⟩), .lit (.string ⟨⟨[102]⟩⟩)]], .lit (.int .i64 (1)), .sl 1 [.lit (.int .i64 (3))], .lit (.int .i64 (-1)), .lit (.int .i64 (-1)), .lit (.int .i64 (0))], .agg [.lit (.int .i64 (1)), .lit (.string ⟨⟨[112]⟩⟩), .lit (.string ⟨⟨[]⟩⟩), .lit (.string ⟨⟨[]⟩⟩), .sl 2 [], .lit (.int .i64 (2)), .sl 1 [.lit (.int .i64 (4))], .lit (.int .i64 (-1)), .lit (.int .i64 (-1)), .lit (.int .i64 (0))], .agg [.lit (.int .i64 (1)), .lit (.string ⟨⟨[105, 110, 112, 117, 116]⟩⟩), .lit (.string ⟨⟨[]⟩⟩), .lit (.string ⟨⟨[]⟩⟩), .sl 2 [], .lit (.int .i64 (3)), .sl 1 [], .lit (.int .i64 (-1)), .lit (.int .i64 (-1)), .lit (.int .i64 (0))], .agg [.lit (.int .i64 (1)), .lit (.string ⟨⟨[105, 110, 112, 117, 116]⟩⟩), .lit (.string ⟨⟨[]⟩⟩), .lit (.string ⟨⟨[]⟩⟩), .sl 2 [.agg [.lit (.string ⟨⟨[102, 111, 114, 109]⟩⟩), .lit (.string ⟨⟨[102]⟩⟩)]], .lit (.int .i64 (1)), .sl 1 [], .lit (.int .i64 (-1)), .lit (.int .i64 (-1)), .lit (.int .i64 (0))]], .lit (.int .i64 (9))]], [], .lit (.bool true)⟩
theorem oB0_ok : oB0.OK Tryz.prog := by
  refine ⟨?_, c17⟩
  have h := f17_ok oF oF_small
  rw [show rightF oF = true from by kernel_rfl] at h
  exact h
def oB1 : Ans := ⟨17, [.live 10 [.agg [.lit (.int .i64 (0)), .lit (.string ⟨⟨[]⟩⟩), .lit (.string ⟨⟨[]⟩⟩), .lit (.string ⟨⟨[]⟩⟩), .sl 2 [], .lit (.int .i64 (-1)), .own 1 0 0, .lit (.int .i64 (-1)), .lit (.int .i64 (-1)), .lit (.int .i64 (0))], .agg [.lit (.int .i64 (1)), .lit (.string ⟨⟨[100, 105, 118]⟩⟩), .lit (.string ⟨⟨[]⟩⟩), .lit (.string ⟨⟨[]⟩⟩), .sl 2 [], .lit (.int .i64 (-1)), .own 2 0 2, .lit (.int .i64 (-1)), .lit (.int .i64 (-1)), .lit (.int .i64 (0))], .agg [.lit (.int .i64 (1)), .lit (.string ⟨⟨[102, 111, 114, 109]⟩⟩), .lit (.string ⟨⟨[]⟩⟩), .lit (.string ⟨⟨[]⟩⟩), .sl 2 [.agg [.lit (.string ⟨⟨[105, 100]⟩⟩), .lit (.string ⟨⟨[102]⟩⟩)]], .lit (.int .i64 (1)), .own 3 0 1, .lit (.int .i64 (-1)), .lit (.int .i64 (-1)), .lit (.int .i64 (0))], .agg [.lit (.int .i64 (1)), .lit (.string ⟨⟨[112]⟩⟩), .lit (.string ⟨⟨[]⟩⟩), .lit (.string ⟨⟨[]⟩⟩), .sl 2 [], .lit (.int .i64 (2)), .own 4 0 1, .lit (.int .i64 (-1)), .lit (.int .i64 (-1)), .lit (.int .i64 (0))], .agg [.lit (.int .i64 (1)), .lit (.string ⟨⟨[105, 110, 112, 117, 116]⟩⟩), .lit (.string ⟨⟨[]⟩⟩), .lit (.string ⟨⟨[]⟩⟩), .sl 2 [], .lit (.int .i64 (3)), .own 5 0 0, .lit (.int .i64 (-1)), .lit (.int .i64 (-1)), .lit (.int .i64 (0))], .agg [.lit (.int .i64 (1)), .lit (.string ⟨⟨[105, 110, 112, 117, 116]⟩⟩), .lit (.string ⟨⟨[]⟩⟩), .lit (.string ⟨⟨[]⟩⟩), .sl 2 [.agg [.lit (.string ⟨⟨[102, 111, 114, 109]⟩⟩), .lit (.string ⟨⟨[102]⟩⟩)]], .lit (.int .i64 (1)), .own 6 0 0, .lit (.int .i64 (-1)), .lit (.int .i64 (-1)), .lit (.int .i64 (0))]] false, .live 1 [] false, .live 1 [.lit (.int .i64 (2)), .lit (.int .i64 (5))] false, .live 1 [.lit (.int .i64 (3))] false, .live 1 [.lit (.int .i64 (4))] false, .live 1 [] false, .live 1 [] false], [.agg [.own 0 0 6, .lit (.int .i64 (9))]], [.live 10 [.agg [.lit (.int .i64 (0)), .lit (.string ⟨⟨[]⟩⟩), .lit (.string ⟨⟨[]⟩⟩), .lit (.string ⟨⟨[]⟩⟩), .sl 2 [], .lit (.int .i64 (-1)), .own 1 0 0, .lit (.int .i64 (-1)), .lit (.int .i64 (-1)), .lit (.int .i64 (0))], .agg [.lit (.int .i64 (1)), .lit (.string ⟨⟨[100, 105, 118]⟩⟩), .lit (.string ⟨⟨[]⟩⟩), .lit (.string ⟨⟨[]⟩⟩), .sl 2 [], .lit (.int .i64 (-1)), .own 2 0 2, .lit (.int .i64 (-1)), .lit (.int .i64 (-1)), .lit (.int .i64 (0))], .agg [.lit (.int .i64 (1)), .lit (.string ⟨⟨[102, 111, 114, 109]⟩⟩), .lit (.string ⟨⟨[]⟩⟩), .lit (.string ⟨⟨[]⟩⟩), .sl 2 [.agg [.lit (.string ⟨⟨[105, 100]⟩⟩), .lit (.string ⟨⟨[102]⟩⟩)]], .lit (.int .i64 (1)), .own 3 0 1, .lit (.int .i64 (-1)), .lit (.int .i64 (-1)), .lit (.int .i64 (0))], .agg [.lit (.int .i64 (1)), .lit (.string ⟨⟨[112]⟩⟩), .lit (.string ⟨⟨[]⟩⟩), .lit (.string ⟨⟨[]⟩⟩), .sl 2 [], .lit (.int .i64 (2)), .own 4 0 1, .lit (.int .i64 (-1)), .lit (.int .i64 (-1)), .lit (.int .i64 (0))], .agg [.lit (.int .i64 (1)), .lit (.string ⟨⟨[105, 110, 112, 117, 116]⟩⟩), .lit (.string ⟨⟨[]⟩⟩), .lit (.string ⟨⟨[]⟩⟩), .sl 2 [], .lit (.int .i64 (3)), .own 5 0 0, .lit (.int .i64 (-1)), .lit (.int .i64 (-1)), .lit (.int .i64 (0))], .agg [.lit (.int .i64 (1)), .lit (.string ⟨⟨[105, 110, 112, 117, 116]⟩⟩), .lit (.string ⟨⟨[]⟩⟩), .lit (.string ⟨⟨[]⟩⟩), .sl 2 [.agg [.lit (.string ⟨⟨[102, 111, 114, 109]⟩⟩), .lit (.string ⟨⟨[102]⟩⟩)]], .lit (.int .i64 (1)), .own 6 0 0, .lit (.int .i64 (-1)), .lit (.int .i64 (-1)), .lit (.int .i64 (0))]] false, .live 1 [] false, .live 1 [.lit (.int .i64 (2)), .lit (.int .i64 (5))] false, .live 1 [.lit (.int .i64 (3))] false, .live 1 [.lit (.int .i64 (4))] false, .live 1 [] false, .live 1 [] false], .lit (.bool true)⟩
theorem oB1_ok : oB1.OK Tryz.prog := by
  refine ⟨?_, c17⟩
  have h := f17_ok oF oF_small
  rw [show rightF oF = true from by kernel_rfl] at h
  have nil2 : ∀ wd, NilK (.sl wd []) := fun wd => .inr (.inr ⟨wd, rfl⟩)
  refine FnOK.thaw (args' := oB1.args) (ins := oB1.ins) (objsR 0 oB1.ins) [0, 1, 2, 3, 4, 5, 6] ?_ h rfl ?_
  · funext t
    match t with
    | 0 => rfl
    | 1 => rfl
    | 2 => rfl
    | 3 => rfl
    | 4 => rfl
    | 5 => rfl
    | 6 => rfl
    | n + 7 => rfl
  · refine ⟨⟨⟨10, _, _, _, rfl, rfl, rfl, by decide, rfl, RowsM.of ⟨?_, ?_, ?_, ?_, ?_, ?_, trivial⟩⟩, rfl, trivial⟩, trivial⟩
    · exact ⟨rfl, rfl, rfl, rfl, rfl, rfl, ⟨1, _, _, _, rfl, rfl, rfl, by decide, rfl, RowsM.of trivial⟩, rfl, rfl, rfl, trivial⟩
    · exact ⟨rfl, rfl, rfl, rfl, rfl, rfl, ⟨1, _, _, _, rfl, rfl, rfl, by decide, rfl, RowsM.of ⟨rfl, rfl, trivial⟩⟩, rfl, rfl, rfl, trivial⟩
    · exact ⟨rfl, rfl, rfl, rfl, rfl, rfl, ⟨1, _, _, _, rfl, rfl, rfl, by decide, rfl, RowsM.of ⟨rfl, trivial⟩⟩, rfl, rfl, rfl, trivial⟩
    · exact ⟨rfl, rfl, rfl, rfl, rfl, rfl, ⟨1, _, _, _, rfl, rfl, rfl, by decide, rfl, RowsM.of ⟨rfl, trivial⟩⟩, rfl, rfl, rfl, trivial⟩
    · exact ⟨rfl, rfl, rfl, rfl, rfl, rfl, ⟨1, _, _, _, rfl, rfl, rfl, by decide, rfl, RowsM.of trivial⟩, rfl, rfl, rfl, trivial⟩
    · exact ⟨rfl, rfl, rfl, rfl, rfl, rfl, ⟨1, _, _, _, rfl, rfl, rfl, by decide, rfl, RowsM.of trivial⟩, rfl, rfl, rfl, trivial⟩
def oB2 : Ans := ⟨17, [.live 10 [.agg [.lit (.int .i64 (0)), .lit (.string ⟨⟨[]⟩⟩), .lit (.string ⟨⟨[]⟩⟩), .lit (.string ⟨⟨[]⟩⟩), .sl 2 [], .lit (.int .i64 (-1)), .own 1 0 1, .lit (.int .i64 (-1)), .lit (.int .i64 (-1)), .lit (.int .i64 (0))], .agg [.lit (.int .i64 (1)), .lit (.string ⟨⟨[100, 105, 118]⟩⟩), .lit (.string ⟨⟨[]⟩⟩), .lit (.string ⟨⟨[]⟩⟩), .sl 2 [], .lit (.int .i64 (0)), .own 2 0 2, .lit (.int .i64 (-1)), .lit (.int .i64 (-1)), .lit (.int .i64 (0))], .agg [.lit (.int .i64 (1)), .lit (.string ⟨⟨[102, 111, 114, 109]⟩⟩), .lit (.string ⟨⟨[]⟩⟩), .lit (.string ⟨⟨[]⟩⟩), .sl 2 [.agg [.lit (.string ⟨⟨[105, 100]⟩⟩), .lit (.string ⟨⟨[102]⟩⟩)]], .lit (.int .i64 (1)), .own 3 0 1, .lit (.int .i64 (-1)), .lit (.int .i64 (-1)), .lit (.int .i64 (0))], .agg [.lit (.int .i64 (1)), .lit (.string ⟨⟨[112]⟩⟩), .lit (.string ⟨⟨[]⟩⟩), .lit (.string ⟨⟨[]⟩⟩), .sl 2 [], .lit (.int .i64 (2)), .own 4 0 1, .lit (.int .i64 (-1)), .lit (.int .i64 (-1)), .lit (.int .i64 (0))], .agg [.lit (.int .i64 (1)), .lit (.string ⟨⟨[105, 110, 112, 117, 116]⟩⟩), .lit (.string ⟨⟨[]⟩⟩), .lit (.string ⟨⟨[]⟩⟩), .sl 2 [], .lit (.int .i64 (3)), .own 5 0 0, .lit (.int .i64 (-1)), .lit (.int .i64 (-1)), .lit (.int .i64 (0))], .agg [.lit (.int .i64 (1)), .lit (.string ⟨⟨[105, 110, 112, 117, 116]⟩⟩), .lit (.string ⟨⟨[]⟩⟩), .lit (.string ⟨⟨[]⟩⟩), .sl 2 [.agg [.lit (.string ⟨⟨[102, 111, 114, 109]⟩⟩), .lit (.string ⟨⟨[102]⟩⟩)]], .lit (.int .i64 (1)), .own 6 0 0, .lit (.int .i64 (-1)), .lit (.int .i64 (-1)), .lit (.int .i64 (0))]] false, .live 1 [.lit (.int .i64 (1))] false, .live 1 [.lit (.int .i64 (2)), .lit (.int .i64 (5))] false, .live 1 [.lit (.int .i64 (3))] false, .live 1 [.lit (.int .i64 (4))] false, .live 1 [] false, .live 1 [] false], [.agg [.own 0 0 6, .lit (.int .i64 (9))]], [.live 10 [.agg [.lit (.int .i64 (0)), .lit (.string ⟨⟨[]⟩⟩), .lit (.string ⟨⟨[]⟩⟩), .lit (.string ⟨⟨[]⟩⟩), .sl 2 [], .lit (.int .i64 (-1)), .own 1 0 1, .lit (.int .i64 (-1)), .lit (.int .i64 (-1)), .lit (.int .i64 (0))], .agg [.lit (.int .i64 (1)), .lit (.string ⟨⟨[100, 105, 118]⟩⟩), .lit (.string ⟨⟨[]⟩⟩), .lit (.string ⟨⟨[]⟩⟩), .sl 2 [], .lit (.int .i64 (0)), .own 2 0 2, .lit (.int .i64 (-1)), .lit (.int .i64 (-1)), .lit (.int .i64 (0))], .agg [.lit (.int .i64 (1)), .lit (.string ⟨⟨[102, 111, 114, 109]⟩⟩), .lit (.string ⟨⟨[]⟩⟩), .lit (.string ⟨⟨[]⟩⟩), .sl 2 [.agg [.lit (.string ⟨⟨[105, 100]⟩⟩), .lit (.string ⟨⟨[102]⟩⟩)]], .lit (.int .i64 (1)), .own 3 0 1, .lit (.int .i64 (-1)), .lit (.int .i64 (-1)), .lit (.int .i64 (0))], .agg [.lit (.int .i64 (1)), .lit (.string ⟨⟨[112]⟩⟩), .lit (.string ⟨⟨[]⟩⟩), .lit (.string ⟨⟨[]⟩⟩), .sl 2 [], .lit (.int .i64 (2)), .own 4 0 1, .lit (.int .i64 (-1)), .lit (.int .i64 (-1)), .lit (.int .i64 (0))], .agg [.lit (.int .i64 (1)), .lit (.string ⟨⟨[105, 110, 112, 117, 116]⟩⟩), .lit (.string ⟨⟨[]⟩⟩), .lit (.string ⟨⟨[]⟩⟩), .sl 2 [], .lit (.int .i64 (3)), .own 5 0 0, .lit (.int .i64 (-1)), .lit (.int .i64 (-1)), .lit (.int .i64 (0))], .agg [.lit (.int .i64 (1)), .lit (.string ⟨⟨[105, 110, 112, 117, 116]⟩⟩), .lit (.string ⟨⟨[]⟩⟩), .lit (.string ⟨⟨[]⟩⟩), .sl 2 [.agg [.lit (.string ⟨⟨[102, 111, 114, 109]⟩⟩), .lit (.string ⟨⟨[102]⟩⟩)]], .lit (.int .i64 (1)), .own 6 0 0, .lit (.int .i64 (-1)), .lit (.int .i64 (-1)), .lit (.int .i64 (0))]] false, .live 1 [.lit (.int .i64 (1))] false, .live 1 [.lit (.int .i64 (2)), .lit (.int .i64 (5))] false, .live 1 [.lit (.int .i64 (3))] false, .live 1 [.lit (.int .i64 (4))] false, .live 1 [] false, .live 1 [] false], .lit (.bool true)⟩
theorem oB2_ok : oB2.OK Tryz.prog := by
  refine ⟨?_, c17⟩
  have h := f17_ok oG oG_small
  rw [show rightF oG = true from by kernel_rfl] at h
  have nil2 : ∀ wd, NilK (.sl wd []) := fun wd => .inr (.inr ⟨wd, rfl⟩)
  refine FnOK.thaw (args' := oB2.args) (ins := oB2.ins) (objsR 0 oB2.ins) [0, 1, 2, 3, 4, 5, 6] ?_ h rfl ?_
  · funext t
    match t with
    | 0 => rfl
    | 1 => rfl
    | 2 => rfl
    | 3 => rfl
    | 4 => rfl
    | 5 => rfl
    | 6 => rfl
    | n + 7 => rfl
  · refine ⟨⟨⟨10, _, _, _, rfl, rfl, rfl, by decide, rfl, RowsM.of ⟨?_, ?_, ?_, ?_, ?_, ?_, trivial⟩⟩, rfl, trivial⟩, trivial⟩
    · exact ⟨rfl, rfl, rfl, rfl, rfl, rfl, ⟨1, _, _, _, rfl, rfl, rfl, by decide, rfl, RowsM.of ⟨rfl, trivial⟩⟩, rfl, rfl, rfl, trivial⟩
    · exact ⟨rfl, rfl, rfl, rfl, rfl, rfl, ⟨1, _, _, _, rfl, rfl, rfl, by decide, rfl, RowsM.of ⟨rfl, rfl, trivial⟩⟩, rfl, rfl, rfl, trivial⟩
    · exact ⟨rfl, rfl, rfl, rfl, rfl, rfl, ⟨1, _, _, _, rfl, rfl, rfl, by decide, rfl, RowsM.of ⟨rfl, trivial⟩⟩, rfl, rfl, rfl, trivial⟩
    · exact ⟨rfl, rfl, rfl, rfl, rfl, rfl, ⟨1, _, _, _, rfl, rfl, rfl, by decide, rfl, RowsM.of ⟨rfl, trivial⟩⟩, rfl, rfl, rfl, trivial⟩
    · exact ⟨rfl, rfl, rfl, rfl, rfl, rfl, ⟨1, _, _, _, rfl, rfl, rfl, by decide, rfl, RowsM.of trivial⟩, rfl, rfl, rfl, trivial⟩
    · exact ⟨rfl, rfl, rfl, rfl, rfl, rfl, ⟨1, _, _, _, rfl, rfl, rfl, by decide, rfl, RowsM.of trivial⟩, rfl, rfl, rfl, trivial⟩
theorem oA_ok : ∀ r ∈ [oA0, oB0, oB1, oB2], r.OK Tryz.prog := Ans.cons oA0_ok (Ans.cons oB0_ok (Ans.cons oB1_ok (Ans.cons oB2_ok (fun _ h => by cases h))))
def oS : Ans := ⟨29, [], [.agg [.sl 10 [.agg [.lit (.int .i64 (0)), .lit (.string ⟨⟨[]⟩⟩), .lit (.string ⟨⟨[]⟩⟩), .lit (.string ⟨⟨[]⟩⟩), .sl 2 [], .lit (.int .i64 (-1)), .sl 1 [], .lit (.int .i64 (-1)), .lit (.int .i64 (-1)), .lit (.int .i64 (0))], .agg [.lit (.int .i64 (1)), .lit (.string ⟨⟨[100, 105, 118]⟩⟩), .lit (.string ⟨⟨[]⟩⟩), .lit (.string ⟨⟨[]⟩⟩), .sl 2 [], .lit (.int .i64 (-1)), .sl 1 [.lit (.int .i64 (2)), .lit (.int .i64 (5))], .lit (.int .i64 (-1)), .lit (.int .i64 (-1)), .lit (.int .i64 (0))], .agg [.lit (.int .i64 (1)), .lit (.string ⟨⟨[102, 111, 114, 109]⟩⟩), .lit (.string ⟨⟨[]⟩⟩), .lit (.string ⟨⟨[]⟩⟩), .sl 2 [.agg [.lit (.string ⟨⟨[105, 100]⟩⟩), .lit (.string ⟨⟨[102]⟩⟩)]], .lit (.int .i64 (1)), .sl 1 [.lit (.int .i64 (3))], .lit (.int .i64 (-1)), .lit (.int .i64 (-1)), .lit (.int .i64 (0))], .agg [.lit (.int .i64 (1)), .lit (.string ⟨⟨[112]⟩⟩), .lit (.string ⟨⟨[]⟩⟩), .lit (.string ⟨⟨[]⟩⟩), .sl 2 [], .lit (.int .i64 (2)), .sl 1 [.lit (.int .i64 (4))], .lit (.int .i64 (-1)), .lit (.int .i64 (-1)), .lit (.int .i64 (0))], .agg [.lit (.int .i64 (1)), .lit (.string ⟨⟨[105, 110, 112, 117, 116]⟩⟩), .lit (.string ⟨⟨[]⟩⟩), .lit (.string ⟨⟨[]⟩⟩), .sl 2 [], .lit (.int .i64 (3)), .sl 1 [], .lit (.int .i64 (-1)), .lit (.int .i64 (-1)), .lit (.int .i64 (0))], .agg [.lit (.int .i64 (1)), .lit (.string ⟨⟨[105, 110, 112, 117, 116]⟩⟩), .lit (.string ⟨⟨[]⟩⟩), .lit (.string ⟨⟨[]⟩⟩), .sl 2 [.agg [.lit (.string ⟨⟨[102, 111, 114, 109]⟩⟩), .lit (.string ⟨⟨[102]⟩⟩)]], .lit (.int .i64 (1)), .sl 1 [], .lit (.int .i64 (-1)), .lit (.int .i64 (-1)), .lit (.int .i64 (0))]], .lit (.int .i64 (9))], .lit (.int .i64 (1)), .lit (.int .i64 (0)), .lit (.int .i64 (-1))], [.live 10 [.agg [.lit (.int .i64 (0)), .lit (.string ⟨⟨[]⟩⟩), .lit (.string ⟨⟨[]⟩⟩), .lit (.string ⟨⟨[]⟩⟩), .sl 2 [], .lit (.int .i64 (-1)), .own 2 0 1, .lit (.int .i64 (-1)), .lit (.int .i64 (-1)), .lit (.int .i64 (0))], .agg [.lit (.int .i64 (1)), .lit (.string ⟨⟨[100, 105, 118]⟩⟩), .lit (.string ⟨⟨[]⟩⟩), .lit (.string ⟨⟨[]⟩⟩), .sl 2 [], .lit (.int .i64 (0)), .own 3 0 2, .lit (.int .i64 (-1)), .lit (.int .i64 (-1)), .lit (.int .i64 (0))], .agg [.lit (.int .i64 (1)), .lit (.string ⟨⟨[102, 111, 114, 109]⟩⟩), .lit (.string ⟨⟨[]⟩⟩), .lit (.string ⟨⟨[]⟩⟩), .sl 2 [.agg [.lit (.string ⟨⟨[105, 100]⟩⟩), .lit (.string ⟨⟨[102]⟩⟩)]], .lit (.int .i64 (1)), .own 4 0 1, .lit (.int .i64 (-1)), .lit (.int .i64 (-1)), .lit (.int .i64 (0))], .agg [.lit (.int .i64 (1)), .lit (.string ⟨⟨[112]⟩⟩), .lit (.string ⟨⟨[]⟩⟩), .lit (.string ⟨⟨[]⟩⟩), .sl 2 [], .lit (.int .i64 (2)), .own 5 0 1, .lit (.int .i64 (-1)), .lit (.int .i64 (-1)), .lit (.int .i64 (0))], .agg [.lit (.int .i64 (1)), .lit (.string ⟨⟨[105, 110, 112, 117, 116]⟩⟩), .lit (.string ⟨⟨[]⟩⟩), .lit (.string ⟨⟨[]⟩⟩), .sl 2 [], .lit (.int .i64 (3)), .own 6 0 0, .lit (.int .i64 (-1)), .lit (.int .i64 (-1)), .lit (.int .i64 (0))], .agg [.lit (.int .i64 (1)), .lit (.string ⟨⟨[105, 110, 112, 117, 116]⟩⟩), .lit (.string ⟨⟨[]⟩⟩), .lit (.string ⟨⟨[]⟩⟩), .sl 2 [.agg [.lit (.string ⟨⟨[102, 111, 114, 109]⟩⟩), .lit (.string ⟨⟨[102]⟩⟩)]], .lit (.int .i64 (1)), .own 7 0 0, .lit (.int .i64 (-1)), .lit (.int .i64 (-1)), .lit (.int .i64 (0))]] false, .live 9 [.agg [.lit (.int .i64 (1)), .lit (.int .i64 (1)), .lit (.int .i64 (0)), .lit (.int .i64 (0)), .lit (.string ⟨⟨[]⟩⟩), .lit (.bool false), .lit (.bool false), .lit (.string ⟨⟨[]⟩⟩), .lit (.string ⟨⟨[]⟩⟩)], .agg [.lit (.int .i64 (1)), .lit (.int .i64 (2)), .lit (.int .i64 (0)), .lit (.int .i64 (0)), .lit (.string ⟨⟨[]⟩⟩), .lit (.bool false), .lit (.bool false), .lit (.string ⟨⟨[]⟩⟩), .lit (.string ⟨⟨[]⟩⟩)], .agg [.lit (.int .i64 (1)), .lit (.int .i64 (3)), .lit (.int .i64 (0)), .lit (.int .i64 (0)), .lit (.string ⟨⟨[]⟩⟩), .lit (.bool false), .lit (.bool false), .lit (.string ⟨⟨[]⟩⟩), .lit (.string ⟨⟨[]⟩⟩)], .agg [.lit (.int .i64 (1)), .lit (.int .i64 (4)), .lit (.int .i64 (0)), .lit (.int .i64 (0)), .lit (.string ⟨⟨[]⟩⟩), .lit (.bool false), .lit (.bool false), .lit (.string ⟨⟨[]⟩⟩), .lit (.string ⟨⟨[]⟩⟩)], .agg [.lit (.int .i64 (1)), .lit (.int .i64 (5)), .lit (.int .i64 (0)), .lit (.int .i64 (0)), .lit (.string ⟨⟨[]⟩⟩), .lit (.bool false), .lit (.bool false), .lit (.string ⟨⟨[]⟩⟩), .lit (.string ⟨⟨[]⟩⟩)]] false, .live 1 [.lit (.int .i64 (1))] false, .live 1 [.lit (.int .i64 (2)), .lit (.int .i64 (5))] false, .live 1 [.lit (.int .i64 (3))] false, .live 1 [.lit (.int .i64 (4))] false, .live 1 [] false, .live 1 [] false], .tup [.agg [.own 0 0 6, .lit (.int .i64 (9))], .own 1 0 5, .lit (.int .i64 (0))]⟩
theorem oS_run : runF (envC.moreS [oA0, oB0, oB1, oB2]) 1000 60 oS.g oS.ins oS.args = some (oS.outs, oS.res) := by kernel_rfl
theorem oS_ok : oS.OK Tryz.prog := Ans.of (EEnv.moreS_good envC_good oA_ok) oS_run
def oNo : AV := .sl 9 [.agg [.lit (.int .i64 (1)), .lit (.int .i64 (1)), .lit (.int .i64 (0)), .lit (.int .i64 (0)), .lit (.string ⟨⟨[]⟩⟩), .lit (.bool false), .lit (.bool false), .lit (.string ⟨⟨[]⟩⟩), .lit (.string ⟨⟨[]⟩⟩)], .agg [.lit (.int .i64 (1)), .lit (.int .i64 (2)), .lit (.int .i64 (0)), .lit (.int .i64 (0)), .lit (.string ⟨⟨[]⟩⟩), .lit (.bool false), .lit (.bool false), .lit (.string ⟨⟨[]⟩⟩), .lit (.string ⟨⟨[]⟩⟩)], .agg [.lit (.int .i64 (1)), .lit (.int .i64 (3)), .lit (.int .i64 (0)), .lit (.int .i64 (0)), .lit (.string ⟨⟨[]⟩⟩), .lit (.bool false), .lit (.bool false), .lit (.string ⟨⟨[]⟩⟩), .lit (.string ⟨⟨[]⟩⟩)], .agg [.lit (.int .i64 (1)), .lit (.int .i64 (4)), .lit (.int .i64 (0)), .lit (.int .i64 (0)), .lit (.string ⟨⟨[]⟩⟩), .lit (.bool false), .lit (.bool false), .lit (.string ⟨⟨[]⟩⟩), .lit (.string ⟨⟨[]⟩⟩)], .agg [.lit (.int .i64 (1)), .lit (.int .i64 (5)), .lit (.int .i64 (0)), .lit (.int .i64 (0)), .lit (.string ⟨⟨[]⟩⟩), .lit (.bool false), .lit (.bool false), .lit (.string ⟨⟨[]⟩⟩), .lit (.string ⟨⟨[]⟩⟩)]]
theorem oins_ok : FnOK Tryz.prog 29 [] [eFor oF, eInt 1, eInt 0, eInt (-1)] [] (.tup [eFor oG, oNo, eInt 0]) := by
  have h := oS_ok.1
  have nil2 : ∀ wd, NilK (.sl wd []) := fun wd => .inr (.inr ⟨wd, rfl⟩)
  refine FnOK.frozen (objsR 0 oS.outs) ?_ (by kernel_rfl) h ?_
  · funext t
    match t with
    | 0 => rfl
    | 1 => rfl
    | 2 => rfl
    | 3 => rfl
    | 4 => rfl
    | 5 => rfl
    | 6 => rfl
    | 7 => rfl
    | n + 8 => rfl
  · refine ⟨⟨⟨10, _, _, _, rfl, rfl, rfl, by decide, rfl, RowsM.of ⟨?_, ?_, ?_, ?_, ?_, ?_, trivial⟩⟩, rfl, trivial⟩, ⟨9, _, _, _, rfl, rfl, rfl, by decide, rfl, RowsM.of ⟨⟨rfl, rfl, rfl, rfl, rfl, rfl, rfl, rfl, rfl, trivial⟩, ⟨rfl, rfl, rfl, rfl, rfl, rfl, rfl, rfl, rfl, trivial⟩, ⟨rfl, rfl, rfl, rfl, rfl, rfl, rfl, rfl, rfl, trivial⟩, ⟨rfl, rfl, rfl, rfl, rfl, rfl, rfl, rfl, rfl, trivial⟩, ⟨rfl, rfl, rfl, rfl, rfl, rfl, rfl, rfl, rfl, trivial⟩, trivial⟩⟩, rfl, trivial⟩
    · exact ⟨rfl, rfl, rfl, rfl, rfl, rfl, ⟨1, _, _, _, rfl, rfl, rfl, by decide, rfl, RowsM.of ⟨rfl, trivial⟩⟩, rfl, rfl, rfl, trivial⟩
    · exact ⟨rfl, rfl, rfl, rfl, rfl, rfl, ⟨1, _, _, _, rfl, rfl, rfl, by decide, rfl, RowsM.of ⟨rfl, rfl, trivial⟩⟩, rfl, rfl, rfl, trivial⟩
    · exact ⟨rfl, rfl, rfl, rfl, rfl, rfl, ⟨1, _, _, _, rfl, rfl, rfl, by decide, rfl, RowsM.of ⟨rfl, trivial⟩⟩, rfl, rfl, rfl, trivial⟩
    · exact ⟨rfl, rfl, rfl, rfl, rfl, rfl, ⟨1, _, _, _, rfl, rfl, rfl, by decide, rfl, RowsM.of ⟨rfl, trivial⟩⟩, rfl, rfl, rfl, trivial⟩
    · exact ⟨rfl, rfl, rfl, rfl, rfl, rfl, ⟨1, _, _, _, rfl, rfl, rfl, by decide, rfl, RowsM.of trivial⟩, rfl, rfl, rfl, trivial⟩
    · exact ⟨rfl, rfl, rfl, rfl, rfl, rfl, ⟨1, _, _, _, rfl, rfl, rfl, by decide, rfl, RowsM.of trivial⟩, rfl, rfl, rfl, trivial⟩
theorem o38a : FnOK Tryz.prog 49 [] [eFor oF, eInt 4] [] (eInt 2) := by
  have h := f49_ok oF oF_small 4
  rwa [show ownF oF 4 = 2 from by kernel_rfl] at h
theorem o38b : FnOK Tryz.prog 49 [] [eFor oF, eInt 5] [] (eInt (-1)) := by
  have h := f49_ok oF oF_small 5
  rwa [show ownF oF 5 = -1 from by kernel_rfl] at h
theorem o38c : FnOK Tryz.prog 49 [] [eFor oG, eInt 5] [] (eInt 2) := by
  have h := f49_ok oG oG_small 5
  rwa [show ownF oG 5 = 2 from by kernel_rfl] at h
theorem o43 : FnOK Tryz.prog 103 [] [eFor oG, eInt 2] [] (eInts [3, 4, 5]) := by
  have h := f103_ok oG oG_small 2
  rwa [show memV oG 2 = [3, 4, 5] from by kernel_rfl] at h
theorem o42 : FnOK Tryz.prog 50 [] [eFor oG] [] (eInts (allF oG)) := f50_ok oG oG_small
theorem o42l : ((allF oG).map oInt).length = 6 := by rw [List.length_map]; kernel_rfl
theorem o45 : FnOK Tryz.prog 25 [] [eInts [3, 4, 5], eInts [3, 4, 5]] [] (eBool true) := by
  have h := f25_ok [3, 4, 5] [3, 4, 5] (by decide)
  rwa [decide_eq_true rfl] at h
theorem f48_ok : FnOK Tryz.prog 48 [] [] [] (eBool true) := by
  refine FnOK.startC (rvs := [.tmp 0]) G G_good Tryz.func48 rfl Tryz.ntmps48 rfl rfl ?_; with_reducible refine wD ?_
  refine CallK.val [] ofresh_ok c54 ⟨rfl, rfl, trivial⟩ rfl rfl rfl ?_; with_reducible refine wK ?_
  repeat' (first
    | refine gK ?_
    | (((with_reducible show CallK _ _ 29 _ _ _ _); refine CallK.val [] oins_ok c29 ⟨⟨rfl, rfl, trivial⟩, rfl, rfl, rfl, trivial⟩ rfl rfl rfl ?_) <;> with_reducible refine wK ?_)
    | ((with_reducible show (_ ∧ _) ∧ _ ∧ _); (refine eK ?_ ?_ <;> with_reducible repeat' (first | exact trivial | (show _ ∧ _; refine aK ?_ ?_)))))
  (have fct := o42l; (repeat' (first
    | refine gF ?_
    | ((first
      | ((with_reducible show CallK _ _ 49 _ _ _ _); first | refine CallK.lit [] o38a c49 ⟨⟨rfl, rfl, trivial⟩, rfl, trivial⟩ rfl rfl ?_ | refine CallK.lit [] o38b c49 ⟨⟨rfl, rfl, trivial⟩, rfl, trivial⟩ rfl rfl ?_ | refine CallK.lit [] o38c c49 ⟨⟨rfl, rfl, trivial⟩, rfl, trivial⟩ rfl rfl ?_)
      | ((with_reducible show CallK _ _ 103 _ _ _ _); refine CallK.val [] o43 c103 ⟨⟨rfl, rfl, trivial⟩, rfl, trivial⟩ rfl rfl rfl ?_)
      | ((with_reducible show CallK _ _ 25 _ _ _ _); refine CallK.lit [431] o45 c25 ⟨rfl, frz_ints (l := [3, 4, 5]) rfl rfl rfl rfl, trivial⟩ rfl rfl ?_)
      | ((with_reducible show CallK _ _ 50 _ _ _ _); refine CallK.val [] o42 c50 ⟨⟨rfl, rfl, trivial⟩, trivial⟩ rfl rfl rfl ?_)
      | ((with_reducible show DrawK _ _ _ _); refine dK ?_)) <;> with_reducible refine wK ?_)
    | ((with_reducible show (_ ∧ _) ∧ _ ∧ _); (refine eK ?_ ?_ <;> with_reducible repeat' (first | exact trivial | (show _ ∧ _; refine aK ?_ ?_)))))); all_goals clear fct)
  all_goals first | rfl | trace_state
end Go.Proofs.Heir
section
namespace Go.Proofs.Heir
open Go Go.Am Go.RowKit Go.Lib
set_option maxRecDepth 100000
theorem f20_ok (f : ForM) (hs : SmallN f.nodes) (hr : rightF f = true) (a b : Int) (ha : thereN f.nodes a = true) (hb : thereN f.nodes b = true) : FnOK Tryz.prog 20 [] [eFor f, eInt a, eInt b] [] (eBool (holdsN f.nodes a b)) := by
  have T := tree_of hr
  have h25 := f63_ok f hs [a, b] (by simp)
  have h0 : idxI (fun n => !thereN f.nodes n) [a, b] = -1 := idxI_none fun j x hx => by
    have : x ∈ [a, b] := List.mem_of_getElem? hx
    simp only [List.mem_cons, List.not_mem_nil, or_false] at this
    rcases this with rfl | rfl
    · rw [ha]; rfl
    · rw [hb]; rfl
  rw [h0, hr, show (true && !decide ((0 : Int) ≤ -1)) = true from rfl] at h25
  unfold holdsN
  have hstep := fun n h1 h2 => way_step T (n := n) h1 h2
  have hself := fun n h1 => way_self T (n := n) h1
  have htop := fun n h1 h2 => way_top T (n := n) h1 h2
  have hpar : ∀ n, thereN f.nodes n = true → (nd f.nodes n).parent = -1 ∨ thereN f.nodes (nd f.nodes n).parent = true := fun n hn => by
    by_cases h : (nd f.nodes n).parent = -1
    · exact .inl h
    · exact .inr (T.par n hn h).1
  obtain ⟨l, m⟩ := f
  simp only at h25 hb hstep htop hself hpar ha ⊢
  refine FnOK.startC (rvs := [.tmp 6]) G G_good Tryz.func20 rfl Tryz.ntmps20 rfl rfl ?_; with_reducible refine wD ?_
  refine CallK.lit [101] h25 c63 ⟨⟨rfl, rfl, trivial⟩, ⟨_, _, _, _, rfl, rfl, rfl, Nat.le_refl _, rfl, .refl rfl⟩, trivial⟩ rfl rfl ?_; with_reducible refine wK ?_
  refine IfK.no rfl ?_; with_reducible refine wK ?_
  refine LoopK.use G G_good (fun (c : Int) => [(1, eInt a), (2, eInt c), (3, .ptr 30 0 0)]) (fun _ => [(30, .live 2 [eFor ⟨l, m⟩] false)])
    (fun c => (c = -1 ∨ thereN l c = true) ∧ (a ∈ wayN l b ↔ (c ≠ -1 ∧ a ∈ wayN l c))) (fun c => if c = -1 then 0 else (wayN l c).length) b ⟨.inr hb, ⟨fun h => ⟨by have := there_pos hb; omega, h⟩, fun h => h.2⟩⟩
    ⟨⟨rfl, rfl⟩, ⟨rfl, rfl, ⟨rfl, rfl⟩, trivial⟩, ⟨⟨rfl, rfl, trivial⟩, trivial⟩, trivial⟩ ?_
  rintro c ⟨hc, hiff⟩
  with_reducible refine wK ?_
  have ha0 := there_pos ha
  by_cases ec : c = -1
  · subst ec
    have hno : decide (a ∈ wayN l b) = false := decide_eq_false fun h => (hiff.1 h).1 rfl
    rw [hno]
    have hna : ¬ -1 = a := by omega
    (have fct := (eq_false hna); (repeat' (first
    | refine gF ?_
    | ((with_reducible show (_ ∧ _) ∧ _ ∧ _); (refine eK ?_ ?_ <;> with_reducible repeat' (first | exact trivial | (show _ ∧ _; refine aK ?_ ?_)))))); all_goals clear fct)
    all_goals simp [hna]
  · have hct := hc.resolve_left ec
    by_cases ea : c = a
    · subst ea
      have hyes : decide (c ∈ wayN l b) = true := decide_eq_true (hiff.2 ⟨ec, hself c hct⟩)
      rw [hyes]
      (have fct := (eq_false ec); (repeat' (first
    | refine gF ?_
    | ((with_reducible show (_ ∧ _) ∧ _ ∧ _); (refine eK ?_ ?_ <;> with_reducible repeat' (first | exact trivial | (show _ ∧ _; refine aK ?_ ?_)))))); all_goals clear fct)
      all_goals simp
    · obtain ⟨i, y, e, hy, hny⟩ := there_iff.1 hct
      have hpc := hpar c hct
      have hst := hstep c hct
      have htp := htop c hct
      rw [hny] at hpc hst htp
      obtain ⟨b1, b2, b3, b4, b5, b6, b7, b8, b9, b10⟩ := y
      simp only at hpc hst htp
      have hni : (a ∈ wayN l b ↔ (b6 ≠ -1 ∧ a ∈ wayN l b6)) ∧ (if b6 = -1 then 0 else (wayN l b6).length) < (if c = -1 then 0 else (wayN l c).length) := by
        rw [if_neg ec]
        by_cases e6 : b6 = -1
        · rw [htp e6, if_pos e6]
          refine ⟨?_, by simp⟩
          rw [hiff, htp e6]
          constructor
          · rintro ⟨_, h⟩; rw [List.mem_singleton] at h; exact absurd h.symm ea
          · rintro ⟨h, _⟩; exact absurd e6 h
        · rw [hst e6, if_neg e6]
          refine ⟨?_, by simp⟩
          rw [hiff, hst e6, List.mem_cons]
          constructor
          · rintro ⟨_, h | h⟩
            · exact absurd h.symm ea
            · exact ⟨e6, h⟩
          · rintro ⟨_, h⟩; exact ⟨ec, .inr h⟩
      (have fct := And.intro (eq_false ec) ((eq_false ea)); (repeat' (first
    | refine gF ?_
    | ((first
      | (refine IdxK.mk i (eNode ⟨b1, b2, b3, b4, b5, b6, b7, b8, b9, b10⟩) e (node_get hy) ?_)
      | ((with_reducible show NextK _ _); refine NextK.mk b6 ⟨hpc, hni.1⟩ hni.2 ⟨⟨rfl, rfl⟩, ⟨rfl, rfl, ⟨rfl, rfl⟩, trivial⟩, ⟨⟨rfl, rfl, trivial⟩, trivial⟩, trivial⟩)) <;> with_reducible refine wK ?_)
    | ((with_reducible show (_ ∧ _) ∧ _ ∧ _); (refine eK ?_ ?_ <;> with_reducible repeat' (first | exact trivial | (show _ ∧ _; refine aK ?_ ?_)))))); all_goals clear fct)
set_option maxHeartbeats 8000000
end Go.Proofs.Heir
end
namespace Go.Proofs.Heir
open Go Go.Am Go.RowKit Go.Lib
set_option maxRecDepth 100000
set_option maxHeartbeats 8000000
set_option maxHeartbeats 2000000
section
variable {l l' : List NodeM} {m : Int}
theorem way_anti (T : Tree l) {a b : Int} (ha : thereN l a = true) (hb : thereN l b = true) (h1 : a ∈ wayN l b) (h2 : b ∈ wayN l a) : a = b := by
  obtain ⟨t, ht⟩ := way_cut T b hb a h1
  obtain ⟨s, hs⟩ := way_cut T a ha b h2
  have e1 := congrArg List.length ht
  have e2 := congrArg List.length hs
  rw [List.length_append] at e1 e2
  have : t = [] := List.length_eq_zero_iff.1 (by omega)
  rw [this, List.nil_append] at ht
  obtain ⟨r1, q1⟩ := way_head T ha
  obtain ⟨r2, q2⟩ := way_head T hb
  rw [q1, q2] at ht
  exact (List.cons.inj ht).1.symm
theorem way_comp (T : Tree l) {a b k : Int} (hk : thereN l k = true) (ha : a ∈ wayN l k) (hb : b ∈ wayN l k) : a ∈ wayN l b ∨ b ∈ wayN l a := by
  obtain ⟨t, ht⟩ := way_cut T k hk a ha
  obtain ⟨s, hs⟩ := way_cut T k hk b hb
  have hat := way_there T k hk a ha
  have hbt := way_there T k hk b hb
  rw [ht] at hs
  rcases List.append_eq_append_iff.1 hs with ⟨c, _, h⟩ | ⟨c, _, h⟩
  · right; rw [h]; exact List.mem_append_right _ (way_self T hbt)
  · left; rw [h]; exact List.mem_append_right _ (way_self T hat)
theorem way_nodup (T : Tree l) {k : Int} (hk : thereN l k = true) : (wayN l k).Nodup := by
  unfold wayN
  rw [chP_G]
  exact dupG (by rw [← finP_G]; exact T.fin k hk)
theorem out_wayP (R : RF l m) {n k : Int} (hn : thereN l n = true) (hk : thereN l k = true) (h : n ∉ wayN l k) : wayN (outL l n) k = wayN l k := by
  have T := R.ptree
  unfold wayN at h ⊢
  rw [chP_G] at h
  rw [chP_G, chP_G, len_out]
  refine (fin_avoid (P := fun x => thereN l x = true) (k := n) (g := fun n => (nd l n).parent) (g' := fun x => (nd (outL l n) x).parent) (fun x hx hne => ?_) (fun y hy h => (R.par y hy h).2.1) hk (by rw [← finP_G]; exact T.fin k hk) h).2
  show (nd (outL l n) x).parent = (nd l x).parent
  rw [(out_like R hn x hx).2.2.1, if_neg hne]
theorem out_prefix (R : RF l m) {n : Int} (hn : thereN l n = true) (hp : (nd l n).parent ≠ -1) : ∀ k, thereN l k = true → n ∈ wayN l k → ∃ t, wayN l k = t ++ wayN l n ∧ wayN (outL l n) k = t ++ [n] := by
  have T := R.ptree
  have T1 := (out_right R hn).ptree
  have Q := there_len (len_out l n)
  have L := out_like R hn
  refine up_ind T (P := fun k => n ∈ wayN l k → ∃ t, wayN l k = t ++ wayN l n ∧ wayN (outL l n) k = t ++ [n]) (fun k hk hu hw => ?_) (fun k hk hu hq ih hw => ?_)
  · rw [way_top T hk hu, List.mem_singleton] at hw
    rw [← hw] at hu; exact absurd hu hp
  · by_cases e : k = n
    · subst e
      refine ⟨[], rfl, ?_⟩
      rw [way_top T1 (by rw [Q]; exact hk) (by rw [(L k hk).2.2.1, if_pos rfl])]; rfl
    · rw [way_step T hk hu] at hw
      obtain ⟨t, h1, h2⟩ := ih ((List.mem_cons.1 hw).resolve_left fun q => e q.symm)
      have hpk : (nd (outL l n) k).parent = (nd l k).parent := by rw [(L k hk).2.2.1, if_neg e]
      refine ⟨k :: t, by rw [way_step T hk hu, h1]; rfl, ?_⟩
      rw [way_step T1 (by rw [Q]; exact hk) (by rw [hpk]; exact hu), hpk, h2]; rfl
theorem form_like {x y : NodeM} (h : LikeN x y) : isForm x = isForm y := by unfold isForm; rw [h.kind, h.name]
theorem find_cg {q p : Int → Bool} : ∀ {cs : List Int}, (∀ c ∈ cs, q c = p c) → cs.find? q = cs.find? p
  | [], _ => rfl
  | a :: r, h => by rw [List.find?_cons, List.find?_cons, h a List.mem_cons_self, find_cg fun c hc => h c (List.mem_cons_of_mem _ hc)]
theorem near_moves (R : RF l m) {n : Int} (hn : thereN l n = true) (hp : (nd l n).parent ≠ -1) {k : Int} (hk : thereN l k = true) :
    (n ∉ wayN l k → nearN (outL l n) k = nearN l k) ∧ (n ∈ wayN l k → nearN (outL l n) k = if nearN l k ≠ -1 ∧ n ∈ wayN l (nearN l k) then nearN l k else -1) := by
  have T := R.ptree
  have L := out_like R hn
  have hq : ∀ c, thereN l c = true → isForm (nd (outL l n) c) = isForm (nd l c) := fun c hc => form_like (L c hc).1
  refine ⟨fun h => ?_, fun h => ?_⟩
  · unfold nearN nearBy
    rw [out_wayP R hn hk h, find_cg fun c hc => hq c (way_there T k hk c (List.mem_of_mem_tail hc))]
  · obtain ⟨t, h1, h2⟩ := out_prefix R hn hp k hk h
    have hnd := way_nodup T hk
    have hwt := way_there T k hk
    unfold nearN nearBy
    rw [h2]
    have e1 : (t ++ [n]).tail.find? (fun p => isForm (nd (outL l n) p)) = (t ++ [n]).tail.find? (fun p => isForm (nd l p)) := find_cg fun c hc => hq c (by
      rcases List.mem_append.1 (List.mem_of_mem_tail hc) with q | q
      · exact hwt c (by rw [h1]; exact List.mem_append_left _ q)
      · rw [List.mem_singleton.1 q]; exact hn)
    rw [e1, h1]
    obtain ⟨r, hr⟩ := way_head T hn
    have habove : ∀ y ∈ r, ¬ n ∈ wayN l y := fun y hy hw => by
      have hyw : y ∈ wayN l n := by rw [hr]; exact List.mem_cons_of_mem _ hy
      have := way_anti T hn (way_there T n hn y hyw) hw hyw
      rw [h1, hr] at hnd
      have h3 := (List.nodup_append.1 hnd).2.1
      rw [List.nodup_cons] at h3
      exact h3.1 (this ▸ hy)
    cases t with
    | nil =>
      rw [hr]
      show (([] : List Int).find? _).getD (-1) = if (r.find? fun p => isForm (nd l p)).getD (-1) ≠ -1 ∧ n ∈ wayN l ((r.find? fun p => isForm (nd l p)).getD (-1)) then _ else _
      cases e : r.find? fun p => isForm (nd l p) with
      | none => rw [if_neg (fun q => q.1 rfl)]; rfl
      | some y =>
        have hno : ¬ ((some y).getD (-1) ≠ -1 ∧ n ∈ wayN l ((some y).getD (-1))) := fun q => habove y (List.mem_of_find?_eq_some e) q.2
        rw [if_neg hno]; rfl
    | cons x t =>
      show ((t ++ [n]).find? _).getD (-1) = if ((t ++ wayN l n).find? fun p => isForm (nd l p)).getD (-1) ≠ -1 ∧ n ∈ wayN l (((t ++ wayN l n).find? fun p => isForm (nd l p)).getD (-1)) then ((t ++ wayN l n).find? fun p => isForm (nd l p)).getD (-1) else -1
      rw [List.find?_append, List.find?_append]
      cases e : t.find? fun p => isForm (nd l p) with
      | some y =>
        have hyt := List.mem_of_find?_eq_some e
        have hyk : y ∈ wayN l k := by rw [h1]; exact List.mem_append_left _ (List.mem_cons_of_mem _ hyt)
        have hyn : y ∉ wayN l n := fun q => by
          rw [h1] at hnd
          exact (List.nodup_append.1 hnd).2.2 y (List.mem_cons_of_mem _ hyt) y q rfl
        have hw : n ∈ wayN l y := (way_comp T hk h hyk).resolve_right hyn
        have h0 := there_pos (hwt y hyk)
        show y = if y ≠ -1 ∧ n ∈ wayN l y then y else -1
        rw [if_pos ⟨by omega, hw⟩]
      | none =>
        rw [hr]
        show (([n].find? fun p => isForm (nd l p))).getD (-1) = if ((n :: r).find? fun p => isForm (nd l p)).getD (-1) ≠ -1 ∧ n ∈ wayN l (((n :: r).find? fun p => isForm (nd l p)).getD (-1)) then ((n :: r).find? fun p => isForm (nd l p)).getD (-1) else -1
        rw [List.find?_cons, List.find?_cons]
        cases eq : isForm (nd l n) with
        | true =>
          have h0 := there_pos hn
          show n = if n ≠ -1 ∧ n ∈ wayN l n then n else -1
          rw [if_pos ⟨by omega, way_self T hn⟩]
        | false =>
          show (-1 : Int) = if (r.find? fun p => isForm (nd l p)).getD (-1) ≠ -1 ∧ n ∈ wayN l ((r.find? fun p => isForm (nd l p)).getD (-1)) then _ else -1
          cases e2 : r.find? fun p => isForm (nd l p) with
          | none => rw [if_neg (fun q => q.1 rfl)]
          | some y =>
            show (-1 : Int) = if y ≠ -1 ∧ n ∈ wayN l y then y else -1
            rw [if_neg (fun q => habove y (List.mem_of_find?_eq_some e2) q.2)]
theorem att_like {x y : NodeM} (h : LikeN x y) (w : ByteArray) : attV x w = attV y w := by unfold attV; rw [h.attrs]
theorem moves_law (R : RF l m) {n : Int} (hn : thereN l n = true) (hp : (nd l n).parent ≠ -1) {k : Int} (hk : thereN l k = true) (h1 : (nd l k).kind = 1) (ha : attV (nd l k) formW = none) :
    (n ∉ wayN l k → ownN (outL l n) k = ownN l k) ∧ (n ∈ wayN l k → ownN (outL l n) k = if ownN l k ≠ -1 ∧ n ∈ wayN l (ownN l k) then ownN l k else -1) := by
  have L := out_like R hn k hk
  have e1 : ownN l k = nearN l k := own_near ⟨h1, .inl ha⟩
  have e2 : ownN (outL l n) k = nearN (outL l n) k := own_near ⟨by rw [L.1.kind]; exact h1, .inl (by rw [att_like L.1]; exact ha)⟩
  rw [e1, e2]
  exact near_moves R hn hp hk
end
section
variable {l l' : List NodeM} {m : Int}
end
end Go.Proofs.Heir
section
namespace Go.Proofs.Heir
open Go Go.Am Go.RowKit Go.Lib
set_option maxRecDepth 100000
set_option maxHeartbeats 8000000
variable {l l' : List NodeM} {m : Int}
theorem near_in (R : RF l m) {n : Int} (hn : thereN l n = true) : nearN l n = -1 ∨ (nearN l n ∈ wayN l n ∧ thereN l (nearN l n) = true) := by
  have T := R.ptree
  rcases near_spec T (fun p => isForm (nd l p)) n hn with h | h
  · exact .inl h.1
  · exact .inr ⟨h.1, way_there T n hn _ h.1⟩
end Go.Proofs.Heir
end
section
namespace Go.Proofs.Heir
open Go Go.Am Go.RowKit Go.Lib
set_option maxRecDepth 100000
set_option maxHeartbeats 8000000
variable {l l' : List NodeM} {m : Int}
theorem f12_ok (f : ForM) (a : Int) (ha : 0 ≤ a ∧ a < 256) : FnOK Tryz.prog 12 [] [eFor f, .lit (.int .u8 a)] [] (eBool true) := by
  have h48 := f48_ok
  have h16 := f16_ok f
  cases hsh : shortF f with
  | false =>
    rw [hsh] at h16
    obtain ⟨l, m⟩ := f
    refine FnOK.startC (rvs := [.tmp 4]) G G_good Tryz.func12 rfl Tryz.ntmps12 rfl rfl ?_; with_reducible refine wD ?_
    repeat' (first
    | refine gK ?_
    | ((first
      | ((with_reducible show CallK _ _ 48 _ _ _ _); refine CallK.lit [] h48 c48 trivial rfl rfl ?_)
      | ((with_reducible show CallK _ _ 16 _ _ _ _); refine CallK.lit [] h16 c16 ⟨⟨rfl, rfl, trivial⟩, trivial⟩ rfl rfl ?_)) <;> with_reducible refine wK ?_)
    | ((with_reducible show (_ ∧ _) ∧ _ ∧ _); (refine eK ?_ ?_ <;> with_reducible repeat' (first | exact trivial | (show _ ∧ _; refine aK ?_ ?_)))))
    all_goals rfl
  | true =>
    rw [hsh] at h16
    have hs := shortF_small hsh
    have h17 := f17_ok f hs
    cases hr : rightF f with
    | false =>
      rw [hr] at h17
      obtain ⟨l, m⟩ := f
      refine FnOK.startC (rvs := [.tmp 4]) G G_good Tryz.func12 rfl Tryz.ntmps12 rfl rfl ?_; with_reducible refine wD ?_
      repeat' (first
    | refine gK ?_
    | ((first
      | ((with_reducible show CallK _ _ 48 _ _ _ _); refine CallK.lit [] h48 c48 trivial rfl rfl ?_)
      | ((with_reducible show CallK _ _ 16 _ _ _ _); refine CallK.lit [] h16 c16 ⟨⟨rfl, rfl, trivial⟩, trivial⟩ rfl rfl ?_)
      | ((with_reducible show CallK _ _ 17 _ _ _ _); refine CallK.lit [] h17 c17 ⟨⟨rfl, rfl, trivial⟩, trivial⟩ rfl rfl ?_)) <;> with_reducible refine wK ?_)
    | ((with_reducible show (_ ∧ _) ∧ _ ∧ _); (refine eK ?_ ?_ <;> with_reducible repeat' (first | exact trivial | (show _ ∧ _; refine aK ?_ ?_)))))
      all_goals rfl
    | true =>
      rw [hr] at h17
      have hpos : 1 ≤ f.nodes.length := by
        have h0 := hr
        unfold rightF headOK at h0
        simp only [Bool.and_eq_true, decide_eq_true_eq] at h0
        exact h0.1.1.1.2
      obtain ⟨l, m⟩ := f
      have R : RF l m := rf_iff.1 hr
      simp only at hpos
      have h60 : l.length ≤ 60 := by
        have := hsh; rw [short_eq] at this; simp only [Bool.and_eq_true, decide_eq_true_eq] at this; exact this.1
      have hlm : (l.map oNode).length = l.length := List.length_map ..
      obtain ⟨i, x, hni, hx, hnx⟩ := node_at (l := l) (n := a % ((l.map oNode).length : Int)) (by rw [hlm]; exact ⟨Int.emod_nonneg _ (by omega), Int.emod_lt_of_pos _ (by omega)⟩)
      have ht := there_get hx
      have hcx := nd_get hx
      have h32 := f32_ok ⟨l, m⟩ hs (i : Int)
      by_cases hp : (nd l i).parent = -1
      · rw [removeM_no R ht hp] at h32
        refine FnOK.startC (rvs := [.tmp 4]) G G_good Tryz.func12 rfl Tryz.ntmps12 rfl rfl ?_; with_reducible refine wD ?_
        (have fct := hlm; (repeat' (first
    | refine gF ?_
    | ((first
      | ((with_reducible show CallK _ _ 48 _ _ _ _); refine CallK.lit [] h48 c48 trivial rfl rfl ?_)
      | ((with_reducible show CallK _ _ 16 _ _ _ _); refine CallK.lit [] h16 c16 ⟨⟨rfl, rfl, trivial⟩, trivial⟩ rfl rfl ?_)
      | ((with_reducible show CallK _ _ 17 _ _ _ _); refine CallK.lit [] h17 c17 ⟨⟨rfl, rfl, trivial⟩, trivial⟩ rfl rfl ?_)
      | (refine ConvK.int (by kernel_rfl) (by kernel_rfl) (wrap_u8 ha) ?_)
      | (refine HandK.rem ha.1 (by (try simp only [castN]); omega) rfl rfl rfl rfl ?_)
      | ((with_reducible show CallK _ _ 32 _ _ _ _); rw [hni]; refine CallK.val [] h32 c32 ⟨⟨rfl, rfl, trivial⟩, rfl, trivial⟩ rfl rfl rfl ?_)) <;> with_reducible refine wK ?_)
    | ((with_reducible show (_ ∧ _) ∧ _ ∧ _); (refine eK ?_ ?_ <;> with_reducible repeat' (first | exact trivial | (show _ ∧ _; refine aK ?_ ?_)))))); all_goals clear fct)
        all_goals first | rfl | trace_state
      · rw [removeM_ok R ht hp] at h32
        have hlaw := fun k hk h1 h2 => moves_law R ht hp (k := k) hk h1 h2
        have R' := out_right R ht
        have hlen : (outL l i).length = l.length := len_out ..
        have hs' : SmallN (outL l i) := rf_small R' (by rw [hlen]; exact h60)
        have hr' : rightF ⟨outL l i, m⟩ = true := rf_iff.2 R'
        have h49 := fun k => f49_ok ⟨l, m⟩ hs k
        have h49' := fun k => f49_ok ⟨outL l i, m⟩ hs' k
        have h20 := fun a b ha hb => f20_ok ⟨l, m⟩ hs hr a b ha hb
        generalize (if conL l i = true then tellL l i (bareNote 2 0 0) else []) = ns at h32
        generalize outL l i = lg at *
        refine FnOK.startC (rvs := [.tmp 4]) G G_good Tryz.func12 rfl Tryz.ntmps12 rfl rfl ?_; with_reducible refine wD ?_
        (have fct := hlm; (repeat' (first
    | refine gF ?_
    | ((first
      | ((with_reducible show CallK _ _ 48 _ _ _ _); refine CallK.lit [] h48 c48 trivial rfl rfl ?_)
      | ((with_reducible show CallK _ _ 16 _ _ _ _); refine CallK.lit [] h16 c16 ⟨⟨rfl, rfl, trivial⟩, trivial⟩ rfl rfl ?_)
      | ((with_reducible show CallK _ _ 17 _ _ _ _); refine CallK.lit [] h17 c17 ⟨⟨rfl, rfl, trivial⟩, trivial⟩ rfl rfl ?_)
      | (refine ConvK.int (by kernel_rfl) (by kernel_rfl) (wrap_u8 ha) ?_)
      | (refine HandK.rem ha.1 (by (try simp only [castN]); omega) rfl rfl rfl rfl ?_)
      | ((with_reducible show CallK _ _ 32 _ _ _ _); rw [hni]; refine CallK.val [] h32 c32 ⟨⟨rfl, rfl, trivial⟩, rfl, trivial⟩ rfl rfl rfl ?_)) <;> with_reducible refine wK ?_)
    | ((with_reducible show (_ ∧ _) ∧ _ ∧ _); (refine eK ?_ ?_ <;> with_reducible repeat' (first | exact trivial | (show _ ∧ _; refine aK ?_ ?_)))))); all_goals clear fct)
        refine LoopK.use G G_good (fun (k : Nat) => [(2, .ptr 20 0 0), (5, eInt i), (6, .ptr 60 0 0), (9, eInt k)])
          (fun _ => [(20, .live 2 [eFor ⟨l, m⟩] false), (60, .live 2 [eFor ⟨lg, m⟩] false)]) (fun k => k ≤ l.length) (fun k => l.length - k) 0 (Nat.zero_le _)
          ⟨⟨rfl, rfl⟩, ⟨⟨rfl, rfl⟩, rfl, ⟨rfl, rfl⟩, rfl, trivial⟩, ⟨⟨rfl, rfl, trivial⟩, trivial⟩, ⟨⟨rfl, rfl, trivial⟩, trivial⟩, trivial⟩ ?_
        intro k hk
        with_reducible refine wK ?_
        refine IfK.mk (fun h1 => ?_) (fun h1 => ?_) <;> (try simp only [castN] at h1) <;> with_reducible refine wK ?_
        · have hk' : k < l.length := by simp only [decide_eq_true_eq] at h1; omega
          obtain ⟨y, hy⟩ : ∃ y, l[k]? = some y := ⟨_, List.getElem?_eq_getElem hk'⟩
          have hty := there_get hy
          have htg : thereN lg k = true := by rw [there_len hlen]; exact hty
          have hcy := nd_get hy
          have h23 := f23_ok y.attrs (by have := hs.attrs y (List.mem_of_getElem? hy); omega) formW
          have h49k := h49 k
          have h49k' := h49' k
          rw [show ownF ⟨l, m⟩ k = ownN l k by unfold ownF; rw [hr, hty]; rfl] at h49k
          rw [show ownF ⟨lg, m⟩ k = ownN lg k by unfold ownF; rw [hr', htg]; rfl] at h49k'
          have h20k := h20 i k ht hty
          have hlk := hlaw k hty
          have hown : attV (nd l k) formW = none → (nd l k).kind = 1 → ownN l k = -1 ∨ thereN l (ownN l k) = true := fun h1 h2 => by
            rw [own_near ⟨h2, .inl h1⟩]
            exact (near_in R hty).imp_right And.right
          rw [hcy] at hlk hown
          have hat : decide (0 ≤ findP y.attrs formW) = false → attV y formW = none := fun h => by unfold attV; rw [if_neg (of_decide_eq_false h)]
          have h20w := fun h => h20 i (ownN l k) ht h
          unfold holdsN at h20k h20w
          obtain ⟨y1, y2, y3, y4, y5, y6, y7, y8, y9, y10⟩ := y
          simp only at *
          cases hby : decide (0 ≤ findP y5 formW) with
          | true =>
            rw [hby] at h23
            (have fct := hlm; (repeat' (first
    | refine gF ?_
    | ((first
      | (refine IdxK.mk k (eNode ⟨y1, y2, y3, y4, y5, y6, y7, y8, y9, y10⟩) rfl (node_get hy) ?_)
      | ((with_reducible show CallK _ _ 23 _ _ _ _); refine CallK.lit [] h23 c23 ⟨rfl, rfl, trivial⟩ rfl rfl ?_)
      | ((with_reducible show CallK _ _ 49 _ _ _ _); first | (refine CallK.lit [] h49k' c49 ⟨⟨rfl, rfl, trivial⟩, rfl, trivial⟩ rfl rfl ?_) | (refine CallK.lit [] h49k c49 ⟨⟨rfl, rfl, trivial⟩, rfl, trivial⟩ rfl rfl ?_))
      | ((with_reducible show CallK _ _ 20 _ _ _ _); first | (refine CallK.lit [] h20k c20 ⟨⟨rfl, rfl, trivial⟩, rfl, rfl, trivial⟩ rfl rfl ?_) | (refine CallK.lit [] h20w c20 ⟨⟨rfl, rfl, trivial⟩, rfl, rfl, trivial⟩ rfl rfl ?_))
      | ((with_reducible show NextK _ _); refine NextK.mk (k + 1) (by omega) (by omega) ⟨⟨rfl, rfl⟩, ⟨⟨rfl, rfl⟩, rfl, ⟨rfl, rfl⟩, by show ((k + 1 : Nat) : Int) = (k : Int) + 1; omega, trivial⟩, ⟨⟨rfl, rfl, trivial⟩, trivial⟩, ⟨⟨rfl, rfl, trivial⟩, trivial⟩, trivial⟩)
      | ((with_reducible show DrawK _ _ _ _); refine dK ?_)) <;> with_reducible refine wK ?_)
    | ((with_reducible show (_ ∧ _) ∧ _ ∧ _); (refine eK ?_ ?_ <;> with_reducible repeat' (first | exact trivial | (show _ ∧ _; refine aK ?_ ?_)))))); all_goals clear fct)
          | false =>
            rw [hby] at h23
            have hno := hat hby
            by_cases hk1 : y1 = 1
            rotate_left
            · have hk1' := eq_false hk1
              (have fct := And.intro hlm (hk1'); (repeat' (first
    | refine gF ?_
    | ((first
      | (refine IdxK.mk k (eNode ⟨y1, y2, y3, y4, y5, y6, y7, y8, y9, y10⟩) rfl (node_get hy) ?_)
      | ((with_reducible show CallK _ _ 23 _ _ _ _); refine CallK.lit [] h23 c23 ⟨rfl, rfl, trivial⟩ rfl rfl ?_)
      | ((with_reducible show CallK _ _ 49 _ _ _ _); first | (refine CallK.lit [] h49k' c49 ⟨⟨rfl, rfl, trivial⟩, rfl, trivial⟩ rfl rfl ?_) | (refine CallK.lit [] h49k c49 ⟨⟨rfl, rfl, trivial⟩, rfl, trivial⟩ rfl rfl ?_))
      | ((with_reducible show CallK _ _ 20 _ _ _ _); first | (refine CallK.lit [] h20k c20 ⟨⟨rfl, rfl, trivial⟩, rfl, rfl, trivial⟩ rfl rfl ?_) | (refine CallK.lit [] h20w c20 ⟨⟨rfl, rfl, trivial⟩, rfl, rfl, trivial⟩ rfl rfl ?_))
      | ((with_reducible show NextK _ _); refine NextK.mk (k + 1) (by omega) (by omega) ⟨⟨rfl, rfl⟩, ⟨⟨rfl, rfl⟩, rfl, ⟨rfl, rfl⟩, by show ((k + 1 : Nat) : Int) = (k : Int) + 1; omega, trivial⟩, ⟨⟨rfl, rfl, trivial⟩, trivial⟩, ⟨⟨rfl, rfl, trivial⟩, trivial⟩, trivial⟩)
      | ((with_reducible show DrawK _ _ _ _); refine dK ?_)) <;> with_reducible refine wK ?_)
    | ((with_reducible show (_ ∧ _) ∧ _ ∧ _); (refine eK ?_ ?_ <;> with_reducible repeat' (first | exact trivial | (show _ ∧ _; refine aK ?_ ?_)))))); all_goals clear fct)
            have hk1' := eq_true hk1
            obtain ⟨q1, q2⟩ := hlk hk1 hno
            have hown := hown hno hk1
            generalize ownN lg k = now at *
            generalize ownN l k = was at *
            cases hH : decide ((i : Int) ∈ wayN l k) with
            | false =>
              rw [hH] at h20k
              obtain rfl := q1 (of_decide_eq_false hH)
              (have fct := And.intro hlm (hk1'); (repeat' (first
    | refine gF ?_
    | ((first
      | (refine IdxK.mk k (eNode ⟨y1, y2, y3, y4, y5, y6, y7, y8, y9, y10⟩) rfl (node_get hy) ?_)
      | ((with_reducible show CallK _ _ 23 _ _ _ _); refine CallK.lit [] h23 c23 ⟨rfl, rfl, trivial⟩ rfl rfl ?_)
      | ((with_reducible show CallK _ _ 49 _ _ _ _); first | (refine CallK.lit [] h49k' c49 ⟨⟨rfl, rfl, trivial⟩, rfl, trivial⟩ rfl rfl ?_) | (refine CallK.lit [] h49k c49 ⟨⟨rfl, rfl, trivial⟩, rfl, trivial⟩ rfl rfl ?_))
      | ((with_reducible show CallK _ _ 20 _ _ _ _); first | (refine CallK.lit [] h20k c20 ⟨⟨rfl, rfl, trivial⟩, rfl, rfl, trivial⟩ rfl rfl ?_) | (refine CallK.lit [] h20w c20 ⟨⟨rfl, rfl, trivial⟩, rfl, rfl, trivial⟩ rfl rfl ?_))
      | ((with_reducible show NextK _ _); refine NextK.mk (k + 1) (by omega) (by omega) ⟨⟨rfl, rfl⟩, ⟨⟨rfl, rfl⟩, rfl, ⟨rfl, rfl⟩, by show ((k + 1 : Nat) : Int) = (k : Int) + 1; omega, trivial⟩, ⟨⟨rfl, rfl, trivial⟩, trivial⟩, ⟨⟨rfl, rfl, trivial⟩, trivial⟩, trivial⟩)
      | ((with_reducible show DrawK _ _ _ _); refine dK ?_)) <;> with_reducible refine wK ?_)
    | ((with_reducible show (_ ∧ _) ∧ _ ∧ _); (refine eK ?_ ?_ <;> with_reducible repeat' (first | exact trivial | (show _ ∧ _; refine aK ?_ ?_)))))); all_goals clear fct)
            | true =>
              rw [hH] at h20k
              have q2 := q2 (of_decide_eq_true hH)
              by_cases hw : was = -1
              · have hw' := eq_true hw
                rw [if_neg (fun h => h.1 hw)] at q2
                subst q2
                (have fct := And.intro hlm (And.intro hk1' (hw')); (repeat' (first
    | refine gF ?_
    | ((first
      | (refine IdxK.mk k (eNode ⟨y1, y2, y3, y4, y5, y6, y7, y8, y9, y10⟩) rfl (node_get hy) ?_)
      | ((with_reducible show CallK _ _ 23 _ _ _ _); refine CallK.lit [] h23 c23 ⟨rfl, rfl, trivial⟩ rfl rfl ?_)
      | ((with_reducible show CallK _ _ 49 _ _ _ _); first | (refine CallK.lit [] h49k' c49 ⟨⟨rfl, rfl, trivial⟩, rfl, trivial⟩ rfl rfl ?_) | (refine CallK.lit [] h49k c49 ⟨⟨rfl, rfl, trivial⟩, rfl, trivial⟩ rfl rfl ?_))
      | ((with_reducible show CallK _ _ 20 _ _ _ _); first | (refine CallK.lit [] h20k c20 ⟨⟨rfl, rfl, trivial⟩, rfl, rfl, trivial⟩ rfl rfl ?_) | (refine CallK.lit [] h20w c20 ⟨⟨rfl, rfl, trivial⟩, rfl, rfl, trivial⟩ rfl rfl ?_))
      | ((with_reducible show NextK _ _); refine NextK.mk (k + 1) (by omega) (by omega) ⟨⟨rfl, rfl⟩, ⟨⟨rfl, rfl⟩, rfl, ⟨rfl, rfl⟩, by show ((k + 1 : Nat) : Int) = (k : Int) + 1; omega, trivial⟩, ⟨⟨rfl, rfl, trivial⟩, trivial⟩, ⟨⟨rfl, rfl, trivial⟩, trivial⟩, trivial⟩)
      | ((with_reducible show DrawK _ _ _ _); refine dK ?_)) <;> with_reducible refine wK ?_)
    | ((with_reducible show (_ ∧ _) ∧ _ ∧ _); (refine eK ?_ ?_ <;> with_reducible repeat' (first | exact trivial | (show _ ∧ _; refine aK ?_ ?_)))))); all_goals clear fct)
              · have hw' := eq_false hw
                have h20w := h20w (hown.resolve_left hw)
                cases hJ : decide ((i : Int) ∈ wayN l was) with
                | false =>
                  rw [hJ] at h20w
                  rw [if_neg (fun h => of_decide_eq_false hJ h.2)] at q2
                  subst q2
                  (have fct := And.intro hlm (And.intro hk1' (hw')); (repeat' (first
    | refine gF ?_
    | ((first
      | (refine IdxK.mk k (eNode ⟨y1, y2, y3, y4, y5, y6, y7, y8, y9, y10⟩) rfl (node_get hy) ?_)
      | ((with_reducible show CallK _ _ 23 _ _ _ _); refine CallK.lit [] h23 c23 ⟨rfl, rfl, trivial⟩ rfl rfl ?_)
      | ((with_reducible show CallK _ _ 49 _ _ _ _); first | (refine CallK.lit [] h49k' c49 ⟨⟨rfl, rfl, trivial⟩, rfl, trivial⟩ rfl rfl ?_) | (refine CallK.lit [] h49k c49 ⟨⟨rfl, rfl, trivial⟩, rfl, trivial⟩ rfl rfl ?_))
      | ((with_reducible show CallK _ _ 20 _ _ _ _); first | (refine CallK.lit [] h20k c20 ⟨⟨rfl, rfl, trivial⟩, rfl, rfl, trivial⟩ rfl rfl ?_) | (refine CallK.lit [] h20w c20 ⟨⟨rfl, rfl, trivial⟩, rfl, rfl, trivial⟩ rfl rfl ?_))
      | ((with_reducible show NextK _ _); refine NextK.mk (k + 1) (by omega) (by omega) ⟨⟨rfl, rfl⟩, ⟨⟨rfl, rfl⟩, rfl, ⟨rfl, rfl⟩, by show ((k + 1 : Nat) : Int) = (k : Int) + 1; omega, trivial⟩, ⟨⟨rfl, rfl, trivial⟩, trivial⟩, ⟨⟨rfl, rfl, trivial⟩, trivial⟩, trivial⟩)
      | ((with_reducible show DrawK _ _ _ _); refine dK ?_)) <;> with_reducible refine wK ?_)
    | ((with_reducible show (_ ∧ _) ∧ _ ∧ _); (refine eK ?_ ?_ <;> with_reducible repeat' (first | exact trivial | (show _ ∧ _; refine aK ?_ ?_)))))); all_goals clear fct)
                | true =>
                  rw [hJ] at h20w
                  rw [if_pos ⟨hw, of_decide_eq_true hJ⟩] at q2
                  subst q2
                  (have fct := And.intro hlm (And.intro hk1' (hw')); (repeat' (first
    | refine gF ?_
    | ((first
      | (refine IdxK.mk k (eNode ⟨y1, y2, y3, y4, y5, y6, y7, y8, y9, y10⟩) rfl (node_get hy) ?_)
      | ((with_reducible show CallK _ _ 23 _ _ _ _); refine CallK.lit [] h23 c23 ⟨rfl, rfl, trivial⟩ rfl rfl ?_)
      | ((with_reducible show CallK _ _ 49 _ _ _ _); first | (refine CallK.lit [] h49k' c49 ⟨⟨rfl, rfl, trivial⟩, rfl, trivial⟩ rfl rfl ?_) | (refine CallK.lit [] h49k c49 ⟨⟨rfl, rfl, trivial⟩, rfl, trivial⟩ rfl rfl ?_))
      | ((with_reducible show CallK _ _ 20 _ _ _ _); first | (refine CallK.lit [] h20k c20 ⟨⟨rfl, rfl, trivial⟩, rfl, rfl, trivial⟩ rfl rfl ?_) | (refine CallK.lit [] h20w c20 ⟨⟨rfl, rfl, trivial⟩, rfl, rfl, trivial⟩ rfl rfl ?_))
      | ((with_reducible show NextK _ _); refine NextK.mk (k + 1) (by omega) (by omega) ⟨⟨rfl, rfl⟩, ⟨⟨rfl, rfl⟩, rfl, ⟨rfl, rfl⟩, by show ((k + 1 : Nat) : Int) = (k : Int) + 1; omega, trivial⟩, ⟨⟨rfl, rfl, trivial⟩, trivial⟩, ⟨⟨rfl, rfl, trivial⟩, trivial⟩, trivial⟩)
      | ((with_reducible show DrawK _ _ _ _); refine dK ?_)) <;> with_reducible refine wK ?_)
    | ((with_reducible show (_ ∧ _) ∧ _ ∧ _); (refine eK ?_ ?_ <;> with_reducible repeat' (first | exact trivial | (show _ ∧ _; refine aK ?_ ?_)))))); all_goals clear fct)
        · repeat' (first
    | refine gK ?_
    | ((with_reducible show (_ ∧ _) ∧ _ ∧ _); (refine eK ?_ ?_ <;> with_reducible repeat' (first | exact trivial | (show _ ∧ _; refine aK ?_ ?_)))))
          all_goals first | rfl | trace_state
end Go.Proofs.Heir
end
namespace Go.Proofs.Heir
open Go Go.Am Go.RowKit Go.Lib
set_option maxRecDepth 100000
set_option maxHeartbeats 8000000
theorem rStr : Reads Tryz.prog 9 1 eStr (fun s => s.size ≤ maxLen) := Reads.str Tryz.underlying9 (by kernel_rfl)
theorem rInt : Reads Tryz.prog 3 1 oInt (fun _ => True) := (Reads.int Tryz.underlying3 (by kernel_rfl)).conv id id (fun _ => rfl) (fun _ => rfl) (fun _ _ => trivial)
theorem rAttr : Reads Tryz.prog 90 2 oAttr (fun _ => True) :=
 (Reads.struct (l := [(0, 9), (1, 9)]) Tryz.underlying90 (by kernel_rfl) rfl (.cons rStr (.cons rStr .nil))).conv
  (fun (a, b, _) => ⟨a, b⟩) (fun t => (t.name, t.value, ())) (fun _ => rfl) (fun _ => rfl) (fun _ _ => trivial)
theorem rAttrs1 : Reads Tryz.prog 32 1 eAttrs (fun _ => True) := (Reads.slice Tryz.underlying32 (by kernel_rfl) rAttr (by omega)).conv id id (fun _ => rfl) (fun _ => rfl) (fun _ _ => trivial)
theorem rInts1 : Reads Tryz.prog 33 1 eInts (fun _ => True) := (Reads.slice Tryz.underlying33 (by kernel_rfl) rInt (by omega)).conv id id (fun _ => rfl) (fun _ => rfl) (fun _ _ => trivial)
theorem rNode : Reads Tryz.prog 35 10 oNode (fun _ => True) :=
 (Reads.struct (l := [(0, 3), (1, 9), (2, 9), (3, 9), (4, 32), (5, 3), (6, 33), (7, 3), (8, 3), (9, 3)]) Tryz.underlying35 (by kernel_rfl) rfl
  (.cons rInt (.cons rStr (.cons rStr (.cons rStr (.cons rAttrs1 (.cons rInt (.cons rInts1 (.cons rInt (.cons rInt (.cons rInt .nil))))))))))).conv
  (fun (a, b, c, d, e, f, g, h, i, j, _) => ⟨a, b, c, d, e, f, g, h, i, j⟩)
  (fun t => (t.kind, t.name, t.is, t.data, t.attrs, t.parent, t.kids, t.host, t.under, t.doc, ())) (fun _ => rfl) (fun _ => rfl) (fun _ _ => trivial)
theorem rNodes1 : Reads Tryz.prog 22 1 eNodes (fun _ => True) := (Reads.slice Tryz.underlying22 (by kernel_rfl) rNode (by omega)).conv id id (fun _ => rfl) (fun _ => rfl) (fun _ _ => trivial)
theorem rFor : Reads Tryz.prog 24 2 eFor (fun _ => True) :=
 (Reads.struct (l := [(0, 22), (1, 3)]) Tryz.underlying24 (by kernel_rfl) rfl (.cons rNodes1 (.cons rInt .nil))).conv
  (fun (a, b, _) => ⟨a, b⟩) (fun t => (t.nodes, t.most, ())) (fun _ => rfl) (fun _ => rfl) (fun _ _ => trivial)
theorem laid : Go.laidOutB Tryz.prog = true := by kernel_rfl
abbrev laidRows : List (String × DataW Unit) := [("errors.errorType", Go.Proofs.YtkhjcnjicjgfiaaGreatDoor.Rows.laid_errors_errorType)]
theorem door_met (os : Os) (args : Array Value) : laidMetH Tryz.prog laidRows ((World.doorLaid Tryz.prog 33 os).forCall (fun _ _ => 0) ⟨#[], args, []⟩).memory :=
 laidMetH_of_parts3 (fuel := 8) (laidMet_of_run' 8 (by kernel_rfl) (by kernel_rfl)) (by kernel_rfl) (by kernel_rfl)
theorem tabs_of_laid {W : World} (h : laidMetH Tryz.prog laidRows W) : Tabs Tryz.prog W fun _ => none := by
 refine ⟨fun g hg => (by rw [show Tryz.prog.globalNamed "no such variable" = none by kernel_rfl] at hg; cases hg), fun g hg => ?_⟩
 have h' : handlesMet Tryz.prog laidRows W := h.2
 have h0 := h' _ (List.mem_singleton.2 rfl)
 have h1 : ∃ name u ty, (DataW.handleName? (Go.Proofs.YtkhjcnjicjgfiaaGreatDoor.Rows.laid_errors_errorType : DataW Unit)) = some name ∧ (Tryz.prog.cutTypes.find? (·.1 == "internal/reflectlite.rtype")).map (·.2) = some u ∧ ty < Tryz.prog.types.size ∧ Tryz.prog.rowNamed ty name = true ∧
   W.var? Tryz.prog "errors.errorType" = some #[.iface u (.agg #[typeHandle Tryz.prog ty])] := h0
 obtain ⟨name, u, ty, k1, k2, k3, k4, k5⟩ := h1
 obtain rfl : [101, 114, 114, 111, 114] = name := Option.some.inj k1
 have e : g = 0 := Option.some.inj (hg.symm.trans (by kernel_rfl))
 subst e
 unfold World.var? at k5
 rw [hg] at k5
 simp only [Option.bind_some] at k5
 refine ⟨(by rintro ⟨_, _, h, _⟩; cases h), ?_, _, ⟨u, ty, k2, k3, k4, rfl⟩, ?_⟩
 · split at k5
   · rename_i hh; exact (Array.getElem?_eq_some_iff.1 hh).1
   · cases k5
 · split at k5
   · rename_i cs _ _ hh
     obtain rfl : cs = _ := Option.some.inj k5
     simp [World.cell?, hh]
   · cases k5
end Go.Proofs.Heir
