/- Models, plain laws and contracts of functions of the given program; conditions as stated in each theorem. By an AI agent. -/
import Derived.Test.YtadjfbmhbfjjaaaGreatDoorW6
import Derived.Test.YtadjfbmhbfjjaaaGreatDoorW5
import Derived.Shelf.Strings.Builder1
import Derived.Test.YtadjfbmhbfjjaaaGreatDoorChecked
import Derived.Test.YtadjfbmhbfjjaaaGreatDoorW4
import Derived.Tactics
import Derived.Test.YtadjfbmhbfjjaaaGreatDoorW1
import Derived.Test.YtadjfbmhbfjjaaaGreatDoorRows
import Derived.ProofKit
import Derived.LaidMore
import Derived.OpenShut
import Derived.Stop.Joined
import Derived.Lib.LaidTab
import Derived.MakeChecks
section
set_option linter.unusedSimpArgs false
set_option linter.unusedVariables false
namespace Go.Proofs.Heir
open Go Go.Am Go.RowKit Go.Lib
set_option maxRecDepth 100000
set_option maxHeartbeats 8000000
end Go.Proofs.Heir
end
section
set_option linter.unusedSimpArgs false
set_option linter.unusedVariables false
namespace Go.Proofs.Heir
open Go Go.Am Go.RowKit Go.Lib
set_option maxRecDepth 100000
set_option maxHeartbeats 8000000
end Go.Proofs.Heir
end
section
set_option linter.unusedSimpArgs false
set_option linter.unusedVariables false
namespace Go.Proofs.Heir
open Go Go.Am Go.RowKit Go.Lib
set_option maxRecDepth 100000
set_option maxHeartbeats 8000000
def lookW (f : ForM) (st : List StateM) (d : DeskM) (cs : List ClassM) (ns : List NoteM) : Bool := (((shortF f && shortB d) && shortC cs) && decide (ns.length ≤ 80)) && decide (st.length ≤ 60)
theorem f4_long (h23 : FnOK Tryz.prog 23 [] [] [] (eBool true)) (f : ForM) (st : List StateM) (d : DeskM) (cs : List ClassM) (ns : List NoteM) (n k : Int) (s : ByteArray) (h : lookW f st d cs ns = false) : FnOK Tryz.prog 4 [] [eFor f, eStates st, eDesk d, eClasses cs, eNotes ns, eInt n, eInt k, eStr s] [] (eBool true) := by
  have h9 := f9_ok f
  have h10 := f10_ok d
  have h24 := f24_ok cs
  have hst := (show (st.map oState).length = st.length from List.length_map ..)
  have hlm : (ns.map oNote).length = ns.length := List.length_map ..
  unfold lookW at h
  obtain ⟨q1, e1⟩ : ∃ q, shortF f = q := ⟨_, rfl⟩
  obtain ⟨q2, e2⟩ : ∃ q, shortB d = q := ⟨_, rfl⟩
  obtain ⟨q3, e3⟩ : ∃ q, shortC cs = q := ⟨_, rfl⟩
  rw [e1] at h9
  rw [e2] at h10
  rw [e3] at h24
  rw [e1, e2, e3] at h
  clear e1 e2 e3
  obtain ⟨l, m⟩ := f
  obtain ⟨d1, d2, d3, d4⟩ := d
  refine FnOK.startC (rvs := [.tmp 16]) G G_good Tryz.func4 rfl Tryz.ntmps4 rfl rfl ?_; with_reducible refine wD ?_
  refine CallK.lit [] h23 c23 trivial rfl rfl ?_; with_reducible refine wK ?_
  cases q1
  · repeat' (first
    | refine gK ?_
    | (((with_reducible show CallK _ _ 9 _ _ _ _); refine CallK.lit [] h9 c9 ⟨⟨rfl, rfl, trivial⟩, trivial⟩ rfl rfl ?_) <;> with_reducible refine wK ?_)
    | ((with_reducible show (_ ∧ _) ∧ _ ∧ _); (refine eK ?_ ?_ <;> with_reducible repeat' (first | exact trivial | (show _ ∧ _; refine aK ?_ ?_)))))
  cases q2
  · repeat' (first
    | refine gK ?_
    | ((first
      | ((with_reducible show CallK _ _ 9 _ _ _ _); refine CallK.lit [] h9 c9 ⟨⟨rfl, rfl, trivial⟩, trivial⟩ rfl rfl ?_)
      | ((with_reducible show CallK _ _ 10 _ _ _ _); refine CallK.lit [] h10 c10 ⟨⟨rfl, rfl, rfl, rfl, trivial⟩, trivial⟩ rfl rfl ?_)) <;> with_reducible refine wK ?_)
    | ((with_reducible show (_ ∧ _) ∧ _ ∧ _); (refine eK ?_ ?_ <;> with_reducible repeat' (first | exact trivial | (show _ ∧ _; refine aK ?_ ?_)))))
  cases q3
  · repeat' (first
    | refine gK ?_
    | ((first
      | ((with_reducible show CallK _ _ 9 _ _ _ _); refine CallK.lit [] h9 c9 ⟨⟨rfl, rfl, trivial⟩, trivial⟩ rfl rfl ?_)
      | ((with_reducible show CallK _ _ 10 _ _ _ _); refine CallK.lit [] h10 c10 ⟨⟨rfl, rfl, rfl, rfl, trivial⟩, trivial⟩ rfl rfl ?_)
      | ((with_reducible show CallK _ _ 24 _ _ _ _); refine CallK.lit [] h24 c24 ⟨rfl, trivial⟩ rfl rfl ?_)) <;> with_reducible refine wK ?_)
    | ((with_reducible show (_ ∧ _) ∧ _ ∧ _); (refine eK ?_ ?_ <;> with_reducible repeat' (first | exact trivial | (show _ ∧ _; refine aK ?_ ?_)))))
  by_cases g1 : (80 : Int) < (ns.length : Int)
  · (have fct := And.intro hlm (g1); (repeat' (first
    | refine gF ?_
    | ((first
      | ((with_reducible show CallK _ _ 9 _ _ _ _); refine CallK.lit [] h9 c9 ⟨⟨rfl, rfl, trivial⟩, trivial⟩ rfl rfl ?_)
      | ((with_reducible show CallK _ _ 10 _ _ _ _); refine CallK.lit [] h10 c10 ⟨⟨rfl, rfl, rfl, rfl, trivial⟩, trivial⟩ rfl rfl ?_)
      | ((with_reducible show CallK _ _ 24 _ _ _ _); refine CallK.lit [] h24 c24 ⟨rfl, trivial⟩ rfl rfl ?_)) <;> with_reducible refine wK ?_)
    | ((with_reducible show (_ ∧ _) ∧ _ ∧ _); (refine eK ?_ ?_ <;> with_reducible repeat' (first | exact trivial | (show _ ∧ _; refine aK ?_ ?_)))))); all_goals clear fct)
  have g2 : (60 : Int) < (st.length : Int) := by
    simp only [Bool.true_and, Bool.and_eq_false_iff, decide_eq_false_iff_not] at h; omega
  (have fct := And.intro hlm (And.intro hst (And.intro (eq_false g1) (g2))); (repeat' (first
    | refine gF ?_
    | ((first
      | ((with_reducible show CallK _ _ 9 _ _ _ _); refine CallK.lit [] h9 c9 ⟨⟨rfl, rfl, trivial⟩, trivial⟩ rfl rfl ?_)
      | ((with_reducible show CallK _ _ 10 _ _ _ _); refine CallK.lit [] h10 c10 ⟨⟨rfl, rfl, rfl, rfl, trivial⟩, trivial⟩ rfl rfl ?_)
      | ((with_reducible show CallK _ _ 24 _ _ _ _); refine CallK.lit [] h24 c24 ⟨rfl, trivial⟩ rfl rfl ?_)) <;> with_reducible refine wK ?_)
    | ((with_reducible show (_ ∧ _) ∧ _ ∧ _); (refine eK ?_ ?_ <;> with_reducible repeat' (first | exact trivial | (show _ ∧ _; refine aK ?_ ?_)))))); all_goals clear fct)
theorem f4_short (h23 : FnOK Tryz.prog 23 [] [] [] (eBool true)) (f : ForM) (st : List StateM) (d : DeskM) (cs : List ClassM) (ns : List NoteM) (n k : Int) (s : ByteArray) (h : lookW f st d cs ns = true) : FnOK Tryz.prog 4 [] [eFor f, eStates st, eDesk d, eClasses cs, eNotes ns, eInt n, eInt k, eStr s] [] (eBool true) := by
  unfold lookW at h
  simp only [Bool.and_eq_true, decide_eq_true_eq] at h
  obtain ⟨⟨⟨⟨e1, e2⟩, e3⟩, hns⟩, hsl⟩ := h
  have h9 := f9_ok f
  have h10 := f10_ok d
  have h24 := f24_ok cs
  rw [e1] at h9
  rw [e2] at h10
  rw [e3] at h24
  have hs := shortF_iff.1 e1
  have hsd := shortB_iff.1 e2
  have hd := hsd.small
  have hc := small_of_shortC e3
  have hcl : cs.length ≤ 14 := by unfold shortC at e3; simp only [Bool.and_eq_true, decide_eq_true_eq] at e3; exact e3.1
  have hst := (show (st.map oState).length = st.length from List.length_map ..)
  have hlm : (ns.map oNote).length = ns.length := List.length_map ..
  have hcm : (cs.map oClass).length = cs.length := List.length_map ..
  have hln := (show (f.nodes.map oNode).length = f.nodes.length from List.length_map ..)
  have g1 : ¬ (80 : Int) < (ns.length : Int) := by omega
  have g2 : ¬ (60 : Int) < (st.length : Int) := by omega
  have h13 := f13_ok f hs
  rw [right_eq] at h13
  have h14 := f14_ok d hsd
  have h32 := fun x => f32_ok x d cs
  have h33 := fun x => f33_ok x d cs
  have hac := fun x => class_cases x d cs
  have h35 := f35_ok f hs st d hd cs hc ns (by omega)
  have h36 := f36_ok f hs st d hd cs hc n
  have hdl := dueL_len f st d cs ns
  have h21a := f21n_ok (dueL f st d cs ns) (dueL f st d cs ns) (by omega)
  rw [decide_eq_true rfl] at h21a
  have hno : lookV f st d = false → dueL f st d cs ns = [] ∧ firstL f st d cs n = [] := fun h => by
    unfold dueL firstL
    rw [h]; exact ⟨rfl, rfl⟩
  have h37 : lookV f st d = true → FnOK Tryz.prog 37 [] [eFor f, eStates st, eDesk d, eClasses cs, eNotes ns] [] (eDuesN (dueL f st d cs ns)) := fun hl => f37_ok f st d hd cs hc ns (by omega) hl
  have hnoE : elemV f.nodes n = false → firstL f st d cs n = [] := fun h => by
    unfold firstL
    rw [h, Bool.and_false]; rfl
  have h38 : lookV f st d = true → ∀ i : Nat, n = i → ∀ y, f.nodes[i]? = some y → y.kind = 1 → FnOK Tryz.prog 38 [] [eFor f, eStates st, eDesk d, eClasses cs, eInt i] [] (eDuesN (firstL f st d cs n)) ∧ (firstL f st d cs n).length ≤ 100000 := fun hl i hi y hy hk => by
    have hle : st.length = f.nodes.length ∧ rightF f = true := by unfold lookV at hl; simp only [Bool.and_eq_true, decide_eq_true_eq] at hl; exact hl.1
    obtain ⟨x, hx⟩ : ∃ x, st[i]? = some x := ⟨_, List.getElem?_eq_getElem (by have := (List.getElem?_eq_some_iff.1 hy).1; omega)⟩
    have h := f38_ok f hs st d cs hc hle.2 i x y hx hy
    have he : elemV f.nodes n = true := by unfold elemV; rw [hi, there_get hy, nd_get hy, hk]; rfl
    have hso : stOf st n = x := by unfold stOf; rw [hi, Int.toNat_natCast, hx]; rfl
    have e : (if classB x d cs = true then firstC f (classV x d cs) i else []) = firstL f st d cs n := by
      unfold firstL
      rw [hl, he, hso, Bool.true_and, Bool.true_and, hi]
    have hya := hs.attrs y (List.mem_of_getElem? hy)
    refine ⟨by rwa [e] at h, ?_⟩
    rw [← e]
    split
    · unfold firstC
      rw [nd_get hy, List.length_append]
      have h1 := flat_len _ (firstA_len (classV x d cs) i) y.attrs
      have h2 : (cameT (hearsC (classV x d cs) 1 && conF f i) i).length ≤ 1 := by unfold cameT; split <;> simp
      omega
    · simp
  have hlook : lookV f st d = ((decide (st.length = f.nodes.length) && rightF f) && rightD d) := rfl
  rw [hlook] at hno h37 h38
  have hnil := f34_ok noClass noClass small_noClass
  rw [decide_eq_true rfl] at hnil
  have nil2 : ∀ wd, NilK (.sl wd []) := fun wd => .inr (.inr ⟨wd, rfl⟩)
  generalize dueL f st d cs ns = A at h35 h37 hno hdl h21a
  generalize firstL f st d cs n = B at h36 h38 hno hnoE
  generalize rightF f = rf at h13 hno h37 h38
  generalize rightD d = rd at h14 hno h37 h38
  clear hlook e1 e2 e3 hs hsd
  obtain ⟨l, m⟩ := f
  obtain ⟨d1, d2, d3, d4⟩ := d
  simp only at hln hnoE
  refine FnOK.startC (rvs := [.tmp 16]) G G_good Tryz.func4 rfl Tryz.ntmps4 rfl rfl ?_; with_reducible refine wD ?_
  (have fct := And.intro hlm (And.intro hst (And.intro (eq_false g1) ((eq_false g2)))); (repeat' (first
    | refine gF ?_
    | ((first
      | ((with_reducible show CallK _ _ 23 _ _ _ _); refine CallK.lit [] h23 c23 trivial rfl rfl ?_)
      | ((with_reducible show CallK _ _ 9 _ _ _ _); refine CallK.lit [] h9 c9 ⟨⟨rfl, rfl, trivial⟩, trivial⟩ rfl rfl ?_)
      | ((with_reducible show CallK _ _ 10 _ _ _ _); refine CallK.lit [] h10 c10 ⟨⟨rfl, rfl, rfl, rfl, trivial⟩, trivial⟩ rfl rfl ?_)
      | ((with_reducible show CallK _ _ 24 _ _ _ _); refine CallK.lit [] h24 c24 ⟨rfl, trivial⟩ rfl rfl ?_)) <;> with_reducible refine wK ?_)
    | ((with_reducible show (_ ∧ _) ∧ _ ∧ _); (refine eK ?_ ?_ <;> with_reducible repeat' (first | exact trivial | (show _ ∧ _; refine aK ?_ ?_)))))); all_goals clear fct)
  refine LoopK.use G G_good (fun (j : Nat) => [(1, eStates st), (3, eClasses cs), (4, eNotes ns), (5, eInt n), (6, eInt k), (7, eStr s), (8, .ptr 80 0 0), (10, .ptr 100 0 0), (17, eInt j)]) (fun _ => [(80, .live 2 [eFor ⟨l, m⟩] false), (100, .live 4 [eDesk ⟨d1, d2, d3, d4⟩] false)]) (fun j => j ≤ cs.length) (fun j => cs.length - j) 0 (Nat.zero_le _)
    ⟨⟨rfl, rfl⟩, ⟨rfl, rfl, rfl, rfl, rfl, rfl, ⟨rfl, rfl⟩, ⟨rfl, rfl⟩, rfl, trivial⟩, ⟨⟨rfl, rfl, trivial⟩, trivial⟩, ⟨⟨rfl, rfl, rfl, rfl, trivial⟩, trivial⟩, trivial⟩ ?_
  intro j hj
  with_reducible refine wK ?_
  refine IfK.mk (fun q1 => ?_) (fun q1 => ?_) <;> (try simp only [castN] at q1) <;> with_reducible refine wK ?_
  · have hj' : j < cs.length := by simp only [hcm, decide_eq_true_eq] at q1; omega
    obtain ⟨c, hx⟩ : ∃ c, cs[j]? = some c := ⟨_, List.getElem?_eq_getElem hj'⟩
    have hk := hc c (List.mem_of_getElem? hx)
    have h25 := f25_ok c hk.hooks k
    have h26 := f26_ok c hk.hooks k
    have h27 := f27_ok c hk.hooks hk.watch s
    have h28 := f28_ok c hk.hooks hk.watch s
    have h30 := f30_ok c hk.hooks hk.progs k
    have h31 := f31_ok c hk.hooks k
    have hpl : (progC c k).length ≤ 100000 := by
      unfold progC
      split
      · rename_i h he; exact hk.progs h (List.mem_of_find?_eq_some he)
      · simp
    have h29 := f29_ok (progC c k) (progC c k) hpl
    rw [decide_eq_true rfl] at h29
    generalize hearsC c k = hb at h25 h26
    generalize watchesC c s = wb at h27 h28
    generalize progC c k = pc at h30 h31 h29
    obtain ⟨c1, c2, c3, c4, c5⟩ := c
    refine IdxK.mk j (eClass ⟨c1, c2, c3, c4, c5⟩) rfl (class_get hx) ?_; with_reducible refine wK ?_
    repeat' (first
    | refine gK ?_
    | ((first
      | ((with_reducible show CallK _ _ 25 _ _ _ _); refine CallK.lit [] h25 c25 ⟨⟨rfl, rfl, rfl, rfl, rfl, trivial⟩, rfl, trivial⟩ rfl rfl ?_)
      | ((with_reducible show CallK _ _ 26 _ _ _ _); refine CallK.lit [] h26 c26 ⟨⟨rfl, rfl, rfl, rfl, rfl, trivial⟩, rfl, trivial⟩ rfl rfl ?_)
      | ((with_reducible show CallK _ _ 27 _ _ _ _); refine CallK.lit [] h27 c27 ⟨⟨rfl, rfl, rfl, rfl, rfl, trivial⟩, rfl, trivial⟩ rfl rfl ?_)
      | ((with_reducible show CallK _ _ 28 _ _ _ _); refine CallK.lit [] h28 c28 ⟨⟨rfl, rfl, rfl, rfl, rfl, trivial⟩, rfl, trivial⟩ rfl rfl ?_)
      | ((with_reducible show CallK _ _ 30 _ _ _ _); refine CallK.val [] h30 c30 ⟨⟨rfl, rfl, rfl, rfl, rfl, trivial⟩, rfl, trivial⟩ rfl rfl rfl ?_)
      | ((with_reducible show CallK _ _ 31 _ _ _ _); refine CallK.val [] h31 c31 ⟨⟨rfl, rfl, rfl, rfl, rfl, trivial⟩, rfl, trivial⟩ rfl rfl rfl ?_)
      | ((with_reducible show CallK _ _ 29 _ _ _ _); refine CallK.lit [] h29 c29 ⟨rfl, rfl, trivial⟩ rfl rfl ?_)) <;> with_reducible refine wK ?_)
    | ((with_reducible show (_ ∧ _) ∧ _ ∧ _); (refine eK ?_ ?_ <;> with_reducible repeat' (first | exact trivial | (show _ ∧ _; refine aK ?_ ?_)))))
    refine NextK.mk (j + 1) (by omega) (by omega) ⟨⟨rfl, rfl⟩, ⟨rfl, rfl, rfl, rfl, rfl, rfl, ⟨rfl, rfl⟩, ⟨rfl, rfl⟩, by show ((j + 1 : Nat) : Int) = (j : Int) + 1; omega, trivial⟩, ⟨⟨rfl, rfl, trivial⟩, trivial⟩, ⟨⟨rfl, rfl, rfl, rfl, trivial⟩, trivial⟩, trivial⟩
  refine LoopK.use G G_good (fun (j : Nat) => [(1, eStates st), (3, eClasses cs), (4, eNotes ns), (5, eInt n), (8, .ptr 80 0 0), (10, .ptr 100 0 0), (19, eInt j)]) (fun _ => [(80, .live 2 [eFor ⟨l, m⟩] false), (100, .live 4 [eDesk ⟨d1, d2, d3, d4⟩] false)]) (fun j => j ≤ st.length) (fun j => st.length - j) 0 (Nat.zero_le _)
    ⟨⟨rfl, rfl⟩, ⟨rfl, rfl, rfl, rfl, ⟨rfl, rfl⟩, ⟨rfl, rfl⟩, rfl, trivial⟩, ⟨⟨rfl, rfl, trivial⟩, trivial⟩, ⟨⟨rfl, rfl, rfl, rfl, trivial⟩, trivial⟩, trivial⟩ ?_
  clear q1 hj
  intro j hj
  with_reducible refine wK ?_
  refine IfK.mk (fun q1 => ?_) (fun q1 => ?_) <;> (try simp only [castN] at q1) <;> with_reducible refine wK ?_
  · have hj' : j < st.length := by simp only [hst, decide_eq_true_eq] at q1; omega
    obtain ⟨x, hx⟩ : ∃ c, st[j]? = some c := ⟨_, List.getElem?_eq_getElem hj'⟩
    have h32' := h32 x
    have h33' := h33 x
    have hcase : classAt x ⟨d1, d2, d3, d4⟩ cs.length = -1 ∨ ∃ (k : Nat) (c : ClassM), classAt x ⟨d1, d2, d3, d4⟩ cs.length = k ∧ cs[k]? = some c := by
      rcases classAt_cases x ⟨d1, d2, d3, d4⟩ cs.length with e | ⟨k, hk, e⟩
      · exact .inl e
      · exact .inr ⟨k, _, e, List.getElem?_eq_getElem hk⟩
    rcases hcase with e | ⟨k', c, e, hck⟩
    · rw [(classV_no e).1, (classV_no e).2] at h32'
      rw [e] at h33'
      clear h32 h33
      obtain ⟨s1, s2, s3, s4⟩ := x
      repeat' (first
    | refine gK ?_
    | ((first
      | ((with_reducible show IdxK _ _ _ _ _); refine IdxK.mk j (eState _) rfl (state_get hx) ?_)
      | ((with_reducible show CallK _ _ 32 _ _ _ _); refine CallK.val [] h32' c32 ⟨⟨rfl, rfl, rfl, rfl, trivial⟩, ⟨rfl, rfl, rfl, rfl, trivial⟩, rfl, trivial⟩ rfl rfl rfl ?_)
      | ((with_reducible show CallK _ _ 33 _ _ _ _); refine CallK.lit [] h33' c33 ⟨⟨rfl, rfl, rfl, rfl, trivial⟩, ⟨rfl, rfl, rfl, rfl, trivial⟩, rfl, trivial⟩ rfl rfl ?_)
      | ((with_reducible show CallK _ _ 34 _ _ _ _); refine CallK.lit [] hnil c34 ⟨⟨rfl, rfl, rfl, rfl, rfl, trivial⟩, ⟨rfl, nil2 _, nil2 _, nil2 _, nil2 _, trivial⟩, trivial⟩ rfl rfl ?_)) <;> with_reducible refine wK ?_)
    | ((with_reducible show (_ ∧ _) ∧ _ ∧ _); (refine eK ?_ ?_ <;> with_reducible repeat' (first | exact trivial | (show _ ∧ _; refine aK ?_ ?_)))))
      refine NextK.mk (j + 1) (by omega) (by omega) ⟨⟨rfl, rfl⟩, ⟨rfl, rfl, rfl, rfl, ⟨rfl, rfl⟩, ⟨rfl, rfl⟩, by show ((j + 1 : Nat) : Int) = (j : Int) + 1; omega, trivial⟩, ⟨⟨rfl, rfl, trivial⟩, trivial⟩, ⟨⟨rfl, rfl, rfl, rfl, trivial⟩, trivial⟩, trivial⟩
    · rw [(classV_at e hck).1, (classV_at e hck).2] at h32'
      rw [e] at h33'
      have h34 := f34_ok c c (hc c (List.mem_of_getElem? hck))
      rw [decide_eq_true rfl] at h34
      have hk0 : 0 ≤ (k' : Int) := by omega
      clear h32 h33
      obtain ⟨s1, s2, s3, s4⟩ := x
      obtain ⟨c1, c2, c3, c4, c5⟩ := c
      (have fct := (eq_true hk0); (repeat' (first
    | refine gF ?_
    | ((first
      | ((with_reducible show IdxK _ _ _ _ _); first | refine IdxK.mk j (eState _) rfl (state_get hx) ?_ | refine IdxK.mk k' (eClass ⟨c1, c2, c3, c4, c5⟩) rfl (class_get hck) ?_)
      | ((with_reducible show CallK _ _ 32 _ _ _ _); refine CallK.val [] h32' c32 ⟨⟨rfl, rfl, rfl, rfl, trivial⟩, ⟨rfl, rfl, rfl, rfl, trivial⟩, rfl, trivial⟩ rfl rfl rfl ?_)
      | ((with_reducible show CallK _ _ 33 _ _ _ _); refine CallK.lit [] h33' c33 ⟨⟨rfl, rfl, rfl, rfl, trivial⟩, ⟨rfl, rfl, rfl, rfl, trivial⟩, rfl, trivial⟩ rfl rfl ?_)
      | ((with_reducible show CallK _ _ 34 _ _ _ _); refine CallK.lit [] h34 c34 ⟨⟨rfl, rfl, rfl, rfl, rfl, trivial⟩, ⟨rfl, rfl, rfl, rfl, rfl, trivial⟩, trivial⟩ rfl rfl ?_)) <;> with_reducible refine wK ?_)
    | ((with_reducible show (_ ∧ _) ∧ _ ∧ _); (refine eK ?_ ?_ <;> with_reducible repeat' (first | exact trivial | (show _ ∧ _; refine aK ?_ ?_)))))); all_goals clear fct)
      refine NextK.mk (j + 1) (by omega) (by omega) ⟨⟨rfl, rfl⟩, ⟨rfl, rfl, rfl, rfl, ⟨rfl, rfl⟩, ⟨rfl, rfl⟩, by show ((j + 1 : Nat) : Int) = (j : Int) + 1; omega, trivial⟩, ⟨⟨rfl, rfl, trivial⟩, trivial⟩, ⟨⟨rfl, rfl, rfl, rfl, trivial⟩, trivial⟩, trivial⟩
  clear q1 hj h32 h33 hac hnil hc
  have nA : (A.map oDueN).length = A.length := List.length_map ..
  have nB : (B.map oDueN).length = B.length := List.length_map ..
  have call35 := h35
  by_cases r1 : st.length = l.length
  case neg =>
    obtain ⟨rfl, rfl⟩ := hno (by rw [decide_eq_false r1]; rfl)
    clear h37 h38 hnoE hno
    cases rf <;> cases rd <;> (have fct := And.intro hst (And.intro hln ((eq_false r1))); (repeat' (first
    | refine gF ?_
    | ((first
      | ((with_reducible show CallK _ _ 35 _ _ _ _); refine CallK.val [] h35 c35 ⟨⟨rfl, rfl, trivial⟩, rfl, ⟨rfl, rfl, rfl, rfl, trivial⟩, rfl, rfl, trivial⟩ rfl rfl rfl ?_)
      | ((with_reducible show CallK _ _ 36 _ _ _ _); refine CallK.val [] h36 c36 ⟨⟨rfl, rfl, trivial⟩, rfl, ⟨rfl, rfl, rfl, rfl, trivial⟩, rfl, rfl, trivial⟩ rfl rfl rfl ?_)
      | ((with_reducible show CallK _ _ 13 _ _ _ _); refine CallK.lit [] h13 c13 ⟨⟨rfl, rfl, trivial⟩, trivial⟩ rfl rfl ?_)
      | ((with_reducible show CallK _ _ 14 _ _ _ _); refine CallK.lit [] h14 c14 ⟨⟨rfl, rfl, rfl, rfl, trivial⟩, trivial⟩ rfl rfl ?_)) <;> with_reducible refine wK ?_)
    | ((with_reducible show (_ ∧ _) ∧ _ ∧ _); (refine eK ?_ ?_ <;> with_reducible repeat' (first | exact trivial | (show _ ∧ _; refine aK ?_ ?_)))))); all_goals clear fct)
    all_goals rfl
  cases rf with
  | false =>
    obtain ⟨rfl, rfl⟩ := hno (by rw [Bool.and_false]; rfl)
    clear h37 h38 hnoE hno
    (have fct := And.intro hst (And.intro hln (r1)); (repeat' (first
    | refine gF ?_
    | ((first
      | ((with_reducible show CallK _ _ 35 _ _ _ _); refine CallK.val [] h35 c35 ⟨⟨rfl, rfl, trivial⟩, rfl, ⟨rfl, rfl, rfl, rfl, trivial⟩, rfl, rfl, trivial⟩ rfl rfl rfl ?_)
      | ((with_reducible show CallK _ _ 36 _ _ _ _); refine CallK.val [] h36 c36 ⟨⟨rfl, rfl, trivial⟩, rfl, ⟨rfl, rfl, rfl, rfl, trivial⟩, rfl, rfl, trivial⟩ rfl rfl rfl ?_)
      | ((with_reducible show CallK _ _ 13 _ _ _ _); refine CallK.lit [] h13 c13 ⟨⟨rfl, rfl, trivial⟩, trivial⟩ rfl rfl ?_)) <;> with_reducible refine wK ?_)
    | ((with_reducible show (_ ∧ _) ∧ _ ∧ _); (refine eK ?_ ?_ <;> with_reducible repeat' (first | exact trivial | (show _ ∧ _; refine aK ?_ ?_)))))); all_goals clear fct)
    all_goals rfl
  | true =>
    cases rd with
    | false =>
      obtain ⟨rfl, rfl⟩ := hno (by rw [Bool.and_false])
      clear h37 h38 hnoE hno
      (have fct := And.intro hst (And.intro hln (r1)); (repeat' (first
    | refine gF ?_
    | ((first
      | ((with_reducible show CallK _ _ 35 _ _ _ _); refine CallK.val [] h35 c35 ⟨⟨rfl, rfl, trivial⟩, rfl, ⟨rfl, rfl, rfl, rfl, trivial⟩, rfl, rfl, trivial⟩ rfl rfl rfl ?_)
      | ((with_reducible show CallK _ _ 36 _ _ _ _); refine CallK.val [] h36 c36 ⟨⟨rfl, rfl, trivial⟩, rfl, ⟨rfl, rfl, rfl, rfl, trivial⟩, rfl, rfl, trivial⟩ rfl rfl rfl ?_)
      | ((with_reducible show CallK _ _ 13 _ _ _ _); refine CallK.lit [] h13 c13 ⟨⟨rfl, rfl, trivial⟩, trivial⟩ rfl rfl ?_)
      | ((with_reducible show CallK _ _ 14 _ _ _ _); refine CallK.lit [] h14 c14 ⟨⟨rfl, rfl, rfl, rfl, trivial⟩, trivial⟩ rfl rfl ?_)) <;> with_reducible refine wK ?_)
    | ((with_reducible show (_ ∧ _) ∧ _ ∧ _); (refine eK ?_ ?_ <;> with_reducible repeat' (first | exact trivial | (show _ ∧ _; refine aK ?_ ?_)))))); all_goals clear fct)
      all_goals rfl
    | true =>
      have hyes : ((decide (st.length = l.length) && true) && true) = true := by rw [decide_eq_true r1]; rfl
      have h37' := h37 hyes
      have h38' := h38 hyes
      clear h37 h38 hno
      (have fct := And.intro hst (And.intro hln (r1)); (repeat' (first
    | refine gF ?_
    | ((first
      | ((with_reducible show CallK _ _ 35 _ _ _ _); refine CallK.val [] h35 c35 ⟨⟨rfl, rfl, trivial⟩, rfl, ⟨rfl, rfl, rfl, rfl, trivial⟩, rfl, rfl, trivial⟩ rfl rfl rfl ?_)
      | ((with_reducible show CallK _ _ 36 _ _ _ _); refine CallK.val [] h36 c36 ⟨⟨rfl, rfl, trivial⟩, rfl, ⟨rfl, rfl, rfl, rfl, trivial⟩, rfl, rfl, trivial⟩ rfl rfl rfl ?_)
      | ((with_reducible show CallK _ _ 13 _ _ _ _); refine CallK.lit [] h13 c13 ⟨⟨rfl, rfl, trivial⟩, trivial⟩ rfl rfl ?_)
      | ((with_reducible show CallK _ _ 14 _ _ _ _); refine CallK.lit [] h14 c14 ⟨⟨rfl, rfl, rfl, rfl, trivial⟩, trivial⟩ rfl rfl ?_)
      | ((with_reducible show CallK _ _ 37 _ _ _ _); refine CallK.val [] h37' c37 ⟨⟨rfl, rfl, trivial⟩, rfl, ⟨rfl, rfl, rfl, rfl, trivial⟩, rfl, rfl, trivial⟩ rfl rfl rfl ?_)
      | ((with_reducible show CallK _ _ 21 _ _ _ _); refine CallK.lit [] h21a c21 ⟨rfl, rfl, trivial⟩ rfl rfl ?_)) <;> with_reducible refine wK ?_)
    | ((with_reducible show (_ ∧ _) ∧ _ ∧ _); (refine eK ?_ ?_ <;> with_reducible repeat' (first | exact trivial | (show _ ∧ _; refine aK ?_ ?_)))))); all_goals clear fct)
      by_cases t1 : n < 0
      · obtain rfl := hnoE (by unfold elemV thereN; rw [decide_eq_false (show ¬ 0 ≤ n by omega)]; rfl)
        (have fct := (eq_true t1); (repeat' (first
    | refine gF ?_
    | ((with_reducible show (_ ∧ _) ∧ _ ∧ _); (refine eK ?_ ?_ <;> with_reducible repeat' (first | exact trivial | (show _ ∧ _; refine aK ?_ ?_)))))); all_goals clear fct)
        all_goals rfl
      by_cases t2 : (l.length : Int) ≤ n
      · obtain rfl := hnoE (by unfold elemV thereN; rw [decide_eq_false (show ¬ n < (l.length : Int) by omega), Bool.and_false]; rfl)
        (have fct := And.intro (eq_false t1) (And.intro hln ((eq_true t2))); (repeat' (first
    | refine gF ?_
    | ((with_reducible show (_ ∧ _) ∧ _ ∧ _); (refine eK ?_ ?_ <;> with_reducible repeat' (first | exact trivial | (show _ ∧ _; refine aK ?_ ?_)))))); all_goals clear fct)
        all_goals rfl
      obtain ⟨i, rfl⟩ : ∃ i : Nat, n = i := ⟨_, (Int.toNat_of_nonneg (by omega)).symm⟩
      obtain ⟨y, hy⟩ : ∃ y, l[i]? = some y := ⟨_, List.getElem?_eq_getElem (by omega)⟩
      by_cases t3 : y.kind = 1
      · obtain ⟨h38'', hBl⟩ := h38' i rfl y hy t3
        have h21b := f21n_ok B B hBl
        rw [decide_eq_true rfl] at h21b
        obtain ⟨b1, b2, b3, b4, b5, b6, b7, b8, b9, b10⟩ := y
        simp only at t3
        subst t3
        (have fct := And.intro (eq_false t1) (And.intro hln ((eq_false t2))); (repeat' (first
    | refine gF ?_
    | ((first
      | ((with_reducible show IdxK _ _ _ _ _); refine IdxK.mk i (eNode _) rfl (node_get hy) ?_)
      | ((with_reducible show CallK _ _ 38 _ _ _ _); refine CallK.val [] h38'' c38 ⟨⟨rfl, rfl, trivial⟩, rfl, ⟨rfl, rfl, rfl, rfl, trivial⟩, rfl, rfl, trivial⟩ rfl rfl rfl ?_)
      | ((with_reducible show CallK _ _ 21 _ _ _ _); refine CallK.lit [] h21b c21 ⟨rfl, rfl, trivial⟩ rfl rfl ?_)) <;> with_reducible refine wK ?_)
    | ((with_reducible show (_ ∧ _) ∧ _ ∧ _); (refine eK ?_ ?_ <;> with_reducible repeat' (first | exact trivial | (show _ ∧ _; refine aK ?_ ?_)))))); all_goals clear fct)
      · obtain rfl := hnoE (by unfold elemV; rw [nd_get hy, decide_eq_false t3, Bool.and_false])
        obtain ⟨b1, b2, b3, b4, b5, b6, b7, b8, b9, b10⟩ := y
        simp only at t3
        (have fct := And.intro (eq_false t1) (And.intro hln (And.intro (eq_false t2) ((eq_false t3)))); (repeat' (first
    | refine gF ?_
    | (((with_reducible show IdxK _ _ _ _ _); refine IdxK.mk i (eNode _) rfl (node_get hy) ?_) <;> with_reducible refine wK ?_)
    | ((with_reducible show (_ ∧ _) ∧ _ ∧ _); (refine eK ?_ ?_ <;> with_reducible repeat' (first | exact trivial | (show _ ∧ _; refine aK ?_ ?_)))))); all_goals clear fct)
        all_goals rfl
theorem f4_ok (h23 : FnOK Tryz.prog 23 [] [] [] (eBool true)) (f : ForM) (st : List StateM) (d : DeskM) (cs : List ClassM) (ns : List NoteM) (n k : Int) (s : ByteArray) : FnOK Tryz.prog 4 [] [eFor f, eStates st, eDesk d, eClasses cs, eNotes ns, eInt n, eInt k, eStr s] [] (eBool true) := by
  cases e : lookW f st d cs ns with
  | false => exact f4_long h23 f st d cs ns n k s e
  | true => exact f4_short h23 f st d cs ns n k s e
end Go.Proofs.Heir
end
section
set_option linter.unusedSimpArgs false
set_option linter.unusedVariables false
namespace Go.Proofs
open Go.Shelf
def Tryz.lays169_ren : Go.Shelf.Ren := ⟨fun | 169 => 127 | n => n, fun | 70 => 166 | 9 => 9 | 0 => 0 | 72 => 168 | 37 => 144 | 127 => 178 | 3 => 3 | 5 => 5 | n => n, fun | n => n⟩
theorem Tryz.lays169 : Go.Proofs.Lays.n169 Tryz.prog Tryz.lays169_ren := {
  mixed := by kernel_rfl
  f169 := Tryz.func127.trans (congrArg some (by kernel_rfl))
  t0 := Tryz.underlying0
  a0 := Tryz.isAgg0
  z0 := Tryz.sizeOf0
  v0 := Tryz.zeroValue0
  t3 := Tryz.underlying3
  a3 := Tryz.isAgg3
  z3 := Tryz.sizeOf3
  v3 := Tryz.zeroValue3
  t9 := Tryz.underlying9
  a9 := Tryz.isAgg9
  z9 := Tryz.sizeOf9
  v9 := Tryz.zeroValue9
  t37 := Tryz.underlying144
  a37 := Tryz.isAgg144
  z37 := Tryz.sizeOf144
  v37 := Tryz.zeroValue144
  t70 := Tryz.underlying166
  a70 := Tryz.isAgg166
  z70 := Tryz.sizeOf166
  v70 := Tryz.zeroValue166
  t72 := Tryz.underlying168
  a72 := Tryz.isAgg168
  z72 := Tryz.sizeOf168
  v72 := Tryz.zeroValue168
  t127 := Tryz.underlying178
  a127 := Tryz.isAgg178
  z127 := Tryz.sizeOf178
  v127 := Tryz.zeroValue178 }
theorem Tryz.Builder_Extra_169 : Builder.Extra Tryz.prog Tryz.lays169_ren := {
  sizeBuilder := by kernel_rfl
  liesBuilder := by kernel_rfl
  t5 := Tryz.underlying5
  a5 := Tryz.isAgg5
  z5 := Tryz.sizeOf5
  v5 := Tryz.zeroValue5
  infoByte := by kernel_rfl
  cellsByte := by kernel_rfl
  sizeByte := by kernel_rfl
  neB5 := by decide }
open Go.RowKit in
theorem Tryz.Builder_String_any (B b : Nat) (l : List UInt8) (w : World) (h : Lib.IsBuilder 168 5 B b (Lib.byteCells l) w) (hBw : B ≤ w.heap.size) :
    Calls Tryz.prog 127 #[.pointer (some ⟨b, 0, none⟩)] w fun e w' => e = .returned (.string ⟨l.toArray⟩) ∧ Below B w w' := Any.Builder_String_any Tryz.lays169 Tryz.Builder_Extra_169 B b l w h hBw
def Tryz.lays167_ren : Go.Shelf.Ren := ⟨fun | 167 => 128 | 240 => 141 | 276 => 147 | n => n, fun | 0 => 0 | 4 => 4 | 5 => 5 | 9 => 9 | 20 => 20 | 37 => 144 | 70 => 166 | 72 => 168 | 75 => 170 | 80 => 155 | 164 => 184 | n => n, fun | n => n⟩
theorem Tryz.lays167 : Go.Proofs.Lays.n167 Tryz.prog Tryz.lays167_ren := {
  mixed := by kernel_rfl
  f167 := Tryz.func128.trans (congrArg some (by kernel_rfl))
  f240 := Tryz.func141.trans (congrArg some (by kernel_rfl))
  f276 := Tryz.func147.trans (congrArg some (by kernel_rfl))
  t0 := Tryz.underlying0
  a0 := Tryz.isAgg0
  z0 := Tryz.sizeOf0
  v0 := Tryz.zeroValue0
  t4 := Tryz.underlying4
  a4 := Tryz.isAgg4
  z4 := Tryz.sizeOf4
  v4 := Tryz.zeroValue4
  t5 := Tryz.underlying5
  a5 := Tryz.isAgg5
  z5 := Tryz.sizeOf5
  v5 := Tryz.zeroValue5
  t9 := Tryz.underlying9
  a9 := Tryz.isAgg9
  z9 := Tryz.sizeOf9
  v9 := Tryz.zeroValue9
  t20 := Tryz.underlying20
  a20 := Tryz.isAgg20
  z20 := Tryz.sizeOf20
  v20 := Tryz.zeroValue20
  t37 := Tryz.underlying144
  a37 := Tryz.isAgg144
  z37 := Tryz.sizeOf144
  v37 := Tryz.zeroValue144
  t70 := Tryz.underlying166
  a70 := Tryz.isAgg166
  z70 := Tryz.sizeOf166
  v70 := Tryz.zeroValue166
  t72 := Tryz.underlying168
  a72 := Tryz.isAgg168
  z72 := Tryz.sizeOf168
  v72 := Tryz.zeroValue168
  t75 := Tryz.underlying170
  a75 := Tryz.isAgg170
  z75 := Tryz.sizeOf170
  v75 := Tryz.zeroValue170
  t164 := Tryz.underlying184
  a164 := Tryz.isAgg184
  z164 := Tryz.sizeOf184
  v164 := Tryz.zeroValue184 }
theorem Tryz.Builder_Extra_167 : Builder.Extra Tryz.prog Tryz.lays167_ren := {
  sizeBuilder := by kernel_rfl
  liesBuilder := by kernel_rfl
  t5 := Tryz.underlying5
  a5 := Tryz.isAgg5
  z5 := Tryz.sizeOf5
  v5 := Tryz.zeroValue5
  infoByte := by kernel_rfl
  cellsByte := by kernel_rfl
  sizeByte := by kernel_rfl
  neB5 := by decide }
open Go.RowKit in
theorem Tryz.Builder_WriteByte (B b : Nat) (bs : List Value) (c : Int) (w : World) (h : Lib.IsBuilder 168 5 B b bs w) (hlen : bs.length + 1 ≤ 140737488355328) (hBw : B ≤ w.heap.size) :
    Calls Tryz.prog 128 #[.pointer (some ⟨b, 0, none⟩), .int .u8 c] w fun e w' => e = .returned .nilIface ∧ (Lib.BuilderAt 168 5 B b (.pointer (some ⟨b, 0, none⟩)) (bs ++ [.int .u8 c]) w' ∧ Below B w w') := Any.Builder_WriteByte Tryz.lays167 Tryz.Builder_Extra_167 B b bs c w h hlen hBw
end Go.Proofs
end
section
set_option linter.unusedSimpArgs false
set_option linter.unusedVariables false
namespace Go.Proofs.Heir
open Go Go.Am Go.RowKit Go.Shelf
set_option maxRecDepth 100000
set_option maxHeartbeats 8000000
theorem setCell_heap (w : World) (a : Addr) (u : Value) (k : Nat) : (w.setCell a u).heap[k]? = if k = a.block then (w.heap[k]?).map (fun o => match (w.setCell a u).heap[k]? with | some o' => o' | none => o) else w.heap[k]? := by
  by_cases h : k = a.block
  · subst h
    rw [if_pos rfl]
    unfold World.setCell
    simp only [Array.getElem?_modify, if_true]
    cases w.heap[a.block]? <;> rfl
  · rw [if_neg h]
    unfold World.setCell
    simp only [Array.getElem?_modify]
    rw [if_neg (fun e => h e.symm)]
theorem setCell_ne (w : World) (a : Addr) (u : Value) {k : Nat} (h : k ≠ a.block) : (w.setCell a u).heap[k]? = w.heap[k]? := by rw [setCell_heap, if_neg h]
theorem setCell_same {w w' : World} (a : Addr) (u : Value) (h : w'.heap[a.block]? = w.heap[a.block]?) : (w'.setCell a u).heap[a.block]? = (w.setCell a u).heap[a.block]? := by
  unfold World.setCell
  simp only [Array.getElem?_modify, if_true, h]
theorem below_both {B : Nat} {w w' : World} (h : Below B w w') (a : Addr) (u : Value) (ha : a.block < B) : Below B (w.setCell a u) (w'.setCell a u) where
  os := h.os
  tape := h.tape
  output := h.output
  size := by have := h.size; simpa [World.setCell] using this
  block k hk := by
    by_cases e : k = a.block
    · subst e; exact setCell_same a u (h.block _ hk)
    · rw [setCell_ne _ _ _ e, setCell_ne _ _ _ e]; exact h.block k hk
theorem builder_setCell {T e : TypeId} {B b : Nat} {bs : List Value} {w : World} (h : Lib.IsBuilder T e B b bs w) (a : Addr) (ha : a.block < B) (u : Value) : Lib.IsBuilder T e B b bs (w.setCell a u) := by
  rcases h with ⟨hB, v, hb, hown, hne⟩ | ⟨hB, v, hb, hown, hne⟩
  · exact .inl ⟨hB, v, (setCell_ne w a u (by omega)).trans hb, ownsRow_setCell_below hown ha u, hne⟩
  · exact .inr ⟨hB, v, (setCell_ne w a u (by omega)).trans hb, ownsRow_setCell_below hown ha u, hne⟩
theorem quoted_calls (w : World) (b o : Nat) (body tail : List UInt8) (hb : ∀ c ∈ body, c ≠ 34 ∧ c ≠ 92) (hsz : body.length + tail.length ≤ 100000) (Q : World → Prop)
    (hm : Calls Tryz.prog 126 #[.pointer (some ⟨b, o, none⟩), .string ⟨#[34]⟩] w fun e w1 => e = .returned (.tuple #[]) ∧ Q w1)
    (hQ : ∀ w1, Q w1 → w1.cell? ⟨b, o + 3, none⟩ = some (.string ⟨(body ++ 34 :: tail).toArray⟩) ∧ w1.frozen? ⟨b, o + 3, none⟩ = false) :
    Calls Tryz.prog 111 #[.pointer (some ⟨b, o, none⟩)] w fun e w' => e = .returned (.string ⟨body.toArray⟩) ∧ ∃ w1, Q w1 ∧ Below w1.heap.size (w1.setCell ⟨b, o + 3, none⟩ (.string ⟨tail.toArray⟩)) w' := by
  go_enter Tryz.func111, Tryz.ntmps111
  go_wp2_with (go_at_call 126; refine hm.mono ?_; rintro e w1 ⟨rfl, hq⟩)
  obtain ⟨c1, f1⟩ := hQ w1 hq
  have hlt := World.block_lt_of_cell? _ _ c1
  have hsl : (ByteArray.mk (body ++ 34 :: tail).toArray).size = body.length + (tail.length + 1) := by simp [ByteArray.size]
  go_loopw [4] (fun i wr => ∃ k : Nat, k ≤ body.length ∧ i = .int .i64 k ∧ Lib.IsBuilder 168 5 w1.heap.size w1.heap.size (Lib.byteCells (body.take k)) wr ∧ Below w1.heap.size w1 wr ∧ w1.heap.size ≤ wr.heap.size) (fun i _ => body.length + 1 - (intOf i).toNat)
  case atStart => exact ⟨0, Nat.zero_le _, rfl, Lib.fresh_isBuilder 168 5 w1, (Below.refl _ w1).alloc (Nat.le_refl _) _, by simp⟩
  case round =>
    obtain ⟨k, hk, rfl, hbd, hbl, hsz2⟩ := hrel
    have c2 : wr.cell? ⟨b, o + 3, none⟩ = some (.string ⟨(body ++ 34 :: tail).toArray⟩) := (hbl.cell (p := ⟨b, o + 3, none⟩) hlt).trans c1
    have f2 : wr.frozen? ⟨b, o + 3, none⟩ = false := (hbl.frozen (p := ⟨b, o + 3, none⟩) hlt).trans f1
    have hklt : k < body.length + (tail.length + 1) := by omega
    by_cases hkb : k < body.length
    · have hkS : k < (ByteArray.mk (body ++ 34 :: tail).toArray).size := by rw [hsl]; omega
      have hgk : (ByteArray.mk (body ++ 34 :: tail).toArray)[k]'hkS = body[k] := by
        show (body ++ 34 :: tail).toArray[k] = _
        rw [List.getElem_toArray, List.getElem_append_left hkb]
      obtain ⟨m, hm⟩ : ∃ m : UInt8, body[k] = m := ⟨_, rfl⟩
      have hmm := hb m (by rw [← hm]; exact List.getElem_mem hkb)
      have q1 : ((m.toNat : Int) == 34) = false := by
        rw [beq_eq_false_iff_ne]; intro h; exact hmm.1 (UInt8.toNat_inj.1 (by show m.toNat = 34; omega))
      have q2 : ((m.toNat : Int) == 92) = false := by
        rw [beq_eq_false_iff_ne]; intro h; exact hmm.2 (UInt8.toNat_inj.1 (by show m.toNat = 92; omega))
      have q3 : ¬ (m.toNat : Int) = 34 := by simpa using q1
      have q4 : ¬ (m.toNat : Int) = 92 := by simpa using q2
      rw [hm] at hgk
      have hwb := Tryz.Builder_WriteByte w1.heap.size w1.heap.size (Lib.byteCells (body.take k)) m.toNat wr hbd (by rw [show (Lib.byteCells (body.take k)).length = (body.take k).length from List.length_map .., List.length_take]; omega) hsz2
      have htk : Lib.byteCells (body.take k) ++ [.int .u8 (m.toNat : Int)] = Lib.byteCells (body.take (k + 1)) := by
        rw [List.take_add_one, List.getElem?_eq_getElem hkb, hm]
        simp [Lib.byteCells]
      rw [htk] at hwb
      clear hb hmm hsl
      go_wp2_with (go_at_call 128; refine hwb.mono ?_; rintro e w2 ⟨rfl, h2, h3⟩)
      exact ⟨⟨k + 1, hkb, by congr 1, .inr h2, hbl.trans h3, by have := h3.size; omega⟩, by simp [intOf]; omega⟩
    · obtain rfl : k = body.length := by omega
      have hkS : body.length < (ByteArray.mk (body ++ 34 :: tail).toArray).size := by rw [hsl]; omega
      have hgk : (ByteArray.mk (body ++ 34 :: tail).toArray)[body.length]'hkS = 34 := by
        show (body ++ 34 :: tail).toArray[body.length] = _
        rw [List.getElem_toArray, List.getElem_append_right (Nat.le_refl _)]
        simp
      have hex : (ByteArray.mk (body ++ 34 :: tail).toArray).extract (body.length + 1) (body.length + (tail.length + 1)) = ⟨tail.toArray⟩ := by
        rw [cut_strOf]
        show strOf (((body ++ 34 :: tail).take (body.length + (tail.length + 1))).drop (body.length + 1)) = strOf tail
        rw [List.take_of_length_le (by simp), show body ++ 34 :: tail = (body ++ [34]) ++ tail by simp, List.drop_left' (by simp)]
      rw [List.take_length] at hbd
      have hst := Tryz.Builder_String_any w1.heap.size w1.heap.size body (wr.setCell ⟨b, o + 3, none⟩ (.string ⟨tail.toArray⟩)) (builder_setCell hbd ⟨b, o + 3, none⟩ hlt _) (by simpa [World.setCell] using hsz2)
      have h34 : ((34 : UInt8).toNat : Int) = 34 := rfl
      clear hb
      go_wp2_with (go_at_call 127; refine hst.mono ?_; rintro e w2 ⟨rfl, h3⟩)
      go_ret
      exact ⟨rfl, w1, hq, (below_both hbl _ _ hlt).trans h3⟩
end Go.Proofs.Heir
end
section
set_option linter.unusedSimpArgs false
set_option linter.unusedVariables false
namespace Go.Proofs.Heir
open Go Go.Am Go.RowKit Go.Shelf
set_option maxRecDepth 100000
set_option maxHeartbeats 8000000
theorem setCell_row {w : World} {b j : Nat} {C : Array Value} {e : TypeId} {fz : Nat × Nat} (hC : w.heap[b]? = some (.cells C e fz)) (u : Value) : w.setCell ⟨b, j, none⟩ u = w.setRow b (C.setIfInBounds j u) := by
  unfold World.setCell World.setRow
  congr 1
  apply Array.ext_getElem?
  intro k
  simp only [Array.getElem?_modify]
  by_cases e : b = k
  · subst e; simp [hC]
  · simp [e]
theorem f111_ok (x0 x1 x2 : AV) (s0 : ByteArray) (body tail : List UInt8) (rest : List MS) (hb : ∀ c ∈ body, c ≠ 34 ∧ c ≠ 92) (hsz : body.length + tail.length ≤ 100000)
    (h126 : FnOK Tryz.prog 126 (.live 5 [.agg [x0, x1, x2, .lit (.string s0), .lit (.bool false)]] false :: rest) [.ptr 0 0 0, .lit (.string ⟨#[34]⟩)] (.live 5 [.agg [x0, x1, x2, .lit (.string ⟨(body ++ 34 :: tail).toArray⟩), .lit (.bool false)]] false :: rest) (.tup [])) :
    FnOK Tryz.prog 111 (.live 5 [.agg [x0, x1, x2, .lit (.string s0), .lit (.bool false)]] false :: rest) [.ptr 0 0 0] (.live 5 [.agg [x0, x1, x2, .lit (.string ⟨tail.toArray⟩), .lit (.bool false)]] false :: rest) (.lit (.string ⟨body.toArray⟩)) := by
  intro w W0 L vs hL hs hr
  obtain ⟨v, us, rfl, hv, hus⟩ := RepL.uncons hr
  obtain rfl := RepL.unnil hus
  obtain ⟨B, hB, hmp, rfl⟩ : ∃ B, L 0 = some B ∧ B.mp = false ∧ v = .pointer (some ⟨B.b, B.o + (0 * B.wd + 0), none⟩) := by cases hv with | ptr h1 h2 => exact ⟨_, h1, h2, rfl⟩
  rw [Nat.zero_mul, Nat.zero_add, Nat.add_zero] at hv
  rw [Nat.zero_mul, Nat.zero_add, Nat.add_zero]
  have look : ∀ (s1 : ByteArray) (μ' : Mu) (w1 : World), Sim Tryz.prog 0 w W0 L μ' (bare (.live 5 [.agg [x0, x1, x2, .lit (.string s1), .lit (.bool false)]] false :: rest)) noAct w1 → μ' 0 = some B ∧ ObjAt (Wr W0 μ' (objsOf (.live 5 [.agg [x0, x1, x2, .lit (.string s1), .lit (.bool false)]] false :: rest))) μ' w1 B 5 [.agg [x0, x1, x2, .lit (.string s1), .lit (.bool false)]] false := by
    intro s1 μ' w1 hs1
    obtain ⟨B', hB', ho⟩ := hs1.objs 0 5 _ false rfl
    have h := hs1.lentμ 0 B (by decide) hB
    rw [h] at hB'
    cases hB'
    exact ⟨h, ho⟩
  refine (quoted_calls w B.b B.o body tail hb hsz (fun w1 => ∃ μ', Sim Tryz.prog 0 w W0 L μ' (bare (.live 5 [.agg [x0, x1, x2, .lit (.string ⟨(body ++ 34 :: tail).toArray⟩), .lit (.bool false)]] false :: rest)) noAct w1) ?_ ?_).mono ?_
  · refine (h126 w W0 L [.pointer (some ⟨B.b, B.o, none⟩), .string ⟨#[34]⟩] hL hs (.cons hv (.cons .lit .nil))).mono ?_
    rintro e w1 ⟨u, μ', rfl, hs1, hu⟩
    cases hu with
    | tup h1 h2 =>
      rename_i vs
      obtain rfl : vs = [] := List.eq_nil_of_length_eq_zero h1
      exact ⟨rfl, μ', hs1⟩
  · rintro w1 ⟨μ', hs1⟩
    obtain ⟨h1, ho⟩ := look _ μ' w1 hs1
    obtain ⟨u, hu1, hu2⟩ := ho.cell hmp 3 (.lit (.string ⟨(body ++ 34 :: tail).toArray⟩)) rfl
    have hvirt := ho.real (i := 0) rfl
    obtain ⟨C, e, fz, c1, c2, _⟩ := ho.blk hvirt hmp
    rw [c2 rfl] at c1
    refine ⟨?_, Lib.frozen_of_heap c1 _⟩
    rw [hu1]; cases hu2; rfl
  · rintro e w' ⟨rfl, w1, ⟨μ', hs1⟩, hbel⟩
    obtain ⟨h1, ho⟩ := look _ μ' w1 hs1
    have hvirt := ho.real (i := 0) rfl
    obtain ⟨C, e, fz, c1, c2, c3⟩ := ho.blk hvirt hmp
    rw [c2 rfl] at c1
    have hset := hs1.setObj (t := 0) (rows' := [.agg [x0, x1, x2, .lit (.string ⟨tail.toArray⟩), .lit (.bool false)]]) (C' := C.setIfInBounds (B.o + 3) (.string ⟨tail.toArray⟩)) rfl h1 hvirt hmp c1 (by simp) rfl (Wide.of_mem fun r hr => by rw [List.mem_singleton] at hr; subst hr; rfl) (fun q c hc => ?_)
    · rw [← setCell_row c1] at hset
      refine ⟨_, μ', rfl, ?_, .lit⟩
      have hm := hset.more (w' := w') ⟨hbel.os, hbel.tape, hbel.output, hbel.size, fun k hk => hbel.block k (by simpa [World.setCell] using hk)⟩
      have e : (⟨(bare (.live 5 [.agg [x0, x1, x2, .lit (.string ⟨(body ++ 34 :: tail).toArray⟩), .lit (.bool false)]] false :: rest)).slots, updM (bare (.live 5 [.agg [x0, x1, x2, .lit (.string ⟨(body ++ 34 :: tail).toArray⟩), .lit (.bool false)]] false :: rest)).mem [(0, .live 5 [.agg [x0, x1, x2, .lit (.string ⟨tail.toArray⟩), .lit (.bool false)]] false)]⟩ : AState) = bare (.live 5 [.agg [x0, x1, x2, .lit (.string ⟨tail.toArray⟩), .lit (.bool false)]] false :: rest) := by
        unfold bare
        congr 1
        funext t
        cases t with
        | zero => rfl
        | succ t => rfl
      rw [e] at hm
      exact hm
    · have hq5 : q < 5 := by
        have := (List.getElem?_eq_some_iff.1 hc).1
        simpa [flat, cells] using this
      by_cases h3 : q = 3
      · subst h3
        obtain rfl : AV.lit (.string ⟨tail.toArray⟩) = c := Option.some.inj hc
        refine ⟨_, ?_, .lit⟩
        rw [Array.getElem?_setIfInBounds_self_of_lt]
        have : [AV.agg [x0, x1, x2, .lit (.string ⟨(body ++ 34 :: tail).toArray⟩), .lit (.bool false)]].length * 5 = 5 := rfl
        omega
      · have hc' : (flat [AV.agg [x0, x1, x2, .lit (.string ⟨(body ++ 34 :: tail).toArray⟩), .lit (.bool false)]])[q]? = some c := by
          rw [← hc]
          match q, hq5, h3 with
          | 0, _, _ => rfl
          | 1, _, _ => rfl
          | 2, _, _ => rfl
          | 4, _, _ => rfl
        obtain ⟨u, hu1, hu2⟩ := ho.cell hmp q c hc'
        rw [Lib.cell_of_heap c1] at hu1
        exact ⟨u, by rw [Array.getElem?_setIfInBounds_ne (by omega)]; exact hu1, hu2⟩
end Go.Proofs.Heir
end
section
set_option linter.unusedSimpArgs false
set_option linter.unusedVariables false
namespace Go.Proofs.Heir
open Go Go.Am
set_option maxRecDepth 100000
set_option maxHeartbeats 8000000
def mIns (s : ByteArray) : List MS := [.live 5 [.agg [.own 1 0 1, .lit (.int .i64 (400)), .lit (.int .i64 (0)), .lit (.string s), .lit (.bool false)]] false, .live 10 [.agg [.lit (.int .i64 (0)), .lit (.string ⟨⟨[]⟩⟩), .lit (.string ⟨⟨[]⟩⟩), .lit (.string ⟨⟨[]⟩⟩), .lit (.slice none 0 0), .lit (.int .i64 (-1)), .lit (.slice none 0 0), .lit (.int .i64 (-1)), .lit (.int .i64 (-1)), .lit (.int .i64 (0))]] false]
def m1 : Ans := ⟨126, mIns ⟨⟨[34, 49, 34, 32, 98, 61, 34, 50, 34, 62, 60, 47, 120, 45, 97, 62]⟩⟩, [.ptr 0 0 0, .lit (.string ⟨⟨[34]⟩⟩)], mIns ⟨⟨[49, 34, 32, 98, 61, 34, 50, 34, 62, 60, 47, 120, 45, 97, 62]⟩⟩, .tup []⟩
theorem m1_run : runF envA 1000 60 m1.g m1.ins m1.args = some (m1.outs, m1.res) := by kernel_rfl
def m2 : Ans := ⟨126, mIns ⟨⟨[34, 50, 34, 62, 60, 47, 120, 45, 97, 62]⟩⟩, [.ptr 0 0 0, .lit (.string ⟨⟨[34]⟩⟩)], mIns ⟨⟨[50, 34, 62, 60, 47, 120, 45, 97, 62]⟩⟩, .tup []⟩
theorem m2_run : runF envA 1000 60 m2.g m2.ins m2.args = some (m2.outs, m2.res) := by kernel_rfl
def q1 : Ans := ⟨111, mIns ⟨⟨[34, 49, 34, 32, 98, 61, 34, 50, 34, 62, 60, 47, 120, 45, 97, 62]⟩⟩, [.ptr 0 0 0], mIns ⟨⟨[32, 98, 61, 34, 50, 34, 62, 60, 47, 120, 45, 97, 62]⟩⟩, .lit (.string ⟨⟨[49]⟩⟩)⟩
theorem q1_ok : q1.OK Tryz.prog := ⟨f111_ok (.own 1 0 1) (.lit (.int .i64 400)) (.lit (.int .i64 0)) _ [49] [32, 98, 61, 34, 50, 34, 62, 60, 47, 120, 45, 97, 62] _ (by decide) (by decide) (Ans.of envA_good m1_run).1, c111⟩
def q2 : Ans := ⟨111, mIns ⟨⟨[34, 50, 34, 62, 60, 47, 120, 45, 97, 62]⟩⟩, [.ptr 0 0 0], mIns ⟨⟨[62, 60, 47, 120, 45, 97, 62]⟩⟩, .lit (.string ⟨⟨[50]⟩⟩)⟩
theorem q2_ok : q2.OK Tryz.prog := ⟨f111_ok (.own 1 0 1) (.lit (.int .i64 400)) (.lit (.int .i64 0)) _ [50] [62, 60, 47, 120, 45, 97, 62] _ (by decide) (by decide) (Ans.of envA_good m2_run).1, c111⟩
theorem q12_ok : ∀ r ∈ [q1, q2], r.OK Tryz.prog := Ans.cons q1_ok (Ans.cons q2_ok (fun _ h => by cases h))
end Go.Proofs.Heir
end
section
set_option linter.unusedSimpArgs false
set_option linter.unusedVariables false
namespace Go.Proofs.Heir
open Go Go.Am Go.RowKit Go.Lib
set_option maxRecDepth 100000
set_option maxHeartbeats 8000000
def wT : ByteArray := ⟨⟨[60, 120, 45, 97, 32, 97, 61, 34, 49, 34, 32, 98, 61, 34, 50, 34, 62, 60, 47, 120, 45, 97, 62]⟩⟩
def wR : Ans := ⟨41, [], [.lit (.string wT), .lit (.int .i64 (9))], [.live 10 [.agg [.lit (.int .i64 (0)), .lit (.string ⟨⟨[]⟩⟩), .lit (.string ⟨⟨[]⟩⟩), .lit (.string ⟨⟨[]⟩⟩), .lit (.slice none 0 0), .lit (.int .i64 (-1)), .lit (.slice none 0 0), .lit (.int .i64 (-1)), .lit (.int .i64 (-1)), .lit (.int .i64 (0))], .agg [.lit (.int .i64 (1)), .lit (.string ⟨⟨[120, 45, 97]⟩⟩), .lit (.string ⟨⟨[]⟩⟩), .lit (.string ⟨⟨[]⟩⟩), .own 1 0 2, .lit (.int .i64 (-1)), .lit (.slice none 0 0), .lit (.int .i64 (-1)), .lit (.int .i64 (-1)), .lit (.int .i64 (0))]] false, .live 2 [.agg [.lit (.string ⟨⟨[97]⟩⟩), .lit (.string ⟨⟨[49]⟩⟩)], .agg [.lit (.string ⟨⟨[98]⟩⟩), .lit (.string ⟨⟨[50]⟩⟩)]] false], .tup [.agg [.own 0 0 2, .lit (.int .i64 (9))], .lit (.int .i64 (1)), .lit (.int .i64 (0))]⟩
theorem wR_run : runF (envA.more [q1, q2]) 1000 60 wR.g wR.ins wR.args = some (wR.outs, wR.res) := by kernel_rfl
theorem wR_ok : wR.OK Tryz.prog := Ans.of (EEnv.more_good envA_good q12_ok) wR_run
def wA : ByteArray := ⟨#[97]⟩
def wB : ByteArray := ⟨#[98]⟩
def w1 : ByteArray := ⟨#[49]⟩
def w2 : ByteArray := ⟨#[50]⟩
def wF : ForM := ⟨[⟨0, ⟨#[]⟩, ⟨#[]⟩, ⟨#[]⟩, [], -1, [], -1, -1, 0⟩, ⟨1, awA, ⟨#[]⟩, ⟨#[]⟩, [⟨wA, w1⟩, ⟨wB, w2⟩], -1, [], -1, -1, 0⟩], 9⟩
theorem wfresh_ok : FnOK Tryz.prog 41 [] [eStr wT, eInt 9] [] (.tup [eFor wF, eInt 1, eInt 0]) := by
  have h := wR_ok.1
  refine FnOK.frozen (objsR 0 wR.outs) ?_ (by kernel_rfl) h ?_
  · funext t
    match t with
    | 0 => rfl
    | 1 => rfl
    | n + 2 => rfl
  · have nil2 : ∀ wd, NilK (.sl wd []) := fun wd => .inr (.inr ⟨wd, rfl⟩)
    refine ⟨⟨⟨10, _, _, _, rfl, rfl, rfl, by decide, rfl, RowsM.of ⟨?_, ?_, trivial⟩⟩, rfl, trivial⟩, rfl, rfl, trivial⟩
    · exact ⟨rfl, rfl, rfl, rfl, nil2 _, rfl, nil2 _, rfl, rfl, rfl, trivial⟩
    · exact ⟨rfl, rfl, rfl, rfl, ⟨2, _, _, _, rfl, rfl, rfl, by decide, rfl, RowsM.of ⟨⟨rfl, rfl, trivial⟩, ⟨rfl, rfl, trivial⟩, trivial⟩⟩, rfl, nil2 _, rfl, rfl, rfl, trivial⟩
def wDk : DeskM := ⟨[⟨awA, awA, 0⟩], [], 0, false⟩
def wO : OpM := ⟨22, 0, 0, 0, ⟨#[]⟩, ⟨#[]⟩, false⟩
def wCl : ClassM := ⟨false, [wA], [], [], [⟨4, [wO]⟩, ⟨1, []⟩]⟩
def wN (k : Int) (s : ByteArray) : NoteM := ⟨k, 1, 0, 0, s, false, false, ⟨#[]⟩, ⟨#[]⟩⟩
theorem w_small : SmallN wF.nodes := ⟨by decide, by decide, by decide, by decide⟩
theorem w_smallD : SmallD wDk := ⟨by decide, by decide⟩
theorem w_smallC : SmallC [wCl] := by
  intro c hc
  rw [List.mem_singleton] at hc
  subst hc
  exact ⟨by decide, by decide, by decide, by decide, by decide⟩
def wS (p df : Int) : List StateM := [⟨0, -1, -1, false⟩, ⟨p, df, -1, false⟩]
theorem aw36 : FnOK Tryz.prog 36 [] [eFor wF, eStates (wS 4 0), eDesk wDk, eClasses [wCl], eInt 1] [] (eDuesN [⟨1, ⟨4, 0, wA, false, true, ⟨#[]⟩, w1, 0, 0, false⟩⟩]) := by
  have h := f36_ok wF w_small (wS 4 0) wDk w_smallD [wCl] w_smallC 1
  rwa [show firstL wF (wS 4 0) wDk [wCl] 1 = [⟨1, ⟨4, 0, wA, false, true, ⟨#[]⟩, w1, 0, 0, false⟩⟩] from by kernel_rfl] at h
theorem aw35a : FnOK Tryz.prog 35 [] [eFor wF, eStates (wS 1 (-1)), eDesk wDk, eClasses [wCl], eNotes [wN 1 ⟨#[]⟩, wN 2 ⟨#[]⟩]] [] (eDuesN [⟨1, ⟨9, 0, ⟨#[]⟩, false, false, ⟨#[]⟩, ⟨#[]⟩, 0, 0, false⟩⟩]) := by
  have h := f35_ok wF w_small (wS 1 (-1)) wDk w_smallD [wCl] w_smallC [wN 1 ⟨#[]⟩, wN 2 ⟨#[]⟩] (by decide)
  rwa [show dueL wF (wS 1 (-1)) wDk [wCl] [wN 1 ⟨#[]⟩, wN 2 ⟨#[]⟩] = [⟨1, ⟨9, 0, ⟨#[]⟩, false, false, ⟨#[]⟩, ⟨#[]⟩, 0, 0, false⟩⟩] from by kernel_rfl] at h
theorem aw35b : FnOK Tryz.prog 35 [] [eFor wF, eStates (wS 3 0), eDesk wDk, eClasses [wCl], eNotes [wN 1 ⟨#[]⟩, wN 2 ⟨#[]⟩, wN 4 wB]] [] (eDuesN [⟨1, ⟨1, 0, ⟨#[]⟩, false, false, ⟨#[]⟩, ⟨#[]⟩, 0, 0, false⟩⟩]) := by
  have h := f35_ok wF w_small (wS 3 0) wDk w_smallD [wCl] w_smallC [wN 1 ⟨#[]⟩, wN 2 ⟨#[]⟩, wN 4 wB] (by decide)
  rwa [show dueL wF (wS 3 0) wDk [wCl] [wN 1 ⟨#[]⟩, wN 2 ⟨#[]⟩, wN 4 wB] = [⟨1, ⟨1, 0, ⟨#[]⟩, false, false, ⟨#[]⟩, ⟨#[]⟩, 0, 0, false⟩⟩] from by kernel_rfl] at h
theorem aw32 : FnOK Tryz.prog 32 [] [eState ⟨0, -1, -1, false⟩, eDesk wDk, eClasses [wCl]] [] (.tup [eClass noClass, eBool false]) := by
  have h := f32_ok ⟨0, -1, -1, false⟩ wDk [wCl]
  rwa [show classV ⟨0, -1, -1, false⟩ wDk [wCl] = noClass from by kernel_rfl, show classB ⟨0, -1, -1, false⟩ wDk [wCl] = false from by kernel_rfl] at h
theorem aw30 : FnOK Tryz.prog 30 [] [eClass wCl, eInt 4] [] (eOps [wO]) := by
  have h := f30_ok wCl (by decide) (by decide) 4
  rwa [show progC wCl 4 = [wO] from by kernel_rfl] at h
theorem aw25 : FnOK Tryz.prog 25 [] [eClass wCl, eInt 1] [] (eBool true) := by
  have h := f25_ok wCl (by decide) 1
  rwa [show hearsC wCl 1 = true from by kernel_rfl] at h
theorem aw27 : FnOK Tryz.prog 27 [] [eClass wCl, eStr wB] [] (eBool false) := by
  have h := f27_ok wCl (by decide) (by decide) wB
  rwa [show watchesC wCl wB = false from by kernel_rfl] at h
end Go.Proofs.Heir
end
section
set_option linter.unusedSimpArgs false
set_option linter.unusedVariables false
namespace Go.Proofs.Heir
open Go Go.Am Go.RowKit Go.Lib
set_option maxRecDepth 100000
set_option maxHeartbeats 8000000
theorem f23_ok : FnOK Tryz.prog 23 [] [] [] (eBool true) := by
  have nil2 : ∀ wd, NilK (.sl wd []) := fun wd => .inr (.inr ⟨wd, rfl⟩)
  refine FnOK.startC (rvs := [.tmp 0]) G G_good Tryz.func23 rfl Tryz.ntmps23 rfl rfl ?_; with_reducible refine wD ?_
  refine CallK.val [] wfresh_ok c41 ⟨rfl, rfl, trivial⟩ rfl rfl rfl ?_; with_reducible refine wK ?_
  repeat' (first
    | refine gK ?_
    | ((first
      | ((with_reducible show CallK _ _ 36 _ _ _ _); refine CallK.val [181, 201, 221, 251, 271, 321] aw36 c36 ⟨⟨rfl, rfl, trivial⟩, ⟨4, _, _, _, rfl, rfl, rfl, by decide, rfl, RowsM.of ⟨⟨rfl, rfl, rfl, rfl, trivial⟩, ⟨rfl, rfl, rfl, rfl, trivial⟩, trivial⟩⟩, ⟨⟨3, _, _, _, rfl, rfl, rfl, by decide, rfl, RowsM.of ⟨⟨rfl, rfl, rfl, trivial⟩, trivial⟩⟩, nil2 _, rfl, rfl, trivial⟩, ⟨5, _, _, _, rfl, rfl, rfl, by decide, rfl, RowsM.of ⟨⟨rfl, ⟨1, _, _, _, rfl, rfl, rfl, by decide, rfl, RowsM.of ⟨rfl, trivial⟩⟩, nil2 _, nil2 _, ⟨2, _, _, _, rfl, rfl, rfl, by decide, rfl, RowsM.of ⟨⟨rfl, ⟨7, _, _, _, rfl, rfl, rfl, by decide, rfl, RowsM.of ⟨⟨rfl, rfl, rfl, rfl, rfl, rfl, rfl, trivial⟩, trivial⟩⟩, trivial⟩, ⟨rfl, nil2 _, trivial⟩, trivial⟩⟩, trivial⟩, trivial⟩⟩, rfl, trivial⟩ rfl rfl rfl ?_)
      | ((with_reducible show CallK _ _ 35 _ _ _ _); first | refine CallK.val [181, 201, 221, 251, 271, 401, 451] aw35a c35 ⟨⟨rfl, rfl, trivial⟩, ⟨4, _, _, _, rfl, rfl, rfl, by decide, rfl, RowsM.of ⟨⟨rfl, rfl, rfl, rfl, trivial⟩, ⟨rfl, rfl, rfl, rfl, trivial⟩, trivial⟩⟩, ⟨⟨3, _, _, _, rfl, rfl, rfl, by decide, rfl, RowsM.of ⟨⟨rfl, rfl, rfl, trivial⟩, trivial⟩⟩, nil2 _, rfl, rfl, trivial⟩, ⟨5, _, _, _, rfl, rfl, rfl, by decide, rfl, RowsM.of ⟨⟨rfl, ⟨1, _, _, _, rfl, rfl, rfl, by decide, rfl, RowsM.of ⟨rfl, trivial⟩⟩, nil2 _, nil2 _, ⟨2, _, _, _, rfl, rfl, rfl, by decide, rfl, RowsM.of ⟨⟨rfl, ⟨7, _, _, _, rfl, rfl, rfl, by decide, rfl, RowsM.of ⟨⟨rfl, rfl, rfl, rfl, rfl, rfl, rfl, trivial⟩, trivial⟩⟩, trivial⟩, ⟨rfl, nil2 _, trivial⟩, trivial⟩⟩, trivial⟩, trivial⟩⟩, ⟨9, _, _, _, rfl, rfl, rfl, by decide, rfl, RowsM.of ⟨⟨rfl, rfl, rfl, rfl, rfl, rfl, rfl, rfl, rfl, trivial⟩, ⟨rfl, rfl, rfl, rfl, rfl, rfl, rfl, rfl, rfl, trivial⟩, trivial⟩⟩, trivial⟩ rfl rfl rfl ?_ | refine CallK.val [181, 201, 221, 251, 271, 501, 561] aw35b c35 ⟨⟨rfl, rfl, trivial⟩, ⟨4, _, _, _, rfl, rfl, rfl, by decide, rfl, RowsM.of ⟨⟨rfl, rfl, rfl, rfl, trivial⟩, ⟨rfl, rfl, rfl, rfl, trivial⟩, trivial⟩⟩, ⟨⟨3, _, _, _, rfl, rfl, rfl, by decide, rfl, RowsM.of ⟨⟨rfl, rfl, rfl, trivial⟩, trivial⟩⟩, nil2 _, rfl, rfl, trivial⟩, ⟨5, _, _, _, rfl, rfl, rfl, by decide, rfl, RowsM.of ⟨⟨rfl, ⟨1, _, _, _, rfl, rfl, rfl, by decide, rfl, RowsM.of ⟨rfl, trivial⟩⟩, nil2 _, nil2 _, ⟨2, _, _, _, rfl, rfl, rfl, by decide, rfl, RowsM.of ⟨⟨rfl, ⟨7, _, _, _, rfl, rfl, rfl, by decide, rfl, RowsM.of ⟨⟨rfl, rfl, rfl, rfl, rfl, rfl, rfl, trivial⟩, trivial⟩⟩, trivial⟩, ⟨rfl, nil2 _, trivial⟩, trivial⟩⟩, trivial⟩, trivial⟩⟩, ⟨9, _, _, _, rfl, rfl, rfl, by decide, rfl, RowsM.of ⟨⟨rfl, rfl, rfl, rfl, rfl, rfl, rfl, rfl, rfl, trivial⟩, ⟨rfl, rfl, rfl, rfl, rfl, rfl, rfl, rfl, rfl, trivial⟩, ⟨rfl, rfl, rfl, rfl, rfl, rfl, rfl, rfl, rfl, trivial⟩, trivial⟩⟩, trivial⟩ rfl rfl rfl ?_)
      | ((with_reducible show CallK _ _ 32 _ _ _ _); refine CallK.val [181, 201, 221, 251, 271] aw32 c32 ⟨⟨rfl, rfl, rfl, rfl, trivial⟩, ⟨⟨3, _, _, _, rfl, rfl, rfl, by decide, rfl, RowsM.of ⟨⟨rfl, rfl, rfl, trivial⟩, trivial⟩⟩, nil2 _, rfl, rfl, trivial⟩, ⟨5, _, _, _, rfl, rfl, rfl, by decide, rfl, RowsM.of ⟨⟨rfl, ⟨1, _, _, _, rfl, rfl, rfl, by decide, rfl, RowsM.of ⟨rfl, trivial⟩⟩, nil2 _, nil2 _, ⟨2, _, _, _, rfl, rfl, rfl, by decide, rfl, RowsM.of ⟨⟨rfl, ⟨7, _, _, _, rfl, rfl, rfl, by decide, rfl, RowsM.of ⟨⟨rfl, rfl, rfl, rfl, rfl, rfl, rfl, trivial⟩, trivial⟩⟩, trivial⟩, ⟨rfl, nil2 _, trivial⟩, trivial⟩⟩, trivial⟩, trivial⟩⟩, trivial⟩ rfl rfl rfl ?_)) <;> with_reducible refine wK ?_)
    | ((with_reducible show (_ ∧ _) ∧ _ ∧ _); (refine eK ?_ ?_ <;> with_reducible repeat' (first | exact trivial | (show _ ∧ _; refine aK ?_ ?_)))))
  dsimp only [List.append]; with_reducible refine wK ?_
  repeat' (first
    | refine gK ?_
    | ((first
      | ((with_reducible show CallK _ _ 30 _ _ _ _); refine CallK.val [181, 201, 221, 251, 271] aw30 c30 ⟨⟨rfl, ⟨1, _, _, _, rfl, rfl, rfl, by decide, rfl, RowsM.of ⟨rfl, trivial⟩⟩, nil2 _, nil2 _, ⟨2, _, _, _, rfl, rfl, rfl, by decide, rfl, RowsM.of ⟨⟨rfl, ⟨7, _, _, _, rfl, rfl, rfl, by decide, rfl, RowsM.of ⟨⟨rfl, rfl, rfl, rfl, rfl, rfl, rfl, trivial⟩, trivial⟩⟩, trivial⟩, ⟨rfl, nil2 _, trivial⟩, trivial⟩⟩, trivial⟩, rfl, trivial⟩ rfl rfl rfl ?_)
      | ((with_reducible show CallK _ _ 25 _ _ _ _); refine CallK.lit [181, 201, 221, 251, 271] aw25 c25 ⟨⟨rfl, ⟨1, _, _, _, rfl, rfl, rfl, by decide, rfl, RowsM.of ⟨rfl, trivial⟩⟩, nil2 _, nil2 _, ⟨2, _, _, _, rfl, rfl, rfl, by decide, rfl, RowsM.of ⟨⟨rfl, ⟨7, _, _, _, rfl, rfl, rfl, by decide, rfl, RowsM.of ⟨⟨rfl, rfl, rfl, rfl, rfl, rfl, rfl, trivial⟩, trivial⟩⟩, trivial⟩, ⟨rfl, nil2 _, trivial⟩, trivial⟩⟩, trivial⟩, rfl, trivial⟩ rfl rfl ?_)
      | ((with_reducible show CallK _ _ 27 _ _ _ _); refine CallK.lit [181, 201, 221, 251, 271] aw27 c27 ⟨⟨rfl, ⟨1, _, _, _, rfl, rfl, rfl, by decide, rfl, RowsM.of ⟨rfl, trivial⟩⟩, nil2 _, nil2 _, ⟨2, _, _, _, rfl, rfl, rfl, by decide, rfl, RowsM.of ⟨⟨rfl, ⟨7, _, _, _, rfl, rfl, rfl, by decide, rfl, RowsM.of ⟨⟨rfl, rfl, rfl, rfl, rfl, rfl, rfl, trivial⟩, trivial⟩⟩, trivial⟩, ⟨rfl, nil2 _, trivial⟩, trivial⟩⟩, trivial⟩, rfl, trivial⟩ rfl rfl ?_)
      | ((with_reducible show IdxK _ _ _ _ _); first | refine IdxK.mk 0 (eDueN ⟨1, ⟨4, 0, wA, false, true, ⟨#[]⟩, w1, 0, 0, false⟩⟩) rfl rfl ?_ | refine IdxK.mk 0 (eDueN ⟨1, ⟨9, 0, ⟨#[]⟩, false, false, ⟨#[]⟩, ⟨#[]⟩, 0, 0, false⟩⟩) rfl rfl ?_ | refine IdxK.mk 0 (eDueN ⟨1, ⟨1, 0, ⟨#[]⟩, false, false, ⟨#[]⟩, ⟨#[]⟩, 0, 0, false⟩⟩) rfl rfl ?_)
      | ((with_reducible show LtK _ _ _ _ _); refine LtK.mk 0 rfl (by decide) ?_)
      | ((with_reducible show ElemK _ _ _ _ _); refine ElemK.mk _ rfl ?_)
      | ((with_reducible show EqK _ _ _ _ _ _ _ _); refine EqK.mk _ (fun y z w => todoN_eql ⟨4, 0, wA, false, true, ⟨#[]⟩, w1, 0, 0, false⟩ ⟨4, 0, wA, false, true, ⟨#[]⟩, w1, 0, 0, false⟩ y z w) ?_)) <;> with_reducible refine wK ?_)
    | ((with_reducible show (_ ∧ _) ∧ _ ∧ _); (refine eK ?_ ?_ <;> with_reducible repeat' (first | exact trivial | (show _ ∧ _; refine aK ?_ ?_)))))
  all_goals rfl
end Go.Proofs.Heir
end
section
set_option linter.unusedSimpArgs false
set_option linter.unusedVariables false
namespace Go.Proofs.Heir
open Go Go.Am Go.RowKit
theorem rStr : Reads Tryz.prog 9 1 eStr (fun s => s.size ≤ maxLen) := Reads.str Tryz.underlying9 (by kernel_rfl)
theorem rInt : Reads Tryz.prog 3 1 oInt (fun _ => True) := (Reads.int Tryz.underlying3 (by kernel_rfl)).conv id id (fun _ => rfl) (fun _ => rfl) (fun _ _ => trivial)
theorem rBool : Reads Tryz.prog 4 1 (fun b : Bool => .lit (.bool b)) (fun _ => True) := Reads.bool Tryz.underlying4 (by kernel_rfl)
theorem rDef : Reads Tryz.prog 30 3 oDef (fun _ => True) :=
  (Reads.struct (l := [(0, 9), (1, 9), (2, 3)]) Tryz.underlying30 (by kernel_rfl) rfl (.cons rStr (.cons rStr (.cons rInt .nil)))).conv
    (fun (a, b, c, _) => ⟨a, b, c⟩) (fun t => (t.name, t.locl, t.cls, ())) (fun _ => rfl) (fun _ => rfl) (fun _ _ => trivial)
theorem rWait : Reads Tryz.prog 85 2 oWait (fun _ => True) :=
  (Reads.struct (l := [(0, 9), (1, 3)]) Tryz.underlying85 (by kernel_rfl) rfl (.cons rStr (.cons rInt .nil))).conv
    (fun (a, b, _) => ⟨a, b⟩) (fun t => (t.name, t.ticket, ())) (fun _ => rfl) (fun _ => rfl) (fun _ _ => trivial)
theorem rDefs1 : Reads Tryz.prog 25 1 eDefs (fun _ => True) := (Reads.slice Tryz.underlying25 (by kernel_rfl) rDef (by omega)).conv id id (fun _ => rfl) (fun _ => rfl) (fun _ _ => trivial)
theorem rWaits1 : Reads Tryz.prog 26 1 eWaits (fun _ => True) := (Reads.slice Tryz.underlying26 (by kernel_rfl) rWait (by omega)).conv id id (fun _ => rfl) (fun _ => rfl) (fun _ _ => trivial)
theorem rDesk : Reads Tryz.prog 28 4 eDesk (fun _ => True) :=
  (Reads.struct (l := [(0, 25), (1, 26), (2, 3), (3, 4)]) Tryz.underlying28 (by kernel_rfl) rfl (.cons rDefs1 (.cons rWaits1 (.cons rInt (.cons rBool .nil))))).conv
    (fun (a, b, c, e, _) => ⟨a, b, c, e⟩) (fun t => (t.defs, t.waits, t.next, t.busy, ())) (fun _ => rfl) (fun _ => rfl) (fun _ _ => trivial)
theorem rAttr : Reads Tryz.prog 77 2 oAttr (fun _ => True) :=
  (Reads.struct (l := [(0, 9), (1, 9)]) Tryz.underlying77 (by kernel_rfl) rfl (.cons rStr (.cons rStr .nil))).conv
    (fun (a, b, _) => ⟨a, b⟩) (fun t => (t.name, t.value, ())) (fun _ => rfl) (fun _ => rfl) (fun _ _ => trivial)
theorem rAttrs1 : Reads Tryz.prog 64 1 eAttrs (fun _ => True) := (Reads.slice Tryz.underlying64 (by kernel_rfl) rAttr (by omega)).conv id id (fun _ => rfl) (fun _ => rfl) (fun _ _ => trivial)
theorem rInts1 : Reads Tryz.prog 36 1 eInts (fun _ => True) := (Reads.slice Tryz.underlying36 (by kernel_rfl) rInt (by omega)).conv id id (fun _ => rfl) (fun _ => rfl) (fun _ _ => trivial)
theorem rNode : Reads Tryz.prog 66 10 oNode (fun _ => True) :=
  (Reads.struct (l := [(0, 3), (1, 9), (2, 9), (3, 9), (4, 64), (5, 3), (6, 36), (7, 3), (8, 3), (9, 3)]) Tryz.underlying66 (by kernel_rfl) rfl
    (.cons rInt (.cons rStr (.cons rStr (.cons rStr (.cons rAttrs1 (.cons rInt (.cons rInts1 (.cons rInt (.cons rInt (.cons rInt .nil))))))))))).conv
    (fun (a, b, c, d, e, f, g, h, i, j, _) => ⟨a, b, c, d, e, f, g, h, i, j⟩)
    (fun t => (t.kind, t.name, t.is, t.data, t.attrs, t.parent, t.kids, t.host, t.under, t.doc, ())) (fun _ => rfl) (fun _ => rfl) (fun _ _ => trivial)
theorem rNodes1 : Reads Tryz.prog 22 1 eNodes (fun _ => True) := (Reads.slice Tryz.underlying22 (by kernel_rfl) rNode (by omega)).conv id id (fun _ => rfl) (fun _ => rfl) (fun _ _ => trivial)
theorem rFor : Reads Tryz.prog 24 2 eFor (fun _ => True) :=
  (Reads.struct (l := [(0, 22), (1, 3)]) Tryz.underlying24 (by kernel_rfl) rfl (.cons rNodes1 (.cons rInt .nil))).conv
    (fun (a, b, _) => ⟨a, b⟩) (fun t => (t.nodes, t.most, ())) (fun _ => rfl) (fun _ => rfl) (fun _ _ => trivial)
theorem laid : Go.laidOutB Tryz.prog = true := by kernel_rfl
abbrev laidRows : List (String × DataW Unit) := [("unicode.White_Space", Go.Proofs.YtadjfbmhbfjjaaaGreatDoor.Rows.laid_unicode_White_Space), ("strings.asciiSpace", Go.Proofs.YtadjfbmhbfjjaaaGreatDoor.Rows.laid_strings_asciiSpace)]
theorem tab_eq : (Go.Proofs.YtadjfbmhbfjjaaaGreatDoor.Rows.laid_strings_asciiSpace : DataW Unit) = Lib.tabData .u8 Lib.asciiSpaceTab := by kernel_rfl
theorem door_met (os : Os) (args : Array Value) : laidMetH Tryz.prog laidRows ((World.doorLaid Tryz.prog 33 os).forCall (fun _ _ => 0) ⟨#[], args, []⟩).memory :=
  laidMetH_of_parts3 (fuel := 8) (laidMet_of_run' 8 (by kernel_rfl) (by kernel_rfl)) (by kernel_rfl) (by kernel_rfl)
theorem gSp : Tryz.prog.globalNamed "strings.asciiSpace" = some 1 := by kernel_rfl
theorem tySp : (Tryz.prog.globals[1]?).map (·.type) = some 186 := by kernel_rfl
theorem tabs_of_laid {W : World} (h : laidMetH Tryz.prog laidRows W) : Tabs Tryz.prog W fun _ => none := by
  rw [MakeChecks.laidMetH_plain _ _ _ (by kernel_rfl)] at h
  obtain ⟨ps, ⟨g0, t0, cs0, f0, p0, q0, hg0, ht0, hv0, hd0, ⟨g1, t1, cs1, f1, p1, q1, hg1, ht1, hv1, hd1, _, _⟩, _⟩, _⟩ := h
  intro g hg
  obtain rfl := Option.some.inj (hg.symm.trans hg1)
  have e : g = 1 := Option.some.inj (hg.symm.trans gSp)
  have ht : (Tryz.prog.globals[g]?).map (·.type) = some 186 := by rw [e]; exact tySp
  obtain rfl := Option.some.inj (ht.symm.trans ht1)
  rw [tab_eq] at hd1
  have hc := Lib.cells_of_tab Tryz.underlying186 Tryz.underlying5 (by kernel_rfl) (by kernel_rfl) hd1
  have htab : Lib.TabIs Tryz.prog W "strings.asciiSpace" .u8 Lib.asciiSpaceTab := by
    unfold Lib.TabIs
    rw [hv1, ← hc]
  have hcell : ∀ c : Nat, c < 256 → W.cell? ⟨g, c, none⟩ = some (.int .u8 (if Lib.isSp (UInt8.ofNat c) then 1 else 0)) := fun c hc => by
    rw [htab.cell hg c (by rw [Lib.asciiSpaceTab_length]; exact hc), Lib.asciiSpaceTab_at c hc]
  refine ⟨(by rintro ⟨_, _, h, _⟩; cases h), World.block_lt_of_cell? _ _ (hcell 0 (by omega)), hcell⟩
end Go.Proofs.Heir
end
section
set_option linter.unusedSimpArgs false
set_option linter.unusedVariables false
namespace Go.Proofs.Heir
open Go Go.Am Go.RowKit
theorem rOp : Reads Tryz.prog 95 7 oOp (fun _ => True) :=
  (Reads.struct (l := [(0, 3), (1, 3), (2, 3), (3, 3), (4, 9), (5, 9), (6, 4)]) Tryz.underlying95 (by kernel_rfl) rfl (.cons rInt (.cons rInt (.cons rInt (.cons rInt (.cons rStr (.cons rStr (.cons rBool .nil)))))))).conv
    (fun (a, b, c, d, e, f, g, _) => ⟨a, b, c, d, e, f, g⟩) (fun t => (t.kind, t.a, t.b, t.c, t.s, t.t, t.must, ())) (fun _ => rfl) (fun _ => rfl) (fun _ _ => trivial)
theorem rOps1 : Reads Tryz.prog 48 1 eOps (fun _ => True) := (Reads.slice Tryz.underlying48 (by kernel_rfl) rOp (by omega)).conv id id (fun _ => rfl) (fun _ => rfl) (fun _ _ => trivial)
theorem rHook : Reads Tryz.prog 97 2 oHook (fun _ => True) :=
  (Reads.struct (l := [(0, 3), (1, 48)]) Tryz.underlying97 (by kernel_rfl) rfl (.cons rInt (.cons rOps1 .nil))).conv
    (fun (a, b, _) => ⟨a, b⟩) (fun t => (t.kind, t.prog, ())) (fun _ => rfl) (fun _ => rfl) (fun _ _ => trivial)
theorem rHooks1 : Reads Tryz.prog 49 1 eHooks (fun _ => True) := (Reads.slice Tryz.underlying49 (by kernel_rfl) rHook (by omega)).conv id id (fun _ => rfl) (fun _ => rfl) (fun _ _ => trivial)
theorem rStrO : Reads Tryz.prog 9 1 oStr (fun s => s.size ≤ maxLen) := rStr.conv id id (fun _ => rfl) (fun _ => rfl) (fun _ h => h)
theorem rStrs1 : Reads Tryz.prog 47 1 eStrs (fun _ => True) := (Reads.slice Tryz.underlying47 (by kernel_rfl) rStrO (by omega)).conv id id (fun _ => rfl) (fun _ => rfl) (fun _ _ => trivial)
theorem rClass : Reads Tryz.prog 51 5 oClass (fun _ => True) :=
  (Reads.struct (l := [(0, 4), (1, 47), (2, 48), (3, 48), (4, 49)]) Tryz.underlying51 (by kernel_rfl) rfl (.cons rBool (.cons rStrs1 (.cons rOps1 (.cons rOps1 (.cons rHooks1 .nil)))))).conv
    (fun (a, b, c, d, e, _) => ⟨a, b, c, d, e⟩) (fun t => (t.form, t.watch, t.peek, t.make, t.hooks, ())) (fun _ => rfl) (fun _ => rfl) (fun _ _ => trivial)
theorem rClasses : Reads Tryz.prog 44 1 eClasses (fun _ => True) := (Reads.slice Tryz.underlying44 (by kernel_rfl) rClass (by omega)).conv id id (fun _ => rfl) (fun _ => rfl) (fun _ _ => trivial)
theorem rState : Reads Tryz.prog 59 4 oState (fun _ => True) :=
  (Reads.struct (l := [(0, 3), (1, 3), (2, 3), (3, 4)]) Tryz.underlying59 (by kernel_rfl) rfl (.cons rInt (.cons rInt (.cons rInt (.cons rBool .nil))))).conv
    (fun (a, b, c, d, _) => ⟨a, b, c, d⟩) (fun t => (t.phase, t.df, t.owner, t.barred, ())) (fun _ => rfl) (fun _ => rfl) (fun _ _ => trivial)
theorem rStates : Reads Tryz.prog 43 1 eStates (fun _ => True) := (Reads.slice Tryz.underlying43 (by kernel_rfl) rState (by omega)).conv id id (fun _ => rfl) (fun _ => rfl) (fun _ _ => trivial)
theorem rNote : Reads Tryz.prog 70 9 oNote (fun _ => True) :=
  (Reads.struct (l := [(0, 3), (1, 3), (2, 3), (3, 3), (4, 9), (5, 4), (6, 4), (7, 9), (8, 9)]) Tryz.underlying70 (by kernel_rfl) rfl (.cons rInt (.cons rInt (.cons rInt (.cons rInt (.cons rStr (.cons rBool (.cons rBool (.cons rStr (.cons rStr .nil)))))))))).conv
    (fun (a, b, c, d, e, f, g, h, i, _) => ⟨a, b, c, d, e, f, g, h, i⟩) (fun t => (t.kind, t.node, t.src, t.dst, t.name, t.had, t.has, t.old, t.new, ())) (fun _ => rfl) (fun _ => rfl) (fun _ _ => trivial)
theorem rNotes : Reads Tryz.prog 45 1 eNotes (fun _ => True) := (Reads.slice Tryz.underlying45 (by kernel_rfl) rNote (by omega)).conv id id (fun _ => rfl) (fun _ => rfl) (fun _ _ => trivial)
end Go.Proofs.Heir
end
