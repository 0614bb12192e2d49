/- Models, plain laws and contracts of functions of the given program; conditions as stated in each theorem. By an AI agent. -/
import Derived.Test.YtkhjcnjicjgfiaaGreatDoorW13
import Derived.Test.YtkhjcnjicjgfiaaGreatDoorW7
import Derived.Test.YtkhjcnjicjgfiaaGreatDoorW14
import Derived.Test.YtkhjcnjicjgfiaaGreatDoorW5
import Derived.Laws.StructEq
import Derived.Tactics
set_option linter.unusedSimpArgs false
set_option linter.unusedVariables false
namespace Go.Proofs.Heir
open Go Go.Am Go.RowKit Go.Lib
set_option maxRecDepth 100000
set_option maxHeartbeats 8000000
@[reducible] def mFin (l : List NodeM) (m : Int) (t : Nat) : MS := .live 3 [.agg [eNodes l, eInt m, .mapr t]] false
theorem ins_fin {m' : ML} {b t : Nat} {r : List Nat} {l : List NodeM} {m : Int} {c : List (Int × List (ByteArray × Int))} (h1 : lkM m' b = mFin l m t) (h3 : lkM m' t = idsM c) : InsM (tabR 2 0 (b :: t :: r)) [] m' [mFin l m 1, idsM c] (b :: t :: r) := by
  simp only [InsM, h1, h3]
  refine ⟨⟨trivial, .inr ⟨⟨⟨rfl, rfl, ?_, trivial⟩, trivial⟩, rfl⟩⟩, ⟨trivial, .inl ⟨rfl, noRef_ids _⟩⟩, trivial⟩
  simp [MF, tabR, lkN, Nat.beq_refl]
theorem news_fin {b t : Nat} {l : List NodeM} {m : Int} {c : List (Int × List (ByteArray × Int))} : NewsM [b, t] [mFin l m 1, idsM c] [mFin l m t, idsM c] :=
  ⟨⟨rfl, .inr ⟨rfl, rfl, rfl⟩⟩, ⟨rfl, .inl ⟨rfl, noRef_ids _⟩⟩, trivial⟩
theorem f166_ok (l : List NodeM) (m : Int) (hs : SmallN l) (hrt : rightF ⟨l, m⟩ = true) (c : List (Int × List (ByteArray × Int))) (hc : IdsOK l c) (x n : Int) (hn : thereN l n = true) :
    FnOK Tryz.prog 166 [mFin l m 1, idsM c] [eInt n, .ptr 0 0 0, .fptr (eInt x) 0] [mFin l m 1, idsM (stepC l c n)] (eBool (!decide (ownN l n = x))) := by
  have h74 := f105_ok l m hs hrt c hc n hn
  generalize stepC l c n = c2 at h74 ⊢
  generalize ownN l n = o at h74 ⊢
  refine FnOK.startC (rvs := [.tmp 4]) G G_good Tryz.func166 rfl Tryz.ntmps166 rfl rfl ?_; with_reducible refine wD ?_
  repeat' (first
    | refine gK ?_
    | ((first
      | ((with_reducible show CallK _ _ 105 _ _ _ _); refine CallK.lend (news := [idsM c2]) [1] [] h74 c105 ⟨⟨rfl, rfl, trivial, trivial⟩, rfl, trivial⟩ ⟨⟨rfl, .inl ⟨rfl, noRef_ids c⟩⟩, trivial⟩ rfl ⟨⟨rfl, rfl⟩, rfl⟩ rfl ⟨⟨rfl, .inl ⟨rfl, noRef_ids c2⟩⟩, trivial⟩ rfl rfl ?_)
      | ((with_reducible show DrawK _ _ _ _); refine dK ?_)) <;> with_reducible refine wK ?_)
    | ((with_reducible show (_ ∧ _) ∧ _ ∧ _); (refine eK ?_ ?_ <;> with_reducible repeat' (first | exact trivial | (show _ ∧ _; refine aK ?_ ?_)))))
  all_goals first
    | rfl
    | exact ⟨.refl rfl, rfl⟩
    | exact ⟨.refl (noRef_ids _), noRef_ids _⟩
    | trace_state
section
variable {l : List NodeM} {m x : Int} {p : Int → Bool} {ks : List Int} {cf : Nat → List (Int × List (ByteArray × Int))}
abbrev Asks (l : List NodeM) (m x : Int) (p : Int → Bool) (ks : List Int) (cf : Nat → List (Int × List (ByteArray × Int))) : Prop :=
  ∀ (j : Nat) (a : Int), ks[j]? = some a → FnOK Tryz.prog 166 [mFin l m 1, idsM (cf j)] [eInt a, .ptr 0 0 0, .fptr (eInt x) 0] [mFin l m 1, idsM (cf (j + 1))] (eBool (p a))
theorem f125_fin (hl : ks.length ≤ 100000) (hf : Asks l m x p ks cf) (n1 : Nat) (hn1 : (match ks.findIdx? p with | some i => i + 1 | none => ks.length) = n1) :
    FnOK Tryz.prog 125 [mFin l m 1, idsM (cf 0), rInts ks] [.own 2 0 ks.length, .clo (.func 166) [] [.ptr 0 0 0, .fptr (eInt x) 0]] [mFin l m 1, idsM (cf n1), rInts ks] (eInt (idxI p ks)) := by
  have hno : ∀ (j : Nat) (a : Int), ks[j]? = some a → (∀ i, ks.findIdx? p = some i → j < i) → p a = false := fun j a ha h => by
    cases hi : ks.findIdx? p with
    | none =>
      have := List.findIdx?_eq_none_iff.1 hi a (List.mem_of_getElem? ha)
      simpa using this
    | some i0 =>
      obtain ⟨h1, h2, h3⟩ := List.findIdx?_eq_some_iff_getElem.1 hi
      have h4 := h3 j (h i0 hi)
      have hj := (List.getElem?_eq_some_iff.1 ha).1
      rw [List.getElem?_eq_getElem hj] at ha
      rw [Option.some.inj ha] at h4
      simpa using h4
  have hyes : ∀ i, ks.findIdx? p = some i → ∃ a, ks[i]? = some a ∧ p a = true ∧ n1 = i + 1 ∧ idxI p ks = (i : Int) := fun i hi => by
    obtain ⟨h1, h2, h3⟩ := List.findIdx?_eq_some_iff_getElem.1 hi
    exact ⟨_, List.getElem?_eq_getElem h1, h2, by rw [← hn1, hi], by unfold idxI; rw [hi]⟩
  have hend : ks.findIdx? p = none → n1 = ks.length ∧ idxI p ks = -1 := fun hi => ⟨by rw [← hn1, hi], by unfold idxI; rw [hi]⟩
  clear hn1
  refine FnOK.startC (rvs := [.tmp 4]) G G_good Tryz.func125 rfl Tryz.ntmps125 rfl rfl ?_; with_reducible refine wD ?_
  refine LoopK.use G G_good (fun (k : Nat) => [(0, .own 2 0 ks.length), (1, .clo (.func 166) [] [.ptr 0 0 0, .fptr (eInt x) 0]), (7, eInt ks.length), (8, eInt k)])
    (fun k => [(0, mFin l m 1), (1, idsM (cf k)), (2, rInts ks)])
    (fun k => k ≤ ks.length ∧ ∀ i, ks.findIdx? p = some i → k ≤ i) (fun k => ks.length - k) 0 ⟨Nat.zero_le _, fun _ _ => Nat.zero_le _⟩ ?_ ?_
  · (refine fK ?_; (with_reducible repeat' (first | exact trivial | (show _ ∧ _; refine aK ?_ ?_))); (all_goals try rfl))
    all_goals first
      | exact ⟨.refl rfl, rfl⟩
      | exact ⟨.refl (noRef_ids _), noRef_ids _⟩
      | exact ⟨.refl (noRef_ints _), noRef_ints _⟩
      | trace_state
  rintro k ⟨hk, hki⟩
  with_reducible refine wK ?_
  refine IfK.mk (fun h1 => ?_) (fun h1 => ?_) <;> (try simp only [castN] at h1) <;> with_reducible refine wK ?_
  · have hk' : k < ks.length := by simp only [decide_eq_true_eq] at h1; omega
    obtain ⟨a, ha⟩ : ∃ a, ks[k]? = some a := ⟨_, List.getElem?_eq_getElem hk'⟩
    have h83 := hf k a ha
    refine LtK.mk k rfl (by omega) ?_; with_reducible refine wK ?_
    refine ElemK.mk (eInt a) (by rw [Nat.zero_add]; exact int_get ha) ?_; with_reducible refine wK ?_
    refine CallK.lend (news := [mFin l m 1, idsM (cf (k + 1))]) [0, 1] [] h83 c166 ⟨rfl, ⟨rfl, rfl⟩, ⟨rfl, rfl⟩, trivial⟩ (ins_fin rfl rfl) rfl ⟨⟨rfl, rfl⟩, rfl⟩ rfl news_fin rfl rfl ?_
    with_reducible refine wK ?_
    cases hpa : p a with
    | true =>
      have hi : ks.findIdx? p = some k := by
        cases hi : ks.findIdx? p with
        | none =>
          have := List.findIdx?_eq_none_iff.1 hi a (List.mem_of_getElem? ha)
          rw [hpa] at this; simp at this
        | some i0 =>
          have h2 := hki i0 hi
          by_cases e : k = i0
          · rw [e]
          · have := hno k a ha fun i hi' => by rw [hi] at hi'; cases hi'; omega
            rw [hpa] at this; cases this
      obtain ⟨_, _, _, g3, g4⟩ := hyes k hi
      rw [g4]
      subst g3
      repeat' (first
    | refine gK ?_
    | ((with_reducible show (_ ∧ _) ∧ _ ∧ _); (refine eK ?_ ?_ <;> with_reducible repeat' (first | exact trivial | (show _ ∧ _; refine aK ?_ ?_)))))
      all_goals first
        | rfl
        | exact ⟨.refl rfl, rfl⟩
        | exact ⟨.refl (noRef_ids _), noRef_ids _⟩
        | exact ⟨.refl (noRef_ints _), noRef_ints _⟩
        | trace_state
    | false =>
      repeat' (first
    | refine gK ?_
    | ((with_reducible show (_ ∧ _) ∧ _ ∧ _); (refine eK ?_ ?_ <;> with_reducible repeat' (first | exact trivial | (show _ ∧ _; refine aK ?_ ?_)))))
      refine NextK.mk (k + 1) ⟨by omega, fun i hi => ?_⟩ (by omega) ?_
      · have h2 := hki i hi
        by_cases e : k = i
        · obtain ⟨b, hb, hpb, _⟩ := hyes i hi
          rw [← e, ha] at hb
          cases hb
          rw [hpa] at hpb; cases hpb
        · omega
      · (refine fK ?_; (with_reducible repeat' (first | exact trivial | (show _ ∧ _; refine aK ?_ ?_))); (all_goals try rfl))
        all_goals first
          | exact ⟨.refl rfl, rfl⟩
          | exact ⟨.refl (noRef_ids _), noRef_ids _⟩
          | exact ⟨.refl (noRef_ints _), noRef_ints _⟩
          | trace_state
  · have hkl : k = ks.length := by simp only [decide_eq_false_iff_not] at h1; omega
    subst hkl
    have hi : ks.findIdx? p = none := by
      cases hi : ks.findIdx? p with
      | none => rfl
      | some i0 =>
        have h2 := hki i0 hi
        have := (List.findIdx?_eq_some_iff_getElem.1 hi).1
        omega
    obtain ⟨g1, g2⟩ := hend hi
    rw [g2]
    subst g1
    repeat' (first
    | refine gK ?_
    | ((with_reducible show (_ ∧ _) ∧ _ ∧ _); (refine eK ?_ ?_ <;> with_reducible repeat' (first | exact trivial | (show _ ∧ _; refine aK ?_ ?_)))))
    all_goals first
      | rfl
      | exact ⟨.refl rfl, rfl⟩
      | exact ⟨.refl (noRef_ids _), noRef_ids _⟩
      | exact ⟨.refl (noRef_ints _), noRef_ints _⟩
      | trace_state
end
end Go.Proofs.Heir
namespace Go.Proofs.Heir
open Go Go.Am Go.RowKit Go.Lib
set_option maxRecDepth 100000
def keptI (p : Int → Bool) (l : List Int) : List Int := l.filter fun x => !p x
theorem ins_fin3 {m' : ML} {b t q : Nat} {l : List NodeM} {m : Int} {c : List (Int × List (ByteArray × Int))} {ks : List Int} (h1 : lkM m' b = mFin l m t) (h3 : lkM m' t = idsM c) (h4 : lkM m' q = rInts ks) : InsM (tabR 3 0 [b, t, q]) [] m' [mFin l m 1, idsM c, rInts ks] [b, t, q] := by
  simp only [InsM, h1, h3, h4]
  refine ⟨⟨trivial, .inr ⟨⟨⟨rfl, rfl, ?_, trivial⟩, trivial⟩, rfl⟩⟩, ⟨trivial, .inl ⟨rfl, noRef_ids _⟩⟩, ⟨trivial, .inl ⟨rfl, noRef_ints _⟩⟩, trivial⟩
  simp [MF, tabR, lkN, Nat.beq_refl]
theorem news_fin3 {b t q : Nat} {l : List NodeM} {m : Int} {c : List (Int × List (ByteArray × Int))} {ks : List Int} : NewsM [b, t, q] [mFin l m 1, idsM c, rInts ks] [mFin l m t, idsM c, rInts ks] :=
  ⟨⟨rfl, .inr ⟨rfl, rfl, rfl⟩⟩, ⟨rfl, .inl ⟨rfl, noRef_ids _⟩⟩, ⟨rfl, .inl ⟨rfl, noRef_ints _⟩⟩, trivial⟩
set_option maxHeartbeats 16000000 in
/-- slices.DeleteFunc, of numbers, by that closure -/
theorem f81_fin {l : List NodeM} {m y : Int} {p : Int → Bool} {ks : List Int} {cf : Nat → List (Int × List (ByteArray × Int))} (hl : ks.length ≤ 100000) (hf : Asks l m y p ks cf) :
    FnOK Tryz.prog 81 [mFin l m 1, idsM (cf 0), rInts ks] [.own 2 0 ks.length, .clo (.func 166) [] [.ptr 0 0 0, .fptr (eInt y) 0]]
      [mFin l m 1, idsM (cf ks.length), rInts (keptI p ks ++ List.replicate (ks.length - (keptI p ks).length) 0)] (.own 2 0 (keptI p ks).length) := by
  have hlm : (ks.map oInt).length = ks.length := List.length_map ..
  have h130 := fun n1 => f125_fin hl hf n1
  cases hi : ks.findIdx? p with
  | none =>
    have e1 : idxI p ks = -1 := by unfold idxI; rw [hi]
    have e2 : keptI p ks = ks := by
      unfold keptI; rw [List.filter_eq_self]; intro a ha
      have := List.findIdx?_eq_none_iff.1 hi a ha
      simpa using this
    have h130 := h130 ks.length (by rw [hi])
    rw [e1] at h130
    rw [e2, Nat.sub_self, List.replicate_zero, List.append_nil]
    refine FnOK.startC (rvs := [.tmp 4]) G G_good Tryz.func81 rfl Tryz.ntmps81 rfl rfl ?_; delta List.toArray; ((with_reducible conv => whnf); (with_reducible conv => congr <;> reduce); repeat ((first | (with_reducible refine HaltK.mk ?_) | (with_reducible refine StopK.mk ?_)); (with_reducible conv => whnf); (with_reducible conv => congr <;> reduce)))
    refine CallK.lend (news := [mFin l m 1, idsM (cf ks.length), rInts ks]) [0, 1, 2] [] h130 c125 ⟨⟨rfl, rfl⟩, ⟨rfl, trivial, ⟨rfl, rfl⟩, ⟨rfl, rfl⟩, trivial⟩, trivial⟩ (ins_fin3 rfl rfl rfl) rfl ⟨⟨rfl, rfl⟩, rfl⟩ rfl news_fin3 rfl rfl ?_; ((with_reducible conv => whnf); (with_reducible conv => congr <;> reduce); repeat ((first | (with_reducible refine HaltK.mk ?_) | (with_reducible refine StopK.mk ?_)); (with_reducible conv => whnf); (with_reducible conv => congr <;> reduce)))
    repeat' (first
    | (first
    | ((with_reducible show IfK _ _ _ _); first | refine IfK.ff ?_ | refine IfK.tt ?_ | refine IfK.no (by first | rfl | assumption | exact nf (by assumption) | exact nt (by assumption) | ((try simp only [castN]); first | (simp []; done) | (simp []; omega))) ?_ | refine IfK.yes (by first | rfl | assumption | exact nf (by assumption) | exact nt (by assumption) | ((try simp only [castN]); first | (simp []; done) | (simp []; omega))) ?_)
    | ((with_reducible show NeedK _ _ _ _); refine NeedK.mk (by (try simp only [castN]); omega) ?_)
    | ((with_reducible show DrawK _ _ _ _); refine DrawK.mk (by kernel_rfl) (by kernel_rfl) (by kernel_rfl) ?_)) <;> ((with_reducible conv => whnf); (with_reducible conv => congr <;> reduce); repeat ((first | (with_reducible refine HaltK.mk ?_) | (with_reducible refine StopK.mk ?_)); (with_reducible conv => whnf); (with_reducible conv => congr <;> reduce)))
    | ((with_reducible show (_ ∧ _) ∧ _ ∧ _); refine ⟨⟨rfl, rfl⟩, ?_, ?_⟩ <;> (with_reducible conv => whnf) <;> repeat' (first | (with_reducible exact trivial) | (with_reducible refine And.intro ?_ ?_ <;> with_reducible conv => whnf))))
    all_goals first
      | rfl
      | exact ⟨.refl rfl, rfl⟩
      | exact ⟨.refl (noRef_ids _), noRef_ids _⟩
      | exact ⟨.refl (noRef_ints _), noRef_ints _⟩
      | trace_state
  | some i0 =>
    have e1 : idxI p ks = (i0 : Int) := by unfold idxI; rw [hi]
    have h130 := h130 (i0 + 1) (by rw [hi])
    rw [e1] at h130
    obtain ⟨hi1, hi2, hi3⟩ := List.findIdx?_eq_some_iff_getElem.1 hi
    obtain ⟨kp, hkp⟩ : ∃ kp : Nat → List Int, kp = fun j => keptI p (ks.take j) := ⟨_, rfl⟩
    have hk1 : kp (i0 + 1) = ks.take i0 := by
      rw [hkp]; unfold keptI
      show List.filter _ (ks.take (i0 + 1)) = _
      rw [List.take_add_one, List.getElem?_eq_getElem hi1, List.filter_append]
      have h1 : List.filter (fun x => !p x) (ks.take i0) = ks.take i0 := by
        rw [List.filter_eq_self]; intro a ha
        obtain ⟨j, hj, rfl⟩ := List.mem_iff_getElem.1 ha
        rw [List.getElem_take]
        simp only [List.length_take] at hj
        have := hi3 j (by omega)
        simpa using this
      rw [h1]; simp [hi2]
    have hstep : ∀ (j : Nat) (x : Int), ks[j]? = some x → kp (j + 1) = kp j ++ if p x = true then [] else [x] := fun j x hx => by
      rw [hkp]; unfold keptI
      show List.filter _ (ks.take (j + 1)) = _
      rw [List.take_add_one, hx, List.filter_append]
      congr 1
      show List.filter _ [x] = _
      rw [List.filter_cons]
      cases p x <;> rfl
    have hend : kp ks.length = keptI p ks := by rw [hkp]; show keptI p (ks.take ks.length) = _; rw [List.take_length]
    have hl1 : kp (i0 + 1) ++ [ks[i0]] ++ ks.drop (i0 + 1) = ks := by
      rw [hk1, List.append_assoc, List.singleton_append, ← List.drop_eq_getElem_cons hi1, List.take_append_drop]
    refine FnOK.startC (rvs := [.tmp 4]) G G_good Tryz.func81 rfl Tryz.ntmps81 rfl rfl ?_; delta List.toArray; ((with_reducible conv => whnf); (with_reducible conv => congr <;> reduce); repeat ((first | (with_reducible refine HaltK.mk ?_) | (with_reducible refine StopK.mk ?_)); (with_reducible conv => whnf); (with_reducible conv => congr <;> reduce)))
    refine CallK.lend (news := [mFin l m 1, idsM (cf (i0 + 1)), rInts ks]) [0, 1, 2] [] h130 c125 ⟨⟨rfl, rfl⟩, ⟨rfl, trivial, ⟨rfl, rfl⟩, ⟨rfl, rfl⟩, trivial⟩, trivial⟩ (ins_fin3 rfl rfl rfl) rfl ⟨⟨rfl, rfl⟩, rfl⟩ rfl news_fin3 rfl rfl ?_; ((with_reducible conv => whnf); (with_reducible conv => congr <;> reduce); repeat ((first | (with_reducible refine HaltK.mk ?_) | (with_reducible refine StopK.mk ?_)); (with_reducible conv => whnf); (with_reducible conv => congr <;> reduce)))
    repeat' (first
    | (first
    | ((with_reducible show IfK _ _ _ _); first | refine IfK.ff ?_ | refine IfK.tt ?_ | refine IfK.no (by first | rfl | assumption | exact nf (by assumption) | exact nt (by assumption) | ((try simp only [castN]); first | (simp []; done) | (simp []; omega))) ?_ | refine IfK.yes (by first | rfl | assumption | exact nf (by assumption) | exact nt (by assumption) | ((try simp only [castN]); first | (simp []; done) | (simp []; omega))) ?_)
    | ((with_reducible show NeedK _ _ _ _); refine NeedK.mk (by (try simp only [castN]); omega) ?_)
    | ((with_reducible show DrawK _ _ _ _); refine DrawK.mk (by kernel_rfl) (by kernel_rfl) (by kernel_rfl) ?_)) <;> ((with_reducible conv => whnf); (with_reducible conv => congr <;> reduce); repeat ((first | (with_reducible refine HaltK.mk ?_) | (with_reducible refine StopK.mk ?_)); (with_reducible conv => whnf); (with_reducible conv => congr <;> reduce)))
    | ((with_reducible show (_ ∧ _) ∧ _ ∧ _); refine ⟨⟨rfl, rfl⟩, ?_, ?_⟩ <;> (with_reducible conv => whnf) <;> repeat' (first | (with_reducible exact trivial) | (with_reducible refine And.intro ?_ ?_ <;> with_reducible conv => whnf))))
    refine LoopK.use G G_good (fun (i : Nat × List Int) => [(0, .own 2 0 ks.length), (1, .clo (.func 166) [] [.ptr 0 0 0, .fptr (eInt y) 0]), (5, eInt (kp i.1).length), (6, eInt i.1)])
      (fun i => [(0, mFin l m 1), (1, idsM (cf i.1)), (2, rInts (kp i.1 ++ i.2 ++ ks.drop i.1))])
      (fun i => i.1 ≤ ks.length ∧ (kp i.1).length + i.2.length = i.1 ∧ i.2 ≠ []) (fun i => ks.length - i.1) (i0 + 1, [ks[i0]]) ⟨by show i0 + 1 ≤ _; omega, by show (kp (i0 + 1)).length + 1 = i0 + 1; rw [hk1, List.length_take, Nat.min_eq_left (by omega)], by simp⟩ ?_ ?_
    · (refine ⟨⟨rfl, rfl⟩, ?_⟩; (with_reducible conv => whnf); (repeat' (first | (with_reducible exact trivial) | (with_reducible refine And.intro ?_ ?_ <;> with_reducible conv => whnf))); (all_goals try rfl))
      all_goals first
        | (show ((kp (i0 + 1)).length : Int) = (i0 : Int); rw [hk1, List.length_take, Nat.min_eq_left (by omega)])
        | exact ⟨.refl rfl, rfl⟩
        | exact ⟨.refl (noRef_ids _), noRef_ids _⟩
        | (show ObjK _ ((kp (i0 + 1) ++ [ks[i0]] ++ ks.drop (i0 + 1)).map oInt) _; rw [hl1]; exact ⟨.refl (noRef_ints _), noRef_ints _⟩)
        | trace_state
    rintro ⟨j, gar⟩ ⟨hj, hg, hg0⟩
    simp only at hj hg hg0
    ((with_reducible conv => whnf); (with_reducible conv => congr <;> reduce); repeat ((first | (with_reducible refine HaltK.mk ?_) | (with_reducible refine StopK.mk ?_)); (with_reducible conv => whnf); (with_reducible conv => congr <;> reduce)))
    have hdl : (ks.drop j).length = ks.length - j := List.length_drop ..
    have hlr : ((kp j ++ gar ++ ks.drop j).map oInt).length = ks.length := by simp; omega
    refine IfK.mk (fun h1 => ?_) (fun h1 => ?_) <;> (try simp only [castN] at h1) <;> ((with_reducible conv => whnf); (with_reducible conv => congr <;> reduce); repeat ((first | (with_reducible refine HaltK.mk ?_) | (with_reducible refine StopK.mk ?_)); (with_reducible conv => whnf); (with_reducible conv => congr <;> reduce)))
    · simp only [decide_eq_true_eq] at h1
      have hj' : j < ks.length := by omega
      obtain ⟨x, hx⟩ : ∃ x, ks[j]? = some x := ⟨_, List.getElem?_eq_getElem hj'⟩
      have hdj : ks.drop j = x :: ks.drop (j + 1) := by
        rw [List.drop_eq_getElem_cons hj']; congr 1
        rw [List.getElem?_eq_getElem hj'] at hx; exact Option.some.inj hx
      have hst := hstep j x hx
      have h83 := hf j x hx
      rw [hdj]
      rw [hdj] at hlr
      obtain ⟨z, gar', rfl⟩ := List.exists_cons_of_ne_nil hg0
      simp only [List.length_cons] at hg
      refine LtK.mk j rfl (by omega) ?_
      ((with_reducible conv => whnf); (with_reducible conv => congr <;> reduce); repeat ((first | (with_reducible refine HaltK.mk ?_) | (with_reducible refine StopK.mk ?_)); (with_reducible conv => whnf); (with_reducible conv => congr <;> reduce)))
      refine ElemK.mk (eInt x) (by rw [Nat.zero_add, List.getElem?_map, List.getElem?_append_right (by simp; omega), show j - (kp j ++ z :: gar').length = 0 by simp; omega]; rfl) ?_; ((with_reducible conv => whnf); (with_reducible conv => congr <;> reduce); repeat ((first | (with_reducible refine HaltK.mk ?_) | (with_reducible refine StopK.mk ?_)); (with_reducible conv => whnf); (with_reducible conv => congr <;> reduce)))
      repeat' (first
    | (first
    | ((with_reducible show IfK _ _ _ _); first | refine IfK.ff ?_ | refine IfK.tt ?_ | refine IfK.no (by first | rfl | assumption | exact nf (by assumption) | exact nt (by assumption) | ((try simp only [castN]); first | (simp []; done) | (simp []; omega))) ?_ | refine IfK.yes (by first | rfl | assumption | exact nf (by assumption) | exact nt (by assumption) | ((try simp only [castN]); first | (simp []; done) | (simp []; omega))) ?_)
    | ((with_reducible show NeedK _ _ _ _); refine NeedK.mk (by (try simp only [castN]); omega) ?_)
    | ((with_reducible show DrawK _ _ _ _); refine DrawK.mk (by kernel_rfl) (by kernel_rfl) (by kernel_rfl) ?_)) <;> ((with_reducible conv => whnf); (with_reducible conv => congr <;> reduce); repeat ((first | (with_reducible refine HaltK.mk ?_) | (with_reducible refine StopK.mk ?_)); (with_reducible conv => whnf); (with_reducible conv => congr <;> reduce)))
    | ((with_reducible show (_ ∧ _) ∧ _ ∧ _); refine ⟨⟨rfl, rfl⟩, ?_, ?_⟩ <;> (with_reducible conv => whnf) <;> repeat' (first | (with_reducible exact trivial) | (with_reducible refine And.intro ?_ ?_ <;> with_reducible conv => whnf))))
      refine CallK.lend (news := [mFin l m 1, idsM (cf (j + 1))]) [0, 1] [] h83 c166 ⟨rfl, ⟨rfl, rfl⟩, ⟨rfl, rfl⟩, trivial⟩ (ins_fin rfl rfl) rfl ⟨⟨rfl, rfl⟩, rfl⟩ rfl news_fin rfl rfl ?_; ((with_reducible conv => whnf); (with_reducible conv => congr <;> reduce); repeat ((first | (with_reducible refine HaltK.mk ?_) | (with_reducible refine StopK.mk ?_)); (with_reducible conv => whnf); (with_reducible conv => congr <;> reduce)))
      cases hp : p x with
      | true =>
        rw [hp, if_pos rfl, List.append_nil] at hst
        have hl2 : kp (j + 1) ++ (z :: gar' ++ [x]) ++ ks.drop (j + 1) = kp j ++ z :: gar' ++ x :: ks.drop (j + 1) := by rw [hst]; simp
        repeat' (first
    | (first
    | ((with_reducible show IfK _ _ _ _); first | refine IfK.ff ?_ | refine IfK.tt ?_ | refine IfK.no (by first | rfl | assumption | exact nf (by assumption) | exact nt (by assumption) | ((try simp only [castN]); first | (simp []; done) | (simp []; omega))) ?_ | refine IfK.yes (by first | rfl | assumption | exact nf (by assumption) | exact nt (by assumption) | ((try simp only [castN]); first | (simp []; done) | (simp []; omega))) ?_)
    | ((with_reducible show NeedK _ _ _ _); refine NeedK.mk (by (try simp only [castN]); omega) ?_)
    | ((with_reducible show DrawK _ _ _ _); refine DrawK.mk (by kernel_rfl) (by kernel_rfl) (by kernel_rfl) ?_)) <;> ((with_reducible conv => whnf); (with_reducible conv => congr <;> reduce); repeat ((first | (with_reducible refine HaltK.mk ?_) | (with_reducible refine StopK.mk ?_)); (with_reducible conv => whnf); (with_reducible conv => congr <;> reduce)))
    | ((with_reducible show (_ ∧ _) ∧ _ ∧ _); refine ⟨⟨rfl, rfl⟩, ?_, ?_⟩ <;> (with_reducible conv => whnf) <;> repeat' (first | (with_reducible exact trivial) | (with_reducible refine And.intro ?_ ?_ <;> with_reducible conv => whnf))))
        refine NextK.mk (j + 1, z :: gar' ++ [x]) ⟨by show j + 1 ≤ _; omega, by show (kp (j + 1)).length + _ = j + 1; rw [hst]; simp; omega, by simp⟩ (by show ks.length - (j + 1) < ks.length - j; omega) ?_
        (refine ⟨⟨rfl, rfl⟩, ?_⟩; (with_reducible conv => whnf); (repeat' (first | (with_reducible exact trivial) | (with_reducible refine And.intro ?_ ?_ <;> with_reducible conv => whnf))); (all_goals try rfl))
        all_goals first
          | exact ⟨.refl rfl, rfl⟩
          | exact ⟨.refl (noRef_ids _), noRef_ids _⟩
          | (show ((kp (j + 1)).length : Int) = ((kp j).length : Int); rw [hst])
          | (show ObjK _ ((kp (j + 1) ++ (z :: gar' ++ [x]) ++ ks.drop (j + 1)).map oInt) _; rw [hl2]; exact ⟨.refl (noRef_ints _), noRef_ints _⟩)
          | trace_state
      | false =>
        rw [hp, if_neg (by simp)] at hst
        have hl2 : ((kp j ++ z :: gar' ++ x :: ks.drop (j + 1)).map oInt).set (0 + (kp j).length) (eInt x) = (kp (j + 1) ++ (gar' ++ [x]) ++ ks.drop (j + 1)).map oInt := by
          rw [hst, Nat.zero_add, List.append_assoc, List.cons_append, List.map_append, List.set_append, if_neg (by simp), List.length_map, Nat.sub_self, List.map_cons, List.set_cons_zero, show eInt x = oInt x from rfl]
          simp
        repeat' (first
    | (first
    | ((with_reducible show IfK _ _ _ _); first | refine IfK.ff ?_ | refine IfK.tt ?_ | refine IfK.no (by first | rfl | assumption | exact nf (by assumption) | exact nt (by assumption) | ((try simp only [castN]); first | (simp []; done) | (simp []; omega))) ?_ | refine IfK.yes (by first | rfl | assumption | exact nf (by assumption) | exact nt (by assumption) | ((try simp only [castN]); first | (simp []; done) | (simp []; omega))) ?_)
    | ((with_reducible show NeedK _ _ _ _); refine NeedK.mk (by (try simp only [castN]); omega) ?_)
    | ((with_reducible show DrawK _ _ _ _); refine DrawK.mk (by kernel_rfl) (by kernel_rfl) (by kernel_rfl) ?_)) <;> ((with_reducible conv => whnf); (with_reducible conv => congr <;> reduce); repeat ((first | (with_reducible refine HaltK.mk ?_) | (with_reducible refine StopK.mk ?_)); (with_reducible conv => whnf); (with_reducible conv => congr <;> reduce)))
    | ((with_reducible show (_ ∧ _) ∧ _ ∧ _); refine ⟨⟨rfl, rfl⟩, ?_, ?_⟩ <;> (with_reducible conv => whnf) <;> repeat' (first | (with_reducible exact trivial) | (with_reducible refine And.intro ?_ ?_ <;> with_reducible conv => whnf))))
        refine LtK.mk (kp j).length rfl (by omega) ?_; ((with_reducible conv => whnf); (with_reducible conv => congr <;> reduce); repeat ((first | (with_reducible refine HaltK.mk ?_) | (with_reducible refine StopK.mk ?_)); (with_reducible conv => whnf); (with_reducible conv => congr <;> reduce)))
        refine ElemK.mk (eInt z) (by rw [Nat.zero_add, List.getElem?_map, List.append_assoc, List.getElem?_append_right (Nat.le_refl _), Nat.sub_self]; rfl) ?_; ((with_reducible conv => whnf); (with_reducible conv => congr <;> reduce); repeat ((first | (with_reducible refine HaltK.mk ?_) | (with_reducible refine StopK.mk ?_)); (with_reducible conv => whnf); (with_reducible conv => congr <;> reduce)))
        rw [hl2]
        repeat' (first
    | (first
    | ((with_reducible show IfK _ _ _ _); first | refine IfK.ff ?_ | refine IfK.tt ?_ | refine IfK.no (by first | rfl | assumption | exact nf (by assumption) | exact nt (by assumption) | ((try simp only [castN]); first | (simp []; done) | (simp []; omega))) ?_ | refine IfK.yes (by first | rfl | assumption | exact nf (by assumption) | exact nt (by assumption) | ((try simp only [castN]); first | (simp []; done) | (simp []; omega))) ?_)
    | ((with_reducible show NeedK _ _ _ _); refine NeedK.mk (by (try simp only [castN]); omega) ?_)
    | ((with_reducible show DrawK _ _ _ _); refine DrawK.mk (by kernel_rfl) (by kernel_rfl) (by kernel_rfl) ?_)) <;> ((with_reducible conv => whnf); (with_reducible conv => congr <;> reduce); repeat ((first | (with_reducible refine HaltK.mk ?_) | (with_reducible refine StopK.mk ?_)); (with_reducible conv => whnf); (with_reducible conv => congr <;> reduce)))
    | ((with_reducible show (_ ∧ _) ∧ _ ∧ _); refine ⟨⟨rfl, rfl⟩, ?_, ?_⟩ <;> (with_reducible conv => whnf) <;> repeat' (first | (with_reducible exact trivial) | (with_reducible refine And.intro ?_ ?_ <;> with_reducible conv => whnf))))
        refine NextK.mk (j + 1, gar' ++ [x]) ⟨by show j + 1 ≤ _; omega, by show (kp (j + 1)).length + _ = j + 1; rw [hst]; simp; omega, by simp⟩ (by show ks.length - (j + 1) < ks.length - j; omega) ?_
        (refine ⟨⟨rfl, rfl⟩, ?_⟩; (with_reducible conv => whnf); (repeat' (first | (with_reducible exact trivial) | (with_reducible refine And.intro ?_ ?_ <;> with_reducible conv => whnf))); (all_goals try rfl))
        all_goals first
          | exact ⟨.refl rfl, rfl⟩
          | exact ⟨.refl (noRef_ids _), noRef_ids _⟩
          | exact ⟨.refl (noRef_ints _), noRef_ints _⟩
          | (show ((kp (j + 1)).length : Int) = ((kp j).length : Int) + 1; rw [hst]; simp)
          | trace_state
    · simp only [decide_eq_false_iff_not] at h1
      obtain rfl : j = ks.length := by omega
      repeat' (first
    | (first
    | ((with_reducible show IfK _ _ _ _); first | refine IfK.ff ?_ | refine IfK.tt ?_ | refine IfK.no (by first | rfl | assumption | exact nf (by assumption) | exact nt (by assumption) | ((try simp only [castN]); first | (simp []; done) | (simp []; omega))) ?_ | refine IfK.yes (by first | rfl | assumption | exact nf (by assumption) | exact nt (by assumption) | ((try simp only [castN]); first | (simp []; done) | (simp []; omega))) ?_)
    | ((with_reducible show NeedK _ _ _ _); refine NeedK.mk (by (try simp only [castN]); omega) ?_)
    | ((with_reducible show DrawK _ _ _ _); refine DrawK.mk (by kernel_rfl) (by kernel_rfl) (by kernel_rfl) ?_)) <;> ((with_reducible conv => whnf); (with_reducible conv => congr <;> reduce); repeat ((first | (with_reducible refine HaltK.mk ?_) | (with_reducible refine StopK.mk ?_)); (with_reducible conv => whnf); (with_reducible conv => congr <;> reduce)))
    | ((with_reducible show (_ ∧ _) ∧ _ ∧ _); refine ⟨⟨rfl, rfl⟩, ?_, ?_⟩ <;> (with_reducible conv => whnf) <;> repeat' (first | (with_reducible exact trivial) | (with_reducible refine And.intro ?_ ?_ <;> with_reducible conv => whnf))))
      refine CutK.mk (kp ks.length).length gar.length rfl (by (try simp only [castN]); omega) (by omega) ?_; ((with_reducible conv => whnf); (with_reducible conv => congr <;> reduce); repeat ((first | (with_reducible refine HaltK.mk ?_) | (with_reducible refine StopK.mk ?_)); (with_reducible conv => whnf); (with_reducible conv => congr <;> reduce)))
      have hpos : 0 < gar.length := List.length_pos_iff.2 hg0
      refine HandK.clear ((kp ks.length ++ List.replicate gar.length 0).map oInt) (by
        rw [Nat.zero_add, List.map_append, List.map_append, List.map_append, List.append_assoc, List.take_left' (List.length_map ..), List.map_replicate]; rfl) rfl Tryz.underlying33 Tryz.zeroValue3 rfl rfl rfl rfl hpos rfl (by simp) rfl ?_; ((with_reducible conv => whnf); (with_reducible conv => congr <;> reduce); repeat ((first | (with_reducible refine HaltK.mk ?_) | (with_reducible refine StopK.mk ?_)); (with_reducible conv => whnf); (with_reducible conv => congr <;> reduce)))
      repeat' (first
    | (first
    | ((with_reducible show IfK _ _ _ _); first | refine IfK.ff ?_ | refine IfK.tt ?_ | refine IfK.no (by first | rfl | assumption | exact nf (by assumption) | exact nt (by assumption) | ((try simp only [castN]); first | (simp []; done) | (simp []; omega))) ?_ | refine IfK.yes (by first | rfl | assumption | exact nf (by assumption) | exact nt (by assumption) | ((try simp only [castN]); first | (simp []; done) | (simp []; omega))) ?_)
    | ((with_reducible show NeedK _ _ _ _); refine NeedK.mk (by (try simp only [castN]); omega) ?_)
    | ((with_reducible show DrawK _ _ _ _); refine DrawK.mk (by kernel_rfl) (by kernel_rfl) (by kernel_rfl) ?_)) <;> ((with_reducible conv => whnf); (with_reducible conv => congr <;> reduce); repeat ((first | (with_reducible refine HaltK.mk ?_) | (with_reducible refine StopK.mk ?_)); (with_reducible conv => whnf); (with_reducible conv => congr <;> reduce)))
    | ((with_reducible show (_ ∧ _) ∧ _ ∧ _); refine ⟨⟨rfl, rfl⟩, ?_, ?_⟩ <;> (with_reducible conv => whnf) <;> repeat' (first | (with_reducible exact trivial) | (with_reducible refine And.intro ?_ ?_ <;> with_reducible conv => whnf))))
      refine CutK.mk 0 (kp ks.length).length rfl (by (try simp only [castN]); omega) (by omega) ?_; ((with_reducible conv => whnf); (with_reducible conv => congr <;> reduce); repeat ((first | (with_reducible refine HaltK.mk ?_) | (with_reducible refine StopK.mk ?_)); (with_reducible conv => whnf); (with_reducible conv => congr <;> reduce)))
      repeat' (first
    | (first
    | ((with_reducible show IfK _ _ _ _); first | refine IfK.ff ?_ | refine IfK.tt ?_ | refine IfK.no (by first | rfl | assumption | exact nf (by assumption) | exact nt (by assumption) | ((try simp only [castN]); first | (simp []; done) | (simp []; omega))) ?_ | refine IfK.yes (by first | rfl | assumption | exact nf (by assumption) | exact nt (by assumption) | ((try simp only [castN]); first | (simp []; done) | (simp []; omega))) ?_)
    | ((with_reducible show NeedK _ _ _ _); refine NeedK.mk (by (try simp only [castN]); omega) ?_)
    | ((with_reducible show DrawK _ _ _ _); refine DrawK.mk (by kernel_rfl) (by kernel_rfl) (by kernel_rfl) ?_)) <;> ((with_reducible conv => whnf); (with_reducible conv => congr <;> reduce); repeat ((first | (with_reducible refine HaltK.mk ?_) | (with_reducible refine StopK.mk ?_)); (with_reducible conv => whnf); (with_reducible conv => congr <;> reduce)))
    | ((with_reducible show (_ ∧ _) ∧ _ ∧ _); refine ⟨⟨rfl, rfl⟩, ?_, ?_⟩ <;> (with_reducible conv => whnf) <;> repeat' (first | (with_reducible exact trivial) | (with_reducible refine And.intro ?_ ?_ <;> with_reducible conv => whnf))))
      all_goals first
        | exact ⟨.refl rfl, rfl⟩
        | exact ⟨.refl (noRef_ids _), noRef_ids _⟩
        | (rw [hend]; done)
        | (rw [← hend, show ks.length - (kp ks.length).length = gar.length by omega]; exact ⟨.refl (noRef_ints _), noRef_ints _⟩)
        | (show ObjK _ ((keptI p ks ++ List.replicate (ks.length - (keptI p ks).length) 0).map oInt) _; rw [← hend, show ks.length - (kp ks.length).length = gar.length by omega]; exact ⟨.refl (noRef_ints _), noRef_ints _⟩)
        | trace_state
end Go.Proofs.Heir
namespace Go.Proofs.Heir
open Go Go.Am Go.RowKit Go.Shelf
set_option maxRecDepth 100000
set_option maxHeartbeats 8000000

end Go.Proofs.Heir
namespace Go.Proofs.Heir
open Go Go.Am Go.RowKit Go.Lib
set_option maxRecDepth 100000
set_option maxHeartbeats 8000000



end Go.Proofs.Heir
namespace Go.Proofs.Heir
open Go Go.Am Go.RowKit Go.Lib
set_option maxRecDepth 100000

end Go.Proofs.Heir
namespace Go.Proofs.Heir
open Go Go.Am Go.RowKit Go.Lib
set_option maxRecDepth 100000
set_option maxHeartbeats 8000000



end Go.Proofs.Heir
namespace Go.Proofs.Heir
open Go Go.Am Go.RowKit Go.Lib
set_option maxRecDepth 100000

end Go.Proofs.Heir
namespace Go.Proofs.Heir
open Go Go.Am Go.RowKit Go.Lib
set_option maxRecDepth 100000
set_option maxHeartbeats 8000000




@[reducible] def nilA : AV := .lit (.slice none 0 0)
end Go.Proofs.Heir
