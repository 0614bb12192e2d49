/- Models, plain laws and contracts of functions of the given program; conditions as stated in each theorem. By an AI agent. -/
import Derived.Test.YtkhjcnjicjgfiaaGreatDoorW5
import Derived.Test.YtkhjcnjicjgfiaaGreatDoorW8
import Derived.Test.YtkhjcnjicjgfiaaGreatDoorW4
import Derived.Test.YtkhjcnjicjgfiaaGreatDoorW9
import Derived.Test.YtkhjcnjicjgfiaaGreatDoorW6
import Derived.Laws.StructEq
import Derived.Tactics
set_option linter.unusedSimpArgs false
set_option linter.unusedVariables false
namespace Go.Proofs.Heir
open Go Go.Am Go.RowKit Go.Lib
set_option maxRecDepth 100000
def keepI (p : Int → Bool) (l : List Int) : List Int := l.filter fun x => !p x
theorem mfl_ints {m : ML} {fz : Nat → Bool} {tab : List (Nat × Nat)} {n : Nat} {a b : List Int} (h : a = b) : MFL (MF tab fz m n) (a.map oInt) (b.map oInt) := by subst h; exact MFL_refl (noRef_ints _)
@[reducible] def mBox (f : ForM) : MS := .live 2 [eFor f] false
theorem f83_ok (f : ForM) (c : Int) (hc : thereN f.nodes c = true) : FnOK Tryz.prog 83 [mBox f] [eInt c, .ptr 0 0 0] [mBox f] (eBool (!decide ((nd f.nodes c).kind = 1))) := by
  obtain ⟨k, x, rfl, hx, hnx⟩ := there_iff.1 hc
  rw [hnx]
  obtain ⟨l, m⟩ := f
  obtain ⟨x1, x2, x3, x4, x5, x6, x7, x8, x9, x10⟩ := x
  simp only at hx
  refine FnOK.startC (rvs := [.tmp 3]) G G_good Tryz.func83 rfl Tryz.ntmps83 rfl rfl ?_; delta List.toArray; ((with_reducible conv => whnf); (with_reducible conv => congr <;> reduce); repeat ((first | (with_reducible refine HaltK.mk ?_) | (with_reducible refine StopK.mk ?_)); (with_reducible conv => whnf); (with_reducible conv => congr <;> reduce)))
  repeat' (first
    | (first
    | ((with_reducible show IfK _ _ _ _); first | refine IfK.ff ?_ | refine IfK.tt ?_ | refine IfK.no (by first | rfl | assumption | exact nf (by assumption) | exact nt (by assumption) | ((try simp only [castN]); first | (simp []; done) | (simp []; omega))) ?_ | refine IfK.yes (by first | rfl | assumption | exact nf (by assumption) | exact nt (by assumption) | ((try simp only [castN]); first | (simp []; done) | (simp []; omega))) ?_)
    | ((with_reducible show NeedK _ _ _ _); refine NeedK.mk (by (try simp only [castN]); omega) ?_)
    | ((with_reducible show DrawK _ _ _ _); refine DrawK.mk (by kernel_rfl) (by kernel_rfl) (by kernel_rfl) ?_)
    | ((with_reducible show IdxK _ _ _ _ _); refine IdxK.mk k (eNode ⟨x1, x2, x3, x4, x5, x6, x7, x8, x9, x10⟩) rfl (node_get hx) ?_)) <;> ((with_reducible conv => whnf); (with_reducible conv => congr <;> reduce); repeat ((first | (with_reducible refine HaltK.mk ?_) | (with_reducible refine StopK.mk ?_)); (with_reducible conv => whnf); (with_reducible conv => congr <;> reduce)))
    | ((with_reducible show (_ ∧ _) ∧ _ ∧ _); refine ⟨⟨rfl, rfl⟩, ?_, ?_⟩ <;> (with_reducible conv => whnf) <;> repeat' (first | (with_reducible exact trivial) | (with_reducible refine And.intro ?_ ?_ <;> with_reducible conv => whnf))))
  all_goals first | rfl | exact ⟨⟨rfl, rfl, trivial⟩, trivial⟩ | trace_state
section
variable {f : ForM} {p : Int → Bool} {ks : List Int}
theorem ins_box {m' : ML} {b : Nat} {r : List Nat} (h1 : lkM m' b = mBox f) : InsM (tabR 1 0 (b :: r)) [] m' [mBox f] (b :: r) := by
  simp only [InsM, h1]
  exact ⟨⟨trivial, .inl ⟨rfl, rfl⟩⟩, trivial⟩
set_option maxHeartbeats 16000000 in
/-- slices.IndexFunc, of that closure -/
theorem f125_box (hl : ks.length ≤ 100000) (hf : ∀ a, a ∈ ks → FnOK Tryz.prog 83 [mBox f] [eInt a, .ptr 0 0 0] [mBox f] (eBool (p a))) :
    FnOK Tryz.prog 125 [mBox f, rInts ks] [.own 1 0 ks.length, .clo (.func 83) [] [.ptr 0 0 0]] [mBox f, rInts ks] (eInt (idxI p ks)) := by
  obtain ⟨l, m⟩ := f
  have hlm : (ks.map oInt).length = ks.length := List.length_map ..
  refine FnOK.startC (rvs := [.tmp 4]) G G_good Tryz.func125 rfl Tryz.ntmps125 rfl rfl ?_; delta List.toArray; ((with_reducible conv => whnf); (with_reducible conv => congr <;> reduce); repeat ((first | (with_reducible refine HaltK.mk ?_) | (with_reducible refine StopK.mk ?_)); (with_reducible conv => whnf); (with_reducible conv => congr <;> reduce)))
  refine LoopK.use G G_good (fun (k : Nat) => [(0, .own 1 0 ks.length), (1, .clo (.func 83) [] [.ptr 0 0 0]), (7, eInt ks.length), (8, eInt k)]) (fun _ => [(0, mBox ⟨l, m⟩), (1, rInts ks)])
    (fun k => k ≤ ks.length ∧ ∀ j x, j < k → ks[j]? = some x → p x = false) (fun k => ks.length - k) 0 ⟨Nat.zero_le _, fun j x h => by omega⟩ ?_ ?_
  · (refine ⟨⟨rfl, rfl⟩, ?_⟩; (with_reducible conv => whnf); (repeat' (first | (with_reducible exact trivial) | (with_reducible refine And.intro ?_ ?_ <;> with_reducible conv => whnf))); (all_goals try rfl))
    all_goals first
      | rfl
      | exact ⟨.refl (noRef_ints _), noRef_ints _⟩
      | exact MFL_refl (noRef_ints _)
      | exact ⟨⟨rfl, rfl, trivial⟩, trivial⟩
      | trace_state
  rintro k ⟨hk, hno⟩
  ((with_reducible conv => whnf); (with_reducible conv => congr <;> reduce); repeat ((first | (with_reducible refine HaltK.mk ?_) | (with_reducible refine StopK.mk ?_)); (with_reducible conv => whnf); (with_reducible conv => congr <;> reduce)))
  refine IfK.mk (fun h1 => ?_) (fun h1 => ?_) <;> (try simp only [castN] at h1) <;> ((with_reducible conv => whnf); (with_reducible conv => congr <;> reduce); repeat ((first | (with_reducible refine HaltK.mk ?_) | (with_reducible refine StopK.mk ?_)); (with_reducible conv => whnf); (with_reducible conv => congr <;> reduce)))
  · simp only [decide_eq_true_eq] at h1
    have hk' : k < ks.length := by omega
    obtain ⟨a, ha⟩ : ∃ a, ks[k]? = some a := ⟨_, List.getElem?_eq_getElem hk'⟩
    have hg1 := hf a (List.mem_of_getElem? ha)
    refine LtK.mk k rfl hk' ?_; ((with_reducible conv => whnf); (with_reducible conv => congr <;> reduce); repeat ((first | (with_reducible refine HaltK.mk ?_) | (with_reducible refine StopK.mk ?_)); (with_reducible conv => whnf); (with_reducible conv => congr <;> reduce)))
    refine ElemK.mk (eInt a) (by first | exact int_get ha | (rw [Nat.zero_add]; exact int_get ha)) ?_; ((with_reducible conv => whnf); (with_reducible conv => congr <;> reduce); repeat ((first | (with_reducible refine HaltK.mk ?_) | (with_reducible refine StopK.mk ?_)); (with_reducible conv => whnf); (with_reducible conv => congr <;> reduce)))
    repeat' (first
    | (first
    | ((with_reducible show IfK _ _ _ _); first | refine IfK.ff ?_ | refine IfK.tt ?_ | refine IfK.no (by first | rfl | assumption | exact nf (by assumption) | exact nt (by assumption) | ((try simp only [castN]); first | (simp []; done) | (simp []; omega))) ?_ | refine IfK.yes (by first | rfl | assumption | exact nf (by assumption) | exact nt (by assumption) | ((try simp only [castN]); first | (simp []; done) | (simp []; omega))) ?_)
    | ((with_reducible show NeedK _ _ _ _); refine NeedK.mk (by (try simp only [castN]); omega) ?_)
    | ((with_reducible show DrawK _ _ _ _); refine DrawK.mk (by kernel_rfl) (by kernel_rfl) (by kernel_rfl) ?_)) <;> ((with_reducible conv => whnf); (with_reducible conv => congr <;> reduce); repeat ((first | (with_reducible refine HaltK.mk ?_) | (with_reducible refine StopK.mk ?_)); (with_reducible conv => whnf); (with_reducible conv => congr <;> reduce)))
    | ((with_reducible show (_ ∧ _) ∧ _ ∧ _); refine ⟨⟨rfl, rfl⟩, ?_, ?_⟩ <;> (with_reducible conv => whnf) <;> repeat' (first | (with_reducible exact trivial) | (with_reducible refine And.intro ?_ ?_ <;> with_reducible conv => whnf))))
    refine CallK.lend (news := [mBox ⟨l, m⟩]) [0] [] hg1 c83 ⟨rfl, ⟨rfl, rfl⟩, trivial⟩ (ins_box rfl) rfl ⟨⟨rfl, rfl⟩, rfl⟩ rfl ⟨⟨rfl, .inl ⟨rfl, rfl⟩⟩, trivial⟩ rfl rfl ?_; ((with_reducible conv => whnf); (with_reducible conv => congr <;> reduce); repeat ((first | (with_reducible refine HaltK.mk ?_) | (with_reducible refine StopK.mk ?_)); (with_reducible conv => whnf); (with_reducible conv => congr <;> reduce)))
    cases hp : p a with
    | true =>
      repeat' (first
    | (first
    | ((with_reducible show IfK _ _ _ _); first | refine IfK.ff ?_ | refine IfK.tt ?_ | refine IfK.no (by first | rfl | assumption | exact nf (by assumption) | exact nt (by assumption) | ((try simp only [castN]); first | (simp []; done) | (simp []; omega))) ?_ | refine IfK.yes (by first | rfl | assumption | exact nf (by assumption) | exact nt (by assumption) | ((try simp only [castN]); first | (simp []; done) | (simp []; omega))) ?_)
    | ((with_reducible show NeedK _ _ _ _); refine NeedK.mk (by (try simp only [castN]); omega) ?_)
    | ((with_reducible show DrawK _ _ _ _); refine DrawK.mk (by kernel_rfl) (by kernel_rfl) (by kernel_rfl) ?_)) <;> ((with_reducible conv => whnf); (with_reducible conv => congr <;> reduce); repeat ((first | (with_reducible refine HaltK.mk ?_) | (with_reducible refine StopK.mk ?_)); (with_reducible conv => whnf); (with_reducible conv => congr <;> reduce)))
    | ((with_reducible show (_ ∧ _) ∧ _ ∧ _); refine ⟨⟨rfl, rfl⟩, ?_, ?_⟩ <;> (with_reducible conv => whnf) <;> repeat' (first | (with_reducible exact trivial) | (with_reducible refine And.intro ?_ ?_ <;> with_reducible conv => whnf))))
      all_goals first
        | exact idxI_hit ha hp hno
        | rfl
        | exact ⟨.refl (noRef_ints _), noRef_ints _⟩
        | exact ⟨⟨rfl, rfl, trivial⟩, trivial⟩
        | trace_state
    | false =>
      repeat' (first
    | (first
    | ((with_reducible show IfK _ _ _ _); first | refine IfK.ff ?_ | refine IfK.tt ?_ | refine IfK.no (by first | rfl | assumption | exact nf (by assumption) | exact nt (by assumption) | ((try simp only [castN]); first | (simp []; done) | (simp []; omega))) ?_ | refine IfK.yes (by first | rfl | assumption | exact nf (by assumption) | exact nt (by assumption) | ((try simp only [castN]); first | (simp []; done) | (simp []; omega))) ?_)
    | ((with_reducible show NeedK _ _ _ _); refine NeedK.mk (by (try simp only [castN]); omega) ?_)
    | ((with_reducible show DrawK _ _ _ _); refine DrawK.mk (by kernel_rfl) (by kernel_rfl) (by kernel_rfl) ?_)) <;> ((with_reducible conv => whnf); (with_reducible conv => congr <;> reduce); repeat ((first | (with_reducible refine HaltK.mk ?_) | (with_reducible refine StopK.mk ?_)); (with_reducible conv => whnf); (with_reducible conv => congr <;> reduce)))
    | ((with_reducible show (_ ∧ _) ∧ _ ∧ _); refine ⟨⟨rfl, rfl⟩, ?_, ?_⟩ <;> (with_reducible conv => whnf) <;> repeat' (first | (with_reducible exact trivial) | (with_reducible refine And.intro ?_ ?_ <;> with_reducible conv => whnf))))
      refine NextK.mk (k + 1) ⟨by omega, fun j x hj hx => by
        by_cases e : j = k
        · subst e; rw [hx] at ha; cases ha; exact hp
        · exact hno j x (by omega) hx⟩ (by omega) ?_
      (refine ⟨⟨rfl, rfl⟩, ?_⟩; (with_reducible conv => whnf); (repeat' (first | (with_reducible exact trivial) | (with_reducible refine And.intro ?_ ?_ <;> with_reducible conv => whnf))); (all_goals try rfl))
      all_goals first
        | rfl
        | exact ⟨.refl (noRef_ints _), noRef_ints _⟩
        | exact MFL_refl (noRef_ints _)
        | exact ⟨⟨rfl, rfl, trivial⟩, trivial⟩
        | trace_state
  · simp only [decide_eq_false_iff_not] at h1
    obtain rfl : k = ks.length := by omega
    repeat' (first
    | (first
    | ((with_reducible show IfK _ _ _ _); first | refine IfK.ff ?_ | refine IfK.tt ?_ | refine IfK.no (by first | rfl | assumption | exact nf (by assumption) | exact nt (by assumption) | ((try simp only [castN]); first | (simp []; done) | (simp []; omega))) ?_ | refine IfK.yes (by first | rfl | assumption | exact nf (by assumption) | exact nt (by assumption) | ((try simp only [castN]); first | (simp []; done) | (simp []; omega))) ?_)
    | ((with_reducible show NeedK _ _ _ _); refine NeedK.mk (by (try simp only [castN]); omega) ?_)
    | ((with_reducible show DrawK _ _ _ _); refine DrawK.mk (by kernel_rfl) (by kernel_rfl) (by kernel_rfl) ?_)) <;> ((with_reducible conv => whnf); (with_reducible conv => congr <;> reduce); repeat ((first | (with_reducible refine HaltK.mk ?_) | (with_reducible refine StopK.mk ?_)); (with_reducible conv => whnf); (with_reducible conv => congr <;> reduce)))
    | ((with_reducible show (_ ∧ _) ∧ _ ∧ _); refine ⟨⟨rfl, rfl⟩, ?_, ?_⟩ <;> (with_reducible conv => whnf) <;> repeat' (first | (with_reducible exact trivial) | (with_reducible refine And.intro ?_ ?_ <;> with_reducible conv => whnf))))
    all_goals first
      | exact idxI_none fun j x hx => hno j x (List.getElem?_eq_some_iff.1 hx).1 hx
      | rfl
      | exact ⟨.refl (noRef_ints _), noRef_ints _⟩
      | exact ⟨⟨rfl, rfl, trivial⟩, trivial⟩
      | trace_state
set_option maxHeartbeats 16000000 in
/-- slices.DeleteFunc, of numbers -/
theorem f81_box (hl : ks.length ≤ 100000) (hf : ∀ a, a ∈ ks → FnOK Tryz.prog 83 [mBox f] [eInt a, .ptr 0 0 0] [mBox f] (eBool (p a))) :
    FnOK Tryz.prog 81 [mBox f, rInts ks] [.own 1 0 ks.length, .clo (.func 83) [] [.ptr 0 0 0]] [mBox f, rInts (keepI p ks ++ List.replicate (ks.length - (keepI p ks).length) 0)] (.own 1 0 (keepI p ks).length) := by
  have h125 := f125_box hl hf
  obtain ⟨l, m⟩ := f
  have hlm : (ks.map oInt).length = ks.length := List.length_map ..
  cases hi : ks.findIdx? p with
  | none =>
    have e1 : idxI p ks = -1 := by unfold idxI; rw [hi]
    have e2 : keepI p ks = ks := by
      unfold keepI; rw [List.filter_eq_self]; intro a ha
      have := List.findIdx?_eq_none_iff.1 hi a ha
      simpa using this
    rw [e1] at h125
    rw [e2, Nat.sub_self, List.replicate_zero, List.append_nil]
    refine FnOK.startC (rvs := [.tmp 4]) G G_good Tryz.func81 rfl Tryz.ntmps81 rfl rfl ?_; delta List.toArray; ((with_reducible conv => whnf); (with_reducible conv => congr <;> reduce); repeat ((first | (with_reducible refine HaltK.mk ?_) | (with_reducible refine StopK.mk ?_)); (with_reducible conv => whnf); (with_reducible conv => congr <;> reduce)))
    refine CallK.lend (news := [mBox ⟨l, m⟩, rInts ks]) [0, 1] [] h125 c125 ⟨⟨rfl, rfl⟩, ⟨rfl, trivial, ⟨rfl, rfl⟩, trivial⟩, trivial⟩ ⟨⟨rfl, .inl ⟨rfl, rfl⟩⟩, ⟨rfl, .inl ⟨rfl, noRef_ints _⟩⟩, trivial⟩ rfl ⟨⟨rfl, rfl⟩, rfl⟩ rfl ⟨⟨rfl, .inl ⟨rfl, rfl⟩⟩, ⟨rfl, .inl ⟨rfl, noRef_ints _⟩⟩, trivial⟩ rfl rfl ?_; ((with_reducible conv => whnf); (with_reducible conv => congr <;> reduce); repeat ((first | (with_reducible refine HaltK.mk ?_) | (with_reducible refine StopK.mk ?_)); (with_reducible conv => whnf); (with_reducible conv => congr <;> reduce)))
    repeat' (first
    | (first
    | ((with_reducible show IfK _ _ _ _); first | refine IfK.ff ?_ | refine IfK.tt ?_ | refine IfK.no (by first | rfl | assumption | exact nf (by assumption) | exact nt (by assumption) | ((try simp only [castN]); first | (simp []; done) | (simp []; omega))) ?_ | refine IfK.yes (by first | rfl | assumption | exact nf (by assumption) | exact nt (by assumption) | ((try simp only [castN]); first | (simp []; done) | (simp []; omega))) ?_)
    | ((with_reducible show NeedK _ _ _ _); refine NeedK.mk (by (try simp only [castN]); omega) ?_)
    | ((with_reducible show DrawK _ _ _ _); refine DrawK.mk (by kernel_rfl) (by kernel_rfl) (by kernel_rfl) ?_)) <;> ((with_reducible conv => whnf); (with_reducible conv => congr <;> reduce); repeat ((first | (with_reducible refine HaltK.mk ?_) | (with_reducible refine StopK.mk ?_)); (with_reducible conv => whnf); (with_reducible conv => congr <;> reduce)))
    | ((with_reducible show (_ ∧ _) ∧ _ ∧ _); refine ⟨⟨rfl, rfl⟩, ?_, ?_⟩ <;> (with_reducible conv => whnf) <;> repeat' (first | (with_reducible exact trivial) | (with_reducible refine And.intro ?_ ?_ <;> with_reducible conv => whnf))))
    all_goals first
      | rfl
      | exact ⟨.refl (noRef_ints _), noRef_ints _⟩
      | exact MFL_refl (noRef_ints _)
      | exact ⟨⟨rfl, rfl, trivial⟩, trivial⟩
      | trace_state
  | some i0 =>
    have e1 : idxI p ks = (i0 : Int) := by unfold idxI; rw [hi]
    rw [e1] at h125
    obtain ⟨hi1, hi2, hi3⟩ := List.findIdx?_eq_some_iff_getElem.1 hi
    obtain ⟨kp, hkp⟩ : ∃ kp : Nat → List Int, kp = fun j => keepI p (ks.take j) := ⟨_, rfl⟩
    have hk1 : kp (i0 + 1) = ks.take i0 := by
      rw [hkp]; unfold keepI
      show List.filter _ (ks.take (i0 + 1)) = _
      rw [List.take_add_one, List.getElem?_eq_getElem hi1, List.filter_append]
      have h1 : List.filter (fun x => !p x) (ks.take i0) = ks.take i0 := by
        rw [List.filter_eq_self]; intro a ha
        obtain ⟨j, hj, rfl⟩ := List.mem_iff_getElem.1 ha
        rw [List.getElem_take]
        simp only [List.length_take] at hj
        have := hi3 j (by omega)
        simpa using this
      rw [h1]; simp [hi2]
    have hstep : ∀ (j : Nat) (x : Int), ks[j]? = some x → kp (j + 1) = kp j ++ if p x = true then [] else [x] := fun j x hx => by
      rw [hkp]; unfold keepI
      show List.filter _ (ks.take (j + 1)) = _
      rw [List.take_add_one, hx, List.filter_append]
      congr 1
      show List.filter _ [x] = _
      rw [List.filter_cons]
      cases p x <;> rfl
    have hend : kp ks.length = keepI p ks := by rw [hkp]; show keepI p (ks.take ks.length) = _; rw [List.take_length]
    have hl1 : kp (i0 + 1) ++ [ks[i0]] ++ ks.drop (i0 + 1) = ks := by
      rw [hk1, List.append_assoc, List.singleton_append, ← List.drop_eq_getElem_cons hi1, List.take_append_drop]
    refine FnOK.startC (rvs := [.tmp 4]) G G_good Tryz.func81 rfl Tryz.ntmps81 rfl rfl ?_; delta List.toArray; ((with_reducible conv => whnf); (with_reducible conv => congr <;> reduce); repeat ((first | (with_reducible refine HaltK.mk ?_) | (with_reducible refine StopK.mk ?_)); (with_reducible conv => whnf); (with_reducible conv => congr <;> reduce)))
    refine CallK.lend (news := [mBox ⟨l, m⟩, rInts ks]) [0, 1] [] h125 c125 ⟨⟨rfl, rfl⟩, ⟨rfl, trivial, ⟨rfl, rfl⟩, trivial⟩, trivial⟩ ⟨⟨rfl, .inl ⟨rfl, rfl⟩⟩, ⟨rfl, .inl ⟨rfl, noRef_ints _⟩⟩, trivial⟩ rfl ⟨⟨rfl, rfl⟩, rfl⟩ rfl ⟨⟨rfl, .inl ⟨rfl, rfl⟩⟩, ⟨rfl, .inl ⟨rfl, noRef_ints _⟩⟩, trivial⟩ rfl rfl ?_; ((with_reducible conv => whnf); (with_reducible conv => congr <;> reduce); repeat ((first | (with_reducible refine HaltK.mk ?_) | (with_reducible refine StopK.mk ?_)); (with_reducible conv => whnf); (with_reducible conv => congr <;> reduce)))
    repeat' (first
    | (first
    | ((with_reducible show IfK _ _ _ _); first | refine IfK.ff ?_ | refine IfK.tt ?_ | refine IfK.no (by first | rfl | assumption | exact nf (by assumption) | exact nt (by assumption) | ((try simp only [castN]); first | (simp []; done) | (simp []; omega))) ?_ | refine IfK.yes (by first | rfl | assumption | exact nf (by assumption) | exact nt (by assumption) | ((try simp only [castN]); first | (simp []; done) | (simp []; omega))) ?_)
    | ((with_reducible show NeedK _ _ _ _); refine NeedK.mk (by (try simp only [castN]); omega) ?_)
    | ((with_reducible show DrawK _ _ _ _); refine DrawK.mk (by kernel_rfl) (by kernel_rfl) (by kernel_rfl) ?_)) <;> ((with_reducible conv => whnf); (with_reducible conv => congr <;> reduce); repeat ((first | (with_reducible refine HaltK.mk ?_) | (with_reducible refine StopK.mk ?_)); (with_reducible conv => whnf); (with_reducible conv => congr <;> reduce)))
    | ((with_reducible show (_ ∧ _) ∧ _ ∧ _); refine ⟨⟨rfl, rfl⟩, ?_, ?_⟩ <;> (with_reducible conv => whnf) <;> repeat' (first | (with_reducible exact trivial) | (with_reducible refine And.intro ?_ ?_ <;> with_reducible conv => whnf))))
    refine LoopK.use G G_good (fun (i : Nat × List Int) => [(0, .own 1 0 ks.length), (1, .clo (.func 83) [] [.ptr 0 0 0]), (5, eInt (kp i.1).length), (6, eInt i.1)])
      (fun i => [(0, mBox ⟨l, m⟩), (1, rInts (kp i.1 ++ i.2 ++ ks.drop i.1))])
      (fun i => i.1 ≤ ks.length ∧ (kp i.1).length + i.2.length = i.1 ∧ i.2 ≠ []) (fun i => ks.length - i.1) (i0 + 1, [ks[i0]]) ⟨by show i0 + 1 ≤ _; omega, by show (kp (i0 + 1)).length + 1 = i0 + 1; rw [hk1, List.length_take, Nat.min_eq_left (by omega)], by simp⟩ ?_ ?_
    · (refine ⟨⟨rfl, rfl⟩, ?_⟩; (with_reducible conv => whnf); (repeat' (first | (with_reducible exact trivial) | (with_reducible refine And.intro ?_ ?_ <;> with_reducible conv => whnf))); (all_goals try rfl))
      all_goals first
        | (show ((kp (i0 + 1)).length : Int) = (i0 : Int); rw [hk1, List.length_take, Nat.min_eq_left (by omega)])
        | exact ⟨⟨rfl, rfl, trivial⟩, trivial⟩
        | (show ObjK _ ((kp (i0 + 1) ++ [ks[i0]] ++ ks.drop (i0 + 1)).map oInt) _; rw [hl1]; exact ⟨.refl (noRef_ints _), noRef_ints _⟩)
        | trace_state
    rintro ⟨j, gar⟩ ⟨hj, hg, hg0⟩
    simp only at hj hg hg0
    ((with_reducible conv => whnf); (with_reducible conv => congr <;> reduce); repeat ((first | (with_reducible refine HaltK.mk ?_) | (with_reducible refine StopK.mk ?_)); (with_reducible conv => whnf); (with_reducible conv => congr <;> reduce)))
    have hdl : (ks.drop j).length = ks.length - j := List.length_drop ..
    have hlr : ((kp j ++ gar ++ ks.drop j).map oInt).length = ks.length := by simp; omega
    refine IfK.mk (fun h1 => ?_) (fun h1 => ?_) <;> (try simp only [castN] at h1) <;> ((with_reducible conv => whnf); (with_reducible conv => congr <;> reduce); repeat ((first | (with_reducible refine HaltK.mk ?_) | (with_reducible refine StopK.mk ?_)); (with_reducible conv => whnf); (with_reducible conv => congr <;> reduce)))
    · simp only [decide_eq_true_eq] at h1
      have hj' : j < ks.length := by omega
      obtain ⟨x, hx⟩ : ∃ x, ks[j]? = some x := ⟨_, List.getElem?_eq_getElem hj'⟩
      have hdj : ks.drop j = x :: ks.drop (j + 1) := by
        rw [List.drop_eq_getElem_cons hj']; congr 1
        rw [List.getElem?_eq_getElem hj'] at hx; exact Option.some.inj hx
      have hst := hstep j x hx
      have hg1 := hf x (List.mem_of_getElem? hx)
      rw [hdj]
      rw [hdj] at hlr
      obtain ⟨z, gar', rfl⟩ := List.exists_cons_of_ne_nil hg0
      simp only [List.length_cons] at hg
      refine LtK.mk j rfl (by omega) ?_
      ((with_reducible conv => whnf); (with_reducible conv => congr <;> reduce); repeat ((first | (with_reducible refine HaltK.mk ?_) | (with_reducible refine StopK.mk ?_)); (with_reducible conv => whnf); (with_reducible conv => congr <;> reduce)))
      refine ElemK.mk (eInt x) (by rw [Nat.zero_add, List.getElem?_map, List.getElem?_append_right (by simp; omega), show j - (kp j ++ z :: gar').length = 0 by simp; omega]; rfl) ?_; ((with_reducible conv => whnf); (with_reducible conv => congr <;> reduce); repeat ((first | (with_reducible refine HaltK.mk ?_) | (with_reducible refine StopK.mk ?_)); (with_reducible conv => whnf); (with_reducible conv => congr <;> reduce)))
      repeat' (first
    | (first
    | ((with_reducible show IfK _ _ _ _); first | refine IfK.ff ?_ | refine IfK.tt ?_ | refine IfK.no (by first | rfl | assumption | exact nf (by assumption) | exact nt (by assumption) | ((try simp only [castN]); first | (simp []; done) | (simp []; omega))) ?_ | refine IfK.yes (by first | rfl | assumption | exact nf (by assumption) | exact nt (by assumption) | ((try simp only [castN]); first | (simp []; done) | (simp []; omega))) ?_)
    | ((with_reducible show NeedK _ _ _ _); refine NeedK.mk (by (try simp only [castN]); omega) ?_)
    | ((with_reducible show DrawK _ _ _ _); refine DrawK.mk (by kernel_rfl) (by kernel_rfl) (by kernel_rfl) ?_)) <;> ((with_reducible conv => whnf); (with_reducible conv => congr <;> reduce); repeat ((first | (with_reducible refine HaltK.mk ?_) | (with_reducible refine StopK.mk ?_)); (with_reducible conv => whnf); (with_reducible conv => congr <;> reduce)))
    | ((with_reducible show (_ ∧ _) ∧ _ ∧ _); refine ⟨⟨rfl, rfl⟩, ?_, ?_⟩ <;> (with_reducible conv => whnf) <;> repeat' (first | (with_reducible exact trivial) | (with_reducible refine And.intro ?_ ?_ <;> with_reducible conv => whnf))))
      refine CallK.lend (news := [mBox ⟨l, m⟩]) [0] [] hg1 c83 ⟨rfl, ⟨rfl, rfl⟩, trivial⟩ (ins_box rfl) rfl ⟨⟨rfl, rfl⟩, rfl⟩ rfl ⟨⟨rfl, .inl ⟨rfl, rfl⟩⟩, trivial⟩ rfl rfl ?_; ((with_reducible conv => whnf); (with_reducible conv => congr <;> reduce); repeat ((first | (with_reducible refine HaltK.mk ?_) | (with_reducible refine StopK.mk ?_)); (with_reducible conv => whnf); (with_reducible conv => congr <;> reduce)))
      cases hp : p x with
      | true =>
        rw [hp, if_pos rfl, List.append_nil] at hst
        have hl2 : kp (j + 1) ++ (z :: gar' ++ [x]) ++ ks.drop (j + 1) = kp j ++ z :: gar' ++ x :: ks.drop (j + 1) := by rw [hst]; simp
        repeat' (first
    | (first
    | ((with_reducible show IfK _ _ _ _); first | refine IfK.ff ?_ | refine IfK.tt ?_ | refine IfK.no (by first | rfl | assumption | exact nf (by assumption) | exact nt (by assumption) | ((try simp only [castN]); first | (simp []; done) | (simp []; omega))) ?_ | refine IfK.yes (by first | rfl | assumption | exact nf (by assumption) | exact nt (by assumption) | ((try simp only [castN]); first | (simp []; done) | (simp []; omega))) ?_)
    | ((with_reducible show NeedK _ _ _ _); refine NeedK.mk (by (try simp only [castN]); omega) ?_)
    | ((with_reducible show DrawK _ _ _ _); refine DrawK.mk (by kernel_rfl) (by kernel_rfl) (by kernel_rfl) ?_)) <;> ((with_reducible conv => whnf); (with_reducible conv => congr <;> reduce); repeat ((first | (with_reducible refine HaltK.mk ?_) | (with_reducible refine StopK.mk ?_)); (with_reducible conv => whnf); (with_reducible conv => congr <;> reduce)))
    | ((with_reducible show (_ ∧ _) ∧ _ ∧ _); refine ⟨⟨rfl, rfl⟩, ?_, ?_⟩ <;> (with_reducible conv => whnf) <;> repeat' (first | (with_reducible exact trivial) | (with_reducible refine And.intro ?_ ?_ <;> with_reducible conv => whnf))))
        refine NextK.mk (j + 1, z :: gar' ++ [x]) ⟨by show j + 1 ≤ _; omega, by show (kp (j + 1)).length + _ = j + 1; rw [hst]; simp; omega, by simp⟩ (by show ks.length - (j + 1) < ks.length - j; omega) ?_
        (refine ⟨⟨rfl, rfl⟩, ?_⟩; (with_reducible conv => whnf); (repeat' (first | (with_reducible exact trivial) | (with_reducible refine And.intro ?_ ?_ <;> with_reducible conv => whnf))); (all_goals try rfl))
        all_goals first
          | exact ⟨⟨rfl, rfl, trivial⟩, trivial⟩
          | (show ((kp (j + 1)).length : Int) = ((kp j).length : Int); rw [hst])
          | (show ObjK _ ((kp (j + 1) ++ (z :: gar' ++ [x]) ++ ks.drop (j + 1)).map oInt) _; rw [hl2]; exact ⟨.refl (noRef_ints _), noRef_ints _⟩)
          | trace_state
      | false =>
        rw [hp, if_neg (by simp)] at hst
        have hl2 : ((kp j ++ z :: gar' ++ x :: ks.drop (j + 1)).map oInt).set (0 + (kp j).length) (eInt x) = (kp (j + 1) ++ (gar' ++ [x]) ++ ks.drop (j + 1)).map oInt := by
          rw [hst, Nat.zero_add, List.append_assoc, List.cons_append, List.map_append, List.set_append, if_neg (by simp), List.length_map, Nat.sub_self, List.map_cons, List.set_cons_zero, show eInt x = oInt x from rfl]
          simp
        repeat' (first
    | (first
    | ((with_reducible show IfK _ _ _ _); first | refine IfK.ff ?_ | refine IfK.tt ?_ | refine IfK.no (by first | rfl | assumption | exact nf (by assumption) | exact nt (by assumption) | ((try simp only [castN]); first | (simp []; done) | (simp []; omega))) ?_ | refine IfK.yes (by first | rfl | assumption | exact nf (by assumption) | exact nt (by assumption) | ((try simp only [castN]); first | (simp []; done) | (simp []; omega))) ?_)
    | ((with_reducible show NeedK _ _ _ _); refine NeedK.mk (by (try simp only [castN]); omega) ?_)
    | ((with_reducible show DrawK _ _ _ _); refine DrawK.mk (by kernel_rfl) (by kernel_rfl) (by kernel_rfl) ?_)) <;> ((with_reducible conv => whnf); (with_reducible conv => congr <;> reduce); repeat ((first | (with_reducible refine HaltK.mk ?_) | (with_reducible refine StopK.mk ?_)); (with_reducible conv => whnf); (with_reducible conv => congr <;> reduce)))
    | ((with_reducible show (_ ∧ _) ∧ _ ∧ _); refine ⟨⟨rfl, rfl⟩, ?_, ?_⟩ <;> (with_reducible conv => whnf) <;> repeat' (first | (with_reducible exact trivial) | (with_reducible refine And.intro ?_ ?_ <;> with_reducible conv => whnf))))
        refine LtK.mk (kp j).length rfl (by omega) ?_; ((with_reducible conv => whnf); (with_reducible conv => congr <;> reduce); repeat ((first | (with_reducible refine HaltK.mk ?_) | (with_reducible refine StopK.mk ?_)); (with_reducible conv => whnf); (with_reducible conv => congr <;> reduce)))
        refine ElemK.mk (eInt z) (by rw [Nat.zero_add, List.getElem?_map, List.append_assoc, List.getElem?_append_right (Nat.le_refl _), Nat.sub_self]; rfl) ?_; ((with_reducible conv => whnf); (with_reducible conv => congr <;> reduce); repeat ((first | (with_reducible refine HaltK.mk ?_) | (with_reducible refine StopK.mk ?_)); (with_reducible conv => whnf); (with_reducible conv => congr <;> reduce)))
        rw [hl2]
        repeat' (first
    | (first
    | ((with_reducible show IfK _ _ _ _); first | refine IfK.ff ?_ | refine IfK.tt ?_ | refine IfK.no (by first | rfl | assumption | exact nf (by assumption) | exact nt (by assumption) | ((try simp only [castN]); first | (simp []; done) | (simp []; omega))) ?_ | refine IfK.yes (by first | rfl | assumption | exact nf (by assumption) | exact nt (by assumption) | ((try simp only [castN]); first | (simp []; done) | (simp []; omega))) ?_)
    | ((with_reducible show NeedK _ _ _ _); refine NeedK.mk (by (try simp only [castN]); omega) ?_)
    | ((with_reducible show DrawK _ _ _ _); refine DrawK.mk (by kernel_rfl) (by kernel_rfl) (by kernel_rfl) ?_)) <;> ((with_reducible conv => whnf); (with_reducible conv => congr <;> reduce); repeat ((first | (with_reducible refine HaltK.mk ?_) | (with_reducible refine StopK.mk ?_)); (with_reducible conv => whnf); (with_reducible conv => congr <;> reduce)))
    | ((with_reducible show (_ ∧ _) ∧ _ ∧ _); refine ⟨⟨rfl, rfl⟩, ?_, ?_⟩ <;> (with_reducible conv => whnf) <;> repeat' (first | (with_reducible exact trivial) | (with_reducible refine And.intro ?_ ?_ <;> with_reducible conv => whnf))))
        refine NextK.mk (j + 1, gar' ++ [x]) ⟨by show j + 1 ≤ _; omega, by show (kp (j + 1)).length + _ = j + 1; rw [hst]; simp; omega, by simp⟩ (by show ks.length - (j + 1) < ks.length - j; omega) ?_
        (refine ⟨⟨rfl, rfl⟩, ?_⟩; (with_reducible conv => whnf); (repeat' (first | (with_reducible exact trivial) | (with_reducible refine And.intro ?_ ?_ <;> with_reducible conv => whnf))); (all_goals try rfl))
        all_goals first
          | exact ⟨⟨rfl, rfl, trivial⟩, trivial⟩
          | exact ⟨.refl (noRef_ints _), noRef_ints _⟩
          | (show ((kp (j + 1)).length : Int) = ((kp j).length : Int) + 1; rw [hst]; simp)
          | trace_state
    · simp only [decide_eq_false_iff_not] at h1
      obtain rfl : j = ks.length := by omega
      repeat' (first
    | (first
    | ((with_reducible show IfK _ _ _ _); first | refine IfK.ff ?_ | refine IfK.tt ?_ | refine IfK.no (by first | rfl | assumption | exact nf (by assumption) | exact nt (by assumption) | ((try simp only [castN]); first | (simp []; done) | (simp []; omega))) ?_ | refine IfK.yes (by first | rfl | assumption | exact nf (by assumption) | exact nt (by assumption) | ((try simp only [castN]); first | (simp []; done) | (simp []; omega))) ?_)
    | ((with_reducible show NeedK _ _ _ _); refine NeedK.mk (by (try simp only [castN]); omega) ?_)
    | ((with_reducible show DrawK _ _ _ _); refine DrawK.mk (by kernel_rfl) (by kernel_rfl) (by kernel_rfl) ?_)) <;> ((with_reducible conv => whnf); (with_reducible conv => congr <;> reduce); repeat ((first | (with_reducible refine HaltK.mk ?_) | (with_reducible refine StopK.mk ?_)); (with_reducible conv => whnf); (with_reducible conv => congr <;> reduce)))
    | ((with_reducible show (_ ∧ _) ∧ _ ∧ _); refine ⟨⟨rfl, rfl⟩, ?_, ?_⟩ <;> (with_reducible conv => whnf) <;> repeat' (first | (with_reducible exact trivial) | (with_reducible refine And.intro ?_ ?_ <;> with_reducible conv => whnf))))
      refine CutK.mk (kp ks.length).length gar.length rfl (by (try simp only [castN]); omega) (by omega) ?_; ((with_reducible conv => whnf); (with_reducible conv => congr <;> reduce); repeat ((first | (with_reducible refine HaltK.mk ?_) | (with_reducible refine StopK.mk ?_)); (with_reducible conv => whnf); (with_reducible conv => congr <;> reduce)))
      have hpos : 0 < gar.length := List.length_pos_iff.2 hg0
      refine HandK.clear ((kp ks.length ++ List.replicate gar.length 0).map oInt) (by
        rw [Nat.zero_add, List.map_append, List.map_append, List.map_append, List.append_assoc, List.take_left' (List.length_map ..), List.map_replicate]; rfl) rfl Tryz.underlying33 Tryz.zeroValue3 rfl rfl rfl rfl hpos rfl (by simp) rfl ?_; ((with_reducible conv => whnf); (with_reducible conv => congr <;> reduce); repeat ((first | (with_reducible refine HaltK.mk ?_) | (with_reducible refine StopK.mk ?_)); (with_reducible conv => whnf); (with_reducible conv => congr <;> reduce)))
      repeat' (first
    | (first
    | ((with_reducible show IfK _ _ _ _); first | refine IfK.ff ?_ | refine IfK.tt ?_ | refine IfK.no (by first | rfl | assumption | exact nf (by assumption) | exact nt (by assumption) | ((try simp only [castN]); first | (simp []; done) | (simp []; omega))) ?_ | refine IfK.yes (by first | rfl | assumption | exact nf (by assumption) | exact nt (by assumption) | ((try simp only [castN]); first | (simp []; done) | (simp []; omega))) ?_)
    | ((with_reducible show NeedK _ _ _ _); refine NeedK.mk (by (try simp only [castN]); omega) ?_)
    | ((with_reducible show DrawK _ _ _ _); refine DrawK.mk (by kernel_rfl) (by kernel_rfl) (by kernel_rfl) ?_)) <;> ((with_reducible conv => whnf); (with_reducible conv => congr <;> reduce); repeat ((first | (with_reducible refine HaltK.mk ?_) | (with_reducible refine StopK.mk ?_)); (with_reducible conv => whnf); (with_reducible conv => congr <;> reduce)))
    | ((with_reducible show (_ ∧ _) ∧ _ ∧ _); refine ⟨⟨rfl, rfl⟩, ?_, ?_⟩ <;> (with_reducible conv => whnf) <;> repeat' (first | (with_reducible exact trivial) | (with_reducible refine And.intro ?_ ?_ <;> with_reducible conv => whnf))))
      refine CutK.mk 0 (kp ks.length).length rfl (by (try simp only [castN]); omega) (by omega) ?_; ((with_reducible conv => whnf); (with_reducible conv => congr <;> reduce); repeat ((first | (with_reducible refine HaltK.mk ?_) | (with_reducible refine StopK.mk ?_)); (with_reducible conv => whnf); (with_reducible conv => congr <;> reduce)))
      repeat' (first
    | (first
    | ((with_reducible show IfK _ _ _ _); first | refine IfK.ff ?_ | refine IfK.tt ?_ | refine IfK.no (by first | rfl | assumption | exact nf (by assumption) | exact nt (by assumption) | ((try simp only [castN]); first | (simp []; done) | (simp []; omega))) ?_ | refine IfK.yes (by first | rfl | assumption | exact nf (by assumption) | exact nt (by assumption) | ((try simp only [castN]); first | (simp []; done) | (simp []; omega))) ?_)
    | ((with_reducible show NeedK _ _ _ _); refine NeedK.mk (by (try simp only [castN]); omega) ?_)
    | ((with_reducible show DrawK _ _ _ _); refine DrawK.mk (by kernel_rfl) (by kernel_rfl) (by kernel_rfl) ?_)) <;> ((with_reducible conv => whnf); (with_reducible conv => congr <;> reduce); repeat ((first | (with_reducible refine HaltK.mk ?_) | (with_reducible refine StopK.mk ?_)); (with_reducible conv => whnf); (with_reducible conv => congr <;> reduce)))
    | ((with_reducible show (_ ∧ _) ∧ _ ∧ _); refine ⟨⟨rfl, rfl⟩, ?_, ?_⟩ <;> (with_reducible conv => whnf) <;> repeat' (first | (with_reducible exact trivial) | (with_reducible refine And.intro ?_ ?_ <;> with_reducible conv => whnf))))
      all_goals first
        | rfl
        | (rw [hend]; done)
        | exact ⟨⟨rfl, rfl, trivial⟩, trivial⟩
        | (rw [← hend, show ks.length - (kp ks.length).length = gar.length by omega]; exact ⟨.refl (noRef_ints _), noRef_ints _⟩)
        | (show ObjK _ ((keepI p ks ++ List.replicate (ks.length - (keepI p ks).length) 0).map oInt) _; rw [← hend, show ks.length - (kp ks.length).length = gar.length by omega]; exact ⟨.refl (noRef_ints _), noRef_ints _⟩)
        | trace_state
end
end Go.Proofs.Heir
namespace Go.Proofs.Heir
open Go Go.Am Go.RowKit Go.Lib
set_option maxRecDepth 100000
set_option maxHeartbeats 8000000
theorem f164_own (f : ForM) (hs : SmallN f.nodes) (n : Int) (e0 : (rightF f && thereN f.nodes n) = true) : FnOK Tryz.prog 164 [] [eFor f, eInt n] [rInts (ordN f.nodes f.nodes.length n)] (.own 0 0 (ordN f.nodes f.nodes.length n).length) := by
 have h76 := f63_ok f hs [n] (by simp)
 rw [asked_one] at h76
 obtain ⟨l, m⟩ := f
 simp only at h76 e0 ⊢
 have hlm : (l.map oNode).length = l.length := List.length_map ..
 refine FnOK.startC (rvs := [.tmp 4]) G G_good Tryz.func164 rfl Tryz.ntmps164 rfl rfl ?_; delta List.toArray; (with_reducible ((conv => whnf); (conv => congr <;> reduce); repeat ((first | refine hK ?_ | refine sK ?_); (conv => whnf); (conv => congr <;> reduce))))
 rw [e0] at h76
 refine CallK.lit [131] h76 c63 ⟨⟨rfl, rfl, trivial⟩, frz_ints (l := [n]) rfl rfl rfl rfl, trivial⟩ rfl rfl ?_; (with_reducible ((conv => whnf); (conv => congr <;> reduce); repeat ((first | refine hK ?_ | refine sK ?_); (conv => whnf); (conv => congr <;> reduce))))
 obtain ⟨hr, hn⟩ : rightF ⟨l, m⟩ = true ∧ thereN l n = true := by simpa using e0
 have T := tree_of hr
 have hol := ord_len T l.length hn
 simp only at T hol
 repeat' (first
  | (first
  | ((with_reducible show IfK _ _ _ _); first | refine IfK.ff ?_ | refine IfK.tt ?_ | refine IfK.no (by first | exact qA | ((try simp only [castN]); first | (simp []; done) | (simp []; omega))) ?_ | refine IfK.yes (by first | exact qA | ((try simp only [castN]); first | (simp []; done) | (simp []; omega))) ?_)
  | ((with_reducible show NeedK _ _ _ _); refine nK ?_)
  | ((with_reducible show DrawK _ _ _ _); refine dK ?_)) <;> (with_reducible ((conv => whnf); (conv => congr <;> reduce); repeat ((first | refine hK ?_ | refine sK ?_); (conv => whnf); (conv => congr <;> reduce))))
  | ((with_reducible show (_ ∧ _) ∧ _ ∧ _); refine ⟨⟨rfl, rfl⟩, ?_, ?_⟩ <;> with_reducible ((conv => whnf) <;> repeat' (first | exact trivial | (refine And.intro ?_ ?_ <;> (conv => whnf))))))
 refine LoopK.ghost 5 51 1 rfl rfl ?_
 refine LoopK.use G G_good (fun (i : List Int × List Int × List Int) => [(2, .ptr 20 0 0), (5, .own 51 0 i.1.length), (6, .ptr 60 0 0)])
  (fun i => [(20, .live 2 [eFor ⟨l, m⟩] false), (51, rInts i.1), (60, .live 1 [.own 171 0 i.2.1.length] false), (171, rInts (i.2.1 ++ i.2.2))])
  (fun i => ordN l l.length n = i.1 ++ V.rest l i.2.1 ∧ ∀ c ∈ i.2.1, thereN l c = true) (fun i => l.length - i.1.length) ([], [n], []) ⟨by simp [V.rest], fun c hc => by rw [List.mem_singleton] at hc; subst hc; exact hn⟩
  (by refine ⟨⟨rfl, rfl⟩, ⟨⟨rfl, rfl⟩, ⟨rfl, rfl⟩, ⟨rfl, rfl⟩, trivial⟩, ⟨⟨rfl, rfl, trivial⟩, trivial⟩, ⟨.refl rfl, noRef_ints _⟩, ⟨⟨rfl, rfl⟩, trivial⟩, ⟨.refl rfl, noRef_ints _⟩, trivial⟩) ?_
 rintro ⟨out, st, sp⟩ ⟨ho, hst⟩
 simp only at ho hst
 (with_reducible ((conv => whnf); (conv => congr <;> reduce); repeat ((first | refine hK ?_ | refine sK ?_); (conv => whnf); (conv => congr <;> reduce))))
 have hoL := congrArg List.length ho
 rw [List.length_append] at hoL
 have hol' : out.length = (out.map oInt).length := (List.length_map ..).symm
 have hrl := V.rest_len T hst
 have hl60 := hs.len
 simp only at hl60
 obtain h | ⟨st', t, h⟩ := List.eq_nil_or_concat st <;> (try rw [List.concat_eq_append] at h) <;> subst h
 ·repeat' (first
  | (first
  | ((with_reducible show IfK _ _ _ _); first | refine IfK.ff ?_ | refine IfK.tt ?_ | refine IfK.no (by first | exact qA | ((try simp only [castN]); first | (simp []; done) | (simp []; omega))) ?_ | refine IfK.yes (by first | exact qA | ((try simp only [castN]); first | (simp []; done) | (simp []; omega))) ?_)
  | ((with_reducible show NeedK _ _ _ _); refine nK ?_)
  | ((with_reducible show DrawK _ _ _ _); refine dK ?_)) <;> (with_reducible ((conv => whnf); (conv => congr <;> reduce); repeat ((first | refine hK ?_ | refine sK ?_); (conv => whnf); (conv => congr <;> reduce))))
  | ((with_reducible show (_ ∧ _) ∧ _ ∧ _); refine ⟨⟨rfl, rfl⟩, ?_, ?_⟩ <;> with_reducible ((conv => whnf) <;> repeat' (first | exact trivial | (refine And.intro ?_ ?_ <;> (conv => whnf))))))
  all_goals have ho' : ordN l l.length n = out := by rw [ho]; simp [V.rest]
  all_goals clear ho hoL
  all_goals subst ho'
  all_goals first
   | rfl
   | exact MFL_refl (noRef_ints _)
 ·have ht := hst t (by simp)
  have hlen : (st' ++ [t]).length = st'.length + 1 := by simp
  obtain ⟨k, x, rfl, hx, hnx⟩ := there_iff.1 ht
  rw [hlen]
  rw [hlen] at hrl
  repeat' (first
  | (first
  | ((with_reducible show IfK _ _ _ _); first | refine IfK.ff ?_ | refine IfK.tt ?_ | refine IfK.no (by first | exact qA | ((try simp only [castN]); first | (simp []; done) | (simp []; omega))) ?_ | refine IfK.yes (by first | exact qA | ((try simp only [castN]); first | (simp []; done) | (simp []; omega))) ?_)
  | ((with_reducible show NeedK _ _ _ _); refine nK ?_)
  | ((with_reducible show DrawK _ _ _ _); refine dK ?_)) <;> (with_reducible ((conv => whnf); (conv => congr <;> reduce); repeat ((first | refine hK ?_ | refine sK ?_); (conv => whnf); (conv => congr <;> reduce))))
  | ((with_reducible show (_ ∧ _) ∧ _ ∧ _); refine ⟨⟨rfl, rfl⟩, ?_, ?_⟩ <;> with_reducible ((conv => whnf) <;> repeat' (first | exact trivial | (refine And.intro ?_ ?_ <;> (conv => whnf))))))
  refine LtK.mk st'.length (by (try simp only [castN]); omega) (by omega) ?_; (with_reducible ((conv => whnf); (conv => congr <;> reduce); repeat ((first | refine hK ?_ | refine sK ?_); (conv => whnf); (conv => congr <;> reduce))))
  refine ElemK.mk (eInt (k : Int)) (by rw [Nat.zero_add, List.getElem?_map, List.append_assoc, List.getElem?_append_right (Nat.le_refl _), Nat.sub_self]; rfl) ?_; (with_reducible ((conv => whnf); (conv => congr <;> reduce); repeat ((first | refine hK ?_ | refine sK ?_); (conv => whnf); (conv => congr <;> reduce))))
  repeat' (first
  | (first
  | ((with_reducible show IfK _ _ _ _); first | refine IfK.ff ?_ | refine IfK.tt ?_ | refine IfK.no (by first | exact qA | ((try simp only [castN]); first | (simp []; done) | (simp []; omega))) ?_ | refine IfK.yes (by first | exact qA | ((try simp only [castN]); first | (simp []; done) | (simp []; omega))) ?_)
  | ((with_reducible show NeedK _ _ _ _); refine nK ?_)
  | ((with_reducible show DrawK _ _ _ _); refine dK ?_)) <;> (with_reducible ((conv => whnf); (conv => congr <;> reduce); repeat ((first | refine hK ?_ | refine sK ?_); (conv => whnf); (conv => congr <;> reduce))))
  | ((with_reducible show (_ ∧ _) ∧ _ ∧ _); refine ⟨⟨rfl, rfl⟩, ?_, ?_⟩ <;> with_reducible ((conv => whnf) <;> repeat' (first | exact trivial | (refine And.intro ?_ ?_ <;> (conv => whnf))))))
  refine CutK.mk 0 st'.length rfl (by (try simp only [castN]); omega) (by omega) ?_; (with_reducible ((conv => whnf); (conv => congr <;> reduce); repeat ((first | refine hK ?_ | refine sK ?_); (conv => whnf); (conv => congr <;> reduce))))
  repeat' (first
  | (first
  | ((with_reducible show IfK _ _ _ _); first | refine IfK.ff ?_ | refine IfK.tt ?_ | refine IfK.no (by first | exact qA | ((try simp only [castN]); first | (simp []; done) | (simp []; omega))) ?_ | refine IfK.yes (by first | exact qA | ((try simp only [castN]); first | (simp []; done) | (simp []; omega))) ?_)
  | ((with_reducible show NeedK _ _ _ _); refine nK ?_)
  | ((with_reducible show DrawK _ _ _ _); refine dK ?_)) <;> (with_reducible ((conv => whnf); (conv => congr <;> reduce); repeat ((first | refine hK ?_ | refine sK ?_); (conv => whnf); (conv => congr <;> reduce))))
  | ((with_reducible show (_ ∧ _) ∧ _ ∧ _); refine ⟨⟨rfl, rfl⟩, ?_, ?_⟩ <;> with_reducible ((conv => whnf) <;> repeat' (first | exact trivial | (refine And.intro ?_ ?_ <;> (conv => whnf))))))
  refine AppK.mk (out.map oInt) [eInt (k : Int)] ⟨rfl, hol', rfl⟩ ⟨rfl, rfl, rfl⟩ rfl (by simp; omega) (by simp; omega) ?_; (with_reducible ((conv => whnf); (conv => congr <;> reduce); repeat ((first | refine hK ?_ | refine sK ?_); (conv => whnf); (conv => congr <;> reduce))))
  repeat' (first
  | (first
  | ((with_reducible show IfK _ _ _ _); first | refine IfK.ff ?_ | refine IfK.tt ?_ | refine IfK.no (by first | exact qA | ((try simp only [castN]); first | (simp []; done) | (simp []; omega))) ?_ | refine IfK.yes (by first | exact qA | ((try simp only [castN]); first | (simp []; done) | (simp []; omega))) ?_)
  | ((with_reducible show NeedK _ _ _ _); refine nK ?_)
  | ((with_reducible show DrawK _ _ _ _); refine dK ?_)) <;> (with_reducible ((conv => whnf); (conv => congr <;> reduce); repeat ((first | refine hK ?_ | refine sK ?_); (conv => whnf); (conv => congr <;> reduce))))
  | ((with_reducible show (_ ∧ _) ∧ _ ∧ _); refine ⟨⟨rfl, rfl⟩, ?_, ?_⟩ <;> with_reducible ((conv => whnf) <;> repeat' (first | exact trivial | (refine And.intro ?_ ?_ <;> (conv => whnf))))))
  obtain ⟨a1, a2, a3, a4, a5, a6, a7, a8, a9, a10⟩ := x
  refine IdxK.mk k (eNode _) rfl (node_get hx) ?_; (with_reducible ((conv => whnf); (conv => congr <;> reduce); repeat ((first | refine hK ?_ | refine sK ?_); (conv => whnf); (conv => congr <;> reduce))))
  repeat' (first
  | (first
  | ((with_reducible show IfK _ _ _ _); first | refine IfK.ff ?_ | refine IfK.tt ?_ | refine IfK.no (by first | exact qA | ((try simp only [castN]); first | (simp []; done) | (simp []; omega))) ?_ | refine IfK.yes (by first | exact qA | ((try simp only [castN]); first | (simp []; done) | (simp []; omega))) ?_)
  | ((with_reducible show NeedK _ _ _ _); refine nK ?_)
  | ((with_reducible show DrawK _ _ _ _); refine dK ?_)) <;> (with_reducible ((conv => whnf); (conv => congr <;> reduce); repeat ((first | refine hK ?_ | refine sK ?_); (conv => whnf); (conv => congr <;> reduce))))
  | ((with_reducible show (_ ∧ _) ∧ _ ∧ _); refine ⟨⟨rfl, rfl⟩, ?_, ?_⟩ <;> with_reducible ((conv => whnf) <;> repeat' (first | exact trivial | (refine And.intro ?_ ?_ <;> (conv => whnf))))))
  refine cV (f148_ok a7) c148 ?_; (with_reducible ((conv => whnf); (conv => congr <;> reduce); repeat ((first | refine hK ?_ | refine sK ?_); (conv => whnf); (conv => congr <;> reduce))))
  repeat' (first
  | (first
  | ((with_reducible show IfK _ _ _ _); first | refine IfK.ff ?_ | refine IfK.tt ?_ | refine IfK.no (by first | exact qA | ((try simp only [castN]); first | (simp []; done) | (simp []; omega))) ?_ | refine IfK.yes (by first | exact qA | ((try simp only [castN]); first | (simp []; done) | (simp []; omega))) ?_)
  | ((with_reducible show NeedK _ _ _ _); refine nK ?_)
  | ((with_reducible show DrawK _ _ _ _); refine dK ?_)) <;> (with_reducible ((conv => whnf); (conv => congr <;> reduce); repeat ((first | refine hK ?_ | refine sK ?_); (conv => whnf); (conv => congr <;> reduce))))
  | ((with_reducible show (_ ∧ _) ∧ _ ∧ _); refine ⟨⟨rfl, rfl⟩, ?_, ?_⟩ <;> with_reducible ((conv => whnf) <;> repeat' (first | exact trivial | (refine And.intro ?_ ?_ <;> (conv => whnf))))))
  obtain ⟨spF, hs0, hs1⟩ : ∃ spF : Nat → List Int, spF 0 = (k : Int) :: sp ∧ ∀ j, spF (j + 1) = [] := ⟨fun j => match j with | 0 => (k : Int) :: sp | _ + 1 => [], rfl, fun _ => rfl⟩
  have hk7 := hs.kids _ (List.mem_of_getElem? hx)
  simp only at hk7
  refine LoopK.range G G_good 3 [(2, .ptr 1 0 0), (5, .own 2 0 (out.length + 1)), (6, .ptr 0 0 0), (41, .clo (.func 193) [] [.fptr (eInts a7) 0])]
   (fun j => [(0, .live 1 [.own 171 0 (st'.length + j)] false), (1, .live 2 [eFor ⟨l, m⟩] false), (2, rInts (out ++ [(k : Int)])), (171, rInts (st' ++ a7.reverse.take j ++ spF j))])
   (back_it a7 (by omega)) c193 ?_ rfl ⟨⟨rfl, rfl⟩, rfl⟩ (fun _ _ => rfl) (fun _ _ => rfl) ⟨⟨rfl, rfl⟩, rfl, rfl⟩ ?_ ?_
  ·refine ⟨⟨rfl, rfl⟩, ?_⟩
   (with_reducible conv => whnf)
   repeat' (first | (with_reducible exact trivial) | (with_reducible refine And.intro ?_ ?_ <;> with_reducible conv => whnf))
   all_goals try rfl
   ·simp
   ·exact ⟨.refl rfl, rfl⟩
   ·refine ⟨?_, noRef_ints _⟩
    rw [← show (out ++ [(k : Int)]).map oInt = out.map oInt ++ [AV.lit (.int .i64 k)] by simp; rfl]
    exact .refl (noRef_ints _)
   ·refine ⟨?_, noRef_ints _⟩
    rw [hs0, List.take_zero, List.append_nil, show st' ++ [(k : Int)] ++ sp = st' ++ (k : Int) :: sp by simp]; exact .refl (noRef_ints _)
  ·intro j hj
   (with_reducible ((conv => whnf); (conv => congr <;> reduce); repeat ((first | refine hK ?_ | refine sK ?_); (conv => whnf); (conv => congr <;> reduce))))
   refine BodyK.mk rfl ?_; (with_reducible ((conv => whnf); (conv => congr <;> reduce); repeat ((first | refine hK ?_ | refine sK ?_); (conv => whnf); (conv => congr <;> reduce))))
   repeat' (first
  | (first
  | ((with_reducible show IfK _ _ _ _); first | refine IfK.ff ?_ | refine IfK.tt ?_ | refine IfK.no (by first | exact qA | ((try simp only [castN]); first | (simp []; done) | (simp []; omega))) ?_ | refine IfK.yes (by first | exact qA | ((try simp only [castN]); first | (simp []; done) | (simp []; omega))) ?_)
  | ((with_reducible show NeedK _ _ _ _); refine nK ?_)
  | ((with_reducible show DrawK _ _ _ _); refine dK ?_)) <;> (with_reducible ((conv => whnf); (conv => congr <;> reduce); repeat ((first | refine hK ?_ | refine sK ?_); (conv => whnf); (conv => congr <;> reduce))))
  | ((with_reducible show (_ ∧ _) ∧ _ ∧ _); refine ⟨⟨rfl, rfl⟩, ?_, ?_⟩ <;> with_reducible ((conv => whnf) <;> repeat' (first | exact trivial | (refine And.intro ?_ ?_ <;> (conv => whnf))))))
   refine AppK.take ((st' ++ a7.reverse.take j).map oInt) [oInt ((a7.reverse[j]?).getD 0)] ⟨rfl, by simp; omega, by rw [List.map_append (l₂ := spF j), List.take_left' (by simp; omega)]⟩ ⟨rfl, rfl, rfl⟩ rfl (by simp; omega) (by simp; omega) ?_
   (with_reducible ((conv => whnf); (conv => congr <;> reduce); repeat ((first | refine hK ?_ | refine sK ?_); (conv => whnf); (conv => congr <;> reduce))))
   repeat' (first
  | (first
  | ((with_reducible show IfK _ _ _ _); first | refine IfK.ff ?_ | refine IfK.tt ?_ | refine IfK.no (by first | exact qA | ((try simp only [castN]); first | (simp []; done) | (simp []; omega))) ?_ | refine IfK.yes (by first | exact qA | ((try simp only [castN]); first | (simp []; done) | (simp []; omega))) ?_)
  | ((with_reducible show NeedK _ _ _ _); refine nK ?_)
  | ((with_reducible show DrawK _ _ _ _); refine dK ?_)) <;> (with_reducible ((conv => whnf); (conv => congr <;> reduce); repeat ((first | refine hK ?_ | refine sK ?_); (conv => whnf); (conv => congr <;> reduce))))
  | ((with_reducible show (_ ∧ _) ∧ _ ∧ _); refine ⟨⟨rfl, rfl⟩, ?_, ?_⟩ <;> with_reducible ((conv => whnf) <;> repeat' (first | exact trivial | (refine And.intro ?_ ?_ <;> (conv => whnf))))))
   refine TurnK.mk ?_
   obtain ⟨c, hc⟩ : ∃ c, a7.reverse[j]? = some c := ⟨_, List.getElem?_eq_getElem (by simpa using hj)⟩
   have htk : a7.reverse.take (j + 1) = a7.reverse.take j ++ [c] := by rw [List.take_add_one, hc]; rfl
   rw [hc, Option.getD_some]
   refine ⟨⟨rfl, rfl⟩, ?_⟩
   (with_reducible conv => whnf)
   repeat' (first | (with_reducible exact trivial) | (with_reducible refine And.intro ?_ ?_ <;> with_reducible conv => whnf))
   all_goals try rfl
   ·simp; omega
   ·exact ⟨.refl rfl, rfl⟩
   ·exact ⟨.refl (noRef_ints _), noRef_ints _⟩
   ·refine ⟨?_, noRef_ints _⟩
    rw [hs1, htk, List.append_nil, ← List.append_assoc, List.map_append (l₂ := [c])]; exact .refl (by rw [← List.map_append]; exact noRef_ints _)
  ·(with_reducible ((conv => whnf); (conv => congr <;> reduce); repeat ((first | refine hK ?_ | refine sK ?_); (conv => whnf); (conv => congr <;> reduce))))
   have hT : nd l k = ⟨a1, a2, a3, a4, a5, a6, a7, a8, a9, a10⟩ := hnx
   have hch : (nd l k).kids = a7 := by rw [hT]
   have hpop := V.rest_pop T (st := st') ht
   rw [hch] at hpop
   have hkid : ∀ c ∈ a7, thereN l c = true := fun c hc => (T.kid k ht c (by rw [hch]; exact hc)).1
   have hta : a7.reverse.take a7.length = a7.reverse := List.take_of_length_le (by simp)
   refine NextK.mk (out ++ [(k : Int)], st' ++ a7.reverse, spF a7.length) ⟨?_, ?_⟩ ?_ ?_
   ·rw [ho, hpop]; simp
   ·intro c hc
    rcases List.mem_append.1 hc with h | h
    ·exact hst c (by simp [h])
    ·exact hkid c (by simpa using h)
   ·simp only [List.length_append, List.length_singleton]; omega
   ·refine ⟨⟨rfl, rfl⟩, ?_⟩
    (with_reducible conv => whnf)
    repeat' (first | (with_reducible exact trivial) | (with_reducible refine And.intro ?_ ?_ <;> with_reducible conv => whnf))
    all_goals try rfl
    ·simp
    ·exact ⟨.refl (noRef_ints _), noRef_ints _⟩
    ·simp
    ·refine ⟨?_, noRef_ints _⟩
     rw [hta]; exact .refl (noRef_ints _)
theorem wide_ints (l : List Int) : wideM [(0, rInts l)] = true := by
 have : wideB 1 (l.map oInt) = true := List.all_eq_true.2 fun x hx => by
  obtain ⟨n, _, rfl⟩ := List.mem_map.1 hx; rfl
 show (wideB 1 (l.map oInt) && true) = true
 rw [this]; rfl
theorem f164_ok (f : ForM) (hs : SmallN f.nodes) (n : Int) : FnOK Tryz.prog 164 [] [eFor f, eInt n] [] (eInts (ordF f n)) := by
 cases e0 : (rightF f && thereN f.nodes n) with
 | true =>
   unfold ordF
   rw [if_pos e0]
   refine FnOK.frozen [(0, rInts (ordN f.nodes f.nodes.length n))] ?_ (wide_ints _) (f164_own f hs n e0) (frz_ints rfl rfl rfl rfl)
   funext t
   match t with
   | 0 => rfl
   | n + 1 => rfl
 | false =>
   have h76 := f63_ok f hs [n] (by simp)
   rw [asked_one, e0] at h76
   unfold ordF
   rw [e0]
   obtain ⟨l, m⟩ := f
   refine FnOK.startC (rvs := [.tmp 4]) G G_good Tryz.func164 rfl Tryz.ntmps164 rfl rfl ?_; delta List.toArray; (with_reducible ((conv => whnf); (conv => congr <;> reduce); repeat ((first | refine hK ?_ | refine sK ?_); (conv => whnf); (conv => congr <;> reduce))))
   refine CallK.lit [131] h76 c63 ⟨⟨rfl, rfl, trivial⟩, frz_ints (l := [n]) rfl rfl rfl rfl, trivial⟩ rfl rfl ?_; (with_reducible ((conv => whnf); (conv => congr <;> reduce); repeat ((first | refine hK ?_ | refine sK ?_); (conv => whnf); (conv => congr <;> reduce))))
   repeat' (first
  | (first
  | ((with_reducible show IfK _ _ _ _); first | refine IfK.ff ?_ | refine IfK.tt ?_ | refine IfK.no (by first | exact qA | ((try simp only [castN]); first | (simp []; done) | (simp []; omega))) ?_ | refine IfK.yes (by first | exact qA | ((try simp only [castN]); first | (simp []; done) | (simp []; omega))) ?_)
  | ((with_reducible show NeedK _ _ _ _); refine nK ?_)
  | ((with_reducible show DrawK _ _ _ _); refine dK ?_)) <;> (with_reducible ((conv => whnf); (conv => congr <;> reduce); repeat ((first | refine hK ?_ | refine sK ?_); (conv => whnf); (conv => congr <;> reduce))))
  | ((with_reducible show (_ ∧ _) ∧ _ ∧ _); refine ⟨⟨rfl, rfl⟩, ?_, ?_⟩ <;> with_reducible ((conv => whnf) <;> repeat' (first | exact trivial | (refine And.intro ?_ ?_ <;> (conv => whnf))))))
   all_goals exact .inr (.inr ⟨1, rfl⟩)
@[reducible] def eIds (t : List (ByteArray × Int)) : AV := .fmap (tRows Value.string oInt t)
def oIds (t : List (ByteArray × Int)) : AV := eIds t
@[reducible] def idRows (c : List (Int × List (ByteArray × Int))) : List AV := tRows vInt oIds c
@[reducible] def idsM (c : List (Int × List (ByteArray × Int))) : MS := .live 2 (idRows c) false
theorem mt114 : MapTy Tryz.prog 141 (.int .i64) (.map none) := ⟨3, 202, by kernel_rfl, by kernel_rfl, fun w => Tryz.zeroValue202 w⟩
theorem noRef_tRows {K α : Type} (kv : K → Value) (e : α → AV) (h : ∀ a, noRef (e a) = true) (l : List (K × α)) : noRefL (tRows kv e l) = true := by
 rw [noRefL_iff]; intro x hx
 obtain ⟨p, _, rfl⟩ := List.mem_map.1 hx
 simp [entry, noRef, noRefL, h]
theorem noRef_ids (c : List (Int × List (ByteArray × Int))) : noRefL (idRows c) = true := noRef_tRows _ _ (fun _ => rfl) c
theorem noRef_idT (t : List (ByteArray × Int)) : noRefL (tRows Value.string oInt t) = true := noRef_tRows _ _ (fun _ => rfl) t
structure IdsOK (l : List NodeM) (c : List (Int × List (ByteArray × Int))) : Prop where
 is : ∀ r t, tget r c = some t → t = idTab l r
 len : c.length ≤ 1000
def keepT (l : List NodeM) (c : List (Int × List (ByteArray × Int))) (r : Int) : List (Int × List (ByteArray × Int)) := match tget r c with
 | some _ => c
 | none => c ++ [(r, idTab l r)]
def stepC (l : List NodeM) (c : List (Int × List (ByteArray × Int))) (n : Int) : List (Int × List (ByteArray × Int)) :=
 if (nd l n).kind = 1 then
  match attV (nd l n) formW with
  | some _ => if conN l n = true then keepT l c (rootN l n) else c
  | none => c
 else c
theorem keepT_is {l : List NodeM} {c : List (Int × List (ByteArray × Int))} (h : ∀ r t, tget r c = some t → t = idTab l r) (r : Int) : ∀ q t, tget q (keepT l c r) = some t → t = idTab l q := by
 intro q t
 unfold keepT
 cases hg : tget r c with
 | some x => exact h q t
 | none =>
   rw [← tput_new hg, tget_put]
   by_cases e : r = q
   ·rw [if_pos e]; intro ht; cases ht; rw [e]
   ·rw [if_neg e]; exact h q t
theorem keepT_len (l : List NodeM) (c : List (Int × List (ByteArray × Int))) (r : Int) : (keepT l c r).length ≤ c.length + 1 := by
 unfold keepT; split <;> simp
theorem stepC_is {l : List NodeM} {c : List (Int × List (ByteArray × Int))} (h : ∀ r t, tget r c = some t → t = idTab l r) (n : Int) : ∀ q t, tget q (stepC l c n) = some t → t = idTab l q := by
 unfold stepC
 split
 ·split
  ·split
   ·exact keepT_is h _
   ·exact h
  ·exact h
 ·exact h
theorem stepC_len (l : List NodeM) (c : List (Int × List (ByteArray × Int))) (n : Int) : (stepC l c n).length ≤ c.length + 1 := by
 unfold stepC
 split
 ·split
  ·split
   ·exact keepT_len _ _ _
   ·omega
  ·omega
 ·omega
theorem f167_ok (l : List NodeM) (m : Int) (c : List (Int × List (ByteArray × Int))) (T : Tree l) (n : Int) (hn : thereN l n = true) :
  FnOK Tryz.prog 167 [] [.agg [eNodes l, eInt m, .fmap (idRows c)], eInt n] [] (eInt (nearN l n)) := by
 have hstep := fun n h1 h2 => find_step T (fun p => isForm (nd l p)) (n := n) h1 h2
 have htop := fun n h1 h2 => find_top T (fun p => isForm (nd l p)) (n := n) h1 h2
 have hwst := fun n h1 h2 => way_step T (n := n) h1 h2
 have hpar : ∀ n, thereN l n = true → (nd l n).parent = -1 ∨ thereN l (nd l n).parent = true := fun n hn => by
  by_cases h : (nd l n).parent = -1
  ·exact .inl h
  ·exact .inr (T.par n hn h).1
 unfold nearN
 obtain ⟨q, hq⟩ : ∃ q : Int → Bool, (fun p => isForm (nd l p)) = q := ⟨_, rfl⟩
 rw [hq] at hstep htop ⊢
 have hqe : ∀ p, q p = isForm (nd l p) := fun p => by rw [← hq]
 have step : ∀ p y, thereN l p = true → nd l p = y → (y.parent = -1 ∧ nearBy l q p = -1) ∨ (thereN l y.parent = true ∧ y.parent ≠ -1 ∧ (nearBy l q p = if isForm (nd l y.parent) = true then y.parent else nearBy l q y.parent) ∧ (wayN l y.parent).length < (wayN l p).length) := by
  rintro p y hp rfl
  by_cases e : (nd l p).parent = -1
  ·exact .inl ⟨e, htop p hp e⟩
  ·exact .inr ⟨(hpar p hp).resolve_left e, e, (hstep p hp e).trans (by first | rfl | rw [hqe]), by rw [hwst p hp e]; simp⟩
 clear hstep htop hwst hpar
 refine FnOK.startC (rvs := [.tmp 4]) G G_good Tryz.func167 rfl Tryz.ntmps167 rfl rfl ?_; with_reducible refine wD ?_
 obtain ⟨i, y, e, hy, hny⟩ := there_iff.1 hn
 have hst := step n y hn hny
 obtain ⟨b1, b2, b3, b4, b5, b6, b7, b8, b9, b10⟩ := y
 simp only at hst
 refine IdxK.mk i (eNode _) e (node_get hy) ?_; with_reducible refine wK ?_
 refine LoopK.use G G_good (fun (p : Int) => [(1, eInt p), (2, .ptr 20 0 0)]) (fun _ => [(20, .live 3 [.agg [eNodes l, eInt m, .fmap (idRows c)]] false)])
  (fun p => (p = -1 ∧ nearBy l q n = -1) ∨ (thereN l p = true ∧ p ≠ -1 ∧ nearBy l q n = if isForm (nd l p) = true then p else nearBy l q p)) (fun p => if p = -1 then 0 else (wayN l p).length) b6
  (by rcases hst with h | ⟨h1, h2, h3, _⟩; exact .inl h; exact .inr ⟨h1, h2, h3⟩) (by (refine fK ?_; (with_reducible repeat' (first | exact trivial | (show _ ∧ _; refine aK ?_ ?_))); (all_goals try rfl))) ?_
 intro p hp
 with_reducible refine wK ?_
 rcases hp with ⟨rfl, h1⟩ | ⟨h1, h2, h3⟩
 ·rw [h1]
  repeat' (first
  | refine gK ?_ | refine aE ?_ ?_
  | apply trivial)
  all_goals rfl
 ·obtain ⟨j, z, e', hz, hnz⟩ := there_iff.1 h1
  have hst := step p z h1 hnz
  rw [hnz] at h3
  have h81 := f163_ok z
  obtain ⟨c1, c2, c3, c4, c5, c6, c7, c8, c9, c10⟩ := z
  simp only at hst
  cases hf : isForm ⟨c1, c2, c3, c4, c5, c6, c7, c8, c9, c10⟩ with
  | true =>
    rw [hf] at h81 h3
    rw [h3, if_pos rfl]
    (have fct := (eq_false h2); (repeat' (first
  | refine gF ?_ | refine aE ?_ ?_
  | ((first
   | ((with_reducible refine kQ 163 ?_); refine cL h81 c163 ?_)
   | (refine IdxK.mk j (eNode ⟨c1, c2, c3, c4, c5, c6, c7, c8, c9, c10⟩) e' (node_get hz) ?_)) <;> with_reducible refine wK ?_)
  | apply trivial)); all_goals clear fct)
    all_goals rfl
  | false =>
    rw [hf] at h81 h3
    rw [if_neg (by simp)] at h3
    (have fct := (eq_false h2); (repeat' (first
  | refine gF ?_ | refine aE ?_ ?_
  | ((first
   | ((with_reducible refine kQ 163 ?_); refine cL h81 c163 ?_)
   | (refine IdxK.mk j (eNode ⟨c1, c2, c3, c4, c5, c6, c7, c8, c9, c10⟩) e' (node_get hz) ?_)) <;> with_reducible refine wK ?_)
  | apply trivial)); all_goals clear fct)
    refine NextK.mk c6 ?_ ?_ ?_
    ·rw [h3]
     rcases hst with h | ⟨g1, g2, g3, _⟩
     ·exact .inl h
     ·exact .inr ⟨g1, g2, g3⟩
    ·rw [if_neg h2]
     rcases hst with ⟨h, _⟩ | ⟨_, g2, _, g4⟩
     ·rw [if_pos h]
      obtain ⟨r, hr⟩ := way_head T h1
      rw [hr]; simp
     ·rw [if_neg g2]; exact g4
    ·(refine fK ?_; (with_reducible repeat' (first | exact trivial | (show _ ∧ _; refine aK ?_ ?_))); (all_goals try rfl))
theorem f104_ok (f : ForM) : FnOK Tryz.prog 104 [] [eFor f] [idsM []] (.agg [eNodes f.nodes, eInt f.most, .mapr 0]) := by
 obtain ⟨l, m⟩ := f
 refine FnOK.startC (rvs := [.cell 2 143]) G G_good Tryz.func104 rfl Tryz.ntmps104 rfl rfl ?_; with_reducible refine wD ?_
 repeat' (first
  | refine gK ?_ | refine aE ?_ ?_
  | apply trivial)
 all_goals first | rfl | trivial
theorem rows_snoc {R : AV → AV → Prop} {a b : List AV} {x y : AV} (h : RowsM R a b) (k : R x y) : RowsM R (a ++ [x]) (b ++ [y]) := by
 refine ⟨by simp [h.1], fun i u v hu hv => ?_⟩
 rw [List.getElem?_append] at hu hv
 rw [h.1] at hu
 by_cases hi : i < b.length
 ·rw [if_pos hi] at hu hv; exact h.2 i u v hu hv
 ·rw [if_neg hi] at hu hv
  rw [List.getElem?_singleton] at hu hv
  split at hu
  ·rename_i h0; rw [if_pos h0] at hv; cases hu; cases hv; exact k
  ·cases hu
theorem MFL_of {R : AV → AV → Prop} : ∀ {a b : List AV}, RowsM R a b → MFL R a b
 | [], [], _ => trivial
 | x :: xs, y :: ys, h => ⟨h.2 0 x y rfl rfl, MFL_of ⟨by have := h.1; simpa using this, fun i u v hu hv => h.2 (i + 1) u v (by simpa using hu) (by simpa using hv)⟩⟩
 | [], _ :: _, h => by have := h.1; simp at this
 | _ :: _, [], h => by have := h.1; simp at this
theorem ids_snoc (c : List (Int × List (ByteArray × Int))) (r : Int) (t : List (ByteArray × Int)) : idRows (c ++ [(r, t)]) = idRows c ++ [entry (vInt r) (eIds t)] := by
 unfold idRows tRows; rw [List.map_append]; rfl
theorem frz_idT {m : ML} {fz : Nat → Bool} {k : Nat} {ro : Bool} {rows : List AV} {t : List (ByteArray × Int)} (h1 : lkM m k = .live 2 rows ro) (h2 : fz k = true) (h3 : rows = tRows Value.string oInt t) : FrzMK m fz (eIds t) k := by
 subst h3
 refine ⟨2, _, ro, h1, h2, rfl, fun x hx => ?_⟩
 obtain ⟨p, _, rfl⟩ := List.mem_map.1 hx
 exact ⟨_, _, rfl, rfl⟩
theorem f168_ok (l : List NodeM) (m : Int) (hs : SmallN l) (hrt : rightF ⟨l, m⟩ = true) (c : List (Int × List (ByteArray × Int))) (hc : IdsOK l c) (r : Int) (hr : thereN l r = true) :
  FnOK Tryz.prog 168 [idsM c] [.agg [eNodes l, eInt m, .mapr 0], eInt r] [idsM (keepT l c r)] (eIds (idTab l r)) := by
 have T : Tree l := tree_of hrt
 have h78 := f164_ok ⟨l, m⟩ hs r
 have e78 : ordF ⟨l, m⟩ r = ordN l l.length r := by unfold ordF; rw [if_pos (by rw [hrt, hr]; rfl)]
 rw [e78] at h78
 have hol := ord_len T l.length hr
 have h60 := hs.len
 have hot : ∀ k ∈ ordN l l.length r, thereN l k = true := fun k hk => (ord_root T hr hk).1
 have hci := hc.is r
 have hcl := hc.len
 obtain ⟨kt, hkt⟩ : ∃ kt, keepT l c r = kt := ⟨_, rfl⟩
 rw [hkt]
 unfold keepT at hkt
 unfold idTab at hkt hci ⊢
 have hci := hci
 generalize ordN l l.length r = ks at h78 hol hot hci hkt ⊢
 have hkm : (ks.map oInt).length = ks.length := List.length_map ..
 refine FnOK.startC (rvs := [.tmp 4]) G G_good Tryz.func168 rfl Tryz.ntmps168 rfl rfl ?_; with_reducible refine wD ?_
 refine LookK.tab vInt oIds c (k := r) (zv := .lit (.map none)) mt114 ⟨_, _, rfl⟩ key_int inj_int rfl rfl (fun x hx => ?_) (fun hx => ?_)
 ·rw [hx] at hkt
  dsimp only at hkt
  subst hkt
  rw [show oIds x = eIds x from rfl]
  have hxe := hci x hx
  with_reducible refine wK ?_
  repeat' (first
  | refine gK ?_ | refine aE ?_ ?_
  | apply trivial)
  all_goals first
   | exact MFL_refl (noRef_ids c)
   | rfl
   | exact (congrArg eIds hxe).symm
   | skip
 ·rw [hx] at hkt
  dsimp only at hkt
  subst hkt
  with_reducible refine wK ?_
  repeat' (first
  | refine gK ?_ | refine aE ?_ ?_
  | (((with_reducible refine kQ 164 ?_); refine cV h78 c164 ?_) <;> with_reducible refine wK ?_)
  | apply trivial)
  refine LoopK.use G G_good (fun (j : Nat) => [(1, eInt r), (2, .ptr 20 0 0), (7, .mapr 71), (27, eInts ks), (28, eInt ks.length), (29, eInt j)])
   (fun j => [(0, idsM c), (20, .live 3 [.agg [eNodes l, eInt m, .mapr 0]] false), (71, .live 2 (tRows Value.string oInt ((ks.take j).foldl (addId l) [])) false)])
   (fun j => j ≤ ks.length) (fun j => ks.length - j) 0 (Nat.zero_le _) ?_ ?_
  ·(refine fK ?_; (with_reducible repeat' (first | exact trivial | (show _ ∧ _; refine aK ?_ ?_))); (all_goals try rfl))
   all_goals first
    | exact MFL_refl (noRef_ids c)
    | exact hkm
    | (show (ks.length : Int) = _; rw [hkm])
    | (show ObjK _ [] []; exact ⟨.refl rfl, rfl⟩)
    | skip
  intro j hj
  with_reducible refine wK ?_
  refine IfK.mk (fun h1 => ?_) (fun h1 => ?_) <;> (try simp only [castN] at h1) <;> with_reducible refine wK ?_
  ·have hj' : j < ks.length := by simp only [decide_eq_true_eq] at h1; omega
   obtain ⟨k, hk⟩ : ∃ k, ks[j]? = some k := ⟨_, List.getElem?_eq_getElem hj'⟩
   obtain ⟨i, y, e, hy, hny⟩ := there_iff.1 (hot k (List.mem_of_getElem? hk))
   have h47 := f23_ok y.attrs (by have := hs.attrs y (List.mem_of_getElem? hy); omega) idW
   have hst : (ks.take (j + 1)).foldl (addId l) [] = addId l ((ks.take j).foldl (addId l) []) k := by
    rw [List.take_add_one, hk, List.foldl_append]; rfl
   have hfl := fold_len l (ks.take j) []
   rw [List.length_nil, List.length_take] at hfl
   generalize (ks.take j).foldl (addId l) [] = t at hst hfl ⊢
   have ha : addId l t k = if 0 ≤ findP y.attrs idW ∧ tget (getS y.attrs idW) t = none then tput (getS y.attrs idW) k t else t := by
    unfold addId attV
    rw [hny]
    by_cases e1 : 0 ≤ findP y.attrs idW
    ·rw [if_pos e1]
     simp only
     cases e2 : tget (getS y.attrs idW) t with
     | none => rw [if_pos ⟨e1, rfl⟩]
     | some z => rw [if_neg (fun h => by cases h.2)]
    ·rw [if_neg e1, if_neg (fun h => e1 h.1)]
   rw [ha] at hst
   generalize hg : getS y.attrs idW = gs at h47 hst
   obtain ⟨ok, hok⟩ : ∃ ok, decide (0 ≤ findP y.attrs idW) = ok := ⟨_, rfl⟩
   rw [hok] at h47
   have hst' : (ks.take (j + 1)).foldl (addId l) [] = if ok = true ∧ tget gs t = none then tput gs k t else t := by rw [hst]; simp only [← hok, decide_eq_true_eq]
   clear ha hst hg hok
   obtain ⟨b1, b2, b3, b4, b5, b6, b7, b8, b9, b10⟩ := y
   simp only at h47
   refine IdxK.mk j (eInt k) rfl (int_get hk) ?_; with_reducible refine wK ?_
   refine IdxK.mk i (eNode _) e (node_get hy) ?_; with_reducible refine wK ?_
   refine cL h47 c23 ?_; with_reducible refine wK ?_
   refine LookK.tab Value.string oInt t (k := gs) (zv := eInt 0) map62 ⟨_, _, rfl⟩ key_str inj_str rfl rfl (fun x hx2 => ?_) (fun hx2 => ?_)
   ·rw [hx2, if_neg (fun h => by cases h.2)] at hst'
    rw [show oInt x = eInt x from rfl]
    with_reducible refine wK ?_
    cases ok <;> (
     repeat' (first
  | refine gK ?_ | refine aE ?_ ?_
  | apply trivial)
     refine NextK.mk (j + 1) (by omega) (by omega) ?_
     rw [hst']
     (refine fK ?_; (with_reducible repeat' (first | exact trivial | (show _ ∧ _; refine aK ?_ ?_))); (all_goals try rfl))
     all_goals first
      | exact MFL_refl (noRef_ids c)
      | exact ⟨.refl (noRef_idT t), noRef_idT t⟩
      | skip)
   ·rw [hx2] at hst'
    with_reducible refine wK ?_
    cases ok with
    | false =>
      rw [if_neg (fun h => by cases h.1)] at hst'
      repeat' (first
  | refine gK ?_ | refine aE ?_ ?_
  | apply trivial)
      refine NextK.mk (j + 1) (by omega) (by omega) ?_
      rw [hst']
      (refine fK ?_; (with_reducible repeat' (first | exact trivial | (show _ ∧ _; refine aK ?_ ?_))); (all_goals try rfl))
      all_goals first
       | exact MFL_refl (noRef_ids c)
       | exact ⟨.refl (noRef_idT t), noRef_idT t⟩
       | skip
    | true =>
      rw [if_pos ⟨rfl, rfl⟩] at hst'
      repeat' (first
  | refine gK ?_ | refine aE ?_ ?_
  | apply trivial)
      refine PutK.tab Value.string oInt t k map62 rfl key_str inj_str (by unfold maxLen; omega) rfl ?_; with_reducible refine wK ?_
      repeat' (first
  | refine gK ?_ | refine aE ?_ ?_
  | apply trivial)
      refine NextK.mk (j + 1) (by omega) (by omega) ?_
      rw [hst']
      (refine fK ?_; (with_reducible repeat' (first | exact trivial | (show _ ∧ _; refine aK ?_ ?_))); (all_goals try rfl))
      all_goals first
       | exact MFL_refl (noRef_ids c)
       | exact ⟨.refl (noRef_idT _), noRef_idT _⟩
       | skip
  ·have hjl : j = ks.length := by simp only [decide_eq_false_iff_not] at h1; omega
   subst hjl
   rw [List.take_length]
   generalize hT : ks.foldl (addId l) [] = t
   repeat' (first
  | refine gK ?_ | refine aE ?_ ?_
  | apply trivial)
   refine PutK.new mt114 rfl (key_int r) (tRows_ents key_int) (tRows_no inj_int hx) (by simp [idRows, tRows, maxLen]; omega) rfl rfl ?_; with_reducible refine wK ?_
   repeat' (first
  | refine gK ?_ | refine aE ?_ ?_
  | apply trivial)
   all_goals first
    | exact frz_idT rfl rfl rfl
    | skip
   rw [ids_snoc]
   refine MFL_of (rows_snoc (.refl (noRef_ids c)) ?_)
   exact ⟨rfl, ⟨frz_idT rfl rfl rfl, trivial⟩, trivial⟩
theorem frz_ids {m : ML} {fz : Nat → Bool} {k : Nat} {ro : Bool} {rows : List AV} {c : List (Int × List (ByteArray × Int))} (h1 : lkM m k = .live 2 rows ro) (h2 : fz k = true) (h3 : rows = idRows c) : FrzMK m fz (.fmap (idRows c)) k := by
  subst h3
  refine ⟨2, _, ro, h1, h2, rfl, fun x hx => ?_⟩
  obtain ⟨p, _, rfl⟩ := List.mem_map.1 hx
  exact ⟨_, _, rfl, rfl⟩
theorem att_get {x : NodeM} {w : ByteArray} : attV x w = if 0 ≤ findP x.attrs w then some (getS x.attrs w) else none := rfl
theorem conF_eq {l : List NodeM} {m : Int} (hr : rightF ⟨l, m⟩ = true) {n : Int} (hn : thereN l n = true) : conF ⟨l, m⟩ n = conN l n := by
  unfold conF conN; rw [hr, show thereN (ForM.mk l m).nodes n = true from hn]; rfl
theorem f105_ok (l : List NodeM) (m : Int) (hs : SmallN l) (hrt : rightF ⟨l, m⟩ = true) (c : List (Int × List (ByteArray × Int))) (hc : IdsOK l c) (n : Int) (hn : thereN l n = true) :
    FnOK Tryz.prog 105 [idsM c] [.agg [eNodes l, eInt m, .mapr 0], eInt n] [idsM (stepC l c n)] (eInt (ownN l n)) := by
  have T : Tree l := tree_of hrt
  have h21 := f35_ok ⟨l, m⟩ hs n
  rw [conF_eq hrt hn] at h21
  have h116 := f167_ok l m c T n hn
  have h48 := f165_ok ⟨l, m⟩ hs hrt n hn
  have hrth := (root_there T n hn).1
  have h117 := f168_ok l m hs hrt c hc (rootN l n) hrth
  have hfst := fun v k => @first_some l (rootN l n) v k
  have hord := fun k hk => (ord_root T hrth (n := k) hk).1
  obtain ⟨i, x, e, hx, hnx⟩ := there_iff.1 hn
  have h47 := f23_ok x.attrs (by have := hs.attrs x (List.mem_of_getElem? hx); omega) formW
  unfold ownN stepC byId
  rw [hnx, att_get]
  simp only at h48
  have hig := fun v => idTab_get l (rootN l n) v
  generalize rootN l n = r at h48 h117 hfst hord hig ⊢
  generalize nearN l n = nr at h116 ⊢
  generalize conN l n = cn at h21 ⊢
  generalize hgs : getS x.attrs formW = v at h47 ⊢
  obtain ⟨ok, hok⟩ : ∃ ok, decide (0 ≤ findP x.attrs formW) = ok := ⟨_, rfl⟩
  rw [hok] at h47
  have hok' : (0 ≤ findP x.attrs formW) = (ok = true) := by rw [← hok]; simp
  simp only [hok']
  clear hok hok' hgs
  obtain ⟨a1, a2, a3, a4, a5, a6, a7, a8, a9, a10⟩ := x
  simp only at h47 ⊢
  refine FnOK.startC (rvs := [.tmp 4]) G G_good Tryz.func105 rfl Tryz.ntmps105 rfl rfl ?_; with_reducible refine wD ?_
  refine IdxK.mk i (eNode ⟨a1, a2, a3, a4, a5, a6, a7, a8, a9, a10⟩) e (node_get hx) ?_; with_reducible refine wK ?_
  by_cases e1 : a1 = 1
  · rw [if_pos e1, if_pos e1]
    refine IfK.no (by rw [e1]; rfl) ?_; with_reducible refine wK ?_
    cases ok with
    | false =>
      rw [if_neg (by simp)]
      repeat' (first
    | refine gK ?_
    | ((first
      | ((with_reducible show CallK _ _ 23 _ _ _ _); refine CallK.lit [] h47 c23 ⟨rfl, rfl, trivial⟩ rfl rfl ?_)
      | ((with_reducible show CallK _ _ 35 _ _ _ _); refine CallK.lit [] h21 c35 ⟨⟨rfl, rfl, trivial⟩, rfl, trivial⟩ rfl rfl ?_)
      | ((with_reducible show CallK _ _ 167 _ _ _ _); refine CallK.lit [0] h116 c167 ⟨⟨rfl, rfl, frz_ids rfl rfl rfl, trivial⟩, rfl, trivial⟩ rfl rfl ?_)) <;> with_reducible refine wK ?_)
    | ((with_reducible show (_ ∧ _) ∧ _ ∧ _); (refine eK ?_ ?_ <;> with_reducible repeat' (first | exact trivial | (show _ ∧ _; refine aK ?_ ?_)))))
      all_goals first | rfl | exact MFL_refl (noRef_ids c)
    | true =>
      rw [if_pos rfl]
      simp only
      cases cn with
      | false =>
        rw [if_neg (by simp), if_neg (by simp)]
        repeat' (first
    | refine gK ?_
    | ((first
      | ((with_reducible show CallK _ _ 23 _ _ _ _); refine CallK.lit [] h47 c23 ⟨rfl, rfl, trivial⟩ rfl rfl ?_)
      | ((with_reducible show CallK _ _ 35 _ _ _ _); refine CallK.lit [] h21 c35 ⟨⟨rfl, rfl, trivial⟩, rfl, trivial⟩ rfl rfl ?_)
      | ((with_reducible show CallK _ _ 167 _ _ _ _); refine CallK.lit [0] h116 c167 ⟨⟨rfl, rfl, frz_ids rfl rfl rfl, trivial⟩, rfl, trivial⟩ rfl rfl ?_)) <;> with_reducible refine wK ?_)
    | ((with_reducible show (_ ∧ _) ∧ _ ∧ _); (refine eK ?_ ?_ <;> with_reducible repeat' (first | exact trivial | (show _ ∧ _; refine aK ?_ ?_)))))
        all_goals first | rfl | exact MFL_refl (noRef_ids c)
      | true =>
        rw [if_pos rfl, if_pos rfl]
        repeat' (first
    | refine gK ?_
    | ((first
      | ((with_reducible show CallK _ _ 23 _ _ _ _); refine CallK.lit [] h47 c23 ⟨rfl, rfl, trivial⟩ rfl rfl ?_)
      | ((with_reducible show CallK _ _ 35 _ _ _ _); refine CallK.lit [] h21 c35 ⟨⟨rfl, rfl, trivial⟩, rfl, trivial⟩ rfl rfl ?_)
      | ((with_reducible show CallK _ _ 165 _ _ _ _); refine CallK.lit [] h48 c165 ⟨⟨rfl, rfl, trivial⟩, rfl, trivial⟩ rfl rfl ?_)) <;> with_reducible refine wK ?_)
    | ((with_reducible show (_ ∧ _) ∧ _ ∧ _); (refine eK ?_ ?_ <;> with_reducible repeat' (first | exact trivial | (show _ ∧ _; refine aK ?_ ?_)))))
        refine CallK.lend (news := [idsM (keepT l c r)]) [0] [] h117 c168 ⟨⟨rfl, rfl, trivial, trivial⟩, rfl, trivial⟩ ⟨⟨rfl, .inl ⟨rfl, noRef_ids c⟩⟩, trivial⟩ rfl ⟨⟨rfl, rfl⟩, rfl⟩ rfl ⟨⟨rfl, .inl ⟨rfl, noRef_ids _⟩⟩, trivial⟩ rfl rfl ?_
        with_reducible refine wK ?_
        refine LookK.tab Value.string oInt (idTab l r) (k := v) (zv := eInt 0) map62 rfl key_str inj_str rfl rfl (fun k hk => ?_) (fun hk => ?_)
        · rw [hig] at hk
          rw [hk, show oInt k = eInt k from rfl]
          simp only
          obtain ⟨j, y, e', hy, hny⟩ := there_iff.1 (hord k (hfst v k hk).1)
          rw [hny]
          have h81 := f163_ok y
          obtain ⟨b1, b2, b3, b4, b5, b6, b7, b8, b9, b10⟩ := y
          obtain ⟨fm, hfm⟩ : ∃ fm, isForm ⟨b1, b2, b3, b4, b5, b6, b7, b8, b9, b10⟩ = fm := ⟨_, rfl⟩
          rw [hfm] at h81 ⊢
          with_reducible refine wK ?_
          by_cases ev : v = ⟨#[]⟩
          · rw [if_neg (fun h => h.1 ev)]
            have ev' : v = ⟨⟨[]⟩⟩ := ev
            (have fct := ev'; (repeat' (first
    | refine gF ?_
    | (((with_reducible show DrawK _ _ _ _); refine dK ?_) <;> with_reducible refine wK ?_)
    | ((with_reducible show (_ ∧ _) ∧ _ ∧ _); (refine eK ?_ ?_ <;> with_reducible repeat' (first | exact trivial | (show _ ∧ _; refine aK ?_ ?_)))))); all_goals clear fct)
            all_goals first | rfl | exact MFL_refl (noRef_ids _)
          · have ev' : ¬ v = ⟨⟨[]⟩⟩ := ev
            cases fm with
            | true =>
              rw [if_pos ⟨ev, rfl⟩]
              (have fct := ev'; (repeat' (first
    | refine gF ?_
    | ((first
      | ((with_reducible show DrawK _ _ _ _); refine dK ?_)
      | (refine IdxK.mk j (eNode ⟨b1, b2, b3, b4, b5, b6, b7, b8, b9, b10⟩) e' (node_get hy) ?_)
      | ((with_reducible show CallK _ _ 163 _ _ _ _); refine CallK.lit [] h81 c163 ⟨⟨rfl, rfl, rfl, rfl, rfl, rfl, rfl, rfl, rfl, rfl, trivial⟩, trivial⟩ rfl rfl ?_)) <;> with_reducible refine wK ?_)
    | ((with_reducible show (_ ∧ _) ∧ _ ∧ _); (refine eK ?_ ?_ <;> with_reducible repeat' (first | exact trivial | (show _ ∧ _; refine aK ?_ ?_)))))); all_goals clear fct)
              all_goals first | rfl | exact MFL_refl (noRef_ids _)
            | false =>
              rw [if_neg (fun h => by cases h.2)]
              (have fct := ev'; (repeat' (first
    | refine gF ?_
    | ((first
      | ((with_reducible show DrawK _ _ _ _); refine dK ?_)
      | (refine IdxK.mk j (eNode ⟨b1, b2, b3, b4, b5, b6, b7, b8, b9, b10⟩) e' (node_get hy) ?_)
      | ((with_reducible show CallK _ _ 163 _ _ _ _); refine CallK.lit [] h81 c163 ⟨⟨rfl, rfl, rfl, rfl, rfl, rfl, rfl, rfl, rfl, rfl, trivial⟩, trivial⟩ rfl rfl ?_)) <;> with_reducible refine wK ?_)
    | ((with_reducible show (_ ∧ _) ∧ _ ∧ _); (refine eK ?_ ?_ <;> with_reducible repeat' (first | exact trivial | (show _ ∧ _; refine aK ?_ ?_)))))); all_goals clear fct)
              all_goals first | rfl | exact MFL_refl (noRef_ids _)
        · rw [hig] at hk
          rw [hk]
          with_reducible refine wK ?_
          repeat' (first
    | refine gK ?_
    | (((with_reducible show DrawK _ _ _ _); refine dK ?_) <;> with_reducible refine wK ?_)
    | ((with_reducible show (_ ∧ _) ∧ _ ∧ _); (refine eK ?_ ?_ <;> with_reducible repeat' (first | exact trivial | (show _ ∧ _; refine aK ?_ ?_)))))
          all_goals first | rfl | exact MFL_refl (noRef_ids _)
  · rw [if_neg e1, if_neg e1]
    (have fct := (eq_false e1); (repeat' (first
    | refine gF ?_
    | ((with_reducible show (_ ∧ _) ∧ _ ∧ _); (refine eK ?_ ?_ <;> with_reducible repeat' (first | exact trivial | (show _ ∧ _; refine aK ?_ ?_)))))); all_goals clear fct)
    all_goals first | rfl | exact MFL_refl (noRef_ids c)
def ownF (f : ForM) (n : Int) : Int := if (thereN f.nodes n && rightF f) = true then ownN f.nodes n else -1
theorem idsOK_nil (l : List NodeM) : IdsOK l [] := ⟨fun r t h => (by cases h), (by simp)⟩
theorem f49_ok (f : ForM) (hs : SmallN f.nodes) (n : Int) : FnOK Tryz.prog 49 [] [eFor f, eInt n] [] (eInt (ownF f n)) := by
  have h15 := f17_ok f hs
  have h73 := f104_ok f
  obtain ⟨l, m⟩ := f
  unfold ownF
  simp only at h73 ⊢
  have hlm : (l.map oNode).length = l.length := List.length_map ..
  obtain ⟨o, ho⟩ : ∃ o, (if (thereN l n && rightF ⟨l, m⟩) = true then ownN l n else -1) = o := ⟨_, rfl⟩
  rw [ho]
  refine FnOK.startC (rvs := [.tmp 4]) G G_good Tryz.func49 rfl Tryz.ntmps49 rfl rfl ?_; with_reducible refine wD ?_
  cases ht : thereN l n with
  | false =>
    have ht' : ¬ (0 ≤ n ∧ n < (l.length : Int)) := fun h => by
      unfold thereN at ht; simp [h.1, h.2] at ht
    rw [ht, Bool.false_and, if_neg (by simp)] at ho
    subst ho
    by_cases e1 : n < 0
    · (have fct := (eq_true e1); (repeat' (first
    | refine gF ?_
    | ((with_reducible show (_ ∧ _) ∧ _ ∧ _); (refine eK ?_ ?_ <;> with_reducible repeat' (first | exact trivial | (show _ ∧ _; refine aK ?_ ?_)))))); all_goals clear fct)
      all_goals rfl
    · have e2 : (l.length : Int) ≤ n := by omega
      (have fct := And.intro (eq_false e1) (And.intro hlm ((eq_true e2))); (repeat' (first
    | refine gF ?_
    | ((with_reducible show (_ ∧ _) ∧ _ ∧ _); (refine eK ?_ ?_ <;> with_reducible repeat' (first | exact trivial | (show _ ∧ _; refine aK ?_ ?_)))))); all_goals clear fct)
      all_goals rfl
  | true =>
    obtain ⟨e1, e2⟩ := there_pos ht
    have e1' : ¬ n < 0 := by omega
    have e2' : ¬ (l.length : Int) ≤ n := by omega
    cases hr : rightF ⟨l, m⟩ with
    | false =>
      rw [hr] at h15
      rw [ht, hr, Bool.true_and, if_neg (by simp)] at ho
      subst ho
      (have fct := And.intro (eq_false e1') (And.intro hlm ((eq_false e2'))); (repeat' (first
    | refine gF ?_
    | (((with_reducible show CallK _ _ 17 _ _ _ _); refine CallK.lit [] h15 c17 ⟨⟨rfl, rfl, trivial⟩, trivial⟩ rfl rfl ?_) <;> with_reducible refine wK ?_)
    | ((with_reducible show (_ ∧ _) ∧ _ ∧ _); (refine eK ?_ ?_ <;> with_reducible repeat' (first | exact trivial | (show _ ∧ _; refine aK ?_ ?_)))))); all_goals clear fct)
      all_goals rfl
    | true =>
      rw [hr] at h15
      rw [ht, hr, Bool.true_and, if_pos rfl] at ho
      have h74 := f105_ok l m hs hr [] (idsOK_nil l) n ht
      rw [ho] at h74
      generalize stepC l [] n = c at h74
      (have fct := And.intro (eq_false e1') (And.intro hlm ((eq_false e2'))); (repeat' (first
    | refine gF ?_
    | ((first
      | ((with_reducible show CallK _ _ 17 _ _ _ _); refine CallK.lit [] h15 c17 ⟨⟨rfl, rfl, trivial⟩, trivial⟩ rfl rfl ?_)
      | ((with_reducible show CallK _ _ 104 _ _ _ _); refine CallK.new 201 [] h73 c104 ⟨⟨rfl, rfl, trivial⟩, trivial⟩ rfl rfl rfl ⟨.nil _, rfl, trivial⟩ rfl ?_)
      | ((with_reducible show CallK _ _ 105 _ _ _ _); refine CallK.lend (news := [idsM c]) [201] [] h74 c105 ⟨⟨rfl, rfl, trivial, trivial⟩, rfl, trivial⟩ ⟨⟨rfl, .inl ⟨rfl, rfl⟩⟩, trivial⟩ rfl ⟨⟨rfl, rfl⟩, rfl⟩ rfl ⟨⟨rfl, .inl ⟨rfl, noRef_ids _⟩⟩, trivial⟩ rfl rfl ?_)) <;> with_reducible refine wK ?_)
    | ((with_reducible show (_ ∧ _) ∧ _ ∧ _); (refine eK ?_ ?_ <;> with_reducible repeat' (first | exact trivial | (show _ ∧ _; refine aK ?_ ?_)))))); all_goals clear fct)
      all_goals rfl
def ownTo (l : List NodeM) (k : Nat) : List Int := (List.range k).map fun n : Nat => ownN l (n : Int)
def keepTo (l : List NodeM) : Nat → List (Int × List (ByteArray × Int))
  | 0 => []
  | k + 1 => stepC l (keepTo l k) (k : Int)
theorem keepTo_ok (l : List NodeM) : ∀ k, k ≤ 64 → IdsOK l (keepTo l k) ∧ (keepTo l k).length ≤ k
  | 0, _ => ⟨idsOK_nil l, Nat.le_refl _⟩
  | k + 1, h => by
    obtain ⟨h1, h2⟩ := keepTo_ok l k (by omega)
    have h3 := stepC_len l (keepTo l k) (k : Int)
    exact ⟨⟨stepC_is h1.is _, by show (stepC l (keepTo l k) (k : Int)).length ≤ _; omega⟩, by show (stepC l (keepTo l k) (k : Int)).length ≤ _; omega⟩
theorem ownTo_step (l : List NodeM) (k : Nat) : ownTo l (k + 1) = ownTo l k ++ [ownN l (k : Int)] := by unfold ownTo; rw [List.range_succ, List.map_append]; rfl
theorem ownTo_len (l : List NodeM) (k : Nat) : (ownTo l k).length = k := by unfold ownTo; simp
def allF (f : ForM) : List Int := if rightF f = true then ownTo f.nodes f.nodes.length else []
theorem f50_ok (f : ForM) (hs : SmallN f.nodes) : FnOK Tryz.prog 50 [] [eFor f] [] (eInts (allF f)) := by
  have h15 := f17_ok f hs
  have h73 := f104_ok f
  have h60 := hs.len
  obtain ⟨l, m⟩ := f
  unfold allF
  simp only at h73 h60 ⊢
  have hlm : (l.map oNode).length = l.length := List.length_map ..
  obtain ⟨o, ho⟩ : ∃ o, (if rightF ⟨l, m⟩ = true then ownTo l l.length else []) = o := ⟨_, rfl⟩
  rw [ho]
  refine FnOK.startC (rvs := [.tmp 2]) G G_good Tryz.func50 rfl Tryz.ntmps50 rfl rfl ?_; with_reducible refine wD ?_
  cases hr : rightF ⟨l, m⟩ with
  | false =>
    rw [hr] at h15
    rw [hr, if_neg (by simp)] at ho
    subst ho
    repeat' (first
    | refine gK ?_
    | (((with_reducible show CallK _ _ 17 _ _ _ _); refine CallK.lit [] h15 c17 ⟨⟨rfl, rfl, trivial⟩, trivial⟩ rfl rfl ?_) <;> with_reducible refine wK ?_)
    | ((with_reducible show (_ ∧ _) ∧ _ ∧ _); (refine eK ?_ ?_ <;> with_reducible repeat' (first | exact trivial | (show _ ∧ _; refine aK ?_ ?_)))))
    all_goals exact .inr (.inr ⟨1, rfl⟩)
  | true =>
    rw [hr] at h15
    rw [hr, if_pos rfl] at ho
    subst ho
    have hstep := fun k => ownTo_step l k
    have hlen := fun k => ownTo_len l k
    have hcall : ∀ k, k < l.length → FnOK Tryz.prog 105 [idsM (keepTo l k)] [.agg [eNodes l, eInt m, .mapr 0], eInt (k : Int)] [idsM (keepTo l (k + 1))] (eInt (ownN l (k : Int))) := fun k hk =>
      f105_ok l m hs hr (keepTo l k) (keepTo_ok l k (by omega)).1 k (there_get (List.getElem?_eq_getElem hk))
    have hk0 : keepTo l 0 = [] := rfl
    have ho0 : ownTo l 0 = [] := rfl
    generalize keepTo l = kt at hcall hk0
    generalize ownTo l = ot at hstep hlen ho0 ⊢
    repeat' (first
    | refine gK ?_
    | ((first
      | ((with_reducible show CallK _ _ 17 _ _ _ _); refine CallK.lit [] h15 c17 ⟨⟨rfl, rfl, trivial⟩, trivial⟩ rfl rfl ?_)
      | ((with_reducible show CallK _ _ 104 _ _ _ _); refine CallK.new 101 [] h73 c104 ⟨⟨rfl, rfl, trivial⟩, trivial⟩ rfl rfl rfl ⟨.nil _, rfl, trivial⟩ rfl ?_)) <;> with_reducible refine wK ?_)
    | ((with_reducible show (_ ∧ _) ∧ _ ∧ _); (refine eK ?_ ?_ <;> with_reducible repeat' (first | exact trivial | (show _ ∧ _; refine aK ?_ ?_)))))
    refine LoopK.ghost 3 31 1 rfl rfl ?_
    refine LoopK.use G G_good (fun (k : Nat) => [(1, .ptr 10 0 0), (3, .own 31 0 k), (4, .ptr 40 0 0), (13, eInt l.length), (14, eInt k)])
      (fun k => [(10, .live 2 [eFor ⟨l, m⟩] false), (31, rInts (ot k)), (40, .live 3 [.agg [eNodes l, eInt m, .mapr 101]] false), (101, idsM (kt k))])
      (fun k => k ≤ l.length) (fun k => l.length - k) 0 (Nat.zero_le _) ?_ ?_
    · (refine fK ?_; (with_reducible repeat' (first | exact trivial | (show _ ∧ _; refine aK ?_ ?_))); (all_goals try rfl))
      all_goals first
        | (show (l.length : Int) = _; rw [hlm])
        | (rw [ho0]; exact ⟨.refl rfl, rfl⟩)
        | (rw [hk0]; exact ⟨.refl rfl, rfl⟩)
        | skip
    intro k hk
    have hkl := hlen k
    have hkm : ((ot k).map oInt).length = k := by rw [List.length_map, hkl]
    with_reducible refine wK ?_
    refine IfK.mk (fun h1 => ?_) (fun h1 => ?_) <;> (try simp only [castN] at h1) <;> with_reducible refine wK ?_
    · have hk' : k < l.length := by simp only [decide_eq_true_eq] at h1; omega
      have h74 := hcall k hk'
      have hst := hstep k
      generalize ownN l (k : Int) = o at h74 hst
      repeat' (first
    | refine gK ?_
    | ((first
      | ((with_reducible show CallK _ _ 105 _ _ _ _); refine CallK.lend (news := [idsM (kt (k + 1))]) [101] [] h74 c105 ⟨⟨rfl, rfl, trivial, trivial⟩, rfl, trivial⟩ ⟨⟨rfl, .inl ⟨rfl, noRef_ids _⟩⟩, trivial⟩ rfl ⟨⟨rfl, rfl⟩, rfl⟩ rfl ⟨⟨rfl, .inl ⟨rfl, noRef_ids _⟩⟩, trivial⟩ rfl rfl ?_)
      | ((with_reducible show AppK _ _ _ _ _ _ _ _ _ _); refine AppK.mk ((ot k).map oInt) [eInt o] ⟨rfl, hkm.symm, rfl⟩ ⟨rfl, rfl, rfl⟩ rfl (by simp; omega) (by simp; omega) ?_)
      | ((with_reducible show DrawK _ _ _ _); refine dK ?_)) <;> with_reducible refine wK ?_)
    | ((with_reducible show (_ ∧ _) ∧ _ ∧ _); (refine eK ?_ ?_ <;> with_reducible repeat' (first | exact trivial | (show _ ∧ _; refine aK ?_ ?_)))))
      refine NextK.mk (k + 1) (by omega) (by omega) ?_
      rw [hst]
      (refine fK ?_; (with_reducible repeat' (first | exact trivial | (show _ ∧ _; refine aK ?_ ?_))); (all_goals try rfl))
      all_goals first
        | (simp [hkl]; done)
        | (refine ⟨?_, noRef_ints _⟩; rw [List.map_append]; exact .refl (by rw [← List.map_append]; exact noRef_ints _))
        | exact ⟨.refl (noRef_ids _), noRef_ids _⟩
        | skip
    · have hjl : k = l.length := by simp only [decide_eq_false_iff_not] at h1; omega
      subst hjl
      repeat' (first
    | refine gK ?_
    | ((with_reducible show (_ ∧ _) ∧ _ ∧ _); (refine eK ?_ ?_ <;> with_reducible repeat' (first | exact trivial | (show _ ∧ _; refine aK ?_ ?_)))))
      all_goals exact frz_ints rfl rfl rfl hkl.symm
@[reducible] def mFin (l : List NodeM) (m : Int) (t : Nat) : MS := .live 3 [.agg [eNodes l, eInt m, .mapr t]] false
theorem ins_fin {m' : ML} {b t : Nat} {r : List Nat} {l : List NodeM} {m : Int} {c : List (Int × List (ByteArray × Int))} (h1 : lkM m' b = mFin l m t) (h3 : lkM m' t = idsM c) : InsM (tabR 2 0 (b :: t :: r)) [] m' [mFin l m 1, idsM c] (b :: t :: r) := by
  simp only [InsM, h1, h3]
  refine ⟨⟨trivial, .inr ⟨⟨⟨rfl, rfl, ?_, trivial⟩, trivial⟩, rfl⟩⟩, ⟨trivial, .inl ⟨rfl, noRef_ids _⟩⟩, trivial⟩
  simp [MF, tabR, lkN, Nat.beq_refl]
theorem news_fin {b t : Nat} {l : List NodeM} {m : Int} {c : List (Int × List (ByteArray × Int))} : NewsM [b, t] [mFin l m 1, idsM c] [mFin l m t, idsM c] :=
  ⟨⟨rfl, .inr ⟨rfl, rfl, rfl⟩⟩, ⟨rfl, .inl ⟨rfl, noRef_ids _⟩⟩, trivial⟩
theorem f166_ok (l : List NodeM) (m : Int) (hs : SmallN l) (hrt : rightF ⟨l, m⟩ = true) (c : List (Int × List (ByteArray × Int))) (hc : IdsOK l c) (x n : Int) (hn : thereN l n = true) :
    FnOK Tryz.prog 166 [mFin l m 1, idsM c] [eInt n, .ptr 0 0 0, .fptr (eInt x) 0] [mFin l m 1, idsM (stepC l c n)] (eBool (!decide (ownN l n = x))) := by
  have h74 := f105_ok l m hs hrt c hc n hn
  generalize stepC l c n = c2 at h74 ⊢
  generalize ownN l n = o at h74 ⊢
  refine FnOK.startC (rvs := [.tmp 4]) G G_good Tryz.func166 rfl Tryz.ntmps166 rfl rfl ?_; with_reducible refine wD ?_
  repeat' (first
    | refine gK ?_
    | ((first
      | ((with_reducible show CallK _ _ 105 _ _ _ _); refine CallK.lend (news := [idsM c2]) [1] [] h74 c105 ⟨⟨rfl, rfl, trivial, trivial⟩, rfl, trivial⟩ ⟨⟨rfl, .inl ⟨rfl, noRef_ids c⟩⟩, trivial⟩ rfl ⟨⟨rfl, rfl⟩, rfl⟩ rfl ⟨⟨rfl, .inl ⟨rfl, noRef_ids c2⟩⟩, trivial⟩ rfl rfl ?_)
      | ((with_reducible show DrawK _ _ _ _); refine dK ?_)) <;> with_reducible refine wK ?_)
    | ((with_reducible show (_ ∧ _) ∧ _ ∧ _); (refine eK ?_ ?_ <;> with_reducible repeat' (first | exact trivial | (show _ ∧ _; refine aK ?_ ?_)))))
  all_goals first
    | rfl
    | exact ⟨.refl rfl, rfl⟩
    | exact ⟨.refl (noRef_ids _), noRef_ids _⟩
    | trace_state
section
variable {l : List NodeM} {m x : Int} {p : Int → Bool} {ks : List Int} {cf : Nat → List (Int × List (ByteArray × Int))}
abbrev Asks (l : List NodeM) (m x : Int) (p : Int → Bool) (ks : List Int) (cf : Nat → List (Int × List (ByteArray × Int))) : Prop :=
  ∀ (j : Nat) (a : Int), ks[j]? = some a → FnOK Tryz.prog 166 [mFin l m 1, idsM (cf j)] [eInt a, .ptr 0 0 0, .fptr (eInt x) 0] [mFin l m 1, idsM (cf (j + 1))] (eBool (p a))
theorem f125_fin (hl : ks.length ≤ 100000) (hf : Asks l m x p ks cf) (n1 : Nat) (hn1 : (match ks.findIdx? p with | some i => i + 1 | none => ks.length) = n1) :
    FnOK Tryz.prog 125 [mFin l m 1, idsM (cf 0), rInts ks] [.own 2 0 ks.length, .clo (.func 166) [] [.ptr 0 0 0, .fptr (eInt x) 0]] [mFin l m 1, idsM (cf n1), rInts ks] (eInt (idxI p ks)) := by
  have hno : ∀ (j : Nat) (a : Int), ks[j]? = some a → (∀ i, ks.findIdx? p = some i → j < i) → p a = false := fun j a ha h => by
    cases hi : ks.findIdx? p with
    | none =>
      have := List.findIdx?_eq_none_iff.1 hi a (List.mem_of_getElem? ha)
      simpa using this
    | some i0 =>
      obtain ⟨h1, h2, h3⟩ := List.findIdx?_eq_some_iff_getElem.1 hi
      have h4 := h3 j (h i0 hi)
      have hj := (List.getElem?_eq_some_iff.1 ha).1
      rw [List.getElem?_eq_getElem hj] at ha
      rw [Option.some.inj ha] at h4
      simpa using h4
  have hyes : ∀ i, ks.findIdx? p = some i → ∃ a, ks[i]? = some a ∧ p a = true ∧ n1 = i + 1 ∧ idxI p ks = (i : Int) := fun i hi => by
    obtain ⟨h1, h2, h3⟩ := List.findIdx?_eq_some_iff_getElem.1 hi
    exact ⟨_, List.getElem?_eq_getElem h1, h2, by rw [← hn1, hi], by unfold idxI; rw [hi]⟩
  have hend : ks.findIdx? p = none → n1 = ks.length ∧ idxI p ks = -1 := fun hi => ⟨by rw [← hn1, hi], by unfold idxI; rw [hi]⟩
  clear hn1
  refine FnOK.startC (rvs := [.tmp 4]) G G_good Tryz.func125 rfl Tryz.ntmps125 rfl rfl ?_; with_reducible refine wD ?_
  refine LoopK.use G G_good (fun (k : Nat) => [(0, .own 2 0 ks.length), (1, .clo (.func 166) [] [.ptr 0 0 0, .fptr (eInt x) 0]), (7, eInt ks.length), (8, eInt k)])
    (fun k => [(0, mFin l m 1), (1, idsM (cf k)), (2, rInts ks)])
    (fun k => k ≤ ks.length ∧ ∀ i, ks.findIdx? p = some i → k ≤ i) (fun k => ks.length - k) 0 ⟨Nat.zero_le _, fun _ _ => Nat.zero_le _⟩ ?_ ?_
  · (refine fK ?_; (with_reducible repeat' (first | exact trivial | (show _ ∧ _; refine aK ?_ ?_))); (all_goals try rfl))
    all_goals first
      | exact ⟨.refl rfl, rfl⟩
      | exact ⟨.refl (noRef_ids _), noRef_ids _⟩
      | exact ⟨.refl (noRef_ints _), noRef_ints _⟩
      | trace_state
  rintro k ⟨hk, hki⟩
  with_reducible refine wK ?_
  refine IfK.mk (fun h1 => ?_) (fun h1 => ?_) <;> (try simp only [castN] at h1) <;> with_reducible refine wK ?_
  · have hk' : k < ks.length := by simp only [decide_eq_true_eq] at h1; omega
    obtain ⟨a, ha⟩ : ∃ a, ks[k]? = some a := ⟨_, List.getElem?_eq_getElem hk'⟩
    have h83 := hf k a ha
    refine LtK.mk k rfl (by omega) ?_; with_reducible refine wK ?_
    refine ElemK.mk (eInt a) (by rw [Nat.zero_add]; exact int_get ha) ?_; with_reducible refine wK ?_
    refine CallK.lend (news := [mFin l m 1, idsM (cf (k + 1))]) [0, 1] [] h83 c166 ⟨rfl, ⟨rfl, rfl⟩, ⟨rfl, rfl⟩, trivial⟩ (ins_fin rfl rfl) rfl ⟨⟨rfl, rfl⟩, rfl⟩ rfl news_fin rfl rfl ?_
    with_reducible refine wK ?_
    cases hpa : p a with
    | true =>
      have hi : ks.findIdx? p = some k := by
        cases hi : ks.findIdx? p with
        | none =>
          have := List.findIdx?_eq_none_iff.1 hi a (List.mem_of_getElem? ha)
          rw [hpa] at this; simp at this
        | some i0 =>
          have h2 := hki i0 hi
          by_cases e : k = i0
          · rw [e]
          · have := hno k a ha fun i hi' => by rw [hi] at hi'; cases hi'; omega
            rw [hpa] at this; cases this
      obtain ⟨_, _, _, g3, g4⟩ := hyes k hi
      rw [g4]
      subst g3
      repeat' (first
    | refine gK ?_
    | ((with_reducible show (_ ∧ _) ∧ _ ∧ _); (refine eK ?_ ?_ <;> with_reducible repeat' (first | exact trivial | (show _ ∧ _; refine aK ?_ ?_)))))
      all_goals first
        | rfl
        | exact ⟨.refl rfl, rfl⟩
        | exact ⟨.refl (noRef_ids _), noRef_ids _⟩
        | exact ⟨.refl (noRef_ints _), noRef_ints _⟩
        | trace_state
    | false =>
      repeat' (first
    | refine gK ?_
    | ((with_reducible show (_ ∧ _) ∧ _ ∧ _); (refine eK ?_ ?_ <;> with_reducible repeat' (first | exact trivial | (show _ ∧ _; refine aK ?_ ?_)))))
      refine NextK.mk (k + 1) ⟨by omega, fun i hi => ?_⟩ (by omega) ?_
      · have h2 := hki i hi
        by_cases e : k = i
        · obtain ⟨b, hb, hpb, _⟩ := hyes i hi
          rw [← e, ha] at hb
          cases hb
          rw [hpa] at hpb; cases hpb
        · omega
      · (refine fK ?_; (with_reducible repeat' (first | exact trivial | (show _ ∧ _; refine aK ?_ ?_))); (all_goals try rfl))
        all_goals first
          | exact ⟨.refl rfl, rfl⟩
          | exact ⟨.refl (noRef_ids _), noRef_ids _⟩
          | exact ⟨.refl (noRef_ints _), noRef_ints _⟩
          | trace_state
  · have hkl : k = ks.length := by simp only [decide_eq_false_iff_not] at h1; omega
    subst hkl
    have hi : ks.findIdx? p = none := by
      cases hi : ks.findIdx? p with
      | none => rfl
      | some i0 =>
        have h2 := hki i0 hi
        have := (List.findIdx?_eq_some_iff_getElem.1 hi).1
        omega
    obtain ⟨g1, g2⟩ := hend hi
    rw [g2]
    subst g1
    repeat' (first
    | refine gK ?_
    | ((with_reducible show (_ ∧ _) ∧ _ ∧ _); (refine eK ?_ ?_ <;> with_reducible repeat' (first | exact trivial | (show _ ∧ _; refine aK ?_ ?_)))))
    all_goals first
      | rfl
      | exact ⟨.refl rfl, rfl⟩
      | exact ⟨.refl (noRef_ids _), noRef_ids _⟩
      | exact ⟨.refl (noRef_ints _), noRef_ints _⟩
      | trace_state
end
end Go.Proofs.Heir
namespace Go.Proofs.Heir
open Go Go.Am Go.RowKit Go.Lib
set_option maxRecDepth 100000
def keptI (p : Int → Bool) (l : List Int) : List Int := l.filter fun x => !p x
theorem ins_fin3 {m' : ML} {b t q : Nat} {l : List NodeM} {m : Int} {c : List (Int × List (ByteArray × Int))} {ks : List Int} (h1 : lkM m' b = mFin l m t) (h3 : lkM m' t = idsM c) (h4 : lkM m' q = rInts ks) : InsM (tabR 3 0 [b, t, q]) [] m' [mFin l m 1, idsM c, rInts ks] [b, t, q] := by
  simp only [InsM, h1, h3, h4]
  refine ⟨⟨trivial, .inr ⟨⟨⟨rfl, rfl, ?_, trivial⟩, trivial⟩, rfl⟩⟩, ⟨trivial, .inl ⟨rfl, noRef_ids _⟩⟩, ⟨trivial, .inl ⟨rfl, noRef_ints _⟩⟩, trivial⟩
  simp [MF, tabR, lkN, Nat.beq_refl]
theorem news_fin3 {b t q : Nat} {l : List NodeM} {m : Int} {c : List (Int × List (ByteArray × Int))} {ks : List Int} : NewsM [b, t, q] [mFin l m 1, idsM c, rInts ks] [mFin l m t, idsM c, rInts ks] :=
  ⟨⟨rfl, .inr ⟨rfl, rfl, rfl⟩⟩, ⟨rfl, .inl ⟨rfl, noRef_ids _⟩⟩, ⟨rfl, .inl ⟨rfl, noRef_ints _⟩⟩, trivial⟩
set_option maxHeartbeats 16000000 in
/-- slices.DeleteFunc, of numbers, by that closure -/
theorem f81_fin {l : List NodeM} {m y : Int} {p : Int → Bool} {ks : List Int} {cf : Nat → List (Int × List (ByteArray × Int))} (hl : ks.length ≤ 100000) (hf : Asks l m y p ks cf) :
    FnOK Tryz.prog 81 [mFin l m 1, idsM (cf 0), rInts ks] [.own 2 0 ks.length, .clo (.func 166) [] [.ptr 0 0 0, .fptr (eInt y) 0]]
      [mFin l m 1, idsM (cf ks.length), rInts (keptI p ks ++ List.replicate (ks.length - (keptI p ks).length) 0)] (.own 2 0 (keptI p ks).length) := by
  have hlm : (ks.map oInt).length = ks.length := List.length_map ..
  have h130 := fun n1 => f125_fin hl hf n1
  cases hi : ks.findIdx? p with
  | none =>
    have e1 : idxI p ks = -1 := by unfold idxI; rw [hi]
    have e2 : keptI p ks = ks := by
      unfold keptI; rw [List.filter_eq_self]; intro a ha
      have := List.findIdx?_eq_none_iff.1 hi a ha
      simpa using this
    have h130 := h130 ks.length (by rw [hi])
    rw [e1] at h130
    rw [e2, Nat.sub_self, List.replicate_zero, List.append_nil]
    refine FnOK.startC (rvs := [.tmp 4]) G G_good Tryz.func81 rfl Tryz.ntmps81 rfl rfl ?_; delta List.toArray; ((with_reducible conv => whnf); (with_reducible conv => congr <;> reduce); repeat ((first | (with_reducible refine HaltK.mk ?_) | (with_reducible refine StopK.mk ?_)); (with_reducible conv => whnf); (with_reducible conv => congr <;> reduce)))
    refine CallK.lend (news := [mFin l m 1, idsM (cf ks.length), rInts ks]) [0, 1, 2] [] h130 c125 ⟨⟨rfl, rfl⟩, ⟨rfl, trivial, ⟨rfl, rfl⟩, ⟨rfl, rfl⟩, trivial⟩, trivial⟩ (ins_fin3 rfl rfl rfl) rfl ⟨⟨rfl, rfl⟩, rfl⟩ rfl news_fin3 rfl rfl ?_; ((with_reducible conv => whnf); (with_reducible conv => congr <;> reduce); repeat ((first | (with_reducible refine HaltK.mk ?_) | (with_reducible refine StopK.mk ?_)); (with_reducible conv => whnf); (with_reducible conv => congr <;> reduce)))
    repeat' (first
    | (first
    | ((with_reducible show IfK _ _ _ _); first | refine IfK.ff ?_ | refine IfK.tt ?_ | refine IfK.no (by first | rfl | assumption | exact nf (by assumption) | exact nt (by assumption) | ((try simp only [castN]); first | (simp []; done) | (simp []; omega))) ?_ | refine IfK.yes (by first | rfl | assumption | exact nf (by assumption) | exact nt (by assumption) | ((try simp only [castN]); first | (simp []; done) | (simp []; omega))) ?_)
    | ((with_reducible show NeedK _ _ _ _); refine NeedK.mk (by (try simp only [castN]); omega) ?_)
    | ((with_reducible show DrawK _ _ _ _); refine DrawK.mk (by kernel_rfl) (by kernel_rfl) (by kernel_rfl) ?_)) <;> ((with_reducible conv => whnf); (with_reducible conv => congr <;> reduce); repeat ((first | (with_reducible refine HaltK.mk ?_) | (with_reducible refine StopK.mk ?_)); (with_reducible conv => whnf); (with_reducible conv => congr <;> reduce)))
    | ((with_reducible show (_ ∧ _) ∧ _ ∧ _); refine ⟨⟨rfl, rfl⟩, ?_, ?_⟩ <;> (with_reducible conv => whnf) <;> repeat' (first | (with_reducible exact trivial) | (with_reducible refine And.intro ?_ ?_ <;> with_reducible conv => whnf))))
    all_goals first
      | rfl
      | exact ⟨.refl rfl, rfl⟩
      | exact ⟨.refl (noRef_ids _), noRef_ids _⟩
      | exact ⟨.refl (noRef_ints _), noRef_ints _⟩
      | trace_state
  | some i0 =>
    have e1 : idxI p ks = (i0 : Int) := by unfold idxI; rw [hi]
    have h130 := h130 (i0 + 1) (by rw [hi])
    rw [e1] at h130
    obtain ⟨hi1, hi2, hi3⟩ := List.findIdx?_eq_some_iff_getElem.1 hi
    obtain ⟨kp, hkp⟩ : ∃ kp : Nat → List Int, kp = fun j => keptI p (ks.take j) := ⟨_, rfl⟩
    have hk1 : kp (i0 + 1) = ks.take i0 := by
      rw [hkp]; unfold keptI
      show List.filter _ (ks.take (i0 + 1)) = _
      rw [List.take_add_one, List.getElem?_eq_getElem hi1, List.filter_append]
      have h1 : List.filter (fun x => !p x) (ks.take i0) = ks.take i0 := by
        rw [List.filter_eq_self]; intro a ha
        obtain ⟨j, hj, rfl⟩ := List.mem_iff_getElem.1 ha
        rw [List.getElem_take]
        simp only [List.length_take] at hj
        have := hi3 j (by omega)
        simpa using this
      rw [h1]; simp [hi2]
    have hstep : ∀ (j : Nat) (x : Int), ks[j]? = some x → kp (j + 1) = kp j ++ if p x = true then [] else [x] := fun j x hx => by
      rw [hkp]; unfold keptI
      show List.filter _ (ks.take (j + 1)) = _
      rw [List.take_add_one, hx, List.filter_append]
      congr 1
      show List.filter _ [x] = _
      rw [List.filter_cons]
      cases p x <;> rfl
    have hend : kp ks.length = keptI p ks := by rw [hkp]; show keptI p (ks.take ks.length) = _; rw [List.take_length]
    have hl1 : kp (i0 + 1) ++ [ks[i0]] ++ ks.drop (i0 + 1) = ks := by
      rw [hk1, List.append_assoc, List.singleton_append, ← List.drop_eq_getElem_cons hi1, List.take_append_drop]
    refine FnOK.startC (rvs := [.tmp 4]) G G_good Tryz.func81 rfl Tryz.ntmps81 rfl rfl ?_; delta List.toArray; ((with_reducible conv => whnf); (with_reducible conv => congr <;> reduce); repeat ((first | (with_reducible refine HaltK.mk ?_) | (with_reducible refine StopK.mk ?_)); (with_reducible conv => whnf); (with_reducible conv => congr <;> reduce)))
    refine CallK.lend (news := [mFin l m 1, idsM (cf (i0 + 1)), rInts ks]) [0, 1, 2] [] h130 c125 ⟨⟨rfl, rfl⟩, ⟨rfl, trivial, ⟨rfl, rfl⟩, ⟨rfl, rfl⟩, trivial⟩, trivial⟩ (ins_fin3 rfl rfl rfl) rfl ⟨⟨rfl, rfl⟩, rfl⟩ rfl news_fin3 rfl rfl ?_; ((with_reducible conv => whnf); (with_reducible conv => congr <;> reduce); repeat ((first | (with_reducible refine HaltK.mk ?_) | (with_reducible refine StopK.mk ?_)); (with_reducible conv => whnf); (with_reducible conv => congr <;> reduce)))
    repeat' (first
    | (first
    | ((with_reducible show IfK _ _ _ _); first | refine IfK.ff ?_ | refine IfK.tt ?_ | refine IfK.no (by first | rfl | assumption | exact nf (by assumption) | exact nt (by assumption) | ((try simp only [castN]); first | (simp []; done) | (simp []; omega))) ?_ | refine IfK.yes (by first | rfl | assumption | exact nf (by assumption) | exact nt (by assumption) | ((try simp only [castN]); first | (simp []; done) | (simp []; omega))) ?_)
    | ((with_reducible show NeedK _ _ _ _); refine NeedK.mk (by (try simp only [castN]); omega) ?_)
    | ((with_reducible show DrawK _ _ _ _); refine DrawK.mk (by kernel_rfl) (by kernel_rfl) (by kernel_rfl) ?_)) <;> ((with_reducible conv => whnf); (with_reducible conv => congr <;> reduce); repeat ((first | (with_reducible refine HaltK.mk ?_) | (with_reducible refine StopK.mk ?_)); (with_reducible conv => whnf); (with_reducible conv => congr <;> reduce)))
    | ((with_reducible show (_ ∧ _) ∧ _ ∧ _); refine ⟨⟨rfl, rfl⟩, ?_, ?_⟩ <;> (with_reducible conv => whnf) <;> repeat' (first | (with_reducible exact trivial) | (with_reducible refine And.intro ?_ ?_ <;> with_reducible conv => whnf))))
    refine LoopK.use G G_good (fun (i : Nat × List Int) => [(0, .own 2 0 ks.length), (1, .clo (.func 166) [] [.ptr 0 0 0, .fptr (eInt y) 0]), (5, eInt (kp i.1).length), (6, eInt i.1)])
      (fun i => [(0, mFin l m 1), (1, idsM (cf i.1)), (2, rInts (kp i.1 ++ i.2 ++ ks.drop i.1))])
      (fun i => i.1 ≤ ks.length ∧ (kp i.1).length + i.2.length = i.1 ∧ i.2 ≠ []) (fun i => ks.length - i.1) (i0 + 1, [ks[i0]]) ⟨by show i0 + 1 ≤ _; omega, by show (kp (i0 + 1)).length + 1 = i0 + 1; rw [hk1, List.length_take, Nat.min_eq_left (by omega)], by simp⟩ ?_ ?_
    · (refine ⟨⟨rfl, rfl⟩, ?_⟩; (with_reducible conv => whnf); (repeat' (first | (with_reducible exact trivial) | (with_reducible refine And.intro ?_ ?_ <;> with_reducible conv => whnf))); (all_goals try rfl))
      all_goals first
        | (show ((kp (i0 + 1)).length : Int) = (i0 : Int); rw [hk1, List.length_take, Nat.min_eq_left (by omega)])
        | exact ⟨.refl rfl, rfl⟩
        | exact ⟨.refl (noRef_ids _), noRef_ids _⟩
        | (show ObjK _ ((kp (i0 + 1) ++ [ks[i0]] ++ ks.drop (i0 + 1)).map oInt) _; rw [hl1]; exact ⟨.refl (noRef_ints _), noRef_ints _⟩)
        | trace_state
    rintro ⟨j, gar⟩ ⟨hj, hg, hg0⟩
    simp only at hj hg hg0
    ((with_reducible conv => whnf); (with_reducible conv => congr <;> reduce); repeat ((first | (with_reducible refine HaltK.mk ?_) | (with_reducible refine StopK.mk ?_)); (with_reducible conv => whnf); (with_reducible conv => congr <;> reduce)))
    have hdl : (ks.drop j).length = ks.length - j := List.length_drop ..
    have hlr : ((kp j ++ gar ++ ks.drop j).map oInt).length = ks.length := by simp; omega
    refine IfK.mk (fun h1 => ?_) (fun h1 => ?_) <;> (try simp only [castN] at h1) <;> ((with_reducible conv => whnf); (with_reducible conv => congr <;> reduce); repeat ((first | (with_reducible refine HaltK.mk ?_) | (with_reducible refine StopK.mk ?_)); (with_reducible conv => whnf); (with_reducible conv => congr <;> reduce)))
    · simp only [decide_eq_true_eq] at h1
      have hj' : j < ks.length := by omega
      obtain ⟨x, hx⟩ : ∃ x, ks[j]? = some x := ⟨_, List.getElem?_eq_getElem hj'⟩
      have hdj : ks.drop j = x :: ks.drop (j + 1) := by
        rw [List.drop_eq_getElem_cons hj']; congr 1
        rw [List.getElem?_eq_getElem hj'] at hx; exact Option.some.inj hx
      have hst := hstep j x hx
      have h83 := hf j x hx
      rw [hdj]
      rw [hdj] at hlr
      obtain ⟨z, gar', rfl⟩ := List.exists_cons_of_ne_nil hg0
      simp only [List.length_cons] at hg
      refine LtK.mk j rfl (by omega) ?_
      ((with_reducible conv => whnf); (with_reducible conv => congr <;> reduce); repeat ((first | (with_reducible refine HaltK.mk ?_) | (with_reducible refine StopK.mk ?_)); (with_reducible conv => whnf); (with_reducible conv => congr <;> reduce)))
      refine ElemK.mk (eInt x) (by rw [Nat.zero_add, List.getElem?_map, List.getElem?_append_right (by simp; omega), show j - (kp j ++ z :: gar').length = 0 by simp; omega]; rfl) ?_; ((with_reducible conv => whnf); (with_reducible conv => congr <;> reduce); repeat ((first | (with_reducible refine HaltK.mk ?_) | (with_reducible refine StopK.mk ?_)); (with_reducible conv => whnf); (with_reducible conv => congr <;> reduce)))
      repeat' (first
    | (first
    | ((with_reducible show IfK _ _ _ _); first | refine IfK.ff ?_ | refine IfK.tt ?_ | refine IfK.no (by first | rfl | assumption | exact nf (by assumption) | exact nt (by assumption) | ((try simp only [castN]); first | (simp []; done) | (simp []; omega))) ?_ | refine IfK.yes (by first | rfl | assumption | exact nf (by assumption) | exact nt (by assumption) | ((try simp only [castN]); first | (simp []; done) | (simp []; omega))) ?_)
    | ((with_reducible show NeedK _ _ _ _); refine NeedK.mk (by (try simp only [castN]); omega) ?_)
    | ((with_reducible show DrawK _ _ _ _); refine DrawK.mk (by kernel_rfl) (by kernel_rfl) (by kernel_rfl) ?_)) <;> ((with_reducible conv => whnf); (with_reducible conv => congr <;> reduce); repeat ((first | (with_reducible refine HaltK.mk ?_) | (with_reducible refine StopK.mk ?_)); (with_reducible conv => whnf); (with_reducible conv => congr <;> reduce)))
    | ((with_reducible show (_ ∧ _) ∧ _ ∧ _); refine ⟨⟨rfl, rfl⟩, ?_, ?_⟩ <;> (with_reducible conv => whnf) <;> repeat' (first | (with_reducible exact trivial) | (with_reducible refine And.intro ?_ ?_ <;> with_reducible conv => whnf))))
      refine CallK.lend (news := [mFin l m 1, idsM (cf (j + 1))]) [0, 1] [] h83 c166 ⟨rfl, ⟨rfl, rfl⟩, ⟨rfl, rfl⟩, trivial⟩ (ins_fin rfl rfl) rfl ⟨⟨rfl, rfl⟩, rfl⟩ rfl news_fin rfl rfl ?_; ((with_reducible conv => whnf); (with_reducible conv => congr <;> reduce); repeat ((first | (with_reducible refine HaltK.mk ?_) | (with_reducible refine StopK.mk ?_)); (with_reducible conv => whnf); (with_reducible conv => congr <;> reduce)))
      cases hp : p x with
      | true =>
        rw [hp, if_pos rfl, List.append_nil] at hst
        have hl2 : kp (j + 1) ++ (z :: gar' ++ [x]) ++ ks.drop (j + 1) = kp j ++ z :: gar' ++ x :: ks.drop (j + 1) := by rw [hst]; simp
        repeat' (first
    | (first
    | ((with_reducible show IfK _ _ _ _); first | refine IfK.ff ?_ | refine IfK.tt ?_ | refine IfK.no (by first | rfl | assumption | exact nf (by assumption) | exact nt (by assumption) | ((try simp only [castN]); first | (simp []; done) | (simp []; omega))) ?_ | refine IfK.yes (by first | rfl | assumption | exact nf (by assumption) | exact nt (by assumption) | ((try simp only [castN]); first | (simp []; done) | (simp []; omega))) ?_)
    | ((with_reducible show NeedK _ _ _ _); refine NeedK.mk (by (try simp only [castN]); omega) ?_)
    | ((with_reducible show DrawK _ _ _ _); refine DrawK.mk (by kernel_rfl) (by kernel_rfl) (by kernel_rfl) ?_)) <;> ((with_reducible conv => whnf); (with_reducible conv => congr <;> reduce); repeat ((first | (with_reducible refine HaltK.mk ?_) | (with_reducible refine StopK.mk ?_)); (with_reducible conv => whnf); (with_reducible conv => congr <;> reduce)))
    | ((with_reducible show (_ ∧ _) ∧ _ ∧ _); refine ⟨⟨rfl, rfl⟩, ?_, ?_⟩ <;> (with_reducible conv => whnf) <;> repeat' (first | (with_reducible exact trivial) | (with_reducible refine And.intro ?_ ?_ <;> with_reducible conv => whnf))))
        refine NextK.mk (j + 1, z :: gar' ++ [x]) ⟨by show j + 1 ≤ _; omega, by show (kp (j + 1)).length + _ = j + 1; rw [hst]; simp; omega, by simp⟩ (by show ks.length - (j + 1) < ks.length - j; omega) ?_
        (refine ⟨⟨rfl, rfl⟩, ?_⟩; (with_reducible conv => whnf); (repeat' (first | (with_reducible exact trivial) | (with_reducible refine And.intro ?_ ?_ <;> with_reducible conv => whnf))); (all_goals try rfl))
        all_goals first
          | exact ⟨.refl rfl, rfl⟩
          | exact ⟨.refl (noRef_ids _), noRef_ids _⟩
          | (show ((kp (j + 1)).length : Int) = ((kp j).length : Int); rw [hst])
          | (show ObjK _ ((kp (j + 1) ++ (z :: gar' ++ [x]) ++ ks.drop (j + 1)).map oInt) _; rw [hl2]; exact ⟨.refl (noRef_ints _), noRef_ints _⟩)
          | trace_state
      | false =>
        rw [hp, if_neg (by simp)] at hst
        have hl2 : ((kp j ++ z :: gar' ++ x :: ks.drop (j + 1)).map oInt).set (0 + (kp j).length) (eInt x) = (kp (j + 1) ++ (gar' ++ [x]) ++ ks.drop (j + 1)).map oInt := by
          rw [hst, Nat.zero_add, List.append_assoc, List.cons_append, List.map_append, List.set_append, if_neg (by simp), List.length_map, Nat.sub_self, List.map_cons, List.set_cons_zero, show eInt x = oInt x from rfl]
          simp
        repeat' (first
    | (first
    | ((with_reducible show IfK _ _ _ _); first | refine IfK.ff ?_ | refine IfK.tt ?_ | refine IfK.no (by first | rfl | assumption | exact nf (by assumption) | exact nt (by assumption) | ((try simp only [castN]); first | (simp []; done) | (simp []; omega))) ?_ | refine IfK.yes (by first | rfl | assumption | exact nf (by assumption) | exact nt (by assumption) | ((try simp only [castN]); first | (simp []; done) | (simp []; omega))) ?_)
    | ((with_reducible show NeedK _ _ _ _); refine NeedK.mk (by (try simp only [castN]); omega) ?_)
    | ((with_reducible show DrawK _ _ _ _); refine DrawK.mk (by kernel_rfl) (by kernel_rfl) (by kernel_rfl) ?_)) <;> ((with_reducible conv => whnf); (with_reducible conv => congr <;> reduce); repeat ((first | (with_reducible refine HaltK.mk ?_) | (with_reducible refine StopK.mk ?_)); (with_reducible conv => whnf); (with_reducible conv => congr <;> reduce)))
    | ((with_reducible show (_ ∧ _) ∧ _ ∧ _); refine ⟨⟨rfl, rfl⟩, ?_, ?_⟩ <;> (with_reducible conv => whnf) <;> repeat' (first | (with_reducible exact trivial) | (with_reducible refine And.intro ?_ ?_ <;> with_reducible conv => whnf))))
        refine LtK.mk (kp j).length rfl (by omega) ?_; ((with_reducible conv => whnf); (with_reducible conv => congr <;> reduce); repeat ((first | (with_reducible refine HaltK.mk ?_) | (with_reducible refine StopK.mk ?_)); (with_reducible conv => whnf); (with_reducible conv => congr <;> reduce)))
        refine ElemK.mk (eInt z) (by rw [Nat.zero_add, List.getElem?_map, List.append_assoc, List.getElem?_append_right (Nat.le_refl _), Nat.sub_self]; rfl) ?_; ((with_reducible conv => whnf); (with_reducible conv => congr <;> reduce); repeat ((first | (with_reducible refine HaltK.mk ?_) | (with_reducible refine StopK.mk ?_)); (with_reducible conv => whnf); (with_reducible conv => congr <;> reduce)))
        rw [hl2]
        repeat' (first
    | (first
    | ((with_reducible show IfK _ _ _ _); first | refine IfK.ff ?_ | refine IfK.tt ?_ | refine IfK.no (by first | rfl | assumption | exact nf (by assumption) | exact nt (by assumption) | ((try simp only [castN]); first | (simp []; done) | (simp []; omega))) ?_ | refine IfK.yes (by first | rfl | assumption | exact nf (by assumption) | exact nt (by assumption) | ((try simp only [castN]); first | (simp []; done) | (simp []; omega))) ?_)
    | ((with_reducible show NeedK _ _ _ _); refine NeedK.mk (by (try simp only [castN]); omega) ?_)
    | ((with_reducible show DrawK _ _ _ _); refine DrawK.mk (by kernel_rfl) (by kernel_rfl) (by kernel_rfl) ?_)) <;> ((with_reducible conv => whnf); (with_reducible conv => congr <;> reduce); repeat ((first | (with_reducible refine HaltK.mk ?_) | (with_reducible refine StopK.mk ?_)); (with_reducible conv => whnf); (with_reducible conv => congr <;> reduce)))
    | ((with_reducible show (_ ∧ _) ∧ _ ∧ _); refine ⟨⟨rfl, rfl⟩, ?_, ?_⟩ <;> (with_reducible conv => whnf) <;> repeat' (first | (with_reducible exact trivial) | (with_reducible refine And.intro ?_ ?_ <;> with_reducible conv => whnf))))
        refine NextK.mk (j + 1, gar' ++ [x]) ⟨by show j + 1 ≤ _; omega, by show (kp (j + 1)).length + _ = j + 1; rw [hst]; simp; omega, by simp⟩ (by show ks.length - (j + 1) < ks.length - j; omega) ?_
        (refine ⟨⟨rfl, rfl⟩, ?_⟩; (with_reducible conv => whnf); (repeat' (first | (with_reducible exact trivial) | (with_reducible refine And.intro ?_ ?_ <;> with_reducible conv => whnf))); (all_goals try rfl))
        all_goals first
          | exact ⟨.refl rfl, rfl⟩
          | exact ⟨.refl (noRef_ids _), noRef_ids _⟩
          | exact ⟨.refl (noRef_ints _), noRef_ints _⟩
          | (show ((kp (j + 1)).length : Int) = ((kp j).length : Int) + 1; rw [hst]; simp)
          | trace_state
    · simp only [decide_eq_false_iff_not] at h1
      obtain rfl : j = ks.length := by omega
      repeat' (first
    | (first
    | ((with_reducible show IfK _ _ _ _); first | refine IfK.ff ?_ | refine IfK.tt ?_ | refine IfK.no (by first | rfl | assumption | exact nf (by assumption) | exact nt (by assumption) | ((try simp only [castN]); first | (simp []; done) | (simp []; omega))) ?_ | refine IfK.yes (by first | rfl | assumption | exact nf (by assumption) | exact nt (by assumption) | ((try simp only [castN]); first | (simp []; done) | (simp []; omega))) ?_)
    | ((with_reducible show NeedK _ _ _ _); refine NeedK.mk (by (try simp only [castN]); omega) ?_)
    | ((with_reducible show DrawK _ _ _ _); refine DrawK.mk (by kernel_rfl) (by kernel_rfl) (by kernel_rfl) ?_)) <;> ((with_reducible conv => whnf); (with_reducible conv => congr <;> reduce); repeat ((first | (with_reducible refine HaltK.mk ?_) | (with_reducible refine StopK.mk ?_)); (with_reducible conv => whnf); (with_reducible conv => congr <;> reduce)))
    | ((with_reducible show (_ ∧ _) ∧ _ ∧ _); refine ⟨⟨rfl, rfl⟩, ?_, ?_⟩ <;> (with_reducible conv => whnf) <;> repeat' (first | (with_reducible exact trivial) | (with_reducible refine And.intro ?_ ?_ <;> with_reducible conv => whnf))))
      refine CutK.mk (kp ks.length).length gar.length rfl (by (try simp only [castN]); omega) (by omega) ?_; ((with_reducible conv => whnf); (with_reducible conv => congr <;> reduce); repeat ((first | (with_reducible refine HaltK.mk ?_) | (with_reducible refine StopK.mk ?_)); (with_reducible conv => whnf); (with_reducible conv => congr <;> reduce)))
      have hpos : 0 < gar.length := List.length_pos_iff.2 hg0
      refine HandK.clear ((kp ks.length ++ List.replicate gar.length 0).map oInt) (by
        rw [Nat.zero_add, List.map_append, List.map_append, List.map_append, List.append_assoc, List.take_left' (List.length_map ..), List.map_replicate]; rfl) rfl Tryz.underlying33 Tryz.zeroValue3 rfl rfl rfl rfl hpos rfl (by simp) rfl ?_; ((with_reducible conv => whnf); (with_reducible conv => congr <;> reduce); repeat ((first | (with_reducible refine HaltK.mk ?_) | (with_reducible refine StopK.mk ?_)); (with_reducible conv => whnf); (with_reducible conv => congr <;> reduce)))
      repeat' (first
    | (first
    | ((with_reducible show IfK _ _ _ _); first | refine IfK.ff ?_ | refine IfK.tt ?_ | refine IfK.no (by first | rfl | assumption | exact nf (by assumption) | exact nt (by assumption) | ((try simp only [castN]); first | (simp []; done) | (simp []; omega))) ?_ | refine IfK.yes (by first | rfl | assumption | exact nf (by assumption) | exact nt (by assumption) | ((try simp only [castN]); first | (simp []; done) | (simp []; omega))) ?_)
    | ((with_reducible show NeedK _ _ _ _); refine NeedK.mk (by (try simp only [castN]); omega) ?_)
    | ((with_reducible show DrawK _ _ _ _); refine DrawK.mk (by kernel_rfl) (by kernel_rfl) (by kernel_rfl) ?_)) <;> ((with_reducible conv => whnf); (with_reducible conv => congr <;> reduce); repeat ((first | (with_reducible refine HaltK.mk ?_) | (with_reducible refine StopK.mk ?_)); (with_reducible conv => whnf); (with_reducible conv => congr <;> reduce)))
    | ((with_reducible show (_ ∧ _) ∧ _ ∧ _); refine ⟨⟨rfl, rfl⟩, ?_, ?_⟩ <;> (with_reducible conv => whnf) <;> repeat' (first | (with_reducible exact trivial) | (with_reducible refine And.intro ?_ ?_ <;> with_reducible conv => whnf))))
      refine CutK.mk 0 (kp ks.length).length rfl (by (try simp only [castN]); omega) (by omega) ?_; ((with_reducible conv => whnf); (with_reducible conv => congr <;> reduce); repeat ((first | (with_reducible refine HaltK.mk ?_) | (with_reducible refine StopK.mk ?_)); (with_reducible conv => whnf); (with_reducible conv => congr <;> reduce)))
      repeat' (first
    | (first
    | ((with_reducible show IfK _ _ _ _); first | refine IfK.ff ?_ | refine IfK.tt ?_ | refine IfK.no (by first | rfl | assumption | exact nf (by assumption) | exact nt (by assumption) | ((try simp only [castN]); first | (simp []; done) | (simp []; omega))) ?_ | refine IfK.yes (by first | rfl | assumption | exact nf (by assumption) | exact nt (by assumption) | ((try simp only [castN]); first | (simp []; done) | (simp []; omega))) ?_)
    | ((with_reducible show NeedK _ _ _ _); refine NeedK.mk (by (try simp only [castN]); omega) ?_)
    | ((with_reducible show DrawK _ _ _ _); refine DrawK.mk (by kernel_rfl) (by kernel_rfl) (by kernel_rfl) ?_)) <;> ((with_reducible conv => whnf); (with_reducible conv => congr <;> reduce); repeat ((first | (with_reducible refine HaltK.mk ?_) | (with_reducible refine StopK.mk ?_)); (with_reducible conv => whnf); (with_reducible conv => congr <;> reduce)))
    | ((with_reducible show (_ ∧ _) ∧ _ ∧ _); refine ⟨⟨rfl, rfl⟩, ?_, ?_⟩ <;> (with_reducible conv => whnf) <;> repeat' (first | (with_reducible exact trivial) | (with_reducible refine And.intro ?_ ?_ <;> with_reducible conv => whnf))))
      all_goals first
        | exact ⟨.refl rfl, rfl⟩
        | exact ⟨.refl (noRef_ids _), noRef_ids _⟩
        | (rw [hend]; done)
        | (rw [← hend, show ks.length - (kp ks.length).length = gar.length by omega]; exact ⟨.refl (noRef_ints _), noRef_ints _⟩)
        | (show ObjK _ ((keptI p ks ++ List.replicate (ks.length - (keptI p ks).length) 0).map oInt) _; rw [← hend, show ks.length - (kp ks.length).length = gar.length by omega]; exact ⟨.refl (noRef_ints _), noRef_ints _⟩)
        | trace_state
end Go.Proofs.Heir
namespace Go.Proofs.Heir
open Go Go.Am Go.RowKit Go.Shelf
set_option maxRecDepth 100000
set_option maxHeartbeats 8000000

end Go.Proofs.Heir
namespace Go.Proofs.Heir
open Go Go.Am Go.RowKit Go.Lib
set_option maxRecDepth 100000
set_option maxHeartbeats 8000000



end Go.Proofs.Heir
namespace Go.Proofs.Heir
open Go Go.Am Go.RowKit Go.Lib
set_option maxRecDepth 100000

end Go.Proofs.Heir
namespace Go.Proofs.Heir
open Go Go.Am Go.RowKit Go.Lib
set_option maxRecDepth 100000
set_option maxHeartbeats 8000000



end Go.Proofs.Heir
namespace Go.Proofs.Heir
open Go Go.Am Go.RowKit Go.Lib
set_option maxRecDepth 100000

end Go.Proofs.Heir
namespace Go.Proofs.Heir
open Go Go.Am Go.RowKit Go.Lib
set_option maxRecDepth 100000
set_option maxHeartbeats 8000000




@[reducible] def nilA : AV := .lit (.slice none 0 0)
end Go.Proofs.Heir
