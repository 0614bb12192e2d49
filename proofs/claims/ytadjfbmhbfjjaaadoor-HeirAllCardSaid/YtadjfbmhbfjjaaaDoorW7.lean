/- Models, plain laws and contracts of functions of the given program; conditions as stated in each theorem. By an AI agent. -/
import Derived.Test.YtadjfbmhbfjjaaaDoorW4
import Derived.Test.YtadjfbmhbfjjaaaDoorW5
import Derived.Test.YtadjfbmhbfjjaaaDoorW6
import Derived.Laws.Runes
import Derived.Laws.StructEq
import Derived.Tactics
import Derived.Test.YtadjfbmhbfjjaaaDoorW1
import Derived.Test.YtadjfbmhbfjjaaaDoorRows
import Derived.ProofKit
import Derived.LaidMore
import Derived.OpenShut
import Derived.Stop.Joined
import Derived.Lib.LaidTab
import Derived.MakeChecks
section
set_option linter.unusedSimpArgs false
set_option linter.unusedVariables false
namespace Go.Proofs.Heir
open Go Go.Am Go.RowKit Go.Lib
set_option maxRecDepth 100000
def keptI (p : Int → Bool) (l : List Int) : List Int := l.filter fun x => !p x
theorem f20_ok (f : ForM) (p : Int → Bool) (l : List Int) (hl : l.length ≤ 100000) (g : Nat) (cg : Callable Tryd.prog g) (hf : ∀ a, a ∈ l → FnOK Tryd.prog g [] [eInt a, .fptr (eFor f) 0] [] (eBool (p a))) :
    FnOK Tryd.prog 20 [.live 2 [eFor f] false, rInts l] [.own 1 0 l.length, .clo (.func g) [] [.ptr 0 0 0]] [.live 2 [eFor f] false, rInts (keptI p l ++ List.replicate (l.length - (keptI p l).length) 0)] (.own 1 0 (keptI p l).length) := by
  have hlm : (l.map oInt).length = l.length := List.length_map ..
  have h35 := f35_ok g cg [.fptr (eFor f) 0] rfl p l hl hf
  obtain ⟨ns, m⟩ := f
  cases hi : l.findIdx? p with
  | none =>
    have e1 : idxI p l = -1 := by unfold idxI; rw [hi]
    have e2 : keptI p l = l := by
      unfold keptI; rw [List.filter_eq_self]; intro a ha
      have := List.findIdx?_eq_none_iff.1 hi a ha
      simpa using this
    rw [e1] at h35
    rw [e2, Nat.sub_self, List.replicate_zero, List.append_nil]
    refine FnOK.startC (rvs := [.tmp 4]) G G_good Tryd.func20 rfl Tryd.ntmps20 rfl rfl ?_; delta List.toArray; ((with_reducible conv => whnf); (with_reducible conv => congr <;> reduce); repeat ((first | (with_reducible refine HaltK.mk ?_) | (with_reducible refine StopK.mk ?_)); (with_reducible conv => whnf); (with_reducible conv => congr <;> reduce)))
    refine CallK.lit [0, 1] h35 c35 ⟨frz_ints (l := l) rfl rfl rfl rfl, ⟨rfl, trivial, ⟨_, _, _, _, _, rfl, rfl, rfl, rfl, rfl, ⟨rfl, rfl, trivial⟩⟩, trivial⟩, trivial⟩ rfl rfl ?_; ((with_reducible conv => whnf); (with_reducible conv => congr <;> reduce); repeat ((first | (with_reducible refine HaltK.mk ?_) | (with_reducible refine StopK.mk ?_)); (with_reducible conv => whnf); (with_reducible conv => congr <;> reduce)))
    repeat' (first
    | (first
    | ((with_reducible show IfK _ _ _ _); first | refine IfK.ff ?_ | refine IfK.tt ?_ | refine IfK.no (by first | rfl | assumption | exact nf (by assumption) | exact nt (by assumption) | ((try simp only [castN]); first | (simp []; done) | (simp []; omega))) ?_ | refine IfK.yes (by first | rfl | assumption | exact nf (by assumption) | exact nt (by assumption) | ((try simp only [castN]); first | (simp []; done) | (simp []; omega))) ?_)
    | ((with_reducible show NeedK _ _ _ _); refine NeedK.mk (by (try simp only [castN]); omega) ?_)
    | ((with_reducible show DrawK _ _ _ _); refine DrawK.mk (by kernel_rfl) (by kernel_rfl) (by kernel_rfl) ?_)) <;> ((with_reducible conv => whnf); (with_reducible conv => congr <;> reduce); repeat ((first | (with_reducible refine HaltK.mk ?_) | (with_reducible refine StopK.mk ?_)); (with_reducible conv => whnf); (with_reducible conv => congr <;> reduce)))
    | ((with_reducible show (_ ∧ _) ∧ _ ∧ _); refine ⟨⟨rfl, rfl⟩, ?_, ?_⟩ <;> (with_reducible conv => whnf) <;> repeat' (first | (with_reducible exact trivial) | (with_reducible refine And.intro ?_ ?_ <;> with_reducible conv => whnf))))
    all_goals first
      | exact MFL_refl (noRef_ints l)
      | exact ⟨MFL_refl (noRef_ints l), noRef_ints l⟩
      | exact ⟨.refl rfl, rfl⟩
      | exact ⟨.refl (noRef_ints l), noRef_ints l⟩
  | some i0 =>
    have e1 : idxI p l = (i0 : Int) := by unfold idxI; rw [hi]
    rw [e1] at h35
    obtain ⟨hi1, hi2, hi3⟩ := List.findIdx?_eq_some_iff_getElem.1 hi
    obtain ⟨ks, hks⟩ : ∃ ks : Nat → List Int, ks = fun j => keptI p (l.take j) := ⟨_, rfl⟩
    have hk1 : ks (i0 + 1) = l.take i0 := by
      rw [hks]; unfold keptI
      show List.filter _ (l.take (i0 + 1)) = _
      rw [List.take_add_one, List.getElem?_eq_getElem hi1, List.filter_append]
      have h1 : List.filter (fun x => !p x) (l.take i0) = l.take i0 := by
        rw [List.filter_eq_self]; intro a ha
        obtain ⟨j, hj, rfl⟩ := List.mem_iff_getElem.1 ha
        rw [List.getElem_take]
        simp only [List.length_take] at hj
        have := hi3 j (by omega)
        simpa using this
      rw [h1]; simp [hi2]
    have hstep : ∀ (j : Nat) (x : Int), l[j]? = some x → ks (j + 1) = ks j ++ if p x = true then [] else [x] := fun j x hx => by
      rw [hks]; unfold keptI
      show List.filter _ (l.take (j + 1)) = _
      rw [List.take_add_one, hx, List.filter_append]
      congr 1
      show List.filter _ [x] = _
      rw [List.filter_cons]
      cases p x <;> rfl
    have hend : ks l.length = keptI p l := by rw [hks]; show keptI p (l.take l.length) = _; rw [List.take_length]
    have hl1 : ks (i0 + 1) ++ [l[i0]] ++ l.drop (i0 + 1) = l := by
      rw [hk1, List.append_assoc, List.singleton_append, ← List.drop_eq_getElem_cons hi1, List.take_append_drop]
    refine FnOK.startC (rvs := [.tmp 4]) G G_good Tryd.func20 rfl Tryd.ntmps20 rfl rfl ?_; delta List.toArray; ((with_reducible conv => whnf); (with_reducible conv => congr <;> reduce); repeat ((first | (with_reducible refine HaltK.mk ?_) | (with_reducible refine StopK.mk ?_)); (with_reducible conv => whnf); (with_reducible conv => congr <;> reduce)))
    refine CallK.lit [0, 1] h35 c35 ⟨frz_ints (l := l) rfl rfl rfl rfl, ⟨rfl, trivial, ⟨_, _, _, _, _, rfl, rfl, rfl, rfl, rfl, ⟨rfl, rfl, trivial⟩⟩, trivial⟩, trivial⟩ rfl rfl ?_; ((with_reducible conv => whnf); (with_reducible conv => congr <;> reduce); repeat ((first | (with_reducible refine HaltK.mk ?_) | (with_reducible refine StopK.mk ?_)); (with_reducible conv => whnf); (with_reducible conv => congr <;> reduce)))
    repeat' (first
    | (first
    | ((with_reducible show IfK _ _ _ _); first | refine IfK.ff ?_ | refine IfK.tt ?_ | refine IfK.no (by first | rfl | assumption | exact nf (by assumption) | exact nt (by assumption) | ((try simp only [castN]); first | (simp []; done) | (simp []; omega))) ?_ | refine IfK.yes (by first | rfl | assumption | exact nf (by assumption) | exact nt (by assumption) | ((try simp only [castN]); first | (simp []; done) | (simp []; omega))) ?_)
    | ((with_reducible show NeedK _ _ _ _); refine NeedK.mk (by (try simp only [castN]); omega) ?_)
    | ((with_reducible show DrawK _ _ _ _); refine DrawK.mk (by kernel_rfl) (by kernel_rfl) (by kernel_rfl) ?_)) <;> ((with_reducible conv => whnf); (with_reducible conv => congr <;> reduce); repeat ((first | (with_reducible refine HaltK.mk ?_) | (with_reducible refine StopK.mk ?_)); (with_reducible conv => whnf); (with_reducible conv => congr <;> reduce)))
    | ((with_reducible show (_ ∧ _) ∧ _ ∧ _); refine ⟨⟨rfl, rfl⟩, ?_, ?_⟩ <;> (with_reducible conv => whnf) <;> repeat' (first | (with_reducible exact trivial) | (with_reducible refine And.intro ?_ ?_ <;> with_reducible conv => whnf))))
    refine LoopK.use G G_good (fun (i : Nat × List Int) => [(0, .own 1 0 l.length), (1, .clo (.func g) [] [.ptr 0 0 0]), (5, eInt (ks i.1).length), (6, eInt i.1)])
      (fun i => [(0, .live 2 [eFor ⟨ns, m⟩] false), (1, rInts (ks i.1 ++ i.2 ++ l.drop i.1))])
      (fun i => i.1 ≤ l.length ∧ (ks i.1).length + i.2.length = i.1 ∧ i.2 ≠ []) (fun i => l.length - i.1) (i0 + 1, [l[i0]]) ⟨by show i0 + 1 ≤ _; omega, by show (ks (i0 + 1)).length + 1 = i0 + 1; rw [hk1, List.length_take, Nat.min_eq_left (by omega)], by simp⟩
      (by
        refine ⟨⟨rfl, rfl⟩, ?_⟩
        (with_reducible conv => whnf)
        repeat' (first | (with_reducible exact trivial) | (with_reducible refine And.intro ?_ ?_ <;> with_reducible conv => whnf))
        all_goals try rfl
        all_goals first
          | exact MFL_refl rfl
          | (show ((ks (i0 + 1)).length : Int) = (i0 : Int); rw [hk1, List.length_take, Nat.min_eq_left (by omega)])
          | exact noRef_ints _
          | exact ⟨.refl rfl, rfl⟩
          | (show ObjK _ ((ks (i0 + 1) ++ [l[i0]] ++ l.drop (i0 + 1)).map oInt) _; rw [hl1]; exact ⟨.refl (noRef_ints _), noRef_ints _⟩)
          | (show MFL _ ((ks (i0 + 1) ++ [l[i0]] ++ l.drop (i0 + 1)).map oInt) _; rw [hl1]; exact MFL_refl (noRef_ints _))) ?_
    rintro ⟨j, gar⟩ ⟨hj, hg, hg0⟩
    simp only at hj hg hg0
    ((with_reducible conv => whnf); (with_reducible conv => congr <;> reduce); repeat ((first | (with_reducible refine HaltK.mk ?_) | (with_reducible refine StopK.mk ?_)); (with_reducible conv => whnf); (with_reducible conv => congr <;> reduce)))
    have hdl : (l.drop j).length = l.length - j := List.length_drop ..
    have hlr : ((ks j ++ gar ++ l.drop j).map oInt).length = l.length := by simp; omega
    refine IfK.mk (fun h1 => ?_) (fun h1 => ?_) <;> (try simp only [castN] at h1) <;> ((with_reducible conv => whnf); (with_reducible conv => congr <;> reduce); repeat ((first | (with_reducible refine HaltK.mk ?_) | (with_reducible refine StopK.mk ?_)); (with_reducible conv => whnf); (with_reducible conv => congr <;> reduce)))
    · simp only [decide_eq_true_eq] at h1
      have hj' : j < l.length := by omega
      obtain ⟨x, hx⟩ : ∃ x, l[j]? = some x := ⟨_, List.getElem?_eq_getElem hj'⟩
      have hdj : l.drop j = x :: l.drop (j + 1) := by
        rw [List.drop_eq_getElem_cons hj']; congr 1
        rw [List.getElem?_eq_getElem hj'] at hx; exact Option.some.inj hx
      have hst := hstep j x hx
      rw [hdj]
      rw [hdj] at hlr
      obtain ⟨y, gar', rfl⟩ := List.exists_cons_of_ne_nil hg0
      simp only [List.length_cons] at hg
      refine LtK.mk j rfl (by omega) ?_
      ((with_reducible conv => whnf); (with_reducible conv => congr <;> reduce); repeat ((first | (with_reducible refine HaltK.mk ?_) | (with_reducible refine StopK.mk ?_)); (with_reducible conv => whnf); (with_reducible conv => congr <;> reduce)))
      refine ElemK.mk (eInt x) (by rw [Nat.zero_add, List.getElem?_map, List.getElem?_append_right (by simp; omega), show j - (ks j ++ y :: gar').length = 0 by simp; omega]; rfl) ?_; ((with_reducible conv => whnf); (with_reducible conv => congr <;> reduce); repeat ((first | (with_reducible refine HaltK.mk ?_) | (with_reducible refine StopK.mk ?_)); (with_reducible conv => whnf); (with_reducible conv => congr <;> reduce)))
      repeat' (first
    | (first
    | ((with_reducible show IfK _ _ _ _); first | refine IfK.ff ?_ | refine IfK.tt ?_ | refine IfK.no (by first | rfl | assumption | exact nf (by assumption) | exact nt (by assumption) | ((try simp only [castN]); first | (simp []; done) | (simp []; omega))) ?_ | refine IfK.yes (by first | rfl | assumption | exact nf (by assumption) | exact nt (by assumption) | ((try simp only [castN]); first | (simp []; done) | (simp []; omega))) ?_)
    | ((with_reducible show NeedK _ _ _ _); refine NeedK.mk (by (try simp only [castN]); omega) ?_)
    | ((with_reducible show DrawK _ _ _ _); refine DrawK.mk (by kernel_rfl) (by kernel_rfl) (by kernel_rfl) ?_)) <;> ((with_reducible conv => whnf); (with_reducible conv => congr <;> reduce); repeat ((first | (with_reducible refine HaltK.mk ?_) | (with_reducible refine StopK.mk ?_)); (with_reducible conv => whnf); (with_reducible conv => congr <;> reduce)))
    | ((with_reducible show (_ ∧ _) ∧ _ ∧ _); refine ⟨⟨rfl, rfl⟩, ?_, ?_⟩ <;> (with_reducible conv => whnf) <;> repeat' (first | (with_reducible exact trivial) | (with_reducible refine And.intro ?_ ?_ <;> with_reducible conv => whnf))))
      refine CallK.lit [0] (hf x (List.mem_of_getElem? hx)) cg ⟨rfl, ⟨_, _, _, _, _, rfl, rfl, rfl, rfl, rfl, ⟨rfl, rfl, trivial⟩⟩, trivial⟩ rfl rfl ?_; ((with_reducible conv => whnf); (with_reducible conv => congr <;> reduce); repeat ((first | (with_reducible refine HaltK.mk ?_) | (with_reducible refine StopK.mk ?_)); (with_reducible conv => whnf); (with_reducible conv => congr <;> reduce)))
      cases hp : p x with
      | true =>
        rw [hp, if_pos rfl, List.append_nil] at hst
        have hl2 : ks (j + 1) ++ (y :: gar' ++ [x]) ++ l.drop (j + 1) = ks j ++ y :: gar' ++ x :: l.drop (j + 1) := by rw [hst]; simp
        repeat' (first
    | (first
    | ((with_reducible show IfK _ _ _ _); first | refine IfK.ff ?_ | refine IfK.tt ?_ | refine IfK.no (by first | rfl | assumption | exact nf (by assumption) | exact nt (by assumption) | ((try simp only [castN]); first | (simp []; done) | (simp []; omega))) ?_ | refine IfK.yes (by first | rfl | assumption | exact nf (by assumption) | exact nt (by assumption) | ((try simp only [castN]); first | (simp []; done) | (simp []; omega))) ?_)
    | ((with_reducible show NeedK _ _ _ _); refine NeedK.mk (by (try simp only [castN]); omega) ?_)
    | ((with_reducible show DrawK _ _ _ _); refine DrawK.mk (by kernel_rfl) (by kernel_rfl) (by kernel_rfl) ?_)) <;> ((with_reducible conv => whnf); (with_reducible conv => congr <;> reduce); repeat ((first | (with_reducible refine HaltK.mk ?_) | (with_reducible refine StopK.mk ?_)); (with_reducible conv => whnf); (with_reducible conv => congr <;> reduce)))
    | ((with_reducible show (_ ∧ _) ∧ _ ∧ _); refine ⟨⟨rfl, rfl⟩, ?_, ?_⟩ <;> (with_reducible conv => whnf) <;> repeat' (first | (with_reducible exact trivial) | (with_reducible refine And.intro ?_ ?_ <;> with_reducible conv => whnf))))
        refine NextK.mk (j + 1, y :: gar' ++ [x]) ⟨by show j + 1 ≤ _; omega, by show (ks (j + 1)).length + _ = j + 1; rw [hst]; simp; omega, by simp⟩ (by show l.length - (j + 1) < l.length - j; omega) ?_
        refine ⟨⟨rfl, rfl⟩, ?_⟩
        (with_reducible conv => whnf)
        repeat' (first | (with_reducible exact trivial) | (with_reducible refine And.intro ?_ ?_ <;> with_reducible conv => whnf))
        all_goals try rfl
        all_goals first
          | exact ⟨.refl rfl, rfl⟩
          | (show ((ks (j + 1)).length : Int) = ((ks j).length : Int); rw [hst])
          | (show ObjK _ ((ks (j + 1) ++ (y :: gar' ++ [x]) ++ l.drop (j + 1)).map oInt) _; rw [hl2]; exact ⟨.refl (noRef_ints _), noRef_ints _⟩)
      | false =>
        rw [hp, if_neg (by simp)] at hst
        have hl2 : ((ks j ++ y :: gar' ++ x :: l.drop (j + 1)).map oInt).set (0 + (ks j).length) (eInt x) = (ks (j + 1) ++ (gar' ++ [x]) ++ l.drop (j + 1)).map oInt := by
          rw [hst, Nat.zero_add, List.append_assoc, List.cons_append, List.map_append, List.set_append, if_neg (by simp), List.length_map, Nat.sub_self, List.map_cons, List.set_cons_zero, show eInt x = oInt x from rfl]
          simp
        repeat' (first
    | (first
    | ((with_reducible show IfK _ _ _ _); first | refine IfK.ff ?_ | refine IfK.tt ?_ | refine IfK.no (by first | rfl | assumption | exact nf (by assumption) | exact nt (by assumption) | ((try simp only [castN]); first | (simp []; done) | (simp []; omega))) ?_ | refine IfK.yes (by first | rfl | assumption | exact nf (by assumption) | exact nt (by assumption) | ((try simp only [castN]); first | (simp []; done) | (simp []; omega))) ?_)
    | ((with_reducible show NeedK _ _ _ _); refine NeedK.mk (by (try simp only [castN]); omega) ?_)
    | ((with_reducible show DrawK _ _ _ _); refine DrawK.mk (by kernel_rfl) (by kernel_rfl) (by kernel_rfl) ?_)) <;> ((with_reducible conv => whnf); (with_reducible conv => congr <;> reduce); repeat ((first | (with_reducible refine HaltK.mk ?_) | (with_reducible refine StopK.mk ?_)); (with_reducible conv => whnf); (with_reducible conv => congr <;> reduce)))
    | ((with_reducible show (_ ∧ _) ∧ _ ∧ _); refine ⟨⟨rfl, rfl⟩, ?_, ?_⟩ <;> (with_reducible conv => whnf) <;> repeat' (first | (with_reducible exact trivial) | (with_reducible refine And.intro ?_ ?_ <;> with_reducible conv => whnf))))
        refine LtK.mk (ks j).length rfl (by omega) ?_; ((with_reducible conv => whnf); (with_reducible conv => congr <;> reduce); repeat ((first | (with_reducible refine HaltK.mk ?_) | (with_reducible refine StopK.mk ?_)); (with_reducible conv => whnf); (with_reducible conv => congr <;> reduce)))
        refine ElemK.mk (eInt y) (by rw [Nat.zero_add, List.getElem?_map, List.append_assoc, List.getElem?_append_right (Nat.le_refl _), Nat.sub_self]; rfl) ?_; ((with_reducible conv => whnf); (with_reducible conv => congr <;> reduce); repeat ((first | (with_reducible refine HaltK.mk ?_) | (with_reducible refine StopK.mk ?_)); (with_reducible conv => whnf); (with_reducible conv => congr <;> reduce)))
        rw [hl2]
        repeat' (first
    | (first
    | ((with_reducible show IfK _ _ _ _); first | refine IfK.ff ?_ | refine IfK.tt ?_ | refine IfK.no (by first | rfl | assumption | exact nf (by assumption) | exact nt (by assumption) | ((try simp only [castN]); first | (simp []; done) | (simp []; omega))) ?_ | refine IfK.yes (by first | rfl | assumption | exact nf (by assumption) | exact nt (by assumption) | ((try simp only [castN]); first | (simp []; done) | (simp []; omega))) ?_)
    | ((with_reducible show NeedK _ _ _ _); refine NeedK.mk (by (try simp only [castN]); omega) ?_)
    | ((with_reducible show DrawK _ _ _ _); refine DrawK.mk (by kernel_rfl) (by kernel_rfl) (by kernel_rfl) ?_)) <;> ((with_reducible conv => whnf); (with_reducible conv => congr <;> reduce); repeat ((first | (with_reducible refine HaltK.mk ?_) | (with_reducible refine StopK.mk ?_)); (with_reducible conv => whnf); (with_reducible conv => congr <;> reduce)))
    | ((with_reducible show (_ ∧ _) ∧ _ ∧ _); refine ⟨⟨rfl, rfl⟩, ?_, ?_⟩ <;> (with_reducible conv => whnf) <;> repeat' (first | (with_reducible exact trivial) | (with_reducible refine And.intro ?_ ?_ <;> with_reducible conv => whnf))))
        refine NextK.mk (j + 1, gar' ++ [x]) ⟨by show j + 1 ≤ _; omega, by show (ks (j + 1)).length + _ = j + 1; rw [hst]; simp; omega, by simp⟩ (by show l.length - (j + 1) < l.length - j; omega) ?_
        refine ⟨⟨rfl, rfl⟩, ?_⟩
        (with_reducible conv => whnf)
        repeat' (first | (with_reducible exact trivial) | (with_reducible refine And.intro ?_ ?_ <;> with_reducible conv => whnf))
        all_goals try rfl
        all_goals first
          | exact ⟨.refl rfl, rfl⟩
          | exact ⟨.refl (noRef_ints _), noRef_ints _⟩
          | (show ((ks (j + 1)).length : Int) = ((ks j).length : Int) + 1; rw [hst]; simp)
    · simp only [decide_eq_false_iff_not] at h1
      obtain rfl : j = l.length := by omega
      repeat' (first
    | (first
    | ((with_reducible show IfK _ _ _ _); first | refine IfK.ff ?_ | refine IfK.tt ?_ | refine IfK.no (by first | rfl | assumption | exact nf (by assumption) | exact nt (by assumption) | ((try simp only [castN]); first | (simp []; done) | (simp []; omega))) ?_ | refine IfK.yes (by first | rfl | assumption | exact nf (by assumption) | exact nt (by assumption) | ((try simp only [castN]); first | (simp []; done) | (simp []; omega))) ?_)
    | ((with_reducible show NeedK _ _ _ _); refine NeedK.mk (by (try simp only [castN]); omega) ?_)
    | ((with_reducible show DrawK _ _ _ _); refine DrawK.mk (by kernel_rfl) (by kernel_rfl) (by kernel_rfl) ?_)) <;> ((with_reducible conv => whnf); (with_reducible conv => congr <;> reduce); repeat ((first | (with_reducible refine HaltK.mk ?_) | (with_reducible refine StopK.mk ?_)); (with_reducible conv => whnf); (with_reducible conv => congr <;> reduce)))
    | ((with_reducible show (_ ∧ _) ∧ _ ∧ _); refine ⟨⟨rfl, rfl⟩, ?_, ?_⟩ <;> (with_reducible conv => whnf) <;> repeat' (first | (with_reducible exact trivial) | (with_reducible refine And.intro ?_ ?_ <;> with_reducible conv => whnf))))
      refine CutK.mk (ks l.length).length gar.length rfl (by (try simp only [castN]); omega) (by omega) ?_; ((with_reducible conv => whnf); (with_reducible conv => congr <;> reduce); repeat ((first | (with_reducible refine HaltK.mk ?_) | (with_reducible refine StopK.mk ?_)); (with_reducible conv => whnf); (with_reducible conv => congr <;> reduce)))
      have hpos : 0 < gar.length := List.length_pos_iff.2 hg0
      refine HandK.clear ((ks l.length ++ List.replicate gar.length 0).map oInt) (by
        rw [Nat.zero_add, List.map_append, List.map_append, List.map_append, List.append_assoc, List.take_left' (List.length_map ..), List.map_replicate]; rfl) rfl Tryd.underlying32 Tryd.zeroValue3 rfl rfl rfl rfl hpos rfl (by simp) rfl ?_; ((with_reducible conv => whnf); (with_reducible conv => congr <;> reduce); repeat ((first | (with_reducible refine HaltK.mk ?_) | (with_reducible refine StopK.mk ?_)); (with_reducible conv => whnf); (with_reducible conv => congr <;> reduce)))
      repeat' (first
    | (first
    | ((with_reducible show IfK _ _ _ _); first | refine IfK.ff ?_ | refine IfK.tt ?_ | refine IfK.no (by first | rfl | assumption | exact nf (by assumption) | exact nt (by assumption) | ((try simp only [castN]); first | (simp []; done) | (simp []; omega))) ?_ | refine IfK.yes (by first | rfl | assumption | exact nf (by assumption) | exact nt (by assumption) | ((try simp only [castN]); first | (simp []; done) | (simp []; omega))) ?_)
    | ((with_reducible show NeedK _ _ _ _); refine NeedK.mk (by (try simp only [castN]); omega) ?_)
    | ((with_reducible show DrawK _ _ _ _); refine DrawK.mk (by kernel_rfl) (by kernel_rfl) (by kernel_rfl) ?_)) <;> ((with_reducible conv => whnf); (with_reducible conv => congr <;> reduce); repeat ((first | (with_reducible refine HaltK.mk ?_) | (with_reducible refine StopK.mk ?_)); (with_reducible conv => whnf); (with_reducible conv => congr <;> reduce)))
    | ((with_reducible show (_ ∧ _) ∧ _ ∧ _); refine ⟨⟨rfl, rfl⟩, ?_, ?_⟩ <;> (with_reducible conv => whnf) <;> repeat' (first | (with_reducible exact trivial) | (with_reducible refine And.intro ?_ ?_ <;> with_reducible conv => whnf))))
      refine CutK.mk 0 (ks l.length).length rfl (by (try simp only [castN]); omega) (by omega) ?_; ((with_reducible conv => whnf); (with_reducible conv => congr <;> reduce); repeat ((first | (with_reducible refine HaltK.mk ?_) | (with_reducible refine StopK.mk ?_)); (with_reducible conv => whnf); (with_reducible conv => congr <;> reduce)))
      repeat' (first
    | (first
    | ((with_reducible show IfK _ _ _ _); first | refine IfK.ff ?_ | refine IfK.tt ?_ | refine IfK.no (by first | rfl | assumption | exact nf (by assumption) | exact nt (by assumption) | ((try simp only [castN]); first | (simp []; done) | (simp []; omega))) ?_ | refine IfK.yes (by first | rfl | assumption | exact nf (by assumption) | exact nt (by assumption) | ((try simp only [castN]); first | (simp []; done) | (simp []; omega))) ?_)
    | ((with_reducible show NeedK _ _ _ _); refine NeedK.mk (by (try simp only [castN]); omega) ?_)
    | ((with_reducible show DrawK _ _ _ _); refine DrawK.mk (by kernel_rfl) (by kernel_rfl) (by kernel_rfl) ?_)) <;> ((with_reducible conv => whnf); (with_reducible conv => congr <;> reduce); repeat ((first | (with_reducible refine HaltK.mk ?_) | (with_reducible refine StopK.mk ?_)); (with_reducible conv => whnf); (with_reducible conv => congr <;> reduce)))
    | ((with_reducible show (_ ∧ _) ∧ _ ∧ _); refine ⟨⟨rfl, rfl⟩, ?_, ?_⟩ <;> (with_reducible conv => whnf) <;> repeat' (first | (with_reducible exact trivial) | (with_reducible refine And.intro ?_ ?_ <;> with_reducible conv => whnf))))
      all_goals first
        | exact ⟨.refl rfl, rfl⟩
        | (rw [hend]; done)
        | (rw [← hend, show l.length - (ks l.length).length = gar.length by omega]; exact ⟨.refl (noRef_ints _), noRef_ints _⟩)
        | (show ObjK _ ((keptI p l ++ List.replicate (l.length - (keptI p l).length) 0).map oInt) _; rw [← hend, show l.length - (ks l.length).length = gar.length by omega]; exact ⟨.refl (noRef_ints _), noRef_ints _⟩)
end Go.Proofs.Heir
end
section
set_option linter.unusedSimpArgs false
set_option linter.unusedVariables false
namespace Go.Proofs.Heir
open Go Go.Am Go.RowKit Go.Lib
set_option maxRecDepth 100000
theorem f21_own (f : ForM) (hs : SmallN f.nodes) (n : Int) (e0 : (rightF f && thereN f.nodes n) = true) : FnOK Tryd.prog 21 [] [eFor f, eInt n] [rInts (allU f n)] (.own 0 0 (allU f n).length) := by
  have h86 := f36_ok f hs [n] (by simp)
  have e1 : (rightF f && !decide (0 ≤ idxI (fun n => !thereN f.nodes n) [n])) = (rightF f && thereN f.nodes n) := by
    congr 1
    unfold idxI
    cases h : thereN f.nodes n <;> simp [List.findIdx?_cons, h]
  rw [e1] at h86
  obtain ⟨l, m⟩ := f
  unfold allU
  simp only at h86 e0 ⊢
  rw [if_pos e0]
  have hlm : (l.map oNode).length = l.length := List.length_map ..
  refine FnOK.startC (rvs := [.tmp 4]) G G_good Tryd.func21 rfl Tryd.ntmps21 rfl rfl ?_; delta List.toArray; ((with_reducible conv => whnf); (with_reducible conv => congr <;> reduce); repeat ((first | (with_reducible refine HaltK.mk ?_) | (with_reducible refine StopK.mk ?_)); (with_reducible conv => whnf); (with_reducible conv => congr <;> reduce)))
  rw [e0] at h86
  refine CallK.lit [141] h86 c36 ⟨⟨rfl, rfl, trivial⟩, frz_ints (l := [n]) rfl rfl rfl rfl, trivial⟩ rfl rfl ?_; ((with_reducible conv => whnf); (with_reducible conv => congr <;> reduce); repeat ((first | (with_reducible refine HaltK.mk ?_) | (with_reducible refine StopK.mk ?_)); (with_reducible conv => whnf); (with_reducible conv => congr <;> reduce)))
  obtain ⟨hr, hn⟩ : rightF ⟨l, m⟩ = true ∧ thereN l n = true := by simpa using e0
  have T := U.tree_of hr
  have hol := U.ord_len T l.length hn
  simp only at T hol
  repeat' (first
    | (first
    | ((with_reducible show IfK _ _ _ _); first | refine IfK.ff ?_ | refine IfK.tt ?_ | refine IfK.no (by first | rfl | assumption | exact nf (by assumption) | exact nt (by assumption) | ((try simp only [castN]); first | (simp []; done) | (simp []; omega))) ?_ | refine IfK.yes (by first | rfl | assumption | exact nf (by assumption) | exact nt (by assumption) | ((try simp only [castN]); first | (simp []; done) | (simp []; omega))) ?_)
    | ((with_reducible show NeedK _ _ _ _); refine NeedK.mk (by (try simp only [castN]); omega) ?_)
    | ((with_reducible show DrawK _ _ _ _); refine DrawK.mk (by kernel_rfl) (by kernel_rfl) (by kernel_rfl) ?_)) <;> ((with_reducible conv => whnf); (with_reducible conv => congr <;> reduce); repeat ((first | (with_reducible refine HaltK.mk ?_) | (with_reducible refine StopK.mk ?_)); (with_reducible conv => whnf); (with_reducible conv => congr <;> reduce)))
    | ((with_reducible show (_ ∧ _) ∧ _ ∧ _); refine ⟨⟨rfl, rfl⟩, ?_, ?_⟩ <;> (with_reducible conv => whnf) <;> repeat' (first | (with_reducible exact trivial) | (with_reducible refine And.intro ?_ ?_ <;> with_reducible conv => whnf))))
  refine LoopK.ghost 5 51 1 rfl rfl ?_
  refine LoopK.use G G_good (fun (i : List Int × List Int × List Int) => [(2, .ptr 20 0 0), (5, .own 51 0 i.1.length), (6, .ptr 60 0 0)])
    (fun i => [(20, .live 2 [eFor ⟨l, m⟩] false), (51, rInts i.1), (60, .live 1 [.own 181 0 i.2.1.length] false), (181, rInts (i.2.1 ++ i.2.2))])
    (fun i => U.ordN l l.length n = i.1 ++ U.rest l i.2.1 ∧ ∀ c ∈ i.2.1, thereN l c = true) (fun i => l.length - i.1.length) ([], [n], []) ⟨by simp [U.rest], fun c hc => by rw [List.mem_singleton] at hc; subst hc; exact hn⟩
    (by refine ⟨⟨rfl, rfl⟩, ⟨⟨rfl, rfl⟩, ⟨rfl, rfl⟩, ⟨rfl, rfl⟩, trivial⟩, ⟨⟨rfl, rfl, trivial⟩, trivial⟩, ⟨.refl rfl, noRef_ints _⟩, ⟨⟨rfl, rfl⟩, trivial⟩, ⟨.refl rfl, noRef_ints _⟩, trivial⟩) ?_
  rintro ⟨out, st, sp⟩ ⟨ho, hst⟩
  simp only at ho hst
  ((with_reducible conv => whnf); (with_reducible conv => congr <;> reduce); repeat ((first | (with_reducible refine HaltK.mk ?_) | (with_reducible refine StopK.mk ?_)); (with_reducible conv => whnf); (with_reducible conv => congr <;> reduce)))
  have hoL := congrArg List.length ho
  rw [List.length_append] at hoL
  have hol' : out.length = (out.map oInt).length := (List.length_map ..).symm
  have hrl := U.rest_len T hst
  have hl60 := hs.len
  simp only at hl60
  obtain h | ⟨st', t, h⟩ := List.eq_nil_or_concat st <;> (try rw [List.concat_eq_append] at h) <;> subst h
  · repeat' (first
    | (first
    | ((with_reducible show IfK _ _ _ _); first | refine IfK.ff ?_ | refine IfK.tt ?_ | refine IfK.no (by first | rfl | assumption | exact nf (by assumption) | exact nt (by assumption) | ((try simp only [castN]); first | (simp []; done) | (simp []; omega))) ?_ | refine IfK.yes (by first | rfl | assumption | exact nf (by assumption) | exact nt (by assumption) | ((try simp only [castN]); first | (simp []; done) | (simp []; omega))) ?_)
    | ((with_reducible show NeedK _ _ _ _); refine NeedK.mk (by (try simp only [castN]); omega) ?_)
    | ((with_reducible show DrawK _ _ _ _); refine DrawK.mk (by kernel_rfl) (by kernel_rfl) (by kernel_rfl) ?_)) <;> ((with_reducible conv => whnf); (with_reducible conv => congr <;> reduce); repeat ((first | (with_reducible refine HaltK.mk ?_) | (with_reducible refine StopK.mk ?_)); (with_reducible conv => whnf); (with_reducible conv => congr <;> reduce)))
    | ((with_reducible show (_ ∧ _) ∧ _ ∧ _); refine ⟨⟨rfl, rfl⟩, ?_, ?_⟩ <;> (with_reducible conv => whnf) <;> repeat' (first | (with_reducible exact trivial) | (with_reducible refine And.intro ?_ ?_ <;> with_reducible conv => whnf))))
    all_goals have ho' : U.ordN l l.length n = out := by rw [ho]; simp [U.rest]
    all_goals clear ho hoL
    all_goals subst ho'
    all_goals first
      | rfl
      | exact MFL_refl (noRef_ints _)
  · have ht := hst t (by simp)
    have hlen : (st' ++ [t]).length = st'.length + 1 := by simp
    obtain ⟨k, x, rfl, hx, hnx⟩ := there_iff.1 ht
    rw [hlen]
    rw [hlen] at hrl
    repeat' (first
    | (first
    | ((with_reducible show IfK _ _ _ _); first | refine IfK.ff ?_ | refine IfK.tt ?_ | refine IfK.no (by first | rfl | assumption | exact nf (by assumption) | exact nt (by assumption) | ((try simp only [castN]); first | (simp []; done) | (simp []; omega))) ?_ | refine IfK.yes (by first | rfl | assumption | exact nf (by assumption) | exact nt (by assumption) | ((try simp only [castN]); first | (simp []; done) | (simp []; omega))) ?_)
    | ((with_reducible show NeedK _ _ _ _); refine NeedK.mk (by (try simp only [castN]); omega) ?_)
    | ((with_reducible show DrawK _ _ _ _); refine DrawK.mk (by kernel_rfl) (by kernel_rfl) (by kernel_rfl) ?_)) <;> ((with_reducible conv => whnf); (with_reducible conv => congr <;> reduce); repeat ((first | (with_reducible refine HaltK.mk ?_) | (with_reducible refine StopK.mk ?_)); (with_reducible conv => whnf); (with_reducible conv => congr <;> reduce)))
    | ((with_reducible show (_ ∧ _) ∧ _ ∧ _); refine ⟨⟨rfl, rfl⟩, ?_, ?_⟩ <;> (with_reducible conv => whnf) <;> repeat' (first | (with_reducible exact trivial) | (with_reducible refine And.intro ?_ ?_ <;> with_reducible conv => whnf))))
    refine LtK.mk st'.length (by (try simp only [castN]); omega) (by omega) ?_; ((with_reducible conv => whnf); (with_reducible conv => congr <;> reduce); repeat ((first | (with_reducible refine HaltK.mk ?_) | (with_reducible refine StopK.mk ?_)); (with_reducible conv => whnf); (with_reducible conv => congr <;> reduce)))
    refine ElemK.mk (eInt (k : Int)) (by rw [Nat.zero_add, List.getElem?_map, List.append_assoc, List.getElem?_append_right (Nat.le_refl _), Nat.sub_self]; rfl) ?_; ((with_reducible conv => whnf); (with_reducible conv => congr <;> reduce); repeat ((first | (with_reducible refine HaltK.mk ?_) | (with_reducible refine StopK.mk ?_)); (with_reducible conv => whnf); (with_reducible conv => congr <;> reduce)))
    repeat' (first
    | (first
    | ((with_reducible show IfK _ _ _ _); first | refine IfK.ff ?_ | refine IfK.tt ?_ | refine IfK.no (by first | rfl | assumption | exact nf (by assumption) | exact nt (by assumption) | ((try simp only [castN]); first | (simp []; done) | (simp []; omega))) ?_ | refine IfK.yes (by first | rfl | assumption | exact nf (by assumption) | exact nt (by assumption) | ((try simp only [castN]); first | (simp []; done) | (simp []; omega))) ?_)
    | ((with_reducible show NeedK _ _ _ _); refine NeedK.mk (by (try simp only [castN]); omega) ?_)
    | ((with_reducible show DrawK _ _ _ _); refine DrawK.mk (by kernel_rfl) (by kernel_rfl) (by kernel_rfl) ?_)) <;> ((with_reducible conv => whnf); (with_reducible conv => congr <;> reduce); repeat ((first | (with_reducible refine HaltK.mk ?_) | (with_reducible refine StopK.mk ?_)); (with_reducible conv => whnf); (with_reducible conv => congr <;> reduce)))
    | ((with_reducible show (_ ∧ _) ∧ _ ∧ _); refine ⟨⟨rfl, rfl⟩, ?_, ?_⟩ <;> (with_reducible conv => whnf) <;> repeat' (first | (with_reducible exact trivial) | (with_reducible refine And.intro ?_ ?_ <;> with_reducible conv => whnf))))
    refine CutK.mk 0 st'.length rfl (by (try simp only [castN]); omega) (by omega) ?_; ((with_reducible conv => whnf); (with_reducible conv => congr <;> reduce); repeat ((first | (with_reducible refine HaltK.mk ?_) | (with_reducible refine StopK.mk ?_)); (with_reducible conv => whnf); (with_reducible conv => congr <;> reduce)))
    repeat' (first
    | (first
    | ((with_reducible show IfK _ _ _ _); first | refine IfK.ff ?_ | refine IfK.tt ?_ | refine IfK.no (by first | rfl | assumption | exact nf (by assumption) | exact nt (by assumption) | ((try simp only [castN]); first | (simp []; done) | (simp []; omega))) ?_ | refine IfK.yes (by first | rfl | assumption | exact nf (by assumption) | exact nt (by assumption) | ((try simp only [castN]); first | (simp []; done) | (simp []; omega))) ?_)
    | ((with_reducible show NeedK _ _ _ _); refine NeedK.mk (by (try simp only [castN]); omega) ?_)
    | ((with_reducible show DrawK _ _ _ _); refine DrawK.mk (by kernel_rfl) (by kernel_rfl) (by kernel_rfl) ?_)) <;> ((with_reducible conv => whnf); (with_reducible conv => congr <;> reduce); repeat ((first | (with_reducible refine HaltK.mk ?_) | (with_reducible refine StopK.mk ?_)); (with_reducible conv => whnf); (with_reducible conv => congr <;> reduce)))
    | ((with_reducible show (_ ∧ _) ∧ _ ∧ _); refine ⟨⟨rfl, rfl⟩, ?_, ?_⟩ <;> (with_reducible conv => whnf) <;> repeat' (first | (with_reducible exact trivial) | (with_reducible refine And.intro ?_ ?_ <;> with_reducible conv => whnf))))
    refine AppK.mk (out.map oInt) [eInt (k : Int)] ⟨rfl, hol', rfl⟩ ⟨rfl, rfl, rfl⟩ rfl (by simp; omega) (by simp; omega) ?_; ((with_reducible conv => whnf); (with_reducible conv => congr <;> reduce); repeat ((first | (with_reducible refine HaltK.mk ?_) | (with_reducible refine StopK.mk ?_)); (with_reducible conv => whnf); (with_reducible conv => congr <;> reduce)))
    repeat' (first
    | (first
    | ((with_reducible show IfK _ _ _ _); first | refine IfK.ff ?_ | refine IfK.tt ?_ | refine IfK.no (by first | rfl | assumption | exact nf (by assumption) | exact nt (by assumption) | ((try simp only [castN]); first | (simp []; done) | (simp []; omega))) ?_ | refine IfK.yes (by first | rfl | assumption | exact nf (by assumption) | exact nt (by assumption) | ((try simp only [castN]); first | (simp []; done) | (simp []; omega))) ?_)
    | ((with_reducible show NeedK _ _ _ _); refine NeedK.mk (by (try simp only [castN]); omega) ?_)
    | ((with_reducible show DrawK _ _ _ _); refine DrawK.mk (by kernel_rfl) (by kernel_rfl) (by kernel_rfl) ?_)) <;> ((with_reducible conv => whnf); (with_reducible conv => congr <;> reduce); repeat ((first | (with_reducible refine HaltK.mk ?_) | (with_reducible refine StopK.mk ?_)); (with_reducible conv => whnf); (with_reducible conv => congr <;> reduce)))
    | ((with_reducible show (_ ∧ _) ∧ _ ∧ _); refine ⟨⟨rfl, rfl⟩, ?_, ?_⟩ <;> (with_reducible conv => whnf) <;> repeat' (first | (with_reducible exact trivial) | (with_reducible refine And.intro ?_ ?_ <;> with_reducible conv => whnf))))
    obtain ⟨a1, a2, a3, a4, a5, a6, a7, a8, a9, a10⟩ := x
    refine IdxK.mk k (eNode ⟨a1, a2, a3, a4, a5, a6, a7, a8, a9, a10⟩) rfl (node_get hx) ?_; ((with_reducible conv => whnf); (with_reducible conv => congr <;> reduce); repeat ((first | (with_reducible refine HaltK.mk ?_) | (with_reducible refine StopK.mk ?_)); (with_reducible conv => whnf); (with_reducible conv => congr <;> reduce)))
    repeat' (first
    | (first
    | ((with_reducible show IfK _ _ _ _); first | refine IfK.ff ?_ | refine IfK.tt ?_ | refine IfK.no (by first | rfl | assumption | exact nf (by assumption) | exact nt (by assumption) | ((try simp only [castN]); first | (simp []; done) | (simp []; omega))) ?_ | refine IfK.yes (by first | rfl | assumption | exact nf (by assumption) | exact nt (by assumption) | ((try simp only [castN]); first | (simp []; done) | (simp []; omega))) ?_)
    | ((with_reducible show NeedK _ _ _ _); refine NeedK.mk (by (try simp only [castN]); omega) ?_)
    | ((with_reducible show DrawK _ _ _ _); refine DrawK.mk (by kernel_rfl) (by kernel_rfl) (by kernel_rfl) ?_)) <;> ((with_reducible conv => whnf); (with_reducible conv => congr <;> reduce); repeat ((first | (with_reducible refine HaltK.mk ?_) | (with_reducible refine StopK.mk ?_)); (with_reducible conv => whnf); (with_reducible conv => congr <;> reduce)))
    | ((with_reducible show (_ ∧ _) ∧ _ ∧ _); refine ⟨⟨rfl, rfl⟩, ?_, ?_⟩ <;> (with_reducible conv => whnf) <;> repeat' (first | (with_reducible exact trivial) | (with_reducible refine And.intro ?_ ?_ <;> with_reducible conv => whnf))))
    refine CallK.val [] (f37_ok a7) c37 ⟨rfl, trivial⟩ rfl rfl rfl ?_; ((with_reducible conv => whnf); (with_reducible conv => congr <;> reduce); repeat ((first | (with_reducible refine HaltK.mk ?_) | (with_reducible refine StopK.mk ?_)); (with_reducible conv => whnf); (with_reducible conv => congr <;> reduce)))
    repeat' (first
    | (first
    | ((with_reducible show IfK _ _ _ _); first | refine IfK.ff ?_ | refine IfK.tt ?_ | refine IfK.no (by first | rfl | assumption | exact nf (by assumption) | exact nt (by assumption) | ((try simp only [castN]); first | (simp []; done) | (simp []; omega))) ?_ | refine IfK.yes (by first | rfl | assumption | exact nf (by assumption) | exact nt (by assumption) | ((try simp only [castN]); first | (simp []; done) | (simp []; omega))) ?_)
    | ((with_reducible show NeedK _ _ _ _); refine NeedK.mk (by (try simp only [castN]); omega) ?_)
    | ((with_reducible show DrawK _ _ _ _); refine DrawK.mk (by kernel_rfl) (by kernel_rfl) (by kernel_rfl) ?_)) <;> ((with_reducible conv => whnf); (with_reducible conv => congr <;> reduce); repeat ((first | (with_reducible refine HaltK.mk ?_) | (with_reducible refine StopK.mk ?_)); (with_reducible conv => whnf); (with_reducible conv => congr <;> reduce)))
    | ((with_reducible show (_ ∧ _) ∧ _ ∧ _); refine ⟨⟨rfl, rfl⟩, ?_, ?_⟩ <;> (with_reducible conv => whnf) <;> repeat' (first | (with_reducible exact trivial) | (with_reducible refine And.intro ?_ ?_ <;> with_reducible conv => whnf))))
    obtain ⟨spF, hs0, hs1⟩ : ∃ spF : Nat → List Int, spF 0 = (k : Int) :: sp ∧ ∀ j, spF (j + 1) = [] := ⟨fun j => match j with | 0 => (k : Int) :: sp | _ + 1 => [], rfl, fun _ => rfl⟩
    have hk7 := hs.kids _ (List.mem_of_getElem? hx)
    simp only at hk7
    refine LoopK.range G G_good 4 [(2, .ptr 1 0 0), (5, .own 3 0 (out.length + 1)), (6, .ptr 0 0 0), (9, .ptr 2 0 0), (43, .clo (.func 59) [] [.fptr (eInts a7) 0])]
      (fun j => [(0, .live 1 [.own 181 0 (st'.length + j)] false), (1, .live 2 [eFor ⟨l, m⟩] false), (2, .live 10 [eNode ⟨a1, a2, a3, a4, a5, a6, a7, a8, a9, a10⟩] false), (3, rInts (out ++ [(k : Int)])), (181, rInts (st' ++ a7.reverse.take j ++ spF j))])
      (back_it a7 (by omega)) c59 ?_ rfl ⟨⟨rfl, rfl⟩, rfl⟩ (fun _ _ => rfl) (fun _ _ => rfl) ⟨⟨rfl, rfl⟩, rfl, rfl⟩ ?_ ?_
    · refine ⟨⟨rfl, rfl⟩, ?_⟩
      (with_reducible conv => whnf)
      repeat' (first | (with_reducible exact trivial) | (with_reducible refine And.intro ?_ ?_ <;> with_reducible conv => whnf))
      all_goals try rfl
      · simp
      · exact ⟨.refl rfl, rfl⟩
      · exact ⟨.refl rfl, rfl⟩
      · refine ⟨?_, noRef_ints _⟩
        rw [← show (out ++ [(k : Int)]).map oInt = out.map oInt ++ [AV.lit (.int .i64 k)] by simp; rfl]
        exact .refl (noRef_ints _)
      · refine ⟨?_, noRef_ints _⟩
        rw [hs0, List.take_zero, List.append_nil, show st' ++ [(k : Int)] ++ sp = st' ++ (k : Int) :: sp by simp]; exact .refl (noRef_ints _)
    · intro j hj
      ((with_reducible conv => whnf); (with_reducible conv => congr <;> reduce); repeat ((first | (with_reducible refine HaltK.mk ?_) | (with_reducible refine StopK.mk ?_)); (with_reducible conv => whnf); (with_reducible conv => congr <;> reduce)))
      refine BodyK.mk rfl ?_; ((with_reducible conv => whnf); (with_reducible conv => congr <;> reduce); repeat ((first | (with_reducible refine HaltK.mk ?_) | (with_reducible refine StopK.mk ?_)); (with_reducible conv => whnf); (with_reducible conv => congr <;> reduce)))
      repeat' (first
    | (first
    | ((with_reducible show IfK _ _ _ _); first | refine IfK.ff ?_ | refine IfK.tt ?_ | refine IfK.no (by first | rfl | assumption | exact nf (by assumption) | exact nt (by assumption) | ((try simp only [castN]); first | (simp []; done) | (simp []; omega))) ?_ | refine IfK.yes (by first | rfl | assumption | exact nf (by assumption) | exact nt (by assumption) | ((try simp only [castN]); first | (simp []; done) | (simp []; omega))) ?_)
    | ((with_reducible show NeedK _ _ _ _); refine NeedK.mk (by (try simp only [castN]); omega) ?_)
    | ((with_reducible show DrawK _ _ _ _); refine DrawK.mk (by kernel_rfl) (by kernel_rfl) (by kernel_rfl) ?_)) <;> ((with_reducible conv => whnf); (with_reducible conv => congr <;> reduce); repeat ((first | (with_reducible refine HaltK.mk ?_) | (with_reducible refine StopK.mk ?_)); (with_reducible conv => whnf); (with_reducible conv => congr <;> reduce)))
    | ((with_reducible show (_ ∧ _) ∧ _ ∧ _); refine ⟨⟨rfl, rfl⟩, ?_, ?_⟩ <;> (with_reducible conv => whnf) <;> repeat' (first | (with_reducible exact trivial) | (with_reducible refine And.intro ?_ ?_ <;> with_reducible conv => whnf))))
      refine AppK.take ((st' ++ a7.reverse.take j).map oInt) [oInt ((a7.reverse[j]?).getD 0)] ⟨rfl, by simp; omega, by rw [List.map_append (l₂ := spF j), List.take_left' (by simp; omega)]⟩ ⟨rfl, rfl, rfl⟩ rfl (by simp; omega) (by simp; omega) ?_
      ((with_reducible conv => whnf); (with_reducible conv => congr <;> reduce); repeat ((first | (with_reducible refine HaltK.mk ?_) | (with_reducible refine StopK.mk ?_)); (with_reducible conv => whnf); (with_reducible conv => congr <;> reduce)))
      repeat' (first
    | (first
    | ((with_reducible show IfK _ _ _ _); first | refine IfK.ff ?_ | refine IfK.tt ?_ | refine IfK.no (by first | rfl | assumption | exact nf (by assumption) | exact nt (by assumption) | ((try simp only [castN]); first | (simp []; done) | (simp []; omega))) ?_ | refine IfK.yes (by first | rfl | assumption | exact nf (by assumption) | exact nt (by assumption) | ((try simp only [castN]); first | (simp []; done) | (simp []; omega))) ?_)
    | ((with_reducible show NeedK _ _ _ _); refine NeedK.mk (by (try simp only [castN]); omega) ?_)
    | ((with_reducible show DrawK _ _ _ _); refine DrawK.mk (by kernel_rfl) (by kernel_rfl) (by kernel_rfl) ?_)) <;> ((with_reducible conv => whnf); (with_reducible conv => congr <;> reduce); repeat ((first | (with_reducible refine HaltK.mk ?_) | (with_reducible refine StopK.mk ?_)); (with_reducible conv => whnf); (with_reducible conv => congr <;> reduce)))
    | ((with_reducible show (_ ∧ _) ∧ _ ∧ _); refine ⟨⟨rfl, rfl⟩, ?_, ?_⟩ <;> (with_reducible conv => whnf) <;> repeat' (first | (with_reducible exact trivial) | (with_reducible refine And.intro ?_ ?_ <;> with_reducible conv => whnf))))
      refine TurnK.mk ?_
      obtain ⟨c, hc⟩ : ∃ c, a7.reverse[j]? = some c := ⟨_, List.getElem?_eq_getElem (by simpa using hj)⟩
      have htk : a7.reverse.take (j + 1) = a7.reverse.take j ++ [c] := by rw [List.take_add_one, hc]; rfl
      rw [hc, Option.getD_some]
      refine ⟨⟨rfl, rfl⟩, ?_⟩
      (with_reducible conv => whnf)
      repeat' (first | (with_reducible exact trivial) | (with_reducible refine And.intro ?_ ?_ <;> with_reducible conv => whnf))
      all_goals try rfl
      · simp; omega
      · exact ⟨.refl rfl, rfl⟩
      · exact ⟨.refl rfl, rfl⟩
      · exact ⟨.refl (noRef_ints _), noRef_ints _⟩
      · refine ⟨?_, noRef_ints _⟩
        rw [hs1, htk, List.append_nil, ← List.append_assoc, List.map_append (l₂ := [c])]; exact .refl (by rw [← List.map_append]; exact noRef_ints _)
    · ((with_reducible conv => whnf); (with_reducible conv => congr <;> reduce); repeat ((first | (with_reducible refine HaltK.mk ?_) | (with_reducible refine StopK.mk ?_)); (with_reducible conv => whnf); (with_reducible conv => congr <;> reduce)))
      refine ElemK.mk (eNode ⟨a1, a2, a3, a4, a5, a6, a7, a8, a9, a10⟩) rfl ?_; ((with_reducible conv => whnf); (with_reducible conv => congr <;> reduce); repeat ((first | (with_reducible refine HaltK.mk ?_) | (with_reducible refine StopK.mk ?_)); (with_reducible conv => whnf); (with_reducible conv => congr <;> reduce)))
      have hT : nd l k = ⟨a1, a2, a3, a4, a5, a6, a7, a8, a9, a10⟩ := hnx
      have hch : chU (nd l k) = (if a9 = -1 then [] else [a9]) ++ a7 := by rw [hT]; rfl
      have hpop := U.rest_pop T (st := st') ht
      rw [hch] at hpop
      have hkid : ∀ c ∈ (if a9 = -1 then [] else [a9]) ++ a7, thereN l c = true := fun c hc => (T.kid k ht c (by rw [hch]; exact hc)).1
      have hta : a7.reverse.take a7.length = a7.reverse := List.take_of_length_le (by simp)
      by_cases e9 : a9 = -1
      · subst e9
        rw [if_pos rfl, List.nil_append] at hpop hkid
        repeat' (first
    | (first
    | ((with_reducible show IfK _ _ _ _); first | refine IfK.ff ?_ | refine IfK.tt ?_ | refine IfK.no (by first | rfl | assumption | exact nf (by assumption) | exact nt (by assumption) | ((try simp only [castN]); first | (simp []; done) | (simp []; omega))) ?_ | refine IfK.yes (by first | rfl | assumption | exact nf (by assumption) | exact nt (by assumption) | ((try simp only [castN]); first | (simp []; done) | (simp []; omega))) ?_)
    | ((with_reducible show NeedK _ _ _ _); refine NeedK.mk (by (try simp only [castN]); omega) ?_)
    | ((with_reducible show DrawK _ _ _ _); refine DrawK.mk (by kernel_rfl) (by kernel_rfl) (by kernel_rfl) ?_)) <;> ((with_reducible conv => whnf); (with_reducible conv => congr <;> reduce); repeat ((first | (with_reducible refine HaltK.mk ?_) | (with_reducible refine StopK.mk ?_)); (with_reducible conv => whnf); (with_reducible conv => congr <;> reduce)))
    | ((with_reducible show (_ ∧ _) ∧ _ ∧ _); refine ⟨⟨rfl, rfl⟩, ?_, ?_⟩ <;> (with_reducible conv => whnf) <;> repeat' (first | (with_reducible exact trivial) | (with_reducible refine And.intro ?_ ?_ <;> with_reducible conv => whnf))))
        refine NextK.mk (out ++ [(k : Int)], st' ++ a7.reverse, spF a7.length) ⟨?_, ?_⟩ ?_ ?_
        · rw [ho, hpop]; simp
        · intro c hc
          rcases List.mem_append.1 hc with h | h
          · exact hst c (by simp [h])
          · exact hkid c (by simpa using h)
        · simp only [List.length_append, List.length_singleton]; omega
        · refine ⟨⟨rfl, rfl⟩, ?_⟩
          (with_reducible conv => whnf)
          repeat' (first | (with_reducible exact trivial) | (with_reducible refine And.intro ?_ ?_ <;> with_reducible conv => whnf))
          all_goals try rfl
          · simp
          · exact ⟨.refl (noRef_ints _), noRef_ints _⟩
          · simp
          · refine ⟨?_, noRef_ints _⟩
            rw [hta]; exact .refl (noRef_ints _)
      · rw [if_neg e9] at hpop hkid
        repeat' (first
    | (first
    | ((with_reducible show IfK _ _ _ _); first | refine IfK.ff ?_ | refine IfK.tt ?_ | refine IfK.no (by first | rfl | assumption | exact nf (by assumption) | exact nt (by assumption) | ((try simp only [castN]); first | (simp [e9]; done) | (simp [e9]; omega))) ?_ | refine IfK.yes (by first | rfl | assumption | exact nf (by assumption) | exact nt (by assumption) | ((try simp only [castN]); first | (simp [e9]; done) | (simp [e9]; omega))) ?_)
    | ((with_reducible show NeedK _ _ _ _); refine NeedK.mk (by (try simp only [castN]); omega) ?_)
    | ((with_reducible show DrawK _ _ _ _); refine DrawK.mk (by kernel_rfl) (by kernel_rfl) (by kernel_rfl) ?_)) <;> ((with_reducible conv => whnf); (with_reducible conv => congr <;> reduce); repeat ((first | (with_reducible refine HaltK.mk ?_) | (with_reducible refine StopK.mk ?_)); (with_reducible conv => whnf); (with_reducible conv => congr <;> reduce)))
    | ((with_reducible show (_ ∧ _) ∧ _ ∧ _); refine ⟨⟨rfl, rfl⟩, ?_, ?_⟩ <;> (with_reducible conv => whnf) <;> repeat' (first | (with_reducible exact trivial) | (with_reducible refine And.intro ?_ ?_ <;> with_reducible conv => whnf))))
        refine ElemK.mk (eNode ⟨a1, a2, a3, a4, a5, a6, a7, a8, a9, a10⟩) rfl ?_; ((with_reducible conv => whnf); (with_reducible conv => congr <;> reduce); repeat ((first | (with_reducible refine HaltK.mk ?_) | (with_reducible refine StopK.mk ?_)); (with_reducible conv => whnf); (with_reducible conv => congr <;> reduce)))
        repeat' (first
    | (first
    | ((with_reducible show IfK _ _ _ _); first | refine IfK.ff ?_ | refine IfK.tt ?_ | refine IfK.no (by first | rfl | assumption | exact nf (by assumption) | exact nt (by assumption) | ((try simp only [castN]); first | (simp [e9]; done) | (simp [e9]; omega))) ?_ | refine IfK.yes (by first | rfl | assumption | exact nf (by assumption) | exact nt (by assumption) | ((try simp only [castN]); first | (simp [e9]; done) | (simp [e9]; omega))) ?_)
    | ((with_reducible show NeedK _ _ _ _); refine NeedK.mk (by (try simp only [castN]); omega) ?_)
    | ((with_reducible show DrawK _ _ _ _); refine DrawK.mk (by kernel_rfl) (by kernel_rfl) (by kernel_rfl) ?_)) <;> ((with_reducible conv => whnf); (with_reducible conv => congr <;> reduce); repeat ((first | (with_reducible refine HaltK.mk ?_) | (with_reducible refine StopK.mk ?_)); (with_reducible conv => whnf); (with_reducible conv => congr <;> reduce)))
    | ((with_reducible show (_ ∧ _) ∧ _ ∧ _); refine ⟨⟨rfl, rfl⟩, ?_, ?_⟩ <;> (with_reducible conv => whnf) <;> repeat' (first | (with_reducible exact trivial) | (with_reducible refine And.intro ?_ ?_ <;> with_reducible conv => whnf))))
        refine AppK.take ((st' ++ a7.reverse).map oInt) [eInt a9] ⟨rfl, by simp, by rw [hta, List.map_append (l₂ := spF a7.length), List.take_left' (by simp)]⟩ ⟨rfl, rfl, rfl⟩ rfl (by simp; omega) (by simp; omega) ?_
        ((with_reducible conv => whnf); (with_reducible conv => congr <;> reduce); repeat ((first | (with_reducible refine HaltK.mk ?_) | (with_reducible refine StopK.mk ?_)); (with_reducible conv => whnf); (with_reducible conv => congr <;> reduce)))
        repeat' (first
    | (first
    | ((with_reducible show IfK _ _ _ _); first | refine IfK.ff ?_ | refine IfK.tt ?_ | refine IfK.no (by first | rfl | assumption | exact nf (by assumption) | exact nt (by assumption) | ((try simp only [castN]); first | (simp [e9]; done) | (simp [e9]; omega))) ?_ | refine IfK.yes (by first | rfl | assumption | exact nf (by assumption) | exact nt (by assumption) | ((try simp only [castN]); first | (simp [e9]; done) | (simp [e9]; omega))) ?_)
    | ((with_reducible show NeedK _ _ _ _); refine NeedK.mk (by (try simp only [castN]); omega) ?_)
    | ((with_reducible show DrawK _ _ _ _); refine DrawK.mk (by kernel_rfl) (by kernel_rfl) (by kernel_rfl) ?_)) <;> ((with_reducible conv => whnf); (with_reducible conv => congr <;> reduce); repeat ((first | (with_reducible refine HaltK.mk ?_) | (with_reducible refine StopK.mk ?_)); (with_reducible conv => whnf); (with_reducible conv => congr <;> reduce)))
    | ((with_reducible show (_ ∧ _) ∧ _ ∧ _); refine ⟨⟨rfl, rfl⟩, ?_, ?_⟩ <;> (with_reducible conv => whnf) <;> repeat' (first | (with_reducible exact trivial) | (with_reducible refine And.intro ?_ ?_ <;> with_reducible conv => whnf))))
        refine NextK.mk (out ++ [(k : Int)], st' ++ a7.reverse ++ [a9], []) ⟨?_, ?_⟩ ?_ ?_
        · rw [ho, hpop]; simp
        · intro c hc
          rcases List.mem_append.1 hc with h | h
          · rcases List.mem_append.1 h with h | h
            · exact hst c (by simp [h])
            · exact hkid c (by simp at h; simp [h])
          · exact hkid c (by simp at h; simp [h])
        · simp only [List.length_append, List.length_singleton]; omega
        · refine ⟨⟨rfl, rfl⟩, ?_⟩
          (with_reducible conv => whnf)
          repeat' (first | (with_reducible exact trivial) | (with_reducible refine And.intro ?_ ?_ <;> with_reducible conv => whnf))
          all_goals try rfl
          · simp
          · exact ⟨.refl (noRef_ints _), noRef_ints _⟩
          · simp
          · refine ⟨?_, noRef_ints _⟩
            rw [List.append_nil, List.map_append (l₂ := [a9])]; exact .refl (by rw [← List.map_append]; exact noRef_ints _)
end Go.Proofs.Heir
end
section
set_option linter.unusedSimpArgs false
set_option linter.unusedVariables false
namespace Go.Proofs.Heir
open Go Go.Am Go.RowKit Go.Shelf
set_option maxRecDepth 100000
set_option maxHeartbeats 8000000
theorem int_box {Wn : Nat → Prop} {μ : Mu} {W : World} {n : Int} {b o : Nat} (h : Rep Wn μ W (.fptr (eInt n) 0) (.pointer (some ⟨b, o, none⟩))) : W.cell? ⟨b, o, none⟩ = some (.int .i64 n) := by
  generalize hv : Value.pointer (some ⟨b, o, none⟩) = v at h
  cases h with
  | @fptr _ _ b' o' f h1 h2 h3 h4 h5 =>
    cases hv
    have k3 := h3 0 _ rfl
    have k4 := h4 0 _ rfl
    rw [Nat.add_zero] at k3
    rw [Nat.add_zero, k3, Rep.val k4]
structure NodeAt (Wn : Nat → Prop) (μ : Mu) (W : World) (b o : Nat) (x : NodeM) (vs : List Value) : Prop where
  len : vs.length = 10
  cell : ∀ j v, vs[j]? = some v → W.cell? ⟨b, o + j, none⟩ = some v
  rep : Rep Wn μ W (eNode x) (.agg vs.toArray)
theorem for_box {Wn : Nat → Prop} {μ : Mu} {W : World} {f : ForM} {b o : Nat} (h : Rep Wn μ W (.fptr (eFor f) 0) (.pointer (some ⟨b, o, none⟩))) :
    ∃ ad cap, W.cell? ⟨b, o, none⟩ = some (.slice ad f.nodes.length cap) ∧ W.cell? ⟨b, o + 1, none⟩ = some (.int .i64 f.most) ∧ f.nodes.length ≤ cap ∧ Rep Wn μ W (eFor f) (.agg #[.slice ad f.nodes.length cap, .int .i64 f.most]) ∧
      ∀ (j : Nat) (x : NodeM), f.nodes[j]? = some x → ∃ b2 o2 vs, ad = some ⟨b2, o2, none⟩ ∧ NodeAt Wn μ W b2 (o2 + j * 10) x vs := by
  generalize hv : Value.pointer (some ⟨b, o, none⟩) = v at h
  cases h with
  | @fptr _ _ b' o' g h1 h2 h3 h4 h5 =>
    cases hv
    have k3 := h3 0 _ rfl
    have k4 := h4 0 _ rfl
    have m3 := h3 1 _ rfl
    have m4 := h4 1 _ rfl
    rw [Nat.add_zero] at k3
    rw [Nat.add_zero, k3, m3]
    have hm : g 1 = .int .i64 f.most := Rep.val m4
    rw [hm] at m4 ⊢
    have hag : ∀ v0, Rep Wn μ W (.sl 10 (f.nodes.map oNode)) v0 → Rep Wn μ W (eFor f) (.agg #[v0, .int .i64 f.most]) := by
      intro v0 h0
      refine Rep.agg (vs := [v0, .int .i64 f.most]) rfl ?_
      rintro (_ | _ | j) c v hc hv
      · cases hc; cases hv; exact h0
      · cases hc; cases hv; exact m4
      · simp at hv
    generalize hs : g 0 = s at k4
    have hg := hag s (by rw [← hs]; exact h4 0 _ rfl)
    cases hl : f.nodes with
    | nil =>
      have e : f.nodes.map oNode = [] := by rw [hl]; rfl
      change Rep Wn μ W (.sl 10 (f.nodes.map oNode)) s at k4
      rw [e] at k4
      rw [← hl]
      have hn : f.nodes.length = 0 := by rw [hl]; rfl
      rw [hn]
      cases k4 with
      | slNil => exact ⟨_, _, rfl, rfl, Nat.zero_le _, hg, fun j x h => by rw [hl] at h; simp at h⟩
      | sl a1 a2 a3 a4 a5 a6 a7 a8 => subst a3; exact ⟨_, _, rfl, rfl, Nat.zero_le _, hg, fun j x h => by rw [hl] at h; simp at h⟩
    | cons y r =>
      rw [← hl]
      change Rep Wn μ W (.sl 10 (f.nodes.map oNode)) s at k4
      generalize hrows : f.nodes.map oNode = rows at k4
      have hne : rows ≠ [] := by rw [← hrows, hl]; simp
      cases k4 with
      | slNil => exact absurd rfl hne
      | @sl _ _ b2 o2 cap _ fv a1 a2 a3 a4 a5 a6 a7 a8 =>
        subst a3
        have hlen : rows.length = f.nodes.length := by rw [← hrows]; simp
        rw [hlen] at hg a4 ⊢
        refine ⟨_, _, rfl, rfl, a4, hg, fun j x hx => ⟨b2, o2, (List.range 10).map fun q => fv (j * 10 + q), rfl, ?_⟩⟩
        have hr : rows[j]? = some (oNode x) := by rw [← hrows, List.getElem?_map, hx]; rfl
        have hq : ∀ q c, (cells (oNode x))[q]? = some c → (flat rows)[j * 10 + q]? = some c := fun q c hc => flat_get (wd := 10) (fun i r hr => a5 i r hr) hr hc
        have hcl : (cells (oNode x)).length = 10 := a5 j _ hr
        refine ⟨by simp, fun q v hv => ?_, ?_⟩
        · have hq10 : q < 10 := by have := (List.getElem?_eq_some_iff.1 hv).1; simpa using this
          obtain ⟨c, hc⟩ : ∃ c, (cells (oNode x))[q]? = some c := ⟨_, List.getElem?_eq_getElem (by omega)⟩
          have := a6 _ _ (hq q c hc)
          rw [Nat.add_assoc, this]
          rw [List.getElem?_map, List.getElem?_range hq10] at hv
          simpa using hv
        · refine Rep.agg (by simp) fun q c v hc hv => ?_
          have hq10 : q < 10 := by have := (List.getElem?_eq_some_iff.1 hv).1; simpa using this
          rw [List.getElem?_map, List.getElem?_range hq10] at hv
          have hv' : fv (j * 10 + q) = v := by simpa using hv
          rw [← hv']
          refine a7 _ _ (hq q c ?_)
          exact hc
end Go.Proofs.Heir
end
section
set_option linter.unusedSimpArgs false
set_option linter.unusedVariables false
namespace Go.Proofs.Heir
open Go Go.Am Go.RowKit Go.Shelf
set_option maxRecDepth 100000
set_option maxHeartbeats 8000000
theorem ints_at {Wn : Nat → Prop} {μ : Mu} {W : World} {l : List Int} {v : Value} (h : Rep Wn μ W (.sl 1 (l.map oInt)) v) :
    ∃ ad cap, v = .slice ad l.length cap ∧ l.length ≤ cap ∧ ∀ (j : Nat) (x : Int), l[j]? = some x → ∃ b2 o2, ad = some ⟨b2, o2, none⟩ ∧ ¬ Wn b2 ∧ b2 < W.heap.size ∧ W.cell? ⟨b2, o2 + j, none⟩ = some (.int .i64 x) := by
  cases hl : l with
  | nil =>
    subst hl
    cases h with
    | slNil => exact ⟨_, _, rfl, Nat.zero_le _, fun j x h => by simp at h⟩
    | sl a1 a2 a3 a4 a5 a6 a7 a8 => subst a3; exact ⟨_, _, rfl, Nat.zero_le _, fun j x h => by simp at h⟩
  | cons y r =>
    rw [← hl]
    generalize hrows : l.map oInt = rows at h
    have hne : rows ≠ [] := by rw [← hrows, hl]; simp
    cases h with
    | slNil => exact absurd rfl hne
    | sl a1 a2 a3 a4 a5 a6 a7 a8 =>
      subst a3
      have hlen : rows.length = l.length := by rw [← hrows]; simp
      refine ⟨_, _, by rw [hlen], by rw [← hlen]; exact a4, fun j x hx => ⟨_, _, rfl, a1, a2, ?_⟩⟩
      have hr : rows[j]? = some (oInt x) := by rw [← hrows, List.getElem?_map, hx]; rfl
      have hq := flat_get (wd := 1) (fun i r hr => a5 i r hr) hr (show (cells (oInt x))[0]? = some (oInt x) from rfl)
      rw [Nat.mul_one, Nat.add_zero] at hq
      have c1 := a6 j _ hq
      have c2 := a7 j _ hq
      have one : ∀ v, Rep Wn μ W (oInt x) v → v = .int .i64 x := by intro v hv; unfold oInt at hv; cases hv; rfl
      rw [c1, one _ c2]
theorem FnOK.at {P : Program} {f : FuncId} {args : List AV} {vs : List Value} {res : AV} {w : World} {Wn : Nat → Prop} {μ : Mu} (h : FnOK P f [] args [] res) (ha : noRefL args = true) (hr : noRef res = true) (hv : RepL Wn μ w args vs) (hlt : ∀ b, Wn b → b < w.heap.size) (ht : Tabs P w fun _ => none) :
    Calls P f vs.toArray w fun e w' => ∃ v μ', e = .returned v ∧ More w w' ∧ Rep Wn μ' w' res v := by
  have hW : ∀ b, Wr Wn (fun _ => none) (objsOf []) b → Wn b := by
    rintro b (h | ⟨t, B, wd, rows, _, h, _⟩)
    · exact h
    · cases h
  have hs : Sim P 0 w Wn (fun _ => none) (fun _ => none) (bare []) noAct w := by
    refine ⟨rfl, .nil, rfl, rfl, rfl, Nat.le_refl _, fun _ _ _ h => h, fun _ _ _ => rfl, hlt, fun _ _ _ h => h, fun t => by simp [bare, objsOf], fun _ => .any, fun t wd rows ro h => ?_, fun t t' wd rows wd' rows' ro' B B' _ h => ?_, fun t wd rows ro B h => ?_, ht⟩ <;> simp [bare, objsOf] at h
  refine (h w Wn (fun _ => none) vs (fun _ _ => rfl) hs ?_).mono ?_
  · exact ⟨hv.1, fun j c v hc hv' => (hv.2 j c v hc hv').noRef (fun b _ hb => hW b hb) (noRefL_iff.1 ha c (List.mem_of_getElem? hc))⟩
  rintro e w' ⟨v, μ', rfl, hs', hv'⟩
  refine ⟨v, μ', rfl, ⟨hs'.os, hs'.tape, hs'.output, hs'.hsize, fun b hb => hs'.keep b hb ?_⟩, hv'.noRef (fun b _ hb => .inl hb) hr⟩
  rintro ⟨t, B, h, _⟩
  cases h
theorem list10 {α : Type} : ∀ {l : List α}, l.length = 10 → ∃ a b c d e f g h i j, l = [a, b, c, d, e, f, g, h, i, j]
  | [a, b, c, d, e, f, g, h, i, j], _ => ⟨a, b, c, d, e, f, g, h, i, j, rfl⟩
theorem sl_val {Wn : Nat → Prop} {μ : Mu} {W : World} {wd : Nat} {rows : List AV} {v : Value} (h : Rep Wn μ W (.sl wd rows) v) : ∃ a n c, v = .slice a n c := by
  cases h <;> exact ⟨_, _, _, rfl⟩
theorem node_vals {Wn : Nat → Prop} {μ : Mu} {W : World} {x : NodeM} {v0 v1 v2 v3 v4 v5 v6 v7 v8 v9 : Value} (h : Rep Wn μ W (eNode x) (.agg [v0, v1, v2, v3, v4, v5, v6, v7, v8, v9].toArray)) :
    v0 = .int .i64 x.kind ∧ v1 = .string x.name ∧ v2 = .string x.is ∧ v3 = .string x.data ∧ (∃ a n c, v4 = .slice a n c) ∧ v5 = .int .i64 x.parent ∧ (∃ a n c, v6 = .slice a n c) ∧ v7 = .int .i64 x.host ∧ v8 = .int .i64 x.under ∧ v9 = .int .i64 x.doc := by
  generalize hw : Value.agg [v0, v1, v2, v3, v4, v5, v6, v7, v8, v9].toArray = w0 at h
  cases h with
  | agg h1 h2 =>
    have e := congrArg (fun x => match x with | Value.agg a => a.toList | _ => []) hw
    simp only at e
    subst e
    exact ⟨(h2 0 _ _ rfl rfl).val, (h2 1 _ _ rfl rfl).val, (h2 2 _ _ rfl rfl).val, (h2 3 _ _ rfl rfl).val, sl_val (h2 4 _ _ rfl rfl), (h2 5 _ _ rfl rfl).val, sl_val (h2 6 _ _ rfl rfl), (h2 7 _ _ rfl rfl).val, (h2 8 _ _ rfl rfl).val, (h2 9 _ _ rfl rfl).val⟩
def elemsU (l : List NodeM) (ms : List Int) : List Int := ms.filter fun c => decide ((nd l c).kind = 1)
theorem elemsU_step {l : List NodeM} {ms : List Int} {j : Nat} {c : Int} (hc : ms[j]? = some c) : elemsU l (ms.take (j + 1)) = elemsU l (ms.take j) ++ (if (nd l c).kind = 1 then [c] else []) := by
  unfold elemsU
  rw [List.take_add_one, hc, List.filter_append]
  congr 1
  show List.filter _ [c] = _
  rw [List.filter_cons]
  by_cases h : (nd l c).kind = 1
  · rw [if_pos (decide_eq_true h), if_pos h]; rfl
  · rw [if_neg (by rw [decide_eq_false h]; simp), if_neg h]; rfl
theorem elemsU_get {l : List NodeM} {ms : List Int} {j : Nat} {c : Int} (hc : ms[j]? = some c) (hk : (nd l c).kind = 1) : (elemsU l ms)[(elemsU l (ms.take j)).length]? = some c := by
  have h1 : elemsU l ms = elemsU l (ms.take (j + 1)) ++ elemsU l (ms.drop (j + 1)) := by
    unfold elemsU; rw [← List.filter_append, List.take_append_drop]
  rw [h1, elemsU_step hc, if_pos hk, List.append_assoc, List.getElem?_append_right (Nat.le_refl _), Nat.sub_self]; rfl
theorem more_cell {w w' : World} (h : More w w') {b o : Nat} {v : Value} (hc : w.cell? ⟨b, o, none⟩ = some v) : w'.cell? ⟨b, o, none⟩ = some v := by
  rw [World.cell?_of_block (h.blk b (World.block_lt_of_cell? w _ hc)), hc]
theorem each_it (f : ForM) (n : Int) (ms : List Int) (hl : ms.length ≤ 100000) (hth : ∀ c ∈ ms, thereN f.nodes c = true) (h80 : FnOK Tryd.prog 21 [] [eFor f, eInt n] [] (eInts ms)) (c21 : Callable Tryd.prog 21) :
    ItOK Tryd.prog 38 [.fptr (eFor f) 0, .fptr (eInt n) 0] (elemsU f.nodes ms).length (fun k => [oInt (((elemsU f.nodes ms)[k]?).getD 0), eNode (nd f.nodes (((elemsU f.nodes ms)[k]?).getD 0))]) := by
  intro vals y J Jx hJ hJm hJxm hJlt hY Wn w h0
  obtain ⟨⟨μ, hr⟩, htab⟩ := hJ 0 Wn w h0
  obtain ⟨vb, us, rfl, hvb, hus⟩ := RepL.uncons hr
  obtain ⟨vc, us', rfl, hvc, hus'⟩ := RepL.uncons hus
  obtain rfl := RepL.unnil hus'
  obtain ⟨b, o, rfl⟩ : ∃ b o, vb = .pointer (some ⟨b, o, none⟩) := by cases hvb; exact ⟨_, _, rfl⟩
  obtain ⟨b', o', rfl⟩ : ∃ b o, vc = .pointer (some ⟨b, o, none⟩) := by cases hvc; exact ⟨_, _, rfl⟩
  have hi := int_box hvc
  obtain ⟨ad, cap, hb0, hb1, hcap, hfr, hel⟩ := for_box hvb
  refine (callsIn_wide (n := 1)).1 ?_
  refine callsIn_of_wp Tryd.func38 rfl trivial ?_ rfl
  simp only [Tryd.ntmps38, List.size_toArray, List.length_cons, List.length_nil, Nat.reduceAdd, Nat.reduceSub, Array.replicate_succ, Array.replicate_zero, List.push_toArray, List.append_toArray, List.nil_append, List.cons_append]
  gi_wp2
  refine ⟨trivial, (callsIn_wide (n := 0)).2 ((FnOK.at (μ := μ) h80 rfl rfl (.cons hfr (.cons (by rw [eInt]; exact .lit) .nil)) (hJlt 0 Wn w h0) htab).mono ?_)⟩
  rintro e w1 ⟨v, μ1, rfl, hm1, hv1⟩
  obtain ⟨ad2, cap2, rfl, hcap2, hl2⟩ := ints_at hv1
  have h1 := hJm 0 Wn w w1 h0 hm1
  gi_wp2
  gi_loopw [11] (fun i wr => ∃ j : Nat, j ≤ ms.length ∧ i = .int .i64 (j : Int) ∧ ∃ Wn', J (elemsU f.nodes (ms.take j)).length Wn' wr ∧ ∀ (j : Nat) (x : Int), ms[j]? = some x → ∃ b2 o2, ad2 = some ⟨b2, o2, none⟩ ∧ ¬ Wn' b2 ∧ b2 < wr.heap.size ∧ wr.cell? ⟨b2, o2 + j, none⟩ = some (.int .i64 x)) (fun i _ => ms.length - (intOf i).toNat)
  case atStart => exact ⟨0, Nat.zero_le _, rfl, Wn, h1, hl2⟩
  case round =>
    obtain ⟨j, hj, rfl, Wn', hJk, hls⟩ := hrel
    by_cases hlt : j < ms.length
    · obtain ⟨c, hc⟩ : ∃ c, ms[j]? = some c := ⟨_, List.getElem?_eq_getElem hlt⟩
      obtain ⟨b2, o2, rfl, hnb2, hb2, hcell⟩ := hls j c hc
      obtain ⟨i, x, rfl, hx, hnx⟩ := there_iff.1 (hth c (List.mem_of_getElem? hc))
      obtain ⟨⟨μk, hrk⟩, _⟩ := hJ _ Wn' wr hJk
      obtain ⟨vb, us, e, hvb', hus⟩ := RepL.uncons hrk
      cases e
      obtain ⟨ad3, cap3, hb0', hb1', hcap', hfr', hel'⟩ := for_box hvb'
      obtain ⟨b3, o3, vs, rfl, hna⟩ := hel' i x hx
      have hi' : i < f.nodes.length := (List.getElem?_eq_some_iff.1 hx).1
      obtain ⟨v0, v1, v2, v3, v4, v5, v6, v7, v8, v9, rfl⟩ := list10 hna.len
      have q0 := hna.cell 0 _ rfl
      have q1 := hna.cell 1 _ rfl
      have q2 := hna.cell 2 _ rfl
      have q3 := hna.cell 3 _ rfl
      have q4 := hna.cell 4 _ rfl
      have q5 := hna.cell 5 _ rfl
      have q6 := hna.cell 6 _ rfl
      have q7 := hna.cell 7 _ rfl
      have q8 := hna.cell 8 _ rfl
      have q9 := hna.cell 9 _ rfl
      have hrep := hna.rep
      obtain ⟨rfl, rfl, rfl, rfl, ⟨p4, n4, c4, rfl⟩, rfl, ⟨p6, n6, c6, rfl⟩, rfl, rfl, rfl⟩ := node_vals hrep
      rw [Nat.add_zero] at q0
      obtain ⟨wA, hwA⟩ : ∃ wA, wA = wr.alloc (.cells #[.int .i64 x.kind, .string x.name, .string x.is, .string x.data, .slice p4 n4 c4, .int .i64 x.parent, .slice p6 n6 c6, .int .i64 x.host, .int .i64 x.under, .int .i64 x.doc] 44) := ⟨_, rfl⟩
      have hmA : More wr wA := by rw [hwA]; exact More.alloc _
      have hJA := hJm _ Wn' wr wA hJk hmA
      have hst := elemsU_step (l := f.nodes) hc
      by_cases hk : x.kind = 1
      · have hge := elemsU_get (l := f.nodes) hc (by rw [hnx]; exact hk)
        rw [hnx, if_pos hk] at hst
        have hkl : (elemsU f.nodes (ms.take j)).length < (elemsU f.nodes ms).length := (List.getElem?_eq_some_iff.1 hge).1
        obtain ⟨fn, tmps, assign, body, hy, hR⟩ := hY _ Wn' wA [.int .i64 i, .agg #[.int .i64 x.kind, .string x.name, .string x.is, .string x.data, .slice p4 n4 c4, .int .i64 x.parent, .slice p6 n6 c6, .int .i64 x.host, .int .i64 x.under, .int .i64 x.doc]] hkl hJA (fun Wn'' μ'' hrA => by
          obtain ⟨vbA, usA, eA, hvbA, _⟩ := RepL.uncons hrA
          cases eA
          obtain ⟨adA, capA, hA0, hA1, _, _, helA⟩ := for_box hvbA
          rw [more_cell hmA hb0'] at hA0
          cases hA0
          obtain ⟨bA, oA, vsA, eA, hnaA⟩ := helA i x hx
          cases eA
          have hvs : vsA = [.int .i64 x.kind, .string x.name, .string x.is, .string x.data, .slice p4 n4 c4, .int .i64 x.parent, .slice p6 n6 c6, .int .i64 x.host, .int .i64 x.under, .int .i64 x.doc] := by
            refine List.ext_getElem? fun q => ?_
            rcases Nat.lt_or_ge q 10 with hq | hq
            · obtain ⟨v, hv⟩ : ∃ v, vsA[q]? = some v := ⟨_, List.getElem?_eq_getElem (by rw [hnaA.len]; exact hq)⟩
              obtain ⟨u, hu⟩ : ∃ u, [Value.int .i64 x.kind, .string x.name, .string x.is, .string x.data, .slice p4 n4 c4, .int .i64 x.parent, .slice p6 n6 c6, .int .i64 x.host, .int .i64 x.under, .int .i64 x.doc][q]? = some u := ⟨_, List.getElem?_eq_getElem (by simpa using hq)⟩
              have e1 := hnaA.cell q v hv
              rw [more_cell hmA (hna.cell q u hu)] at e1
              rw [hv, hu]; exact e1.symm
            · rw [List.getElem?_eq_none (by rw [hnaA.len]; exact hq), List.getElem?_eq_none (by simpa using hq)]
          rw [hge, Option.getD_some, hnx]
          have hrepA := hnaA.rep
          rw [hvs] at hrepA
          exact .cons .lit (.cons hrepA .nil))
        subst hwA
        rw [hk] at hy hR hmA
        gi_wp2
        refine hR.mono ?_
        rintro e W3 (⟨rfl, Wn3, hJ3, hkp⟩ | ⟨rfl, hJx3⟩)
        · gi_wp2
          go_roundw
          case rel =>
            refine ⟨j + 1, by omega, by congr 1, Wn3, by rw [hst, List.length_append]; exact hJ3, ?_⟩
            intro j' x' hx'
            obtain ⟨b5, o5, e5, h51, h52, h53⟩ := hls j' x' hx'
            have hlA : b5 < (wr.alloc _).heap.size := Nat.lt_of_lt_of_le h52 hmA.size
            refine ⟨b5, o5, e5, fun h => h51 (hkp.2.2 b5 hlA h), Nat.lt_of_lt_of_le hlA hkp.1, ?_⟩
            rw [World.cell?_of_block (hkp.2.1 b5 hlA h51)]
            exact more_cell hmA h53
          case measure => simp [intOf]; omega
        · gi_wp2
          refine bodyPost_ret (results_none rfl _ _ _) rfl ?_
          exact ⟨⟨_, rfl⟩, .inr hJx3⟩
      · rw [hnx, if_neg hk, List.append_nil] at hst
        have hk' : (x.kind == 1) = false := by simpa using hk
        subst hwA
        gi_wp2
        refine ⟨fun _ h => (by cases h), ?_⟩
        gi_wp2
        go_roundw
        case rel =>
          refine ⟨j + 1, by omega, by congr 1, Wn', by rw [hst]; exact hJA, ?_⟩
          intro j' x' hx'
          obtain ⟨b5, o5, e5, h51, h52, h53⟩ := hls j' x' hx'
          exact ⟨b5, o5, e5, h51, Nat.lt_of_lt_of_le h52 hmA.size, more_cell hmA h53⟩
        case measure => simp [intOf]; omega
    · obtain rfl : j = ms.length := by omega
      gi_wp2
      go_end0
      rw [List.take_length] at hJk
      exact ⟨⟨_, rfl⟩, .inl ⟨_, hJk⟩⟩
end Go.Proofs.Heir
end
section
set_option linter.unusedSimpArgs false
set_option linter.unusedVariables false
namespace Go.Proofs.Heir
open Go.Am Go.RowKit Go.Lib
structure DefM where
  name : ByteArray
  locl : ByteArray
  cls : Int
  deriving DecidableEq
structure WaitM where
  name : ByteArray
  ticket : Int
  deriving DecidableEq
structure DeskM where
  defs : List DefM
  waits : List WaitM
  next : Int
  busy : Bool
  deriving DecidableEq
def knowS (s : ByteArray) : Bool := hasW knowL s
def localB (x : DefM) : Bool := decide (x.locl = x.name) || knowS x.locl
def goodD (x : DefM) : Bool := customS x.name && localB x && decide (0 ≤ x.cls) && decide (x.cls < 12)
def hasN (s : ByteArray) (x : DefM) : Bool := decide (x.name = s)
def ixI {α : Type} (p : α → Bool) (l : List α) : Int := match l.findIdx? p with
  | some k => (k : Int)
  | none => -1
def posN (l : List DefM) (s : ByteArray) : Int := ixI (hasN s) l
def okW (l : List DefM) (next : Int) (w : WaitM) (last : Int) : Bool := customS w.name && decide (posN l w.name = -1) && decide (last < w.ticket) && decide (w.ticket < next)
def waitsB (l : List DefM) (next : Int) : Int → List WaitM → Bool
  | _, [] => true
  | last, w :: r => okW l next w last && waitsB l next w.ticket r
def defsB (l : List DefM) : Bool := l.all goodD && decide ((l.map DefM.name).Nodup) && decide ((l.map DefM.cls).Nodup)
def rightD (d : DeskM) : Bool := defsB d.defs && waitsB d.defs d.next (-1) d.waits && decide (0 ≤ d.next) && decide (d.next ≤ 100000)
theorem ixI_cases {α : Type} (p : α → Bool) (l : List α) : (ixI p l = -1 ∧ ∀ a ∈ l, p a = false) ∨ ∃ (k : Nat) (a : α), ixI p l = k ∧ l[k]? = some a ∧ p a = true ∧ ∀ (j : Nat) (b : α), j < k → l[j]? = some b → p b = false := by
  unfold ixI
  cases h : l.findIdx? p with
  | none => exact .inl ⟨rfl, by simpa using h⟩
  | some k =>
    rw [List.findIdx?_eq_some_iff_getElem] at h
    obtain ⟨hk, h1, h2⟩ := h
    refine .inr ⟨k, l[k], rfl, List.getElem?_eq_getElem hk, h1, fun j b hj hb => ?_⟩
    obtain ⟨hjl, rfl⟩ := List.getElem?_eq_some_iff.1 hb
    simpa using h2 j hj
theorem ixI_neg {α : Type} {p : α → Bool} {l : List α} (h : ixI p l = -1) : ∀ a ∈ l, p a = false := by
  rcases ixI_cases p l with ⟨_, h1⟩ | ⟨j, b, h1, _⟩
  · exact h1
  · omega
theorem nodup_ix {α β : Type} [DecidableEq β] {f : α → β} {l : List α} (h : (l.map f).Nodup) {i j : Nat} {a b : α} (ha : l[i]? = some a) (hb : l[j]? = some b) (e : f a = f b) : i = j := by
  have h1 : (l.map f)[i]? = some (f a) := by rw [List.getElem?_map, ha]; rfl
  have h2 : (l.map f)[j]? = some (f b) := by rw [List.getElem?_map, hb]; rfl
  exact (List.getElem?_inj (List.getElem?_eq_some_iff.1 h1).1 h).1 (by rw [h1, h2, e])
theorem defsB_iff {l : List DefM} : defsB l = true ↔ (∀ x ∈ l, goodD x = true) ∧ (l.map DefM.name).Nodup ∧ (l.map DefM.cls).Nodup := by
  unfold defsB; simp [List.all_eq_true, and_assoc]
def fitL (a b : ByteArray) (x : DefM) : Bool := decide (x.locl = a) && decide (x.name = b)
def findR (l : List DefM) (a b : ByteArray) : Int := if 0 ≤ ixI (fitL a a) l then ixI (fitL a a) l else ixI (fitL a b) l
def findD (d : DeskM) (a b : ByteArray) : Int := if rightD d then findR d.defs a b else -1
end Go.Proofs.Heir
end
section
set_option linter.unusedSimpArgs false
set_option linter.unusedVariables false
namespace Go.Proofs.Heir
open Go.Am Go.RowKit Go.Lib
theorem rightD_iff {d : DeskM} : rightD d = true ↔ defsB d.defs = true ∧ waitsB d.defs d.next (-1) d.waits = true ∧ 0 ≤ d.next ∧ d.next ≤ 100000 := by
  unfold rightD; simp [and_assoc]
def fitsB (a b : ByteArray) (x : DefM) : Bool := decide (x.locl = a) && (decide (x.name = a) || decide (x.name = b))
theorem fitsB_iff {a b : ByteArray} {x : DefM} : fitsB a b x = true ↔ x.locl = a ∧ (x.name = a ∨ x.name = b) := by unfold fitsB; simp
theorem goodD_facts {x : DefM} (h : goodD x = true) : customS x.name = true ∧ (x.locl = x.name ∨ knowS x.locl = true) ∧ 0 ≤ x.cls ∧ x.cls < 12 := by
  unfold goodD localB at h; simp only [Bool.and_eq_true, Bool.or_eq_true, decide_eq_true_eq] at h
  exact ⟨h.1.1.1, h.1.1.2, h.1.2, h.2⟩
theorem know_no {s : ByteArray} (h : customS s = true) : knowS s = false := by
  cases hk : knowS s with
  | false => rfl
  | true => rw [know_uncustom hk] at h; cases h
theorem fit_uniq {l : List DefM} (h : defsB l = true) {i j : Nat} {x y : DefM} {a b : ByteArray} (hx : l[i]? = some x) (hy : l[j]? = some y) (fx : fitsB a b x = true) (fy : fitsB a b y = true) : i = j := by
  obtain ⟨h1, h2, h3⟩ := defsB_iff.1 h
  obtain ⟨x1, x2, _⟩ := goodD_facts (h1 x (List.mem_of_getElem? hx))
  obtain ⟨y1, y2, _⟩ := goodD_facts (h1 y (List.mem_of_getElem? hy))
  obtain ⟨p1, p2⟩ := fitsB_iff.1 fx
  obtain ⟨q1, q2⟩ := fitsB_iff.1 fy
  by_cases e : x.name = y.name
  · exact nodup_ix h2 hx hy e
  · exfalso
    have ka : knowS a = true := by
      rcases x2 with x2 | x2
      · rcases y2 with y2 | y2
        · exact absurd (by rw [← x2, ← y2, p1, q1]) e
        · rwa [q1] at y2
      · rwa [p1] at x2
    rcases p2 with p2 | p2
    · rw [p2] at x1; rw [know_no x1] at ka; cases ka
    · rcases q2 with q2 | q2
      · rw [q2] at y1; rw [know_no y1] at ka; cases ka
      · exact e (by rw [p2, q2])
theorem findR_cases (l : List DefM) (a b : ByteArray) : (findR l a b = -1 ∧ ∀ x ∈ l, fitsB a b x = false) ∨ ∃ (k : Nat) (x : DefM), findR l a b = k ∧ l[k]? = some x ∧ fitsB a b x = true := by
  unfold findR
  rcases ixI_cases (fitL a a) l with ⟨h1, h2⟩ | ⟨k, x, h1, h2, h3, _⟩
  · rw [h1, if_neg (by omega)]
    rcases ixI_cases (fitL a b) l with ⟨g1, g2⟩ | ⟨k, x, g1, g2, g3, _⟩
    · refine .inl ⟨g1, fun x hx => ?_⟩
      have u1 := h2 x hx
      have u2 := g2 x hx
      unfold fitL at u1 u2
      unfold fitsB
      cases e : decide (x.locl = a) with
      | false => rfl
      | true => rw [e] at u1 u2; simp only [Bool.true_and] at u1 u2; rw [u1, u2]; rfl
    · refine .inr ⟨k, x, g1, g2, ?_⟩
      unfold fitL at g3; unfold fitsB
      simp only [Bool.and_eq_true] at g3 ⊢
      exact ⟨g3.1, by rw [g3.2]; simp⟩
  · rw [h1, if_pos (by omega)]
    refine .inr ⟨k, x, rfl, h2, ?_⟩
    unfold fitL at h3; unfold fitsB
    simp only [Bool.and_eq_true] at h3 ⊢
    exact ⟨h3.1, by rw [h3.2]; rfl⟩
theorem findR_at {l : List DefM} (h : defsB l = true) {k : Nat} {x : DefM} {a b : ByteArray} (hx : l[k]? = some x) (hf : fitsB a b x = true) : findR l a b = k := by
  rcases findR_cases l a b with ⟨_, h2⟩ | ⟨j, y, h1, h2, h3⟩
  · rw [h2 x (List.mem_of_getElem? hx)] at hf; cases hf
  · rw [h1, fit_uniq h h2 hx h3 hf]
theorem findR_iff {l : List DefM} (h : defsB l = true) {k : Nat} {x : DefM} {a b : ByteArray} (hx : l[k]? = some x) : findR l a b = (k : Int) ↔ fitsB a b x = true := by
  refine ⟨fun he => ?_, findR_at h hx⟩
  rcases findR_cases l a b with ⟨h1, _⟩ | ⟨j, y, h1, h2, h3⟩
  · omega
  · have : j = k := by omega
    subst this
    rw [hx] at h2; cases h2; exact h3
theorem posN_no {l : List DefM} {s : ByteArray} (h : posN l s = -1) : ∀ x ∈ l, x.name ≠ s := fun x hx => by
  have := ixI_neg h x hx
  unfold hasN at this
  exact of_decide_eq_false this
end Go.Proofs.Heir
end
section
set_option linter.unusedSimpArgs false
set_option linter.unusedVariables false
namespace Go.Proofs.Heir
open Go.Am Go.RowKit Go.Lib
def xk (k : Nat) : ByteArray := ⟨#[120, 45, UInt8.ofNat (97 + k)]⟩
structure TellInv (d : DeskM) (i : Nat) : Prop where
  right : rightD d = true
  busy : d.busy = false
  names : ∀ w ∈ d.waits, ∃ k < 6, w.name = xk k
  next : d.next ≤ i
theorem TellInv.first : TellInv ⟨[], [], 0, false⟩ 0 := ⟨by decide, rfl, fun w h => by simp at h, by decide⟩
end Go.Proofs.Heir
end
section
set_option linter.unusedSimpArgs false
set_option linter.unusedVariables false
namespace Go.Proofs.Heir
open Go.Am Go.RowKit Go.Lib
section
variable {K : Type} [DecidableEq K] (key : DefM → K)
def ixFrom (i : Nat) (t : List (K × Int)) : List DefM → List (K × Int)
  | [] => t
  | x :: r => ixFrom (i + 1) (tput (key x) (i : Int) t) r
def ixT (l : List DefM) : List (K × Int) := ixFrom key 0 [] l
theorem ixFrom_snoc (x : DefM) : ∀ (l : List DefM) (i : Nat) (t : List (K × Int)), ixFrom key i t (l ++ [x]) = tput (key x) ((i + l.length : Nat) : Int) (ixFrom key i t l)
  | [], i, t => rfl
  | y :: r, i, t => by
    rw [List.cons_append, ixFrom, ixFrom_snoc x r, ixFrom, List.length_cons]
    congr 2
    omega
theorem ixT_snoc {l : List DefM} {k : Nat} {x : DefM} (h : l[k]? = some x) : ixT key (l.take (k + 1)) = tput (key x) (k : Int) (ixT key (l.take k)) := by
  have hk := (List.getElem?_eq_some_iff.1 h).1
  rw [List.take_succ_eq_append_getElem hk, (List.getElem?_eq_some_iff.1 h).2]
  unfold ixT
  rw [ixFrom_snoc, List.length_take]
  congr 2
  omega
theorem tputI_len (k : K) (x : Int) : ∀ t : List (K × Int), (tput k x t).length = if (tget k t).isSome then t.length else t.length + 1
  | [] => rfl
  | p :: r => by
    simp only [tput, tget]
    split
    · simp
    · rw [List.length_cons, tputI_len k x r]; split <;> simp
theorem ixFrom_len : ∀ (l : List DefM) (i : Nat) (t : List (K × Int)), (ixFrom key i t l).length ≤ t.length + l.length ∧ ((ixFrom key i t l).length = t.length + l.length ↔ (l.map key).Nodup ∧ ∀ a ∈ l, (tget (key a) t).isSome = false)
  | [], i, t => by simp [ixFrom]
  | a :: r, i, t => by
    obtain ⟨h1, h2⟩ := ixFrom_len r (i + 1) (tput (key a) (i : Int) t)
    have hl := tputI_len (key a) (i : Int) t
    show (ixFrom key (i + 1) (tput (key a) (i : Int) t) r).length ≤ _ ∧ ((ixFrom key (i + 1) (tput (key a) (i : Int) t) r).length = _ ↔ _)
    cases hg : (tget (key a) t).isSome with
    | true =>
      rw [hg, if_pos rfl] at hl
      refine ⟨by simp only [List.length_cons]; omega, ⟨fun h => ?_, fun h => ?_⟩⟩
      · simp only [List.length_cons] at h; omega
      · have := h.2 a (by simp); rw [hg] at this; cases this
    | false =>
      rw [hg, if_neg (by simp)] at hl
      refine ⟨by simp only [List.length_cons]; omega, ?_⟩
      rw [show (ixFrom key (i + 1) (tput (key a) (i : Int) t) r).length = t.length + (a :: r).length ↔ (ixFrom key (i + 1) (tput (key a) (i : Int) t) r).length = (tput (key a) (i : Int) t).length + r.length from by rw [hl, List.length_cons]; omega, h2]
      simp only [List.map_cons, List.nodup_cons, List.mem_cons, forall_eq_or_imp]
      constructor
      · rintro ⟨k1, k2⟩
        refine ⟨⟨fun hm => ?_, k1⟩, hg, fun b hb => ?_⟩
        · obtain ⟨b, hb, he⟩ := List.mem_map.1 hm
          have := k2 b hb
          rw [tget_put, he, if_pos rfl] at this; cases this
        · have := k2 b hb
          rw [tget_put] at this
          split at this
          · cases this
          · exact this
      · rintro ⟨⟨k1, k2⟩, _, k3⟩
        refine ⟨k2, fun b hb => ?_⟩
        rw [tget_put, if_neg (fun e => k1 (List.mem_map.2 ⟨b, hb, e.symm⟩))]
        exact k3 b hb
theorem ixT_len (l : List DefM) : (ixT key l).length = l.length ↔ (l.map key).Nodup := by
  have := (ixFrom_len key l 0 []).2
  simp only [List.length_nil, Nat.zero_add] at this
  exact this.trans ⟨fun h => h.1, fun h => ⟨h, fun _ _ => rfl⟩⟩
theorem ixT_le (l : List DefM) : (ixT key l).length ≤ l.length := by
  have := (ixFrom_len key l 0 []).1
  simp only [List.length_nil, Nat.zero_add] at this
  exact this
theorem ixFrom_miss {s : K} : ∀ (l : List DefM) (i : Nat) (t : List (K × Int)), (∀ a ∈ l, key a ≠ s) → tget s (ixFrom key i t l) = tget s t
  | [], i, t, _ => rfl
  | a :: r, i, t, h => by
    rw [ixFrom, ixFrom_miss r (i + 1) _ fun b hb => h b (List.mem_cons_of_mem _ hb), tget_put, if_neg (h a (List.mem_cons_self ..))]
theorem ixFrom_hit {s : K} : ∀ (l : List DefM) (i : Nat) (t : List (K × Int)) (j : Nat) (a : DefM), (l.map key).Nodup → l[j]? = some a → key a = s → tget s (ixFrom key i t l) = some ((i + j : Nat) : Int)
  | [], i, t, j, a, _, h, _ => by simp at h
  | x :: r, i, t, 0, a, hn, h, he => by
    simp at h; subst h
    simp only [List.map_cons, List.nodup_cons] at hn
    rw [ixFrom, ixFrom_miss key r (i + 1) _ fun b hb e => hn.1 (List.mem_map.2 ⟨b, hb, e.trans he.symm⟩), tget_put, if_pos he]
    rfl
  | x :: r, i, t, j + 1, a, hn, h, he => by
    simp only [List.map_cons, List.nodup_cons] at hn
    rw [ixFrom, ixFrom_hit r (i + 1) _ j a hn.2 (by simpa using h) he]
    congr 1; omega
theorem ixT_miss {l : List DefM} {s : K} (h : ∀ a ∈ l, key a ≠ s) : tget s (ixT key l) = none := ixFrom_miss key l 0 [] h
theorem ixT_hit {l : List DefM} {s : K} {j : Nat} {a : DefM} (hn : (l.map key).Nodup) (h : l[j]? = some a) (he : key a = s) : tget s (ixT key l) = some (j : Int) := by
  have := ixFrom_hit key l 0 [] j a hn h he
  simpa [ixT] using this
end
def kN (x : DefM) : ByteArray := x.name
def kC (x : DefM) : Int := x.cls
theorem tgetN {l : List DefM} (h : (l.map DefM.name).Nodup) (s : ByteArray) : (tget s (ixT kN l) = none ∧ posN l s = -1) ∨ ∃ (k : Nat) (x : DefM), tget s (ixT kN l) = some (k : Int) ∧ posN l s = k ∧ l[k]? = some x ∧ x.name = s := by
  rcases ixI_cases (hasN s) l with ⟨h1, h2⟩ | ⟨k, x, h1, h2, h3, _⟩
  · exact .inl ⟨ixT_miss kN fun a ha => of_decide_eq_false (h2 a ha), h1⟩
  · have he : x.name = s := of_decide_eq_true h3
    exact .inr ⟨k, x, ixT_hit kN h h2 he, h1, h2, he⟩
def procL (l : List DefM) : List DefM := l.take ((l.takeWhile goodD).length + 1)
theorem takeW_all {l : List DefM} (h : ∀ x ∈ l, goodD x = true) : l.takeWhile goodD = l := by
  induction l with
  | nil => rfl
  | cons x r ih => rw [List.takeWhile_cons_of_pos (h x (List.mem_cons_self ..)), ih fun y hy => h y (List.mem_cons_of_mem _ hy)]
theorem procL_all {l : List DefM} (h : ∀ x ∈ l, goodD x = true) : procL l = l := by
  unfold procL
  rw [takeW_all h, List.take_of_length_le (by omega)]
theorem procL_bad {l : List DefM} {k : Nat} {x : DefM} (h : ∀ (j : Nat) (y : DefM), j < k → l[j]? = some y → goodD y = true) (hx : l[k]? = some x) (hb : goodD x = false) : procL l = l.take (k + 1) := by
  unfold procL
  have hk := (List.getElem?_eq_some_iff.1 hx).1
  have e : l = l.take k ++ x :: l.drop (k + 1) := by
    rw [← (List.getElem?_eq_some_iff.1 hx).2, List.getElem_cons_drop, List.take_append_drop]
  have hg : ∀ y ∈ l.take k, goodD y = true := fun y hy => by
    obtain ⟨j, hj⟩ := List.getElem?_of_mem hy
    rw [List.getElem?_take] at hj
    split at hj
    · rename_i hjk; exact h j y hjk hj
    · cases hj
  have : (l.takeWhile goodD).length = k := by
    conv => lhs; rw [e]
    rw [List.takeWhile_append_of_pos hg, List.takeWhile_cons_of_neg (by simp [hb])]
    simp; omega
  rw [this]
end Go.Proofs.Heir
end
section
set_option linter.unusedSimpArgs false
set_option linter.unusedVariables false
namespace Go.Proofs.Heir
open Go.Am Go.RowKit Go.Lib
set_option maxRecDepth 100000
set_option maxHeartbeats 8000000
@[reducible] def eDef (x : DefM) : AV := .agg [eStr x.name, eStr x.locl, eInt x.cls]
def oDef (x : DefM) : AV := eDef x
@[reducible] def eDefs (l : List DefM) : AV := .sl 3 (l.map oDef)
@[reducible] def eWait (w : WaitM) : AV := .agg [eStr w.name, eInt w.ticket]
def oWait (w : WaitM) : AV := eWait w
@[reducible] def eWaits (l : List WaitM) : AV := .sl 2 (l.map oWait)
@[reducible] def eDesk (d : DeskM) : AV := .agg [eDefs d.defs, eWaits d.waits, eInt d.next, eBool d.busy]
theorem def_get {l : List DefM} {k : Nat} {x : DefM} (h : l[k]? = some x) : (l.map oDef)[k]? = some (eDef x) := by rw [List.getElem?_map, h]; rfl
theorem wait_get {l : List WaitM} {k : Nat} {x : WaitM} (h : l[k]? = some x) : (l.map oWait)[k]? = some (eWait x) := by rw [List.getElem?_map, h]; rfl
@[reducible] def rN (l : List DefM) : MS := .live 2 (tRows Value.string oInt (ixT kN l)) false
@[reducible] def rC (l : List DefM) : MS := .live 2 (tRows vInt oInt (ixT kC l)) false
theorem noRef_tab {K : Type} (kv : K → Value) (t : List (K × Int)) : noRefL (tRows kv oInt t) = true := by
  rw [noRefL_iff]; intro x hx
  obtain ⟨a, _, rfl⟩ := List.mem_map.1 hx
  rfl
theorem map62 : MapTy Tryd.prog 59 .string (.int .i64 0) := ⟨9, 3, by kernel_rfl, by kernel_rfl, fun w => Tryd.zeroValue3 w⟩
theorem map63 : MapTy Tryd.prog 60 (.int .i64) (.int .i64 0) := ⟨3, 3, by kernel_rfl, by kernel_rfl, fun w => Tryd.zeroValue3 w⟩
theorem f25_at {s : ByteArray} {b : Bool} (h : customS s = b) : FnOK Tryd.prog 25 [] [eStr s] [] (eBool b) := by have := f25_ok s; rwa [h] at this
theorem f56_at {s : ByteArray} {b : Bool} (h : knowS s = b) : FnOK Tryd.prog 56 [] [eStr s] [] (eBool b) := by have := f56_ok s; unfold knowS at h; rwa [h] at this
theorem f34_ok (d : DeskM) (hl : d.defs.length ≤ 100000) : FnOK Tryd.prog 34 [] [eDesk d] [rN (procL d.defs), rC (procL d.defs)] (.tup [.agg [.mapr 0, .mapr 1], eBool (defsB d.defs)]) := by
  obtain ⟨l, ws, nx, bz⟩ := d
  have hlm : (l.map oDef).length = l.length := List.length_map ..
  refine FnOK.startC (rvs := [.cell 2 62, .tmp 3]) G G_good Tryd.func34 rfl Tryd.ntmps34 rfl rfl ?_; with_reducible refine wD ?_
  have hl' : l.length ≤ 100000 := hl
  refine LoopK.use G G_good (fun (k : Nat) => [(1, .ptr 10 0 0), (2, .ptr 20 0 0), (4, .ptr 40 0 0), (12, eDefs l), (13, eInt l.length), (14, eInt k)])
    (fun k => [(10, .live 4 [eDesk ⟨l, ws, nx, bz⟩] false), (20, .live 2 [.agg [.lit (.map none), .lit (.map none)]] false), (40, .live 2 [.agg [.mapr 81, .mapr 91]] false), (81, rN (l.take k)), (91, rC (l.take k))])
    (fun k => k ≤ l.length ∧ ∀ (j : Nat) (y : DefM), j < k → l[j]? = some y → goodD y = true) (fun k => l.length - k) 0 ⟨Nat.zero_le _, fun j y h => by omega⟩
    ⟨⟨rfl, rfl⟩, ⟨⟨rfl, rfl⟩, ⟨rfl, rfl⟩, ⟨rfl, rfl⟩, rfl, by show (l.length : Int) = ((l.map oDef).length : Int); rw [hlm], rfl, trivial⟩, ⟨⟨rfl, rfl, rfl, rfl, trivial⟩, trivial⟩, ⟨⟨⟨rfl, rfl⟩, ⟨rfl, rfl⟩, trivial⟩, trivial⟩, ⟨⟨trivial, trivial, trivial⟩, trivial⟩, ⟨.refl rfl, rfl⟩, ⟨.refl rfl, rfl⟩, trivial⟩ ?_
  intro k ⟨hk, hok⟩
  with_reducible refine wK ?_
  refine IfK.mk (fun h1 => ?_) (fun h1 => ?_) <;> (try simp only [castN] at h1) <;> with_reducible refine wK ?_
  · simp only [decide_eq_true_eq] at h1
    have hk' : k < l.length := by omega
    obtain ⟨⟨n, lo, c⟩, hx⟩ : ∃ a, l[k]? = some a := ⟨_, List.getElem?_eq_getElem hk'⟩
    refine IdxK.mk k (eDef ⟨n, lo, c⟩) rfl (def_get hx) ?_; with_reducible refine wK ?_
    have hle1 : (ixT kN (l.take k)).length ≤ k := Nat.le_trans (ixT_le _ _) (by simp; omega)
    have hle2 : (ixT kC (l.take k)).length ≤ k := Nat.le_trans (ixT_le _ _) (by simp; omega)
    refine PutK.tab Value.string oInt (ixT kN (l.take k)) (k := n) (k : Int) map62 rfl key_str inj_str (by unfold maxLen; omega) rfl ?_; with_reducible refine wK ?_
    refine PutK.tab vInt oInt (ixT kC (l.take k)) (k := c) (k : Int) map63 rfl key_int inj_int (by unfold maxLen; omega) rfl ?_; with_reducible refine wK ?_
    have e1 : tput n (k : Int) (ixT kN (l.take k)) = ixT kN (l.take (k + 1)) := (ixT_snoc kN hx).symm
    have e2 : tput c (k : Int) (ixT kC (l.take k)) = ixT kC (l.take (k + 1)) := (ixT_snoc kC hx).symm
    rw [e1, e2]
    refine dK ?_; with_reducible refine wK ?_
    cases hg : goodD ⟨n, lo, c⟩ with
    | true =>
      obtain ⟨g1, g2, g3, g4⟩ := goodD_facts hg
      simp only at g1 g2 g3 g4
      have hnext : ∀ (j : Nat) (y : DefM), j < k + 1 → l[j]? = some y → goodD y = true := fun j y hj hy => by
        by_cases e : j = k
        · subst e; rw [hx] at hy; cases hy; exact hg
        · exact hok j y (by omega) hy
      by_cases e : lo = n
      · (have fct := And.intro e (And.intro g1 (And.intro g3 (g4))); (repeat' (first
    | refine gF ?_
    | ((first
      | ((with_reducible show CallK _ _ 25 _ _ _ _); refine CallK.lit [] (f25_at g1) c25 ⟨rfl, trivial⟩ rfl rfl ?_)
      | ((with_reducible show NextK _ _); refine NextK.mk (k + 1) ⟨by omega, hnext⟩ (by omega) ⟨⟨rfl, rfl⟩, ⟨⟨rfl, rfl⟩, ⟨rfl, rfl⟩, ⟨rfl, rfl⟩, rfl, rfl, by show ((k + 1 : Nat) : Int) = (k : Int) + 1; omega, trivial⟩, ⟨⟨rfl, rfl, rfl, rfl, trivial⟩, trivial⟩, ⟨⟨⟨rfl, rfl⟩, ⟨rfl, rfl⟩, trivial⟩, trivial⟩, ⟨⟨trivial, trivial, trivial⟩, trivial⟩, ⟨.refl (noRef_tab _ _), noRef_tab _ _⟩, ⟨.refl (noRef_tab _ _), noRef_tab _ _⟩, trivial⟩)) <;> with_reducible refine wK ?_)
    | ((with_reducible show (_ ∧ _) ∧ _ ∧ _); (refine eK ?_ ?_ <;> with_reducible repeat' (first | exact trivial | (show _ ∧ _; refine aK ?_ ?_)))))); all_goals clear fct)
      · have g2' := g2.resolve_left e
        (have fct := And.intro e (And.intro g1 (And.intro g2' (And.intro g3 (g4)))); (repeat' (first
    | refine gF ?_
    | ((first
      | ((with_reducible show CallK _ _ 25 _ _ _ _); refine CallK.lit [] (f25_at g1) c25 ⟨rfl, trivial⟩ rfl rfl ?_)
      | ((with_reducible show CallK _ _ 56 _ _ _ _); refine CallK.lit [] (f56_at g2') c56 ⟨rfl, trivial⟩ rfl rfl ?_)
      | ((with_reducible show NextK _ _); refine NextK.mk (k + 1) ⟨by omega, hnext⟩ (by omega) ⟨⟨rfl, rfl⟩, ⟨⟨rfl, rfl⟩, ⟨rfl, rfl⟩, ⟨rfl, rfl⟩, rfl, rfl, by show ((k + 1 : Nat) : Int) = (k : Int) + 1; omega, trivial⟩, ⟨⟨rfl, rfl, rfl, rfl, trivial⟩, trivial⟩, ⟨⟨⟨rfl, rfl⟩, ⟨rfl, rfl⟩, trivial⟩, trivial⟩, ⟨⟨trivial, trivial, trivial⟩, trivial⟩, ⟨.refl (noRef_tab _ _), noRef_tab _ _⟩, ⟨.refl (noRef_tab _ _), noRef_tab _ _⟩, trivial⟩)) <;> with_reducible refine wK ?_)
    | ((with_reducible show (_ ∧ _) ∧ _ ∧ _); (refine eK ?_ ?_ <;> with_reducible repeat' (first | exact trivial | (show _ ∧ _; refine aK ?_ ?_)))))); all_goals clear fct)
    | false =>
      have hpr : procL l = l.take (k + 1) := procL_bad hok hx hg
      have hdb : defsB l = false := by
        cases h : defsB l with
        | false => rfl
        | true => rw [(defsB_iff.1 h).1 _ (List.mem_of_getElem? hx)] at hg; cases hg
      have hgood : ∀ {p : Prop}, (customS n = true ∧ (lo = n ∨ knowS lo = true) ∧ 0 ≤ c ∧ c < 12) → p := fun h => by
        exfalso
        have : goodD ⟨n, lo, c⟩ = true := by
          obtain ⟨a1, a2, a3, a4⟩ := h
          unfold goodD localB
          simp only [a1, a3, a4, decide_true, Bool.and_true, Bool.true_and]
          rcases a2 with a2 | a2
          · rw [decide_eq_true a2]; rfl
          · rw [a2]; simp
        rw [hg] at this; cases this
      rw [hpr, hdb]
      by_cases e : lo = n
      · cases hc : customS n with
        | false => ((have fct := e; (repeat' (first
    | refine gF ?_
    | (((with_reducible show CallK _ _ 25 _ _ _ _); refine CallK.lit [] (f25_at hc) c25 ⟨rfl, trivial⟩ rfl rfl ?_) <;> with_reducible refine wK ?_)
    | ((with_reducible show (_ ∧ _) ∧ _ ∧ _); (refine eK ?_ ?_ <;> with_reducible repeat' (first | exact trivial | (show _ ∧ _; refine aK ?_ ?_)))))); all_goals clear fct)) <;> first | exact MFL_refl (noRef_tab _ _) | exact ⟨.refl (noRef_tab _ _), noRef_tab _ _⟩ | rfl
        | true =>
          by_cases h3 : c < 0
          · ((have fct := And.intro e (h3); (repeat' (first
    | refine gF ?_
    | (((with_reducible show CallK _ _ 25 _ _ _ _); refine CallK.lit [] (f25_at hc) c25 ⟨rfl, trivial⟩ rfl rfl ?_) <;> with_reducible refine wK ?_)
    | ((with_reducible show (_ ∧ _) ∧ _ ∧ _); (refine eK ?_ ?_ <;> with_reducible repeat' (first | exact trivial | (show _ ∧ _; refine aK ?_ ?_)))))); all_goals clear fct)) <;> first | exact MFL_refl (noRef_tab _ _) | exact ⟨.refl (noRef_tab _ _), noRef_tab _ _⟩ | rfl
          · by_cases h4 : c < 12
            · exact hgood ⟨hc, .inl e, by omega, h4⟩
            · ((have fct := And.intro e (And.intro h3 (h4)); (repeat' (first
    | refine gF ?_
    | (((with_reducible show CallK _ _ 25 _ _ _ _); refine CallK.lit [] (f25_at hc) c25 ⟨rfl, trivial⟩ rfl rfl ?_) <;> with_reducible refine wK ?_)
    | ((with_reducible show (_ ∧ _) ∧ _ ∧ _); (refine eK ?_ ?_ <;> with_reducible repeat' (first | exact trivial | (show _ ∧ _; refine aK ?_ ?_)))))); all_goals clear fct)) <;> first | exact MFL_refl (noRef_tab _ _) | exact ⟨.refl (noRef_tab _ _), noRef_tab _ _⟩ | rfl
      · cases hkn : knowS lo with
        | false => cases hc : customS n <;> ((have fct := e; (repeat' (first
    | refine gF ?_
    | ((first
      | ((with_reducible show CallK _ _ 25 _ _ _ _); refine CallK.lit [] (f25_at hc) c25 ⟨rfl, trivial⟩ rfl rfl ?_)
      | ((with_reducible show CallK _ _ 56 _ _ _ _); refine CallK.lit [] (f56_at hkn) c56 ⟨rfl, trivial⟩ rfl rfl ?_)) <;> with_reducible refine wK ?_)
    | ((with_reducible show (_ ∧ _) ∧ _ ∧ _); (refine eK ?_ ?_ <;> with_reducible repeat' (first | exact trivial | (show _ ∧ _; refine aK ?_ ?_)))))); all_goals clear fct)) <;> first | exact MFL_refl (noRef_tab _ _) | exact ⟨.refl (noRef_tab _ _), noRef_tab _ _⟩ | rfl
        | true =>
          cases hc : customS n with
          | false => ((have fct := e; (repeat' (first
    | refine gF ?_
    | ((first
      | ((with_reducible show CallK _ _ 25 _ _ _ _); refine CallK.lit [] (f25_at hc) c25 ⟨rfl, trivial⟩ rfl rfl ?_)
      | ((with_reducible show CallK _ _ 56 _ _ _ _); refine CallK.lit [] (f56_at hkn) c56 ⟨rfl, trivial⟩ rfl rfl ?_)) <;> with_reducible refine wK ?_)
    | ((with_reducible show (_ ∧ _) ∧ _ ∧ _); (refine eK ?_ ?_ <;> with_reducible repeat' (first | exact trivial | (show _ ∧ _; refine aK ?_ ?_)))))); all_goals clear fct)) <;> first | exact MFL_refl (noRef_tab _ _) | exact ⟨.refl (noRef_tab _ _), noRef_tab _ _⟩ | rfl
          | true =>
            by_cases h3 : c < 0
            · ((have fct := And.intro e (h3); (repeat' (first
    | refine gF ?_
    | ((first
      | ((with_reducible show CallK _ _ 25 _ _ _ _); refine CallK.lit [] (f25_at hc) c25 ⟨rfl, trivial⟩ rfl rfl ?_)
      | ((with_reducible show CallK _ _ 56 _ _ _ _); refine CallK.lit [] (f56_at hkn) c56 ⟨rfl, trivial⟩ rfl rfl ?_)) <;> with_reducible refine wK ?_)
    | ((with_reducible show (_ ∧ _) ∧ _ ∧ _); (refine eK ?_ ?_ <;> with_reducible repeat' (first | exact trivial | (show _ ∧ _; refine aK ?_ ?_)))))); all_goals clear fct)) <;> first | exact MFL_refl (noRef_tab _ _) | exact ⟨.refl (noRef_tab _ _), noRef_tab _ _⟩ | rfl
            · by_cases h4 : c < 12
              · exact hgood ⟨hc, .inr hkn, by omega, h4⟩
              · ((have fct := And.intro e (And.intro h3 (h4)); (repeat' (first
    | refine gF ?_
    | ((first
      | ((with_reducible show CallK _ _ 25 _ _ _ _); refine CallK.lit [] (f25_at hc) c25 ⟨rfl, trivial⟩ rfl rfl ?_)
      | ((with_reducible show CallK _ _ 56 _ _ _ _); refine CallK.lit [] (f56_at hkn) c56 ⟨rfl, trivial⟩ rfl rfl ?_)) <;> with_reducible refine wK ?_)
    | ((with_reducible show (_ ∧ _) ∧ _ ∧ _); (refine eK ?_ ?_ <;> with_reducible repeat' (first | exact trivial | (show _ ∧ _; refine aK ?_ ?_)))))); all_goals clear fct)) <;> first | exact MFL_refl (noRef_tab _ _) | exact ⟨.refl (noRef_tab _ _), noRef_tab _ _⟩ | rfl
  · have hkl : k = l.length := by simp only [decide_eq_false_iff_not] at h1; omega
    subst hkl
    have hall : ∀ x ∈ l, goodD x = true := fun x hx => by
      obtain ⟨j, hj⟩ := List.getElem?_of_mem hx
      exact hok j x (List.getElem?_eq_some_iff.1 hj).1 hj
    rw [List.take_length, procL_all hall]
    have en : (tRows Value.string oInt (ixT kN l)).length = (ixT kN l).length := List.length_map ..
    have ec : (tRows vInt oInt (ixT kC l)).length = (ixT kC l).length := List.length_map ..
    have hn := ixT_len kN l
    have hc := ixT_len kC l
    have hd : defsB l = (decide ((l.map DefM.name).Nodup) && decide ((l.map DefM.cls).Nodup)) := by
      unfold defsB
      rw [List.all_eq_true.2 hall]; rfl
    rw [hd]
    by_cases h2 : (l.map DefM.name).Nodup
    · have h2' : (ixT kN l).length = l.length := hn.2 h2
      by_cases h3 : (l.map DefM.cls).Nodup
      · have h3' : (ixT kC l).length = l.length := hc.2 h3
        ((have fct := And.intro en (And.intro ec (And.intro h2' (And.intro h3' (hlm)))); (repeat' (first
    | refine gF ?_
    | ((first
      | ((with_reducible show CountK _ _ 59 _ _ _ _); refine CountK.mk map62 ⟨_, _, rfl⟩ rfl ?_)
      | ((with_reducible show CountK _ _ 60 _ _ _ _); refine CountK.mk map63 ⟨_, _, rfl⟩ rfl ?_)) <;> with_reducible refine wK ?_)
    | ((with_reducible show (_ ∧ _) ∧ _ ∧ _); (refine eK ?_ ?_ <;> with_reducible repeat' (first | exact trivial | (show _ ∧ _; refine aK ?_ ?_)))))); all_goals clear fct)) <;> first | exact MFL_refl (noRef_tab _ _) | exact ⟨.refl (noRef_tab _ _), noRef_tab _ _⟩ | rfl | (simp [h2, h3, en, ec, h2', h3']; done) | (simp [h2, h3, en, ec, h2']; simp only [castN]; omega) | (simp [h2, h3, en, ec, h2']; exact fun hh => h3' (Int.ofNat.inj hh))
      · have h3' : (ixT kC l).length ≠ l.length := fun h => h3 (hc.1 h)
        ((have fct := And.intro en (And.intro ec (And.intro h2' (And.intro h3' (hlm)))); (repeat' (first
    | refine gF ?_
    | ((first
      | ((with_reducible show CountK _ _ 59 _ _ _ _); refine CountK.mk map62 ⟨_, _, rfl⟩ rfl ?_)
      | ((with_reducible show CountK _ _ 60 _ _ _ _); refine CountK.mk map63 ⟨_, _, rfl⟩ rfl ?_)) <;> with_reducible refine wK ?_)
    | ((with_reducible show (_ ∧ _) ∧ _ ∧ _); (refine eK ?_ ?_ <;> with_reducible repeat' (first | exact trivial | (show _ ∧ _; refine aK ?_ ?_)))))); all_goals clear fct)) <;> first | exact MFL_refl (noRef_tab _ _) | exact ⟨.refl (noRef_tab _ _), noRef_tab _ _⟩ | rfl | (simp [h2, h3, en, ec, h2', h3']; done) | (simp [h2, h3, en, ec, h2']; simp only [castN]; omega) | (simp [h2, h3, en, ec, h2']; exact fun hh => h3' (Int.ofNat.inj hh))
    · have h2' : (ixT kN l).length ≠ l.length := fun h => h2 (hn.1 h)
      ((have fct := And.intro en (And.intro ec (And.intro h2' (hlm))); (repeat' (first
    | refine gF ?_
    | ((first
      | ((with_reducible show CountK _ _ 59 _ _ _ _); refine CountK.mk map62 ⟨_, _, rfl⟩ rfl ?_)
      | ((with_reducible show CountK _ _ 60 _ _ _ _); refine CountK.mk map63 ⟨_, _, rfl⟩ rfl ?_)) <;> with_reducible refine wK ?_)
    | ((with_reducible show (_ ∧ _) ∧ _ ∧ _); (refine eK ?_ ?_ <;> with_reducible repeat' (first | exact trivial | (show _ ∧ _; refine aK ?_ ?_)))))); all_goals clear fct)) <;> first | exact MFL_refl (noRef_tab _ _) | exact ⟨.refl (noRef_tab _ _), noRef_tab _ _⟩ | rfl | (simp [h2, en, h2']; done)
end Go.Proofs.Heir
end
section
set_option linter.unusedSimpArgs false
set_option linter.unusedVariables false
namespace Go.Proofs.Heir
open Go.Am Go.RowKit Go.Lib
set_option maxRecDepth 100000
set_option maxHeartbeats 8000000
theorem outs_read (l : List DefM) : okOuts [rN l, rC l] := by
  refine ⟨Wide.of_mem fun r hr => ?_, noRef_tab _ _, Wide.of_mem fun r hr => ?_, noRef_tab _ _, trivial⟩
  · obtain ⟨p, _, rfl⟩ := List.mem_map.1 hr
    rfl
  · obtain ⟨p, _, rfl⟩ := List.mem_map.1 hr
    rfl
def openI (d : DeskM) (i : Nat × Bool × Int) : Prop := i.1 ≤ d.waits.length ∧ (i.2.1 && waitsB d.defs d.next i.2.2 (d.waits.drop i.1)) = (defsB d.defs && waitsB d.defs d.next (-1) d.waits)
theorem openI_next {d : DeskM} {k : Nat} {b : Bool} {last : Int} {w : WaitM} (h : openI d (k, b, last)) (hw : d.waits[k]? = some w) : openI d (k + 1, b && okW d.defs d.next w last, w.ticket) := by
  obtain ⟨h1, h2⟩ := h
  have hk := (List.getElem?_eq_some_iff.1 hw).1
  refine ⟨by show k + 1 ≤ _; omega, ?_⟩
  rw [← h2]
  simp only
  rw [List.drop_eq_getElem_cons hk, (List.getElem?_eq_some_iff.1 hw).2, waitsB, Bool.and_assoc]
theorem tgetP {l : List DefM} (h : defsB l = true) (s : ByteArray) : (tget s (ixT kN (procL l)) = none ∧ posN l s = -1) ∨ ∃ (k : Nat) (x : DefM), tget s (ixT kN (procL l)) = some (k : Int) ∧ posN l s = k ∧ l[k]? = some x ∧ x.name = s := by
  obtain ⟨h1, h2, _⟩ := defsB_iff.1 h
  rw [procL_all h1]; exact tgetN h2 s
theorem f19_ok (d : DeskM) (hl : d.defs.length ≤ 100000) (hw : d.waits.length ≤ 100000) : FnOK Tryd.prog 19 [] [eDesk d] [rN (procL d.defs), rC (procL d.defs)] (.tup [.agg [.mapr 0, .mapr 1], eBool (rightD d)]) := by
  have hI0 : openI d (0, defsB d.defs, -1) := ⟨Nat.zero_le _, rfl⟩
  have hI1 := @openI_next d
  have hI2 : ∀ b last, openI d (d.waits.length, b, last) → b = (defsB d.defs && waitsB d.defs d.next (-1) d.waits) := fun b last h => by
    have := h.2
    simp only [List.drop_length] at this
    rw [← this]; simp [waitsB]
  have hI3 : ∀ k b last, openI d (k, b, last) → b = true → defsB d.defs = true ∨ rightD d = false := fun k b last h hb => by
    cases hd : defsB d.defs with
    | true => exact .inl rfl
    | false => right; unfold rightD; rw [hd]; rfl
  have hr44 := f34_ok d hl
  unfold rightD
  obtain ⟨l, ws, nx, bz⟩ := d
  have hlm : (ws.map oWait).length = ws.length := List.length_map ..
  refine FnOK.startC (rvs := [.cell 2 62, .tmp 3]) G G_good Tryd.func19 rfl Tryd.ntmps19 rfl rfl ?_; with_reducible refine wD ?_
  refine CallK.new 131 [] hr44 c34 ⟨⟨rfl, rfl, rfl, rfl, trivial⟩, trivial⟩ rfl rfl rfl (outs_read _) rfl ?_; with_reducible refine wK ?_
  have hwl : ws.length ≤ 100000 := hw
  refine LoopK.use G G_good (fun (i : Nat × Bool × Int) => [(1, .ptr 10 0 0), (2, .ptr 20 0 0), (4, .ptr 40 0 0), (5, eBool i.2.1), (6, eInt i.2.2), (17, eWaits ws), (18, eInt ws.length), (19, eInt i.1)])
    (fun _ => [(10, .live 4 [eDesk ⟨l, ws, nx, bz⟩] false), (20, .live 2 [.agg [.lit (.map none), .lit (.map none)]] false), (40, .live 2 [.agg [.mapr 131, .mapr 132]] false), (131, rN (procL l)), (132, rC (procL l))])
    (fun i => openI ⟨l, ws, nx, bz⟩ i ∧ (i.2.1 = true → defsB l = true)) (fun i => ws.length - i.1) (0, defsB l, -1) ⟨hI0, id⟩
    ⟨⟨rfl, rfl⟩, ⟨⟨rfl, rfl⟩, ⟨rfl, rfl⟩, ⟨rfl, rfl⟩, rfl, rfl, rfl, by show (ws.length : Int) = ((ws.map oWait).length : Int); rw [hlm], rfl, trivial⟩, ⟨⟨rfl, rfl, rfl, rfl, trivial⟩, trivial⟩, ⟨⟨⟨rfl, rfl⟩, ⟨rfl, rfl⟩, trivial⟩, trivial⟩, ⟨⟨trivial, trivial, trivial⟩, trivial⟩, ⟨.refl (noRef_tab _ _), noRef_tab _ _⟩, ⟨.refl (noRef_tab _ _), noRef_tab _ _⟩, trivial⟩ ?_
  rintro ⟨k, b, last⟩ ⟨hI, hbd⟩
  have hkw : k ≤ ws.length := hI.1
  simp only at hbd
  with_reducible refine wK ?_
  refine IfK.mk (fun h1 => ?_) (fun h1 => ?_) <;> (try simp only [castN] at h1) <;> with_reducible refine wK ?_
  · simp only [decide_eq_true_eq] at h1
    have hk' : k < ws.length := by omega
    obtain ⟨⟨n, tk⟩, hx⟩ : ∃ a, ws[k]? = some a := ⟨_, List.getElem?_eq_getElem hk'⟩
    have hst : ∀ v, (b && okW l nx ⟨n, tk⟩ last) = v → openI ⟨l, ws, nx, bz⟩ (k + 1, v, tk) ∧ (v = true → defsB l = true) := fun v hv => by
      have := hI1 hI hx
      refine ⟨by rw [← hv]; exact this, fun h => hbd ?_⟩
      rw [h] at hv
      exact (Bool.and_eq_true_iff.1 hv).1
    refine IdxK.mk k (eWait ⟨n, tk⟩) rfl (wait_get hx) ?_; with_reducible refine wK ?_
    refine LookK.tab Value.string oInt (ixT kN (procL l)) (k := n) (zv := eInt 0) map62 ⟨_, _, rfl⟩ key_str inj_str rfl rfl (fun x hxx => ?_) (fun hxx => ?_)
    · rw [show oInt x = eInt x from rfl]
      with_reducible refine wK ?_
      cases b with
      | false =>
        have hs := hst false rfl
        (have fct := hlm; (repeat' (first
    | refine gF ?_
    | (((with_reducible show NextK _ _); refine NextK.mk (k + 1, false, tk) hs (by show ws.length - (k + 1) < ws.length - k; omega) ⟨⟨rfl, rfl⟩, ⟨⟨rfl, rfl⟩, ⟨rfl, rfl⟩, ⟨rfl, rfl⟩, rfl, rfl, rfl, rfl, by show ((k + 1 : Nat) : Int) = (k : Int) + 1; omega, trivial⟩, ⟨⟨rfl, rfl, rfl, rfl, trivial⟩, trivial⟩, ⟨⟨⟨rfl, rfl⟩, ⟨rfl, rfl⟩, trivial⟩, trivial⟩, ⟨⟨trivial, trivial, trivial⟩, trivial⟩, ⟨.refl (noRef_tab _ _), noRef_tab _ _⟩, ⟨.refl (noRef_tab _ _), noRef_tab _ _⟩, trivial⟩) <;> with_reducible refine wK ?_)
    | ((with_reducible show (_ ∧ _) ∧ _ ∧ _); (refine eK ?_ ?_ <;> with_reducible repeat' (first | exact trivial | (show _ ∧ _; refine aK ?_ ?_)))))); all_goals clear fct)
      | true =>
        have hp : ¬ posN l n = -1 := by
          rcases tgetP (hbd rfl) n with ⟨a1, _⟩ | ⟨j, y, _, a2, _⟩
          · rw [hxx] at a1; cases a1
          · omega
        have hs := hst false (by unfold okW; simp [hp])
        (have fct := hlm; (repeat' (first
    | refine gF ?_
    | (((with_reducible show NextK _ _); refine NextK.mk (k + 1, false, tk) hs (by show ws.length - (k + 1) < ws.length - k; omega) ⟨⟨rfl, rfl⟩, ⟨⟨rfl, rfl⟩, ⟨rfl, rfl⟩, ⟨rfl, rfl⟩, rfl, rfl, rfl, rfl, by show ((k + 1 : Nat) : Int) = (k : Int) + 1; omega, trivial⟩, ⟨⟨rfl, rfl, rfl, rfl, trivial⟩, trivial⟩, ⟨⟨⟨rfl, rfl⟩, ⟨rfl, rfl⟩, trivial⟩, trivial⟩, ⟨⟨trivial, trivial, trivial⟩, trivial⟩, ⟨.refl (noRef_tab _ _), noRef_tab _ _⟩, ⟨.refl (noRef_tab _ _), noRef_tab _ _⟩, trivial⟩) <;> with_reducible refine wK ?_)
    | ((with_reducible show (_ ∧ _) ∧ _ ∧ _); (refine eK ?_ ?_ <;> with_reducible repeat' (first | exact trivial | (show _ ∧ _; refine aK ?_ ?_)))))); all_goals clear fct)
    · with_reducible refine wK ?_
      cases b with
      | false =>
        have hs := hst false rfl
        (have fct := hlm; (repeat' (first
    | refine gF ?_
    | (((with_reducible show NextK _ _); refine NextK.mk (k + 1, false, tk) hs (by show ws.length - (k + 1) < ws.length - k; omega) ⟨⟨rfl, rfl⟩, ⟨⟨rfl, rfl⟩, ⟨rfl, rfl⟩, ⟨rfl, rfl⟩, rfl, rfl, rfl, rfl, by show ((k + 1 : Nat) : Int) = (k : Int) + 1; omega, trivial⟩, ⟨⟨rfl, rfl, rfl, rfl, trivial⟩, trivial⟩, ⟨⟨⟨rfl, rfl⟩, ⟨rfl, rfl⟩, trivial⟩, trivial⟩, ⟨⟨trivial, trivial, trivial⟩, trivial⟩, ⟨.refl (noRef_tab _ _), noRef_tab _ _⟩, ⟨.refl (noRef_tab _ _), noRef_tab _ _⟩, trivial⟩) <;> with_reducible refine wK ?_)
    | ((with_reducible show (_ ∧ _) ∧ _ ∧ _); (refine eK ?_ ?_ <;> with_reducible repeat' (first | exact trivial | (show _ ∧ _; refine aK ?_ ?_)))))); all_goals clear fct)
      | true =>
        have hp : posN l n = -1 := by
          rcases tgetP (hbd rfl) n with ⟨_, a1⟩ | ⟨j, y, a2, _⟩
          · exact a1
          · rw [hxx] at a2; cases a2
        cases hc : customS n with
        | false =>
          have hs := hst false (by unfold okW; simp [hc])
          (have fct := hlm; (repeat' (first
    | refine gF ?_
    | ((first
      | ((with_reducible show CallK _ _ 25 _ _ _ _); refine CallK.lit [] (f25_at hc) c25 ⟨rfl, trivial⟩ rfl rfl ?_)
      | ((with_reducible show NextK _ _); refine NextK.mk (k + 1, false, tk) hs (by show ws.length - (k + 1) < ws.length - k; omega) ⟨⟨rfl, rfl⟩, ⟨⟨rfl, rfl⟩, ⟨rfl, rfl⟩, ⟨rfl, rfl⟩, rfl, rfl, rfl, rfl, by show ((k + 1 : Nat) : Int) = (k : Int) + 1; omega, trivial⟩, ⟨⟨rfl, rfl, rfl, rfl, trivial⟩, trivial⟩, ⟨⟨⟨rfl, rfl⟩, ⟨rfl, rfl⟩, trivial⟩, trivial⟩, ⟨⟨trivial, trivial, trivial⟩, trivial⟩, ⟨.refl (noRef_tab _ _), noRef_tab _ _⟩, ⟨.refl (noRef_tab _ _), noRef_tab _ _⟩, trivial⟩)) <;> with_reducible refine wK ?_)
    | ((with_reducible show (_ ∧ _) ∧ _ ∧ _); (refine eK ?_ ?_ <;> with_reducible repeat' (first | exact trivial | (show _ ∧ _; refine aK ?_ ?_)))))); all_goals clear fct)
        | true =>
          by_cases h3 : last < tk
          · have hs := hst (decide (tk < nx)) (by unfold okW; simp [hc, hp, h3])
            (have fct := And.intro hlm (h3); (repeat' (first
    | refine gF ?_
    | ((first
      | ((with_reducible show CallK _ _ 25 _ _ _ _); refine CallK.lit [] (f25_at hc) c25 ⟨rfl, trivial⟩ rfl rfl ?_)
      | ((with_reducible show NextK _ _); refine NextK.mk (k + 1, decide (tk < nx), tk) hs (by show ws.length - (k + 1) < ws.length - k; omega) ⟨⟨rfl, rfl⟩, ⟨⟨rfl, rfl⟩, ⟨rfl, rfl⟩, ⟨rfl, rfl⟩, rfl, rfl, rfl, rfl, by show ((k + 1 : Nat) : Int) = (k : Int) + 1; omega, trivial⟩, ⟨⟨rfl, rfl, rfl, rfl, trivial⟩, trivial⟩, ⟨⟨⟨rfl, rfl⟩, ⟨rfl, rfl⟩, trivial⟩, trivial⟩, ⟨⟨trivial, trivial, trivial⟩, trivial⟩, ⟨.refl (noRef_tab _ _), noRef_tab _ _⟩, ⟨.refl (noRef_tab _ _), noRef_tab _ _⟩, trivial⟩)) <;> with_reducible refine wK ?_)
    | ((with_reducible show (_ ∧ _) ∧ _ ∧ _); (refine eK ?_ ?_ <;> with_reducible repeat' (first | exact trivial | (show _ ∧ _; refine aK ?_ ?_)))))); all_goals clear fct)
          · have hs := hst false (by unfold okW; simp [hc, hp, h3])
            (have fct := And.intro hlm (h3); (repeat' (first
    | refine gF ?_
    | ((first
      | ((with_reducible show CallK _ _ 25 _ _ _ _); refine CallK.lit [] (f25_at hc) c25 ⟨rfl, trivial⟩ rfl rfl ?_)
      | ((with_reducible show NextK _ _); refine NextK.mk (k + 1, false, tk) hs (by show ws.length - (k + 1) < ws.length - k; omega) ⟨⟨rfl, rfl⟩, ⟨⟨rfl, rfl⟩, ⟨rfl, rfl⟩, ⟨rfl, rfl⟩, rfl, rfl, rfl, rfl, by show ((k + 1 : Nat) : Int) = (k : Int) + 1; omega, trivial⟩, ⟨⟨rfl, rfl, rfl, rfl, trivial⟩, trivial⟩, ⟨⟨⟨rfl, rfl⟩, ⟨rfl, rfl⟩, trivial⟩, trivial⟩, ⟨⟨trivial, trivial, trivial⟩, trivial⟩, ⟨.refl (noRef_tab _ _), noRef_tab _ _⟩, ⟨.refl (noRef_tab _ _), noRef_tab _ _⟩, trivial⟩)) <;> with_reducible refine wK ?_)
    | ((with_reducible show (_ ∧ _) ∧ _ ∧ _); (refine eK ?_ ?_ <;> with_reducible repeat' (first | exact trivial | (show _ ∧ _; refine aK ?_ ?_)))))); all_goals clear fct)
  · have hkl : k = ws.length := by simp only [decide_eq_false_iff_not] at h1; omega
    subst hkl
    have hb := hI2 b last hI
    simp only at hb ⊢
    rw [← hb]
    cases b with
    | false => ((have fct := hlm; (repeat' (first
    | refine gF ?_
    | ((with_reducible show (_ ∧ _) ∧ _ ∧ _); (refine eK ?_ ?_ <;> with_reducible repeat' (first | exact trivial | (show _ ∧ _; refine aK ?_ ?_)))))); all_goals clear fct)) <;> first | exact MFL_refl (noRef_tab _ _) | exact ⟨.refl (noRef_tab _ _), noRef_tab _ _⟩ | rfl
    | true =>
      by_cases h4 : 0 ≤ nx
      · ((have fct := And.intro hlm (h4); (repeat' (first
    | refine gF ?_
    | ((with_reducible show (_ ∧ _) ∧ _ ∧ _); (refine eK ?_ ?_ <;> with_reducible repeat' (first | exact trivial | (show _ ∧ _; refine aK ?_ ?_)))))); all_goals clear fct)) <;> first | exact MFL_refl (noRef_tab _ _) | exact ⟨.refl (noRef_tab _ _), noRef_tab _ _⟩ | simp [h4]
      · ((have fct := And.intro hlm (h4); (repeat' (first
    | refine gF ?_
    | ((with_reducible show (_ ∧ _) ∧ _ ∧ _); (refine eK ?_ ?_ <;> with_reducible repeat' (first | exact trivial | (show _ ∧ _; refine aK ?_ ?_)))))); all_goals clear fct)) <;> first | exact MFL_refl (noRef_tab _ _) | exact ⟨.refl (noRef_tab _ _), noRef_tab _ _⟩ | simp [h4]
end Go.Proofs.Heir
end
section
set_option linter.unusedSimpArgs false
set_option linter.unusedVariables false
namespace Go.Proofs.Heir
open Go.Am Go.RowKit Go.Lib
set_option maxRecDepth 100000
set_option maxHeartbeats 8000000
structure SmallD (d : DeskM) : Prop where
  defs : d.defs.length ≤ 100000
  waits : d.waits.length ≤ 100000
theorem f9_ok (d : DeskM) (h : SmallD d) : FnOK Tryd.prog 9 [] [eDesk d] [] (eBool (rightD d)) := by
  have h29 := f19_ok d h.defs h.waits
  obtain ⟨l, ws, nx, bz⟩ := d
  refine FnOK.startC (rvs := [.tmp 2]) G G_good Tryd.func9 rfl Tryd.ntmps9 rfl rfl ?_; with_reducible refine wD ?_
  refine CallK.new 71 [] h29 c19 ⟨⟨rfl, rfl, rfl, rfl, trivial⟩, trivial⟩ rfl rfl rfl (outs_read _) rfl ?_; with_reducible refine wK ?_
  (have fct := h29; (repeat' (first
    | refine gF ?_
    | ((with_reducible show (_ ∧ _) ∧ _ ∧ _); (refine eK ?_ ?_ <;> with_reducible repeat' (first | exact trivial | (show _ ∧ _; refine aK ?_ ?_)))))); all_goals clear fct)
theorem right_defs {d : DeskM} (h : rightD d = true) : defsB d.defs = true := (rightD_iff.1 h).1
theorem findR_none {l : List DefM} {a b : ByteArray} (h : defsB l = true) (ha : ∀ (k : Nat) (x : DefM), l[k]? = some x → x.name = a → x.locl ≠ a) (hb : ∀ (k : Nat) (x : DefM), l[k]? = some x → x.name = b → x.locl ≠ a) : findR l a b = -1 := by
  rcases findR_cases l a b with ⟨h1, _⟩ | ⟨j, y, _, h2, h3⟩
  · exact h1
  · obtain ⟨g1, g2⟩ := fitsB_iff.1 h3
    rcases g2 with g2 | g2
    · exact absurd g1 (ha j y h2 g2)
    · exact absurd g1 (hb j y h2 g2)
theorem only_name {l : List DefM} (h : defsB l = true) {k : Nat} {x : DefM} {s v : ByteArray} (hx : l[k]? = some x) (hn : x.name = s) (hv : x.locl ≠ v) : ∀ (j : Nat) (y : DefM), l[j]? = some y → y.name = s → y.locl ≠ v := fun j y hy he => by
  have := nodup_ix (defsB_iff.1 h).2.1 hx hy (hn.trans he.symm)
  subst this; rw [hx] at hy; cases hy; exact hv
theorem no_name {l : List DefM} {s v : ByteArray} (h : posN l s = -1) : ∀ (j : Nat) (y : DefM), l[j]? = some y → y.name = s → y.locl ≠ v := fun j y hy he => absurd he (posN_no h y (List.mem_of_getElem? hy))
theorem f16_ok (d : DeskM) (h : SmallD d) (a b : ByteArray) : FnOK Tryd.prog 16 [] [eDesk d, eStr a, eStr b] [] (eInt (findD d a b)) := by
  have h29 := f19_ok d h.defs h.waits
  have hrd := @right_defs d
  unfold findD
  obtain ⟨r, hr⟩ : ∃ r, rightD d = r := ⟨_, rfl⟩
  rw [hr] at h29 hrd ⊢
  obtain ⟨l, ws, nx, bz⟩ := d
  refine FnOK.startC (rvs := [.tmp 6]) G G_good Tryd.func16 rfl Tryd.ntmps16 rfl rfl ?_; with_reducible refine wD ?_
  refine CallK.new 151 [] h29 c19 ⟨⟨rfl, rfl, rfl, rfl, trivial⟩, trivial⟩ rfl rfl rfl (outs_read _) rfl ?_; with_reducible refine wK ?_
  cases r with
  | false => ((have fct := hr; (repeat' (first
    | refine gF ?_
    | ((with_reducible show (_ ∧ _) ∧ _ ∧ _); (refine eK ?_ ?_ <;> with_reducible repeat' (first | exact trivial | (show _ ∧ _; refine aK ?_ ?_)))))); all_goals clear fct)) <;> rfl
  | true =>
    have hd := hrd rfl
    rw [if_pos rfl]
    simp only at hd ⊢
    have second : ∀ (k : Nat) (y : DefM), l[k]? = some y → y.name = b → y.locl = a → findR l a b = k := fun k y hy he hl => findR_at hd hy (fitsB_iff.2 ⟨hl, .inr he⟩)
    refine IfK.ff ?_; with_reducible refine wK ?_
    refine LookK.tab Value.string oInt (ixT kN (procL l)) (k := a) (zv := eInt 0) map62 ⟨_, _, rfl⟩ key_str inj_str rfl rfl (fun x hxx => ?_) (fun hxx => ?_)
    · rw [show oInt x = eInt x from rfl]
      with_reducible refine wK ?_
      rcases tgetP hd a with ⟨a1, _⟩ | ⟨j, ⟨yn, yl, yc⟩, a1, a2, a3, a4⟩
      · rw [hxx] at a1; cases a1
      rw [hxx] at a1; cases a1
      simp only at a4
      refine IfK.tt ?_; with_reducible refine wK ?_
      refine IdxK.mk j (eDef ⟨yn, yl, yc⟩) rfl (def_get a3) ?_; with_reducible refine wK ?_
      by_cases hl : yl = a
      · have hf := findR_at (b := b) hd a3 (fitsB_iff.2 ⟨hl, .inl a4⟩)
        rw [hf]
        (have fct := hl; (repeat' (first
    | refine gF ?_
    | ((with_reducible show (_ ∧ _) ∧ _ ∧ _); (refine eK ?_ ?_ <;> with_reducible repeat' (first | exact trivial | (show _ ∧ _; refine aK ?_ ?_)))))); all_goals clear fct)
      · have n1 := only_name hd a3 a4 hl
        refine IfK.no (decide_eq_false hl) ?_; with_reducible refine wK ?_
        refine LookK.tab Value.string oInt (ixT kN (procL l)) (k := b) (zv := eInt 0) map62 ⟨_, _, rfl⟩ key_str inj_str rfl rfl (fun x hxx => ?_) (fun hxx => ?_)
        · rw [show oInt x = eInt x from rfl]
          with_reducible refine wK ?_
          rcases tgetP hd b with ⟨b1, _⟩ | ⟨i, ⟨zn, zl, zc⟩, b1, b2, b3, b4⟩
          · rw [hxx] at b1; cases b1
          rw [hxx] at b1; cases b1
          refine IfK.tt ?_; with_reducible refine wK ?_
          refine IdxK.mk i (eDef ⟨zn, zl, zc⟩) rfl (def_get b3) ?_; with_reducible refine wK ?_
          by_cases hz : zl = a
          · have hf := second i _ b3 b4 hz
            rw [hf]
            (have fct := hz; (repeat' (first
    | refine gF ?_
    | ((with_reducible show (_ ∧ _) ∧ _ ∧ _); (refine eK ?_ ?_ <;> with_reducible repeat' (first | exact trivial | (show _ ∧ _; refine aK ?_ ?_)))))); all_goals clear fct)
          · rw [findR_none hd n1 (only_name hd b3 b4 hz)]
            (have fct := hz; (repeat' (first
    | refine gF ?_
    | ((with_reducible show (_ ∧ _) ∧ _ ∧ _); (refine eK ?_ ?_ <;> with_reducible repeat' (first | exact trivial | (show _ ∧ _; refine aK ?_ ?_)))))); all_goals clear fct)
        · with_reducible refine wK ?_
          rcases tgetP hd b with ⟨_, b1⟩ | ⟨i, y, b1, _⟩
          · rw [findR_none hd n1 (no_name b1)]
            (have fct := b1; (repeat' (first
    | refine gF ?_
    | ((with_reducible show (_ ∧ _) ∧ _ ∧ _); (refine eK ?_ ?_ <;> with_reducible repeat' (first | exact trivial | (show _ ∧ _; refine aK ?_ ?_)))))); all_goals clear fct)
          · rw [hxx] at b1; cases b1
    · with_reducible refine wK ?_
      rcases tgetP hd a with ⟨_, a1⟩ | ⟨j, y, a1, _⟩
      · have n1 : ∀ (k : Nat) (x : DefM), l[k]? = some x → x.name = a → x.locl ≠ a := no_name a1
        refine IfK.ff ?_; with_reducible refine wK ?_
        refine IfK.ff ?_; with_reducible refine wK ?_
        refine LookK.tab Value.string oInt (ixT kN (procL l)) (k := b) (zv := eInt 0) map62 ⟨_, _, rfl⟩ key_str inj_str rfl rfl (fun x hxx => ?_) (fun hxx => ?_)
        · rw [show oInt x = eInt x from rfl]
          with_reducible refine wK ?_
          rcases tgetP hd b with ⟨b1, _⟩ | ⟨i, ⟨zn, zl, zc⟩, b1, b2, b3, b4⟩
          · rw [hxx] at b1; cases b1
          rw [hxx] at b1; cases b1
          refine IfK.tt ?_; with_reducible refine wK ?_
          refine IdxK.mk i (eDef ⟨zn, zl, zc⟩) rfl (def_get b3) ?_; with_reducible refine wK ?_
          by_cases hz : zl = a
          · have hf := second i _ b3 b4 hz
            rw [hf]
            (have fct := hz; (repeat' (first
    | refine gF ?_
    | ((with_reducible show (_ ∧ _) ∧ _ ∧ _); (refine eK ?_ ?_ <;> with_reducible repeat' (first | exact trivial | (show _ ∧ _; refine aK ?_ ?_)))))); all_goals clear fct)
          · rw [findR_none hd n1 (only_name hd b3 b4 hz)]
            (have fct := hz; (repeat' (first
    | refine gF ?_
    | ((with_reducible show (_ ∧ _) ∧ _ ∧ _); (refine eK ?_ ?_ <;> with_reducible repeat' (first | exact trivial | (show _ ∧ _; refine aK ?_ ?_)))))); all_goals clear fct)
        · with_reducible refine wK ?_
          rcases tgetP hd b with ⟨_, b1⟩ | ⟨i, y, b1, _⟩
          · rw [findR_none hd n1 (no_name b1)]
            (have fct := b1; (repeat' (first
    | refine gF ?_
    | ((with_reducible show (_ ∧ _) ∧ _ ∧ _); (refine eK ?_ ?_ <;> with_reducible repeat' (first | exact trivial | (show _ ∧ _; refine aK ?_ ?_)))))); all_goals clear fct)
          · rw [hxx] at b1; cases b1
      · rw [hxx] at a1; cases a1
end Go.Proofs.Heir
end
section
set_option linter.unusedSimpArgs false
set_option linter.unusedVariables false
namespace Go.Proofs.Heir
open Go.Am Go.RowKit Go.Lib
set_option maxRecDepth 100000
set_option maxHeartbeats 8000000
structure ShortD (d : DeskM) : Prop where
  defs : d.defs.length ≤ 40
  waits : d.waits.length ≤ 40
  names : ∀ x ∈ d.defs, x.name.size ≤ 300 ∧ x.locl.size ≤ 300
  wnames : ∀ w ∈ d.waits, w.name.size ≤ 300
theorem ShortD.small {d : DeskM} (h : ShortD d) : SmallD d := ⟨Nat.le_trans h.defs (by omega), Nat.le_trans h.waits (by omega)⟩
theorem upto_succ {α : Type} {P : α → Prop} {l : List α} {k : Nat} {a : α} (h : ∀ (j : Nat) (b : α), j < k → l[j]? = some b → P b) (ha : l[k]? = some a) (hp : P a) : ∀ (j : Nat) (b : α), j < k + 1 → l[j]? = some b → P b := fun j b hj hb => by
  by_cases e : j = k
  · subst e; rw [ha] at hb; cases hb; exact hp
  · exact h j b (by omega) hb
end Go.Proofs.Heir
end
section
set_option linter.unusedSimpArgs false
set_option linter.unusedVariables false
namespace Go.Proofs.Heir
open Go.Am Go.RowKit Go.Lib
set_option maxRecDepth 100000
set_option maxHeartbeats 8000000
end Go.Proofs.Heir
end
section
set_option linter.unusedSimpArgs false
set_option linter.unusedVariables false
namespace Go.Proofs.Heir
open Go.Am Go.RowKit Go.Lib
set_option maxRecDepth 100000
end Go.Proofs.Heir
end
section
set_option linter.unusedSimpArgs false
set_option linter.unusedVariables false
namespace Go.Proofs.Heir
open Go.Am Go.RowKit Go.Lib
set_option maxRecDepth 100000
theorem list_same {α : Type} {x y : List α} (hl : x.length = y.length) (h : ∀ j, j < x.length → x[j]? = y[j]?) : x = y := by
  refine List.ext_getElem? fun j => ?_
  rcases Nat.lt_or_ge j x.length with h6 | h6
  · exact h j h6
  · rw [List.getElem?_eq_none h6, List.getElem?_eq_none (by omega)]
theorem same_succ {α : Type} {x y : List α} {k : Nat} (h : ∀ j, j < k → x[j]? = y[j]?) (hk : x[k]? = y[k]?) : ∀ j, j < k + 1 → x[j]? = y[j]? := fun j hj => by
  by_cases e : j = k
  · rw [e]; exact hk
  · exact h j (by omega)
set_option maxHeartbeats 8000000
def shortX (x : DefM) : Bool := decide (x.name.size ≤ 300) && decide (x.locl.size ≤ 300)
def shortW (w : WaitM) : Bool := decide (w.name.size ≤ 300)
def shortB (d : DeskM) : Bool := decide (d.defs.length ≤ 40) && decide (d.waits.length ≤ 40) && d.defs.all shortX && d.waits.all shortW
theorem shortB_iff {d : DeskM} : shortB d = true ↔ ShortD d := by
  unfold shortB shortX shortW
  simp only [Bool.and_eq_true, decide_eq_true_eq, List.all_eq_true]
  exact ⟨fun h => ⟨h.1.1.1, h.1.1.2, h.1.2, h.2⟩, fun h => ⟨⟨⟨h.defs, h.waits⟩, h.names⟩, h.wnames⟩⟩
theorem all_upto {α : Type} {p : α → Bool} {l : List α} (h : ∀ (j : Nat) (b : α), j < l.length → l[j]? = some b → p b = true) : l.all p = true := by
  rw [List.all_eq_true]
  intro x hx
  obtain ⟨j, hj⟩ := List.getElem?_of_mem hx
  exact h j x (List.getElem?_eq_some_iff.1 hj).1 hj
theorem all_fails {α : Type} {p : α → Bool} {l : List α} {x : α} (hx : x ∈ l) (h : p x = false) : l.all p = false := by
  cases hh : l.all p with
  | false => rfl
  | true => rw [List.all_eq_true.1 hh x hx] at h; cases h
theorem f7_ok (d : DeskM) : FnOK Tryd.prog 7 [] [eDesk d] [] (eBool (shortB d)) := by
  obtain ⟨r, hr⟩ : ∃ r, shortB d = r := ⟨_, rfl⟩
  rw [hr]
  have hsh := @shortB_iff d
  rw [hr] at hsh
  obtain ⟨l, ws, nx, bz⟩ := d
  unfold shortB at hr
  simp only at hr
  have hlm : (l.map oDef).length = l.length := List.length_map ..
  have hwm : (ws.map oWait).length = ws.length := List.length_map ..
  refine FnOK.startC (rvs := [.tmp 2]) G G_good Tryd.func7 rfl Tryd.ntmps7 rfl rfl ?_; with_reducible refine wD ?_
  by_cases g1 : l.length ≤ 40
  · by_cases g2 : ws.length ≤ 40
    · (have fct := And.intro hlm (And.intro hwm (And.intro g1 (g2))); (repeat' (first
    | refine gF ?_
    | ((with_reducible show (_ ∧ _) ∧ _ ∧ _); (refine eK ?_ ?_ <;> with_reducible repeat' (first | exact trivial | (show _ ∧ _; refine aK ?_ ?_)))))); all_goals clear fct)
      refine LoopK.use G G_good (fun (k : Nat) => [(1, .ptr 10 0 0), (3, eInt k)]) (fun _ => [(10, .live 4 [eDesk ⟨l, ws, nx, bz⟩] false)]) (fun k => k ≤ l.length ∧ ∀ (j : Nat) (b : DefM), j < k → l[j]? = some b → shortX b = true) (fun k => l.length - k) 0 ⟨Nat.zero_le _, fun j b hj => by omega⟩
        ⟨⟨rfl, rfl⟩, ⟨⟨rfl, rfl⟩, rfl, trivial⟩, ⟨⟨rfl, rfl, rfl, rfl, trivial⟩, trivial⟩, trivial⟩ ?_
      intro k ⟨hk, hno⟩
      with_reducible refine wK ?_
      refine IfK.mk (fun h1 => ?_) (fun h1 => ?_) <;> (try simp only [castN] at h1) <;> with_reducible refine wK ?_
      · simp only [hlm, decide_eq_true_eq] at h1
        have hk' : k < l.length := by omega
        obtain ⟨⟨n, lo, c⟩, hx⟩ : ∃ a, l[k]? = some a := ⟨_, List.getElem?_eq_getElem hk'⟩
        have hf : shortX ⟨n, lo, c⟩ = false → r = false := fun h => by rw [← hr, all_fails (List.mem_of_getElem? hx) h]; simp
        refine IdxK.mk k (eDef ⟨n, lo, c⟩) rfl (def_get hx) ?_; with_reducible refine wK ?_
        by_cases e1 : n.size ≤ 300
        · by_cases e2 : lo.size ≤ 300
          · (have fct := And.intro e1 (e2); (repeat' (first
    | refine gF ?_
    | ((first
      | ((with_reducible show IdxK _ _ _ _ _); refine IdxK.mk k (eDef ⟨n, lo, c⟩) rfl (def_get hx) ?_)
      | ((with_reducible show NextK _ _); refine NextK.mk (k + 1) ⟨by omega, upto_succ (P := fun b => shortX b = true) hno hx (by unfold shortX; simp [e1, e2])⟩ (by omega) ⟨⟨rfl, rfl⟩, ⟨⟨rfl, rfl⟩, by show ((k + 1 : Nat) : Int) = (k : Int) + 1; omega, trivial⟩, ⟨⟨rfl, rfl, rfl, rfl, trivial⟩, trivial⟩, trivial⟩)) <;> with_reducible refine wK ?_)
    | ((with_reducible show (_ ∧ _) ∧ _ ∧ _); (refine eK ?_ ?_ <;> with_reducible repeat' (first | exact trivial | (show _ ∧ _; refine aK ?_ ?_)))))); all_goals clear fct)
          · rw [hf (by unfold shortX; simp [e2])]
            (have fct := And.intro e1 (e2); (repeat' (first
    | refine gF ?_
    | (((with_reducible show IdxK _ _ _ _ _); refine IdxK.mk k (eDef ⟨n, lo, c⟩) rfl (def_get hx) ?_) <;> with_reducible refine wK ?_)
    | ((with_reducible show (_ ∧ _) ∧ _ ∧ _); (refine eK ?_ ?_ <;> with_reducible repeat' (first | exact trivial | (show _ ∧ _; refine aK ?_ ?_)))))); all_goals clear fct)
        · rw [hf (by unfold shortX; simp [e1])]
          (have fct := e1; (repeat' (first
    | refine gF ?_
    | ((with_reducible show (_ ∧ _) ∧ _ ∧ _); (refine eK ?_ ?_ <;> with_reducible repeat' (first | exact trivial | (show _ ∧ _; refine aK ?_ ?_)))))); all_goals clear fct)
      · have hkl : k = l.length := by simp only [hlm, decide_eq_false_iff_not] at h1; omega
        subst hkl
        have hall1 := all_upto hno
        (have fct := hlm; (repeat' (first
    | refine gF ?_
    | ((with_reducible show (_ ∧ _) ∧ _ ∧ _); (refine eK ?_ ?_ <;> with_reducible repeat' (first | exact trivial | (show _ ∧ _; refine aK ?_ ?_)))))); all_goals clear fct)
        refine LoopK.use G G_good (fun (k : Nat) => [(1, .ptr 10 0 0), (4, eInt k)]) (fun _ => [(10, .live 4 [eDesk ⟨l, ws, nx, bz⟩] false)]) (fun k => k ≤ ws.length ∧ ∀ (j : Nat) (b : WaitM), j < k → ws[j]? = some b → shortW b = true) (fun k => ws.length - k) 0 ⟨Nat.zero_le _, fun j b hj => by omega⟩
          ⟨⟨rfl, rfl⟩, ⟨⟨rfl, rfl⟩, rfl, trivial⟩, ⟨⟨rfl, rfl, rfl, rfl, trivial⟩, trivial⟩, trivial⟩ ?_
        intro k ⟨hk, hno⟩
        with_reducible refine wK ?_
        refine IfK.mk (fun h2 => ?_) (fun h2 => ?_) <;> (try simp only [castN] at h2) <;> with_reducible refine wK ?_
        · simp only [hwm, decide_eq_true_eq] at h2
          have hk' : k < ws.length := by omega
          obtain ⟨⟨n, t⟩, hx⟩ : ∃ a, ws[k]? = some a := ⟨_, List.getElem?_eq_getElem hk'⟩
          have hf : shortW ⟨n, t⟩ = false → r = false := fun h => by rw [← hr, all_fails (List.mem_of_getElem? hx) h]; simp
          refine IdxK.mk k (eWait ⟨n, t⟩) rfl (wait_get hx) ?_; with_reducible refine wK ?_
          by_cases e1 : n.size ≤ 300
          · (have fct := e1; (repeat' (first
    | refine gF ?_
    | (((with_reducible show NextK _ _); refine NextK.mk (k + 1) ⟨by omega, upto_succ (P := fun b => shortW b = true) hno hx (by unfold shortW; simp [e1])⟩ (by omega) ⟨⟨rfl, rfl⟩, ⟨⟨rfl, rfl⟩, by show ((k + 1 : Nat) : Int) = (k : Int) + 1; omega, trivial⟩, ⟨⟨rfl, rfl, rfl, rfl, trivial⟩, trivial⟩, trivial⟩) <;> with_reducible refine wK ?_)
    | ((with_reducible show (_ ∧ _) ∧ _ ∧ _); (refine eK ?_ ?_ <;> with_reducible repeat' (first | exact trivial | (show _ ∧ _; refine aK ?_ ?_)))))); all_goals clear fct)
          · rw [hf (by unfold shortW; simp [e1])]
            (have fct := e1; (repeat' (first
    | refine gF ?_
    | ((with_reducible show (_ ∧ _) ∧ _ ∧ _); (refine eK ?_ ?_ <;> with_reducible repeat' (first | exact trivial | (show _ ∧ _; refine aK ?_ ?_)))))); all_goals clear fct)
        · have hkl : k = ws.length := by simp only [hwm, decide_eq_false_iff_not] at h2; omega
          subst hkl
          have hall2 := all_upto hno
          rw [show r = true by rw [← hr, hall1, hall2]; simp [g1, g2]]
          (have fct := hwm; (repeat' (first
    | refine gF ?_
    | ((with_reducible show (_ ∧ _) ∧ _ ∧ _); (refine eK ?_ ?_ <;> with_reducible repeat' (first | exact trivial | (show _ ∧ _; refine aK ?_ ?_)))))); all_goals clear fct)
    · rw [show r = false by rw [← hr]; simp [g2]]
      (have fct := And.intro hlm (And.intro hwm (And.intro g1 (g2))); (repeat' (first
    | refine gF ?_
    | ((with_reducible show (_ ∧ _) ∧ _ ∧ _); (refine eK ?_ ?_ <;> with_reducible repeat' (first | exact trivial | (show _ ∧ _; refine aK ?_ ?_)))))); all_goals clear fct)
  · rw [show r = false by rw [← hr]; simp [g1]]
    (have fct := And.intro hlm (g1); (repeat' (first
    | refine gF ?_
    | ((with_reducible show (_ ∧ _) ∧ _ ∧ _); (refine eK ?_ ?_ <;> with_reducible repeat' (first | exact trivial | (show _ ∧ _; refine aK ?_ ?_)))))); all_goals clear fct)
theorem f12_ok (a b : List Int) (ha : a.length ≤ 100000) : FnOK Tryd.prog 12 [] [eInts a, eInts b] [] (eBool (decide (a = b))) := by
  have hlm : (a.map oInt).length = a.length := List.length_map ..
  have hlm' : (b.map oInt).length = b.length := List.length_map ..
  refine FnOK.startC (rvs := [.tmp 4]) G G_good Tryd.func12 rfl Tryd.ntmps12 rfl rfl ?_; with_reducible refine wD ?_
  by_cases g1 : a.length = b.length
  · (have fct := And.intro hlm (And.intro hlm' (g1)); (repeat' (first
    | refine gF ?_
    | ((with_reducible show (_ ∧ _) ∧ _ ∧ _); (refine eK ?_ ?_ <;> with_reducible repeat' (first | exact trivial | (show _ ∧ _; refine aK ?_ ?_)))))); all_goals clear fct)
    refine LoopK.use G G_good (fun (k : Nat) => [(0, eInts a), (1, eInts b), (5, eInt k)]) (fun _ => []) (fun k => k ≤ a.length ∧ ∀ j, j < k → a[j]? = b[j]?) (fun k => a.length - k) 0 ⟨Nat.zero_le _, fun j hj => by omega⟩
      ⟨⟨rfl, rfl⟩, ⟨rfl, rfl, rfl, trivial⟩, trivial⟩ ?_
    intro k ⟨hk, hno⟩
    with_reducible refine wK ?_
    refine IfK.mk (fun h1 => ?_) (fun h1 => ?_) <;> (try simp only [castN] at h1) <;> with_reducible refine wK ?_
    · simp only [hlm, decide_eq_true_eq] at h1
      have hk' : k < a.length := by omega
      obtain ⟨x, hx⟩ : ∃ x, a[k]? = some x := ⟨_, List.getElem?_eq_getElem hk'⟩
      obtain ⟨y, hy⟩ : ∃ y, b[k]? = some y := ⟨_, List.getElem?_eq_getElem (by omega)⟩
      refine IdxK.mk k (eInt x) rfl (int_get hx) ?_; with_reducible refine wK ?_
      refine IdxK.mk k (eInt y) rfl (int_get hy) ?_; with_reducible refine wK ?_
      by_cases e : x = y
      · (have fct := e; (repeat' (first
    | refine gF ?_
    | (((with_reducible show NextK _ _); refine NextK.mk (k + 1) ⟨by omega, same_succ hno (by rw [hx, hy, e])⟩ (by omega) ⟨⟨rfl, rfl⟩, ⟨rfl, rfl, by show ((k + 1 : Nat) : Int) = (k : Int) + 1; omega, trivial⟩, trivial⟩) <;> with_reducible refine wK ?_)
    | ((with_reducible show (_ ∧ _) ∧ _ ∧ _); (refine eK ?_ ?_ <;> with_reducible repeat' (first | exact trivial | (show _ ∧ _; refine aK ?_ ?_)))))); all_goals clear fct)
      · rw [show decide (a = b) = false from decide_eq_false fun h => e (by rw [h] at hx; rw [hx] at hy; exact Option.some.inj hy)]
        (have fct := e; (repeat' (first
    | refine gF ?_
    | ((with_reducible show (_ ∧ _) ∧ _ ∧ _); (refine eK ?_ ?_ <;> with_reducible repeat' (first | exact trivial | (show _ ∧ _; refine aK ?_ ?_)))))); all_goals clear fct)
    · have hkl : k = a.length := by simp only [hlm, decide_eq_false_iff_not] at h1; omega
      subst hkl
      rw [show decide (a = b) = true from decide_eq_true (list_same g1 hno)]
      (have fct := hlm; (repeat' (first
    | refine gF ?_
    | ((with_reducible show (_ ∧ _) ∧ _ ∧ _); (refine eK ?_ ?_ <;> with_reducible repeat' (first | exact trivial | (show _ ∧ _; refine aK ?_ ?_)))))); all_goals clear fct)
  · rw [show decide (a = b) = false from decide_eq_false fun h => g1 (by rw [h])]
    (have fct := And.intro hlm (And.intro hlm' (g1)); (repeat' (first
    | refine gF ?_
    | ((with_reducible show (_ ∧ _) ∧ _ ∧ _); (refine eK ?_ ?_ <;> with_reducible repeat' (first | exact trivial | (show _ ∧ _; refine aK ?_ ?_)))))); all_goals clear fct)
end Go.Proofs.Heir
end
section
set_option linter.unusedSimpArgs false
set_option linter.unusedVariables false
namespace Go.Proofs.Heir
open Go Go.Am Go.RowKit Go.Lib
set_option maxRecDepth 100000
set_option maxHeartbeats 8000000
theorem f24_ok (f : ForM) (n : Int) : FnOK Tryd.prog 24 [] [eFor f, eInt n] [] (.clo (.func 38) [] [.fptr (eFor f) 0, .fptr (eInt n) 0]) := by
  obtain ⟨l, m⟩ := f
  refine FnOK.startC (rvs := [.tmp 4]) G G_good Tryd.func24 rfl Tryd.ntmps24 rfl rfl ?_; with_reducible refine wD ?_
  refine ⟨⟨rfl, rfl⟩, ⟨rfl, trivial, ⟨_, _, _, _, _, rfl, rfl, rfl, rfl, rfl, ⟨rfl, rfl, trivial⟩⟩, ⟨_, _, _, _, _, rfl, rfl, rfl, rfl, rfl, rfl⟩, trivial⟩, ?_⟩
  exact trivial
def bornM (s i : ByteArray) : Int := if (!decide (i = ⟨#[]⟩) || customS s) = true then 1 else 0
theorem f15_ok (s i : ByteArray) : FnOK Tryd.prog 15 [] [eStr s, eStr i] [] (eInt (bornM s i)) := by
  have h42 := f25_ok s
  unfold bornM
  refine FnOK.startC (rvs := [.tmp 4]) G G_good Tryd.func15 rfl Tryd.ntmps15 rfl rfl ?_; with_reducible refine wD ?_
  cases e : decide (i = ⟨#[]⟩) with
  | true =>
    cases hc : customS s <;> rw [hc] at h42 <;> (have fct := e; (repeat' (first
    | refine gF ?_
    | (((with_reducible show CallK _ _ 25 _ _ _ _); refine CallK.lit [] h42 c25 ⟨rfl, trivial⟩ rfl rfl ?_) <;> with_reducible refine wK ?_)
    | ((with_reducible show (_ ∧ _) ∧ _ ∧ _); (refine eK ?_ ?_ <;> with_reducible repeat' (first | exact trivial | (show _ ∧ _; refine aK ?_ ?_)))))); all_goals clear fct)
    all_goals rfl
  | false =>
    (have fct := e; (repeat' (first
    | refine gF ?_
    | ((with_reducible show (_ ∧ _) ∧ _ ∧ _); (refine eK ?_ ?_ <;> with_reducible repeat' (first | exact trivial | (show _ ∧ _; refine aK ?_ ?_)))))); all_goals clear fct)
    all_goals rfl
def fateD (x : NodeM) (d : DeskM) : Int := if x.kind = 1 ∧ x.doc = 0 then findD d x.name x.is else -1
theorem f23_ok (x : NodeM) (d : DeskM) (h : SmallD d) : FnOK Tryd.prog 23 [] [eNode x, eDesk d] [] (eInt (fateD x d)) := by
  have h78 := f16_ok d h x.name x.is
  obtain ⟨a1, a2, a3, a4, a5, a6, a7, a8, a9, a10⟩ := x
  obtain ⟨d1, d2, d3, d4⟩ := d
  unfold fateD
  simp only at h78 ⊢
  refine FnOK.startC (rvs := [.tmp 4]) G G_good Tryd.func23 rfl Tryd.ntmps23 rfl rfl ?_; with_reducible refine wD ?_
  by_cases e1 : a1 = 1
  · subst e1
    by_cases e2 : a10 = 0
    · subst e2
      rw [if_pos ⟨rfl, rfl⟩]
      repeat' (first
    | refine gK ?_
    | (((with_reducible show CallK _ _ 16 _ _ _ _); refine CallK.lit [] h78 c16 ⟨⟨rfl, rfl, rfl, rfl, trivial⟩, rfl, rfl, trivial⟩ rfl rfl ?_) <;> with_reducible refine wK ?_)
    | ((with_reducible show (_ ∧ _) ∧ _ ∧ _); (refine eK ?_ ?_ <;> with_reducible repeat' (first | exact trivial | (show _ ∧ _; refine aK ?_ ?_)))))
    · rw [if_neg fun h => e2 h.2]
      (have fct := e2; (repeat' (first
    | refine gF ?_
    | ((with_reducible show (_ ∧ _) ∧ _ ∧ _); (refine eK ?_ ?_ <;> with_reducible repeat' (first | exact trivial | (show _ ∧ _; refine aK ?_ ?_)))))); all_goals clear fct)
  · rw [if_neg fun h => e1 h.1]
    (have fct := e1; (repeat' (first
    | refine gF ?_
    | ((with_reducible show (_ ∧ _) ∧ _ ∧ _); (refine eK ?_ ?_ <;> with_reducible repeat' (first | exact trivial | (show _ ∧ _; refine aK ?_ ?_)))))); all_goals clear fct)
def fateF (f : ForM) (n : Int) (d : DeskM) : Int := if (thereN f.nodes n && rightF f) = true then fateD (nd f.nodes n) d else -1
theorem f11_ok (f : ForM) (hs : SmallN f.nodes) (n : Int) (d : DeskM) (h : SmallD d) : FnOK Tryd.prog 11 [] [eFor f, eInt n, eDesk d] [] (eInt (fateF f n d)) := by
  have h48 := f8_ok f hs
  have h49 := fun x => f23_ok x d h
  obtain ⟨l, m⟩ := f
  obtain ⟨d1, d2, d3, d4⟩ := d
  have hlm : (l.map oNode).length = l.length := List.length_map ..
  unfold fateF
  simp only at h48 h49 ⊢
  refine FnOK.startC (rvs := [.tmp 6]) G G_good Tryd.func11 rfl Tryd.ntmps11 rfl rfl ?_; with_reducible refine wD ?_
  by_cases e1 : n < 0
  · have e : thereN l n = false := by unfold thereN; rw [decide_eq_false (show ¬ 0 ≤ n by omega)]; rfl
    rw [e, Bool.false_and, if_neg (by simp)]
    (have fct := e1; (repeat' (first
    | refine gF ?_
    | ((with_reducible show (_ ∧ _) ∧ _ ∧ _); (refine eK ?_ ?_ <;> with_reducible repeat' (first | exact trivial | (show _ ∧ _; refine aK ?_ ?_)))))); all_goals clear fct)
  by_cases e2 : (l.length : Int) ≤ n
  · have e : thereN l n = false := by unfold thereN; rw [decide_eq_false (show ¬ n < (l.length : Int) by omega)]; simp
    rw [e, Bool.false_and, if_neg (by simp)]
    (have fct := And.intro hlm (And.intro (eq_false e1) (e2)); (repeat' (first
    | refine gF ?_
    | ((with_reducible show (_ ∧ _) ∧ _ ∧ _); (refine eK ?_ ?_ <;> with_reducible repeat' (first | exact trivial | (show _ ∧ _; refine aK ?_ ?_)))))); all_goals clear fct)
  have e : thereN l n = true := by unfold thereN; simp; omega
  rw [e, Bool.true_and]
  cases hr : rightF ⟨l, m⟩ with
  | false =>
    rw [hr] at h48
    rw [if_neg (by simp)]
    (have fct := And.intro hlm (And.intro (eq_false e1) ((eq_false e2))); (repeat' (first
    | refine gF ?_
    | (((with_reducible show CallK _ _ 8 _ _ _ _); refine CallK.lit [] h48 c8 ⟨⟨rfl, rfl, trivial⟩, trivial⟩ rfl rfl ?_) <;> with_reducible refine wK ?_)
    | ((with_reducible show (_ ∧ _) ∧ _ ∧ _); (refine eK ?_ ?_ <;> with_reducible repeat' (first | exact trivial | (show _ ∧ _; refine aK ?_ ?_)))))); all_goals clear fct)
  | true =>
    rw [hr] at h48
    rw [if_pos rfl]
    obtain ⟨k, x, rfl, hx, hnx⟩ := there_iff.1 e
    have h49 := h49 x
    rw [hnx]
    obtain ⟨a1, a2, a3, a4, a5, a6, a7, a8, a9, a10⟩ := x
    (have fct := And.intro hlm (And.intro (eq_false e1) ((eq_false e2))); (repeat' (first
    | refine gF ?_
    | ((first
      | ((with_reducible show CallK _ _ 8 _ _ _ _); refine CallK.lit [] h48 c8 ⟨⟨rfl, rfl, trivial⟩, trivial⟩ rfl rfl ?_)
      | ((with_reducible show IdxK _ _ _ _ _); refine IdxK.mk k (eNode ⟨a1, a2, a3, a4, a5, a6, a7, a8, a9, a10⟩) rfl (node_get hx) ?_)
      | ((with_reducible show CallK _ _ 23 _ _ _ _); refine CallK.lit [] h49 c23 ⟨⟨rfl, rfl, rfl, rfl, rfl, rfl, rfl, rfl, rfl, rfl, trivial⟩, ⟨rfl, rfl, rfl, rfl, trivial⟩, trivial⟩ rfl rfl ?_)) <;> with_reducible refine wK ?_)
    | ((with_reducible show (_ ∧ _) ∧ _ ∧ _); (refine eK ?_ ?_ <;> with_reducible repeat' (first | exact trivial | (show _ ∧ _; refine aK ?_ ?_)))))); all_goals clear fct)
end Go.Proofs.Heir
end
section
set_option linter.unusedSimpArgs false
set_option linter.unusedVariables false
namespace Go.Proofs.Heir
open Go Go.Am Go.RowKit Go.Lib
set_option maxRecDepth 100000
set_option maxHeartbeats 8000000
def isHeir (x : DefM) (y : NodeM) : Bool := decide (y.name = x.locl) && (decide (y.is = x.name) || decide (y.name = x.name))
def heirsU (f : ForM) (x : DefM) : List Int := (elemsU f.nodes (allU f 0)).filter fun c => isHeir x (nd f.nodes c)
theorem allU_there {f : ForM} {n : Int} : ∀ c ∈ allU f n, thereN f.nodes c = true := by
  intro c hc
  unfold allU at hc
  split at hc
  · rename_i h
    obtain ⟨hr, hn⟩ : rightF f = true ∧ thereN f.nodes n = true := by simpa using h
    exact (U.ord_way (U.tree_of hr) _ n hn c hc).1
  · simp at hc
theorem allU_len {f : ForM} {n : Int} : (allU f n).length ≤ f.nodes.length := by
  unfold allU
  split
  · rename_i h
    obtain ⟨hr, hn⟩ : rightF f = true ∧ thereN f.nodes n = true := by simpa using h
    exact U.ord_len (U.tree_of hr) _ hn
  · simp
theorem each_it' (f : ForM) (hs : SmallN f.nodes) (n : Int) : ItOK Tryd.prog 38 [.fptr (eFor f) 0, .fptr (eInt n) 0] (elemsU f.nodes (allU f n)).length (fun k => [oInt (((elemsU f.nodes (allU f n))[k]?).getD 0), eNode (nd f.nodes (((elemsU f.nodes (allU f n))[k]?).getD 0))]) := each_it f n (allU f n) (Nat.le_trans allU_len (by have := hs.len; omega)) allU_there (f21_ok f hs n) c21
theorem f13_ok (f : ForM) (hs : SmallN f.nodes) (x : DefM) : FnOK Tryd.prog 13 [] [eFor f, eDef x] [] (eInts (heirsU f x)) := by
  have h50 := f24_ok f 0
  have hit := each_it' f hs 0
  obtain ⟨es, hes⟩ : ∃ es, es = elemsU f.nodes (allU f 0) := ⟨_, rfl⟩
  rw [← hes] at hit
  unfold heirsU
  rw [← hes]
  have hel : es.length ≤ 60 := by
    rw [hes]; unfold elemsU
    exact Nat.le_trans (List.length_filter_le _ _) (Nat.le_trans allU_len hs.len)
  obtain ⟨l, m⟩ := f
  obtain ⟨x1, x2, x3⟩ := x
  simp only at hit hel ⊢
  refine FnOK.startC (rvs := [.tmp 4]) G G_good Tryd.func13 rfl Tryd.ntmps13 rfl rfl ?_; with_reducible refine wD ?_
  refine CallK.val [] h50 c24 ⟨⟨rfl, rfl, trivial⟩, rfl, trivial⟩ rfl rfl rfl ?_; with_reducible refine wK ?_
  repeat' (first
    | refine gK ?_
    | ((with_reducible show (_ ∧ _) ∧ _ ∧ _); (refine eK ?_ ?_ <;> with_reducible repeat' (first | exact trivial | (show _ ∧ _; refine aK ?_ ?_)))))
  refine LoopK.ghostRow 5 50 57 1 0 0 (.lit (.slice none 0 0)) (.own 57 0 0) rfl rfl rfl rfl rfl rfl ?_
  obtain ⟨ks, hks⟩ : ∃ ks : Nat → List Int, ks = fun k => (es.take k).filter fun c => isHeir ⟨x1, x2, x3⟩ (nd l c) := ⟨_, rfl⟩
  have hkl : ∀ k, (ks k).length ≤ 60 := fun k => by
    rw [hks]; exact Nat.le_trans (List.length_filter_le _ _) (by rw [List.length_take]; omega)
  have hk0 : ks 0 = [] := by rw [hks]; rfl
  have hstep : ∀ (k : Nat) (c : Int), es[k]? = some c → ks (k + 1) = ks k ++ if isHeir ⟨x1, x2, x3⟩ (nd l c) = true then [c] else [] := fun k c hc => by
    rw [hks]; show ((es.take (k + 1)).filter _) = _
    rw [List.take_add_one, hc, List.filter_append]
    congr 1
    show List.filter _ [c] = _
    rw [List.filter_cons]; rfl
  refine LoopK.range G G_good 2 [(3, .ptr 1 0 0), (5, .ptr 0 0 0), (9, .clo (.func 38) [] [.fptr (eFor ⟨l, m⟩) 0, .fptr (eInt 0) 0])]
    (fun k => [(0, .live 1 [.own 57 0 (ks k).length] false), (1, .live 3 [eDef ⟨x1, x2, x3⟩] false), (57, rInts (ks k))])
    hit c38 ?_ rfl ⟨⟨rfl, rfl⟩, rfl⟩ (fun _ _ => rfl) (fun _ _ => rfl) ⟨⟨rfl, rfl⟩, rfl, rfl⟩ ?_ ?_
  · rw [hk0]
    (refine fK ?_; (with_reducible repeat' (first | exact trivial | (show _ ∧ _; refine aK ?_ ?_))); (all_goals try rfl))
    · exact ⟨⟨rfl, rfl⟩, trivial⟩
    · exact ⟨.refl rfl, rfl⟩
    · show ObjK (MF _ _ _ 12) [] []
      exact ⟨.refl rfl, rfl⟩
  · intro k hk
    obtain ⟨c, hc⟩ : ∃ c, es[k]? = some c := ⟨_, List.getElem?_eq_getElem hk⟩
    rw [hc, Option.getD_some, show oInt c = eInt c from rfl]
    generalize hy : nd l c = y
    obtain ⟨a1, a2, a3, a4, a5, a6, a7, a8, a9, a10⟩ := y
    have hst := hstep k c hc
    rw [hy] at hst
    have hkk := hkl k
    have turn0 : isHeir ⟨x1, x2, x3⟩ ⟨a1, a2, a3, a4, a5, a6, a7, a8, a9, a10⟩ = false → ks (k + 1) = ks k := fun h => by rw [hst, h]; simp
    have turn1 : isHeir ⟨x1, x2, x3⟩ ⟨a1, a2, a3, a4, a5, a6, a7, a8, a9, a10⟩ = true → ks (k + 1) = ks k ++ [c] := fun h => by rw [hst, h]; simp
    clear hst hstep hit hy
    with_reducible refine wK ?_
    refine BodyK.mk rfl ?_; with_reducible refine wK ?_
    by_cases e1 : a2 = x2
    · by_cases e2 : a3 = x1
      · have h0 := turn1 (by unfold isHeir; rw [decide_eq_true e1, decide_eq_true e2]; rfl)
        (have fct := And.intro (eq_true e1) ((eq_true e2)); (repeat' (first
    | refine gF ?_
    | ((first
      | ((with_reducible show ElemK _ _ _ _ _); refine ElemK.mk (.agg [eStr x1, eStr x2, eInt x3]) rfl ?_)
      | ((with_reducible show AppK _ _ _ _ _ _ _ _ _ _); refine AppK.mk ((ks k).map oInt) [eInt c] ⟨rfl, (List.length_map ..).symm, rfl⟩ ⟨rfl, rfl, rfl⟩ rfl (by simp; omega) (by simp; omega) ?_)) <;> with_reducible refine wK ?_)
    | ((with_reducible show (_ ∧ _) ∧ _ ∧ _); (refine eK ?_ ?_ <;> with_reducible repeat' (first | exact trivial | (show _ ∧ _; refine aK ?_ ?_)))))); all_goals clear fct)
        refine TurnK.mk ?_
        rw [h0]
        (refine fK ?_; (with_reducible repeat' (first | exact trivial | (show _ ∧ _; refine aK ?_ ?_))); (all_goals try rfl))
        · simp
        · exact ⟨.refl rfl, rfl⟩
        · refine ⟨?_, noRef_ints _⟩
          rw [List.map_append]; exact .refl (by rw [← List.map_append]; exact noRef_ints _)
      · by_cases e3 : a2 = x1
        · have h0 := turn1 (by unfold isHeir; rw [decide_eq_true e1, decide_eq_true e3, Bool.or_true]; rfl)
          (have fct := And.intro (eq_true e1) (And.intro (eq_false e2) ((eq_true e3))); (repeat' (first
    | refine gF ?_
    | ((first
      | ((with_reducible show ElemK _ _ _ _ _); refine ElemK.mk (.agg [eStr x1, eStr x2, eInt x3]) rfl ?_)
      | ((with_reducible show AppK _ _ _ _ _ _ _ _ _ _); refine AppK.mk ((ks k).map oInt) [eInt c] ⟨rfl, (List.length_map ..).symm, rfl⟩ ⟨rfl, rfl, rfl⟩ rfl (by simp; omega) (by simp; omega) ?_)) <;> with_reducible refine wK ?_)
    | ((with_reducible show (_ ∧ _) ∧ _ ∧ _); (refine eK ?_ ?_ <;> with_reducible repeat' (first | exact trivial | (show _ ∧ _; refine aK ?_ ?_)))))); all_goals clear fct)
          refine TurnK.mk ?_
          rw [h0]
          (refine fK ?_; (with_reducible repeat' (first | exact trivial | (show _ ∧ _; refine aK ?_ ?_))); (all_goals try rfl))
          · simp
          · exact ⟨.refl rfl, rfl⟩
          · refine ⟨?_, noRef_ints _⟩
            rw [List.map_append]; exact .refl (by rw [← List.map_append]; exact noRef_ints _)
        · have h0 := turn0 (by unfold isHeir; rw [decide_eq_true e1, decide_eq_false e2, decide_eq_false e3]; rfl)
          (have fct := And.intro (eq_true e1) (And.intro (eq_false e2) ((eq_false e3))); (repeat' (first
    | refine gF ?_
    | (((with_reducible show ElemK _ _ _ _ _); refine ElemK.mk (.agg [eStr x1, eStr x2, eInt x3]) rfl ?_) <;> with_reducible refine wK ?_)
    | ((with_reducible show (_ ∧ _) ∧ _ ∧ _); (refine eK ?_ ?_ <;> with_reducible repeat' (first | exact trivial | (show _ ∧ _; refine aK ?_ ?_)))))); all_goals clear fct)
          refine TurnK.mk ?_
          rw [h0]
          (refine fK ?_; (with_reducible repeat' (first | exact trivial | (show _ ∧ _; refine aK ?_ ?_))); (all_goals try rfl))
          · exact ⟨.refl rfl, rfl⟩
          · exact ⟨.refl (noRef_ints _), noRef_ints _⟩
    · have h0 := turn0 (by unfold isHeir; rw [decide_eq_false e1]; rfl)
      (have fct := (eq_false e1); (repeat' (first
    | refine gF ?_
    | (((with_reducible show ElemK _ _ _ _ _); refine ElemK.mk (.agg [eStr x1, eStr x2, eInt x3]) rfl ?_) <;> with_reducible refine wK ?_)
    | ((with_reducible show (_ ∧ _) ∧ _ ∧ _); (refine eK ?_ ?_ <;> with_reducible repeat' (first | exact trivial | (show _ ∧ _; refine aK ?_ ?_)))))); all_goals clear fct)
      refine TurnK.mk ?_
      rw [h0]
      (refine fK ?_; (with_reducible repeat' (first | exact trivial | (show _ ∧ _; refine aK ?_ ?_))); (all_goals try rfl))
      · exact ⟨.refl rfl, rfl⟩
      · exact ⟨.refl (noRef_ints _), noRef_ints _⟩
  · with_reducible refine wK ?_
    have hke : ks es.length = es.filter fun c => isHeir ⟨x1, x2, x3⟩ (nd l c) := by rw [hks]; show List.filter _ (es.take es.length) = _; rw [List.take_length]
    rw [← hke]
    (refine eK ?_ ?_ <;> with_reducible repeat' (first | exact trivial | (show _ ∧ _; refine aK ?_ ?_)))
    all_goals exact frz_ints rfl rfl rfl rfl
end Go.Proofs.Heir
end
section
set_option linter.unusedSimpArgs false
set_option linter.unusedVariables false
namespace Go.Proofs.Heir
open Go Go.Am Go.RowKit Go.Lib
set_option maxRecDepth 100000
set_option maxHeartbeats 8000000
theorem f22_ok (f : ForM) (n : Int) (hn : thereN f.nodes n = true) : FnOK Tryd.prog 22 [] [eInt n, .fptr (eFor f) 0] [] (eBool (!decide ((nd f.nodes n).kind = 1))) := by
  obtain ⟨l, m⟩ := f
  obtain ⟨k, x, rfl, hx, hnx⟩ := there_iff.1 hn
  simp only at hx hnx ⊢
  rw [hnx]
  obtain ⟨a1, a2, a3, a4, a5, a6, a7, a8, a9, a10⟩ := x
  refine FnOK.startC (rvs := [.tmp 3]) G G_good Tryd.func22 rfl Tryd.ntmps22 rfl rfl ?_; with_reducible refine wD ?_
  refine IdxK.mk k (eNode ⟨a1, a2, a3, a4, a5, a6, a7, a8, a9, a10⟩) rfl (node_get hx) ?_; with_reducible refine wK ?_
  repeat' (first
    | refine gK ?_
    | ((with_reducible show (_ ∧ _) ∧ _ ∧ _); (refine eK ?_ ?_ <;> with_reducible repeat' (first | exact trivial | (show _ ∧ _; refine aK ?_ ?_)))))
theorem f10_ok (f : ForM) (hs : SmallN f.nodes) (n : Int) (e0 : (rightF f && thereN f.nodes n) = true) : FnOK Tryd.prog 10 [] [eFor f, eInt n] [] (eInts (elemsU f.nodes (allU f n))) := by
  have h21 := f21_own f hs n e0
  have hlen : (allU f n).length ≤ 100000 := Nat.le_trans allU_len (Nat.le_trans hs.len (by omega))
  have h20 := f20_ok f (fun c => !decide ((nd f.nodes c).kind = 1)) (allU f n) hlen 22 c22 (fun a ha => f22_ok f a (allU_there a ha))
  have ek : keptI (fun c => !decide ((nd f.nodes c).kind = 1)) (allU f n) = elemsU f.nodes (allU f n) := by unfold keptI elemsU; simp
  rw [ek] at h20
  obtain ⟨es, hes⟩ : ∃ es, es = elemsU f.nodes (allU f n) := ⟨_, rfl⟩
  obtain ⟨al, hal⟩ : ∃ al, al = allU f n := ⟨_, rfl⟩
  rw [← hes] at h20 ⊢
  rw [← hal] at h20 h21 hlen
  clear hes hal ek
  obtain ⟨l, m⟩ := f
  refine FnOK.startC (rvs := [.tmp 4]) G G_good Tryd.func10 rfl Tryd.ntmps10 rfl rfl ?_; with_reducible refine wD ?_
  refine CallK.new 71 [] h21 c21 ⟨⟨rfl, rfl, trivial⟩, rfl, trivial⟩ rfl rfl rfl ?_ rfl ?_
  · exact ⟨Wide.of_mem fun r hr => by obtain ⟨a, _, rfl⟩ := List.mem_map.1 hr; rfl, noRef_ints al, trivial⟩
  with_reducible refine wK ?_
  repeat' (first
    | refine gK ?_
    | ((with_reducible show (_ ∧ _) ∧ _ ∧ _); (refine eK ?_ ?_ <;> with_reducible repeat' (first | exact trivial | (show _ ∧ _; refine aK ?_ ?_)))))
  refine CallK.lend (news := [.live 2 [eFor ⟨l, m⟩] false, rInts (es ++ List.replicate (al.length - es.length) 0)]) [20, 71] [] h20 c20 ⟨⟨rfl, rfl⟩, ⟨rfl, trivial, ⟨rfl, rfl⟩, trivial⟩, trivial⟩ ⟨⟨rfl, .inl ⟨rfl, rfl⟩⟩, ⟨rfl, .inl ⟨rfl, noRef_ints al⟩⟩, trivial⟩ rfl ⟨⟨rfl, rfl⟩, rfl⟩ rfl ⟨⟨rfl, .inl ⟨rfl, rfl⟩⟩, ⟨rfl, .inl ⟨rfl, noRef_ints _⟩⟩, trivial⟩ rfl rfl ?_
  with_reducible refine wK ?_
  repeat' (first
    | refine gK ?_
    | ((with_reducible show (_ ∧ _) ∧ _ ∧ _); (refine eK ?_ ?_ <;> with_reducible repeat' (first | exact trivial | (show _ ∧ _; refine aK ?_ ?_)))))
  all_goals exact .cut rfl rfl (by simp) (by rw [List.drop_zero, List.map_append, List.take_left' (List.length_map ..)]) (noRef_ints es)
end Go.Proofs.Heir
end
section
set_option linter.unusedSimpArgs false
set_option linter.unusedVariables false
namespace Go.Proofs.Heir
open Go Go.Am
set_option maxRecDepth 100000
set_option maxHeartbeats 8000000
theorem mt78 : MapTy Tryd.prog 111 .string (.agg #[.string ByteArray.empty, .string ByteArray.empty]) := ⟨9, 108, by kernel_rfl, by kernel_rfl, fun w => Tryd.zeroValue108 w⟩
noncomputable def fnsT : List (Nat × Func) := [(6, Tryd.f6), (12, Tryd.f12), (17, Tryd.f17), (25, Tryd.f25), (8, Tryd.f8), (44, Tryd.f44), (26, Tryd.f26), (27, Tryd.f27), (39, Tryd.f39), (42, Tryd.f42), (45, Tryd.f45), (18, Tryd.f18), (64, Tryd.f64), (46, Tryd.f46), (47, Tryd.f47), (48, Tryd.f48), (61, Tryd.f61), (28, Tryd.f28), (29, Tryd.f29), (30, Tryd.f30), (31, Tryd.f31), (32, Tryd.f32), (33, Tryd.f33), (58, Tryd.f58), (65, Tryd.f65), (66, Tryd.f66), (67, Tryd.f67), (68, Tryd.f68), (69, Tryd.f69), (49, Tryd.f49), (50, Tryd.f50), (51, Tryd.f51), (52, Tryd.f52), (53, Tryd.f53), (54, Tryd.f54), (55, Tryd.f55), (35, Tryd.f35), (78, Tryd.f78), (79, Tryd.f79), (80, Tryd.f80), (70, Tryd.f70), (71, Tryd.f71), (72, Tryd.f72), (73, Tryd.f73), (74, Tryd.f74), (89, Tryd.f89), (90, Tryd.f90), (83, Tryd.f83), (96, Tryd.f96)]
def kindsT : List (Nat × IntKind) := [(3, .i64), (5, .u8), (21, .i32), (52, .i64)]
theorem fnsT_ok : ∀ p ∈ fnsT, Tryd.prog.funcs[p.1]? = some p.2 ∧ Callable Tryd.prog p.1 := List.forall_mem_cons.2 ⟨⟨Tryd.func6, c6⟩, List.forall_mem_cons.2 ⟨⟨Tryd.func12, c12⟩, List.forall_mem_cons.2 ⟨⟨Tryd.func17, c17⟩, List.forall_mem_cons.2 ⟨⟨Tryd.func25, c25⟩, List.forall_mem_cons.2 ⟨⟨Tryd.func8, c8⟩, List.forall_mem_cons.2 ⟨⟨Tryd.func44, c44⟩, List.forall_mem_cons.2 ⟨⟨Tryd.func26, c26⟩, List.forall_mem_cons.2 ⟨⟨Tryd.func27, c27⟩, List.forall_mem_cons.2 ⟨⟨Tryd.func39, c39⟩, List.forall_mem_cons.2 ⟨⟨Tryd.func42, c42⟩, List.forall_mem_cons.2 ⟨⟨Tryd.func45, c45⟩, List.forall_mem_cons.2 ⟨⟨Tryd.func18, c18⟩, List.forall_mem_cons.2 ⟨⟨Tryd.func64, c64⟩, List.forall_mem_cons.2 ⟨⟨Tryd.func46, c46⟩, List.forall_mem_cons.2 ⟨⟨Tryd.func47, c47⟩, List.forall_mem_cons.2 ⟨⟨Tryd.func48, c48⟩, List.forall_mem_cons.2 ⟨⟨Tryd.func61, c61⟩, List.forall_mem_cons.2 ⟨⟨Tryd.func28, c28⟩, List.forall_mem_cons.2 ⟨⟨Tryd.func29, c29⟩, List.forall_mem_cons.2 ⟨⟨Tryd.func30, c30⟩, List.forall_mem_cons.2 ⟨⟨Tryd.func31, c31⟩, List.forall_mem_cons.2 ⟨⟨Tryd.func32, c32⟩, List.forall_mem_cons.2 ⟨⟨Tryd.func33, c33⟩, List.forall_mem_cons.2 ⟨⟨Tryd.func58, c58⟩, List.forall_mem_cons.2 ⟨⟨Tryd.func65, c65⟩, List.forall_mem_cons.2 ⟨⟨Tryd.func66, c66⟩, List.forall_mem_cons.2 ⟨⟨Tryd.func67, c67⟩, List.forall_mem_cons.2 ⟨⟨Tryd.func68, c68⟩, List.forall_mem_cons.2 ⟨⟨Tryd.func69, c69⟩, List.forall_mem_cons.2 ⟨⟨Tryd.func49, c49⟩, List.forall_mem_cons.2 ⟨⟨Tryd.func50, c50⟩, List.forall_mem_cons.2 ⟨⟨Tryd.func51, c51⟩, List.forall_mem_cons.2 ⟨⟨Tryd.func52, c52⟩, List.forall_mem_cons.2 ⟨⟨Tryd.func53, c53⟩, List.forall_mem_cons.2 ⟨⟨Tryd.func54, c54⟩, List.forall_mem_cons.2 ⟨⟨Tryd.func55, c55⟩, List.forall_mem_cons.2 ⟨⟨Tryd.func35, c35⟩, List.forall_mem_cons.2 ⟨⟨Tryd.func78, c78⟩, List.forall_mem_cons.2 ⟨⟨Tryd.func79, c79⟩, List.forall_mem_cons.2 ⟨⟨Tryd.func80, c80⟩, List.forall_mem_cons.2 ⟨⟨Tryd.func70, c70⟩, List.forall_mem_cons.2 ⟨⟨Tryd.func71, c71⟩, List.forall_mem_cons.2 ⟨⟨Tryd.func72, c72⟩, List.forall_mem_cons.2 ⟨⟨Tryd.func73, c73⟩, List.forall_mem_cons.2 ⟨⟨Tryd.func74, c74⟩, List.forall_mem_cons.2 ⟨⟨Tryd.func89, c89⟩, List.forall_mem_cons.2 ⟨⟨Tryd.func90, c90⟩, List.forall_mem_cons.2 ⟨⟨Tryd.func83, c83⟩, List.forall_mem_cons.2 ⟨⟨Tryd.func96, c96⟩, fun _ h => by simp at h⟩⟩⟩⟩⟩⟩⟩⟩⟩⟩⟩⟩⟩⟩⟩⟩⟩⟩⟩⟩⟩⟩⟩⟩⟩⟩⟩⟩⟩⟩⟩⟩⟩⟩⟩⟩⟩⟩⟩⟩⟩⟩⟩⟩⟩⟩⟩⟩⟩
theorem kindsT_ok : ∀ p ∈ kindsT, Tryd.prog.underlying p.1 = some (.int p.2) := List.forall_mem_cons.2 ⟨by kernel_rfl, List.forall_mem_cons.2 ⟨by kernel_rfl, List.forall_mem_cons.2 ⟨by kernel_rfl, List.forall_mem_cons.2 ⟨by kernel_rfl, fun _ h => by simp at h⟩⟩⟩⟩
def mapsT : MEnv := [(60, .int .i64, .int .i64 0), (111, .string, .agg #[.string ByteArray.empty, .string ByteArray.empty])]
theorem mapsT_ok : MEnv.Good Tryd.prog mapsT := List.forall_mem_cons.2 ⟨mt74, List.forall_mem_cons.2 ⟨mt78, fun _ h => by simp at h⟩⟩
end Go.Proofs.Heir
end
section
set_option linter.unusedSimpArgs false
set_option linter.unusedVariables false
namespace Go.Proofs.Heir
open Go Go.Am Go.RowKit Go.Lib
set_option maxRecDepth 100000
set_option maxHeartbeats 8000000
theorem i32_run (s t : TypeId) (c : Int) (h1 : Tryd.prog.underlying s = some (.int .i32)) (h2 : Tryd.prog.underlying t = some .string) : ∀ w, (convert s t (.int .i32 c)).run Tryd.prog w = .ok (.string (Utf8.encode c)) w :=
  fun w => run_convert_int_string w s t .i32 c (by rw [h1]; rfl) h2
theorem enc_size (c : Int) : (Utf8.encode c).size ≤ 4 := by
  unfold Utf8.encode
  simp only
  repeat' split
  all_goals exact Nat.le_of_ble_eq_true rfl
@[reducible] def aB : ByteArray := ⟨#[97]⟩
def wordB (r : Nat) : Bool := !rightS (aB ++ Utf8.encode (r : Int))
theorem f90_ok (c : Int) : FnOK Tryd.prog 90 [] [eRune c] [] (eBool (!rightS (aB ++ Utf8.encode c))) := by
  have hsz := enc_size c
  have ha : aB.size = 1 := rfl
  refine FnOK.startC (rvs := [.tmp 2]) G G_good Tryd.func90 rfl Tryd.ntmps90 rfl rfl ?_; with_reducible refine wD ?_
  refine ConvK.mk _ (i32_run 21 9 c (by kernel_rfl) (by kernel_rfl)) ?_; with_reducible refine wK ?_
  refine NeedK.mk (by have := enc_size c; have h1 : (⟨⟨[97]⟩⟩ : ByteArray).size = 1 := rfl; omega) ?_; with_reducible refine wK ?_
  refine CallK.lit [] (f39_ok _) c39 ⟨rfl, trivial⟩ rfl rfl ?_; with_reducible refine wK ?_
  (refine eK ?_ ?_ <;> with_reducible repeat' (first | exact trivial | (show _ ∧ _; refine aK ?_ ?_)))
  all_goals first | rfl | trace_state
theorem f62_word (s : ByteArray) : FnOK Tryd.prog 62 [] [eStr s, .lit (.func (.func 90) #[] #[])] [] (eInt (Lib.idxFunc wordB true s)) :=
  FnOK.of_calls (vs := [.string s, .func (.func 90) #[] #[]]) fun w ht => f62_calls 90 c90 wordB s w ht fun W x ht _ => (f90_ok (x : Int)).below (vs := [.int .i32 (x : Int)]) W ht
theorem f81_nil : FnOK Tryd.prog 81 [.live 2 [.agg [.lit (.pointer none), .lit (.slice none 0 0)]] false] [.ptr 0 0 0] [.live 2 [.agg [.lit (.pointer none), .lit (.slice none 0 0)]] false] (eStr ⟨#[]⟩) := by
  refine FnOK.startC (rvs := [.tmp 2]) G G_good Tryd.func81 rfl Tryd.ntmps81 rfl rfl ?_; with_reducible refine wD ?_
  refine ⟨[], .lit (.pointer none), [], EffOK.lits (ρ := fun _ => .slice none 0 0) (r := .pointer none) (by simp) (fun y hy => ?_) (fun w => ?_) (dst_ok rfl), ?_⟩
  · simp [Op.operands, Call.operands] at hy
    subst hy
    rfl
  · kernel_rfl
  with_reducible refine wK ?_
  refine ⟨[], .lit (.string ⟨#[]⟩), [], EffOK.lits (ρ := fun y => match y with | .tmp 7 => .pointer none | _ => .int .i64 0) (r := .string ⟨#[]⟩) (by simp) (fun y hy => ?_) (fun w => ?_) (dst_ok rfl), ?_⟩
  · simp [Op.operands, Call.operands] at hy
    rcases hy with rfl | rfl <;> rfl
  · kernel_rfl
  with_reducible refine wK ?_
  refine dK ?_; with_reducible refine wK ?_
  (refine eK ?_ ?_ <;> with_reducible repeat' (first | exact trivial | (show _ ∧ _; refine aK ?_ ?_)))
  all_goals first | rfl | exact .inl rfl | exact ⟨rfl, rfl⟩ | trace_state
def orcA : CallT := fun g ins args => match g with
  | 25 => match ins, args with
    | [], [.lit (.string s)] => some ([], eBool (customS s))
    | _, _ => none
  | 39 => match ins, args with
    | [], [.lit (.string s)] => some ([], eBool (rightS s))
    | _, _ => none
  | 49 => match ins, args with
    | [], [.lit (.string s)] => some ([], .tup [eStr (if rightS s then lowS s else ⟨#[]⟩), eInt (if rightS s then 0 else 4)])
    | _, _ => none
  | 62 => match ins, args with
    | [], [.lit (.string s), .lit (.func (.func 90) a b)] => match a.toList, b.toList with
      | [], [] => some ([], eInt (Lib.idxFunc wordB true s))
      | _, _ => none
    | _, _ => none
  | 81 => match ins, args with
    | [.live 2 [.agg [.lit (.pointer none), .lit (.slice none 0 0)]] false], [.ptr 0 0 0] => some ([.live 2 [.agg [.lit (.pointer none), .lit (.slice none 0 0)]] false], eStr ⟨#[]⟩)
    | _, _ => none
  | _ => none
theorem orcA_ok : ∀ g ins args outs res, orcA g ins args = some (outs, res) → FnOK Tryd.prog g ins args outs res ∧ Callable Tryd.prog g := by
  intro g ins args outs res h
  unfold orcA at h
  split at h
  · split at h
    · cases h; exact ⟨f25_ok _, c25⟩
    · cases h
  · split at h
    · cases h; exact ⟨f39_ok _, c39⟩
    · cases h
  · split at h
    · cases h; exact ⟨f49_ok _, c49⟩
    · cases h
  · split at h
    · split at h
      · rename_i ha hb
        cases h
        rename_i a b _ _
        obtain rfl := (Array.ext' ha : _ = #[])
        obtain rfl := (Array.ext' hb : _ = #[])
        exact ⟨f62_word _, c62⟩
      · cases h
    · cases h
  · split at h
    · cases h; exact ⟨f81_nil, c81⟩
    · cases h
  · cases h
noncomputable def envA : EEnv := ⟨G, mapsT, fnsT, kindsT, orcA⟩
theorem envA_good : envA.Good Tryd.prog := ⟨G_good, mapsT_ok, fnsT_ok, kindsT_ok, orcA_ok, by kernel_rfl⟩
end Go.Proofs.Heir
end
section
set_option linter.unusedSimpArgs false
set_option linter.unusedVariables false
namespace Go.Proofs.Heir
open Go Go.Am
set_option maxRecDepth 100000
def r15 : Ans := ⟨17, [], [.lit (.string ⟨⟨[60, 112, 62, 60, 120, 45, 97, 62, 60, 47, 120, 45, 97, 62, 60, 98, 33, 120, 45, 98, 62, 60, 47, 98, 62, 60, 120, 45, 98, 62, 60, 47, 120, 45, 98, 62, 60, 47, 112, 62]⟩⟩), .lit (.int .i64 (9))], [.live 10 [.agg [.lit (.int .i64 (0)), .lit (.string ⟨⟨[]⟩⟩), .lit (.string ⟨⟨[]⟩⟩), .lit (.string ⟨⟨[]⟩⟩), .lit (.slice none 0 0), .lit (.int .i64 (-1)), .lit (.slice none 0 0), .lit (.int .i64 (-1)), .lit (.int .i64 (-1)), .lit (.int .i64 (0))], .agg [.lit (.int .i64 (1)), .lit (.string ⟨⟨[112]⟩⟩), .lit (.string ⟨⟨[]⟩⟩), .lit (.string ⟨⟨[]⟩⟩), .lit (.slice none 0 0), .lit (.int .i64 (-1)), .own 1 0 3, .lit (.int .i64 (-1)), .lit (.int .i64 (-1)), .lit (.int .i64 (0))], .agg [.lit (.int .i64 (1)), .lit (.string ⟨⟨[120, 45, 97]⟩⟩), .lit (.string ⟨⟨[]⟩⟩), .lit (.string ⟨⟨[]⟩⟩), .lit (.slice none 0 0), .lit (.int .i64 (1)), .lit (.slice none 0 0), .lit (.int .i64 (-1)), .lit (.int .i64 (-1)), .lit (.int .i64 (0))], .agg [.lit (.int .i64 (1)), .lit (.string ⟨⟨[98]⟩⟩), .lit (.string ⟨⟨[120, 45, 98]⟩⟩), .lit (.string ⟨⟨[]⟩⟩), .lit (.slice none 0 0), .lit (.int .i64 (1)), .lit (.slice none 0 0), .lit (.int .i64 (-1)), .lit (.int .i64 (-1)), .lit (.int .i64 (0))], .agg [.lit (.int .i64 (1)), .lit (.string ⟨⟨[120, 45, 98]⟩⟩), .lit (.string ⟨⟨[]⟩⟩), .lit (.string ⟨⟨[]⟩⟩), .lit (.slice none 0 0), .lit (.int .i64 (1)), .lit (.slice none 0 0), .lit (.int .i64 (-1)), .lit (.int .i64 (-1)), .lit (.int .i64 (0))]] false, .live 1 [.lit (.int .i64 (2)), .lit (.int .i64 (3)), .lit (.int .i64 (4))] false], .tup [.agg [.own 0 0 5, .lit (.int .i64 (9))], .lit (.int .i64 (1)), .lit (.int .i64 (0))]⟩
theorem r15_run : runF envA 1000 60 r15.g r15.ins r15.args = some (r15.outs, r15.res) := by kernel_rfl
theorem r15_ok : r15.OK Tryd.prog := Ans.of envA_good r15_run
theorem r_last : FnOK Tryd.prog 17 r15.ins r15.args r15.outs r15.res := r15_ok.1
end Go.Proofs.Heir
end
section
set_option linter.unusedSimpArgs false
set_option linter.unusedVariables false
namespace Go.Proofs.Heir
open Go Go.Am Go.RowKit Go.Lib
set_option maxRecDepth 100000
set_option maxHeartbeats 8000000
structure DueM where
  node : Int
  at' : Int
  deriving DecidableEq
@[reducible] def eDue (x : DueM) : AV := .agg [eInt x.node, eInt 9, eInt x.at', eStr ⟨#[]⟩, eBool false, eBool false, eStr ⟨#[]⟩, eStr ⟨#[]⟩, eInt 0, eInt 0, eBool false]
def oDue (x : DueM) : AV := eDue x
@[reducible] def eDues (l : List DueM) : AV := .sl 11 (l.map oDue)
@[reducible] def rDues (l : List DueM) : MS := .live 11 (l.map oDue) false
theorem noRef_dues (l : List DueM) : noRefL (l.map oDue) = true := noRefL_map oDue (fun _ => rfl) l
theorem due_get {l : List DueM} {k : Nat} {x : DueM} (h : l[k]? = some x) : (l.map oDue)[k]? = some (eDue x) := by rw [List.getElem?_map, h]; rfl
theorem frz_dues {m : ML} {fz : Nat → Bool} {tab : List (Nat × Nat)} {n t len : Nat} {ro : Bool} {rows : List AV} {l : List DueM} (h1 : lkM m t = .live 11 rows ro) (h2 : fz t = true) (h3 : rows = l.map oDue) (h4 : len = l.length) : FrzK m fz (MF tab fz m n) (eDues l) t 0 len := by
  subst h3; subst h4
  have e : (l.map oDue).length = l.length := List.length_map ..
  exact .cut h1 h2 (by omega) (by rw [List.drop_zero, List.take_of_length_le (by omega)]) (noRef_dues l)
def dueOf (l : List NodeM) (d : DeskM) (c : Int) : List DueM := if fateD (nd l c) d = -1 then [] else [⟨c, fateD (nd l c) d⟩]
def triesU (f : ForM) (n : Int) (d : DeskM) : List DueM := (elemsU f.nodes (allU f n)).flatMap (dueOf f.nodes d)
theorem dueOf_len (l : List NodeM) (d : DeskM) : ∀ cs : List Int, (cs.flatMap (dueOf l d)).length ≤ cs.length
  | [] => Nat.le_refl _
  | c :: r => by
    have := dueOf_len l d r
    rw [List.flatMap_cons, List.length_append, List.length_cons]
    have h2 : (dueOf l d c).length ≤ 1 := by unfold dueOf; split <;> simp
    omega
theorem f14_ok (f : ForM) (hs : SmallN f.nodes) (n : Int) (d : DeskM) (hd : SmallD d) : FnOK Tryd.prog 14 [] [eFor f, eInt n, eDesk d] [] (eDues (triesU f n d)) := by
  have h50 := f24_ok f n
  have hit := each_it' f hs n
  obtain ⟨es, hes⟩ : ∃ es, es = elemsU f.nodes (allU f n) := ⟨_, rfl⟩
  rw [← hes] at hit
  unfold triesU
  rw [← hes]
  have hel : es.length ≤ 60 := by
    rw [hes]; unfold elemsU
    exact Nat.le_trans (List.length_filter_le _ _) (Nat.le_trans allU_len hs.len)
  obtain ⟨l, m⟩ := f
  simp only at hit hel ⊢
  obtain ⟨ks, hks⟩ : ∃ ks : Nat → List DueM, ks = fun k => (es.take k).flatMap (dueOf l d) := ⟨_, rfl⟩
  have hkl : ∀ k, (ks k).length ≤ 60 := fun k => by
    rw [hks]; exact Nat.le_trans (dueOf_len _ _ _) (by rw [List.length_take]; omega)
  have hk0 : ks 0 = [] := by rw [hks]; rfl
  have hke : ks es.length = es.flatMap (dueOf l d) := by rw [hks]; show List.flatMap _ (es.take es.length) = _; rw [List.take_length]
  have hstep : ∀ (k : Nat) (c : Int), es[k]? = some c → ks (k + 1) = ks k ++ dueOf l d c := fun k c hc => by
    rw [hks]; show ((es.take (k + 1)).flatMap _) = _
    rw [List.take_add_one, hc, List.flatMap_append]
    congr 1
    show List.flatMap _ [c] = _
    rw [List.flatMap_cons]; simp
  rw [← hke]
  have h49 := fun x => f23_ok x d hd
  unfold dueOf at hstep
  obtain ⟨d1, d2, d3, d4⟩ := d
  refine FnOK.startC (rvs := [.tmp 6]) G G_good Tryd.func14 rfl Tryd.ntmps14 rfl rfl ?_; with_reducible refine wD ?_
  refine CallK.val [] h50 c24 ⟨⟨rfl, rfl, trivial⟩, rfl, trivial⟩ rfl rfl rfl ?_; with_reducible refine wK ?_
  repeat' (first
    | refine gK ?_
    | ((with_reducible show (_ ∧ _) ∧ _ ∧ _); (refine eK ?_ ?_ <;> with_reducible repeat' (first | exact trivial | (show _ ∧ _; refine aK ?_ ?_)))))
  refine LoopK.ghostRow 7 70 77 11 0 0 (.lit (.slice none 0 0)) (.own 77 0 0) rfl rfl rfl rfl rfl rfl ?_
  refine LoopK.range G G_good 2 [(5, .ptr 1 0 0), (7, .ptr 0 0 0), (13, .clo (.func 38) [] [.fptr (eFor ⟨l, m⟩) 0, .fptr (eInt n) 0])]
    (fun k => [(0, .live 1 [.own 77 0 (ks k).length] false), (1, .live 4 [eDesk ⟨d1, d2, d3, d4⟩] false), (77, rDues (ks k))])
    hit c38 ?_ rfl ⟨⟨rfl, rfl⟩, rfl⟩ (fun _ _ => rfl) (fun _ _ => rfl) ⟨⟨rfl, rfl⟩, rfl, rfl⟩ ?_ ?_
  · rw [hk0]
    (refine fK ?_; (with_reducible repeat' (first | exact trivial | (show _ ∧ _; refine aK ?_ ?_))); (all_goals try rfl))
    · exact ⟨⟨rfl, rfl⟩, trivial⟩
    · exact ⟨.refl rfl, rfl⟩
    · show ObjK (MF _ _ _ 12) [] []
      exact ⟨.refl rfl, rfl⟩
  · intro k hk
    obtain ⟨c, hc⟩ : ∃ c, es[k]? = some c := ⟨_, List.getElem?_eq_getElem hk⟩
    rw [hc, Option.getD_some, show oInt c = eInt c from rfl]
    generalize hy : nd l c = y
    have hst := hstep k c hc
    rw [hy] at hst
    have hkk := hkl k
    have h49y := h49 y
    obtain ⟨a1, a2, a3, a4, a5, a6, a7, a8, a9, a10⟩ := y
    clear hstep hit hy h49 hes hks hke
    generalize fateD ⟨a1, a2, a3, a4, a5, a6, a7, a8, a9, a10⟩ ⟨d1, d2, d3, d4⟩ = at' at hst h49y
    with_reducible refine wK ?_
    refine BodyK.mk rfl ?_; with_reducible refine wK ?_
    refine ElemK.mk (.agg [.sl 3 (d1.map oDef), .sl 2 (d2.map oWait), eInt d3, eBool d4]) rfl ?_; with_reducible refine wK ?_
    repeat' (first
    | refine gK ?_
    | (((with_reducible show CallK _ _ 23 _ _ _ _); refine CallK.lit [] h49y c23 ⟨⟨rfl, rfl, rfl, rfl, rfl, rfl, rfl, rfl, rfl, rfl, trivial⟩, ⟨rfl, rfl, rfl, rfl, trivial⟩, trivial⟩ rfl rfl ?_) <;> with_reducible refine wK ?_)
    | ((with_reducible show (_ ∧ _) ∧ _ ∧ _); (refine eK ?_ ?_ <;> with_reducible repeat' (first | exact trivial | (show _ ∧ _; refine aK ?_ ?_)))))
    by_cases e : at' = -1
    · rw [if_pos e, List.append_nil] at hst
      (have fct := (eq_true e); (repeat' (first
    | refine gF ?_
    | ((with_reducible show (_ ∧ _) ∧ _ ∧ _); (refine eK ?_ ?_ <;> with_reducible repeat' (first | exact trivial | (show _ ∧ _; refine aK ?_ ?_)))))); all_goals clear fct)
      refine TurnK.mk ?_
      rw [hst]
      (refine fK ?_; (with_reducible repeat' (first | exact trivial | (show _ ∧ _; refine aK ?_ ?_))); (all_goals try rfl))
      · exact ⟨.refl rfl, rfl⟩
      · exact ⟨.refl (noRef_dues _), noRef_dues _⟩
    · rw [if_neg e] at hst
      (have fct := (eq_false e); (repeat' (first
    | refine gF ?_
    | (((with_reducible show AppK _ _ _ _ _ _ _ _ _ _); refine AppK.mk ((ks k).map oDue) [eDue ⟨c, at'⟩] ⟨rfl, (List.length_map ..).symm, rfl⟩ ⟨rfl, rfl, rfl⟩ rfl (by simp; omega) (by simp; omega) ?_) <;> with_reducible refine wK ?_)
    | ((with_reducible show (_ ∧ _) ∧ _ ∧ _); (refine eK ?_ ?_ <;> with_reducible repeat' (first | exact trivial | (show _ ∧ _; refine aK ?_ ?_)))))); all_goals clear fct)
      refine TurnK.mk ?_
      rw [hst]
      (refine fK ?_; (with_reducible repeat' (first | exact trivial | (show _ ∧ _; refine aK ?_ ?_))); (all_goals try rfl))
      · simp
      · exact ⟨.refl rfl, rfl⟩
      · refine ⟨?_, noRef_dues _⟩
        rw [List.map_append]; exact .refl (by rw [← List.map_append]; exact noRef_dues _)
  · with_reducible refine wK ?_
    (refine eK ?_ ?_ <;> with_reducible repeat' (first | exact trivial | (show _ ∧ _; refine aK ?_ ?_)))
    all_goals exact frz_dues rfl rfl rfl rfl
end Go.Proofs.Heir
end
section
set_option linter.unusedSimpArgs false
set_option linter.unusedVariables false
namespace Go.Proofs.Heir
open Go Go.Am Go.RowKit Go.Lib
set_option maxRecDepth 100000
end Go.Proofs.Heir
end
section
set_option linter.unusedSimpArgs false
set_option linter.unusedVariables false
namespace Go.Proofs.Heir
open Go Go.Am Go.RowKit Go.Lib
set_option maxRecDepth 100000
set_option maxHeartbeats 8000000
theorem elemsU_len (l : List NodeM) (ms : List Int) : (elemsU l ms).length ≤ ms.length := List.length_filter_le _ _
end Go.Proofs.Heir
end
section
set_option linter.unusedSimpArgs false
set_option linter.unusedVariables false
namespace Go.Proofs.Heir
open Go Go.Am Go.RowKit Go.Lib
set_option maxRecDepth 100000
set_option maxHeartbeats 8000000
@[reducible] def vDue (a : DueM) : Value := .agg #[.int .i64 a.node, .int .i64 9, .int .i64 a.at', .string ⟨#[]⟩, .bool false, .bool false, .string ⟨#[]⟩, .string ⟨#[]⟩, .int .i64 0, .int .i64 0, .bool false]
theorem todo_eq (a b : Int) (w : World) : (Op.equalIn 9999 48 (.agg #[.int .i64 9, .int .i64 a, .string ⟨#[]⟩, .bool false, .bool false, .string ⟨#[]⟩, .string ⟨#[]⟩, .int .i64 0, .int .i64 0, .bool false]) (.agg #[.int .i64 9, .int .i64 b, .string ⟨#[]⟩, .bool false, .bool false, .string ⟨#[]⟩, .string ⟨#[]⟩, .int .i64 0, .int .i64 0, .bool false])).run Tryd.prog w = .ok (decide (a = b)) w := by
  have hS : Tryd.prog.underlying 48 = some (.struct (Tryd.prog.fieldsOf 48)) := by kernel_rfl
  have hp : Tryd.prog.stoodInHeld 48 = false := by kernel_rfl
  have u9 := Tryd.underlying9
  have a9 := Tryd.isAgg9
  have z9 := Tryd.sizeOf9
  have u3 := Tryd.underlying3
  have a3 := Tryd.isAgg3
  have z3 := Tryd.sizeOf3
  have u4 := Tryd.underlying4
  have a4 := Tryd.isAgg4
  have z4 := Tryd.sizeOf4
  rw [show (9999 : Nat) = 9998 + 1 from rfl, run_equalIn_agg w 9998 48 _ _ hS hp]
  simp only [Program.fieldsOf, Tryd.underlying48]
  go_simp
  by_cases h : a = b <;> simp [h]
theorem due_eq (a b : DueM) (w : World) : (Op.equalIn 10000 50 (vDue a) (vDue b)).run Tryd.prog w = .ok (decide (a = b)) w := by
  have hS : Tryd.prog.underlying 50 = some (.struct (Tryd.prog.fieldsOf 50)) := by kernel_rfl
  have hp : Tryd.prog.stoodInHeld 50 = false := by kernel_rfl
  have ht := todo_eq a.at' b.at' w
  have u72 := Tryd.underlying48
  have a72 := Tryd.isAgg48
  have z72 := Tryd.sizeOf48
  have u3 := Tryd.underlying3
  have a3 := Tryd.isAgg3
  have z3 := Tryd.sizeOf3
  rw [show (10000 : Nat) = 9999 + 1 from rfl, run_equalIn_agg w 9999 50 _ _ hS hp]
  simp only [Program.fieldsOf, Tryd.underlying50]
  go_simp
  obtain ⟨a1, a2⟩ := a
  obtain ⟨b1, b2⟩ := b
  simp only [DueM.mk.injEq]
  by_cases h1 : a1 = b1 <;> by_cases h2 : a2 = b2 <;> simp [h1, h2]
theorem due_neq (a b : DueM) (y z : Operand) (w : World) : ((do eqGuard .neq 50 y z (vDue a) (vDue b); binOp .neq 50 (vDue a) (vDue b) : Sem Value)).run Tryd.prog w = .ok (.bool (!decide (a = b))) w := by
  rw [Sem.run_bind, run_eqGuard_agg w .neq 50 y z _ _ (by kernel_rfl), Result.andThen_ok, run_neq_struct, due_eq]; rfl
end Go.Proofs.Heir
end
section
set_option linter.unusedSimpArgs false
set_option linter.unusedVariables false
namespace Go.Proofs.Heir
open Go Go.Am Go.RowKit Go.Lib
set_option maxRecDepth 100000
set_option maxHeartbeats 8000000
end Go.Proofs.Heir
end
section
set_option linter.unusedSimpArgs false
set_option linter.unusedVariables false
namespace Go.Proofs.Heir
open Go Go.Am Go.RowKit Go.Lib
set_option maxRecDepth 100000
set_option maxHeartbeats 8000000
end Go.Proofs.Heir
end
section
set_option linter.unusedSimpArgs false
set_option linter.unusedVariables false
namespace Go.Am
open Go
theorem RowsM.of {R : AV → AV → Prop} : ∀ {a b : List AV}, MFL R a b → RowsM R a b
  | [], [], _ => ⟨rfl, fun i x y h => by simp at h⟩
  | x :: xs, y :: ys, h => by
    obtain ⟨h1, h2⟩ := RowsM.of h.2
    refine ⟨by simp [h1], fun i u v hu hv => ?_⟩
    cases i with
    | zero => cases hu; cases hv; exact h.1
    | succ i => exact h2 i u v hu hv
  | [], _ :: _, h => h.elim
  | _ :: _, [], h => h.elim
def wideB (wd : Nat) (rows : List AV) : Bool := rows.all fun r => (cells r).length == wd
def wideM (m : ML) : Bool := m.all fun p => match p.2 with
  | .live wd rows _ => wideB wd rows
  | _ => true
theorem wideM_ok {m : ML} (h : wideM m = true) : ∀ t wd rows ro, lkM m t = .live wd rows ro → Wide wd rows := by
  induction m with
  | nil => intro t wd rows ro h; cases h
  | cons p r ih =>
    intro t wd rows ro hl
    obtain ⟨a, b⟩ := p
    unfold wideM at h
    rw [List.all_cons, Bool.and_eq_true] at h
    rw [lkM_eq] at hl
    simp only [lookM] at hl
    cases hta : t == a with
    | true =>
      rw [hta] at hl
      change b = _ at hl
      subst hl
      exact Wide.of_mem fun x hx => by simpa using (List.all_eq_true.1 h.1) x hx
    | false =>
      rw [hta] at hl
      exact ih h.2 t wd rows ro (by rw [lkM_eq]; exact hl)
theorem FnOK.frozen {P : Program} {f : FuncId} {args : List AV} {outs : List MS} {res res' : AV} (m : ML) (hm : lookM m = objsOf outs) (hw : wideM m = true) (h : FnOK P f [] args outs res) (hcv : MF [] (fun _ => true) m 12 res' res) : FnOK P f [] args [] res' := by
  intro w W0 L vs hL hs hargs
  refine (h w W0 L vs hL hs hargs).mono ?_
  rintro e w' ⟨v, μ', rfl, hs', hv⟩
  have hLn : ∀ t, L t = none := fun t => hL t (Nat.zero_le _)
  have hW : ∀ b, Wr W0 (fun _ => none) (objsOf []) b → W0 b := by
    rintro b (h | ⟨t, B, wd, rows, _, h, _⟩)
    · exact h
    · cases h
  refine ⟨v, fun _ => none, rfl, ?_, ?_⟩
  · refine ⟨hs'.tsize, hs'.defers, hs'.os, hs'.tape, hs'.output, hs'.hsize, hs'.shp, hs'.keep, hs'.w0lt, fun t B _ h => (by rw [hLn] at h; cases h), fun t => by simp [bare, objsOf], fun _ => .any, fun t wd rows ro h => ?_, fun t t' wd rows wd' rows' ro' B B' _ h => ?_, fun t wd rows ro B h => ?_, hs'.tabs⟩ <;> simp [bare, objsOf] at h
  · have hc : Cv (lookM m) (renT []) (fun _ => False) (fun t => ∃ wd rows ro, lookM m t = .live wd rows ro) res' res :=
      MF_cv (fun t wd rows ro h _ => wideM_ok hw t wd rows ro h) (fun t u h => by cases h) (fun t wd rows ro h _ => ⟨wd, rows, ro, by rw [← lkM_eq]; exact h⟩) 12 res' res hcv
    rw [hm] at hc
    refine Cv.rep (W := Wr W0 μ' (objsOf outs)) (μ := μ') (fun t wd rows ro h => hs'.objs t wd rows ro h) (fun b _ hb => .inl (hW b hb)) (fun t h => h.elim) ?_ hc hv
    rintro s B ⟨wd, rows, ro, hl⟩ hB hv hb
    exact (hs'.out s wd rows ro B hl hB hv).1 (hW _ hb)
end Go.Am
namespace Go.Proofs.Heir
open Go Go.Am Go.RowKit Go.Lib
set_option maxRecDepth 100000
set_option maxHeartbeats 8000000
def awP : ByteArray := ⟨#[112]⟩
def awA : ByteArray := ⟨#[120, 45, 97]⟩
def awB : ByteArray := ⟨#[98]⟩
def awX : ByteArray := ⟨#[120, 45, 98]⟩
def awF : ForM := ⟨[⟨0, ⟨#[]⟩, ⟨#[]⟩, ⟨#[]⟩, [], -1, [], -1, -1, 0⟩, ⟨1, awP, ⟨#[]⟩, ⟨#[]⟩, [], -1, [2, 3, 4], -1, -1, 0⟩, ⟨1, awA, ⟨#[]⟩, ⟨#[]⟩, [], 1, [], -1, -1, 0⟩, ⟨1, awB, awX, ⟨#[]⟩, [], 1, [], -1, -1, 0⟩, ⟨1, awX, ⟨#[]⟩, ⟨#[]⟩, [], 1, [], -1, -1, 0⟩], 9⟩
def awT : ByteArray := ⟨#[60, 112, 62, 60, 120, 45, 97, 62, 60, 47, 120, 45, 97, 62, 60, 98, 33, 120, 45, 98, 62, 60, 47, 98, 62, 60, 120, 45, 98, 62, 60, 47, 120, 45, 98, 62, 60, 47, 112, 62]⟩
theorem fresh_ok : FnOK Tryd.prog 17 [] [eStr awT, eInt 9] [] (.tup [eFor awF, eInt 1, eInt 0]) := by
  have h := r_last
  refine FnOK.frozen (objsR 0 r15.outs) ?_ (by kernel_rfl) h ?_
  · funext t
    match t with
    | 0 => rfl
    | 1 => rfl
    | n + 2 => rfl
  · have nil2 : ∀ wd, NilK (.sl wd []) := fun wd => .inr (.inr ⟨wd, rfl⟩)
    refine ⟨⟨⟨10, _, _, _, rfl, rfl, rfl, by decide, rfl, RowsM.of ⟨?_, ?_, ?_, ?_, ?_, trivial⟩⟩, rfl, trivial⟩, rfl, rfl, trivial⟩
    · exact ⟨rfl, rfl, rfl, rfl, nil2 _, rfl, nil2 _, rfl, rfl, rfl, trivial⟩
    · exact ⟨rfl, rfl, rfl, rfl, nil2 _, rfl, ⟨1, _, _, _, rfl, rfl, rfl, by decide, rfl, RowsM.of ⟨rfl, rfl, rfl, trivial⟩⟩, rfl, rfl, rfl, trivial⟩
    · exact ⟨rfl, rfl, rfl, rfl, nil2 _, rfl, nil2 _, rfl, rfl, rfl, trivial⟩
    · exact ⟨rfl, rfl, rfl, rfl, nil2 _, rfl, nil2 _, rfl, rfl, rfl, trivial⟩
    · exact ⟨rfl, rfl, rfl, rfl, nil2 _, rfl, nil2 _, rfl, rfl, rfl, trivial⟩
end Go.Proofs.Heir
end
section
set_option linter.unusedSimpArgs false
set_option linter.unusedVariables false
namespace Go.Proofs.Heir
open Go Go.Am Go.RowKit Go.Lib
set_option maxRecDepth 100000
set_option maxHeartbeats 8000000
def awD : DeskM := ⟨[⟨awA, awA, 0⟩, ⟨awX, awB, 1⟩], [], 0, false⟩
theorem aw_small : SmallN awF.nodes := ⟨by decide, by decide, by decide, by decide⟩
theorem aw_smallD : SmallD awD := ⟨by decide, by decide⟩
theorem aw17 : FnOK Tryd.prog 14 [] [eFor awF, eInt 1, eDesk awD] [] (eDues [⟨2, 0⟩, ⟨3, 1⟩]) := by
  have h := f14_ok awF aw_small 1 awD aw_smallD
  rwa [show triesU awF 1 awD = [⟨2, 0⟩, ⟨3, 1⟩] from by kernel_rfl] at h
theorem aw16 : FnOK Tryd.prog 13 [] [eFor awF, eDef ⟨awA, awA, 0⟩] [] (eInts []) := by
  have h := f13_ok awF aw_small ⟨awA, awA, 0⟩
  rwa [show heirsU awF ⟨awA, awA, 0⟩ = [] from by kernel_rfl] at h
theorem aw15a : FnOK Tryd.prog 11 [] [eFor awF, eInt 4, eDesk awD] [] (eInt (-1)) := by
  have h := f11_ok awF aw_small 4 awD aw_smallD
  rwa [show fateF awF 4 awD = -1 from by kernel_rfl] at h
theorem aw15b : FnOK Tryd.prog 11 [] [eFor awF, eInt 3, eDesk awD] [] (eInt 1) := by
  have h := f11_ok awF aw_small 3 awD aw_smallD
  rwa [show fateF awF 3 awD = 1 from by kernel_rfl] at h
theorem aw11a : FnOK Tryd.prog 15 [] [eStr awP, eStr ⟨#[]⟩] [] (eInt 0) := by
  have h := f15_ok awP ⟨#[]⟩
  rwa [show bornM awP ⟨#[]⟩ = 0 from by kernel_rfl] at h
theorem aw11b : FnOK Tryd.prog 15 [] [eStr awA, eStr ⟨#[]⟩] [] (eInt 1) := by
  have h := f15_ok awA ⟨#[]⟩
  rwa [show bornM awA ⟨#[]⟩ = 1 from by kernel_rfl] at h
theorem due_eql (a b : DueM) (y z : Operand) (w : World) : ((do eqGuard .eql 50 y z (vDue a) (vDue b); binOp .eql 50 (vDue a) (vDue b) : Sem Value)).run Tryd.prog w = .ok (.bool (decide (a = b))) w := by
  rw [Sem.run_bind, run_eqGuard_agg w .eql 50 y z _ _ (by kernel_rfl), Result.andThen_ok, run_eql_struct, due_eq]
  rfl
theorem f5_ok : FnOK Tryd.prog 5 [] [] [] (eBool true) := by
  refine FnOK.startC (rvs := [.tmp 0]) G G_good Tryd.func5 rfl Tryd.ntmps5 rfl rfl ?_; with_reducible refine wD ?_
  refine CallK.val [] fresh_ok c17 ⟨rfl, rfl, trivial⟩ rfl rfl rfl ?_; with_reducible refine wK ?_
  repeat' (first
    | refine gK ?_
    | ((first
      | ((with_reducible show CallK _ _ 14 _ _ _ _); refine CallK.val [131] aw17 c14 ⟨⟨rfl, rfl, trivial⟩, rfl, ⟨⟨3, _, _, _, rfl, rfl, rfl, by decide, rfl, RowsM.of ⟨⟨rfl, rfl, rfl, trivial⟩, ⟨rfl, rfl, rfl, trivial⟩, trivial⟩⟩, .inr (.inr ⟨_, rfl⟩), rfl, rfl, trivial⟩, trivial⟩ rfl rfl rfl ?_)
      | ((with_reducible show CallK _ _ 11 _ _ _ _); first | refine CallK.lit [131] aw15a c11 ⟨⟨rfl, rfl, trivial⟩, rfl, ⟨⟨3, _, _, _, rfl, rfl, rfl, by decide, rfl, RowsM.of ⟨⟨rfl, rfl, rfl, trivial⟩, ⟨rfl, rfl, rfl, trivial⟩, trivial⟩⟩, .inr (.inr ⟨_, rfl⟩), rfl, rfl, trivial⟩, trivial⟩ rfl rfl ?_ | refine CallK.lit [131] aw15b c11 ⟨⟨rfl, rfl, trivial⟩, rfl, ⟨⟨3, _, _, _, rfl, rfl, rfl, by decide, rfl, RowsM.of ⟨⟨rfl, rfl, rfl, trivial⟩, ⟨rfl, rfl, rfl, trivial⟩, trivial⟩⟩, .inr (.inr ⟨_, rfl⟩), rfl, rfl, trivial⟩, trivial⟩ rfl rfl ?_)
      | ((with_reducible show CallK _ _ 13 _ _ _ _); refine CallK.val [] aw16 c13 ⟨⟨rfl, rfl, trivial⟩, ⟨rfl, rfl, rfl, trivial⟩, trivial⟩ rfl rfl rfl ?_)
      | ((with_reducible show CallK _ _ 15 _ _ _ _); first | refine CallK.lit [] aw11a c15 ⟨rfl, rfl, trivial⟩ rfl rfl ?_ | refine CallK.lit [] aw11b c15 ⟨rfl, rfl, trivial⟩ rfl rfl ?_)
      | ((with_reducible show IdxK _ 0 _ _ _); refine IdxK.mk 0 (eDue ⟨2, 0⟩) rfl rfl ?_)
      | ((with_reducible show IdxK _ 1 _ _ _); refine IdxK.mk 1 (eDue ⟨3, 1⟩) rfl rfl ?_)
      | ((with_reducible show LtK _ _ _ _ _); refine LtK.mk 0 rfl (by decide) ?_)
      | ((with_reducible show ElemK _ _ _ _ _); refine ElemK.mk (eDef ⟨awA, awA, 0⟩) rfl ?_)
      | ((with_reducible show EqK _ _ _ _ _ _ _ _); refine EqK.mk _ (fun y z w => due_eql ⟨3, 1⟩ ⟨3, 1⟩ y z w) ?_)) <;> with_reducible refine wK ?_)
    | ((with_reducible show (_ ∧ _) ∧ _ ∧ _); (refine eK ?_ ?_ <;> with_reducible repeat' (first | exact trivial | (show _ ∧ _; refine aK ?_ ?_)))))
  all_goals rfl
end Go.Proofs.Heir
end
section
set_option linter.unusedSimpArgs false
set_option linter.unusedVariables false
namespace Go.Proofs.Heir
open Go Go.Am Go.RowKit Go.Lib
set_option maxRecDepth 100000
set_option maxHeartbeats 8000000
theorem there0 {f : ForM} (h : rightF f = true) : thereN f.nodes 0 = true := by
  unfold rightF at h
  rw [Bool.and_eq_true] at h
  have h1 := h.1
  obtain ⟨l, m⟩ := f
  cases l with
  | nil => simp [headOK] at h1
  | cons a r => unfold thereN; simp
end Go.Proofs.Heir
end
section
set_option linter.unusedSimpArgs false
set_option linter.unusedVariables false
namespace Go.Proofs.Heir
open Go Go.Am Go.RowKit Go.Lib
set_option maxRecDepth 100000
set_option maxHeartbeats 8000000
def sumN (g : Nat → Nat) : Nat → Nat
  | 0 => 0
  | k + 1 => sumN g k + g k
theorem sumN_le {g : Nat → Nat} {b : Nat} (h : ∀ k, g k ≤ b) : ∀ k, sumN g k ≤ k * b
  | 0 => by simp [sumN]
  | k + 1 => by
    have := sumN_le h k
    have := h k
    rw [Nat.succ_mul]; unfold sumN; omega
def wantU (f : ForM) (d : DeskM) (i : Nat) : List Int := (elemsU f.nodes (allU f 0)).filter fun c => decide (fateF f c d = (i : Int))
theorem f3_long (f : ForM) (d : DeskM) (h : shortF f = false ∨ shortB d = false ∨ rightF f = false ∨ rightD d = false) : FnOK Tryd.prog 3 [] [eFor f, eDesk d] [] (eBool true) := by
  have h5 := f5_ok
  have h6 := f6_ok f
  have h7 := f7_ok d
  by_cases k1 : shortF f = true
  · have hs := shortF_iff.1 k1
    have h8 := f8_ok f hs
    by_cases k2 : shortB d = true
    · have hd := (shortB_iff.1 k2).small
      have h9 := f9_ok d hd
      rw [k1] at h6
      rw [k2] at h7
      rw [k1, k2] at h
      generalize rightF f = q8 at h h8
      generalize rightD d = q9 at h h9
      obtain ⟨l, m⟩ := f
      obtain ⟨d1, d2, d3, d4⟩ := d
      refine FnOK.startC (rvs := [.tmp 4]) G G_good Tryd.func3 rfl Tryd.ntmps3 rfl rfl ?_; with_reducible refine wD ?_
      cases q8 with
      | false =>
        repeat' (first
    | refine gK ?_
    | ((first
      | ((with_reducible show CallK _ _ 5 _ _ _ _); refine CallK.lit [] h5 c5 trivial rfl rfl ?_)
      | ((with_reducible show CallK _ _ 6 _ _ _ _); refine CallK.lit [] h6 c6 ⟨⟨rfl, rfl, trivial⟩, trivial⟩ rfl rfl ?_)
      | ((with_reducible show CallK _ _ 7 _ _ _ _); refine CallK.lit [] h7 c7 ⟨⟨rfl, rfl, rfl, rfl, trivial⟩, trivial⟩ rfl rfl ?_)
      | ((with_reducible show CallK _ _ 8 _ _ _ _); refine CallK.lit [] h8 c8 ⟨⟨rfl, rfl, trivial⟩, trivial⟩ rfl rfl ?_)) <;> with_reducible refine wK ?_)
    | ((with_reducible show (_ ∧ _) ∧ _ ∧ _); (refine eK ?_ ?_ <;> with_reducible repeat' (first | exact trivial | (show _ ∧ _; refine aK ?_ ?_)))))
      | true =>
        obtain rfl : q9 = false := by rcases h with h | h | h | h <;> first | exact h | cases h
        repeat' (first
    | refine gK ?_
    | ((first
      | ((with_reducible show CallK _ _ 5 _ _ _ _); refine CallK.lit [] h5 c5 trivial rfl rfl ?_)
      | ((with_reducible show CallK _ _ 6 _ _ _ _); refine CallK.lit [] h6 c6 ⟨⟨rfl, rfl, trivial⟩, trivial⟩ rfl rfl ?_)
      | ((with_reducible show CallK _ _ 7 _ _ _ _); refine CallK.lit [] h7 c7 ⟨⟨rfl, rfl, rfl, rfl, trivial⟩, trivial⟩ rfl rfl ?_)
      | ((with_reducible show CallK _ _ 8 _ _ _ _); refine CallK.lit [] h8 c8 ⟨⟨rfl, rfl, trivial⟩, trivial⟩ rfl rfl ?_)
      | ((with_reducible show CallK _ _ 9 _ _ _ _); refine CallK.lit [] h9 c9 ⟨⟨rfl, rfl, rfl, rfl, trivial⟩, trivial⟩ rfl rfl ?_)) <;> with_reducible refine wK ?_)
    | ((with_reducible show (_ ∧ _) ∧ _ ∧ _); (refine eK ?_ ?_ <;> with_reducible repeat' (first | exact trivial | (show _ ∧ _; refine aK ?_ ?_)))))
    · rw [k1] at h6
      rw [eq_false_of_ne_true k2] at h7
      obtain ⟨l, m⟩ := f
      obtain ⟨d1, d2, d3, d4⟩ := d
      refine FnOK.startC (rvs := [.tmp 4]) G G_good Tryd.func3 rfl Tryd.ntmps3 rfl rfl ?_; with_reducible refine wD ?_
      repeat' (first
    | refine gK ?_
    | ((first
      | ((with_reducible show CallK _ _ 5 _ _ _ _); refine CallK.lit [] h5 c5 trivial rfl rfl ?_)
      | ((with_reducible show CallK _ _ 6 _ _ _ _); refine CallK.lit [] h6 c6 ⟨⟨rfl, rfl, trivial⟩, trivial⟩ rfl rfl ?_)
      | ((with_reducible show CallK _ _ 7 _ _ _ _); refine CallK.lit [] h7 c7 ⟨⟨rfl, rfl, rfl, rfl, trivial⟩, trivial⟩ rfl rfl ?_)) <;> with_reducible refine wK ?_)
    | ((with_reducible show (_ ∧ _) ∧ _ ∧ _); (refine eK ?_ ?_ <;> with_reducible repeat' (first | exact trivial | (show _ ∧ _; refine aK ?_ ?_)))))
  · rw [eq_false_of_ne_true k1] at h6
    obtain ⟨l, m⟩ := f
    obtain ⟨d1, d2, d3, d4⟩ := d
    refine FnOK.startC (rvs := [.tmp 4]) G G_good Tryd.func3 rfl Tryd.ntmps3 rfl rfl ?_; with_reducible refine wD ?_
    repeat' (first
    | refine gK ?_
    | ((first
      | ((with_reducible show CallK _ _ 5 _ _ _ _); refine CallK.lit [] h5 c5 trivial rfl rfl ?_)
      | ((with_reducible show CallK _ _ 6 _ _ _ _); refine CallK.lit [] h6 c6 ⟨⟨rfl, rfl, trivial⟩, trivial⟩ rfl rfl ?_)) <;> with_reducible refine wK ?_)
    | ((with_reducible show (_ ∧ _) ∧ _ ∧ _); (refine eK ?_ ?_ <;> with_reducible repeat' (first | exact trivial | (show _ ∧ _; refine aK ?_ ?_)))))
theorem f3_short (f : ForM) (d : DeskM) (k1 : shortF f = true) (k2 : shortB d = true) (k3 : rightF f = true) (k4 : rightD d = true)
    (hw : ∀ (i : Nat) (x : DefM), d.defs[i]? = some x → heirsU f x = wantU f d i) (hsum : (triesU f 0 d).length = sumN (fun i => (wantU f d i).length) d.defs.length) : FnOK Tryd.prog 3 [] [eFor f, eDesk d] [] (eBool true) := by
  have hs := shortF_iff.1 k1
  have hd := (shortB_iff.1 k2).small
  have h5 := f5_ok
  have h6 := f6_ok f
  have h7 := f7_ok d
  have h8 := f8_ok f hs
  have h9 := f9_ok d hd
  rw [k1] at h6
  rw [k2] at h7
  rw [k3] at h8
  rw [k4] at h9
  have h10 := f10_ok f hs 0 (by rw [k3, there0 k3]; rfl)
  have h11 := fun n => f11_ok f hs n d hd
  have h13 := fun x => f13_ok f hs x
  have h14 := f14_ok f hs 0 d hd
  have hel : (elemsU f.nodes (allU f 0)).length ≤ 60 := Nat.le_trans (elemsU_len _ _) (Nat.le_trans allU_len hs.len)
  have hwl : ∀ i, (wantU f d i).length ≤ 60 := fun i => Nat.le_trans (List.length_filter_le _ _) hel
  have hdl := hd.defs
  obtain ⟨es, hes⟩ : ∃ es, es = elemsU f.nodes (allU f 0) := ⟨_, rfl⟩
  have hwe : ∀ i, wantU f d i = es.filter fun c => decide (fateF f c d = (i : Int)) := fun i => by rw [hes]; rfl
  rw [← hes] at h10 hel
  clear hes
  generalize wantU f d = wt at hw hsum hwl hwe
  obtain ⟨fe, hfe⟩ : ∃ fe : Int → Int, fe = fun c => fateF f c d := ⟨_, rfl⟩
  have h11 : ∀ n, FnOK Tryd.prog 11 [] [eFor f, eInt n, eDesk d] [] (eInt (fe n)) := fun n => by rw [hfe]; exact h11 n
  have hwf : ∀ i, wt i = es.filter fun c => decide (fe c = (i : Int)) := fun i => by rw [hwe, hfe]
  clear hwe
  clear hfe
  generalize triesU f 0 d = tr at h14 hsum
  obtain ⟨l, m⟩ := f
  obtain ⟨d1, d2, d3, d4⟩ := d
  simp only at hw hsum
  refine FnOK.startC (rvs := [.tmp 4]) G G_good Tryd.func3 rfl Tryd.ntmps3 rfl rfl ?_; with_reducible refine wD ?_
  repeat' (first
    | refine gK ?_
    | ((first
      | ((with_reducible show CallK _ _ 5 _ _ _ _); refine CallK.lit [] h5 c5 trivial rfl rfl ?_)
      | ((with_reducible show CallK _ _ 6 _ _ _ _); refine CallK.lit [] h6 c6 ⟨⟨rfl, rfl, trivial⟩, trivial⟩ rfl rfl ?_)
      | ((with_reducible show CallK _ _ 7 _ _ _ _); refine CallK.lit [] h7 c7 ⟨⟨rfl, rfl, rfl, rfl, trivial⟩, trivial⟩ rfl rfl ?_)
      | ((with_reducible show CallK _ _ 8 _ _ _ _); refine CallK.lit [] h8 c8 ⟨⟨rfl, rfl, trivial⟩, trivial⟩ rfl rfl ?_)
      | ((with_reducible show CallK _ _ 9 _ _ _ _); refine CallK.lit [] h9 c9 ⟨⟨rfl, rfl, rfl, rfl, trivial⟩, trivial⟩ rfl rfl ?_)
      | ((with_reducible show CallK _ _ 10 _ _ _ _); refine CallK.val [] h10 c10 ⟨⟨rfl, rfl, trivial⟩, rfl, trivial⟩ rfl rfl rfl ?_)) <;> with_reducible refine wK ?_)
    | ((with_reducible show (_ ∧ _) ∧ _ ∧ _); (refine eK ?_ ?_ <;> with_reducible repeat' (first | exact trivial | (show _ ∧ _; refine aK ?_ ?_)))))
  have hlm : (d1.map oDef).length = d1.length := List.length_map ..
  have hem : (es.map oInt).length = es.length := List.length_map ..
  have hd40 : d1.length ≤ 40 := (shortB_iff.1 k2).defs
  refine LoopK.use G G_good (fun (i : Nat) => [(2, .ptr 20 0 0), (3, .ptr 30 0 0), (5, eInts es), (6, eInt (sumN (fun i => (wt i).length) i)), (7, eInt i)])
    (fun i => [(20, .live 2 [eFor ⟨l, m⟩] false), (30, .live 4 [eDesk ⟨d1, d2, d3, d4⟩] false)]) (fun i => i ≤ d1.length) (fun i => d1.length - i) 0 (Nat.zero_le _)
    ⟨⟨rfl, rfl⟩, ⟨⟨rfl, rfl⟩, ⟨rfl, rfl⟩, rfl, rfl, rfl, trivial⟩, ⟨⟨rfl, rfl, trivial⟩, trivial⟩, ⟨⟨rfl, rfl, rfl, rfl, trivial⟩, trivial⟩, trivial⟩ ?_
  intro i hi
  have hsl := sumN_le (fun k => hwl k) i
  with_reducible refine wK ?_
  refine IfK.mk (fun h1 => ?_) (fun h1 => ?_) <;> (try simp only [castN] at h1) <;> with_reducible refine wK ?_
  · have hi' : i < d1.length := by simp only [hlm, decide_eq_true_eq] at h1; omega
    obtain ⟨⟨x1, x2, x3⟩, hx⟩ : ∃ x, d1[i]? = some x := ⟨_, List.getElem?_eq_getElem hi'⟩
    have hwx := hw i _ hx
    have h13x := h13 ⟨x1, x2, x3⟩
    rw [hwx] at h13x
    obtain ⟨ks, hks⟩ : ∃ ks : Nat → List Int, ks = fun k => (es.take k).filter fun c => decide (fe c = (i : Int)) := ⟨_, rfl⟩
    have hkl : ∀ k, (ks k).length ≤ 60 := fun k => by
      rw [hks]; exact Nat.le_trans (List.length_filter_le _ _) (by rw [List.length_take]; omega)
    have hk0 : ks 0 = [] := by rw [hks]; rfl
    have hstep : ∀ (k : Nat) (c : Int), es[k]? = some c → ks (k + 1) = ks k ++ if fe c = (i : Int) then [c] else [] := fun k c hc => by
      rw [hks]; show ((es.take (k + 1)).filter _) = _
      rw [List.take_add_one, hc, List.filter_append]
      congr 1
      show List.filter _ [c] = _
      rw [List.filter_cons]
      by_cases h : fe c = (i : Int) <;> simp [h]
    have hke : ks es.length = wt i := by rw [hks, hwf]; show (es.take es.length).filter _ = _; rw [List.take_length]
    clear hks
    repeat' (first
    | refine gK ?_
    | ((with_reducible show (_ ∧ _) ∧ _ ∧ _); (refine eK ?_ ?_ <;> with_reducible repeat' (first | exact trivial | (show _ ∧ _; refine aK ?_ ?_)))))
    refine LoopK.ghost 8 81 1 rfl rfl ?_
    refine LoopK.use G G_good (fun (k : Nat) => [(2, .ptr 20 0 0), (3, .ptr 30 0 0), (5, eInts es), (6, eInt (sumN (fun i => (wt i).length) i)), (7, eInt i), (8, .own 81 0 (ks k).length), (9, eInt k)])
      (fun k => [(20, .live 2 [eFor ⟨l, m⟩] false), (30, .live 4 [eDesk ⟨d1, d2, d3, d4⟩] false), (81, rInts (ks k))]) (fun k => k ≤ es.length) (fun k => es.length - k) 0 (Nat.zero_le _)
      (by rw [hk0]; exact ⟨⟨rfl, rfl⟩, ⟨⟨rfl, rfl⟩, ⟨rfl, rfl⟩, rfl, rfl, rfl, ⟨rfl, rfl⟩, rfl, trivial⟩, ⟨⟨rfl, rfl, trivial⟩, trivial⟩, ⟨⟨rfl, rfl, rfl, rfl, trivial⟩, trivial⟩, ⟨.refl rfl, noRef_ints _⟩, trivial⟩) ?_
    intro k hk
    with_reducible refine wK ?_
    refine IfK.mk (fun h2 => ?_) (fun h2 => ?_) <;> (try simp only [castN] at h2) <;> with_reducible refine wK ?_
    · have hk' : k < es.length := by simp only [hem, decide_eq_true_eq] at h2; omega
      obtain ⟨c, hc⟩ : ∃ c, es[k]? = some c := ⟨_, List.getElem?_eq_getElem hk'⟩
      have hst := hstep k c hc
      have hkk := hkl k
      refine IdxK.mk k (eInt c) rfl (int_get hc) ?_; with_reducible refine wK ?_
      repeat' (first
    | refine gK ?_
    | (((with_reducible show CallK _ _ 11 _ _ _ _); refine CallK.lit [] (h11 c) c11 ⟨⟨rfl, rfl, trivial⟩, rfl, ⟨rfl, rfl, rfl, rfl, trivial⟩, trivial⟩ rfl rfl ?_) <;> with_reducible refine wK ?_)
    | ((with_reducible show (_ ∧ _) ∧ _ ∧ _); (refine eK ?_ ?_ <;> with_reducible repeat' (first | exact trivial | (show _ ∧ _; refine aK ?_ ?_)))))
      refine IfK.mk (fun h3 => ?_) (fun h3 => ?_) <;> (try simp only [castN] at h3) <;> with_reducible refine wK ?_
      · rw [decide_eq_true_eq] at h3
        rw [if_pos h3] at hst
        repeat' (first
    | refine gK ?_
    | ((first
      | ((with_reducible show IdxK _ _ _ _ _); refine IdxK.mk k (eInt c) rfl (int_get hc) ?_)
      | ((with_reducible show AppK _ _ _ _ _ _ _ _ _ _); refine AppK.mk ((ks k).map oInt) [oInt c] ⟨rfl, (List.length_map ..).symm, rfl⟩ ⟨rfl, rfl, rfl⟩ rfl (by simp; omega) (by simp; omega) ?_)) <;> with_reducible refine wK ?_)
    | ((with_reducible show (_ ∧ _) ∧ _ ∧ _); (refine eK ?_ ?_ <;> with_reducible repeat' (first | exact trivial | (show _ ∧ _; refine aK ?_ ?_)))))
        refine NextK.mk (k + 1) (by omega) (by omega) ⟨⟨rfl, rfl⟩, ⟨⟨rfl, rfl⟩, ⟨rfl, rfl⟩, rfl, rfl, rfl, ⟨rfl, by rw [hst]; simp⟩, by show ((k + 1 : Nat) : Int) = (k : Int) + 1; omega, trivial⟩, ⟨⟨rfl, rfl, trivial⟩, trivial⟩, ⟨⟨rfl, rfl, rfl, rfl, trivial⟩, trivial⟩, ⟨by rw [hst, List.map_append]; exact .refl (by rw [← List.map_append]; exact noRef_ints _), noRef_ints _⟩, trivial⟩
      · rw [decide_eq_false_iff_not] at h3
        rw [if_neg h3, List.append_nil] at hst
        repeat' (first
    | refine gK ?_
    | ((with_reducible show (_ ∧ _) ∧ _ ∧ _); (refine eK ?_ ?_ <;> with_reducible repeat' (first | exact trivial | (show _ ∧ _; refine aK ?_ ?_)))))
        refine NextK.mk (k + 1) (by omega) (by omega) ⟨⟨rfl, rfl⟩, ⟨⟨rfl, rfl⟩, ⟨rfl, rfl⟩, rfl, rfl, rfl, ⟨rfl, by rw [hst]⟩, by show ((k + 1 : Nat) : Int) = (k : Int) + 1; omega, trivial⟩, ⟨⟨rfl, rfl, trivial⟩, trivial⟩, ⟨⟨rfl, rfl, rfl, rfl, trivial⟩, trivial⟩, ⟨by rw [hst]; exact .refl (noRef_ints _), noRef_ints _⟩, trivial⟩
    · have hkn : k = es.length := by simp only [hem, decide_eq_false_iff_not] at h2; omega
      subst hkn
      have h12 := f12_ok (wt i) (wt i) (by have := hwl i; omega)
      rw [decide_eq_true rfl] at h12
      have hwli := hwl i
      rw [hke]
      refine IdxK.mk i (eDef ⟨x1, x2, x3⟩) rfl (def_get hx) ?_; with_reducible refine wK ?_
      repeat' (first
    | refine gK ?_
    | ((first
      | ((with_reducible show CallK _ _ 13 _ _ _ _); refine CallK.val [] h13x c13 ⟨⟨rfl, rfl, trivial⟩, ⟨rfl, rfl, rfl, trivial⟩, trivial⟩ rfl rfl rfl ?_)
      | ((with_reducible show CallK _ _ 12 _ _ _ _); refine CallK.lit [81] h12 c12 ⟨rfl, frz_ints (l := wt i) rfl rfl rfl rfl, trivial⟩ rfl rfl ?_)) <;> with_reducible refine wK ?_)
    | ((with_reducible show (_ ∧ _) ∧ _ ∧ _); (refine eK ?_ ?_ <;> with_reducible repeat' (first | exact trivial | (show _ ∧ _; refine aK ?_ ?_)))))
      refine NextK.mk (i + 1) (by omega) (by omega) ⟨⟨rfl, rfl⟩, ⟨⟨rfl, rfl⟩, ⟨rfl, rfl⟩, rfl, ?_, by show ((i + 1 : Nat) : Int) = (i : Int) + 1; omega, trivial⟩, ⟨⟨rfl, rfl, trivial⟩, trivial⟩, ⟨⟨rfl, rfl, rfl, rfl, trivial⟩, trivial⟩, trivial⟩
      show ((sumN (fun i => (wt i).length) i + (wt i).length : Nat) : Int) = _
      exact Int.natCast_add _ _
  · have hin : i = d1.length := by simp only [hlm, decide_eq_false_iff_not] at h1; omega
    subst hin
    repeat' (first
    | refine gK ?_
    | (((with_reducible show CallK _ _ 14 _ _ _ _); refine CallK.val [] h14 c14 ⟨⟨rfl, rfl, trivial⟩, rfl, ⟨rfl, rfl, rfl, rfl, trivial⟩, trivial⟩ rfl rfl rfl ?_) <;> with_reducible refine wK ?_)
    | ((with_reducible show (_ ∧ _) ∧ _ ∧ _); (refine eK ?_ ?_ <;> with_reducible repeat' (first | exact trivial | (show _ ∧ _; refine aK ?_ ?_)))))
    rw [show (List.map oDue tr).length = tr.length from List.length_map .., hsum]
    exact (decide_eq_true rfl).symm
end Go.Proofs.Heir
end
section
set_option linter.unusedSimpArgs false
set_option linter.unusedVariables false
namespace Go.Proofs.Heir
open Go Go.Am Go.RowKit Go.Lib
set_option maxRecDepth 100000
theorem ch_doc {f : ForM} (h : rightF f = true) {n k : Int} (hn : thereN f.nodes n = true) (hk : k ∈ chU (nd f.nodes n)) : (nd f.nodes k).doc = (nd f.nodes n).doc := by
  have hN := right_nodes h
  have h1 := hN n hn
  unfold chU at hk
  rcases List.mem_append.1 hk with hk | hk
  · by_cases hu : (nd f.nodes n).under = -1
    · rw [if_pos hu] at hk; cases hk
    · rw [if_neg hu, List.mem_singleton] at hk
      subst hk
      unfold nodeOK shadedN isN at h1
      simp only [Bool.and_eq_true, Bool.or_eq_true, decide_eq_true_eq] at h1
      rcases h1.2.2.2.2.2 with h2 | h2
      · exact absurd h2 hu
      · have h3 := hN _ h2.1.2.1
        unfold nodeOK shadedN at h3
        simp only [Bool.and_eq_true] at h3
        have h4 := h3.2.2.2.2.1
        rw [if_pos h2.1.2.2] at h4
        simp only [Bool.and_eq_true, decide_eq_true_eq] at h4
        rw [← h4.2, h2.2]
  · unfold nodeOK bearsN at h1
    simp only [Bool.and_eq_true] at h1
    have h2 := (kidsOK_iff.1 h1.2.2.2.1.1).1 k hk
    unfold kidP at h2
    simp only [Bool.and_eq_true, Bool.or_eq_true, decide_eq_true_eq] at h2
    exact h2.2.2.1
theorem ord_doc {f : ForM} (h : rightF f = true) : ∀ (m : Nat) (n : Int), thereN f.nodes n = true → ∀ b ∈ U.ordN f.nodes m n, (nd f.nodes b).doc = (nd f.nodes n).doc
  | 0, n, _, b, hb => by simp [U.ordN] at hb
  | m + 1, n, hn, b, hb => by
    unfold U.ordN at hb
    rcases List.mem_cons.1 hb with rfl | hb
    · rfl
    · obtain ⟨k, hk, hbk⟩ := List.mem_flatMap.1 hb
      rw [ord_doc h m k ((U.tree_of h).kid n hn k hk).1 b hbk, ch_doc h hn hk]
theorem doc0 {f : ForM} (h : rightF f = true) : (nd f.nodes 0).doc = 0 := by
  have h1 := right_nodes h 0 (there0 h)
  unfold nodeOK ownedN at h1
  simp only [Bool.and_eq_true, Bool.or_eq_true, decide_eq_true_eq] at h1
  have h2 : (nd f.nodes 0).kind = 0 := by
    unfold rightF headOK at h
    simp only [Bool.and_eq_true, decide_eq_true_eq] at h
    exact h.1.2
  rcases h1.2.1.2 with h3 | h3
  · exact absurd h2 h3
  · exact h3
theorem elems_facts {f : ForM} (h : rightF f = true) {c : Int} (hc : c ∈ elemsU f.nodes (allU f 0)) : thereN f.nodes c = true ∧ (nd f.nodes c).kind = 1 ∧ (nd f.nodes c).doc = 0 := by
  unfold elemsU at hc
  obtain ⟨h1, h2⟩ := List.mem_filter.1 hc
  refine ⟨allU_there c h1, by simpa using h2, ?_⟩
  unfold allU at h1
  rw [if_pos (by rw [h, there0 h]; rfl)] at h1
  rw [ord_doc h _ 0 (there0 h) c h1, doc0 h]
theorem fate_elem {f : ForM} (h : rightF f = true) {d : DeskM} (hd : rightD d = true) {c : Int} (hc : c ∈ elemsU f.nodes (allU f 0)) : fateF f c d = fateD (nd f.nodes c) d ∧ fateF f c d = findR d.defs (nd f.nodes c).name (nd f.nodes c).is := by
  obtain ⟨h1, h2, h3⟩ := elems_facts h hc
  have e : fateF f c d = fateD (nd f.nodes c) d := by unfold fateF; rw [if_pos (by rw [h1, h]; rfl)]
  refine ⟨e, ?_⟩
  rw [e]; unfold fateD findD
  rw [if_pos ⟨h2, h3⟩, if_pos hd]
theorem heirs_want {f : ForM} (h : rightF f = true) {d : DeskM} (hd : rightD d = true) (i : Nat) (x : DefM) (hx : d.defs[i]? = some x) : heirsU f x = wantU f d i := by
  have hdd : defsB d.defs = true := by
    unfold rightD at hd
    simp only [Bool.and_eq_true] at hd
    exact hd.1.1.1
  unfold heirsU wantU
  apply List.filter_congr
  intro c hc
  rw [(fate_elem h hd hc).2]
  have := findR_iff hdd (a := (nd f.nodes c).name) (b := (nd f.nodes c).is) hx
  rw [Bool.eq_iff_iff, decide_eq_true_iff, this]
  unfold isHeir fitsB
  simp only [Bool.and_eq_true, Bool.or_eq_true, decide_eq_true_eq]
  constructor
  · rintro ⟨a, b | b⟩
    · exact ⟨a.symm, .inr b.symm⟩
    · exact ⟨a.symm, .inl b.symm⟩
  · rintro ⟨a, b | b⟩
    · exact ⟨a.symm, .inr b.symm⟩
    · exact ⟨a.symm, .inl b.symm⟩
theorem sumN_add (g k : Nat → Nat) : ∀ n, sumN (fun i => g i + k i) n = sumN g n + sumN k n
  | 0 => rfl
  | n + 1 => by unfold sumN; rw [sumN_add g k n]; omega
theorem sumN_zero : ∀ n, sumN (fun _ => 0) n = 0
  | 0 => rfl
  | n + 1 => by unfold sumN; rw [sumN_zero n]
theorem sumN_one (a : Int) : ∀ n, sumN (fun i => if a = (i : Int) then 1 else 0) n = if 0 ≤ a ∧ a < (n : Int) then 1 else 0
  | 0 => by unfold sumN; rw [if_neg (by omega)]
  | n + 1 => by
    unfold sumN; rw [sumN_one a n]
    by_cases h1 : 0 ≤ a ∧ a < (n : Int)
    · rw [if_pos h1, if_neg (by omega), if_pos (by omega)]
    · rw [if_neg h1]
      by_cases h2 : a = (n : Int)
      · rw [if_pos h2, if_pos (by omega)]
      · rw [if_neg h2, if_neg (by omega)]
theorem sum_want (fe : Int → Int) (n : Nat) : ∀ (es : List Int), (∀ c ∈ es, fe c = -1 ∨ (0 ≤ fe c ∧ fe c < (n : Int))) →
    sumN (fun i => (es.filter fun c => decide (fe c = (i : Int))).length) n = (es.filter fun c => !decide (fe c = -1)).length
  | [], _ => sumN_zero n
  | c :: r, h => by
    have ih := sum_want fe n r fun c hc => h c (List.mem_cons_of_mem _ hc)
    have e : (fun i : Nat => ((c :: r).filter fun c => decide (fe c = (i : Int))).length) = fun i : Nat => (r.filter fun c => decide (fe c = (i : Int))).length + (if fe c = (i : Int) then 1 else 0) := by
      funext i
      rw [List.filter_cons]
      by_cases hc : fe c = (i : Int) <;> simp [hc]
    rw [e, sumN_add, ih, sumN_one, List.filter_cons]
    rcases h c (List.mem_cons_self ..) with h1 | h1
    · rw [if_neg (by omega), if_neg (by simp [h1])]; rfl
    · rw [if_pos h1, if_pos (by simp; omega)]; rfl
theorem dues_len (l : List NodeM) (d : DeskM) : ∀ es : List Int, (es.flatMap (dueOf l d)).length = (es.filter fun c => !decide (fateD (nd l c) d = -1)).length
  | [] => rfl
  | c :: r => by
    rw [List.flatMap_cons, List.length_append, dues_len l d r, List.filter_cons]
    unfold dueOf
    by_cases h : fateD (nd l c) d = -1 <;> simp [h]; omega
theorem tries_sum {f : ForM} (h : rightF f = true) {d : DeskM} (hd : rightD d = true) : (triesU f 0 d).length = sumN (fun i => (wantU f d i).length) d.defs.length := by
  unfold triesU wantU
  rw [sum_want (fun c => fateF f c d) d.defs.length, dues_len]
  · congr 1
    apply List.filter_congr
    intro c hc
    rw [(fate_elem h hd hc).1]
  · intro c hc
    show fateF f c d = -1 ∨ _
    rw [(fate_elem h hd hc).2]
    rcases findR_cases d.defs (nd f.nodes c).name (nd f.nodes c).is with ⟨h1, _⟩ | ⟨k, x, h1, h2, _⟩
    · exact .inl h1
    · right
      have := (List.getElem?_eq_some_iff.1 h2).1
      rw [h1]; omega
theorem f3_ok (f : ForM) (d : DeskM) : FnOK Tryd.prog 3 [] [eFor f, eDesk d] [] (eBool true) := by
  by_cases k1 : shortF f = true
  · by_cases k2 : shortB d = true
    · by_cases k3 : rightF f = true
      · by_cases k4 : rightD d = true
        · exact f3_short f d k1 k2 k3 k4 (fun i x hx => heirs_want k3 k4 i x hx) (tries_sum k3 k4)
        · exact f3_long f d (.inr (.inr (.inr (eq_false_of_ne_true k4))))
      · exact f3_long f d (.inr (.inr (.inl (eq_false_of_ne_true k3))))
    · exact f3_long f d (.inr (.inl (eq_false_of_ne_true k2)))
  · exact f3_long f d (.inl (eq_false_of_ne_true k1))
end Go.Proofs.Heir
end
section
set_option linter.unusedSimpArgs false
set_option linter.unusedVariables false
namespace Go.Proofs.Heir
open Go Go.Am Go.RowKit Go.Lib
set_option maxRecDepth 100000
set_option maxHeartbeats 8000000
theorem custom_ne {s : ByteArray} (h : customS s = true) : s ≠ ⟨#[]⟩ := by
  rintro rfl
  revert h
  decide
theorem try_elem {f : ForM} (h : rightF f = true) {d : DeskM} (hd : rightD d = true) {n c : Int} (hc : c ∈ elemsU f.nodes (allU f n)) :
    (fateF f c d = -1 ∧ dueOf f.nodes d c = []) ∨ ∃ (k : Nat) (x : DefM), fateF f c d = k ∧ dueOf f.nodes d c = [⟨c, k⟩] ∧ d.defs[k]? = some x ∧ x.locl = (nd f.nodes c).name ∧ bornM (nd f.nodes c).name (nd f.nodes c).is = 1 ∧ (nd f.nodes c).doc = 0 ∧ findD d (nd f.nodes c).name (nd f.nodes c).is = k := by
  have ht : thereN f.nodes c = true := by
    unfold elemsU at hc
    exact allU_there c (List.mem_filter.1 hc).1
  have e : fateF f c d = fateD (nd f.nodes c) d := by unfold fateF; rw [if_pos (by rw [ht, h]; rfl)]
  have hdd : d.defs.all goodD = true := by
    unfold rightD defsB at hd
    simp only [Bool.and_eq_true] at hd
    exact hd.1.1.1.1.1
  rw [e]
  unfold dueOf
  by_cases hk : (nd f.nodes c).kind = 1 ∧ (nd f.nodes c).doc = 0
  · have e2 : fateD (nd f.nodes c) d = findD d (nd f.nodes c).name (nd f.nodes c).is := by unfold fateD; rw [if_pos hk]
    rw [e2]
    have e3 : findD d (nd f.nodes c).name (nd f.nodes c).is = findR d.defs (nd f.nodes c).name (nd f.nodes c).is := by unfold findD; rw [if_pos hd]
    rw [e3]
    rcases findR_cases d.defs (nd f.nodes c).name (nd f.nodes c).is with ⟨h1, _⟩ | ⟨k, x, h1, h2, h3⟩
    · exact .inl ⟨h1, if_pos h1⟩
    · right
      have hg := goodD_facts (List.all_eq_true.1 hdd x (List.mem_of_getElem? h2))
      have hf := fitsB_iff.1 h3
      refine ⟨k, x, h1, ?_, h2, hf.1, ?_, hk.2, h1⟩
      · rw [h1, if_neg (by omega)]
      · unfold bornM
        rw [if_pos]
        rcases hf.2 with h4 | h4
        · rw [← h4, hg.1]; simp
        · rw [← h4, decide_eq_false (custom_ne hg.1)]; rfl
  · have e2 : fateD (nd f.nodes c) d = -1 := by unfold fateD; rw [if_neg hk]
    exact .inl ⟨e2, if_pos e2⟩
theorem f4_long (f : ForM) (a : Int) (d : DeskM) (h : shortF f = false ∨ shortB d = false ∨ rightF f = false ∨ rightD d = false) : FnOK Tryd.prog 4 [] [eFor f, .lit (.int .u8 a), eDesk d] [] (eBool true) := by
  have h5 := f5_ok
  have h6 := f6_ok f
  have h7 := f7_ok d
  by_cases k1 : shortF f = true
  · have hs := shortF_iff.1 k1
    have h8 := f8_ok f hs
    by_cases k2 : shortB d = true
    · have hd := (shortB_iff.1 k2).small
      have h9 := f9_ok d hd
      rw [k1] at h6
      rw [k2] at h7
      rw [k1, k2] at h
      generalize rightF f = q8 at h h8
      generalize rightD d = q9 at h h9
      obtain ⟨l, m⟩ := f
      obtain ⟨d1, d2, d3, d4⟩ := d
      refine FnOK.startC (rvs := [.tmp 6]) G G_good Tryd.func4 rfl Tryd.ntmps4 rfl rfl ?_; with_reducible refine wD ?_
      cases q8 with
      | false =>
        repeat' (first
    | refine gK ?_
    | ((first
      | ((with_reducible show CallK _ _ 5 _ _ _ _); refine CallK.lit [] h5 c5 trivial rfl rfl ?_)
      | ((with_reducible show CallK _ _ 6 _ _ _ _); refine CallK.lit [] h6 c6 ⟨⟨rfl, rfl, trivial⟩, trivial⟩ rfl rfl ?_)
      | ((with_reducible show CallK _ _ 7 _ _ _ _); refine CallK.lit [] h7 c7 ⟨⟨rfl, rfl, rfl, rfl, trivial⟩, trivial⟩ rfl rfl ?_)
      | ((with_reducible show CallK _ _ 8 _ _ _ _); refine CallK.lit [] h8 c8 ⟨⟨rfl, rfl, trivial⟩, trivial⟩ rfl rfl ?_)) <;> with_reducible refine wK ?_)
    | ((with_reducible show (_ ∧ _) ∧ _ ∧ _); (refine eK ?_ ?_ <;> with_reducible repeat' (first | exact trivial | (show _ ∧ _; refine aK ?_ ?_)))))
      | true =>
        obtain rfl : q9 = false := by rcases h with h | h | h | h <;> first | exact h | cases h
        repeat' (first
    | refine gK ?_
    | ((first
      | ((with_reducible show CallK _ _ 5 _ _ _ _); refine CallK.lit [] h5 c5 trivial rfl rfl ?_)
      | ((with_reducible show CallK _ _ 6 _ _ _ _); refine CallK.lit [] h6 c6 ⟨⟨rfl, rfl, trivial⟩, trivial⟩ rfl rfl ?_)
      | ((with_reducible show CallK _ _ 7 _ _ _ _); refine CallK.lit [] h7 c7 ⟨⟨rfl, rfl, rfl, rfl, trivial⟩, trivial⟩ rfl rfl ?_)
      | ((with_reducible show CallK _ _ 8 _ _ _ _); refine CallK.lit [] h8 c8 ⟨⟨rfl, rfl, trivial⟩, trivial⟩ rfl rfl ?_)
      | ((with_reducible show CallK _ _ 9 _ _ _ _); refine CallK.lit [] h9 c9 ⟨⟨rfl, rfl, rfl, rfl, trivial⟩, trivial⟩ rfl rfl ?_)) <;> with_reducible refine wK ?_)
    | ((with_reducible show (_ ∧ _) ∧ _ ∧ _); (refine eK ?_ ?_ <;> with_reducible repeat' (first | exact trivial | (show _ ∧ _; refine aK ?_ ?_)))))
    · rw [k1] at h6
      rw [eq_false_of_ne_true k2] at h7
      obtain ⟨l, m⟩ := f
      obtain ⟨d1, d2, d3, d4⟩ := d
      refine FnOK.startC (rvs := [.tmp 6]) G G_good Tryd.func4 rfl Tryd.ntmps4 rfl rfl ?_; with_reducible refine wD ?_
      repeat' (first
    | refine gK ?_
    | ((first
      | ((with_reducible show CallK _ _ 5 _ _ _ _); refine CallK.lit [] h5 c5 trivial rfl rfl ?_)
      | ((with_reducible show CallK _ _ 6 _ _ _ _); refine CallK.lit [] h6 c6 ⟨⟨rfl, rfl, trivial⟩, trivial⟩ rfl rfl ?_)
      | ((with_reducible show CallK _ _ 7 _ _ _ _); refine CallK.lit [] h7 c7 ⟨⟨rfl, rfl, rfl, rfl, trivial⟩, trivial⟩ rfl rfl ?_)) <;> with_reducible refine wK ?_)
    | ((with_reducible show (_ ∧ _) ∧ _ ∧ _); (refine eK ?_ ?_ <;> with_reducible repeat' (first | exact trivial | (show _ ∧ _; refine aK ?_ ?_)))))
  · rw [eq_false_of_ne_true k1] at h6
    obtain ⟨l, m⟩ := f
    obtain ⟨d1, d2, d3, d4⟩ := d
    refine FnOK.startC (rvs := [.tmp 6]) G G_good Tryd.func4 rfl Tryd.ntmps4 rfl rfl ?_; with_reducible refine wD ?_
    repeat' (first
    | refine gK ?_
    | ((first
      | ((with_reducible show CallK _ _ 5 _ _ _ _); refine CallK.lit [] h5 c5 trivial rfl rfl ?_)
      | ((with_reducible show CallK _ _ 6 _ _ _ _); refine CallK.lit [] h6 c6 ⟨⟨rfl, rfl, trivial⟩, trivial⟩ rfl rfl ?_)) <;> with_reducible refine wK ?_)
    | ((with_reducible show (_ ∧ _) ∧ _ ∧ _); (refine eK ?_ ?_ <;> with_reducible repeat' (first | exact trivial | (show _ ∧ _; refine aK ?_ ?_)))))
theorem f4_short (f : ForM) (a : Int) (ha : 0 ≤ a ∧ a < 256) (d : DeskM) (k1 : shortF f = true) (k2 : shortB d = true) (k3 : rightF f = true) (k4 : rightD d = true) : FnOK Tryd.prog 4 [] [eFor f, .lit (.int .u8 a), eDesk d] [] (eBool true) := by
  have hs := shortF_iff.1 k1
  have hd := (shortB_iff.1 k2).small
  have h5 := f5_ok
  have h6 := f6_ok f
  have h7 := f7_ok d
  have h8 := f8_ok f hs
  have h9 := f9_ok d hd
  rw [k1] at h6
  rw [k2] at h7
  rw [k3] at h8
  rw [k4] at h9
  have hpos : 0 < f.nodes.length := by have := there_pos (there0 k3); omega
  obtain ⟨n, hn⟩ : ∃ n : Int, n = a % (f.nodes.length : Int) := ⟨_, rfl⟩
  have hnt : thereN f.nodes n = true := by
    unfold thereN
    rw [hn, decide_eq_true (Int.emod_nonneg _ (by omega)), decide_eq_true (Int.emod_lt_of_pos _ (by omega))]; rfl
  have h10 := f10_ok f hs n (by rw [k3, hnt]; rfl)
  have h11 := fun n => f11_ok f hs n d hd
  have h14 := f14_ok f hs n d hd
  have hel : (elemsU f.nodes (allU f n)).length ≤ 60 := Nat.le_trans (elemsU_len _ _) (Nat.le_trans allU_len hs.len)
  have hlm : (f.nodes.map oNode).length = f.nodes.length := List.length_map ..
  obtain ⟨es, hes⟩ : ∃ es, es = elemsU f.nodes (allU f n) := ⟨_, rfl⟩
  obtain ⟨tk, htk⟩ : ∃ tk : Nat → List DueM, tk = fun i => (es.take i).flatMap (dueOf f.nodes d) := ⟨_, rfl⟩
  have htr : triesU f n d = tk es.length := by rw [htk, hes]; unfold triesU; show _ = (List.take _ _).flatMap _; rw [List.take_length]
  have hstep : ∀ (i : Nat) (c : Int), es[i]? = some c → tk (i + 1) = tk i ++ dueOf f.nodes d c := fun i c hc => by
    rw [htk]; show (es.take (i + 1)).flatMap _ = _
    rw [List.take_add_one, hc, List.flatMap_append]
    congr 1
    show List.flatMap _ [c] = _
    simp
  have hpre : ∀ (i : Nat) (y : DueM) (j : Nat), (tk i)[j]? = some y → (tk es.length)[j]? = some y := fun i y j hy => by
    have : tk es.length = tk i ++ (es.drop i).flatMap (dueOf f.nodes d) := by
      rw [htk]; show (es.take es.length).flatMap _ = (es.take i).flatMap _ ++ _
      rw [← List.flatMap_append, List.take_append_drop, List.take_length]
    rw [this, List.getElem?_append_left (List.getElem?_eq_some_iff.1 hy).1, hy]
  have htry : ∀ c ∈ es, _ := fun c hc => try_elem (n := n) (c := c) k3 k4 (by rw [← hes]; exact hc)
  have hkl : ∀ i, (tk i).length ≤ i := fun i => by
    rw [htk]; exact Nat.le_trans (dueOf_len _ _ _) (List.length_take_le _ _)
  have hk0 : tk 0 = [] := by rw [htk]; rfl
  have htc : ∀ c ∈ es, thereN f.nodes c = true := fun c hc => by
    rw [hes] at hc; unfold elemsU at hc
    exact allU_there c (List.mem_filter.1 hc).1
  rw [htr] at h14
  rw [← hes] at h10 hel
  clear htr htk hes
  obtain ⟨l, m⟩ := f
  obtain ⟨d1, d2, d3, d4⟩ := d
  simp only at hn hpos hlm
  refine FnOK.startC (rvs := [.tmp 6]) G G_good Tryd.func4 rfl Tryd.ntmps4 rfl rfl ?_; with_reducible refine wD ?_
  repeat' (first
    | refine gK ?_
    | ((first
      | ((with_reducible show CallK _ _ 5 _ _ _ _); refine CallK.lit [] h5 c5 trivial rfl rfl ?_)
      | ((with_reducible show CallK _ _ 6 _ _ _ _); refine CallK.lit [] h6 c6 ⟨⟨rfl, rfl, trivial⟩, trivial⟩ rfl rfl ?_)
      | ((with_reducible show CallK _ _ 7 _ _ _ _); refine CallK.lit [] h7 c7 ⟨⟨rfl, rfl, rfl, rfl, trivial⟩, trivial⟩ rfl rfl ?_)
      | ((with_reducible show CallK _ _ 8 _ _ _ _); refine CallK.lit [] h8 c8 ⟨⟨rfl, rfl, trivial⟩, trivial⟩ rfl rfl ?_)
      | ((with_reducible show CallK _ _ 9 _ _ _ _); refine CallK.lit [] h9 c9 ⟨⟨rfl, rfl, rfl, rfl, trivial⟩, trivial⟩ rfl rfl ?_)
      | ((with_reducible show CallK _ _ 10 _ _ _ _); refine CallK.val [] h10 c10 ⟨⟨rfl, rfl, trivial⟩, rfl, trivial⟩ rfl rfl rfl ?_)) <;> with_reducible refine wK ?_)
    | ((with_reducible show (_ ∧ _) ∧ _ ∧ _); (refine eK ?_ ?_ <;> with_reducible repeat' (first | exact trivial | (show _ ∧ _; refine aK ?_ ?_)))))
  have hwa : IntKind.i64.wrap a = a := wrap_u8 ha
  have hln : (0 : Int) < ((l.map oNode).length : Int) := by rw [hlm]; omega
  refine ConvK.int (by kernel_rfl) (by kernel_rfl) hwa ?_; with_reducible refine wK ?_
  repeat' (first
    | refine gK ?_
    | ((with_reducible show (_ ∧ _) ∧ _ ∧ _); (refine eK ?_ ?_ <;> with_reducible repeat' (first | exact trivial | (show _ ∧ _; refine aK ?_ ?_)))))
  refine HandK.rem ha.1 hln rfl rfl rfl rfl ?_; with_reducible refine wK ?_
  have hn' : a % ((l.map oNode).length : Int) = n := by rw [hlm, ← hn]
  rw [hn']
  repeat' (first
    | refine gK ?_
    | (((with_reducible show CallK _ _ 14 _ _ _ _); refine CallK.val [] h14 c14 ⟨⟨rfl, rfl, trivial⟩, rfl, ⟨rfl, rfl, rfl, rfl, trivial⟩, trivial⟩ rfl rfl rfl ?_) <;> with_reducible refine wK ?_)
    | ((with_reducible show (_ ∧ _) ∧ _ ∧ _); (refine eK ?_ ?_ <;> with_reducible repeat' (first | exact trivial | (show _ ∧ _; refine aK ?_ ?_)))))
  refine ConvK.int (by kernel_rfl) (by kernel_rfl) hwa ?_; with_reducible refine wK ?_
  repeat' (first
    | refine gK ?_
    | ((with_reducible show (_ ∧ _) ∧ _ ∧ _); (refine eK ?_ ?_ <;> with_reducible repeat' (first | exact trivial | (show _ ∧ _; refine aK ?_ ?_)))))
  refine HandK.rem ha.1 hln rfl rfl rfl rfl ?_; with_reducible refine wK ?_
  rw [hn']
  repeat' (first
    | refine gK ?_
    | (((with_reducible show CallK _ _ 10 _ _ _ _); refine CallK.val [] h10 c10 ⟨⟨rfl, rfl, trivial⟩, rfl, trivial⟩ rfl rfl rfl ?_) <;> with_reducible refine wK ?_)
    | ((with_reducible show (_ ∧ _) ∧ _ ∧ _); (refine eK ?_ ?_ <;> with_reducible repeat' (first | exact trivial | (show _ ∧ _; refine aK ?_ ?_)))))
  have hem : (es.map oInt).length = es.length := List.length_map ..
  refine LoopK.use G G_good (fun (i : Nat) => [(3, .ptr 30 0 0), (5, .ptr 50 0 0), (7, eDues (tk es.length)), (8, eInts es), (9, eInt (tk i).length), (10, eInt i)])
    (fun i => [(30, .live 2 [eFor ⟨l, m⟩] false), (50, .live 4 [eDesk ⟨d1, d2, d3, d4⟩] false)]) (fun i => i ≤ es.length) (fun i => es.length - i) 0 (Nat.zero_le _)
    (by rw [hk0]; exact ⟨⟨rfl, rfl⟩, ⟨⟨rfl, rfl⟩, ⟨rfl, rfl⟩, rfl, rfl, rfl, rfl, trivial⟩, ⟨⟨rfl, rfl, trivial⟩, trivial⟩, ⟨⟨rfl, rfl, rfl, rfl, trivial⟩, trivial⟩, trivial⟩) ?_
  intro i hi
  with_reducible refine wK ?_
  refine IfK.mk (fun h1 => ?_) (fun h1 => ?_) <;> (try simp only [castN] at h1) <;> with_reducible refine wK ?_
  · have hi' : i < es.length := by simp only [hem, decide_eq_true_eq] at h1; omega
    obtain ⟨c, hc⟩ : ∃ c, es[i]? = some c := ⟨_, List.getElem?_eq_getElem hi'⟩
    have hst := hstep i c hc
    have htl := hkl i
    obtain ⟨j, ⟨y1, y2, y3, y4, y5, y6, y7, y8, y9, y10⟩, hcj, hy, hny⟩ := there_iff.1 (htc c (List.mem_of_getElem? hc))
    have h11c := h11 c
    rcases htry c (List.mem_of_getElem? hc) with ⟨e1, e2⟩ | ⟨k, ⟨x1, x2, x3⟩, e1, e2, e3, e4, e5, e6, e7⟩
    · rw [e2, List.append_nil] at hst
      rw [e1] at h11c
      subst hcj
      repeat' (first
    | refine gK ?_
    | ((first
      | ((with_reducible show IdxK _ _ _ _ _); first | refine IdxK.mk i (eInt (j : Int)) rfl (int_get hc) ?_ | refine IdxK.mk j (eNode ⟨y1, y2, y3, y4, y5, y6, y7, y8, y9, y10⟩) rfl (node_get hy) ?_)
      | ((with_reducible show CallK _ _ 11 _ _ _ _); refine CallK.lit [] h11c c11 ⟨⟨rfl, rfl, trivial⟩, rfl, ⟨rfl, rfl, rfl, rfl, trivial⟩, trivial⟩ rfl rfl ?_)) <;> with_reducible refine wK ?_)
    | ((with_reducible show (_ ∧ _) ∧ _ ∧ _); (refine eK ?_ ?_ <;> with_reducible repeat' (first | exact trivial | (show _ ∧ _; refine aK ?_ ?_)))))
      refine NextK.mk (i + 1) (by omega) (by omega) ⟨⟨rfl, rfl⟩, ⟨⟨rfl, rfl⟩, ⟨rfl, rfl⟩, rfl, rfl, ?_, by show ((i + 1 : Nat) : Int) = (i : Int) + 1; omega, trivial⟩, ⟨⟨rfl, rfl, trivial⟩, trivial⟩, ⟨⟨rfl, rfl, rfl, rfl, trivial⟩, trivial⟩, trivial⟩
      show ((tk (i + 1)).length : Int) = ((tk i).length : Int); rw [hst]
    · rw [e2] at hst
      rw [e1] at h11c
      subst hcj
      rw [hny] at e4 e5 e6 e7
      simp only at e4 e5 e6 e7
      subst e4 e6
      have h15 := f15_ok x2 y3
      rw [e5] at h15
      have h16 := f16_ok ⟨d1, d2, d3, d4⟩ hd x2 y3
      rw [e7] at h16
      have hdue : (tk es.length)[(tk i).length]? = some ⟨(j : Int), (k : Int)⟩ := hpre (i + 1) _ _ (by rw [hst, List.getElem?_append_right (Nat.le_refl _), Nat.sub_self]; rfl)
      have hat := (List.getElem?_eq_some_iff.1 hdue).1
      have hkd := (List.getElem?_eq_some_iff.1 e3).1
      have hdm : ((tk es.length).map oDue).length = (tk es.length).length := List.length_map ..
      have hk1 : ¬ ((k : Int) = -1) := by omega
      have hge : ¬ (((tk es.length).map oDue).length : Int) ≤ ((tk i).length : Int) := by rw [hdm]; omega
      (have fct := And.intro (eq_false hk1) ((eq_false hge)); (repeat' (first
    | refine gF ?_
    | ((first
      | ((with_reducible show IdxK _ _ _ _ _); first | refine IdxK.mk i (eInt (j : Int)) rfl (int_get hc) ?_ | refine IdxK.mk j (eNode ⟨y1, x2, y3, y4, y5, y6, y7, y8, y9, 0⟩) rfl (node_get hy) ?_ | refine IdxK.mk k (eDef ⟨x1, x2, x3⟩) rfl (def_get e3) ?_ | refine IdxK.mk (tk i).length (eDue ⟨(j : Int), (k : Int)⟩) rfl (due_get hdue) ?_)
      | ((with_reducible show CallK _ _ 11 _ _ _ _); refine CallK.lit [] h11c c11 ⟨⟨rfl, rfl, trivial⟩, rfl, ⟨rfl, rfl, rfl, rfl, trivial⟩, trivial⟩ rfl rfl ?_)
      | ((with_reducible show CallK _ _ 15 _ _ _ _); refine CallK.lit [] h15 c15 ⟨rfl, rfl, trivial⟩ rfl rfl ?_)
      | ((with_reducible show CallK _ _ 16 _ _ _ _); refine CallK.lit [] h16 c16 ⟨⟨rfl, rfl, rfl, rfl, trivial⟩, rfl, rfl, trivial⟩ rfl rfl ?_)) <;> with_reducible refine wK ?_)
    | ((with_reducible show (_ ∧ _) ∧ _ ∧ _); (refine eK ?_ ?_ <;> with_reducible repeat' (first | exact trivial | (show _ ∧ _; refine aK ?_ ?_)))))); all_goals clear fct)
      have hdn : ∀ y z w, ((do eqGuard .neq 50 y z (vDue ⟨(j : Int), (k : Int)⟩) (vDue ⟨(j : Int), (k : Int)⟩); binOp .neq 50 (vDue ⟨(j : Int), (k : Int)⟩) (vDue ⟨(j : Int), (k : Int)⟩) : Sem Value)).run Tryd.prog w = .ok (.bool false) w := fun y z w => by
        rw [due_neq, decide_eq_true rfl]; rfl
      refine EqK.mk _ hdn ?_; with_reducible refine wK ?_
      repeat' (first
    | refine gK ?_
    | ((with_reducible show (_ ∧ _) ∧ _ ∧ _); (refine eK ?_ ?_ <;> with_reducible repeat' (first | exact trivial | (show _ ∧ _; refine aK ?_ ?_)))))
      refine NextK.mk (i + 1) (by omega) (by omega) ⟨⟨rfl, rfl⟩, ⟨⟨rfl, rfl⟩, ⟨rfl, rfl⟩, rfl, rfl, ?_, by show ((i + 1 : Nat) : Int) = (i : Int) + 1; omega, trivial⟩, ⟨⟨rfl, rfl, trivial⟩, trivial⟩, ⟨⟨rfl, rfl, rfl, rfl, trivial⟩, trivial⟩, trivial⟩
      show ((tk (i + 1)).length : Int) = ((tk i).length : Int) + 1; rw [hst]; simp
  · have hin : i = es.length := by simp only [hem, decide_eq_false_iff_not] at h1; omega
    subst hin
    repeat' (first
    | refine gK ?_
    | ((with_reducible show (_ ∧ _) ∧ _ ∧ _); (refine eK ?_ ?_ <;> with_reducible repeat' (first | exact trivial | (show _ ∧ _; refine aK ?_ ?_)))))
    rw [List.length_map]
    exact (decide_eq_true rfl).symm
theorem f4_ok (f : ForM) (a : Int) (ha : 0 ≤ a ∧ a < 256) (d : DeskM) : FnOK Tryd.prog 4 [] [eFor f, .lit (.int .u8 a), eDesk d] [] (eBool true) := by
  by_cases k1 : shortF f = true
  · by_cases k2 : shortB d = true
    · by_cases k3 : rightF f = true
      · by_cases k4 : rightD d = true
        · exact f4_short f a ha d k1 k2 k3 k4
        · exact f4_long f a d (.inr (.inr (.inr (eq_false_of_ne_true k4))))
      · exact f4_long f a d (.inr (.inr (.inl (eq_false_of_ne_true k3))))
    · exact f4_long f a d (.inr (.inl (eq_false_of_ne_true k2)))
  · exact f4_long f a d (.inl (eq_false_of_ne_true k1))
end Go.Proofs.Heir
end
section
set_option linter.unusedSimpArgs false
set_option linter.unusedVariables false
namespace Go.Proofs.Heir
open Go Go.Am Go.RowKit
theorem rStr : Reads Tryd.prog 9 1 eStr (fun s => s.size ≤ maxLen) := Reads.str Tryd.underlying9 (by kernel_rfl)
theorem rInt : Reads Tryd.prog 3 1 oInt (fun _ => True) := (Reads.int Tryd.underlying3 (by kernel_rfl)).conv id id (fun _ => rfl) (fun _ => rfl) (fun _ _ => trivial)
theorem rBool : Reads Tryd.prog 4 1 (fun b : Bool => .lit (.bool b)) (fun _ => True) := Reads.bool Tryd.underlying4 (by kernel_rfl)
theorem rDef : Reads Tryd.prog 38 3 oDef (fun _ => True) :=
  (Reads.struct (l := [(0, 9), (1, 9), (2, 3)]) Tryd.underlying38 (by kernel_rfl) rfl (.cons rStr (.cons rStr (.cons rInt .nil)))).conv
    (fun (a, b, c, _) => ⟨a, b, c⟩) (fun t => (t.name, t.locl, t.cls, ())) (fun _ => rfl) (fun _ => rfl) (fun _ _ => trivial)
theorem rWait : Reads Tryd.prog 56 2 oWait (fun _ => True) :=
  (Reads.struct (l := [(0, 9), (1, 3)]) Tryd.underlying56 (by kernel_rfl) rfl (.cons rStr (.cons rInt .nil))).conv
    (fun (a, b, _) => ⟨a, b⟩) (fun t => (t.name, t.ticket, ())) (fun _ => rfl) (fun _ => rfl) (fun _ _ => trivial)
theorem rDefs1 : Reads Tryd.prog 25 1 eDefs (fun _ => True) := (Reads.slice Tryd.underlying25 (by kernel_rfl) rDef (by omega)).conv id id (fun _ => rfl) (fun _ => rfl) (fun _ _ => trivial)
theorem rWaits1 : Reads Tryd.prog 26 1 eWaits (fun _ => True) := (Reads.slice Tryd.underlying26 (by kernel_rfl) rWait (by omega)).conv id id (fun _ => rfl) (fun _ => rfl) (fun _ _ => trivial)
theorem rDesk : Reads Tryd.prog 28 4 eDesk (fun _ => True) :=
  (Reads.struct (l := [(0, 25), (1, 26), (2, 3), (3, 4)]) Tryd.underlying28 (by kernel_rfl) rfl (.cons rDefs1 (.cons rWaits1 (.cons rInt (.cons rBool .nil))))).conv
    (fun (a, b, c, e, _) => ⟨a, b, c, e⟩) (fun t => (t.defs, t.waits, t.next, t.busy, ())) (fun _ => rfl) (fun _ => rfl) (fun _ _ => trivial)
theorem rAttr : Reads Tryd.prog 108 2 oAttr (fun _ => True) :=
  (Reads.struct (l := [(0, 9), (1, 9)]) Tryd.underlying108 (by kernel_rfl) rfl (.cons rStr (.cons rStr .nil))).conv
    (fun (a, b, _) => ⟨a, b⟩) (fun t => (t.name, t.value, ())) (fun _ => rfl) (fun _ => rfl) (fun _ _ => trivial)
theorem rAttrs1 : Reads Tryd.prog 42 1 eAttrs (fun _ => True) := (Reads.slice Tryd.underlying42 (by kernel_rfl) rAttr (by omega)).conv id id (fun _ => rfl) (fun _ => rfl) (fun _ _ => trivial)
theorem rInts1 : Reads Tryd.prog 32 1 eInts (fun _ => True) := (Reads.slice Tryd.underlying32 (by kernel_rfl) rInt (by omega)).conv id id (fun _ => rfl) (fun _ => rfl) (fun _ _ => trivial)
theorem rNode : Reads Tryd.prog 44 10 oNode (fun _ => True) :=
  (Reads.struct (l := [(0, 3), (1, 9), (2, 9), (3, 9), (4, 42), (5, 3), (6, 32), (7, 3), (8, 3), (9, 3)]) Tryd.underlying44 (by kernel_rfl) rfl
    (.cons rInt (.cons rStr (.cons rStr (.cons rStr (.cons rAttrs1 (.cons rInt (.cons rInts1 (.cons rInt (.cons rInt (.cons rInt .nil))))))))))).conv
    (fun (a, b, c, d, e, f, g, h, i, j, _) => ⟨a, b, c, d, e, f, g, h, i, j⟩)
    (fun t => (t.kind, t.name, t.is, t.data, t.attrs, t.parent, t.kids, t.host, t.under, t.doc, ())) (fun _ => rfl) (fun _ => rfl) (fun _ _ => trivial)
theorem rNodes1 : Reads Tryd.prog 22 1 eNodes (fun _ => True) := (Reads.slice Tryd.underlying22 (by kernel_rfl) rNode (by omega)).conv id id (fun _ => rfl) (fun _ => rfl) (fun _ _ => trivial)
theorem rFor : Reads Tryd.prog 24 2 eFor (fun _ => True) :=
  (Reads.struct (l := [(0, 22), (1, 3)]) Tryd.underlying24 (by kernel_rfl) rfl (.cons rNodes1 (.cons rInt .nil))).conv
    (fun (a, b, _) => ⟨a, b⟩) (fun t => (t.nodes, t.most, ())) (fun _ => rfl) (fun _ => rfl) (fun _ _ => trivial)
theorem laid : Go.laidOutB Tryd.prog = true := by kernel_rfl
abbrev laidRows : List (String × DataW Unit) := [("unicode.White_Space", Go.Proofs.YtadjfbmhbfjjaaaDoor.Rows.laid_unicode_White_Space), ("strings.asciiSpace", Go.Proofs.YtadjfbmhbfjjaaaDoor.Rows.laid_strings_asciiSpace)]
theorem tab_eq : (Go.Proofs.YtadjfbmhbfjjaaaDoor.Rows.laid_strings_asciiSpace : DataW Unit) = Lib.tabData .u8 Lib.asciiSpaceTab := by kernel_rfl
theorem door_met (os : Os) (args : Array Value) : laidMetH Tryd.prog laidRows ((World.doorLaid Tryd.prog 33 os).forCall (fun _ _ => 0) ⟨#[], args, []⟩).memory :=
  laidMetH_of_parts3 (fuel := 8) (laidMet_of_run' 8 (by kernel_rfl) (by kernel_rfl)) (by kernel_rfl) (by kernel_rfl)
theorem gSp : Tryd.prog.globalNamed "strings.asciiSpace" = some 1 := by kernel_rfl
theorem tySp : (Tryd.prog.globals[1]?).map (·.type) = some 130 := by kernel_rfl
theorem tabs_of_laid {W : World} (h : laidMetH Tryd.prog laidRows W) : Tabs Tryd.prog W fun _ => none := by
  rw [MakeChecks.laidMetH_plain _ _ _ (by kernel_rfl)] at h
  obtain ⟨ps, ⟨g0, t0, cs0, f0, p0, q0, hg0, ht0, hv0, hd0, ⟨g1, t1, cs1, f1, p1, q1, hg1, ht1, hv1, hd1, _, _⟩, _⟩, _⟩ := h
  intro g hg
  obtain rfl := Option.some.inj (hg.symm.trans hg1)
  have e : g = 1 := Option.some.inj (hg.symm.trans gSp)
  have ht : (Tryd.prog.globals[g]?).map (·.type) = some 130 := by rw [e]; exact tySp
  obtain rfl := Option.some.inj (ht.symm.trans ht1)
  rw [tab_eq] at hd1
  have hc := Lib.cells_of_tab Tryd.underlying130 Tryd.underlying5 (by kernel_rfl) (by kernel_rfl) hd1
  have htab : Lib.TabIs Tryd.prog W "strings.asciiSpace" .u8 Lib.asciiSpaceTab := by
    unfold Lib.TabIs
    rw [hv1, ← hc]
  have hcell : ∀ c : Nat, c < 256 → W.cell? ⟨g, c, none⟩ = some (.int .u8 (if Lib.isSp (UInt8.ofNat c) then 1 else 0)) := fun c hc => by
    rw [htab.cell hg c (by rw [Lib.asciiSpaceTab_length]; exact hc), Lib.asciiSpaceTab_at c hc]
  refine ⟨(by rintro ⟨_, _, h, _⟩; cases h), World.block_lt_of_cell? _ _ (hcell 0 (by omega)), hcell⟩
end Go.Proofs.Heir
end
