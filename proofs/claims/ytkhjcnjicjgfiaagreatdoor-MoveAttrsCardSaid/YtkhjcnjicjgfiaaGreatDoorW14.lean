/- Models, plain laws and contracts of functions of the given program; conditions as stated in each theorem. By an AI agent. -/
import Derived.Test.YtkhjcnjicjgfiaaGreatDoorW8
import Derived.Test.YtkhjcnjicjgfiaaGreatDoorW5
import Derived.Shelf.RegionOpenPlain
import Derived.WalkKit
import Derived.IntWalk
import Derived.RangeFuncSeq
import Derived.Deep.RegionLaw
import Derived.Lib.SliceRun
import Derived.Laws.Tables
import Derived.Laws.CopyRow
import Derived.Sort.WalkB12
import Derived.Test.YtkhjcnjicjgfiaaGreatDoorW12
import Derived.Test.YtkhjcnjicjgfiaaGreatDoorW13
import Derived.Test.YtkhjcnjicjgfiaaGreatDoorW10
import Derived.Test.YtkhjcnjicjgfiaaGreatDoorW2
import Derived.Test.YtkhjcnjicjgfiaaGreatDoorRows
import Derived.ProofKit
import Derived.LaidMore
import Derived.OpenShut
import Derived.Stop.Joined
import Derived.Lib.LaidTab
import Derived.MakeChecks
set_option linter.unusedSimpArgs false
set_option linter.unusedVariables false
namespace Go.Proofs.Heir
open Go Go.Am Go.RowKit Go.Lib
set_option maxRecDepth 100000
set_option maxHeartbeats 16000000 in
/-- shade.All -/
theorem f82_own (f : ForM) (hs : SmallN f.nodes) (n : Int) (e0 : (rightF f && thereN f.nodes n) = true) : FnOK Tryz.prog 82 [] [eFor f, eInt n] [rInts (allU f n)] (.own 0 0 (allU f n).length) := by
  have h86 := f147_ok f hs [n] (by simp)
  have e1 : (rightF f && !decide (0 ≤ idxI (fun n => !thereN f.nodes n) [n])) = (rightF f && thereN f.nodes n) := by
    congr 1
    unfold idxI
    cases h : thereN f.nodes n <;> simp [List.findIdx?_cons, h]
  rw [e1] at h86
  obtain ⟨l, m⟩ := f
  unfold allU
  simp only at h86 e0 ⊢
  rw [if_pos e0]
  have hlm : (l.map oNode).length = l.length := List.length_map ..
  refine FnOK.startC (rvs := [.tmp 4]) G G_good Tryz.func82 rfl Tryz.ntmps82 rfl rfl ?_; delta List.toArray; ((with_reducible conv => whnf); (with_reducible conv => congr <;> reduce); repeat ((first | (with_reducible refine HaltK.mk ?_) | (with_reducible refine StopK.mk ?_)); (with_reducible conv => whnf); (with_reducible conv => congr <;> reduce)))
  rw [e0] at h86
  refine CallK.lit [141] h86 c147 ⟨⟨rfl, rfl, trivial⟩, frz_ints (l := [n]) rfl rfl rfl rfl, trivial⟩ rfl rfl ?_; ((with_reducible conv => whnf); (with_reducible conv => congr <;> reduce); repeat ((first | (with_reducible refine HaltK.mk ?_) | (with_reducible refine StopK.mk ?_)); (with_reducible conv => whnf); (with_reducible conv => congr <;> reduce)))
  obtain ⟨hr, hn⟩ : rightF ⟨l, m⟩ = true ∧ thereN l n = true := by simpa using e0
  have T := U.tree_of hr
  have hol := U.ord_len T l.length hn
  simp only at T hol
  repeat' (first
    | (first
    | ((with_reducible show IfK _ _ _ _); first | refine IfK.ff ?_ | refine IfK.tt ?_ | refine IfK.no (by first | rfl | assumption | exact nf (by assumption) | exact nt (by assumption) | ((try simp only [castN]); first | (simp []; done) | (simp []; omega))) ?_ | refine IfK.yes (by first | rfl | assumption | exact nf (by assumption) | exact nt (by assumption) | ((try simp only [castN]); first | (simp []; done) | (simp []; omega))) ?_)
    | ((with_reducible show NeedK _ _ _ _); refine NeedK.mk (by (try simp only [castN]); omega) ?_)
    | ((with_reducible show DrawK _ _ _ _); refine DrawK.mk (by kernel_rfl) (by kernel_rfl) (by kernel_rfl) ?_)) <;> ((with_reducible conv => whnf); (with_reducible conv => congr <;> reduce); repeat ((first | (with_reducible refine HaltK.mk ?_) | (with_reducible refine StopK.mk ?_)); (with_reducible conv => whnf); (with_reducible conv => congr <;> reduce)))
    | ((with_reducible show (_ ∧ _) ∧ _ ∧ _); refine ⟨⟨rfl, rfl⟩, ?_, ?_⟩ <;> (with_reducible conv => whnf) <;> repeat' (first | (with_reducible exact trivial) | (with_reducible refine And.intro ?_ ?_ <;> with_reducible conv => whnf))))
  refine LoopK.ghost 5 51 1 rfl rfl ?_
  refine LoopK.use G G_good (fun (i : List Int × List Int × List Int) => [(2, .ptr 20 0 0), (5, .own 51 0 i.1.length), (6, .ptr 60 0 0)])
    (fun i => [(20, .live 2 [eFor ⟨l, m⟩] false), (51, rInts i.1), (60, .live 1 [.own 181 0 i.2.1.length] false), (181, rInts (i.2.1 ++ i.2.2))])
    (fun i => U.ordN l l.length n = i.1 ++ U.rest l i.2.1 ∧ ∀ c ∈ i.2.1, thereN l c = true) (fun i => l.length - i.1.length) ([], [n], []) ⟨by simp [U.rest], fun c hc => by rw [List.mem_singleton] at hc; subst hc; exact hn⟩
    (by refine ⟨⟨rfl, rfl⟩, ⟨⟨rfl, rfl⟩, ⟨rfl, rfl⟩, ⟨rfl, rfl⟩, trivial⟩, ⟨⟨rfl, rfl, trivial⟩, trivial⟩, ⟨.refl rfl, noRef_ints _⟩, ⟨⟨rfl, rfl⟩, trivial⟩, ⟨.refl rfl, noRef_ints _⟩, trivial⟩) ?_
  rintro ⟨out, st, sp⟩ ⟨ho, hst⟩
  simp only at ho hst
  ((with_reducible conv => whnf); (with_reducible conv => congr <;> reduce); repeat ((first | (with_reducible refine HaltK.mk ?_) | (with_reducible refine StopK.mk ?_)); (with_reducible conv => whnf); (with_reducible conv => congr <;> reduce)))
  have hoL := congrArg List.length ho
  rw [List.length_append] at hoL
  have hol' : out.length = (out.map oInt).length := (List.length_map ..).symm
  have hrl := U.rest_len T hst
  have hl60 := hs.len
  simp only at hl60
  obtain h | ⟨st', t, h⟩ := List.eq_nil_or_concat st <;> (try rw [List.concat_eq_append] at h) <;> subst h
  · repeat' (first
    | (first
    | ((with_reducible show IfK _ _ _ _); first | refine IfK.ff ?_ | refine IfK.tt ?_ | refine IfK.no (by first | rfl | assumption | exact nf (by assumption) | exact nt (by assumption) | ((try simp only [castN]); first | (simp []; done) | (simp []; omega))) ?_ | refine IfK.yes (by first | rfl | assumption | exact nf (by assumption) | exact nt (by assumption) | ((try simp only [castN]); first | (simp []; done) | (simp []; omega))) ?_)
    | ((with_reducible show NeedK _ _ _ _); refine NeedK.mk (by (try simp only [castN]); omega) ?_)
    | ((with_reducible show DrawK _ _ _ _); refine DrawK.mk (by kernel_rfl) (by kernel_rfl) (by kernel_rfl) ?_)) <;> ((with_reducible conv => whnf); (with_reducible conv => congr <;> reduce); repeat ((first | (with_reducible refine HaltK.mk ?_) | (with_reducible refine StopK.mk ?_)); (with_reducible conv => whnf); (with_reducible conv => congr <;> reduce)))
    | ((with_reducible show (_ ∧ _) ∧ _ ∧ _); refine ⟨⟨rfl, rfl⟩, ?_, ?_⟩ <;> (with_reducible conv => whnf) <;> repeat' (first | (with_reducible exact trivial) | (with_reducible refine And.intro ?_ ?_ <;> with_reducible conv => whnf))))
    all_goals have ho' : U.ordN l l.length n = out := by rw [ho]; simp [U.rest]
    all_goals clear ho hoL
    all_goals subst ho'
    all_goals first
      | rfl
      | exact MFL_refl (noRef_ints _)
  · have ht := hst t (by simp)
    have hlen : (st' ++ [t]).length = st'.length + 1 := by simp
    obtain ⟨k, x, rfl, hx, hnx⟩ := there_iff.1 ht
    rw [hlen]
    rw [hlen] at hrl
    repeat' (first
    | (first
    | ((with_reducible show IfK _ _ _ _); first | refine IfK.ff ?_ | refine IfK.tt ?_ | refine IfK.no (by first | rfl | assumption | exact nf (by assumption) | exact nt (by assumption) | ((try simp only [castN]); first | (simp []; done) | (simp []; omega))) ?_ | refine IfK.yes (by first | rfl | assumption | exact nf (by assumption) | exact nt (by assumption) | ((try simp only [castN]); first | (simp []; done) | (simp []; omega))) ?_)
    | ((with_reducible show NeedK _ _ _ _); refine NeedK.mk (by (try simp only [castN]); omega) ?_)
    | ((with_reducible show DrawK _ _ _ _); refine DrawK.mk (by kernel_rfl) (by kernel_rfl) (by kernel_rfl) ?_)) <;> ((with_reducible conv => whnf); (with_reducible conv => congr <;> reduce); repeat ((first | (with_reducible refine HaltK.mk ?_) | (with_reducible refine StopK.mk ?_)); (with_reducible conv => whnf); (with_reducible conv => congr <;> reduce)))
    | ((with_reducible show (_ ∧ _) ∧ _ ∧ _); refine ⟨⟨rfl, rfl⟩, ?_, ?_⟩ <;> (with_reducible conv => whnf) <;> repeat' (first | (with_reducible exact trivial) | (with_reducible refine And.intro ?_ ?_ <;> with_reducible conv => whnf))))
    refine LtK.mk st'.length (by (try simp only [castN]); omega) (by omega) ?_; ((with_reducible conv => whnf); (with_reducible conv => congr <;> reduce); repeat ((first | (with_reducible refine HaltK.mk ?_) | (with_reducible refine StopK.mk ?_)); (with_reducible conv => whnf); (with_reducible conv => congr <;> reduce)))
    refine ElemK.mk (eInt (k : Int)) (by rw [Nat.zero_add, List.getElem?_map, List.append_assoc, List.getElem?_append_right (Nat.le_refl _), Nat.sub_self]; rfl) ?_; ((with_reducible conv => whnf); (with_reducible conv => congr <;> reduce); repeat ((first | (with_reducible refine HaltK.mk ?_) | (with_reducible refine StopK.mk ?_)); (with_reducible conv => whnf); (with_reducible conv => congr <;> reduce)))
    repeat' (first
    | (first
    | ((with_reducible show IfK _ _ _ _); first | refine IfK.ff ?_ | refine IfK.tt ?_ | refine IfK.no (by first | rfl | assumption | exact nf (by assumption) | exact nt (by assumption) | ((try simp only [castN]); first | (simp []; done) | (simp []; omega))) ?_ | refine IfK.yes (by first | rfl | assumption | exact nf (by assumption) | exact nt (by assumption) | ((try simp only [castN]); first | (simp []; done) | (simp []; omega))) ?_)
    | ((with_reducible show NeedK _ _ _ _); refine NeedK.mk (by (try simp only [castN]); omega) ?_)
    | ((with_reducible show DrawK _ _ _ _); refine DrawK.mk (by kernel_rfl) (by kernel_rfl) (by kernel_rfl) ?_)) <;> ((with_reducible conv => whnf); (with_reducible conv => congr <;> reduce); repeat ((first | (with_reducible refine HaltK.mk ?_) | (with_reducible refine StopK.mk ?_)); (with_reducible conv => whnf); (with_reducible conv => congr <;> reduce)))
    | ((with_reducible show (_ ∧ _) ∧ _ ∧ _); refine ⟨⟨rfl, rfl⟩, ?_, ?_⟩ <;> (with_reducible conv => whnf) <;> repeat' (first | (with_reducible exact trivial) | (with_reducible refine And.intro ?_ ?_ <;> with_reducible conv => whnf))))
    refine CutK.mk 0 st'.length rfl (by (try simp only [castN]); omega) (by omega) ?_; ((with_reducible conv => whnf); (with_reducible conv => congr <;> reduce); repeat ((first | (with_reducible refine HaltK.mk ?_) | (with_reducible refine StopK.mk ?_)); (with_reducible conv => whnf); (with_reducible conv => congr <;> reduce)))
    repeat' (first
    | (first
    | ((with_reducible show IfK _ _ _ _); first | refine IfK.ff ?_ | refine IfK.tt ?_ | refine IfK.no (by first | rfl | assumption | exact nf (by assumption) | exact nt (by assumption) | ((try simp only [castN]); first | (simp []; done) | (simp []; omega))) ?_ | refine IfK.yes (by first | rfl | assumption | exact nf (by assumption) | exact nt (by assumption) | ((try simp only [castN]); first | (simp []; done) | (simp []; omega))) ?_)
    | ((with_reducible show NeedK _ _ _ _); refine NeedK.mk (by (try simp only [castN]); omega) ?_)
    | ((with_reducible show DrawK _ _ _ _); refine DrawK.mk (by kernel_rfl) (by kernel_rfl) (by kernel_rfl) ?_)) <;> ((with_reducible conv => whnf); (with_reducible conv => congr <;> reduce); repeat ((first | (with_reducible refine HaltK.mk ?_) | (with_reducible refine StopK.mk ?_)); (with_reducible conv => whnf); (with_reducible conv => congr <;> reduce)))
    | ((with_reducible show (_ ∧ _) ∧ _ ∧ _); refine ⟨⟨rfl, rfl⟩, ?_, ?_⟩ <;> (with_reducible conv => whnf) <;> repeat' (first | (with_reducible exact trivial) | (with_reducible refine And.intro ?_ ?_ <;> with_reducible conv => whnf))))
    refine AppK.mk (out.map oInt) [eInt (k : Int)] ⟨rfl, hol', rfl⟩ ⟨rfl, rfl, rfl⟩ rfl (by simp; omega) (by simp; omega) ?_; ((with_reducible conv => whnf); (with_reducible conv => congr <;> reduce); repeat ((first | (with_reducible refine HaltK.mk ?_) | (with_reducible refine StopK.mk ?_)); (with_reducible conv => whnf); (with_reducible conv => congr <;> reduce)))
    repeat' (first
    | (first
    | ((with_reducible show IfK _ _ _ _); first | refine IfK.ff ?_ | refine IfK.tt ?_ | refine IfK.no (by first | rfl | assumption | exact nf (by assumption) | exact nt (by assumption) | ((try simp only [castN]); first | (simp []; done) | (simp []; omega))) ?_ | refine IfK.yes (by first | rfl | assumption | exact nf (by assumption) | exact nt (by assumption) | ((try simp only [castN]); first | (simp []; done) | (simp []; omega))) ?_)
    | ((with_reducible show NeedK _ _ _ _); refine NeedK.mk (by (try simp only [castN]); omega) ?_)
    | ((with_reducible show DrawK _ _ _ _); refine DrawK.mk (by kernel_rfl) (by kernel_rfl) (by kernel_rfl) ?_)) <;> ((with_reducible conv => whnf); (with_reducible conv => congr <;> reduce); repeat ((first | (with_reducible refine HaltK.mk ?_) | (with_reducible refine StopK.mk ?_)); (with_reducible conv => whnf); (with_reducible conv => congr <;> reduce)))
    | ((with_reducible show (_ ∧ _) ∧ _ ∧ _); refine ⟨⟨rfl, rfl⟩, ?_, ?_⟩ <;> (with_reducible conv => whnf) <;> repeat' (first | (with_reducible exact trivial) | (with_reducible refine And.intro ?_ ?_ <;> with_reducible conv => whnf))))
    obtain ⟨a1, a2, a3, a4, a5, a6, a7, a8, a9, a10⟩ := x
    refine IdxK.mk k (eNode ⟨a1, a2, a3, a4, a5, a6, a7, a8, a9, a10⟩) rfl (node_get hx) ?_; ((with_reducible conv => whnf); (with_reducible conv => congr <;> reduce); repeat ((first | (with_reducible refine HaltK.mk ?_) | (with_reducible refine StopK.mk ?_)); (with_reducible conv => whnf); (with_reducible conv => congr <;> reduce)))
    repeat' (first
    | (first
    | ((with_reducible show IfK _ _ _ _); first | refine IfK.ff ?_ | refine IfK.tt ?_ | refine IfK.no (by first | rfl | assumption | exact nf (by assumption) | exact nt (by assumption) | ((try simp only [castN]); first | (simp []; done) | (simp []; omega))) ?_ | refine IfK.yes (by first | rfl | assumption | exact nf (by assumption) | exact nt (by assumption) | ((try simp only [castN]); first | (simp []; done) | (simp []; omega))) ?_)
    | ((with_reducible show NeedK _ _ _ _); refine NeedK.mk (by (try simp only [castN]); omega) ?_)
    | ((with_reducible show DrawK _ _ _ _); refine DrawK.mk (by kernel_rfl) (by kernel_rfl) (by kernel_rfl) ?_)) <;> ((with_reducible conv => whnf); (with_reducible conv => congr <;> reduce); repeat ((first | (with_reducible refine HaltK.mk ?_) | (with_reducible refine StopK.mk ?_)); (with_reducible conv => whnf); (with_reducible conv => congr <;> reduce)))
    | ((with_reducible show (_ ∧ _) ∧ _ ∧ _); refine ⟨⟨rfl, rfl⟩, ?_, ?_⟩ <;> (with_reducible conv => whnf) <;> repeat' (first | (with_reducible exact trivial) | (with_reducible refine And.intro ?_ ?_ <;> with_reducible conv => whnf))))
    refine CallK.val [] (f148_ok a7) c148 ⟨rfl, trivial⟩ rfl rfl rfl ?_; ((with_reducible conv => whnf); (with_reducible conv => congr <;> reduce); repeat ((first | (with_reducible refine HaltK.mk ?_) | (with_reducible refine StopK.mk ?_)); (with_reducible conv => whnf); (with_reducible conv => congr <;> reduce)))
    repeat' (first
    | (first
    | ((with_reducible show IfK _ _ _ _); first | refine IfK.ff ?_ | refine IfK.tt ?_ | refine IfK.no (by first | rfl | assumption | exact nf (by assumption) | exact nt (by assumption) | ((try simp only [castN]); first | (simp []; done) | (simp []; omega))) ?_ | refine IfK.yes (by first | rfl | assumption | exact nf (by assumption) | exact nt (by assumption) | ((try simp only [castN]); first | (simp []; done) | (simp []; omega))) ?_)
    | ((with_reducible show NeedK _ _ _ _); refine NeedK.mk (by (try simp only [castN]); omega) ?_)
    | ((with_reducible show DrawK _ _ _ _); refine DrawK.mk (by kernel_rfl) (by kernel_rfl) (by kernel_rfl) ?_)) <;> ((with_reducible conv => whnf); (with_reducible conv => congr <;> reduce); repeat ((first | (with_reducible refine HaltK.mk ?_) | (with_reducible refine StopK.mk ?_)); (with_reducible conv => whnf); (with_reducible conv => congr <;> reduce)))
    | ((with_reducible show (_ ∧ _) ∧ _ ∧ _); refine ⟨⟨rfl, rfl⟩, ?_, ?_⟩ <;> (with_reducible conv => whnf) <;> repeat' (first | (with_reducible exact trivial) | (with_reducible refine And.intro ?_ ?_ <;> with_reducible conv => whnf))))
    obtain ⟨spF, hs0, hs1⟩ : ∃ spF : Nat → List Int, spF 0 = (k : Int) :: sp ∧ ∀ j, spF (j + 1) = [] := ⟨fun j => match j with | 0 => (k : Int) :: sp | _ + 1 => [], rfl, fun _ => rfl⟩
    have hk7 := hs.kids _ (List.mem_of_getElem? hx)
    simp only at hk7
    refine LoopK.range G G_good 4 [(2, .ptr 1 0 0), (5, .own 3 0 (out.length + 1)), (6, .ptr 0 0 0), (9, .ptr 2 0 0), (43, .clo (.func 193) [] [.fptr (eInts a7) 0])]
      (fun j => [(0, .live 1 [.own 181 0 (st'.length + j)] false), (1, .live 2 [eFor ⟨l, m⟩] false), (2, .live 10 [eNode ⟨a1, a2, a3, a4, a5, a6, a7, a8, a9, a10⟩] false), (3, rInts (out ++ [(k : Int)])), (181, rInts (st' ++ a7.reverse.take j ++ spF j))])
      (back_it a7 (by omega)) c193 ?_ rfl ⟨⟨rfl, rfl⟩, rfl⟩ (fun _ _ => rfl) (fun _ _ => rfl) ⟨⟨rfl, rfl⟩, rfl, rfl⟩ ?_ ?_
    · refine ⟨⟨rfl, rfl⟩, ?_⟩
      (with_reducible conv => whnf)
      repeat' (first | (with_reducible exact trivial) | (with_reducible refine And.intro ?_ ?_ <;> with_reducible conv => whnf))
      all_goals try rfl
      · simp
      · exact ⟨.refl rfl, rfl⟩
      · exact ⟨.refl rfl, rfl⟩
      · refine ⟨?_, noRef_ints _⟩
        rw [← show (out ++ [(k : Int)]).map oInt = out.map oInt ++ [AV.lit (.int .i64 k)] by simp; rfl]
        exact .refl (noRef_ints _)
      · refine ⟨?_, noRef_ints _⟩
        rw [hs0, List.take_zero, List.append_nil, show st' ++ [(k : Int)] ++ sp = st' ++ (k : Int) :: sp by simp]; exact .refl (noRef_ints _)
    · intro j hj
      ((with_reducible conv => whnf); (with_reducible conv => congr <;> reduce); repeat ((first | (with_reducible refine HaltK.mk ?_) | (with_reducible refine StopK.mk ?_)); (with_reducible conv => whnf); (with_reducible conv => congr <;> reduce)))
      refine BodyK.mk rfl ?_; ((with_reducible conv => whnf); (with_reducible conv => congr <;> reduce); repeat ((first | (with_reducible refine HaltK.mk ?_) | (with_reducible refine StopK.mk ?_)); (with_reducible conv => whnf); (with_reducible conv => congr <;> reduce)))
      repeat' (first
    | (first
    | ((with_reducible show IfK _ _ _ _); first | refine IfK.ff ?_ | refine IfK.tt ?_ | refine IfK.no (by first | rfl | assumption | exact nf (by assumption) | exact nt (by assumption) | ((try simp only [castN]); first | (simp []; done) | (simp []; omega))) ?_ | refine IfK.yes (by first | rfl | assumption | exact nf (by assumption) | exact nt (by assumption) | ((try simp only [castN]); first | (simp []; done) | (simp []; omega))) ?_)
    | ((with_reducible show NeedK _ _ _ _); refine NeedK.mk (by (try simp only [castN]); omega) ?_)
    | ((with_reducible show DrawK _ _ _ _); refine DrawK.mk (by kernel_rfl) (by kernel_rfl) (by kernel_rfl) ?_)) <;> ((with_reducible conv => whnf); (with_reducible conv => congr <;> reduce); repeat ((first | (with_reducible refine HaltK.mk ?_) | (with_reducible refine StopK.mk ?_)); (with_reducible conv => whnf); (with_reducible conv => congr <;> reduce)))
    | ((with_reducible show (_ ∧ _) ∧ _ ∧ _); refine ⟨⟨rfl, rfl⟩, ?_, ?_⟩ <;> (with_reducible conv => whnf) <;> repeat' (first | (with_reducible exact trivial) | (with_reducible refine And.intro ?_ ?_ <;> with_reducible conv => whnf))))
      refine AppK.take ((st' ++ a7.reverse.take j).map oInt) [oInt ((a7.reverse[j]?).getD 0)] ⟨rfl, by simp; omega, by rw [List.map_append (l₂ := spF j), List.take_left' (by simp; omega)]⟩ ⟨rfl, rfl, rfl⟩ rfl (by simp; omega) (by simp; omega) ?_
      ((with_reducible conv => whnf); (with_reducible conv => congr <;> reduce); repeat ((first | (with_reducible refine HaltK.mk ?_) | (with_reducible refine StopK.mk ?_)); (with_reducible conv => whnf); (with_reducible conv => congr <;> reduce)))
      repeat' (first
    | (first
    | ((with_reducible show IfK _ _ _ _); first | refine IfK.ff ?_ | refine IfK.tt ?_ | refine IfK.no (by first | rfl | assumption | exact nf (by assumption) | exact nt (by assumption) | ((try simp only [castN]); first | (simp []; done) | (simp []; omega))) ?_ | refine IfK.yes (by first | rfl | assumption | exact nf (by assumption) | exact nt (by assumption) | ((try simp only [castN]); first | (simp []; done) | (simp []; omega))) ?_)
    | ((with_reducible show NeedK _ _ _ _); refine NeedK.mk (by (try simp only [castN]); omega) ?_)
    | ((with_reducible show DrawK _ _ _ _); refine DrawK.mk (by kernel_rfl) (by kernel_rfl) (by kernel_rfl) ?_)) <;> ((with_reducible conv => whnf); (with_reducible conv => congr <;> reduce); repeat ((first | (with_reducible refine HaltK.mk ?_) | (with_reducible refine StopK.mk ?_)); (with_reducible conv => whnf); (with_reducible conv => congr <;> reduce)))
    | ((with_reducible show (_ ∧ _) ∧ _ ∧ _); refine ⟨⟨rfl, rfl⟩, ?_, ?_⟩ <;> (with_reducible conv => whnf) <;> repeat' (first | (with_reducible exact trivial) | (with_reducible refine And.intro ?_ ?_ <;> with_reducible conv => whnf))))
      refine TurnK.mk ?_
      obtain ⟨c, hc⟩ : ∃ c, a7.reverse[j]? = some c := ⟨_, List.getElem?_eq_getElem (by simpa using hj)⟩
      have htk : a7.reverse.take (j + 1) = a7.reverse.take j ++ [c] := by rw [List.take_add_one, hc]; rfl
      rw [hc, Option.getD_some]
      refine ⟨⟨rfl, rfl⟩, ?_⟩
      (with_reducible conv => whnf)
      repeat' (first | (with_reducible exact trivial) | (with_reducible refine And.intro ?_ ?_ <;> with_reducible conv => whnf))
      all_goals try rfl
      · simp; omega
      · exact ⟨.refl rfl, rfl⟩
      · exact ⟨.refl rfl, rfl⟩
      · exact ⟨.refl (noRef_ints _), noRef_ints _⟩
      · refine ⟨?_, noRef_ints _⟩
        rw [hs1, htk, List.append_nil, ← List.append_assoc, List.map_append (l₂ := [c])]; exact .refl (by rw [← List.map_append]; exact noRef_ints _)
    · ((with_reducible conv => whnf); (with_reducible conv => congr <;> reduce); repeat ((first | (with_reducible refine HaltK.mk ?_) | (with_reducible refine StopK.mk ?_)); (with_reducible conv => whnf); (with_reducible conv => congr <;> reduce)))
      refine ElemK.mk (eNode ⟨a1, a2, a3, a4, a5, a6, a7, a8, a9, a10⟩) rfl ?_; ((with_reducible conv => whnf); (with_reducible conv => congr <;> reduce); repeat ((first | (with_reducible refine HaltK.mk ?_) | (with_reducible refine StopK.mk ?_)); (with_reducible conv => whnf); (with_reducible conv => congr <;> reduce)))
      have hT : nd l k = ⟨a1, a2, a3, a4, a5, a6, a7, a8, a9, a10⟩ := hnx
      have hch : chU (nd l k) = (if a9 = -1 then [] else [a9]) ++ a7 := by rw [hT]; rfl
      have hpop := U.rest_pop T (st := st') ht
      rw [hch] at hpop
      have hkid : ∀ c ∈ (if a9 = -1 then [] else [a9]) ++ a7, thereN l c = true := fun c hc => (T.kid k ht c (by rw [hch]; exact hc)).1
      have hta : a7.reverse.take a7.length = a7.reverse := List.take_of_length_le (by simp)
      by_cases e9 : a9 = -1
      · subst e9
        rw [if_pos rfl, List.nil_append] at hpop hkid
        repeat' (first
    | (first
    | ((with_reducible show IfK _ _ _ _); first | refine IfK.ff ?_ | refine IfK.tt ?_ | refine IfK.no (by first | rfl | assumption | exact nf (by assumption) | exact nt (by assumption) | ((try simp only [castN]); first | (simp []; done) | (simp []; omega))) ?_ | refine IfK.yes (by first | rfl | assumption | exact nf (by assumption) | exact nt (by assumption) | ((try simp only [castN]); first | (simp []; done) | (simp []; omega))) ?_)
    | ((with_reducible show NeedK _ _ _ _); refine NeedK.mk (by (try simp only [castN]); omega) ?_)
    | ((with_reducible show DrawK _ _ _ _); refine DrawK.mk (by kernel_rfl) (by kernel_rfl) (by kernel_rfl) ?_)) <;> ((with_reducible conv => whnf); (with_reducible conv => congr <;> reduce); repeat ((first | (with_reducible refine HaltK.mk ?_) | (with_reducible refine StopK.mk ?_)); (with_reducible conv => whnf); (with_reducible conv => congr <;> reduce)))
    | ((with_reducible show (_ ∧ _) ∧ _ ∧ _); refine ⟨⟨rfl, rfl⟩, ?_, ?_⟩ <;> (with_reducible conv => whnf) <;> repeat' (first | (with_reducible exact trivial) | (with_reducible refine And.intro ?_ ?_ <;> with_reducible conv => whnf))))
        refine NextK.mk (out ++ [(k : Int)], st' ++ a7.reverse, spF a7.length) ⟨?_, ?_⟩ ?_ ?_
        · rw [ho, hpop]; simp
        · intro c hc
          rcases List.mem_append.1 hc with h | h
          · exact hst c (by simp [h])
          · exact hkid c (by simpa using h)
        · simp only [List.length_append, List.length_singleton]; omega
        · refine ⟨⟨rfl, rfl⟩, ?_⟩
          (with_reducible conv => whnf)
          repeat' (first | (with_reducible exact trivial) | (with_reducible refine And.intro ?_ ?_ <;> with_reducible conv => whnf))
          all_goals try rfl
          · simp
          · exact ⟨.refl (noRef_ints _), noRef_ints _⟩
          · simp
          · refine ⟨?_, noRef_ints _⟩
            rw [hta]; exact .refl (noRef_ints _)
      · rw [if_neg e9] at hpop hkid
        repeat' (first
    | (first
    | ((with_reducible show IfK _ _ _ _); first | refine IfK.ff ?_ | refine IfK.tt ?_ | refine IfK.no (by first | rfl | assumption | exact nf (by assumption) | exact nt (by assumption) | ((try simp only [castN]); first | (simp [e9]; done) | (simp [e9]; omega))) ?_ | refine IfK.yes (by first | rfl | assumption | exact nf (by assumption) | exact nt (by assumption) | ((try simp only [castN]); first | (simp [e9]; done) | (simp [e9]; omega))) ?_)
    | ((with_reducible show NeedK _ _ _ _); refine NeedK.mk (by (try simp only [castN]); omega) ?_)
    | ((with_reducible show DrawK _ _ _ _); refine DrawK.mk (by kernel_rfl) (by kernel_rfl) (by kernel_rfl) ?_)) <;> ((with_reducible conv => whnf); (with_reducible conv => congr <;> reduce); repeat ((first | (with_reducible refine HaltK.mk ?_) | (with_reducible refine StopK.mk ?_)); (with_reducible conv => whnf); (with_reducible conv => congr <;> reduce)))
    | ((with_reducible show (_ ∧ _) ∧ _ ∧ _); refine ⟨⟨rfl, rfl⟩, ?_, ?_⟩ <;> (with_reducible conv => whnf) <;> repeat' (first | (with_reducible exact trivial) | (with_reducible refine And.intro ?_ ?_ <;> with_reducible conv => whnf))))
        refine ElemK.mk (eNode ⟨a1, a2, a3, a4, a5, a6, a7, a8, a9, a10⟩) rfl ?_; ((with_reducible conv => whnf); (with_reducible conv => congr <;> reduce); repeat ((first | (with_reducible refine HaltK.mk ?_) | (with_reducible refine StopK.mk ?_)); (with_reducible conv => whnf); (with_reducible conv => congr <;> reduce)))
        repeat' (first
    | (first
    | ((with_reducible show IfK _ _ _ _); first | refine IfK.ff ?_ | refine IfK.tt ?_ | refine IfK.no (by first | rfl | assumption | exact nf (by assumption) | exact nt (by assumption) | ((try simp only [castN]); first | (simp [e9]; done) | (simp [e9]; omega))) ?_ | refine IfK.yes (by first | rfl | assumption | exact nf (by assumption) | exact nt (by assumption) | ((try simp only [castN]); first | (simp [e9]; done) | (simp [e9]; omega))) ?_)
    | ((with_reducible show NeedK _ _ _ _); refine NeedK.mk (by (try simp only [castN]); omega) ?_)
    | ((with_reducible show DrawK _ _ _ _); refine DrawK.mk (by kernel_rfl) (by kernel_rfl) (by kernel_rfl) ?_)) <;> ((with_reducible conv => whnf); (with_reducible conv => congr <;> reduce); repeat ((first | (with_reducible refine HaltK.mk ?_) | (with_reducible refine StopK.mk ?_)); (with_reducible conv => whnf); (with_reducible conv => congr <;> reduce)))
    | ((with_reducible show (_ ∧ _) ∧ _ ∧ _); refine ⟨⟨rfl, rfl⟩, ?_, ?_⟩ <;> (with_reducible conv => whnf) <;> repeat' (first | (with_reducible exact trivial) | (with_reducible refine And.intro ?_ ?_ <;> with_reducible conv => whnf))))
        refine AppK.take ((st' ++ a7.reverse).map oInt) [eInt a9] ⟨rfl, by simp, by rw [hta, List.map_append (l₂ := spF a7.length), List.take_left' (by simp)]⟩ ⟨rfl, rfl, rfl⟩ rfl (by simp; omega) (by simp; omega) ?_
        ((with_reducible conv => whnf); (with_reducible conv => congr <;> reduce); repeat ((first | (with_reducible refine HaltK.mk ?_) | (with_reducible refine StopK.mk ?_)); (with_reducible conv => whnf); (with_reducible conv => congr <;> reduce)))
        repeat' (first
    | (first
    | ((with_reducible show IfK _ _ _ _); first | refine IfK.ff ?_ | refine IfK.tt ?_ | refine IfK.no (by first | rfl | assumption | exact nf (by assumption) | exact nt (by assumption) | ((try simp only [castN]); first | (simp [e9]; done) | (simp [e9]; omega))) ?_ | refine IfK.yes (by first | rfl | assumption | exact nf (by assumption) | exact nt (by assumption) | ((try simp only [castN]); first | (simp [e9]; done) | (simp [e9]; omega))) ?_)
    | ((with_reducible show NeedK _ _ _ _); refine NeedK.mk (by (try simp only [castN]); omega) ?_)
    | ((with_reducible show DrawK _ _ _ _); refine DrawK.mk (by kernel_rfl) (by kernel_rfl) (by kernel_rfl) ?_)) <;> ((with_reducible conv => whnf); (with_reducible conv => congr <;> reduce); repeat ((first | (with_reducible refine HaltK.mk ?_) | (with_reducible refine StopK.mk ?_)); (with_reducible conv => whnf); (with_reducible conv => congr <;> reduce)))
    | ((with_reducible show (_ ∧ _) ∧ _ ∧ _); refine ⟨⟨rfl, rfl⟩, ?_, ?_⟩ <;> (with_reducible conv => whnf) <;> repeat' (first | (with_reducible exact trivial) | (with_reducible refine And.intro ?_ ?_ <;> with_reducible conv => whnf))))
        refine NextK.mk (out ++ [(k : Int)], st' ++ a7.reverse ++ [a9], []) ⟨?_, ?_⟩ ?_ ?_
        · rw [ho, hpop]; simp
        · intro c hc
          rcases List.mem_append.1 hc with h | h
          · rcases List.mem_append.1 h with h | h
            · exact hst c (by simp [h])
            · exact hkid c (by simp at h; simp [h])
          · exact hkid c (by simp at h; simp [h])
        · simp only [List.length_append, List.length_singleton]; omega
        · refine ⟨⟨rfl, rfl⟩, ?_⟩
          (with_reducible conv => whnf)
          repeat' (first | (with_reducible exact trivial) | (with_reducible refine And.intro ?_ ?_ <;> with_reducible conv => whnf))
          all_goals try rfl
          · simp
          · exact ⟨.refl (noRef_ints _), noRef_ints _⟩
          · simp
          · refine ⟨?_, noRef_ints _⟩
            rw [List.append_nil, List.map_append (l₂ := [a9])]; exact .refl (by rw [← List.map_append]; exact noRef_ints _)
end Go.Proofs.Heir
namespace Go.Proofs.Heir
open Go.Am Go.RowKit Go.Lib
set_option maxRecDepth 100000
set_option maxHeartbeats 8000000
theorem clear1_run (w : World) (ty : TypeId) (b o n c : Nat) (e : TypeId) (C : Array Value) (h : w.heap[b]? = some (.cells C e (0, 0))) (hn : 0 < n) (hl : o + n ≤ C.size) :
    ∃ C', (Builtin.clear_ #[33] ty #[.slice (some ⟨b, o, none⟩) n c]).run Tryz.prog w = .ok (.tuple #[]) (w.setRow b C') ∧ C'.size = C.size ∧ ∀ q, q < o → C'[q]? = C[q]? := by
  obtain ⟨Z, hZ⟩ : ∃ Z : List Value, (Builtin.zeroCells (Value.int .i64 0).cells n).toList = Z := ⟨_, rfl⟩
  have hsz : Z.length = n := by
    rw [← hZ, Array.length_toList, size_zeroCells]; exact Nat.mul_one n
  have hone : ∀ v ∈ Z, v.oneCell' = true := by
    intro v hv
    rw [← hZ, Array.mem_toList_iff, Builtin.zeroCells, Array.mem_map] at hv
    obtain ⟨i, _, rfl⟩ := hv
    show (#[Value.int .i64 0][i % 1]!).oneCell' = true
    rw [Nat.mod_one]; rfl
  have hst := run_storeCells_at (P := Tryz.prog) b o e Z 0 C w h (by rw [hsz]; omega) hone
  rw [Nat.add_zero] at hst
  refine ⟨(C.toList.take o ++ Z ++ C.toList.drop (o + Z.length)).toArray, ?_, ?_, ?_⟩
  · obtain ⟨m, rfl⟩ : ∃ m, n = m + 1 := ⟨n - 1, by omega⟩
    have hu := Tryz.underlying33
    have hz := Tryz.zeroValue3
    simp [Builtin.clear_, run_underlying hu, hz, hZ, hst]
  · simp [hsz]; omega
  · intro q hq
    simp only [List.getElem?_toArray]
    rw [List.append_assoc, List.getElem?_append_left (by simp; omega), List.getElem?_take, if_pos hq, Array.getElem?_toList]
theorem f145_calls (blk off cap n i j : Nat) (C : Array Value) (e : TypeId) (w : World) (hC : w.heap[blk]? = some (.cells C e (0, 0))) (hfit : off + cap ≤ C.size) (hn : n ≤ cap) (hij : i < j) (hj : j ≤ n)
    (hone : ∀ q v, q < n → C[off + q]? = some v → v.oneCell' = true) :
    Calls Tryz.prog 145 #[.slice (some ⟨blk, off, none⟩) n cap, .int .i64 i, .int .i64 j] w fun e' w' => e' = .returned (.slice (some ⟨blk, off, none⟩) (i + (n - j)) cap) ∧
      ∃ C', w' = w.drew.setRow blk C' ∧ C'.size = C.size ∧ ∀ q, q < (i + (n - j)) → C'[off + q]? = if q < i then C[off + q]? else C[off + q + (j - i)]? := by
  obtain ⟨news, hnews⟩ : ∃ news, news = (C.toList.drop (off + j)).take ((n - j)) := ⟨_, rfl⟩
  have hCl : C.toList.length = C.size := Array.length_toList
  have hlen : news.length = (n - j) := by rw [hnews, List.length_take, List.length_drop, hCl]; omega
  have hget : ∀ t, t < (n - j) → news[t]? = C[off + j + t]? := by
    intro t ht
    rw [hnews, List.getElem?_take, if_pos ht, List.getElem?_drop, Array.getElem?_toList]
  have hcell : ∀ q, w.drew.cell? ⟨blk, q, none⟩ = C[q]? := fun q => by
    show w.cell? _ = _
    simp [World.cell?, hC]
  obtain ⟨A, hA, hsrc⟩ : ∃ A : Addr, (if cap = j then some (⟨blk, off, none⟩ : Addr) else some ⟨blk, off + j, none⟩) = some A ∧ Hid (∀ t u, news[t]? = some u → w.drew.cell? (A.add t) = some u) := by
    by_cases h : cap = j
    · refine ⟨⟨blk, off, none⟩, by simp [h], fun t u hu => ?_⟩
      have h0 : news.length = 0 := by rw [hlen]; omega
      rw [List.length_eq_zero_iff.1 h0] at hu
      simp at hu
    · refine ⟨⟨blk, off + j, none⟩, by simp [h], fun t u hu => ?_⟩
      have ht : t < (n - j) := by
        have := (List.getElem?_eq_some_iff.1 hu).1
        rwa [hlen] at this
      rw [hget t ht] at hu
      rw [Addr.add_lit, hcell]
      exact hu
  have s1 : Hid (news.length = (n - j)) := hlen
  have s2 : Hid (∀ u ∈ news, u.oneCell' = true) := by
    intro u hu
    obtain ⟨t, ht⟩ := List.getElem?_of_mem hu
    have hlt := (List.getElem?_eq_some_iff.1 ht).1
    rw [hlen] at hlt
    rw [hget t hlt, Nat.add_assoc] at ht
    exact hone _ u (by omega) ht
  have s3 : Hid (∀ t, t < news.length → (w.drew.cell? ⟨blk, off + i + t, none⟩).isSome = true ∧ w.drew.frozen? ⟨blk, off + i + t, none⟩ = false) := by
    intro t ht
    rw [hlen] at ht
    refine ⟨?_, ?_⟩
    · rw [hcell, Array.getElem?_eq_getElem (by omega)]; rfl
    · show w.frozen? _ = false
      simp [World.frozen?, hC]
  obtain ⟨C1, hC1, hC1s, hC1q⟩ := setCells_row blk e (0, 0) news (off + i) C w.drew hC (by rw [hlen]; omega)
  obtain ⟨W1, hW1⟩ : ∃ W1, W1 = w.drew.setCells blk (off + i) news := ⟨_, rfl⟩
  have hW1h : W1.heap[blk]? = some (.cells C1 e (0, 0)) := by rw [hW1, hC1]; exact setRow_heap w.drew blk C C1 e (0, 0) hC
  obtain ⟨C2, hcl0, hC2s, hC2q⟩ := clear1_run W1 0 blk (off + (i + (n - j))) (n - (i + (n - j))) (cap - (i + (n - j))) e C1 hW1h (by omega) (by omega)
  have hcl : ∀ ty, (Builtin.clear_ #[33] ty #[.slice (some ⟨blk, off + (i + (n - j)), none⟩) (n - (i + (n - j))) (cap - (i + (n - j)))]).run Tryz.prog W1 = .ok (.tuple #[]) (W1.setRow blk C2) := fun ty => hcl0
  have hW : Hid (W1 = w.drew.setCells blk (off + i) news) := hW1
  have hfin : Hid (W1.setRow blk C2 = w.drew.setRow blk C2 ∧ C2.size = C.size ∧ ∀ q, q < (i + (n - j)) → C2[off + q]? = if q < i then C[off + q]? else C[off + q + (j - i)]?) := by
    refine ⟨by rw [hW1, hC1, setRow_setRow], by omega, fun q hq => ?_⟩
    rw [hC2q _ (by omega), hC1q, hlen]
    by_cases h : q < i
    · rw [if_pos h, if_neg (by omega)]
    · rw [if_neg h, if_pos (by omega), hget _ (by omega)]
      congr 1; omega
  have hic : i ≤ cap := by omega
  have hjc : j ≤ cap := by omega
  obtain ⟨i0, hi0, hz1⟩ : ∃ i0, Tryz.prog.info? 3 = some i0 ∧ i0.size = 1 := ⟨(Tryz.prog.info? 3).getD default, by kernel_rfl, by kernel_rfl⟩
  clear hW1 hW1h hC1 hC1s hC1q hC2s hC2q hcl0 hget hcell hnews hlen hone hC hCl
  have mixed : Tryz.prog.follows Departure.mixedOrders = true := by kernel_rfl
  go_enter Tryz.func145, Tryz.ntmps145
  go_wp2_with fail
  go_region_law_o (refine step_append_room rfl (.tmp 22) (.tmp 25) 33 rfl 3 i0 1 Tryz.underlying33 hi0 hz1 blk off i cap (by simp [Act.eval, Act.put]) A (n - j) (cap - j) news (by simp [Act.eval, Act.put]) (by rw [Nat.mul_one]; exact s1.out) hsrc.out s2.out (by omega) (by simpa only [Nat.mul_one] using s3.out) ?_; rw [show off + i * 1 = off + i from by rw [Nat.mul_one], ← hW.out])
  go_wp2
  go_ret
  exact ⟨rfl, C2, hfin.out⟩
theorem deleteI_ok {rows : List AV} (hone : oneL (flat rows) = true) (i j : Nat) (hij : i < j) (hj : j ≤ rows.length) :
    FnOK Tryz.prog 145 [.live 1 rows false] [.own 0 0 rows.length, eInt i, eInt j] [.dead, .live 1 (rows.take i ++ rows.drop j) false] (.own 1 0 (i + (rows.length - j))) := by
  intro w W0 L vs hL hs hr
  obtain ⟨v0, v1, v2, rfl⟩ : ∃ v0 v1 v2, vs = [v0, v1, v2] := by
    have := hr.1
    match vs, this with
    | [a, b, c], _ => exact ⟨a, b, c, rfl⟩
  have h1 := hr.2 1 _ v1 rfl rfl
  have h2 := hr.2 2 _ v2 rfl rfl
  cases h1; cases h2
  have h0 := hr.2 0 _ v0 rfl rfl
  obtain ⟨B, hB, hobj⟩ := hs.objs 0 1 rows false rfl
  generalize hn : rows.length = n at h0
  cases h0 with
  | ownNil a1 => omega
  | @own _ _ _ cap e' n' B' a1 av ap a2 a3 a4 =>
    rw [hB] at a1; cases a1
    subst hn
    obtain ⟨C, e, fz, c1, c2, c3⟩ := hobj.blk av ap
    rw [c2 rfl] at c1
    have hwd := hobj.width
    have hn' : C.size = n' := by simp [World.shape?, c1] at a3; exact a3.2
    rw [hwd, Nat.zero_mul, Nat.add_zero]
    rw [hwd, Nat.zero_add] at a4
    have hfl := flat_length hobj.wide
    have hcell : ∀ (q : Nat) (c : AV), (flat rows)[q]? = some c → ∃ v, C[B.o + q]? = some v ∧ Rep (Wr W0 L (objsOf [.live 1 rows false])) L w c v := fun q c hq => by
      obtain ⟨v, k1, k2⟩ := hobj.cell ap q c hq
      exact ⟨v, by simpa [World.cell?, c1] using k1, k2⟩
    refine (f145_calls B.b B.o cap rows.length i j C e w c1 (by omega) a2 hij hj (fun q v hq hv => ?_)).mono ?_
    · obtain ⟨v', k1, k2⟩ := hcell q _ (List.getElem?_eq_getElem (by rw [hfl]; omega))
      rw [hv] at k1; cases k1
      exact k2.one (List.all_eq_true.1 hone _ (List.getElem_mem _))
    · rintro e2 w' ⟨rfl, C', rfl, hsz, hq⟩
      have hwide : Wide 1 (rows.take i ++ rows.drop j) := (hobj.wide.sub fun r hr => List.mem_of_mem_take hr).append (hobj.wide.sub fun r hr => List.mem_of_mem_drop hr)
      have hlen : (rows.take i ++ rows.drop j).length = i + (rows.length - j) := by simp; omega
      have hre := (hs.drawn (w.drawn + 1)).reuse (t := 0) (tn := 1) (off := 0) (rows' := rows.take i ++ rows.drop j) (C' := C') rfl hB av rfl c1 hsz hwide (by rw [hlen]; omega) (fun q c hc => by
        rw [flat_append, flat_take hobj.wide, flat_drop hobj.wide, List.getElem?_append, List.length_take, hfl, Nat.min_eq_left (by omega)] at hc
        have hlt := hq q
        rw [Nat.zero_mul, Nat.add_zero]
        split at hc
        · rename_i hql
          rw [List.getElem?_take, if_pos hql] at hc
          obtain ⟨v, k1, k2⟩ := hcell q c hc
          exact ⟨v, by rw [hq q (by omega), if_pos (by omega)]; exact k1, k2.grow (Grow.drawn _)⟩
        · rename_i hql
          rw [List.getElem?_drop] at hc
          have hin := (List.getElem?_eq_some_iff.1 hc).1
          rw [hfl] at hin
          obtain ⟨v, k1, k2⟩ := hcell _ c hc
          refine ⟨v, ?_, k2.grow (Grow.drawn _)⟩
          rw [hq q (by omega), if_neg (by omega), ← k1]
          congr 1; omega)
      have hst : (⟨(bare [.live 1 rows false]).slots, updM (bare [.live 1 rows false]).mem [(1, .live 1 (rows.take i ++ rows.drop j) false), (0, .dead)]⟩ : AState) = bare [.dead, .live 1 (rows.take i ++ rows.drop j) false] := by
        unfold bare
        congr 1
        funext t
        match t with
        | 0 => rfl
        | 1 => rfl
        | t + 2 => simp [updM, objsOf]
      rw [hst] at hre
      refine ⟨_, _, rfl, hre, ?_⟩
      have := Rep.own (W := Wr W0 (setMu L 1 ⟨B.b, B.o + 0, 1, false, false⟩) (objsOf [.dead, .live 1 (rows.take i ++ rows.drop j) false])) (μ := setMu L 1 ⟨B.b, B.o + 0, 1, false, false⟩)
        (w := w.drew.setRow B.b C') (t := 1) (off := 0) (len := i + (rows.length - j)) (cap := cap) (e := e) (n := C.size) (B := ⟨B.b, B.o + 0, 1, false, false⟩) (by simp [setMu]) rfl rfl (by omega)
        (by simp [World.shape?, setRow_heap w.drew B.b C C' e (0, 0) c1, hsz]) (by simp only [Nat.zero_add]; omega)
      simpa using this
end Go.Proofs.Heir
namespace Go.Proofs.Heir
open Go Go.Am Go.RowKit Go.Lib
set_option maxRecDepth 100000
set_option maxHeartbeats 8000000
noncomputable def fnsP : List (Nat × Func) := [(16, Tryz.f16), (25, Tryz.f25), (17, Tryz.f17), (207, Tryz.f207), (69, Tryz.f69), (133, Tryz.f133), (179, Tryz.f179), (208, Tryz.f208), (55, Tryz.f55), (223, Tryz.f223), (135, Tryz.f135), (137, Tryz.f137), (187, Tryz.f187), (115, Tryz.f115), (116, Tryz.f116), (117, Tryz.f117), (118, Tryz.f118), (119, Tryz.f119), (120, Tryz.f120), (127, Tryz.f127), (67, Tryz.f67), (131, Tryz.f131), (136, Tryz.f136), (129, Tryz.f129), (175, Tryz.f175), (176, Tryz.f176), (177, Tryz.f177), (125, Tryz.f125), (217, Tryz.f217), (124, Tryz.f124), (180, Tryz.f180), (181, Tryz.f181), (182, Tryz.f182), (73, Tryz.f73), (231, Tryz.f231), (183, Tryz.f183), (236, Tryz.f236), (29, Tryz.f29), (56, Tryz.f56), (60, Tryz.f60), (30, Tryz.f30), (74, Tryz.f74), (75, Tryz.f75), (28, Tryz.f28), (121, Tryz.f121), (71, Tryz.f71), (76, Tryz.f76), (27, Tryz.f27), (79, Tryz.f79), (139, Tryz.f139), (141, Tryz.f141), (138, Tryz.f138), (142, Tryz.f142), (144, Tryz.f144), (191, Tryz.f191), (83, Tryz.f83), (34, Tryz.f34), (35, Tryz.f35), (84, Tryz.f84), (147, Tryz.f147), (149, Tryz.f149), (192, Tryz.f192), (81, Tryz.f81), (63, Tryz.f63), (143, Tryz.f143), (140, Tryz.f140), (32, Tryz.f32), (77, Tryz.f77), (78, Tryz.f78), (70, Tryz.f70), (123, Tryz.f123)]
theorem fnsP_ok : ∀ p ∈ fnsP, Tryz.prog.funcs[p.1]? = some p.2 ∧ Callable Tryz.prog p.1 := List.forall_mem_cons.2 ⟨⟨Tryz.func16, c16⟩, List.forall_mem_cons.2 ⟨⟨Tryz.func25, c25⟩, List.forall_mem_cons.2 ⟨⟨Tryz.func17, c17⟩, List.forall_mem_cons.2 ⟨⟨Tryz.func207, c207⟩, List.forall_mem_cons.2 ⟨⟨Tryz.func69, c69⟩, List.forall_mem_cons.2 ⟨⟨Tryz.func133, c133⟩, List.forall_mem_cons.2 ⟨⟨Tryz.func179, c179⟩, List.forall_mem_cons.2 ⟨⟨Tryz.func208, c208⟩, List.forall_mem_cons.2 ⟨⟨Tryz.func55, c55⟩, List.forall_mem_cons.2 ⟨⟨Tryz.func223, c223⟩, List.forall_mem_cons.2 ⟨⟨Tryz.func135, c135⟩, List.forall_mem_cons.2 ⟨⟨Tryz.func137, c137⟩, List.forall_mem_cons.2 ⟨⟨Tryz.func187, c187⟩, List.forall_mem_cons.2 ⟨⟨Tryz.func115, c115⟩, List.forall_mem_cons.2 ⟨⟨Tryz.func116, c116⟩, List.forall_mem_cons.2 ⟨⟨Tryz.func117, c117⟩, List.forall_mem_cons.2 ⟨⟨Tryz.func118, c118⟩, List.forall_mem_cons.2 ⟨⟨Tryz.func119, c119⟩, List.forall_mem_cons.2 ⟨⟨Tryz.func120, c120⟩, List.forall_mem_cons.2 ⟨⟨Tryz.func127, c127⟩, List.forall_mem_cons.2 ⟨⟨Tryz.func67, c67⟩, List.forall_mem_cons.2 ⟨⟨Tryz.func131, c131⟩, List.forall_mem_cons.2 ⟨⟨Tryz.func136, c136⟩, List.forall_mem_cons.2 ⟨⟨Tryz.func129, c129⟩, List.forall_mem_cons.2 ⟨⟨Tryz.func175, c175⟩, List.forall_mem_cons.2 ⟨⟨Tryz.func176, c176⟩, List.forall_mem_cons.2 ⟨⟨Tryz.func177, c177⟩, List.forall_mem_cons.2 ⟨⟨Tryz.func125, c125⟩, List.forall_mem_cons.2 ⟨⟨Tryz.func217, c217⟩, List.forall_mem_cons.2 ⟨⟨Tryz.func124, c124⟩, List.forall_mem_cons.2 ⟨⟨Tryz.func180, c180⟩, List.forall_mem_cons.2 ⟨⟨Tryz.func181, c181⟩, List.forall_mem_cons.2 ⟨⟨Tryz.func182, c182⟩, List.forall_mem_cons.2 ⟨⟨Tryz.func73, c73⟩, List.forall_mem_cons.2 ⟨⟨Tryz.func231, c231⟩, List.forall_mem_cons.2 ⟨⟨Tryz.func183, c183⟩, List.forall_mem_cons.2 ⟨⟨Tryz.func236, c236⟩, List.forall_mem_cons.2 ⟨⟨Tryz.func29, c29⟩, List.forall_mem_cons.2 ⟨⟨Tryz.func56, c56⟩, List.forall_mem_cons.2 ⟨⟨Tryz.func60, c60⟩, List.forall_mem_cons.2 ⟨⟨Tryz.func30, c30⟩, List.forall_mem_cons.2 ⟨⟨Tryz.func74, c74⟩, List.forall_mem_cons.2 ⟨⟨Tryz.func75, c75⟩, List.forall_mem_cons.2 ⟨⟨Tryz.func28, c28⟩, List.forall_mem_cons.2 ⟨⟨Tryz.func121, c121⟩, List.forall_mem_cons.2 ⟨⟨Tryz.func71, c71⟩, List.forall_mem_cons.2 ⟨⟨Tryz.func76, c76⟩, List.forall_mem_cons.2 ⟨⟨Tryz.func27, c27⟩, List.forall_mem_cons.2 ⟨⟨Tryz.func79, c79⟩, List.forall_mem_cons.2 ⟨⟨Tryz.func139, c139⟩, List.forall_mem_cons.2 ⟨⟨Tryz.func141, c141⟩, List.forall_mem_cons.2 ⟨⟨Tryz.func138, c138⟩, List.forall_mem_cons.2 ⟨⟨Tryz.func142, c142⟩, List.forall_mem_cons.2 ⟨⟨Tryz.func144, c144⟩, List.forall_mem_cons.2 ⟨⟨Tryz.func191, c191⟩, List.forall_mem_cons.2 ⟨⟨Tryz.func83, c83⟩, List.forall_mem_cons.2 ⟨⟨Tryz.func34, c34⟩, List.forall_mem_cons.2 ⟨⟨Tryz.func35, c35⟩, List.forall_mem_cons.2 ⟨⟨Tryz.func84, c84⟩, List.forall_mem_cons.2 ⟨⟨Tryz.func147, c147⟩, List.forall_mem_cons.2 ⟨⟨Tryz.func149, c149⟩, List.forall_mem_cons.2 ⟨⟨Tryz.func192, c192⟩, List.forall_mem_cons.2 ⟨⟨Tryz.func81, c81⟩, List.forall_mem_cons.2 ⟨⟨Tryz.func63, c63⟩, List.forall_mem_cons.2 ⟨⟨Tryz.func143, c143⟩, List.forall_mem_cons.2 ⟨⟨Tryz.func140, c140⟩, List.forall_mem_cons.2 ⟨⟨Tryz.func32, c32⟩, List.forall_mem_cons.2 ⟨⟨Tryz.func77, c77⟩, List.forall_mem_cons.2 ⟨⟨Tryz.func78, c78⟩, List.forall_mem_cons.2 ⟨⟨Tryz.func70, c70⟩, List.forall_mem_cons.2 ⟨⟨Tryz.func123, c123⟩, fun _ h => by simp at h⟩⟩⟩⟩⟩⟩⟩⟩⟩⟩⟩⟩⟩⟩⟩⟩⟩⟩⟩⟩⟩⟩⟩⟩⟩⟩⟩⟩⟩⟩⟩⟩⟩⟩⟩⟩⟩⟩⟩⟩⟩⟩⟩⟩⟩⟩⟩⟩⟩⟩⟩⟩⟩⟩⟩⟩⟩⟩⟩⟩⟩⟩⟩⟩⟩⟩⟩⟩⟩⟩⟩
noncomputable def envP : EEnv := ⟨G, mapsT, fnsP, kindsT, orcC, [98]⟩
theorem envP_good : envP.Good Tryz.prog := ⟨G_good, mapsT_ok, fnsP_ok, kindsT_ok, orcC_ok, by kernel_rfl, fun t h => by
  obtain rfl := List.mem_singleton.1 h
  exact ⟨_, Tryz.underlying98⟩⟩
def pG2 : ForM := ⟨[⟨0, ⟨#[]⟩, ⟨#[]⟩, ⟨#[]⟩, [], -1, [1], -1, -1, 0⟩, ⟨1, ⟨#[112]⟩, ⟨#[]⟩, ⟨#[]⟩, [], 0, [], -1, -1, 0⟩], 5⟩
theorem pG2_small : SmallN pG2.nodes := ⟨by decide, by decide, by decide, by decide⟩
def pA1 : Ans := ⟨82, [.live 10 [.agg [.lit (.int .i64 (0)), .lit (.string ⟨⟨[]⟩⟩), .lit (.string ⟨⟨[]⟩⟩), .lit (.string ⟨⟨[]⟩⟩), .sl 2 [], .lit (.int .i64 (-1)), .own 1 0 1, .lit (.int .i64 (-1)), .lit (.int .i64 (-1)), .lit (.int .i64 (0))], .agg [.lit (.int .i64 (1)), .lit (.string ⟨⟨[112]⟩⟩), .lit (.string ⟨⟨[]⟩⟩), .lit (.string ⟨⟨[]⟩⟩), .sl 2 [], .lit (.int .i64 (0)), .own 2 0 0, .lit (.int .i64 (-1)), .lit (.int .i64 (-1)), .lit (.int .i64 (0))]] false, .live 1 [.lit (.int .i64 (1))] false, .live 1 [] false], [.agg [.own 0 0 2, .lit (.int .i64 (5))], .lit (.int .i64 (1))], [.live 10 [.agg [.lit (.int .i64 (0)), .lit (.string ⟨⟨[]⟩⟩), .lit (.string ⟨⟨[]⟩⟩), .lit (.string ⟨⟨[]⟩⟩), .sl 2 [], .lit (.int .i64 (-1)), .own 1 0 1, .lit (.int .i64 (-1)), .lit (.int .i64 (-1)), .lit (.int .i64 (0))], .agg [.lit (.int .i64 (1)), .lit (.string ⟨⟨[112]⟩⟩), .lit (.string ⟨⟨[]⟩⟩), .lit (.string ⟨⟨[]⟩⟩), .sl 2 [], .lit (.int .i64 (0)), .own 2 0 0, .lit (.int .i64 (-1)), .lit (.int .i64 (-1)), .lit (.int .i64 (0))]] false, .live 1 [.lit (.int .i64 (1))] false, .live 1 [] false, .live 1 [.lit (.int .i64 (1))] false], .own 3 0 1⟩
theorem pA1_ok : pA1.OK Tryz.prog := by
  refine ⟨?_, c82⟩
  have h := f82_own pG2 pG2_small 1 (by kernel_rfl)
  rw [show allU pG2 1 = [1] from by kernel_rfl] at h
  have nil2 : ∀ wd, NilK (.sl wd []) := fun wd => .inr (.inr ⟨wd, rfl⟩)
  refine FnOK.thawNew (args' := pA1.args) (ins := pA1.ins) (objsR 0 pA1.ins) [0, 1, 2] ?_ h (by decide) ?_ ?_
  · funext t
    match t with
    | 0 => rfl
    | 1 => rfl
    | 2 => rfl
    | n + 3 => rfl
  · intro r hr cs e
    obtain ⟨n, _, hn⟩ := List.mem_map.1 (show r ∈ ([1] : List Int).map oInt from hr)
    rw [← hn] at e
    cases e
  · refine ⟨⟨⟨10, _, _, _, rfl, rfl, rfl, by decide, rfl, RowsM.of ⟨?_, ?_, trivial⟩⟩, rfl, trivial⟩, rfl, trivial⟩
    · exact ⟨rfl, rfl, rfl, rfl, rfl, rfl, ⟨1, _, _, _, rfl, rfl, rfl, by decide, rfl, RowsM.of ⟨rfl, trivial⟩⟩, rfl, rfl, rfl, trivial⟩
    · exact ⟨rfl, rfl, rfl, rfl, rfl, rfl, ⟨1, _, _, _, rfl, rfl, rfl, by decide, rfl, RowsM.of trivial⟩, rfl, rfl, rfl, trivial⟩
def pG3 : ForM := ⟨[⟨0, ⟨#[]⟩, ⟨#[]⟩, ⟨#[]⟩, [], -1, [1], -1, -1, 0⟩, ⟨1, ⟨#[112]⟩, ⟨#[]⟩, ⟨#[]⟩, [⟨⟨#[98]⟩, ⟨#[49]⟩⟩], 0, [], -1, -1, 0⟩], 5⟩
theorem pG3_small : SmallN pG3.nodes := ⟨by decide, by decide, by decide, by decide⟩
def pA2 : Ans := ⟨82, [.live 10 [.agg [.lit (.int .i64 (0)), .lit (.string ⟨⟨[]⟩⟩), .lit (.string ⟨⟨[]⟩⟩), .lit (.string ⟨⟨[]⟩⟩), .sl 2 [], .lit (.int .i64 (-1)), .own 1 0 1, .lit (.int .i64 (-1)), .lit (.int .i64 (-1)), .lit (.int .i64 (0))], .agg [.lit (.int .i64 (1)), .lit (.string ⟨⟨[112]⟩⟩), .lit (.string ⟨⟨[]⟩⟩), .lit (.string ⟨⟨[]⟩⟩), .sl 2 [.agg [.lit (.string ⟨⟨[98]⟩⟩), .lit (.string ⟨⟨[49]⟩⟩)]], .lit (.int .i64 (0)), .own 2 0 0, .lit (.int .i64 (-1)), .lit (.int .i64 (-1)), .lit (.int .i64 (0))]] false, .live 1 [.lit (.int .i64 (1))] false, .live 1 [] false], [.agg [.own 0 0 2, .lit (.int .i64 (5))], .lit (.int .i64 (1))], [.live 10 [.agg [.lit (.int .i64 (0)), .lit (.string ⟨⟨[]⟩⟩), .lit (.string ⟨⟨[]⟩⟩), .lit (.string ⟨⟨[]⟩⟩), .sl 2 [], .lit (.int .i64 (-1)), .own 1 0 1, .lit (.int .i64 (-1)), .lit (.int .i64 (-1)), .lit (.int .i64 (0))], .agg [.lit (.int .i64 (1)), .lit (.string ⟨⟨[112]⟩⟩), .lit (.string ⟨⟨[]⟩⟩), .lit (.string ⟨⟨[]⟩⟩), .sl 2 [.agg [.lit (.string ⟨⟨[98]⟩⟩), .lit (.string ⟨⟨[49]⟩⟩)]], .lit (.int .i64 (0)), .own 2 0 0, .lit (.int .i64 (-1)), .lit (.int .i64 (-1)), .lit (.int .i64 (0))]] false, .live 1 [.lit (.int .i64 (1))] false, .live 1 [] false, .live 1 [.lit (.int .i64 (1))] false], .own 3 0 1⟩
theorem pA2_ok : pA2.OK Tryz.prog := by
  refine ⟨?_, c82⟩
  have h := f82_own pG3 pG3_small 1 (by kernel_rfl)
  rw [show allU pG3 1 = [1] from by kernel_rfl] at h
  have nil2 : ∀ wd, NilK (.sl wd []) := fun wd => .inr (.inr ⟨wd, rfl⟩)
  refine FnOK.thawNew (args' := pA2.args) (ins := pA2.ins) (objsR 0 pA2.ins) [0, 1, 2] ?_ h (by decide) ?_ ?_
  · funext t
    match t with
    | 0 => rfl
    | 1 => rfl
    | 2 => rfl
    | n + 3 => rfl
  · intro r hr cs e
    obtain ⟨n, _, hn⟩ := List.mem_map.1 (show r ∈ ([1] : List Int).map oInt from hr)
    rw [← hn] at e
    cases e
  · refine ⟨⟨⟨10, _, _, _, rfl, rfl, rfl, by decide, rfl, RowsM.of ⟨?_, ?_, trivial⟩⟩, rfl, trivial⟩, rfl, trivial⟩
    · exact ⟨rfl, rfl, rfl, rfl, rfl, rfl, ⟨1, _, _, _, rfl, rfl, rfl, by decide, rfl, RowsM.of ⟨rfl, trivial⟩⟩, rfl, rfl, rfl, trivial⟩
    · exact ⟨rfl, rfl, rfl, rfl, rfl, rfl, ⟨1, _, _, _, rfl, rfl, rfl, by decide, rfl, RowsM.of trivial⟩, rfl, rfl, rfl, trivial⟩
def pDe : Ans := ⟨145, [.live 1 [.lit (.int .i64 (1))] false], [.own 0 0 1, .lit (.int .i64 (0)), .lit (.int .i64 (1))], [.dead, .live 1 [] false], .own 1 0 0⟩
theorem pDe_ok : pDe.OK Tryz.prog := ⟨deleteI_ok (rows := [eInt 1]) rfl 0 1 (by decide) (by decide), c145⟩
theorem pA_ok : ∀ r ∈ [pA1], r.OK Tryz.prog := Ans.cons pA1_ok (fun _ h => by cases h)
theorem pB_ok : ∀ r ∈ [pA2, pDe], r.OK Tryz.prog := Ans.cons pA2_ok (Ans.cons pDe_ok (fun _ h => by cases h))
def pN : Ans := ⟨69, [], [.lit (.int .i64 (5))], [.live 10 [.agg [.lit (.int .i64 (0)), .lit (.string ⟨⟨[]⟩⟩), .lit (.string ⟨⟨[]⟩⟩), .lit (.string ⟨⟨[]⟩⟩), .lit (.slice none 0 0), .lit (.int .i64 (-1)), .lit (.slice none 0 0), .lit (.int .i64 (-1)), .lit (.int .i64 (-1)), .lit (.int .i64 (0))]] false], .tup [.agg [.own 0 0 1, .lit (.int .i64 (5))], .lit (.int .i64 (0))]⟩
theorem pN_run : runF envP 1000 60 pN.g pN.ins pN.args = some (pN.outs, pN.res) := by kernel_rfl
theorem pN_ok : pN.OK Tryz.prog := Ans.of envP_good pN_run
def pG0 : ForM := ⟨[⟨0, ⟨#[]⟩, ⟨#[]⟩, ⟨#[]⟩, [], -1, [], -1, -1, 0⟩], 5⟩
theorem p69 : FnOK Tryz.prog 69 [] [eInt 5] [] (.tup [eFor pG0, eInt (0)]) := by
  have h := pN_ok.1
  have nil2 : ∀ wd, NilK (.sl wd []) := fun wd => .inr (.inr ⟨wd, rfl⟩)
  refine FnOK.frozen (objsR 0 pN.outs) ?_ (by kernel_rfl) h ?_
  · funext t
    match t with
    | 0 => rfl
    | n + 1 => rfl
  · refine ⟨⟨⟨10, _, _, _, rfl, rfl, rfl, by decide, rfl, RowsM.of ⟨?_, trivial⟩⟩, rfl, trivial⟩, rfl, trivial⟩
    · exact ⟨rfl, rfl, rfl, rfl, nil2 _, rfl, nil2 _, rfl, rfl, rfl, trivial⟩
def pM : Ans := ⟨70, [], [.agg [.sl 10 [.agg [.lit (.int .i64 (0)), .lit (.string ⟨⟨[]⟩⟩), .lit (.string ⟨⟨[]⟩⟩), .lit (.string ⟨⟨[]⟩⟩), .sl 2 [], .lit (.int .i64 (-1)), .sl 1 [], .lit (.int .i64 (-1)), .lit (.int .i64 (-1)), .lit (.int .i64 (0))]], .lit (.int .i64 (5))], .agg [.lit (.int .i64 (1)), .lit (.string ⟨⟨[112]⟩⟩), .lit (.string ⟨⟨[]⟩⟩), .lit (.string ⟨⟨[]⟩⟩), .lit (.slice none 0 0), .lit (.int .i64 (0)), .lit (.slice none 0 0), .lit (.int .i64 (0)), .lit (.int .i64 (0)), .lit (.int .i64 (0))]], [.live 10 [.agg [.lit (.int .i64 (0)), .lit (.string ⟨⟨[]⟩⟩), .lit (.string ⟨⟨[]⟩⟩), .lit (.string ⟨⟨[]⟩⟩), .sl 2 [], .lit (.int .i64 (-1)), .sl 1 [], .lit (.int .i64 (-1)), .lit (.int .i64 (-1)), .lit (.int .i64 (0))], .agg [.lit (.int .i64 (1)), .lit (.string ⟨⟨[112]⟩⟩), .lit (.string ⟨⟨[]⟩⟩), .lit (.string ⟨⟨[]⟩⟩), .lit (.slice none 0 0), .lit (.int .i64 (-1)), .lit (.slice none 0 0), .lit (.int .i64 (-1)), .lit (.int .i64 (-1)), .lit (.int .i64 (0))]] false], .tup [.agg [.own 0 0 2, .lit (.int .i64 (5))], .lit (.int .i64 (1)), .lit (.int .i64 (0))]⟩
theorem pM_run : runF envP 1000 60 pM.g pM.ins pM.args = some (pM.outs, pM.res) := by kernel_rfl
theorem pM_ok : pM.OK Tryz.prog := Ans.of envP_good pM_run
def pG1 : ForM := ⟨[⟨0, ⟨#[]⟩, ⟨#[]⟩, ⟨#[]⟩, [], -1, [], -1, -1, 0⟩, ⟨1, ⟨#[112]⟩, ⟨#[]⟩, ⟨#[]⟩, [], -1, [], -1, -1, 0⟩], 5⟩
theorem p70 : FnOK Tryz.prog 70 [] [eFor pG0, .agg [.lit (.int .i64 (1)), .lit (.string ⟨⟨[112]⟩⟩), .lit (.string ⟨⟨[]⟩⟩), .lit (.string ⟨⟨[]⟩⟩), .lit (.slice none 0 0), .lit (.int .i64 (0)), .lit (.slice none 0 0), .lit (.int .i64 (0)), .lit (.int .i64 (0)), .lit (.int .i64 (0))]] [] (.tup [eFor pG1, eInt (1), eInt (0)]) := by
  have h := pM_ok.1
  have nil2 : ∀ wd, NilK (.sl wd []) := fun wd => .inr (.inr ⟨wd, rfl⟩)
  refine FnOK.frozen (objsR 0 pM.outs) ?_ (by kernel_rfl) h ?_
  · funext t
    match t with
    | 0 => rfl
    | n + 1 => rfl
  · refine ⟨⟨⟨10, _, _, _, rfl, rfl, rfl, by decide, rfl, RowsM.of ⟨?_, ?_, trivial⟩⟩, rfl, trivial⟩, rfl, rfl, trivial⟩
    · exact ⟨rfl, rfl, rfl, rfl, rfl, rfl, rfl, rfl, rfl, rfl, trivial⟩
    · exact ⟨rfl, rfl, rfl, rfl, nil2 _, rfl, nil2 _, rfl, rfl, rfl, trivial⟩
def pI : Ans := ⟨29, [], [.agg [.sl 10 [.agg [.lit (.int .i64 (0)), .lit (.string ⟨⟨[]⟩⟩), .lit (.string ⟨⟨[]⟩⟩), .lit (.string ⟨⟨[]⟩⟩), .sl 2 [], .lit (.int .i64 (-1)), .sl 1 [], .lit (.int .i64 (-1)), .lit (.int .i64 (-1)), .lit (.int .i64 (0))], .agg [.lit (.int .i64 (1)), .lit (.string ⟨⟨[112]⟩⟩), .lit (.string ⟨⟨[]⟩⟩), .lit (.string ⟨⟨[]⟩⟩), .sl 2 [], .lit (.int .i64 (-1)), .sl 1 [], .lit (.int .i64 (-1)), .lit (.int .i64 (-1)), .lit (.int .i64 (0))]], .lit (.int .i64 (5))], .lit (.int .i64 (1)), .lit (.int .i64 (0)), .lit (.int .i64 (-1))], [.live 10 [.agg [.lit (.int .i64 (0)), .lit (.string ⟨⟨[]⟩⟩), .lit (.string ⟨⟨[]⟩⟩), .lit (.string ⟨⟨[]⟩⟩), .sl 2 [], .lit (.int .i64 (-1)), .own 2 0 1, .lit (.int .i64 (-1)), .lit (.int .i64 (-1)), .lit (.int .i64 (0))], .agg [.lit (.int .i64 (1)), .lit (.string ⟨⟨[112]⟩⟩), .lit (.string ⟨⟨[]⟩⟩), .lit (.string ⟨⟨[]⟩⟩), .sl 2 [], .lit (.int .i64 (0)), .own 3 0 0, .lit (.int .i64 (-1)), .lit (.int .i64 (-1)), .lit (.int .i64 (0))]] false, .live 9 [.agg [.lit (.int .i64 (1)), .lit (.int .i64 (1)), .lit (.int .i64 (0)), .lit (.int .i64 (0)), .lit (.string ⟨⟨[]⟩⟩), .lit (.bool false), .lit (.bool false), .lit (.string ⟨⟨[]⟩⟩), .lit (.string ⟨⟨[]⟩⟩)]] false, .live 1 [.lit (.int .i64 (1))] false, .live 1 [] false], .tup [.agg [.own 0 0 2, .lit (.int .i64 (5))], .own 1 0 1, .lit (.int .i64 (0))]⟩
theorem pI_run : runF (envP.moreS [pA1]) 1000 60 pI.g pI.ins pI.args = some (pI.outs, pI.res) := by kernel_rfl
theorem pI_ok : pI.OK Tryz.prog := Ans.of (EEnv.moreS_good envP_good pA_ok) pI_run
theorem p29 : FnOK Tryz.prog 29 [] [eFor pG1, eInt 1, eInt 0, eInt (-1)] [] (.tup [eFor pG2, eNs [⟨1, 1, 0, 0, ⟨#[]⟩, false, false, ⟨#[]⟩, ⟨#[]⟩⟩], eInt (0)]) := by
  have h := pI_ok.1
  have nil2 : ∀ wd, NilK (.sl wd []) := fun wd => .inr (.inr ⟨wd, rfl⟩)
  refine FnOK.frozen (objsR 0 pI.outs) ?_ (by kernel_rfl) h ?_
  · funext t
    match t with
    | 0 => rfl
    | 1 => rfl
    | 2 => rfl
    | 3 => rfl
    | n + 4 => rfl
  · refine ⟨⟨⟨10, _, _, _, rfl, rfl, rfl, by decide, rfl, RowsM.of ⟨?_, ?_, trivial⟩⟩, rfl, trivial⟩, ⟨9, _, _, _, rfl, rfl, rfl, by decide, rfl, RowsM.of ⟨⟨rfl, rfl, rfl, rfl, rfl, rfl, rfl, rfl, rfl, trivial⟩, trivial⟩⟩, rfl, trivial⟩
    · exact ⟨rfl, rfl, rfl, rfl, rfl, rfl, ⟨1, _, _, _, rfl, rfl, rfl, by decide, rfl, RowsM.of ⟨rfl, trivial⟩⟩, rfl, rfl, rfl, trivial⟩
    · exact ⟨rfl, rfl, rfl, rfl, rfl, rfl, ⟨1, _, _, _, rfl, rfl, rfl, by decide, rfl, RowsM.of trivial⟩, rfl, rfl, rfl, trivial⟩
def pR : Ans := ⟨32, [], [.agg [.sl 10 [.agg [.lit (.int .i64 (0)), .lit (.string ⟨⟨[]⟩⟩), .lit (.string ⟨⟨[]⟩⟩), .lit (.string ⟨⟨[]⟩⟩), .sl 2 [], .lit (.int .i64 (-1)), .sl 1 [.lit (.int .i64 (1))], .lit (.int .i64 (-1)), .lit (.int .i64 (-1)), .lit (.int .i64 (0))], .agg [.lit (.int .i64 (1)), .lit (.string ⟨⟨[112]⟩⟩), .lit (.string ⟨⟨[]⟩⟩), .lit (.string ⟨⟨[]⟩⟩), .sl 2 [.agg [.lit (.string ⟨⟨[98]⟩⟩), .lit (.string ⟨⟨[49]⟩⟩)]], .lit (.int .i64 (0)), .sl 1 [], .lit (.int .i64 (-1)), .lit (.int .i64 (-1)), .lit (.int .i64 (0))]], .lit (.int .i64 (5))], .lit (.int .i64 (1))], [.live 10 [.agg [.lit (.int .i64 (0)), .lit (.string ⟨⟨[]⟩⟩), .lit (.string ⟨⟨[]⟩⟩), .lit (.string ⟨⟨[]⟩⟩), .sl 2 [], .lit (.int .i64 (-1)), .own 2 0 0, .lit (.int .i64 (-1)), .lit (.int .i64 (-1)), .lit (.int .i64 (0))], .agg [.lit (.int .i64 (1)), .lit (.string ⟨⟨[112]⟩⟩), .lit (.string ⟨⟨[]⟩⟩), .lit (.string ⟨⟨[]⟩⟩), .sl 2 [.agg [.lit (.string ⟨⟨[98]⟩⟩), .lit (.string ⟨⟨[49]⟩⟩)]], .lit (.int .i64 (-1)), .own 3 0 0, .lit (.int .i64 (-1)), .lit (.int .i64 (-1)), .lit (.int .i64 (0))]] false, .live 9 [.agg [.lit (.int .i64 (2)), .lit (.int .i64 (1)), .lit (.int .i64 (0)), .lit (.int .i64 (0)), .lit (.string ⟨⟨[]⟩⟩), .lit (.bool false), .lit (.bool false), .lit (.string ⟨⟨[]⟩⟩), .lit (.string ⟨⟨[]⟩⟩)]] false, .live 1 [] false, .live 1 [] false], .tup [.agg [.own 0 0 2, .lit (.int .i64 (5))], .own 1 0 1, .lit (.int .i64 (0))]⟩
theorem pR_run : runF (envP.moreS [pA2, pDe]) 1000 60 pR.g pR.ins pR.args = some (pR.outs, pR.res) := by kernel_rfl
theorem pR_ok : pR.OK Tryz.prog := Ans.of (EEnv.moreS_good envP_good pB_ok) pR_run
def pG4 : ForM := ⟨[⟨0, ⟨#[]⟩, ⟨#[]⟩, ⟨#[]⟩, [], -1, [], -1, -1, 0⟩, ⟨1, ⟨#[112]⟩, ⟨#[]⟩, ⟨#[]⟩, [⟨⟨#[98]⟩, ⟨#[49]⟩⟩], -1, [], -1, -1, 0⟩], 5⟩
theorem p32 : FnOK Tryz.prog 32 [] [eFor pG3, eInt 1] [] (.tup [eFor pG4, eNs [⟨2, 1, 0, 0, ⟨#[]⟩, false, false, ⟨#[]⟩, ⟨#[]⟩⟩], eInt (0)]) := by
  have h := pR_ok.1
  have nil2 : ∀ wd, NilK (.sl wd []) := fun wd => .inr (.inr ⟨wd, rfl⟩)
  refine FnOK.frozen (objsR 0 pR.outs) ?_ (by kernel_rfl) h ?_
  · funext t
    match t with
    | 0 => rfl
    | 1 => rfl
    | 2 => rfl
    | 3 => rfl
    | n + 4 => rfl
  · refine ⟨⟨⟨10, _, _, _, rfl, rfl, rfl, by decide, rfl, RowsM.of ⟨?_, ?_, trivial⟩⟩, rfl, trivial⟩, ⟨9, _, _, _, rfl, rfl, rfl, by decide, rfl, RowsM.of ⟨⟨rfl, rfl, rfl, rfl, rfl, rfl, rfl, rfl, rfl, trivial⟩, trivial⟩⟩, rfl, trivial⟩
    · exact ⟨rfl, rfl, rfl, rfl, rfl, rfl, ⟨1, _, _, _, rfl, rfl, rfl, by decide, rfl, RowsM.of trivial⟩, rfl, rfl, rfl, trivial⟩
    · exact ⟨rfl, rfl, rfl, rfl, rfl, rfl, ⟨1, _, _, _, rfl, rfl, rfl, by decide, rfl, RowsM.of trivial⟩, rfl, rfl, rfl, trivial⟩
@[reducible] def outWd : ByteArray := ⟨#[111, 117, 116]⟩
theorem removeC_none (l : List NodeM) (m : Int) (hs : SmallN l) (k : Nat) (y : NodeM) (hy : l[k]? = some y) (hp : y.parent = -1) :
    FnOK Tryz.prog 78 [mHand m l.length 1 nilNs, mNodes l] [.ptr 0 0 0, .fptr (eInt k) 0] [mHand m l.length 1 nilNs, mNodes l] (.lit (stepV outWd 6)) := by
  have hkl : k < l.length := (List.getElem?_eq_some_iff.1 hy).1
  have hlm : (l.map oNode).length = l.length := List.length_map ..
  have h60 := refused1 outWd 6 (by decide)
  obtain ⟨y1, y2, y3, y4, y5, y6, y7, y8, y9, y10⟩ := y
  simp only at hp
  have hp' := eq_true hp
  refine FnOK.startN [] (rvs := [.tmp 3]) G G_good Tryz.func78 rfl Tryz.ntmps78 rfl rfl ?_; with_reducible refine wD ?_
  (have fct := And.intro hlm (hp'); (repeat' (first
    | refine gF ?_
    | ((first
      | ((with_reducible show LtK _ _ _ _ _); refine LtK.mk k rfl hkl ?_)
      | ((with_reducible show ElemK _ _ _ _ _); refine ElemK.mk (eNode ⟨y1, y2, y3, y4, y5, y6, y7, y8, y9, y10⟩) (by first | exact node_get hy | (rw [Nat.zero_add]; exact node_get hy)) ?_)
      | ((with_reducible show CallK _ _ 60 _ _ _ _); refine CallK.lit [] h60 c60 ⟨rfl, rfl, trivial⟩ rfl rfl ?_)
      | ((with_reducible show DrawK _ _ _ _); refine dK ?_)) <;> with_reducible refine wK ?_)
    | ((with_reducible show (_ ∧ _) ∧ _ ∧ _); (refine eK ?_ ?_ <;> with_reducible repeat' (first | exact trivial | (show _ ∧ _; refine aK ?_ ?_)))))); all_goals clear fct)
  all_goals first
    | rfl
    | exact ⟨.refl rfl, rfl⟩
    | exact (.inl rfl : NilK _)
    | exact ⟨.refl (noRef_nodes _), noRef_nodes _⟩
    | trace_state
theorem remove_none (f : ForM) (hs : SmallN f.nodes) (hr : rightF f = true) (k : Nat) (y : NodeM) (hy : f.nodes[k]? = some y) (hp : y.parent = -1) : FnOK Tryz.prog 32 [] [eFor f, eInt k] [] (.tup [eFor f, eNs [], eInt 6]) := by
  have h77 := there_yes f hs k (by rw [hr, there_get hy]; rfl)
  have h56 := done_err f hs 78 c78 [.fptr (eInt k) 0] rfl outWd 6 (removeC_none f.nodes f.most hs k y hy hp)
  obtain ⟨l, m⟩ := f
  have hn := noRef_done ⟨l, m⟩ [] 6
  refine FnOK.startC (rvs := [.cell 4 24, .tmp 5, .tmp 6]) G G_good Tryz.func32 rfl Tryz.ntmps32 rfl rfl ?_; with_reducible refine wD ?_
  repeat' (first
    | refine gK ?_
    | ((first
      | ((with_reducible show CallK _ _ 77 _ _ _ _); refine CallK.lit [] h77 c77 ⟨⟨rfl, rfl, trivial⟩, rfl, trivial⟩ rfl rfl ?_)
      | ((with_reducible show CallK _ _ 56 _ _ _ _); refine CallK.val [30] h56 c56 ⟨⟨rfl, rfl, trivial⟩, ⟨rfl, rfl⟩, ⟨rfl, trivial, ⟨_, _, _, _, _, rfl, rfl, rfl, rfl, rfl, rfl⟩, trivial⟩, trivial⟩ rfl rfl hn ?_)
      | ((with_reducible show DrawK _ _ _ _); refine dK ?_)) <;> with_reducible refine wK ?_)
    | ((with_reducible show (_ ∧ _) ∧ _ ∧ _); (refine eK ?_ ?_ <;> with_reducible repeat' (first | exact trivial | (show _ ∧ _; refine aK ?_ ?_)))))
  all_goals first | rfl | trace_state
theorem p18 : FnOK Tryz.prog 18 [] [eFor pG2, eInt 1, eStr ⟨#[66]⟩, eStr ⟨#[49]⟩] [] (.tup [eFor pG3, eNs [⟨4, 1, 0, 0, ⟨#[98]⟩, false, true, ⟨#[]⟩, ⟨#[49]⟩⟩], eInt 0]) := by
  have h := f18_ok pG2 pG2_small 1 ⟨#[66]⟩ ⟨#[49]⟩ (by decide)
  rwa [show setM pG2 1 ⟨#[66]⟩ ⟨#[49]⟩ = (pG3, [⟨4, 1, 0, 0, ⟨#[98]⟩, false, true, ⟨#[]⟩, ⟨#[49]⟩⟩], 0) by kernel_rfl] at h
theorem pG4_small : SmallN pG4.nodes := ⟨by decide, by decide, by decide, by decide⟩
theorem p32n : FnOK Tryz.prog 32 [] [eFor pG4, eInt 1] [] (.tup [eFor pG4, eNs [], eInt 6]) :=
  remove_none pG4 pG4_small (by kernel_rfl) 1 ⟨1, ⟨#[112]⟩, ⟨#[]⟩, ⟨#[]⟩, [⟨⟨#[98]⟩, ⟨#[49]⟩⟩], -1, [], -1, -1, 0⟩ (by kernel_rfl) rfl
theorem cameN_self (y z : Operand) (w : World) : ((do eqGuard .eql 53 y z (.agg #[.int .i64 1, .int .i64 1, .int .i64 0, .int .i64 0, .string ⟨#[]⟩, .bool false, .bool false, .string ⟨#[]⟩, .string ⟨#[]⟩]) (.agg #[.int .i64 1, .int .i64 1, .int .i64 0, .int .i64 0, .string ⟨#[]⟩, .bool false, .bool false, .string ⟨#[]⟩, .string ⟨#[]⟩]); binOp .eql 53 (.agg #[.int .i64 1, .int .i64 1, .int .i64 0, .int .i64 0, .string ⟨#[]⟩, .bool false, .bool false, .string ⟨#[]⟩, .string ⟨#[]⟩]) (.agg #[.int .i64 1, .int .i64 1, .int .i64 0, .int .i64 0, .string ⟨#[]⟩, .bool false, .bool false, .string ⟨#[]⟩, .string ⟨#[]⟩]) : Sem Value)).run Tryz.prog w = .ok (.bool true) w := by
  kernel_rfl
theorem chgN_self (y z : Operand) (w : World) : ((do eqGuard .eql 53 y z (.agg #[.int .i64 4, .int .i64 1, .int .i64 0, .int .i64 0, .string ⟨#[98]⟩, .bool false, .bool true, .string ⟨#[]⟩, .string ⟨#[49]⟩]) (.agg #[.int .i64 4, .int .i64 1, .int .i64 0, .int .i64 0, .string ⟨#[98]⟩, .bool false, .bool true, .string ⟨#[]⟩, .string ⟨#[49]⟩]); binOp .eql 53 (.agg #[.int .i64 4, .int .i64 1, .int .i64 0, .int .i64 0, .string ⟨#[98]⟩, .bool false, .bool true, .string ⟨#[]⟩, .string ⟨#[49]⟩]) (.agg #[.int .i64 4, .int .i64 1, .int .i64 0, .int .i64 0, .string ⟨#[98]⟩, .bool false, .bool true, .string ⟨#[]⟩, .string ⟨#[49]⟩]) : Sem Value)).run Tryz.prog w = .ok (.bool true) w := by
  kernel_rfl
theorem f26_ok : FnOK Tryz.prog 26 [] [] [] (eBool true) := by
  have h69 := p69
  have h70 := p70
  have h29 := p29
  have h18 := p18
  have h32 := p32
  have h32n := p32n
  generalize hg0 : pG0 = g0 at *
  generalize hg1 : pG1 = g1 at *
  generalize hg2 : pG2 = g2 at *
  generalize hg3 : pG3 = g3 at *
  generalize hg4 : pG4 = g4 at *
  obtain ⟨l0, m0⟩ := g0
  obtain ⟨l1, m1⟩ := g1
  obtain ⟨l2, m2⟩ := g2
  obtain ⟨l3, m3⟩ := g3
  obtain ⟨l4, m4⟩ := g4
  refine FnOK.startC (rvs := [.tmp 0]) G G_good Tryz.func26 rfl Tryz.ntmps26 rfl rfl ?_; with_reducible refine wD ?_
  repeat' (first
    | refine gK ?_
    | ((first
      | ((with_reducible show CallK _ _ 69 _ _ _ _); refine CallK.val [] h69 c69 ⟨rfl, trivial⟩ rfl rfl rfl ?_)
      | ((with_reducible show CallK _ _ 70 _ _ _ _); refine CallK.val [] h70 c70 ⟨⟨rfl, rfl, trivial⟩, ⟨rfl, rfl, rfl, rfl, .inl rfl, rfl, .inl rfl, rfl, rfl, rfl, trivial⟩, trivial⟩ rfl rfl rfl ?_)
      | ((with_reducible show CallK _ _ 29 _ _ _ _); refine CallK.val [] h29 c29 ⟨⟨rfl, rfl, trivial⟩, rfl, rfl, rfl, trivial⟩ rfl rfl rfl ?_)
      | ((with_reducible show CallK _ _ 18 _ _ _ _); refine CallK.val [] h18 c18 ⟨⟨rfl, rfl, trivial⟩, rfl, rfl, rfl, trivial⟩ rfl rfl rfl ?_)
      | ((with_reducible show CallK _ _ 32 _ _ _ _); first | (refine CallK.val [] h32 c32 ⟨⟨rfl, rfl, trivial⟩, rfl, trivial⟩ rfl rfl rfl ?_) | (refine CallK.val [] h32n c32 ⟨⟨rfl, rfl, trivial⟩, rfl, trivial⟩ rfl rfl rfl ?_))
      | ((with_reducible show IdxK _ _ _ _ _); first | refine IdxK.mk 0 (eNote ⟨1, 1, 0, 0, ⟨#[]⟩, false, false, ⟨#[]⟩, ⟨#[]⟩⟩) rfl rfl ?_ | refine IdxK.mk 0 (eNote ⟨2, 1, 0, 0, ⟨#[]⟩, false, false, ⟨#[]⟩, ⟨#[]⟩⟩) rfl rfl ?_ | refine IdxK.mk 0 (eNote ⟨4, 1, 0, 0, ⟨#[98]⟩, false, true, ⟨#[]⟩, ⟨#[49]⟩⟩) rfl rfl ?_)
      | ((with_reducible show EqK _ _ _ _ _ _ _ _); first | refine EqK.mk _ (fun y z w => cameN_self y z w) ?_ | refine EqK.mk _ (fun y z w => chgN_self y z w) ?_)
      | ((with_reducible show DrawK _ _ _ _); refine dK ?_)) <;> with_reducible refine wK ?_)
    | ((with_reducible show (_ ∧ _) ∧ _ ∧ _); (refine eK ?_ ?_ <;> with_reducible repeat' (first | exact trivial | (show _ ∧ _; refine aK ?_ ?_)))))
  all_goals first | rfl | trace_state
end Go.Proofs.Heir
namespace Go.Proofs.Heir
open Go Go.Am Go.RowKit Go.Lib
theorem f9_ok (f : ForM) (n : Int) (s v : ByteArray) (c : Int) : FnOK Tryz.prog 9 [] [eFor f, eInt n, eStr s, eStr v, eInt c] [] (eBool true) := f9_of f26_ok f n s v c
end Go.Proofs.Heir
namespace Go.Proofs.Heir
open Go Go.Am Go.RowKit Go.Lib
set_option maxRecDepth 100000
set_option maxHeartbeats 8000000
theorem rStr : Reads Tryz.prog 9 1 eStr (fun s => s.size ≤ maxLen) := Reads.str Tryz.underlying9 (by kernel_rfl)
theorem rInt : Reads Tryz.prog 3 1 oInt (fun _ => True) := (Reads.int Tryz.underlying3 (by kernel_rfl)).conv id id (fun _ => rfl) (fun _ => rfl) (fun _ _ => trivial)
theorem rAttr : Reads Tryz.prog 90 2 oAttr (fun _ => True) :=
 (Reads.struct (l := [(0, 9), (1, 9)]) Tryz.underlying90 (by kernel_rfl) rfl (.cons rStr (.cons rStr .nil))).conv
  (fun (a, b, _) => ⟨a, b⟩) (fun t => (t.name, t.value, ())) (fun _ => rfl) (fun _ => rfl) (fun _ _ => trivial)
theorem rAttrs1 : Reads Tryz.prog 32 1 eAttrs (fun _ => True) := (Reads.slice Tryz.underlying32 (by kernel_rfl) rAttr (by omega)).conv id id (fun _ => rfl) (fun _ => rfl) (fun _ _ => trivial)
theorem rInts1 : Reads Tryz.prog 33 1 eInts (fun _ => True) := (Reads.slice Tryz.underlying33 (by kernel_rfl) rInt (by omega)).conv id id (fun _ => rfl) (fun _ => rfl) (fun _ _ => trivial)
theorem rNode : Reads Tryz.prog 35 10 oNode (fun _ => True) :=
 (Reads.struct (l := [(0, 3), (1, 9), (2, 9), (3, 9), (4, 32), (5, 3), (6, 33), (7, 3), (8, 3), (9, 3)]) Tryz.underlying35 (by kernel_rfl) rfl
  (.cons rInt (.cons rStr (.cons rStr (.cons rStr (.cons rAttrs1 (.cons rInt (.cons rInts1 (.cons rInt (.cons rInt (.cons rInt .nil))))))))))).conv
  (fun (a, b, c, d, e, f, g, h, i, j, _) => ⟨a, b, c, d, e, f, g, h, i, j⟩)
  (fun t => (t.kind, t.name, t.is, t.data, t.attrs, t.parent, t.kids, t.host, t.under, t.doc, ())) (fun _ => rfl) (fun _ => rfl) (fun _ _ => trivial)
theorem rNodes1 : Reads Tryz.prog 22 1 eNodes (fun _ => True) := (Reads.slice Tryz.underlying22 (by kernel_rfl) rNode (by omega)).conv id id (fun _ => rfl) (fun _ => rfl) (fun _ _ => trivial)
theorem rFor : Reads Tryz.prog 24 2 eFor (fun _ => True) :=
 (Reads.struct (l := [(0, 22), (1, 3)]) Tryz.underlying24 (by kernel_rfl) rfl (.cons rNodes1 (.cons rInt .nil))).conv
  (fun (a, b, _) => ⟨a, b⟩) (fun t => (t.nodes, t.most, ())) (fun _ => rfl) (fun _ => rfl) (fun _ _ => trivial)
theorem laid : Go.laidOutB Tryz.prog = true := by kernel_rfl
abbrev laidRows : List (String × DataW Unit) := [("errors.errorType", Go.Proofs.YtkhjcnjicjgfiaaGreatDoor.Rows.laid_errors_errorType)]
theorem door_met (os : Os) (args : Array Value) : laidMetH Tryz.prog laidRows ((World.doorLaid Tryz.prog 33 os).forCall (fun _ _ => 0) ⟨#[], args, []⟩).memory :=
 laidMetH_of_parts3 (fuel := 8) (laidMet_of_run' 8 (by kernel_rfl) (by kernel_rfl)) (by kernel_rfl) (by kernel_rfl)
theorem tabs_of_laid {W : World} (h : laidMetH Tryz.prog laidRows W) : Tabs Tryz.prog W fun _ => none := by
 refine ⟨fun g hg => (by rw [show Tryz.prog.globalNamed "no such variable" = none by kernel_rfl] at hg; cases hg), fun g hg => ?_⟩
 have h' : handlesMet Tryz.prog laidRows W := h.2
 have h0 := h' _ (List.mem_singleton.2 rfl)
 have h1 : ∃ name u ty, (DataW.handleName? (Go.Proofs.YtkhjcnjicjgfiaaGreatDoor.Rows.laid_errors_errorType : DataW Unit)) = some name ∧ (Tryz.prog.cutTypes.find? (·.1 == "internal/reflectlite.rtype")).map (·.2) = some u ∧ ty < Tryz.prog.types.size ∧ Tryz.prog.rowNamed ty name = true ∧
   W.var? Tryz.prog "errors.errorType" = some #[.iface u (.agg #[typeHandle Tryz.prog ty])] := h0
 obtain ⟨name, u, ty, k1, k2, k3, k4, k5⟩ := h1
 obtain rfl : [101, 114, 114, 111, 114] = name := Option.some.inj k1
 have e : g = 0 := Option.some.inj (hg.symm.trans (by kernel_rfl))
 subst e
 unfold World.var? at k5
 rw [hg] at k5
 simp only [Option.bind_some] at k5
 refine ⟨(by rintro ⟨_, _, h, _⟩; cases h), ?_, _, ⟨u, ty, k2, k3, k4, rfl⟩, ?_⟩
 · split at k5
   · rename_i hh; exact (Array.getElem?_eq_some_iff.1 hh).1
   · cases k5
 · split at k5
   · rename_i cs _ _ hh
     obtain rfl : cs = _ := Option.some.inj k5
     simp [World.cell?, hh]
   · cases k5
end Go.Proofs.Heir
