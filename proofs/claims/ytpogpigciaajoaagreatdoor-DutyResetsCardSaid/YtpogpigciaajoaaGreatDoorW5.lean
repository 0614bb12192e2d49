/- Models, plain laws and contracts of functions of the given program; conditions as stated in each theorem. By an AI agent. -/
import Derived.Test.YtpogpigciaajoaaGreatDoorW4
import Derived.Test.YtpogpigciaajoaaGreatDoorW3
import Derived.Test.YtpogpigciaajoaaGreatDoorW2
import Derived.Laws.Runes
import Derived.Shelf.Strings.Builder1
import Derived.Test.YtpogpigciaajoaaGreatDoorChecked
import Derived.Tactics
import Derived.Test.YtpogpigciaajoaaGreatDoorW1
import Derived.Test.YtpogpigciaajoaaGreatDoorRows
import Derived.ProofKit
import Derived.LaidMore
import Derived.OpenShut
import Derived.Stop.Joined
import Derived.Lib.LaidTab
import Derived.MakeChecks
set_option linter.unusedSimpArgs false
set_option linter.unusedVariables false
section
set_option linter.unusedSimpArgs false
set_option linter.unusedVariables false
namespace Go.Proofs.Heir
open Go Go.Am Go.RowKit Go.Lib
set_option maxRecDepth 100000
set_option maxHeartbeats 8000000
theorem f78_own (f : ForM) (hs : SmallN f.nodes) (n : Int) (e0 : (rightF f && thereN f.nodes n) = true) : FnOK Tryz.prog 78 [] [eFor f, eInt n] [rInts (ordN f.nodes f.nodes.length n)] (.own 0 0 (ordN f.nodes f.nodes.length n).length) := by
 have h76 := f76_ok f hs [n] (by simp)
 rw [asked_one] at h76
 obtain ⟨l, m⟩ := f
 simp only at h76 e0 ⊢
 have hlm : (l.map oNode).length = l.length := List.length_map ..
 refine FnOK.startC (rvs := [.tmp 4]) G G_good Tryz.func78 rfl Tryz.ntmps78 rfl rfl ?_; delta List.toArray; (with_reducible ((conv => whnf); (conv => congr <;> reduce); repeat ((first | refine hK ?_ | refine sK ?_); (conv => whnf); (conv => congr <;> reduce))))
 rw [e0] at h76
 refine CallK.lit [131] h76 c76 ⟨⟨rfl, rfl, trivial⟩, frz_ints (l := [n]) rfl rfl rfl rfl, trivial⟩ rfl rfl ?_; (with_reducible ((conv => whnf); (conv => congr <;> reduce); repeat ((first | refine hK ?_ | refine sK ?_); (conv => whnf); (conv => congr <;> reduce))))
 obtain ⟨hr, hn⟩ : rightF ⟨l, m⟩ = true ∧ thereN l n = true := by simpa using e0
 have T := tree_of hr
 have hol := ord_len T l.length hn
 simp only at T hol
 repeat' (first
  | (first
  | ((with_reducible show IfK _ _ _ _); first | refine IfK.ff ?_ | refine IfK.tt ?_ | refine IfK.no (by first | exact qA | ((try simp only [castN]); first | (simp []; done) | (simp []; omega))) ?_ | refine IfK.yes (by first | exact qA | ((try simp only [castN]); first | (simp []; done) | (simp []; omega))) ?_)
  | ((with_reducible show NeedK _ _ _ _); refine nK ?_)
  | ((with_reducible show DrawK _ _ _ _); refine dK ?_)) <;> (with_reducible ((conv => whnf); (conv => congr <;> reduce); repeat ((first | refine hK ?_ | refine sK ?_); (conv => whnf); (conv => congr <;> reduce))))
  | ((with_reducible show (_ ∧ _) ∧ _ ∧ _); refine ⟨⟨rfl, rfl⟩, ?_, ?_⟩ <;> with_reducible ((conv => whnf) <;> repeat' (first | exact trivial | (refine And.intro ?_ ?_ <;> (conv => whnf))))))
 refine LoopK.ghost 5 51 1 rfl rfl ?_
 refine LoopK.use G G_good (fun (i : List Int × List Int × List Int) => [(2, .ptr 20 0 0), (5, .own 51 0 i.1.length), (6, .ptr 60 0 0)])
  (fun i => [(20, .live 2 [eFor ⟨l, m⟩] false), (51, rInts i.1), (60, .live 1 [.own 171 0 i.2.1.length] false), (171, rInts (i.2.1 ++ i.2.2))])
  (fun i => ordN l l.length n = i.1 ++ V.rest l i.2.1 ∧ ∀ c ∈ i.2.1, thereN l c = true) (fun i => l.length - i.1.length) ([], [n], []) ⟨by simp [V.rest], fun c hc => by rw [List.mem_singleton] at hc; subst hc; exact hn⟩
  (by refine ⟨⟨rfl, rfl⟩, ⟨⟨rfl, rfl⟩, ⟨rfl, rfl⟩, ⟨rfl, rfl⟩, trivial⟩, ⟨⟨rfl, rfl, trivial⟩, trivial⟩, ⟨.refl rfl, noRef_ints _⟩, ⟨⟨rfl, rfl⟩, trivial⟩, ⟨.refl rfl, noRef_ints _⟩, trivial⟩) ?_
 rintro ⟨out, st, sp⟩ ⟨ho, hst⟩
 simp only at ho hst
 (with_reducible ((conv => whnf); (conv => congr <;> reduce); repeat ((first | refine hK ?_ | refine sK ?_); (conv => whnf); (conv => congr <;> reduce))))
 have hoL := congrArg List.length ho
 rw [List.length_append] at hoL
 have hol' : out.length = (out.map oInt).length := (List.length_map ..).symm
 have hrl := V.rest_len T hst
 have hl60 := hs.len
 simp only at hl60
 obtain h | ⟨st', t, h⟩ := List.eq_nil_or_concat st <;> (try rw [List.concat_eq_append] at h) <;> subst h
 ·repeat' (first
  | (first
  | ((with_reducible show IfK _ _ _ _); first | refine IfK.ff ?_ | refine IfK.tt ?_ | refine IfK.no (by first | exact qA | ((try simp only [castN]); first | (simp []; done) | (simp []; omega))) ?_ | refine IfK.yes (by first | exact qA | ((try simp only [castN]); first | (simp []; done) | (simp []; omega))) ?_)
  | ((with_reducible show NeedK _ _ _ _); refine nK ?_)
  | ((with_reducible show DrawK _ _ _ _); refine dK ?_)) <;> (with_reducible ((conv => whnf); (conv => congr <;> reduce); repeat ((first | refine hK ?_ | refine sK ?_); (conv => whnf); (conv => congr <;> reduce))))
  | ((with_reducible show (_ ∧ _) ∧ _ ∧ _); refine ⟨⟨rfl, rfl⟩, ?_, ?_⟩ <;> with_reducible ((conv => whnf) <;> repeat' (first | exact trivial | (refine And.intro ?_ ?_ <;> (conv => whnf))))))
  all_goals have ho' : ordN l l.length n = out := by rw [ho]; simp [V.rest]
  all_goals clear ho hoL
  all_goals subst ho'
  all_goals first
   | rfl
   | exact MFL_refl (noRef_ints _)
 ·have ht := hst t (by simp)
  have hlen : (st' ++ [t]).length = st'.length + 1 := by simp
  obtain ⟨k, x, rfl, hx, hnx⟩ := there_iff.1 ht
  rw [hlen]
  rw [hlen] at hrl
  repeat' (first
  | (first
  | ((with_reducible show IfK _ _ _ _); first | refine IfK.ff ?_ | refine IfK.tt ?_ | refine IfK.no (by first | exact qA | ((try simp only [castN]); first | (simp []; done) | (simp []; omega))) ?_ | refine IfK.yes (by first | exact qA | ((try simp only [castN]); first | (simp []; done) | (simp []; omega))) ?_)
  | ((with_reducible show NeedK _ _ _ _); refine nK ?_)
  | ((with_reducible show DrawK _ _ _ _); refine dK ?_)) <;> (with_reducible ((conv => whnf); (conv => congr <;> reduce); repeat ((first | refine hK ?_ | refine sK ?_); (conv => whnf); (conv => congr <;> reduce))))
  | ((with_reducible show (_ ∧ _) ∧ _ ∧ _); refine ⟨⟨rfl, rfl⟩, ?_, ?_⟩ <;> with_reducible ((conv => whnf) <;> repeat' (first | exact trivial | (refine And.intro ?_ ?_ <;> (conv => whnf))))))
  refine LtK.mk st'.length (by (try simp only [castN]); omega) (by omega) ?_; (with_reducible ((conv => whnf); (conv => congr <;> reduce); repeat ((first | refine hK ?_ | refine sK ?_); (conv => whnf); (conv => congr <;> reduce))))
  refine ElemK.mk (eInt (k : Int)) (by rw [Nat.zero_add, List.getElem?_map, List.append_assoc, List.getElem?_append_right (Nat.le_refl _), Nat.sub_self]; rfl) ?_; (with_reducible ((conv => whnf); (conv => congr <;> reduce); repeat ((first | refine hK ?_ | refine sK ?_); (conv => whnf); (conv => congr <;> reduce))))
  repeat' (first
  | (first
  | ((with_reducible show IfK _ _ _ _); first | refine IfK.ff ?_ | refine IfK.tt ?_ | refine IfK.no (by first | exact qA | ((try simp only [castN]); first | (simp []; done) | (simp []; omega))) ?_ | refine IfK.yes (by first | exact qA | ((try simp only [castN]); first | (simp []; done) | (simp []; omega))) ?_)
  | ((with_reducible show NeedK _ _ _ _); refine nK ?_)
  | ((with_reducible show DrawK _ _ _ _); refine dK ?_)) <;> (with_reducible ((conv => whnf); (conv => congr <;> reduce); repeat ((first | refine hK ?_ | refine sK ?_); (conv => whnf); (conv => congr <;> reduce))))
  | ((with_reducible show (_ ∧ _) ∧ _ ∧ _); refine ⟨⟨rfl, rfl⟩, ?_, ?_⟩ <;> with_reducible ((conv => whnf) <;> repeat' (first | exact trivial | (refine And.intro ?_ ?_ <;> (conv => whnf))))))
  refine CutK.mk 0 st'.length rfl (by (try simp only [castN]); omega) (by omega) ?_; (with_reducible ((conv => whnf); (conv => congr <;> reduce); repeat ((first | refine hK ?_ | refine sK ?_); (conv => whnf); (conv => congr <;> reduce))))
  repeat' (first
  | (first
  | ((with_reducible show IfK _ _ _ _); first | refine IfK.ff ?_ | refine IfK.tt ?_ | refine IfK.no (by first | exact qA | ((try simp only [castN]); first | (simp []; done) | (simp []; omega))) ?_ | refine IfK.yes (by first | exact qA | ((try simp only [castN]); first | (simp []; done) | (simp []; omega))) ?_)
  | ((with_reducible show NeedK _ _ _ _); refine nK ?_)
  | ((with_reducible show DrawK _ _ _ _); refine dK ?_)) <;> (with_reducible ((conv => whnf); (conv => congr <;> reduce); repeat ((first | refine hK ?_ | refine sK ?_); (conv => whnf); (conv => congr <;> reduce))))
  | ((with_reducible show (_ ∧ _) ∧ _ ∧ _); refine ⟨⟨rfl, rfl⟩, ?_, ?_⟩ <;> with_reducible ((conv => whnf) <;> repeat' (first | exact trivial | (refine And.intro ?_ ?_ <;> (conv => whnf))))))
  refine AppK.mk (out.map oInt) [eInt (k : Int)] ⟨rfl, hol', rfl⟩ ⟨rfl, rfl, rfl⟩ rfl (by simp; omega) (by simp; omega) ?_; (with_reducible ((conv => whnf); (conv => congr <;> reduce); repeat ((first | refine hK ?_ | refine sK ?_); (conv => whnf); (conv => congr <;> reduce))))
  repeat' (first
  | (first
  | ((with_reducible show IfK _ _ _ _); first | refine IfK.ff ?_ | refine IfK.tt ?_ | refine IfK.no (by first | exact qA | ((try simp only [castN]); first | (simp []; done) | (simp []; omega))) ?_ | refine IfK.yes (by first | exact qA | ((try simp only [castN]); first | (simp []; done) | (simp []; omega))) ?_)
  | ((with_reducible show NeedK _ _ _ _); refine nK ?_)
  | ((with_reducible show DrawK _ _ _ _); refine dK ?_)) <;> (with_reducible ((conv => whnf); (conv => congr <;> reduce); repeat ((first | refine hK ?_ | refine sK ?_); (conv => whnf); (conv => congr <;> reduce))))
  | ((with_reducible show (_ ∧ _) ∧ _ ∧ _); refine ⟨⟨rfl, rfl⟩, ?_, ?_⟩ <;> with_reducible ((conv => whnf) <;> repeat' (first | exact trivial | (refine And.intro ?_ ?_ <;> (conv => whnf))))))
  obtain ⟨a1, a2, a3, a4, a5, a6, a7, a8, a9, a10⟩ := x
  refine IdxK.mk k (eNode _) rfl (node_get hx) ?_; (with_reducible ((conv => whnf); (conv => congr <;> reduce); repeat ((first | refine hK ?_ | refine sK ?_); (conv => whnf); (conv => congr <;> reduce))))
  repeat' (first
  | (first
  | ((with_reducible show IfK _ _ _ _); first | refine IfK.ff ?_ | refine IfK.tt ?_ | refine IfK.no (by first | exact qA | ((try simp only [castN]); first | (simp []; done) | (simp []; omega))) ?_ | refine IfK.yes (by first | exact qA | ((try simp only [castN]); first | (simp []; done) | (simp []; omega))) ?_)
  | ((with_reducible show NeedK _ _ _ _); refine nK ?_)
  | ((with_reducible show DrawK _ _ _ _); refine dK ?_)) <;> (with_reducible ((conv => whnf); (conv => congr <;> reduce); repeat ((first | refine hK ?_ | refine sK ?_); (conv => whnf); (conv => congr <;> reduce))))
  | ((with_reducible show (_ ∧ _) ∧ _ ∧ _); refine ⟨⟨rfl, rfl⟩, ?_, ?_⟩ <;> with_reducible ((conv => whnf) <;> repeat' (first | exact trivial | (refine And.intro ?_ ?_ <;> (conv => whnf))))))
  refine cV (f123_ok a7) c123 ?_; (with_reducible ((conv => whnf); (conv => congr <;> reduce); repeat ((first | refine hK ?_ | refine sK ?_); (conv => whnf); (conv => congr <;> reduce))))
  repeat' (first
  | (first
  | ((with_reducible show IfK _ _ _ _); first | refine IfK.ff ?_ | refine IfK.tt ?_ | refine IfK.no (by first | exact qA | ((try simp only [castN]); first | (simp []; done) | (simp []; omega))) ?_ | refine IfK.yes (by first | exact qA | ((try simp only [castN]); first | (simp []; done) | (simp []; omega))) ?_)
  | ((with_reducible show NeedK _ _ _ _); refine nK ?_)
  | ((with_reducible show DrawK _ _ _ _); refine dK ?_)) <;> (with_reducible ((conv => whnf); (conv => congr <;> reduce); repeat ((first | refine hK ?_ | refine sK ?_); (conv => whnf); (conv => congr <;> reduce))))
  | ((with_reducible show (_ ∧ _) ∧ _ ∧ _); refine ⟨⟨rfl, rfl⟩, ?_, ?_⟩ <;> with_reducible ((conv => whnf) <;> repeat' (first | exact trivial | (refine And.intro ?_ ?_ <;> (conv => whnf))))))
  obtain ⟨spF, hs0, hs1⟩ : ∃ spF : Nat → List Int, spF 0 = (k : Int) :: sp ∧ ∀ j, spF (j + 1) = [] := ⟨fun j => match j with | 0 => (k : Int) :: sp | _ + 1 => [], rfl, fun _ => rfl⟩
  have hk7 := hs.kids _ (List.mem_of_getElem? hx)
  simp only at hk7
  refine LoopK.range G G_good 3 [(2, .ptr 1 0 0), (5, .own 2 0 (out.length + 1)), (6, .ptr 0 0 0), (41, .clo (.func 155) [] [.fptr (eInts a7) 0])]
   (fun j => [(0, .live 1 [.own 171 0 (st'.length + j)] false), (1, .live 2 [eFor ⟨l, m⟩] false), (2, rInts (out ++ [(k : Int)])), (171, rInts (st' ++ a7.reverse.take j ++ spF j))])
   (back_it a7 (by omega)) c155 ?_ rfl ⟨⟨rfl, rfl⟩, rfl⟩ (fun _ _ => rfl) (fun _ _ => rfl) ⟨⟨rfl, rfl⟩, rfl, rfl⟩ ?_ ?_
  ·refine ⟨⟨rfl, rfl⟩, ?_⟩
   (with_reducible conv => whnf)
   repeat' (first | (with_reducible exact trivial) | (with_reducible refine And.intro ?_ ?_ <;> with_reducible conv => whnf))
   all_goals try rfl
   ·simp
   ·exact ⟨.refl rfl, rfl⟩
   ·refine ⟨?_, noRef_ints _⟩
    rw [← show (out ++ [(k : Int)]).map oInt = out.map oInt ++ [AV.lit (.int .i64 k)] by simp; rfl]
    exact .refl (noRef_ints _)
   ·refine ⟨?_, noRef_ints _⟩
    rw [hs0, List.take_zero, List.append_nil, show st' ++ [(k : Int)] ++ sp = st' ++ (k : Int) :: sp by simp]; exact .refl (noRef_ints _)
  ·intro j hj
   (with_reducible ((conv => whnf); (conv => congr <;> reduce); repeat ((first | refine hK ?_ | refine sK ?_); (conv => whnf); (conv => congr <;> reduce))))
   refine BodyK.mk rfl ?_; (with_reducible ((conv => whnf); (conv => congr <;> reduce); repeat ((first | refine hK ?_ | refine sK ?_); (conv => whnf); (conv => congr <;> reduce))))
   repeat' (first
  | (first
  | ((with_reducible show IfK _ _ _ _); first | refine IfK.ff ?_ | refine IfK.tt ?_ | refine IfK.no (by first | exact qA | ((try simp only [castN]); first | (simp []; done) | (simp []; omega))) ?_ | refine IfK.yes (by first | exact qA | ((try simp only [castN]); first | (simp []; done) | (simp []; omega))) ?_)
  | ((with_reducible show NeedK _ _ _ _); refine nK ?_)
  | ((with_reducible show DrawK _ _ _ _); refine dK ?_)) <;> (with_reducible ((conv => whnf); (conv => congr <;> reduce); repeat ((first | refine hK ?_ | refine sK ?_); (conv => whnf); (conv => congr <;> reduce))))
  | ((with_reducible show (_ ∧ _) ∧ _ ∧ _); refine ⟨⟨rfl, rfl⟩, ?_, ?_⟩ <;> with_reducible ((conv => whnf) <;> repeat' (first | exact trivial | (refine And.intro ?_ ?_ <;> (conv => whnf))))))
   refine AppK.take ((st' ++ a7.reverse.take j).map oInt) [oInt ((a7.reverse[j]?).getD 0)] ⟨rfl, by simp; omega, by rw [List.map_append (l₂ := spF j), List.take_left' (by simp; omega)]⟩ ⟨rfl, rfl, rfl⟩ rfl (by simp; omega) (by simp; omega) ?_
   (with_reducible ((conv => whnf); (conv => congr <;> reduce); repeat ((first | refine hK ?_ | refine sK ?_); (conv => whnf); (conv => congr <;> reduce))))
   repeat' (first
  | (first
  | ((with_reducible show IfK _ _ _ _); first | refine IfK.ff ?_ | refine IfK.tt ?_ | refine IfK.no (by first | exact qA | ((try simp only [castN]); first | (simp []; done) | (simp []; omega))) ?_ | refine IfK.yes (by first | exact qA | ((try simp only [castN]); first | (simp []; done) | (simp []; omega))) ?_)
  | ((with_reducible show NeedK _ _ _ _); refine nK ?_)
  | ((with_reducible show DrawK _ _ _ _); refine dK ?_)) <;> (with_reducible ((conv => whnf); (conv => congr <;> reduce); repeat ((first | refine hK ?_ | refine sK ?_); (conv => whnf); (conv => congr <;> reduce))))
  | ((with_reducible show (_ ∧ _) ∧ _ ∧ _); refine ⟨⟨rfl, rfl⟩, ?_, ?_⟩ <;> with_reducible ((conv => whnf) <;> repeat' (first | exact trivial | (refine And.intro ?_ ?_ <;> (conv => whnf))))))
   refine TurnK.mk ?_
   obtain ⟨c, hc⟩ : ∃ c, a7.reverse[j]? = some c := ⟨_, List.getElem?_eq_getElem (by simpa using hj)⟩
   have htk : a7.reverse.take (j + 1) = a7.reverse.take j ++ [c] := by rw [List.take_add_one, hc]; rfl
   rw [hc, Option.getD_some]
   refine ⟨⟨rfl, rfl⟩, ?_⟩
   (with_reducible conv => whnf)
   repeat' (first | (with_reducible exact trivial) | (with_reducible refine And.intro ?_ ?_ <;> with_reducible conv => whnf))
   all_goals try rfl
   ·simp; omega
   ·exact ⟨.refl rfl, rfl⟩
   ·exact ⟨.refl (noRef_ints _), noRef_ints _⟩
   ·refine ⟨?_, noRef_ints _⟩
    rw [hs1, htk, List.append_nil, ← List.append_assoc, List.map_append (l₂ := [c])]; exact .refl (by rw [← List.map_append]; exact noRef_ints _)
  ·(with_reducible ((conv => whnf); (conv => congr <;> reduce); repeat ((first | refine hK ?_ | refine sK ?_); (conv => whnf); (conv => congr <;> reduce))))
   have hT : nd l k = ⟨a1, a2, a3, a4, a5, a6, a7, a8, a9, a10⟩ := hnx
   have hch : (nd l k).kids = a7 := by rw [hT]
   have hpop := V.rest_pop T (st := st') ht
   rw [hch] at hpop
   have hkid : ∀ c ∈ a7, thereN l c = true := fun c hc => (T.kid k ht c (by rw [hch]; exact hc)).1
   have hta : a7.reverse.take a7.length = a7.reverse := List.take_of_length_le (by simp)
   refine NextK.mk (out ++ [(k : Int)], st' ++ a7.reverse, spF a7.length) ⟨?_, ?_⟩ ?_ ?_
   ·rw [ho, hpop]; simp
   ·intro c hc
    rcases List.mem_append.1 hc with h | h
    ·exact hst c (by simp [h])
    ·exact hkid c (by simpa using h)
   ·simp only [List.length_append, List.length_singleton]; omega
   ·refine ⟨⟨rfl, rfl⟩, ?_⟩
    (with_reducible conv => whnf)
    repeat' (first | (with_reducible exact trivial) | (with_reducible refine And.intro ?_ ?_ <;> with_reducible conv => whnf))
    all_goals try rfl
    ·simp
    ·exact ⟨.refl (noRef_ints _), noRef_ints _⟩
    ·simp
    ·refine ⟨?_, noRef_ints _⟩
     rw [hta]; exact .refl (noRef_ints _)
theorem wide_ints (l : List Int) : wideM [(0, rInts l)] = true := by
 have : wideB 1 (l.map oInt) = true := List.all_eq_true.2 fun x hx => by
  obtain ⟨n, _, rfl⟩ := List.mem_map.1 hx; rfl
 show (wideB 1 (l.map oInt) && true) = true
 rw [this]; rfl
theorem f78_ok (f : ForM) (hs : SmallN f.nodes) (n : Int) : FnOK Tryz.prog 78 [] [eFor f, eInt n] [] (eInts (ordF f n)) := by
 cases e0 : (rightF f && thereN f.nodes n) with
 | true =>
   unfold ordF
   rw [if_pos e0]
   refine FnOK.frozen [(0, rInts (ordN f.nodes f.nodes.length n))] ?_ (wide_ints _) (f78_own f hs n e0) (frz_ints rfl rfl rfl rfl)
   funext t
   match t with
   | 0 => rfl
   | n + 1 => rfl
 | false =>
   have h76 := f76_ok f hs [n] (by simp)
   rw [asked_one, e0] at h76
   unfold ordF
   rw [e0]
   obtain ⟨l, m⟩ := f
   refine FnOK.startC (rvs := [.tmp 4]) G G_good Tryz.func78 rfl Tryz.ntmps78 rfl rfl ?_; delta List.toArray; (with_reducible ((conv => whnf); (conv => congr <;> reduce); repeat ((first | refine hK ?_ | refine sK ?_); (conv => whnf); (conv => congr <;> reduce))))
   refine CallK.lit [131] h76 c76 ⟨⟨rfl, rfl, trivial⟩, frz_ints (l := [n]) rfl rfl rfl rfl, trivial⟩ rfl rfl ?_; (with_reducible ((conv => whnf); (conv => congr <;> reduce); repeat ((first | refine hK ?_ | refine sK ?_); (conv => whnf); (conv => congr <;> reduce))))
   repeat' (first
  | (first
  | ((with_reducible show IfK _ _ _ _); first | refine IfK.ff ?_ | refine IfK.tt ?_ | refine IfK.no (by first | exact qA | ((try simp only [castN]); first | (simp []; done) | (simp []; omega))) ?_ | refine IfK.yes (by first | exact qA | ((try simp only [castN]); first | (simp []; done) | (simp []; omega))) ?_)
  | ((with_reducible show NeedK _ _ _ _); refine nK ?_)
  | ((with_reducible show DrawK _ _ _ _); refine dK ?_)) <;> (with_reducible ((conv => whnf); (conv => congr <;> reduce); repeat ((first | refine hK ?_ | refine sK ?_); (conv => whnf); (conv => congr <;> reduce))))
  | ((with_reducible show (_ ∧ _) ∧ _ ∧ _); refine ⟨⟨rfl, rfl⟩, ?_, ?_⟩ <;> with_reducible ((conv => whnf) <;> repeat' (first | exact trivial | (refine And.intro ?_ ?_ <;> (conv => whnf))))))
   all_goals exact .inr (.inr ⟨1, rfl⟩)
@[reducible] def eIds (t : List (ByteArray × Int)) : AV := .fmap (tRows Value.string oInt t)
def oIds (t : List (ByteArray × Int)) : AV := eIds t
@[reducible] def idRows (c : List (Int × List (ByteArray × Int))) : List AV := tRows vInt oIds c
@[reducible] def idsM (c : List (Int × List (ByteArray × Int))) : MS := .live 2 (idRows c) false
theorem mt114 : MapTy Tryz.prog 114 (.int .i64) (.map none) := ⟨3, 134, by kernel_rfl, by kernel_rfl, fun w => Tryz.zeroValue134 w⟩
theorem noRef_tRows {K α : Type} (kv : K → Value) (e : α → AV) (h : ∀ a, noRef (e a) = true) (l : List (K × α)) : noRefL (tRows kv e l) = true := by
 rw [noRefL_iff]; intro x hx
 obtain ⟨p, _, rfl⟩ := List.mem_map.1 hx
 simp [entry, noRef, noRefL, h]
theorem noRef_ids (c : List (Int × List (ByteArray × Int))) : noRefL (idRows c) = true := noRef_tRows _ _ (fun _ => rfl) c
theorem noRef_idT (t : List (ByteArray × Int)) : noRefL (tRows Value.string oInt t) = true := noRef_tRows _ _ (fun _ => rfl) t
structure IdsOK (l : List NodeM) (c : List (Int × List (ByteArray × Int))) : Prop where
 is : ∀ r t, tget r c = some t → t = idTab l r
 len : c.length ≤ 1000
def keepT (l : List NodeM) (c : List (Int × List (ByteArray × Int))) (r : Int) : List (Int × List (ByteArray × Int)) := match tget r c with
 | some _ => c
 | none => c ++ [(r, idTab l r)]
def stepC (l : List NodeM) (c : List (Int × List (ByteArray × Int))) (n : Int) : List (Int × List (ByteArray × Int)) :=
 if (nd l n).kind = 1 then
  match attV (nd l n) formW with
  | some _ => if conN l n = true then keepT l c (rootN l n) else c
  | none => c
 else c
theorem keepT_is {l : List NodeM} {c : List (Int × List (ByteArray × Int))} (h : ∀ r t, tget r c = some t → t = idTab l r) (r : Int) : ∀ q t, tget q (keepT l c r) = some t → t = idTab l q := by
 intro q t
 unfold keepT
 cases hg : tget r c with
 | some x => exact h q t
 | none =>
   rw [← tput_new hg, tget_put]
   by_cases e : r = q
   ·rw [if_pos e]; intro ht; cases ht; rw [e]
   ·rw [if_neg e]; exact h q t
theorem keepT_len (l : List NodeM) (c : List (Int × List (ByteArray × Int))) (r : Int) : (keepT l c r).length ≤ c.length + 1 := by
 unfold keepT; split <;> simp
theorem stepC_is {l : List NodeM} {c : List (Int × List (ByteArray × Int))} (h : ∀ r t, tget r c = some t → t = idTab l r) (n : Int) : ∀ q t, tget q (stepC l c n) = some t → t = idTab l q := by
 unfold stepC
 split
 ·split
  ·split
   ·exact keepT_is h _
   ·exact h
  ·exact h
 ·exact h
theorem stepC_len (l : List NodeM) (c : List (Int × List (ByteArray × Int))) (n : Int) : (stepC l c n).length ≤ c.length + 1 := by
 unfold stepC
 split
 ·split
  ·split
   ·exact keepT_len _ _ _
   ·omega
  ·omega
 ·omega
theorem f116_ok (l : List NodeM) (m : Int) (c : List (Int × List (ByteArray × Int))) (T : Tree l) (n : Int) (hn : thereN l n = true) :
  FnOK Tryz.prog 116 [] [.agg [eNodes l, eInt m, .fmap (idRows c)], eInt n] [] (eInt (nearN l n)) := by
 have hstep := fun n h1 h2 => find_step T (fun p => isForm (nd l p)) (n := n) h1 h2
 have htop := fun n h1 h2 => find_top T (fun p => isForm (nd l p)) (n := n) h1 h2
 have hwst := fun n h1 h2 => way_step T (n := n) h1 h2
 have hpar : ∀ n, thereN l n = true → (nd l n).parent = -1 ∨ thereN l (nd l n).parent = true := fun n hn => by
  by_cases h : (nd l n).parent = -1
  ·exact .inl h
  ·exact .inr (T.par n hn h).1
 unfold nearN
 obtain ⟨q, hq⟩ : ∃ q : Int → Bool, (fun p => isForm (nd l p)) = q := ⟨_, rfl⟩
 rw [hq] at hstep htop ⊢
 have hqe : ∀ p, q p = isForm (nd l p) := fun p => by rw [← hq]
 have step : ∀ p y, thereN l p = true → nd l p = y → (y.parent = -1 ∧ nearBy l q p = -1) ∨ (thereN l y.parent = true ∧ y.parent ≠ -1 ∧ (nearBy l q p = if isForm (nd l y.parent) = true then y.parent else nearBy l q y.parent) ∧ (wayN l y.parent).length < (wayN l p).length) := by
  rintro p y hp rfl
  by_cases e : (nd l p).parent = -1
  ·exact .inl ⟨e, htop p hp e⟩
  ·exact .inr ⟨(hpar p hp).resolve_left e, e, (hstep p hp e).trans (by first | rfl | rw [hqe]), by rw [hwst p hp e]; simp⟩
 clear hstep htop hwst hpar
 refine FnOK.startC (rvs := [.tmp 4]) G G_good Tryz.func116 rfl Tryz.ntmps116 rfl rfl ?_; with_reducible refine wD ?_
 obtain ⟨i, y, e, hy, hny⟩ := there_iff.1 hn
 have hst := step n y hn hny
 obtain ⟨b1, b2, b3, b4, b5, b6, b7, b8, b9, b10⟩ := y
 simp only at hst
 refine IdxK.mk i (eNode _) e (node_get hy) ?_; with_reducible refine wK ?_
 refine LoopK.use G G_good (fun (p : Int) => [(1, eInt p), (2, .ptr 20 0 0)]) (fun _ => [(20, .live 3 [.agg [eNodes l, eInt m, .fmap (idRows c)]] false)])
  (fun p => (p = -1 ∧ nearBy l q n = -1) ∨ (thereN l p = true ∧ p ≠ -1 ∧ nearBy l q n = if isForm (nd l p) = true then p else nearBy l q p)) (fun p => if p = -1 then 0 else (wayN l p).length) b6
  (by rcases hst with h | ⟨h1, h2, h3, _⟩; exact .inl h; exact .inr ⟨h1, h2, h3⟩) (by (refine fK ?_; (with_reducible repeat' (first | exact trivial | (show _ ∧ _; refine aK ?_ ?_))); (all_goals try rfl))) ?_
 intro p hp
 with_reducible refine wK ?_
 rcases hp with ⟨rfl, h1⟩ | ⟨h1, h2, h3⟩
 ·rw [h1]
  repeat' (first
  | refine gK ?_ | refine aE ?_ ?_
  | apply trivial)
  all_goals rfl
 ·obtain ⟨j, z, e', hz, hnz⟩ := there_iff.1 h1
  have hst := step p z h1 hnz
  rw [hnz] at h3
  have h81 := f81_ok z
  obtain ⟨c1, c2, c3, c4, c5, c6, c7, c8, c9, c10⟩ := z
  simp only at hst
  cases hf : isForm ⟨c1, c2, c3, c4, c5, c6, c7, c8, c9, c10⟩ with
  | true =>
    rw [hf] at h81 h3
    rw [h3, if_pos rfl]
    (have fct := (eq_false h2); (repeat' (first
  | refine gF ?_ | refine aE ?_ ?_
  | ((first
   | ((with_reducible refine kQ 81 ?_); refine cL h81 c81 ?_)
   | (refine IdxK.mk j (eNode ⟨c1, c2, c3, c4, c5, c6, c7, c8, c9, c10⟩) e' (node_get hz) ?_)) <;> with_reducible refine wK ?_)
  | apply trivial)); all_goals clear fct)
    all_goals rfl
  | false =>
    rw [hf] at h81 h3
    rw [if_neg (by simp)] at h3
    (have fct := (eq_false h2); (repeat' (first
  | refine gF ?_ | refine aE ?_ ?_
  | ((first
   | ((with_reducible refine kQ 81 ?_); refine cL h81 c81 ?_)
   | (refine IdxK.mk j (eNode ⟨c1, c2, c3, c4, c5, c6, c7, c8, c9, c10⟩) e' (node_get hz) ?_)) <;> with_reducible refine wK ?_)
  | apply trivial)); all_goals clear fct)
    refine NextK.mk c6 ?_ ?_ ?_
    ·rw [h3]
     rcases hst with h | ⟨g1, g2, g3, _⟩
     ·exact .inl h
     ·exact .inr ⟨g1, g2, g3⟩
    ·rw [if_neg h2]
     rcases hst with ⟨h, _⟩ | ⟨_, g2, _, g4⟩
     ·rw [if_pos h]
      obtain ⟨r, hr⟩ := way_head T h1
      rw [hr]; simp
     ·rw [if_neg g2]; exact g4
    ·(refine fK ?_; (with_reducible repeat' (first | exact trivial | (show _ ∧ _; refine aK ?_ ?_))); (all_goals try rfl))
theorem f73_ok (f : ForM) : FnOK Tryz.prog 73 [] [eFor f] [idsM []] (.agg [eNodes f.nodes, eInt f.most, .mapr 0]) := by
 obtain ⟨l, m⟩ := f
 refine FnOK.startC (rvs := [.cell 2 116]) G G_good Tryz.func73 rfl Tryz.ntmps73 rfl rfl ?_; with_reducible refine wD ?_
 repeat' (first
  | refine gK ?_ | refine aE ?_ ?_
  | apply trivial)
 all_goals first | rfl | trivial
theorem rows_snoc {R : AV → AV → Prop} {a b : List AV} {x y : AV} (h : RowsM R a b) (k : R x y) : RowsM R (a ++ [x]) (b ++ [y]) := by
 refine ⟨by simp [h.1], fun i u v hu hv => ?_⟩
 rw [List.getElem?_append] at hu hv
 rw [h.1] at hu
 by_cases hi : i < b.length
 ·rw [if_pos hi] at hu hv; exact h.2 i u v hu hv
 ·rw [if_neg hi] at hu hv
  rw [List.getElem?_singleton] at hu hv
  split at hu
  ·rename_i h0; rw [if_pos h0] at hv; cases hu; cases hv; exact k
  ·cases hu
theorem MFL_of {R : AV → AV → Prop} : ∀ {a b : List AV}, RowsM R a b → MFL R a b
 | [], [], _ => trivial
 | x :: xs, y :: ys, h => ⟨h.2 0 x y rfl rfl, MFL_of ⟨by have := h.1; simpa using this, fun i u v hu hv => h.2 (i + 1) u v (by simpa using hu) (by simpa using hv)⟩⟩
 | [], _ :: _, h => by have := h.1; simp at this
 | _ :: _, [], h => by have := h.1; simp at this
theorem ids_snoc (c : List (Int × List (ByteArray × Int))) (r : Int) (t : List (ByteArray × Int)) : idRows (c ++ [(r, t)]) = idRows c ++ [entry (vInt r) (eIds t)] := by
 unfold idRows tRows; rw [List.map_append]; rfl
theorem frz_idT {m : ML} {fz : Nat → Bool} {k : Nat} {ro : Bool} {rows : List AV} {t : List (ByteArray × Int)} (h1 : lkM m k = .live 2 rows ro) (h2 : fz k = true) (h3 : rows = tRows Value.string oInt t) : FrzMK m fz (eIds t) k := by
 subst h3
 refine ⟨2, _, ro, h1, h2, rfl, fun x hx => ?_⟩
 obtain ⟨p, _, rfl⟩ := List.mem_map.1 hx
 exact ⟨_, _, rfl, rfl⟩
theorem f117_ok (l : List NodeM) (m : Int) (hs : SmallN l) (hrt : rightF ⟨l, m⟩ = true) (c : List (Int × List (ByteArray × Int))) (hc : IdsOK l c) (r : Int) (hr : thereN l r = true) :
  FnOK Tryz.prog 117 [idsM c] [.agg [eNodes l, eInt m, .mapr 0], eInt r] [idsM (keepT l c r)] (eIds (idTab l r)) := by
 have T : Tree l := tree_of hrt
 have h78 := f78_ok ⟨l, m⟩ hs r
 have e78 : ordF ⟨l, m⟩ r = ordN l l.length r := by unfold ordF; rw [if_pos (by rw [hrt, hr]; rfl)]
 rw [e78] at h78
 have hol := ord_len T l.length hr
 have h60 := hs.len
 have hot : ∀ k ∈ ordN l l.length r, thereN l k = true := fun k hk => (ord_root T hr hk).1
 have hci := hc.is r
 have hcl := hc.len
 obtain ⟨kt, hkt⟩ : ∃ kt, keepT l c r = kt := ⟨_, rfl⟩
 rw [hkt]
 unfold keepT at hkt
 unfold idTab at hkt hci ⊢
 have hci := hci
 generalize ordN l l.length r = ks at h78 hol hot hci hkt ⊢
 have hkm : (ks.map oInt).length = ks.length := List.length_map ..
 refine FnOK.startC (rvs := [.tmp 4]) G G_good Tryz.func117 rfl Tryz.ntmps117 rfl rfl ?_; with_reducible refine wD ?_
 refine LookK.tab vInt oIds c (k := r) (zv := .lit (.map none)) mt114 ⟨_, _, rfl⟩ key_int inj_int rfl rfl (fun x hx => ?_) (fun hx => ?_)
 ·rw [hx] at hkt
  dsimp only at hkt
  subst hkt
  rw [show oIds x = eIds x from rfl]
  have hxe := hci x hx
  with_reducible refine wK ?_
  repeat' (first
  | refine gK ?_ | refine aE ?_ ?_
  | apply trivial)
  all_goals first
   | exact MFL_refl (noRef_ids c)
   | rfl
   | exact (congrArg eIds hxe).symm
   | skip
 ·rw [hx] at hkt
  dsimp only at hkt
  subst hkt
  with_reducible refine wK ?_
  repeat' (first
  | refine gK ?_ | refine aE ?_ ?_
  | (((with_reducible refine kQ 78 ?_); refine cV h78 c78 ?_) <;> with_reducible refine wK ?_)
  | apply trivial)
  refine LoopK.use G G_good (fun (j : Nat) => [(1, eInt r), (2, .ptr 20 0 0), (7, .mapr 71), (27, eInts ks), (28, eInt ks.length), (29, eInt j)])
   (fun j => [(0, idsM c), (20, .live 3 [.agg [eNodes l, eInt m, .mapr 0]] false), (71, .live 2 (tRows Value.string oInt ((ks.take j).foldl (addId l) [])) false)])
   (fun j => j ≤ ks.length) (fun j => ks.length - j) 0 (Nat.zero_le _) ?_ ?_
  ·(refine fK ?_; (with_reducible repeat' (first | exact trivial | (show _ ∧ _; refine aK ?_ ?_))); (all_goals try rfl))
   all_goals first
    | exact MFL_refl (noRef_ids c)
    | exact hkm
    | (show (ks.length : Int) = _; rw [hkm])
    | (show ObjK _ [] []; exact ⟨.refl rfl, rfl⟩)
    | skip
  intro j hj
  with_reducible refine wK ?_
  refine IfK.mk (fun h1 => ?_) (fun h1 => ?_) <;> (try simp only [castN] at h1) <;> with_reducible refine wK ?_
  ·have hj' : j < ks.length := by simp only [decide_eq_true_eq] at h1; omega
   obtain ⟨k, hk⟩ : ∃ k, ks[j]? = some k := ⟨_, List.getElem?_eq_getElem hj'⟩
   obtain ⟨i, y, e, hy, hny⟩ := there_iff.1 (hot k (List.mem_of_getElem? hk))
   have h47 := f47_ok y.attrs (by have := hs.attrs y (List.mem_of_getElem? hy); omega) idW
   have hst : (ks.take (j + 1)).foldl (addId l) [] = addId l ((ks.take j).foldl (addId l) []) k := by
    rw [List.take_add_one, hk, List.foldl_append]; rfl
   have hfl := fold_len l (ks.take j) []
   rw [List.length_nil, List.length_take] at hfl
   generalize (ks.take j).foldl (addId l) [] = t at hst hfl ⊢
   have ha : addId l t k = if 0 ≤ findP y.attrs idW ∧ tget (getS y.attrs idW) t = none then tput (getS y.attrs idW) k t else t := by
    unfold addId attV
    rw [hny]
    by_cases e1 : 0 ≤ findP y.attrs idW
    ·rw [if_pos e1]
     simp only
     cases e2 : tget (getS y.attrs idW) t with
     | none => rw [if_pos ⟨e1, rfl⟩]
     | some z => rw [if_neg (fun h => by cases h.2)]
    ·rw [if_neg e1, if_neg (fun h => e1 h.1)]
   rw [ha] at hst
   generalize hg : getS y.attrs idW = gs at h47 hst
   obtain ⟨ok, hok⟩ : ∃ ok, decide (0 ≤ findP y.attrs idW) = ok := ⟨_, rfl⟩
   rw [hok] at h47
   have hst' : (ks.take (j + 1)).foldl (addId l) [] = if ok = true ∧ tget gs t = none then tput gs k t else t := by rw [hst]; simp only [← hok, decide_eq_true_eq]
   clear ha hst hg hok
   obtain ⟨b1, b2, b3, b4, b5, b6, b7, b8, b9, b10⟩ := y
   simp only at h47
   refine IdxK.mk j (eInt k) rfl (int_get hk) ?_; with_reducible refine wK ?_
   refine IdxK.mk i (eNode _) e (node_get hy) ?_; with_reducible refine wK ?_
   refine cL h47 c47 ?_; with_reducible refine wK ?_
   refine LookK.tab Value.string oInt t (k := gs) (zv := eInt 0) map62 ⟨_, _, rfl⟩ key_str inj_str rfl rfl (fun x hx2 => ?_) (fun hx2 => ?_)
   ·rw [hx2, if_neg (fun h => by cases h.2)] at hst'
    rw [show oInt x = eInt x from rfl]
    with_reducible refine wK ?_
    cases ok <;> (
     repeat' (first
  | refine gK ?_ | refine aE ?_ ?_
  | apply trivial)
     refine NextK.mk (j + 1) (by omega) (by omega) ?_
     rw [hst']
     (refine fK ?_; (with_reducible repeat' (first | exact trivial | (show _ ∧ _; refine aK ?_ ?_))); (all_goals try rfl))
     all_goals first
      | exact MFL_refl (noRef_ids c)
      | exact ⟨.refl (noRef_idT t), noRef_idT t⟩
      | skip)
   ·rw [hx2] at hst'
    with_reducible refine wK ?_
    cases ok with
    | false =>
      rw [if_neg (fun h => by cases h.1)] at hst'
      repeat' (first
  | refine gK ?_ | refine aE ?_ ?_
  | apply trivial)
      refine NextK.mk (j + 1) (by omega) (by omega) ?_
      rw [hst']
      (refine fK ?_; (with_reducible repeat' (first | exact trivial | (show _ ∧ _; refine aK ?_ ?_))); (all_goals try rfl))
      all_goals first
       | exact MFL_refl (noRef_ids c)
       | exact ⟨.refl (noRef_idT t), noRef_idT t⟩
       | skip
    | true =>
      rw [if_pos ⟨rfl, rfl⟩] at hst'
      repeat' (first
  | refine gK ?_ | refine aE ?_ ?_
  | apply trivial)
      refine PutK.tab Value.string oInt t k map62 rfl key_str inj_str (by unfold maxLen; omega) rfl ?_; with_reducible refine wK ?_
      repeat' (first
  | refine gK ?_ | refine aE ?_ ?_
  | apply trivial)
      refine NextK.mk (j + 1) (by omega) (by omega) ?_
      rw [hst']
      (refine fK ?_; (with_reducible repeat' (first | exact trivial | (show _ ∧ _; refine aK ?_ ?_))); (all_goals try rfl))
      all_goals first
       | exact MFL_refl (noRef_ids c)
       | exact ⟨.refl (noRef_idT _), noRef_idT _⟩
       | skip
  ·have hjl : j = ks.length := by simp only [decide_eq_false_iff_not] at h1; omega
   subst hjl
   rw [List.take_length]
   generalize hT : ks.foldl (addId l) [] = t
   repeat' (first
  | refine gK ?_ | refine aE ?_ ?_
  | apply trivial)
   refine PutK.new mt114 rfl (key_int r) (tRows_ents key_int) (tRows_no inj_int hx) (by simp [idRows, tRows, maxLen]; omega) rfl rfl ?_; with_reducible refine wK ?_
   repeat' (first
  | refine gK ?_ | refine aE ?_ ?_
  | apply trivial)
   all_goals first
    | exact frz_idT rfl rfl rfl
    | skip
   rw [ids_snoc]
   refine MFL_of (rows_snoc (.refl (noRef_ids c)) ?_)
   exact ⟨rfl, ⟨frz_idT rfl rfl rfl, trivial⟩, trivial⟩
theorem frz_ids {m : ML} {fz : Nat → Bool} {k : Nat} {ro : Bool} {rows : List AV} {c : List (Int × List (ByteArray × Int))} (h1 : lkM m k = .live 2 rows ro) (h2 : fz k = true) (h3 : rows = idRows c) : FrzMK m fz (.fmap (idRows c)) k := by
 subst h3
 refine ⟨2, _, ro, h1, h2, rfl, fun x hx => ?_⟩
 obtain ⟨p, _, rfl⟩ := List.mem_map.1 hx
 exact ⟨_, _, rfl, rfl⟩
theorem att_get {x : NodeM} {w : ByteArray} : attV x w = if 0 ≤ findP x.attrs w then some (getS x.attrs w) else none := rfl
theorem conF_eq {l : List NodeM} {m : Int} (hr : rightF ⟨l, m⟩ = true) {n : Int} (hn : thereN l n = true) : conF ⟨l, m⟩ n = conN l n := by
 unfold conF conN; rw [hr, show thereN (ForM.mk l m).nodes n = true from hn]; rfl
theorem f74_ok (l : List NodeM) (m : Int) (hs : SmallN l) (hrt : rightF ⟨l, m⟩ = true) (c : List (Int × List (ByteArray × Int))) (hc : IdsOK l c) (n : Int) (hn : thereN l n = true) :
  FnOK Tryz.prog 74 [idsM c] [.agg [eNodes l, eInt m, .mapr 0], eInt n] [idsM (stepC l c n)] (eInt (ownN l n)) := by
 have T : Tree l := tree_of hrt
 have h21 := f21_ok ⟨l, m⟩ hs n
 rw [conF_eq hrt hn] at h21
 have h116 := f116_ok l m c T n hn
 have h48 := f48_ok ⟨l, m⟩ hs hrt n hn
 have hrth := (root_there T n hn).1
 have h117 := f117_ok l m hs hrt c hc (rootN l n) hrth
 have hfst := fun v k => @first_some l (rootN l n) v k
 have hord := fun k hk => (ord_root T hrth (n := k) hk).1
 obtain ⟨i, x, e, hx, hnx⟩ := there_iff.1 hn
 have h47 := f47_ok x.attrs (by have := hs.attrs x (List.mem_of_getElem? hx); omega) formW
 unfold ownN stepC byId
 rw [hnx, att_get]
 simp only at h48
 have hig := fun v => idTab_get l (rootN l n) v
 generalize rootN l n = r at h48 h117 hfst hord hig ⊢
 generalize nearN l n = nr at h116 ⊢
 generalize conN l n = cn at h21 ⊢
 generalize hgs : getS x.attrs formW = v at h47 ⊢
 obtain ⟨ok, hok⟩ : ∃ ok, decide (0 ≤ findP x.attrs formW) = ok := ⟨_, rfl⟩
 rw [hok] at h47
 have hok' : (0 ≤ findP x.attrs formW) = (ok = true) := by rw [← hok]; simp
 simp only [hok']
 clear hok hok' hgs
 obtain ⟨a1, a2, a3, a4, a5, a6, a7, a8, a9, a10⟩ := x
 simp only at h47 ⊢
 refine FnOK.startC (rvs := [.tmp 4]) G G_good Tryz.func74 rfl Tryz.ntmps74 rfl rfl ?_; with_reducible refine wD ?_
 refine IdxK.mk i (eNode _) e (node_get hx) ?_; with_reducible refine wK ?_
 by_cases e1 : a1 = 1
 ·rw [if_pos e1, if_pos e1]
  refine IfK.no (by rw [e1]; rfl) ?_; with_reducible refine wK ?_
  cases ok with
  | false =>
    rw [if_neg (by simp)]
    repeat' (first
  | refine gK ?_ | refine aE ?_ ?_
  | ((first
   | ((with_reducible refine kQ 47 ?_); refine cL h47 c47 ?_)
   | ((with_reducible refine kQ 21 ?_); refine cL h21 c21 ?_)
   | ((with_reducible refine kQ 116 ?_); refine CallK.lit [0] h116 c116 ⟨⟨rfl, rfl, frz_ids rfl rfl rfl, trivial⟩, rfl, trivial⟩ rfl rfl ?_)) <;> with_reducible refine wK ?_)
  | apply trivial)
    all_goals first | rfl | exact MFL_refl (noRef_ids c)
  | true =>
    rw [if_pos rfl]
    simp only
    cases cn with
    | false =>
      rw [if_neg (by simp), if_neg (by simp)]
      repeat' (first
  | refine gK ?_ | refine aE ?_ ?_
  | ((first
   | ((with_reducible refine kQ 47 ?_); refine cL h47 c47 ?_)
   | ((with_reducible refine kQ 21 ?_); refine cL h21 c21 ?_)
   | ((with_reducible refine kQ 116 ?_); refine CallK.lit [0] h116 c116 ⟨⟨rfl, rfl, frz_ids rfl rfl rfl, trivial⟩, rfl, trivial⟩ rfl rfl ?_)) <;> with_reducible refine wK ?_)
  | apply trivial)
      all_goals first | rfl | exact MFL_refl (noRef_ids c)
    | true =>
      rw [if_pos rfl, if_pos rfl]
      repeat' (first
  | refine gK ?_ | refine aE ?_ ?_
  | ((first
   | ((with_reducible refine kQ 47 ?_); refine cL h47 c47 ?_)
   | ((with_reducible refine kQ 21 ?_); refine cL h21 c21 ?_)
   | ((with_reducible refine kQ 48 ?_); refine cL h48 c48 ?_)) <;> with_reducible refine wK ?_)
  | apply trivial)
      refine CallK.lend (news := [idsM (keepT l c r)]) [0] [] h117 c117 ⟨⟨rfl, rfl, trivial, trivial⟩, rfl, trivial⟩ ⟨⟨rfl, .inl ⟨rfl, noRef_ids c⟩⟩, trivial⟩ rfl ⟨⟨rfl, rfl⟩, rfl⟩ rfl ⟨⟨rfl, .inl ⟨rfl, noRef_ids _⟩⟩, trivial⟩ rfl rfl ?_
      with_reducible refine wK ?_
      refine LookK.tab Value.string oInt (idTab l r) (k := v) (zv := eInt 0) map62 rfl key_str inj_str rfl rfl (fun k hk => ?_) (fun hk => ?_)
      ·rw [hig] at hk
       rw [hk, show oInt k = eInt k from rfl]
       simp only
       obtain ⟨j, y, e', hy, hny⟩ := there_iff.1 (hord k (hfst v k hk).1)
       rw [hny]
       have h81 := f81_ok y
       obtain ⟨b1, b2, b3, b4, b5, b6, b7, b8, b9, b10⟩ := y
       obtain ⟨fm, hfm⟩ : ∃ fm, isForm ⟨b1, b2, b3, b4, b5, b6, b7, b8, b9, b10⟩ = fm := ⟨_, rfl⟩
       rw [hfm] at h81 ⊢
       with_reducible refine wK ?_
       by_cases ev : v = ⟨#[]⟩
       ·rw [if_neg (fun h => h.1 ev)]
        have ev' : v = ⟨⟨[]⟩⟩ := ev
        (have fct := ev'; (repeat' (first
  | refine gF ?_ | refine aE ?_ ?_
  | (((with_reducible show DrawK _ _ _ _); refine dK ?_) <;> with_reducible refine wK ?_)
  | apply trivial)); all_goals clear fct)
        all_goals first | rfl | exact MFL_refl (noRef_ids _)
       ·have ev' : ¬ v = ⟨⟨[]⟩⟩ := ev
        cases fm with
        | true =>
          rw [if_pos ⟨ev, rfl⟩]
          (have fct := ev'; (repeat' (first
  | refine gF ?_ | refine aE ?_ ?_
  | ((first
   | ((with_reducible show DrawK _ _ _ _); refine dK ?_)
   | (refine IdxK.mk j (eNode ⟨b1, b2, b3, b4, b5, b6, b7, b8, b9, b10⟩) e' (node_get hy) ?_)
   | ((with_reducible refine kQ 81 ?_); refine cL h81 c81 ?_)) <;> with_reducible refine wK ?_)
  | apply trivial)); all_goals clear fct)
          all_goals first | rfl | exact MFL_refl (noRef_ids _)
        | false =>
          rw [if_neg (fun h => by cases h.2)]
          (have fct := ev'; (repeat' (first
  | refine gF ?_ | refine aE ?_ ?_
  | ((first
   | ((with_reducible show DrawK _ _ _ _); refine dK ?_)
   | (refine IdxK.mk j (eNode ⟨b1, b2, b3, b4, b5, b6, b7, b8, b9, b10⟩) e' (node_get hy) ?_)
   | ((with_reducible refine kQ 81 ?_); refine cL h81 c81 ?_)) <;> with_reducible refine wK ?_)
  | apply trivial)); all_goals clear fct)
          all_goals first | rfl | exact MFL_refl (noRef_ids _)
      ·rw [hig] at hk
       rw [hk]
       with_reducible refine wK ?_
       repeat' (first
  | refine gK ?_ | refine aE ?_ ?_
  | (((with_reducible show DrawK _ _ _ _); refine dK ?_) <;> with_reducible refine wK ?_)
  | apply trivial)
       all_goals first | rfl | exact MFL_refl (noRef_ids _)
 ·rw [if_neg e1, if_neg e1]
  (have fct := (eq_false e1); (repeat' (first
  | refine gF ?_ | refine aE ?_ ?_
  | apply trivial)); all_goals clear fct)
  all_goals first | rfl | exact MFL_refl (noRef_ids c)
def ownF (f : ForM) (n : Int) : Int := if (thereN f.nodes n && rightF f) = true then ownN f.nodes n else -1
theorem idsOK_nil (l : List NodeM) : IdsOK l [] := ⟨fun r t h => (by cases h), (by simp)⟩
theorem f38_ok (f : ForM) (hs : SmallN f.nodes) (n : Int) : FnOK Tryz.prog 38 [] [eFor f, eInt n] [] (eInt (ownF f n)) := by
 have h15 := f15_ok f hs
 have h73 := f73_ok f
 obtain ⟨l, m⟩ := f
 unfold ownF
 simp only at h73 ⊢
 have hlm : (l.map oNode).length = l.length := List.length_map ..
 obtain ⟨o, ho⟩ : ∃ o, (if (thereN l n && rightF ⟨l, m⟩) = true then ownN l n else -1) = o := ⟨_, rfl⟩
 rw [ho]
 refine FnOK.startC (rvs := [.tmp 4]) G G_good Tryz.func38 rfl Tryz.ntmps38 rfl rfl ?_; with_reducible refine wD ?_
 cases ht : thereN l n with
 | false =>
   have ht' : ¬ (0 ≤ n ∧ n < (l.length : Int)) := fun h => by
    unfold thereN at ht; simp [h.1, h.2] at ht
   rw [ht, Bool.false_and, if_neg (by simp)] at ho
   subst ho
   by_cases e1 : n < 0
   ·(have fct := (eq_true e1); (repeat' (first
  | refine gF ?_ | refine aE ?_ ?_
  | apply trivial)); all_goals clear fct)
    all_goals rfl
   ·have e2 : (l.length : Int) ≤ n := by omega
    (have fct := And.intro (eq_false e1) (And.intro hlm ((eq_true e2))); (repeat' (first
  | refine gF ?_ | refine aE ?_ ?_
  | apply trivial)); all_goals clear fct)
    all_goals rfl
 | true =>
   obtain ⟨e1, e2⟩ := there_pos ht
   have e1' : ¬ n < 0 := by omega
   have e2' : ¬ (l.length : Int) ≤ n := by omega
   cases hr : rightF ⟨l, m⟩ with
   | false =>
     rw [hr] at h15
     rw [ht, hr, Bool.true_and, if_neg (by simp)] at ho
     subst ho
     (have fct := And.intro (eq_false e1') (And.intro hlm ((eq_false e2'))); (repeat' (first
  | refine gF ?_ | refine aE ?_ ?_
  | (((with_reducible refine kQ 15 ?_); refine cL h15 c15 ?_) <;> with_reducible refine wK ?_)
  | apply trivial)); all_goals clear fct)
     all_goals rfl
   | true =>
     rw [hr] at h15
     rw [ht, hr, Bool.true_and, if_pos rfl] at ho
     have h74 := f74_ok l m hs hr [] (idsOK_nil l) n ht
     rw [ho] at h74
     generalize stepC l [] n = c at h74
     (have fct := And.intro (eq_false e1') (And.intro hlm ((eq_false e2'))); (repeat' (first
  | refine gF ?_ | refine aE ?_ ?_
  | ((first
   | ((with_reducible refine kQ 15 ?_); refine cL h15 c15 ?_)
   | ((with_reducible refine kQ 73 ?_); refine CallK.new 201 [] h73 c73 ⟨⟨rfl, rfl, trivial⟩, trivial⟩ rfl rfl rfl ⟨.nil _, rfl, trivial⟩ rfl ?_)
   | ((with_reducible refine kQ 74 ?_); refine CallK.lend (news := [idsM c]) [201] [] h74 c74 ⟨⟨rfl, rfl, trivial, trivial⟩, rfl, trivial⟩ ⟨⟨rfl, .inl ⟨rfl, rfl⟩⟩, trivial⟩ rfl ⟨⟨rfl, rfl⟩, rfl⟩ rfl ⟨⟨rfl, .inl ⟨rfl, noRef_ids _⟩⟩, trivial⟩ rfl rfl ?_)) <;> with_reducible refine wK ?_)
  | apply trivial)); all_goals clear fct)
     all_goals rfl
def ownTo (l : List NodeM) (k : Nat) : List Int := (List.range k).map fun n : Nat => ownN l (n : Int)
def keepTo (l : List NodeM) : Nat → List (Int × List (ByteArray × Int))
 | 0 => []
 | k + 1 => stepC l (keepTo l k) (k : Int)
theorem keepTo_ok (l : List NodeM) : ∀ k, k ≤ 60 → IdsOK l (keepTo l k) ∧ (keepTo l k).length ≤ k
 | 0, _ => ⟨idsOK_nil l, Nat.le_refl _⟩
 | k + 1, h => by
   obtain ⟨h1, h2⟩ := keepTo_ok l k (by omega)
   have h3 := stepC_len l (keepTo l k) (k : Int)
   exact ⟨⟨stepC_is h1.is _, by show (stepC l (keepTo l k) (k : Int)).length ≤ _; omega⟩, by show (stepC l (keepTo l k) (k : Int)).length ≤ _; omega⟩
theorem ownTo_step (l : List NodeM) (k : Nat) : ownTo l (k + 1) = ownTo l k ++ [ownN l (k : Int)] := by unfold ownTo; rw [List.range_succ, List.map_append]; rfl
theorem ownTo_len (l : List NodeM) (k : Nat) : (ownTo l k).length = k := by unfold ownTo; simp
def allF (f : ForM) : List Int := if rightF f = true then ownTo f.nodes f.nodes.length else []
theorem f42_ok (f : ForM) (hs : SmallN f.nodes) : FnOK Tryz.prog 42 [] [eFor f] [] (eInts (allF f)) := by
 have h15 := f15_ok f hs
 have h73 := f73_ok f
 have h60 := hs.len
 obtain ⟨l, m⟩ := f
 unfold allF
 simp only at h73 h60 ⊢
 have hlm : (l.map oNode).length = l.length := List.length_map ..
 obtain ⟨o, ho⟩ : ∃ o, (if rightF ⟨l, m⟩ = true then ownTo l l.length else []) = o := ⟨_, rfl⟩
 rw [ho]
 refine FnOK.startC (rvs := [.tmp 2]) G G_good Tryz.func42 rfl Tryz.ntmps42 rfl rfl ?_; with_reducible refine wD ?_
 cases hr : rightF ⟨l, m⟩ with
 | false =>
   rw [hr] at h15
   rw [hr, if_neg (by simp)] at ho
   subst ho
   repeat' (first
  | refine gK ?_ | refine aE ?_ ?_
  | (((with_reducible refine kQ 15 ?_); refine cL h15 c15 ?_) <;> with_reducible refine wK ?_)
  | apply trivial)
   all_goals exact .inr (.inr ⟨1, rfl⟩)
 | true =>
   rw [hr] at h15
   rw [hr, if_pos rfl] at ho
   subst ho
   have hstep := fun k => ownTo_step l k
   have hlen := fun k => ownTo_len l k
   have hcall : ∀ k, k < l.length → FnOK Tryz.prog 74 [idsM (keepTo l k)] [.agg [eNodes l, eInt m, .mapr 0], eInt (k : Int)] [idsM (keepTo l (k + 1))] (eInt (ownN l (k : Int))) := fun k hk =>
    f74_ok l m hs hr (keepTo l k) (keepTo_ok l k (by omega)).1 k (there_get (List.getElem?_eq_getElem hk))
   have hk0 : keepTo l 0 = [] := rfl
   have ho0 : ownTo l 0 = [] := rfl
   generalize keepTo l = kt at hcall hk0
   generalize ownTo l = ot at hstep hlen ho0 ⊢
   repeat' (first
  | refine gK ?_ | refine aE ?_ ?_
  | ((first
   | ((with_reducible refine kQ 15 ?_); refine cL h15 c15 ?_)
   | ((with_reducible refine kQ 73 ?_); refine CallK.new 101 [] h73 c73 ⟨⟨rfl, rfl, trivial⟩, trivial⟩ rfl rfl rfl ⟨.nil _, rfl, trivial⟩ rfl ?_)) <;> with_reducible refine wK ?_)
  | apply trivial)
   refine LoopK.ghost 3 31 1 rfl rfl ?_
   refine LoopK.use G G_good (fun (k : Nat) => [(1, .ptr 10 0 0), (3, .own 31 0 k), (4, .ptr 40 0 0), (13, eInt l.length), (14, eInt k)])
    (fun k => [(10, .live 2 [eFor ⟨l, m⟩] false), (31, rInts (ot k)), (40, .live 3 [.agg [eNodes l, eInt m, .mapr 101]] false), (101, idsM (kt k))])
    (fun k => k ≤ l.length) (fun k => l.length - k) 0 (Nat.zero_le _) ?_ ?_
   ·(refine fK ?_; (with_reducible repeat' (first | exact trivial | (show _ ∧ _; refine aK ?_ ?_))); (all_goals try rfl))
    all_goals first
     | (show (l.length : Int) = _; rw [hlm])
     | (rw [ho0]; exact ⟨.refl rfl, rfl⟩)
     | (rw [hk0]; exact ⟨.refl rfl, rfl⟩)
     | skip
   intro k hk
   have hkl := hlen k
   have hkm : ((ot k).map oInt).length = k := by rw [List.length_map, hkl]
   with_reducible refine wK ?_
   refine IfK.mk (fun h1 => ?_) (fun h1 => ?_) <;> (try simp only [castN] at h1) <;> with_reducible refine wK ?_
   ·have hk' : k < l.length := by simp only [decide_eq_true_eq] at h1; omega
    have h74 := hcall k hk'
    have hst := hstep k
    generalize ownN l (k : Int) = o at h74 hst
    repeat' (first
  | refine gK ?_ | refine aE ?_ ?_
  | ((first
   | ((with_reducible refine kQ 74 ?_); refine CallK.lend (news := [idsM (kt (k + 1))]) [101] [] h74 c74 ⟨⟨rfl, rfl, trivial, trivial⟩, rfl, trivial⟩ ⟨⟨rfl, .inl ⟨rfl, noRef_ids _⟩⟩, trivial⟩ rfl ⟨⟨rfl, rfl⟩, rfl⟩ rfl ⟨⟨rfl, .inl ⟨rfl, noRef_ids _⟩⟩, trivial⟩ rfl rfl ?_)
   | ((with_reducible show AppK _ _ _ _ _ _ _ _ _ _); refine AppK.mk ((ot k).map oInt) [eInt o] ⟨rfl, hkm.symm, rfl⟩ ⟨rfl, rfl, rfl⟩ rfl (by simp; omega) (by simp; omega) ?_)
   | ((with_reducible show DrawK _ _ _ _); refine dK ?_)) <;> with_reducible refine wK ?_)
  | apply trivial)
    refine NextK.mk (k + 1) (by omega) (by omega) ?_
    rw [hst]
    (refine fK ?_; (with_reducible repeat' (first | exact trivial | (show _ ∧ _; refine aK ?_ ?_))); (all_goals try rfl))
    all_goals first
     | (simp [hkl]; done)
     | (refine ⟨?_, noRef_ints _⟩; rw [List.map_append]; exact .refl (by rw [← List.map_append]; exact noRef_ints _))
     | exact ⟨.refl (noRef_ids _), noRef_ids _⟩
     | skip
   ·have hjl : k = l.length := by simp only [decide_eq_false_iff_not] at h1; omega
    subst hjl
    repeat' (first
  | refine gK ?_ | refine aE ?_ ?_
  | apply trivial)
    all_goals exact frz_ints rfl rfl rfl hkl.symm
theorem fin_succ {l : List NodeM} {m : Nat} {n : Int} : finN l (m + 1) n = if (nd l n).parent = -1 then true else finN l m (nd l n).parent := rfl
theorem walk_succ {l : List NodeM} {m : Nat} {b : Int} : walkB l (m + 1) b = if (nd l b).parent = -1 then false else (condB l (nd l b).parent b || walkB l m (nd l b).parent) := rfl
theorem f75_ok (f : ForM) (hs : SmallN f.nodes) (T : Tree f.nodes) (k : Nat) (x : NodeM) (hx : f.nodes[k]? = some x) : FnOK Tryz.prog 75 [] [eFor f, eInt k] [] (eBool (barN f.nodes k)) := by
 have h28 : ∀ x ∈ f.nodes, FnOK Tryz.prog 118 [] [eNode x] [] (eBool (disX x)) := fun x hx => f118_ok x (by have := hs.attrs x hx; omega)
 have h20 : ∀ (k : Nat) (x : NodeM), f.nodes[k]? = some x → FnOK Tryz.prog 119 [] [eFor f, eInt k] [] (eInt (legN f.nodes k)) := fun k x hx => f119_ok f hs k x hx fun c hc => by
  have := T.kid k (there_get hx) c
  rw [nd_get hx] at this
  exact (this hc).1
 have hfin := T.fin k (there_get hx)
 have hpar := T.par
 have hk := (List.getElem?_eq_some_iff.1 hx).1
 obtain ⟨l, m⟩ := f
 unfold barN
 simp only at h28 h20 hx hfin hpar hk ⊢
 rw [nd_get hx]
 have hx' := hx
 have h28x := h28 x (List.mem_of_getElem? hx)
 have hw : disX x = false → x.kind = 1 → ∀ b : Bool, walkB l l.length k = b → (disX x || (decide (x.kind = 1) && walkB l l.length k)) = b := fun h1 h2 b h => by rw [h1, h2, h]; simp
 have hwn : disX x = false → x.kind ≠ 1 → (disX x || (decide (x.kind = 1) && walkB l l.length k)) = false := fun h1 h2 => by rw [h1, decide_eq_false h2]; rfl
 have hwy : disX x = true → (disX x || (decide (x.kind = 1) && walkB l l.length k)) = true := fun h1 => by rw [h1]; rfl
 have hdk := @dis_kind x
 obtain ⟨a1, a2, a3, a4, a5, a6, a7, a8, a9, a10⟩ := x
 have hxp : (nd l k).parent = a6 := by rw [nd_get hx]
 simp only at hw hwn hwy hdk ⊢
 refine FnOK.startC (rvs := [.tmp 4]) G G_good Tryz.func75 rfl Tryz.ntmps75 rfl rfl ?_; with_reducible refine wD ?_
 refine IdxK.mk k (eNode _) rfl (node_get hx) ?_; with_reducible refine wK ?_
 refine cL h28x c118 ?_; with_reducible refine wK ?_
 cases d0 : disX ⟨a1, a2, a3, a4, a5, a6, a7, a8, a9, a10⟩ with
 | true =>
   have e1 := hdk d0
   rw [Bool.true_or]
   (have fct := And.intro d0 (e1); (repeat' (first
  | refine gF ?_ | refine aE ?_ ?_
  | ((refine IdxK.mk k (eNode _) rfl (node_get hx) ?_) <;> with_reducible refine wK ?_)
  | apply trivial)); all_goals clear fct)
   all_goals simp [e1]
 | false =>
   by_cases e1 : ¬ a1 = 1
   ·rw [decide_eq_false e1]
    (have fct := And.intro d0 ((eq_false e1)); (repeat' (first
  | refine gF ?_ | refine aE ?_ ?_
  | ((refine IdxK.mk k (eNode _) rfl (node_get hx) ?_) <;> with_reducible refine wK ?_)
  | apply trivial)); all_goals clear fct)
    all_goals simp
   have e1 := Decidable.not_not.1 e1
   rw [decide_eq_true e1, Bool.false_or, Bool.true_and]
   (have fct := And.intro d0 (e1); (repeat' (first
  | refine gF ?_ | refine aE ?_ ?_
  | ((refine IdxK.mk k (eNode _) rfl (node_get hx) ?_) <;> with_reducible refine wK ?_)
  | apply trivial)); all_goals clear fct)
   refine LoopK.use G G_good (fun (i : Nat × Nat) => [(2, .ptr 20 0 0), (5, eInt i.2), (6, eInt (nd l i.2).parent)]) (fun _ => [(20, .live 2 [eFor ⟨l, m⟩] false)])
    (fun i => i.2 < l.length ∧ finN l i.1 i.2 = true ∧ walkB l l.length k = walkB l i.1 i.2) (fun i => i.1) (l.length, k) ⟨hk, hfin, rfl⟩
    ⟨⟨rfl, rfl⟩, ⟨⟨rfl, rfl⟩, rfl, hxp, trivial⟩, ⟨⟨rfl, rfl, trivial⟩, trivial⟩, trivial⟩ ?_
   rintro ⟨n, b⟩ ⟨hb, hf, hwk⟩
   simp only at hb hf hwk
   obtain ⟨y, hy⟩ : ∃ y, l[b]? = some y := ⟨_, List.getElem?_eq_getElem hb⟩
   have hpb := hpar b (there_get hy)
   cases n with
   | zero => simp [finN] at hf
   | succ n =>
   rw [fin_succ] at hf
   rw [walk_succ] at hwk
   rw [nd_get hy] at hf hwk hpb
   with_reducible refine wK ?_
   simp only [nd_get hy]
   obtain ⟨b1, b2, b3, b4, b5, b6, b7, b8, b9, b10⟩ := y
   simp only at hf hwk hpb ⊢
   by_cases p1 : b6 = -1
   ·rw [if_pos p1] at hwk
    rw [hwk]
    (have fct := p1; (repeat' (first
  | refine gF ?_ | refine aE ?_ ?_
  | apply trivial)); all_goals clear fct)
   ·rw [if_neg p1] at hf hwk
    obtain ⟨i, z, rfl, hz, hnz⟩ := there_iff.1 (hpb p1).1
    have h28z := h28 z (List.mem_of_getElem? hz)
    have h20z := h20 i z hz
    have hi := (List.getElem?_eq_some_iff.1 hz).1
    have hzp : (nd l i).parent = z.parent := by rw [hnz]
    unfold condB at hwk
    rw [hnz] at hwk
    obtain ⟨z1, z2, z3, z4, z5, z6, z7, z8, z9, z10⟩ := z
    simp only at hwk hzp
    have hne : ¬ ((i : Int) = -1) := p1
    refine IfK.yes (by simp [hne]) ?_; with_reducible refine wK ?_
    refine IdxK.mk i (eNode ⟨z1, z2, z3, z4, z5, z6, z7, z8, z9, z10⟩) rfl (node_get hz) ?_; with_reducible refine wK ?_
    by_cases f1 : z2 = fldW
    ·cases d1 : disX ⟨z1, z2, z3, z4, z5, z6, z7, z8, z9, z10⟩ with
     | true =>
       by_cases g1 : legN l i = b
       ·rw [d1, decide_eq_false (fun h : legN l i ≠ b => h g1), Bool.and_false, Bool.and_false, Bool.false_or] at hwk
        (have fct := And.intro f1 (And.intro d1 (g1)); (repeat' (first
  | refine gF ?_ | refine aE ?_ ?_
  | ((first
   | ((with_reducible refine kQ 118 ?_); refine cL h28z c118 ?_)
   | ((with_reducible refine kQ 119 ?_); refine cL h20z c119 ?_)
   | (refine IdxK.mk i (eNode ⟨z1, z2, z3, z4, z5, z6, z7, z8, z9, z10⟩) rfl (node_get hz) ?_)
   | ((with_reducible show NextK _ _); refine NextK.mk (n, i) ⟨hi, hf, hwk⟩ (Nat.lt_succ_self n) ⟨⟨rfl, rfl⟩, ⟨⟨rfl, rfl⟩, rfl, hzp, trivial⟩, ⟨⟨rfl, rfl, trivial⟩, trivial⟩, trivial⟩)) <;> with_reducible refine wK ?_)
  | apply trivial)); all_goals clear fct)
       ·rw [d1, decide_eq_true f1, decide_eq_true (show legN l i ≠ b from g1)] at hwk
        rw [hwk]
        (have fct := And.intro f1 (And.intro d1 ((eq_false g1))); (repeat' (first
  | refine gF ?_ | refine aE ?_ ?_
  | ((first
   | ((with_reducible refine kQ 118 ?_); refine cL h28z c118 ?_)
   | ((with_reducible refine kQ 119 ?_); refine cL h20z c119 ?_)) <;> with_reducible refine wK ?_)
  | apply trivial)); all_goals clear fct)
        all_goals simp
     | false =>
       rw [d1, Bool.false_and, Bool.and_false, Bool.false_or] at hwk
       (have fct := And.intro f1 (d1); (repeat' (first
  | refine gF ?_ | refine aE ?_ ?_
  | ((first
   | ((with_reducible refine kQ 118 ?_); refine cL h28z c118 ?_)
   | (refine IdxK.mk i (eNode ⟨z1, z2, z3, z4, z5, z6, z7, z8, z9, z10⟩) rfl (node_get hz) ?_)
   | ((with_reducible show NextK _ _); refine NextK.mk (n, i) ⟨hi, hf, hwk⟩ (Nat.lt_succ_self n) ⟨⟨rfl, rfl⟩, ⟨⟨rfl, rfl⟩, rfl, hzp, trivial⟩, ⟨⟨rfl, rfl, trivial⟩, trivial⟩, trivial⟩)) <;> with_reducible refine wK ?_)
  | apply trivial)); all_goals clear fct)
    ·rw [decide_eq_false f1, Bool.false_and, Bool.false_or] at hwk
     (have fct := (eq_false f1); (repeat' (first
  | refine gF ?_ | refine aE ?_ ?_
  | ((first
   | (refine IdxK.mk i (eNode ⟨z1, z2, z3, z4, z5, z6, z7, z8, z9, z10⟩) rfl (node_get hz) ?_)
   | ((with_reducible show NextK _ _); refine NextK.mk (n, i) ⟨hi, hf, hwk⟩ (Nat.lt_succ_self n) ⟨⟨rfl, rfl⟩, ⟨⟨rfl, rfl⟩, rfl, hzp, trivial⟩, ⟨⟨rfl, rfl, trivial⟩, trivial⟩, trivial⟩)) <;> with_reducible refine wK ?_)
  | apply trivial)); all_goals clear fct)
theorem f39_ok (f : ForM) (hs : SmallN f.nodes) (n : Int) : FnOK Tryz.prog 39 [] [eFor f, eInt n] [] (eBool (thereN f.nodes n && (rightF f && barN f.nodes n))) := by
 have h13 := f15_ok f hs
 have h18 : rightF f = true → ∀ (k : Nat) (x : NodeM), f.nodes[k]? = some x → FnOK Tryz.prog 75 [] [eFor f, eInt k] [] (eBool (barN f.nodes k)) := fun hr k x hx => f75_ok f hs (tree_of hr) k x hx
 obtain ⟨l, m⟩ := f
 simp only at h13 h18 ⊢
 have hlm : (l.map oNode).length = l.length := List.length_map ..
 refine FnOK.startC (rvs := [.tmp 4]) G G_good Tryz.func39 rfl Tryz.ntmps39 rfl rfl ?_; with_reducible refine wD ?_
 by_cases e0 : ¬ 0 ≤ n
 ·have ht : thereN l n = false := by unfold thereN; simp [e0]
  rw [ht]
  (have fct := (eq_false e0); (repeat' (first
  | refine gF ?_ | refine aE ?_ ?_
  | apply trivial)); all_goals clear fct)
  all_goals simp
 have e0 := Decidable.not_not.1 e0
 by_cases e1 : ¬ n < (l.length : Int)
 ·have ht : thereN l n = false := by unfold thereN; simp [e1]
  rw [ht]
  (have fct := And.intro e0 (And.intro hlm ((eq_false e1))); (repeat' (first
  | refine gF ?_ | refine aE ?_ ?_
  | apply trivial)); all_goals clear fct)
  all_goals simp
 have e1 := Decidable.not_not.1 e1
 have ht : thereN l n = true := by unfold thereN; simp [e0, e1]
 obtain ⟨k, x, rfl, hx, _⟩ := there_iff.1 ht
 rw [ht]
 cases hr : rightF ⟨l, m⟩ with
 | false =>
   (have fct := And.intro hlm (And.intro e0 (And.intro e1 (hr))); (repeat' (first
  | refine gF ?_ | refine aE ?_ ?_
  | (((with_reducible refine kQ 15 ?_); refine cL h13 c15 ?_) <;> with_reducible refine wK ?_)
  | apply trivial)); all_goals clear fct)
   all_goals simp
 | true =>
   have h18' := h18 hr k x hx
   (have fct := And.intro hlm (And.intro e0 (And.intro e1 (hr))); (repeat' (first
  | refine gF ?_ | refine aE ?_ ?_
  | ((first
   | ((with_reducible refine kQ 15 ?_); refine cL h13 c15 ?_)
   | ((with_reducible refine kQ 75 ?_); refine cL h18' c75 ?_)) <;> with_reducible refine wK ?_)
  | apply trivial)); all_goals clear fct)
   all_goals simp
@[reducible] def mStates (l : List StateM) : MS := .live 4 (l.map oState) false
theorem noRef_states (l : List StateM) : noRefL (l.map oState) = true := noRefL_map oState (fun _ => rfl) l
theorem one_states (l : List StateM) : oneL (flat (l.map oState)) = true := oneL_map oState (fun _ => rfl) l
theorem states_outs (l : List StateM) : okOuts [mStates l] := ⟨Wide.of_mem fun r hr => by
 obtain ⟨a, _, rfl⟩ := List.mem_map.1 hr
 rfl, noRef_states l, trivial⟩
theorem frz_states {m : ML} {fz : Nat → Bool} {tab : List (Nat × Nat)} {n t len : Nat} {ro : Bool} {rows : List AV} {l : List StateM} (h1 : lkM m t = .live 4 rows ro) (h2 : fz t = true) (h3 : rows = l.map oState) (h4 : len = l.length) : FrzK m fz (MF tab fz m n) (eStates l) t 0 len := by
 subst h3; subst h4
 have e : (l.map oState).length = l.length := List.length_map ..
 exact .cut h1 h2 (by omega) (by rw [List.drop_zero, List.take_of_length_le (by omega)]) (noRef_states l)
theorem f108_ok (l : List StateM) (hl : l.length ≤ 100000) : FnOK Tryz.prog 108 [] [eStates l] [mStates l] (.own 0 0 l.length) := by
 have hlm : (l.map oState).length = l.length := List.length_map ..
 refine FnOK.startC (rvs := [.tmp 2]) G G_good Tryz.func108 rfl Tryz.ntmps108 rfl rfl ?_; with_reducible refine wD ?_
 refine GuessK.mk (fun h => ?_) (fun _ => ?_) <;> with_reducible refine wK ?_
 ·obtain rfl : l = [] := by simpa using h
  (refine eK ?_ ?_ <;> with_reducible repeat' (first | exact trivial | (show _ ∧ _; refine aK ?_ ?_)))
  all_goals first | rfl | trivial
 ·refine AppK.mk [] (l.map oState) ⟨rfl, rfl, rfl⟩ ⟨rfl, rfl, rfl⟩ (one_states l) (by simp; omega) (by simp; omega) ?_; with_reducible refine wK ?_
  (refine eK ?_ ?_ <;> with_reducible repeat' (first | exact trivial | (show _ ∧ _; refine aK ?_ ?_)))
  ·exact hlm.symm
  ·exact MFL_refl (noRef_states l)
theorem snoc_duesN (l : List DueN) (x : DueN) : l.map oDueN ++ [eDueN x] = (l ++ [x]).map oDueN := by rw [List.map_append]; rfl
@[reducible] def eHall (f : ForM) (x : AV) (d : DeskM) (cs : List ClassM) (y : AV) : AV := .agg [eNodes f.nodes, eInt f.most, x, eDefs d.defs, eWaits d.waits, eInt d.next, eBool d.busy, eClasses cs, y]
@[reducible] def mHall (f : ForM) (x : AV) (d : DeskM) (cs : List ClassM) (y : AV) : MS := .live 9 [eHall f x d cs y] false
@[reducible] def nilA : AV := .lit (.slice none 0 0)
theorem f64_ok (f : ForM) (hs : SmallN f.nodes) (st : List StateM) (hst : st.length ≤ 100000) (d : DeskM) (hd : SmallD d) (cs : List ClassM) :
  FnOK Tryz.prog 64 [] [eFor f, eStates st, eDesk d, eClasses cs] [mHall f (.own 1 0 st.length) d cs nilA, mStates st] (.tup [.ptr 0 0 0, eBool (lookV f st d)]) := by
 have h15 := f15_ok f hs
 have h71 := f71_ok d hd
 have h108 := f108_ok st hst
 have hsm : (st.map oState).length = st.length := List.length_map ..
 have hlm := (show (f.nodes.map oNode).length = f.nodes.length from List.length_map ..)
 unfold lookV
 obtain ⟨l, m⟩ := f
 obtain ⟨d1, d2, d3, d4⟩ := d
 simp only at h15 h71 hlm ⊢
 refine FnOK.startC (rvs := [.tmp 8, .tmp 9]) G G_good Tryz.func64 rfl Tryz.ntmps64 rfl rfl ?_; with_reducible refine wD ?_
 refine CallK.new 131 [] h108 c108 ⟨rfl, trivial⟩ rfl rfl rfl (states_outs st) rfl ?_; with_reducible refine wK ?_
 by_cases e1 : st.length = l.length
 ·cases e2 : rightF ⟨l, m⟩ <;> rw [e2] at h15
  ·(have fct := And.intro hsm (And.intro hlm ((eq_true e1))); (repeat' (first
  | refine gF ?_ | refine aE ?_ ?_
  | ((first
   | ((with_reducible refine kQ 15 ?_); refine cL h15 c15 ?_)
   | ((with_reducible show DrawK _ _ _ _); refine dK ?_)) <;> with_reducible refine wK ?_)
  | apply trivial)); all_goals clear fct)
   all_goals first | (simp [e1]; done) | exact ⟨.refl (noRef_states st), noRef_states st⟩ | exact .inl rfl | rfl
  ·cases e3 : rightD ⟨d1, d2, d3, d4⟩ <;> rw [e3] at h71
   all_goals ((have fct := And.intro hsm (And.intro hlm ((eq_true e1))); (repeat' (first
  | refine gF ?_ | refine aE ?_ ?_
  | ((first
   | ((with_reducible refine kQ 15 ?_); refine cL h15 c15 ?_)
   | ((with_reducible refine kQ 71 ?_); refine cL h71 c71 ?_)
   | ((with_reducible show DrawK _ _ _ _); refine dK ?_)) <;> with_reducible refine wK ?_)
  | apply trivial)); all_goals clear fct))
   all_goals first | (simp [e1]; done) | exact ⟨.refl (noRef_states st), noRef_states st⟩ | exact .inl rfl | rfl
 ·(have fct := And.intro hsm (And.intro hlm ((eq_false e1))); (repeat' (first
  | refine gF ?_ | refine aE ?_ ?_
  | (((with_reducible show DrawK _ _ _ _); refine dK ?_) <;> with_reducible refine wK ?_)
  | apply trivial)); all_goals clear fct)
  all_goals first | (simp [e1]; done) | exact ⟨.refl (noRef_states st), noRef_states st⟩ | exact .inl rfl | rfl
theorem f66_yes (f : ForM) (st : List StateM) (d : DeskM) (cs : List ClassM) (due : List DueN) (hdl : due.length ≤ 100000) (c : ClassM) (hc : c.hooks.length ≤ 100000) (n : Int) (t : TodoM) (hh : hearsC c t.kind = true) :
  FnOK Tryz.prog 66 [mHall f (.own 1 0 st.length) d cs (.own 2 0 due.length), mStates st, rDuesN due] [.ptr 0 0 0, eClass c, eInt n, eTodo t]
   [mHall f (.own 1 0 st.length) d cs (.own 3 0 (due.length + 1)), mStates st, .dead, rDuesN (due ++ [⟨n, t⟩])] (.tup []) := by
 have h37 := f37_ok c hc t.kind
 rw [hh] at h37
 have hdm : (due.map oDueN).length = due.length := List.length_map ..
 obtain ⟨l, m⟩ := f
 obtain ⟨d1, d2, d3, d4⟩ := d
 obtain ⟨c1, c2, c3, c4, c5⟩ := c
 obtain ⟨t1, t2, t3, t4, t5, t6, t7, t8, t9, t10⟩ := t
 simp only at h37
 refine FnOK.startB (rvs := []) G G_good Tryz.func66 rfl Tryz.ntmps66 rfl rfl ?_; with_reducible refine wD ?_
 repeat' (first
  | refine gK ?_ | refine aE ?_ ?_
  | ((first
   | ((with_reducible refine kQ 37 ?_); refine cL h37 c37 ?_)
   | ((with_reducible show AppK _ _ _ _ _ _ _ _ _ _); refine AppK.mk (due.map oDueN) [eDueN ⟨n, ⟨t1, t2, t3, t4, t5, t6, t7, t8, t9, t10⟩⟩] ⟨rfl, hdm.symm, rfl⟩ ⟨rfl, rfl, rfl⟩ rfl (by simp; omega) (by simp; omega) ?_)
   | ((with_reducible show DrawK _ _ _ _); refine dK ?_)) <;> with_reducible refine wK ?_)
  | apply trivial)
 all_goals first
  | (simp; done)
  | exact ⟨.refl (noRef_states st), noRef_states st⟩
  | (show ObjK _ ((due ++ ([⟨n, ⟨t1, t2, t3, t4, t5, t6, t7, t8, t9, t10⟩⟩] : List DueN)).map oDueN) (due.map oDueN ++ [eDueN ⟨n, ⟨t1, t2, t3, t4, t5, t6, t7, t8, t9, t10⟩⟩]); rw [snoc_duesN]; exact ⟨.refl (noRef_duesN _), noRef_duesN _⟩)
theorem f66_no (f : ForM) (st : List StateM) (d : DeskM) (cs : List ClassM) (due : List DueN) (c : ClassM) (hc : c.hooks.length ≤ 100000) (n : Int) (t : TodoM) (hh : hearsC c t.kind = false) :
  FnOK Tryz.prog 66 [mHall f (.own 1 0 st.length) d cs (.own 2 0 due.length), mStates st, rDuesN due] [.ptr 0 0 0, eClass c, eInt n, eTodo t]
   [mHall f (.own 1 0 st.length) d cs (.own 2 0 due.length), mStates st, rDuesN due] (.tup []) := by
 have h37 := f37_ok c hc t.kind
 rw [hh] at h37
 obtain ⟨l, m⟩ := f
 obtain ⟨d1, d2, d3, d4⟩ := d
 obtain ⟨c1, c2, c3, c4, c5⟩ := c
 obtain ⟨t1, t2, t3, t4, t5, t6, t7, t8, t9, t10⟩ := t
 simp only at h37
 refine FnOK.startC (rvs := []) G G_good Tryz.func66 rfl Tryz.ntmps66 rfl rfl ?_; with_reducible refine wD ?_
 repeat' (first
  | refine gK ?_ | refine aE ?_ ?_
  | (((with_reducible refine kQ 37 ?_); refine cL h37 c37 ?_) <;> with_reducible refine wK ?_)
  | apply trivial)
 all_goals first
  | exact ⟨.refl (noRef_states st), noRef_states st⟩
  | exact ⟨.refl (noRef_duesN due), noRef_duesN due⟩
section
variable {m : ML} {b s e : Nat} {f : ForM} {st st' : List StateM} {d : DeskM} {cs : List ClassM} {due due' : List DueN} {k k' n n' : Nat}
theorem ins_hall (hb : lkM m b = mHall f (.own s 0 n) d cs (.own e 0 k)) (hs : lkM m s = mStates st) (he : lkM m e = rDuesN due) {r : List Nat} : InsM (tabR 3 0 (b :: s :: e :: r)) [] m [mHall f (.own 1 0 n) d cs (.own 2 0 k), mStates st, rDuesN due] (b :: s :: e :: r) := by
 simp only [InsM, hb, hs, he]
 refine ⟨⟨trivial, .inr ⟨⟨⟨rfl, rfl, ?_, rfl, rfl, rfl, rfl, rfl, ?_, trivial⟩, trivial⟩, rfl⟩⟩, ⟨trivial, .inl ⟨rfl, noRef_states _⟩⟩, ⟨trivial, .inl ⟨rfl, noRef_duesN _⟩⟩, trivial⟩
 all_goals (simp [MF, tabR, lkN, Nat.beq_refl])
theorem news_hall : NewsM [b, s, e] [mHall f (.own 1 0 n) d cs (.own 2 0 k), mStates st, rDuesN due] [mHall f (.own s 0 n) d cs (.own e 0 k), mStates st, rDuesN due] :=
 ⟨⟨rfl, .inr ⟨rfl, rfl, rfl⟩⟩, ⟨rfl, .inl ⟨rfl, noRef_states _⟩⟩, ⟨rfl, .inl ⟨rfl, noRef_duesN _⟩⟩, trivial⟩
theorem news_tell {q : Nat} : NewsM [b, s, e, q] [mHall f (.own 1 0 n) d cs (.own 3 0 k), mStates st, .dead, rDuesN due] [mHall f (.own s 0 n) d cs (.own q 0 k), mStates st, .dead, rDuesN due] :=
 ⟨⟨rfl, .inr ⟨rfl, rfl, rfl⟩⟩, ⟨rfl, .inl ⟨rfl, noRef_states _⟩⟩, ⟨rfl, .inl ⟨rfl, noRef_duesN _⟩⟩, trivial⟩
end
theorem set_st (l : List StateM) (k : Nat) (y : StateM) : (l.map oState).set (0 + k) (eState y) = (l.set k y).map oState := by rw [Nat.zero_add, List.map_set]; rfl
theorem f65_own (f : ForM) (st : List StateM) (ns : Nat) (hns : st.length = ns) (d : DeskM) (cs : List ClassM) (due : List DueN) (k : Nat) (s : StateM) (hk : st[k]? = some s) (ht : thereN f.nodes (k : Int) = true) :
  FnOK Tryz.prog 65 [mHall f (.own 1 0 ns) d cs (.own 2 0 due.length), mStates st, rDuesN due] [.ptr 0 0 0, eInt k] [mHall f (.own 1 0 ns) d cs (.own 2 0 due.length), mStates st, rDuesN due] (.tup [eClass (classV s d cs), eBool (dutyB f d cs k s)]) := by
 have hkl := (List.getElem?_eq_some_iff.1 hk).1
 have h36 := f36_ok s d cs
 unfold dutyB
 obtain ⟨i, x, e, hx, hnx⟩ := there_iff.1 ht
 rw [hnx]
 obtain ⟨l, m⟩ := f
 obtain ⟨d1, d2, d3, d4⟩ := d
 obtain ⟨cv, hcv⟩ : ∃ cv, classV s ⟨d1, d2, d3, d4⟩ cs = cv := ⟨_, rfl⟩
 obtain ⟨cb, hcb⟩ : ∃ cb, classB s ⟨d1, d2, d3, d4⟩ cs = cb := ⟨_, rfl⟩
 rw [hcv, hcb] at h36 ⊢
 obtain ⟨s1, s2, s3, s4⟩ := s
 obtain ⟨c1, c2, c3, c4, c5⟩ := cv
 obtain ⟨a1, a2, a3, a4, a5, a6, a7, a8, a9, a10⟩ := x
 simp only at hx
 clear hcv hcb
 refine FnOK.startC (rvs := [.cell 4 63, .tmp 5]) G G_good Tryz.func65 rfl Tryz.ntmps65 rfl rfl ?_; with_reducible refine wD ?_
 repeat' (first
  | refine gK ?_ | refine aE ?_ ?_
  | ((first
   | (refine IdxK.mk i (eNode _) e (node_get hx) ?_)
   | ((with_reducible show LtK _ _ _ _ _); refine LtK.mk k rfl (by omega) ?_)
   | ((with_reducible show ElemK _ _ _ _ _); refine ElemK.mk (eState ⟨s1, s2, s3, s4⟩) (by rw [Nat.zero_add]; exact state_get hk) ?_)
   | ((with_reducible refine kQ 36 ?_); refine cV h36 c36 ?_)
   | ((with_reducible show DrawK _ _ _ _); refine dK ?_)) <;> with_reducible refine wK ?_)
  | apply trivial)
 cases cb with
 | false =>
   repeat' (first
  | refine gK ?_ | refine aE ?_ ?_
  | (((with_reducible show DrawK _ _ _ _); refine dK ?_) <;> with_reducible refine wK ?_)
  | apply trivial)
   all_goals first
    | rfl
    | exact ⟨.refl (noRef_states st), noRef_states st⟩
    | exact ⟨.refl (noRef_duesN due), noRef_duesN due⟩
    | (simp [*]; done)
 | true =>
   cases c1 with
   | false =>
     repeat' (first
  | refine gK ?_ | refine aE ?_ ?_
  | (((with_reducible show DrawK _ _ _ _); refine dK ?_) <;> with_reducible refine wK ?_)
  | apply trivial)
     all_goals first
      | rfl
      | exact ⟨.refl (noRef_states st), noRef_states st⟩
      | exact ⟨.refl (noRef_duesN due), noRef_duesN due⟩
      | (simp [*]; done)
   | true =>
     by_cases e1 : s1 = 3
     ·(have fct := (eq_true e1); (repeat' (first
  | refine gF ?_ | refine aE ?_ ?_
  | ((first
   | (refine IdxK.mk i (eNode _) e (node_get hx) ?_)
   | ((with_reducible show DrawK _ _ _ _); refine dK ?_)) <;> with_reducible refine wK ?_)
  | apply trivial)); all_goals clear fct)
      all_goals first
       | rfl
       | exact ⟨.refl (noRef_states st), noRef_states st⟩
       | exact ⟨.refl (noRef_duesN due), noRef_duesN due⟩
       | (simp [*]; done)
     ·(have fct := (eq_false e1); (repeat' (first
  | refine gF ?_ | refine aE ?_ ?_
  | (((with_reducible show DrawK _ _ _ _); refine dK ?_) <;> with_reducible refine wK ?_)
  | apply trivial)); all_goals clear fct)
      all_goals first
       | rfl
       | exact ⟨.refl (noRef_states st), noRef_states st⟩
       | exact ⟨.refl (noRef_duesN due), noRef_duesN due⟩
       | (simp [*]; done)
theorem tellD_yes {c : ClassM} {n : Int} {t : TodoM} (h : hearsC c t.kind = true) : tellD c n t = [⟨n, t⟩] := by unfold tellD; rw [if_pos h]
theorem tellD_no {c : ClassM} {n : Int} {t : TodoM} (h : hearsC c t.kind = false) : tellD c n t = [] := by unfold tellD; rw [if_neg (by simp [h])]
theorem classV_hooks {cs : List ClassM} (h : ∀ c ∈ cs, c.hooks.length ≤ 100000) (s : StateM) (d : DeskM) : (classV s d cs).hooks.length ≤ 100000 := by
 unfold classV
 split
 ·cases hg : cs[(classAt s d cs.length).toNat]? with
  | none => show (0 : Nat) ≤ _; omega
  | some c => exact h c (List.mem_of_getElem? hg)
 ·show (0 : Nat) ≤ _; omega
theorem f24_ok (f : ForM) (hs : SmallN f.nodes) (st : List StateM) (hst : st.length ≤ 1000) (d : DeskM) (hd : SmallD d) (cs : List ClassM) (hcs : ∀ c ∈ cs, c.hooks.length ≤ 100000) :
  FnOK Tryz.prog 24 [] [eFor f, eStates st, eDesk d, eClasses cs] [] (.tup [eStates (toldSt f st d cs), eDuesN (toldDu f st d cs)]) := by
 have h64 := f64_ok f hs st (by omega) d hd cs
 obtain ⟨os', hos'⟩ : ∃ x, toldSt f st d cs = x := ⟨_, rfl⟩
 obtain ⟨od, hod⟩ : ∃ x, toldDu f st d cs = x := ⟨_, rfl⟩
 rw [hos', hod]
 unfold toldSt at hos'
 unfold toldDu at hod
 obtain ⟨lv, hlv⟩ : ∃ lv, lookV f st d = lv := ⟨_, rfl⟩
 rw [hlv] at h64 hos' hod
 cases lv with
 | false =>
   rw [if_neg (by simp)] at hos' hod
   subst hos'
   subst hod
   obtain ⟨l, m⟩ := f
   obtain ⟨d1, d2, d3, d4⟩ := d
   refine FnOK.startC (rvs := [.tmp 8, .tmp 9]) G G_good Tryz.func24 rfl Tryz.ntmps24 rfl rfl ?_; with_reducible refine wD ?_
   refine CallK.lend (news := [mHall ⟨l, m⟩ (.own 241 0 st.length) ⟨d1, d2, d3, d4⟩ cs nilA, mStates st]) [240, 241] [] h64 c64 ⟨⟨rfl, rfl, trivial⟩, rfl, ⟨rfl, rfl, rfl, rfl, trivial⟩, rfl, trivial⟩ trivial rfl ⟨⟨rfl, rfl⟩, rfl⟩ rfl ⟨⟨rfl, .inr ⟨rfl, rfl, rfl⟩⟩, ⟨rfl, .inl ⟨rfl, noRef_states _⟩⟩, trivial⟩ rfl rfl ?_
   with_reducible refine wK ?_
   repeat' (first
  | refine gK ?_ | refine aE ?_ ?_
  | apply trivial)
   all_goals first | exact frz_states rfl rfl rfl rfl | exact .inr (.inr ⟨_, rfl⟩)
 | true =>
   rw [if_pos rfl] at hos' hod
   have hlv' := hlv
   unfold lookV at hlv'
   obtain ⟨⟨hlen, hr⟩, hrd⟩ : (st.length = f.nodes.length ∧ rightF f = true) ∧ rightD d = true := by simpa using hlv'
   have h42 := f42_ok f hs
   have e42 : allF f = ownTo f.nodes f.nodes.length := by unfold allF; rw [if_pos hr]
   rw [e42] at h42
   have h39 := fun n => f39_ok f hs n
   have hhk := fun s => classV_hooks hcs s d
   have h60 := hs.len
   have hos : ∀ k, k < st.length → (ownTo f.nodes f.nodes.length)[k]? = some (ownN f.nodes (k : Int)) := fun k hk => by
    unfold ownTo; rw [List.getElem?_map, List.getElem?_range (by omega)]; rfl
   have hol := ownTo_len f.nodes f.nodes.length
   have hth : ∀ k, k < st.length → thereN f.nodes (k : Int) = true := fun k hk => there_get (List.getElem?_eq_getElem (by omega))
   have htl := fun k => tSt_len f d cs st k
   have htg : ∀ k, k < st.length → (tSt f d cs st k)[k]? = some (sAt st k) := fun k hk => by rw [tSt_get hk, if_neg (by omega)]
   have hts := fun k hk => tSt_step f d cs st (k := k) hk
   have htm := fun k hk => tSt_same f d cs st (k := k) hk
   have htd := fun k => tDu_step f d cs st k
   have htdl := fun k => tDu_len f d cs st k
   have ht0 := tSt_zero f d cs st
   have hd0 : tDu f d cs st 0 = [] := rfl
   have hSd : ∀ k s, toldS f d cs k s = if dutyB f d cs k s = true then ⟨s.phase, s.df, ownN f.nodes k, barN f.nodes k⟩ else s := fun k s => rfl
   have hDd : ∀ k s, toldD f d cs k s = if dutyB f d cs k s = true then
    (if s.owner = ownN f.nodes k then [] else tellD (classV s d cs) k (ownedT s.owner (ownN f.nodes k))) ++ (if s.barred = barN f.nodes k then [] else tellD (classV s d cs) k (barredT (barN f.nodes k))) else [] := fun k s => rfl
   have h65 := fun (st' : List StateM) (due : List DueN) (k : Nat) (s : StateM) (h1 : st'.length = st.length) (h2 : st'[k]? = some s) (h3 : thereN f.nodes (k : Int) = true) => f65_own f st' st.length h1 d cs due k s h2 h3
   generalize tSt f d cs st = ts at hos' htl htg hts htm ht0
   generalize tDu f d cs st = td at hod htd htdl hd0
   subst hos'
   subst hod
   generalize ownTo f.nodes f.nodes.length = ol at h42 hos hol
   have hom : (ol.map oInt).length = ol.length := List.length_map ..
   obtain ⟨l, m⟩ := f
   obtain ⟨d1, d2, d3, d4⟩ := d
   simp only at hlen h60 hol
   refine FnOK.startC (rvs := [.tmp 8, .tmp 9]) G G_good Tryz.func24 rfl Tryz.ntmps24 rfl rfl ?_; with_reducible refine wD ?_
   refine CallK.lend (news := [mHall ⟨l, m⟩ (.own 241 0 st.length) ⟨d1, d2, d3, d4⟩ cs nilA, mStates st]) [240, 241] [] h64 c64 ⟨⟨rfl, rfl, trivial⟩, rfl, ⟨rfl, rfl, rfl, rfl, trivial⟩, rfl, trivial⟩ trivial rfl ⟨⟨rfl, rfl⟩, rfl⟩ rfl ⟨⟨rfl, .inr ⟨rfl, rfl, rfl⟩⟩, ⟨rfl, .inl ⟨rfl, noRef_states _⟩⟩, trivial⟩ rfl rfl ?_
   with_reducible refine wK ?_
   repeat' (first
  | refine gK ?_ | refine aE ?_ ?_
  | (((with_reducible refine kQ 42 ?_); refine cV h42 c42 ?_) <;> with_reducible refine wK ?_)
  | apply trivial)
   refine LoopK.ghostRow 10 240 248 11 0 8 (eHall ⟨l, m⟩ (.own 241 0 st.length) ⟨d1, d2, d3, d4⟩ cs nilA) (eHall ⟨l, m⟩ (.own 241 0 st.length) ⟨d1, d2, d3, d4⟩ cs (.own 248 0 0)) rfl rfl rfl rfl rfl rfl ?_
   refine LoopK.use G G_good (fun (k : Nat) => [(4, .ptr 40 0 0), (10, .ptr 240 0 0), (34, eInts ol), (35, eInt ol.length), (36, eInt k)])
    (fun k => [(40, .live 2 [eFor ⟨l, m⟩] false), (240, mHall ⟨l, m⟩ (.own 241 0 st.length) ⟨d1, d2, d3, d4⟩ cs (.own 248 0 (td k).length)), (241, mStates (ts k)), (248, rDuesN (td k))])
    (fun k => k ≤ st.length) (fun k => st.length - k) 0 (Nat.zero_le _) ?_ ?_
   ·rw [ht0, hd0]
    (refine fK ?_; (with_reducible repeat' (first | exact trivial | (show _ ∧ _; refine aK ?_ ?_))); (all_goals try rfl))
    all_goals first
     | (show (ol.length : Int) = _; rw [hom])
     | exact ⟨⟨rfl, rfl, ⟨rfl, rfl⟩, rfl, rfl, rfl, rfl, rfl, ⟨rfl, rfl⟩, trivial⟩, trivial⟩
     | exact ⟨.refl (noRef_states st), noRef_states st⟩
     | (show ObjK _ [] []; exact ⟨.refl rfl, rfl⟩)
   intro k hk
   have hdl := htdl k
   have htk := htl k
   with_reducible refine wK ?_
   refine IfK.mk (fun h1 => ?_) (fun h1 => ?_) <;> (try simp only [castN] at h1) <;> with_reducible refine wK ?_
   ·have hk' : k < st.length := by simp only [decide_eq_true_eq] at h1; omega
    have hok := hos k hk'
    have hgk := htg k hk'
    have h65 := h65 (ts k) (td k) k (sAt st k) htk hgk (hth k hk')
    have h39 := h39 (k : Int)
    rw [hth k hk', hr, Bool.true_and, Bool.true_and] at h39
    have hts := hts k hk'
    have htm := htm k hk'
    have htd := htd k
    have hhk := hhk (sAt st k)
    have hSd := hSd k (sAt st k)
    have hDd := hDd k (sAt st k)
    have htl1 := htl (k + 1)
    clear hos htl htg htdl h64 h42 hth
    generalize sAt st k = s at *
    obtain ⟨dy, hdy⟩ : ∃ dy, dutyB ⟨l, m⟩ ⟨d1, d2, d3, d4⟩ cs (k : Int) s = dy := ⟨_, rfl⟩
    rw [hdy] at h65 hSd hDd
    generalize hcv : classV s ⟨d1, d2, d3, d4⟩ cs = cv at *
    generalize ownN l (k : Int) = o at *
    generalize barN l (k : Int) = b at *
    generalize ts k = X at *
    generalize td k = D at *
    obtain ⟨s1, s2, s3, s4⟩ := s
    obtain ⟨c1, c2, c3, c4, c5⟩ := cv
    refine IdxK.mk k (eInt o) rfl (int_get hok) ?_; with_reducible refine wK ?_
    refine CallK.lend (news := [mHall ⟨l, m⟩ (.own 241 0 st.length) ⟨d1, d2, d3, d4⟩ cs (.own 248 0 D.length), mStates X, rDuesN D]) [240, 241, 248] [] h65 c65 ⟨⟨rfl, rfl⟩, rfl, trivial⟩ (ins_hall rfl rfl rfl) rfl ⟨⟨rfl, rfl⟩, rfl⟩ rfl news_hall rfl rfl ?_
    with_reducible refine wK ?_
    cases dy with
    | false =>
      rw [if_neg (by simp)] at hSd hDd
      rw [hSd] at htm
      rw [hDd, List.append_nil] at htd
      repeat' (first
  | refine gK ?_ | refine aE ?_ ?_
  | apply trivial)
      refine NextK.mk (k + 1) (by omega) (by omega) ?_
      rw [htd, htm rfl]
      (refine fK ?_; (with_reducible repeat' (first | exact trivial | (show _ ∧ _; refine aK ?_ ?_))); (all_goals try rfl))
      all_goals first
       | exact ⟨.refl (noRef_states _), noRef_states _⟩
       | exact ⟨.refl (noRef_duesN _), noRef_duesN _⟩
       | (simp; done)
    | true =>
      rw [if_pos rfl] at hSd hDd
      simp only at hSd hDd
      rw [hSd] at hts htm
      rw [hDd] at htd
      have hXk : X[k]? = some ⟨s1, s2, s3, s4⟩ := hgk
      have h66y : ∀ (Z : List StateM) (E : List DueN) (t : TodoM), Z.length = st.length → E.length ≤ 1000 → hearsC ⟨c1, c2, c3, c4, c5⟩ t.kind = true →
        FnOK Tryz.prog 66 [mHall ⟨l, m⟩ (.own 1 0 st.length) ⟨d1, d2, d3, d4⟩ cs (.own 2 0 E.length), mStates Z, rDuesN E] [.ptr 0 0 0, eClass ⟨c1, c2, c3, c4, c5⟩, eInt (k : Int), eTodo t]
         [mHall ⟨l, m⟩ (.own 1 0 st.length) ⟨d1, d2, d3, d4⟩ cs (.own 3 0 (E.length + 1)), mStates Z, .dead, rDuesN (E ++ [⟨(k : Int), t⟩])] (.tup []) := fun Z E t hz he hh => by
       have := f66_yes ⟨l, m⟩ Z ⟨d1, d2, d3, d4⟩ cs E (by omega) ⟨c1, c2, c3, c4, c5⟩ hhk (k : Int) t hh
       rwa [hz] at this
      have h66n : ∀ (Z : List StateM) (E : List DueN) (t : TodoM), Z.length = st.length → hearsC ⟨c1, c2, c3, c4, c5⟩ t.kind = false →
        FnOK Tryz.prog 66 [mHall ⟨l, m⟩ (.own 1 0 st.length) ⟨d1, d2, d3, d4⟩ cs (.own 2 0 E.length), mStates Z, rDuesN E] [.ptr 0 0 0, eClass ⟨c1, c2, c3, c4, c5⟩, eInt (k : Int), eTodo t]
         [mHall ⟨l, m⟩ (.own 1 0 st.length) ⟨d1, d2, d3, d4⟩ cs (.own 2 0 E.length), mStates Z, rDuesN E] (.tup []) := fun Z E t hz hh => by
       have := f66_no ⟨l, m⟩ Z ⟨d1, d2, d3, d4⟩ cs E ⟨c1, c2, c3, c4, c5⟩ hhk (k : Int) t hh
       rwa [hz] at this
      have hDl : D.length ≤ 500 := by omega
      clear h65 hSd hDd hhk
      by_cases e1 : s3 = o
      ·obtain rfl := e1.symm
       rw [if_pos rfl, List.nil_append] at htd
       by_cases e2 : s4 = b
       ·obtain rfl := e2.symm
        rw [if_pos rfl, List.append_nil] at htd
        repeat' (first
  | refine gK ?_ | refine aE ?_ ?_
  | ((first
   | ((with_reducible show LtK _ _ _ _ _); refine LtK.mk k rfl (by omega) ?_)
   | ((with_reducible show ElemK _ _ _ _ _); refine ElemK.mk (eState ⟨s1, s2, o, b⟩) (by rw [Nat.zero_add]; exact state_get hXk) ?_)
   | ((with_reducible refine kQ 39 ?_); refine cL h39 c39 ?_)) <;> with_reducible refine wK ?_)
  | apply trivial)
        refine NextK.mk (k + 1) (by omega) (by omega) ?_
        rw [htd, htm rfl]
        (refine fK ?_; (with_reducible repeat' (first | exact trivial | (show _ ∧ _; refine aK ?_ ?_))); (all_goals try rfl))
        all_goals first
         | exact ⟨.refl (noRef_states _), noRef_states _⟩
         | exact ⟨.refl (noRef_duesN _), noRef_duesN _⟩
         | (simp; done)
       ·rw [if_neg e2] at htd
        have e2' : (b == s4) = false := by cases b <;> cases s4 <;> simp at e2 ⊢
        (have fct := e2'; (repeat' (first
  | refine gF ?_ | refine aE ?_ ?_
  | ((first
   | ((with_reducible show LtK _ _ _ _ _); refine LtK.mk k rfl (by omega) ?_)
   | ((with_reducible show ElemK _ _ _ _ _); refine ElemK.mk (eState ⟨s1, s2, o, s4⟩) (by rw [Nat.zero_add]; exact state_get hXk) ?_)
   | ((with_reducible refine kQ 39 ?_); refine cL h39 c39 ?_)) <;> with_reducible refine wK ?_)
  | apply trivial)); all_goals clear fct)
        have htk2 : (X.set k ⟨s1, s2, o, b⟩).length = st.length := by simp [htk]
        rw [set_st X k ⟨s1, s2, o, b⟩]
        cases hw2 : hearsC ⟨c1, c2, c3, c4, c5⟩ 6 with
        | true =>
          rw [tellD_yes (show hearsC _ (barredT b).kind = true from hw2)] at htd
          have hFl : (D ++ ([⟨(k : Int), barredT b⟩] : List DueN)).length = D.length + 1 := by simp
          refine CallK.lend (news := [mHall ⟨l, m⟩ (.own 241 0 st.length) ⟨d1, d2, d3, d4⟩ cs (.own 911 0 (D.length + 1)), mStates (X.set k ⟨s1, s2, o, b⟩), .dead, rDuesN (D ++ [⟨(k : Int), barredT b⟩])]) [240, 241, 248, 911] [] (h66y (X.set k ⟨s1, s2, o, b⟩) D (barredT b) (by simp; omega) (by omega) hw2) c66 ⟨⟨rfl, rfl⟩, ⟨rfl, rfl, rfl, rfl, rfl, trivial⟩, rfl, ⟨rfl, rfl, rfl, rfl, rfl, rfl, rfl, rfl, rfl, rfl, trivial⟩, trivial⟩ (ins_hall rfl rfl rfl) rfl ⟨⟨rfl, rfl⟩, rfl⟩ rfl news_tell rfl rfl ?_
          with_reducible refine wK ?_
          repeat' (first
  | refine gK ?_ | refine aE ?_ ?_
  | apply trivial)
          refine NextK.mk (k + 1) (by omega) (by omega) ?_
          rw [htd, hts]
          (refine fK ?_; (with_reducible repeat' (first | exact trivial | (show _ ∧ _; refine aK ?_ ?_))); (all_goals try rfl))
          all_goals first
           | exact ⟨.refl (noRef_states _), noRef_states _⟩
           | exact ⟨.refl (noRef_duesN _), noRef_duesN _⟩
           | (simp; done)
        | false =>
          rw [tellD_no (show hearsC _ (barredT b).kind = false from hw2), List.append_nil] at htd
          refine CallK.lend (news := [mHall ⟨l, m⟩ (.own 241 0 st.length) ⟨d1, d2, d3, d4⟩ cs (.own 248 0 D.length), mStates (X.set k ⟨s1, s2, o, b⟩), rDuesN D]) [240, 241, 248] [] (h66n (X.set k ⟨s1, s2, o, b⟩) D (barredT b) (by simp; omega) hw2) c66 ⟨⟨rfl, rfl⟩, ⟨rfl, rfl, rfl, rfl, rfl, trivial⟩, rfl, ⟨rfl, rfl, rfl, rfl, rfl, rfl, rfl, rfl, rfl, rfl, trivial⟩, trivial⟩ (ins_hall rfl rfl rfl) rfl ⟨⟨rfl, rfl⟩, rfl⟩ rfl news_hall rfl rfl ?_
          with_reducible refine wK ?_
          repeat' (first
  | refine gK ?_ | refine aE ?_ ?_
  | apply trivial)
          refine NextK.mk (k + 1) (by omega) (by omega) ?_
          rw [htd, hts]
          (refine fK ?_; (with_reducible repeat' (first | exact trivial | (show _ ∧ _; refine aK ?_ ?_))); (all_goals try rfl))
          all_goals first
           | exact ⟨.refl (noRef_states _), noRef_states _⟩
           | exact ⟨.refl (noRef_duesN _), noRef_duesN _⟩
           | (simp; done)
      ·rw [if_neg e1] at htd
       have hYk : (X.set k ⟨s1, s2, o, s4⟩)[k]? = some ⟨s1, s2, o, s4⟩ := by rw [List.getElem?_set_self (by omega)]
       have hYl : (X.set k ⟨s1, s2, o, s4⟩).length = st.length := by simp [htk]
       have hset : (X.set k ⟨s1, s2, o, s4⟩).set k ⟨s1, s2, o, b⟩ = X.set k ⟨s1, s2, o, b⟩ := List.set_set ..
       rw [← hset] at hts
       (have fct := (eq_false e1); (repeat' (first
  | refine gF ?_ | refine aE ?_ ?_
  | ((first
   | ((with_reducible show LtK _ _ _ _ _); refine LtK.mk k rfl (by omega) ?_)
   | ((with_reducible show ElemK _ _ _ _ _); refine ElemK.mk (eState ⟨s1, s2, s3, s4⟩) (by rw [Nat.zero_add]; exact state_get hXk) ?_)) <;> with_reducible refine wK ?_)
  | apply trivial)); all_goals clear fct)
       rw [set_st X k ⟨s1, s2, o, s4⟩]
       generalize X.set k ⟨s1, s2, o, s4⟩ = Y at *
       cases hw : hearsC ⟨c1, c2, c3, c4, c5⟩ 5 with
       | true =>
         rw [tellD_yes (show hearsC _ (ownedT s3 o).kind = true from hw), ← List.append_assoc] at htd
         have hEl : (D ++ ([⟨(k : Int), ownedT s3 o⟩] : List DueN)).length = D.length + 1 := by simp
         refine CallK.lend (news := [mHall ⟨l, m⟩ (.own 241 0 st.length) ⟨d1, d2, d3, d4⟩ cs (.own 721 0 (D.length + 1)), mStates Y, .dead, rDuesN (D ++ [⟨(k : Int), ownedT s3 o⟩])]) [240, 241, 248, 721] [] (h66y Y D (ownedT s3 o) hYl (by omega) hw) c66 ⟨⟨rfl, rfl⟩, ⟨rfl, rfl, rfl, rfl, rfl, trivial⟩, rfl, ⟨rfl, rfl, rfl, rfl, rfl, rfl, rfl, rfl, rfl, rfl, trivial⟩, trivial⟩ (ins_hall rfl rfl rfl) rfl ⟨⟨rfl, rfl⟩, rfl⟩ rfl news_tell rfl rfl ?_
         rw [← hEl]
         generalize D ++ ([⟨(k : Int), ownedT s3 o⟩] : List DueN) = E at *
         have hEl' : E.length ≤ 501 := by omega
         with_reducible refine wK ?_
         by_cases e2 : s4 = b
         ·obtain rfl := e2.symm
          rw [if_pos rfl, List.append_nil] at htd
          have hYs : Y.set k ⟨s1, s2, o, b⟩ = Y := by
           apply List.ext_getElem?
           intro n
           rw [List.getElem?_set]
           by_cases e : k = n
           ·subst e; rw [if_pos rfl, if_pos (by omega), hYk]
           ·rw [if_neg e]
          rw [hYs] at hts
          repeat' (first
  | refine gK ?_ | refine aE ?_ ?_
  | ((first
   | ((with_reducible show LtK _ _ _ _ _); refine LtK.mk k rfl (by omega) ?_)
   | ((with_reducible show ElemK _ _ _ _ _); refine ElemK.mk (eState ⟨s1, s2, o, b⟩) (by rw [Nat.zero_add]; exact state_get hYk) ?_)
   | ((with_reducible refine kQ 39 ?_); refine cL h39 c39 ?_)) <;> with_reducible refine wK ?_)
  | apply trivial)
          refine NextK.mk (k + 1) (by omega) (by omega) ?_
          rw [htd, hts]
          (refine fK ?_; (with_reducible repeat' (first | exact trivial | (show _ ∧ _; refine aK ?_ ?_))); (all_goals try rfl))
          all_goals first
           | exact ⟨.refl (noRef_states _), noRef_states _⟩
           | exact ⟨.refl (noRef_duesN _), noRef_duesN _⟩
           | (simp; done)
         ·rw [if_neg e2] at htd
          have e2' : (b == s4) = false := by cases b <;> cases s4 <;> simp at e2 ⊢
          (have fct := e2'; (repeat' (first
  | refine gF ?_ | refine aE ?_ ?_
  | ((first
   | ((with_reducible show LtK _ _ _ _ _); refine LtK.mk k rfl (by omega) ?_)
   | ((with_reducible show ElemK _ _ _ _ _); refine ElemK.mk (eState ⟨s1, s2, o, s4⟩) (by rw [Nat.zero_add]; exact state_get hYk) ?_)
   | ((with_reducible refine kQ 39 ?_); refine cL h39 c39 ?_)) <;> with_reducible refine wK ?_)
  | apply trivial)); all_goals clear fct)
          rw [set_st Y k ⟨s1, s2, o, b⟩]
          cases hw2 : hearsC ⟨c1, c2, c3, c4, c5⟩ 6 with
          | true =>
            rw [tellD_yes (show hearsC _ (barredT b).kind = true from hw2)] at htd
            have hFl : (E ++ ([⟨(k : Int), barredT b⟩] : List DueN)).length = E.length + 1 := by simp
            refine CallK.lend (news := [mHall ⟨l, m⟩ (.own 241 0 st.length) ⟨d1, d2, d3, d4⟩ cs (.own 911 0 (E.length + 1)), mStates (Y.set k ⟨s1, s2, o, b⟩), .dead, rDuesN (E ++ [⟨(k : Int), barredT b⟩])]) [240, 241, 721, 911] [] (h66y (Y.set k ⟨s1, s2, o, b⟩) E (barredT b) (by simp; omega) (by omega) hw2) c66 ⟨⟨rfl, rfl⟩, ⟨rfl, rfl, rfl, rfl, rfl, trivial⟩, rfl, ⟨rfl, rfl, rfl, rfl, rfl, rfl, rfl, rfl, rfl, rfl, trivial⟩, trivial⟩ (ins_hall rfl rfl rfl) rfl ⟨⟨rfl, rfl⟩, rfl⟩ rfl news_tell rfl rfl ?_
            with_reducible refine wK ?_
            repeat' (first
  | refine gK ?_ | refine aE ?_ ?_
  | apply trivial)
            refine NextK.mk (k + 1) (by omega) (by omega) ?_
            rw [htd, hts]
            (refine fK ?_; (with_reducible repeat' (first | exact trivial | (show _ ∧ _; refine aK ?_ ?_))); (all_goals try rfl))
            all_goals first
             | exact ⟨.refl (noRef_states _), noRef_states _⟩
             | exact ⟨.refl (noRef_duesN _), noRef_duesN _⟩
             | (simp; done)
          | false =>
            rw [tellD_no (show hearsC _ (barredT b).kind = false from hw2), List.append_nil] at htd
            refine CallK.lend (news := [mHall ⟨l, m⟩ (.own 241 0 st.length) ⟨d1, d2, d3, d4⟩ cs (.own 721 0 E.length), mStates (Y.set k ⟨s1, s2, o, b⟩), rDuesN E]) [240, 241, 721] [] (h66n (Y.set k ⟨s1, s2, o, b⟩) E (barredT b) (by simp; omega) hw2) c66 ⟨⟨rfl, rfl⟩, ⟨rfl, rfl, rfl, rfl, rfl, trivial⟩, rfl, ⟨rfl, rfl, rfl, rfl, rfl, rfl, rfl, rfl, rfl, rfl, trivial⟩, trivial⟩ (ins_hall rfl rfl rfl) rfl ⟨⟨rfl, rfl⟩, rfl⟩ rfl news_hall rfl rfl ?_
            with_reducible refine wK ?_
            repeat' (first
  | refine gK ?_ | refine aE ?_ ?_
  | apply trivial)
            refine NextK.mk (k + 1) (by omega) (by omega) ?_
            rw [htd, hts]
            (refine fK ?_; (with_reducible repeat' (first | exact trivial | (show _ ∧ _; refine aK ?_ ?_))); (all_goals try rfl))
            all_goals first
             | exact ⟨.refl (noRef_states _), noRef_states _⟩
             | exact ⟨.refl (noRef_duesN _), noRef_duesN _⟩
             | (simp; done)
       | false =>
         rw [tellD_no (show hearsC _ (ownedT s3 o).kind = false from hw), List.nil_append] at htd
         refine CallK.lend (news := [mHall ⟨l, m⟩ (.own 241 0 st.length) ⟨d1, d2, d3, d4⟩ cs (.own 248 0 D.length), mStates Y, rDuesN D]) [240, 241, 248] [] (h66n Y D (ownedT s3 o) hYl hw) c66 ⟨⟨rfl, rfl⟩, ⟨rfl, rfl, rfl, rfl, rfl, trivial⟩, rfl, ⟨rfl, rfl, rfl, rfl, rfl, rfl, rfl, rfl, rfl, rfl, trivial⟩, trivial⟩ (ins_hall rfl rfl rfl) rfl ⟨⟨rfl, rfl⟩, rfl⟩ rfl news_hall rfl rfl ?_
         with_reducible refine wK ?_
         by_cases e2 : s4 = b
         ·obtain rfl := e2.symm
          rw [if_pos rfl, List.append_nil] at htd
          have hYs : Y.set k ⟨s1, s2, o, b⟩ = Y := by
           apply List.ext_getElem?
           intro n
           rw [List.getElem?_set]
           by_cases e : k = n
           ·subst e; rw [if_pos rfl, if_pos (by omega), hYk]
           ·rw [if_neg e]
          rw [hYs] at hts
          repeat' (first
  | refine gK ?_ | refine aE ?_ ?_
  | ((first
   | ((with_reducible show LtK _ _ _ _ _); refine LtK.mk k rfl (by omega) ?_)
   | ((with_reducible show ElemK _ _ _ _ _); refine ElemK.mk (eState ⟨s1, s2, o, b⟩) (by rw [Nat.zero_add]; exact state_get hYk) ?_)
   | ((with_reducible refine kQ 39 ?_); refine cL h39 c39 ?_)) <;> with_reducible refine wK ?_)
  | apply trivial)
          refine NextK.mk (k + 1) (by omega) (by omega) ?_
          rw [htd, hts]
          (refine fK ?_; (with_reducible repeat' (first | exact trivial | (show _ ∧ _; refine aK ?_ ?_))); (all_goals try rfl))
          all_goals first
           | exact ⟨.refl (noRef_states _), noRef_states _⟩
           | exact ⟨.refl (noRef_duesN _), noRef_duesN _⟩
           | (simp; done)
         ·rw [if_neg e2] at htd
          have e2' : (b == s4) = false := by cases b <;> cases s4 <;> simp at e2 ⊢
          (have fct := e2'; (repeat' (first
  | refine gF ?_ | refine aE ?_ ?_
  | ((first
   | ((with_reducible show LtK _ _ _ _ _); refine LtK.mk k rfl (by omega) ?_)
   | ((with_reducible show ElemK _ _ _ _ _); refine ElemK.mk (eState ⟨s1, s2, o, s4⟩) (by rw [Nat.zero_add]; exact state_get hYk) ?_)
   | ((with_reducible refine kQ 39 ?_); refine cL h39 c39 ?_)) <;> with_reducible refine wK ?_)
  | apply trivial)); all_goals clear fct)
          rw [set_st Y k ⟨s1, s2, o, b⟩]
          cases hw2 : hearsC ⟨c1, c2, c3, c4, c5⟩ 6 with
          | true =>
            rw [tellD_yes (show hearsC _ (barredT b).kind = true from hw2)] at htd
            have hFl : (D ++ ([⟨(k : Int), barredT b⟩] : List DueN)).length = D.length + 1 := by simp
            refine CallK.lend (news := [mHall ⟨l, m⟩ (.own 241 0 st.length) ⟨d1, d2, d3, d4⟩ cs (.own 911 0 (D.length + 1)), mStates (Y.set k ⟨s1, s2, o, b⟩), .dead, rDuesN (D ++ [⟨(k : Int), barredT b⟩])]) [240, 241, 248, 911] [] (h66y (Y.set k ⟨s1, s2, o, b⟩) D (barredT b) (by simp; omega) (by omega) hw2) c66 ⟨⟨rfl, rfl⟩, ⟨rfl, rfl, rfl, rfl, rfl, trivial⟩, rfl, ⟨rfl, rfl, rfl, rfl, rfl, rfl, rfl, rfl, rfl, rfl, trivial⟩, trivial⟩ (ins_hall rfl rfl rfl) rfl ⟨⟨rfl, rfl⟩, rfl⟩ rfl news_tell rfl rfl ?_
            with_reducible refine wK ?_
            repeat' (first
  | refine gK ?_ | refine aE ?_ ?_
  | apply trivial)
            refine NextK.mk (k + 1) (by omega) (by omega) ?_
            rw [htd, hts]
            (refine fK ?_; (with_reducible repeat' (first | exact trivial | (show _ ∧ _; refine aK ?_ ?_))); (all_goals try rfl))
            all_goals first
             | exact ⟨.refl (noRef_states _), noRef_states _⟩
             | exact ⟨.refl (noRef_duesN _), noRef_duesN _⟩
             | (simp; done)
          | false =>
            rw [tellD_no (show hearsC _ (barredT b).kind = false from hw2), List.append_nil] at htd
            refine CallK.lend (news := [mHall ⟨l, m⟩ (.own 241 0 st.length) ⟨d1, d2, d3, d4⟩ cs (.own 248 0 D.length), mStates (Y.set k ⟨s1, s2, o, b⟩), rDuesN D]) [240, 241, 248] [] (h66n (Y.set k ⟨s1, s2, o, b⟩) D (barredT b) (by simp; omega) hw2) c66 ⟨⟨rfl, rfl⟩, ⟨rfl, rfl, rfl, rfl, rfl, trivial⟩, rfl, ⟨rfl, rfl, rfl, rfl, rfl, rfl, rfl, rfl, rfl, rfl, trivial⟩, trivial⟩ (ins_hall rfl rfl rfl) rfl ⟨⟨rfl, rfl⟩, rfl⟩ rfl news_hall rfl rfl ?_
            with_reducible refine wK ?_
            repeat' (first
  | refine gK ?_ | refine aE ?_ ?_
  | apply trivial)
            refine NextK.mk (k + 1) (by omega) (by omega) ?_
            rw [htd, hts]
            (refine fK ?_; (with_reducible repeat' (first | exact trivial | (show _ ∧ _; refine aK ?_ ?_))); (all_goals try rfl))
            all_goals first
             | exact ⟨.refl (noRef_states _), noRef_states _⟩
             | exact ⟨.refl (noRef_duesN _), noRef_duesN _⟩
             | (simp; done)
   ·have hjl : k = st.length := by simp only [decide_eq_false_iff_not] at h1; omega
    subst hjl
    repeat' (first
  | refine gK ?_ | refine aE ?_ ?_
  | (((with_reducible show DrawK _ _ _ _); refine dK ?_) <;> with_reducible refine wK ?_)
  | apply trivial)
    all_goals first | exact frz_states rfl rfl rfl htk.symm | exact frz_duesN rfl rfl rfl rfl
end Go.Proofs.Heir
end
section
set_option linter.unusedSimpArgs false
set_option linter.unusedVariables false
section
namespace Go.Am
open Go Go.RowKit Go.Lib
set_option maxRecDepth 100000
variable {P : Program} {N : Nat} {σ : AState} {o : Oper}
theorem zeroCells_one {zv : Value} (hz : zv.cells = #[zv]) (n : Nat) : (Builtin.zeroCells zv.cells n).toList = List.replicate n zv := by
 rw [hz]
 unfold Builtin.zeroCells
 apply List.ext_getElem
 ·simp
 ·intro i h1 h2
  simp [Nat.mod_one]
theorem EffOK.clear1 {y : Operand} {t e : TypeId} {tk off len : Nat} {rows : List AV} {zv : Value} (ho : o.op = .call { callee := .builtin .clear, args := #[y], argTypes := #[t] }) (ht : TSlice P t e)
  (hz : ∀ w, (zeroValue e).run P w = .ok zv w) (hzc : zv.cells = #[zv]) (hone : zv.oneCell' = true) (hcl : cells (.lit zv) = [.lit zv]) (he : σ.eval y = .own tk off len) (hpos : 0 < len) (hm : σ.mem tk = .live 1 rows false) (hfit : off + len = rows.length) (hd : o.dst = none) :
  EffOK P N o σ [tk] .any [(tk, .live 1 (rows.take off ++ List.replicate len (.lit zv)) false)] := by
 intro σ2 he2 hrd w0 W0 L μ a w K Q hs hK
 have k1 := hs.eval y
 rw [he2 y (by simp [ho, Op.operands, Call.operands]), he] at k1
 have hm2 : σ2.mem tk = .live 1 rows false := by rw [hrd tk (by simp)]; exact hm
 obtain ⟨B, hB, hobj⟩ := hs.objs tk 1 rows false hm2
 generalize hv : a.eval y = v at k1
 cases k1 with
 | ownNil _ => omega
 | @own _ _ _ cap e' n B' a1 av ap a2 a3 a4 =>
  rw [hB] at a1; cases a1
  obtain ⟨C, e1, fz, c1, c2, c3⟩ := hobj.blk av ap
  rw [c2 rfl] at c1
  have hw1 : B.wd = 1 := hobj.width
  have hle : B.o + off + 0 + (List.replicate len zv).length ≤ C.size := by
   rw [List.length_replicate]; omega
  have hst := run_storeCells_at (P := P) B.b (B.o + off) e1 (List.replicate len zv) 0 C w c1 hle (fun v hv => by rw [List.eq_of_mem_replicate hv]; exact hone)
  simp only [Nat.add_zero] at hst hle
  obtain ⟨m, rfl⟩ : ∃ m, len = m + 1 := ⟨len - 1, by omega⟩
  have hrun : (execOp a.eval o).run P w = .ok (.value (.tuple #[])) (w.setRow B.b (C.toList.take (B.o + off) ++ List.replicate (m + 1) zv ++ C.toList.drop (B.o + off + (List.replicate (m + 1) zv).length)).toArray) := by
   simp [execOp, ho, resolve, invoke, builtin, hv, Builtin.clear_, run_underlying ht, hz w, zeroCells_one hzc, hw1]
   rw [hst]
   simp [Result.andThen]
  have hw : Wide 1 (rows.take off ++ List.replicate (m + 1) (.lit zv)) := Wide.of_mem fun r hr => by
   rcases List.mem_append.1 hr with h | h
   ·obtain ⟨i, hi⟩ := List.mem_iff_getElem?.1 (List.mem_of_mem_take h)
    exact hobj.wide i r hi
   ·rw [List.eq_of_mem_replicate h, hcl]; rfl
  have hs' := hs.setObj (rows' := rows.take off ++ List.replicate (m + 1) (.lit zv)) hm2 hB av ap c1 (C' := (C.toList.take (B.o + off) ++ List.replicate (m + 1) zv ++ C.toList.drop (B.o + off + (List.replicate (m + 1) zv).length)).toArray)
   (by simp only [List.size_toArray, List.length_append, List.length_take, List.length_drop, Array.length_toList]; rw [Nat.min_eq_left (by omega)]; omega) (by simp; omega) hw (fun q c hq => by
    obtain ⟨i', j, s, q1, q2, q3, q4⟩ := flat_at hw hq
    subst q1
    obtain rfl : j = 0 := by omega
    simp only [List.getElem?_toArray, Nat.mul_one, Nat.add_zero]
    rw [List.append_assoc]
    by_cases hi : i' < off
    ·rw [List.getElem?_append_left (by simp; omega), List.getElem?_take, if_pos hi] at q2
     obtain ⟨v, v1, v2⟩ := hobj.cell ap _ c (flat_get hobj.wide q2 q3)
     refine ⟨v, ?_, v2⟩
     rw [List.getElem?_append_left (by simp; omega), List.getElem?_take, if_pos (by omega), Array.getElem?_toList]
     simpa [World.cell?, c1] using v1
    ·rw [List.getElem?_append_right (by simp; omega), List.length_take, Nat.min_eq_left (by omega)] at q2
     rw [List.getElem?_replicate] at q2
     split at q2
     ·rename_i hk
      cases q2
      rw [hcl] at q3
      cases q3
      refine ⟨zv, ?_, .lit⟩
      rw [List.getElem?_append_right (by simp; omega), List.length_take, Nat.min_eq_left (by simp only [List.length_replicate] at hle; simp; omega), List.getElem?_append_left (by simp; omega), List.getElem?_replicate, if_pos (by omega)]
     ·cases q2)
  unfold Oper.wp
  rw [hrun]
  refine hK μ _ _ ?_
  rw [hd]
  exact hs'
theorem HandK.clear {acc : Tk} {sl : SL} {m : ML} {R : Rest} {y : Operand} {t e : TypeId} {tk off len : Nat} {rows : List AV} {zv : Value} (rows' : List AV) (hrw : rows' = rows.take off ++ List.replicate len (.lit zv)) (ho : o.op = .call { callee := .builtin .clear, args := #[y], argTypes := #[t] })
  (ht : TSlice P t e) (hz : ∀ w, (zeroValue e).run P w = .ok zv w) (hzc : zv.cells = #[zv]) (hone : zv.oneCell' = true) (hcl : cells (.lit zv) = [.lit zv]) (hy : evB sl y = .own tk off len) (hpos : 0 < len) (hm : lkM m tk = .live 1 rows false) (hfit : off + len = rows.length) (hd : o.dst = none)
  (h : R [tk] .any [(tk, .live 1 rows' false)] acc sl m) : HandK P N acc sl m (o := o) (R := R) := by
 rw [evB_eq] at hy
 subst hrw
 exact ⟨_, _, _, EffOK.clear1 ho ht hz hzc hone hcl hy hpos (by rw [mem_eq]; exact hm) hfit hd, h⟩
end Go.Am
end
end
section
set_option linter.unusedSimpArgs false
set_option linter.unusedVariables false
namespace Go.Proofs.Heir
open Go Go.Am Go.RowKit Go.Lib
set_option maxRecDepth 100000
set_option maxHeartbeats 8000000
@[reducible] def mFin (l : List NodeM) (m : Int) (t : Nat) : MS := .live 3 [.agg [eNodes l, eInt m, .mapr t]] false
theorem ins_fin {m' : ML} {b t : Nat} {r : List Nat} {l : List NodeM} {m : Int} {c : List (Int × List (ByteArray × Int))} (h1 : lkM m' b = mFin l m t) (h3 : lkM m' t = idsM c) : InsM (tabR 2 0 (b :: t :: r)) [] m' [mFin l m 1, idsM c] (b :: t :: r) := by
 simp only [InsM, h1, h3]
 refine ⟨⟨trivial, .inr ⟨⟨⟨rfl, rfl, ?_, trivial⟩, trivial⟩, rfl⟩⟩, ⟨trivial, .inl ⟨rfl, noRef_ids _⟩⟩, trivial⟩
 simp [MF, tabR, lkN, Nat.beq_refl]
theorem news_fin {b t : Nat} {l : List NodeM} {m : Int} {c : List (Int × List (ByteArray × Int))} : NewsM [b, t] [mFin l m 1, idsM c] [mFin l m t, idsM c] :=
 ⟨⟨rfl, .inr ⟨rfl, rfl, rfl⟩⟩, ⟨rfl, .inl ⟨rfl, noRef_ids _⟩⟩, trivial⟩
theorem f83_ok (l : List NodeM) (m : Int) (hs : SmallN l) (hrt : rightF ⟨l, m⟩ = true) (c : List (Int × List (ByteArray × Int))) (hc : IdsOK l c) (x n : Int) (hn : thereN l n = true) :
  FnOK Tryz.prog 83 [mFin l m 1, idsM c] [eInt n, .ptr 0 0 0, .fptr (eInt x) 0] [mFin l m 1, idsM (stepC l c n)] (eBool (!decide (ownN l n = x))) := by
 have h74 := f74_ok l m hs hrt c hc n hn
 generalize stepC l c n = c2 at h74 ⊢
 generalize ownN l n = o at h74 ⊢
 refine FnOK.startC (rvs := [.tmp 4]) G G_good Tryz.func83 rfl Tryz.ntmps83 rfl rfl ?_; with_reducible refine wD ?_
 repeat' (first
  | refine gK ?_ | refine aE ?_ ?_
  | ((first
   | ((with_reducible refine kQ 74 ?_); refine CallK.lend (news := [idsM c2]) [1] [] h74 c74 ⟨⟨rfl, rfl, trivial, trivial⟩, rfl, trivial⟩ ⟨⟨rfl, .inl ⟨rfl, noRef_ids c⟩⟩, trivial⟩ rfl ⟨⟨rfl, rfl⟩, rfl⟩ rfl ⟨⟨rfl, .inl ⟨rfl, noRef_ids c2⟩⟩, trivial⟩ rfl rfl ?_)
   | ((with_reducible show DrawK _ _ _ _); refine dK ?_)) <;> with_reducible refine wK ?_)
  | apply trivial)
 all_goals first
  | rfl
  | exact ⟨.refl rfl, rfl⟩
  | exact ⟨.refl (noRef_ids _), noRef_ids _⟩
section
variable {l : List NodeM} {m x : Int} {p : Int → Bool} {ks : List Int} {cf : Nat → List (Int × List (ByteArray × Int))}
abbrev Asks (l : List NodeM) (m x : Int) (p : Int → Bool) (ks : List Int) (cf : Nat → List (Int × List (ByteArray × Int))) : Prop :=
 ∀ (j : Nat) (a : Int), ks[j]? = some a → FnOK Tryz.prog 83 [mFin l m 1, idsM (cf j)] [eInt a, .ptr 0 0 0, .fptr (eInt x) 0] [mFin l m 1, idsM (cf (j + 1))] (eBool (p a))
theorem f130_fin (hl : ks.length ≤ 100000) (hf : Asks l m x p ks cf) (n1 : Nat) (hn1 : (match ks.findIdx? p with | some i => i + 1 | none => ks.length) = n1) :
  FnOK Tryz.prog 130 [mFin l m 1, idsM (cf 0), rInts ks] [.own 2 0 ks.length, .clo (.func 83) [] [.ptr 0 0 0, .fptr (eInt x) 0]] [mFin l m 1, idsM (cf n1), rInts ks] (eInt (idxI p ks)) := by
 have hno : ∀ (j : Nat) (a : Int), ks[j]? = some a → (∀ i, ks.findIdx? p = some i → j < i) → p a = false := fun j a ha h => by
  cases hi : ks.findIdx? p with
  | none =>
    have := List.findIdx?_eq_none_iff.1 hi a (List.mem_of_getElem? ha)
    simpa using this
  | some i0 =>
    obtain ⟨h1, h2, h3⟩ := List.findIdx?_eq_some_iff_getElem.1 hi
    have h4 := h3 j (h i0 hi)
    have hj := (List.getElem?_eq_some_iff.1 ha).1
    rw [List.getElem?_eq_getElem hj] at ha
    rw [Option.some.inj ha] at h4
    simpa using h4
 have hyes : ∀ i, ks.findIdx? p = some i → ∃ a, ks[i]? = some a ∧ p a = true ∧ n1 = i + 1 ∧ idxI p ks = (i : Int) := fun i hi => by
  obtain ⟨h1, h2, h3⟩ := List.findIdx?_eq_some_iff_getElem.1 hi
  exact ⟨_, List.getElem?_eq_getElem h1, h2, by rw [← hn1, hi], by unfold idxI; rw [hi]⟩
 have hend : ks.findIdx? p = none → n1 = ks.length ∧ idxI p ks = -1 := fun hi => ⟨by rw [← hn1, hi], by unfold idxI; rw [hi]⟩
 clear hn1
 refine FnOK.startC (rvs := [.tmp 4]) G G_good Tryz.func130 rfl Tryz.ntmps130 rfl rfl ?_; with_reducible refine wD ?_
 refine LoopK.use G G_good (fun (k : Nat) => [(0, .own 2 0 ks.length), (1, .clo (.func 83) [] [.ptr 0 0 0, .fptr (eInt x) 0]), (7, eInt ks.length), (8, eInt k)])
  (fun k => [(0, mFin l m 1), (1, idsM (cf k)), (2, rInts ks)])
  (fun k => k ≤ ks.length ∧ ∀ i, ks.findIdx? p = some i → k ≤ i) (fun k => ks.length - k) 0 ⟨Nat.zero_le _, fun _ _ => Nat.zero_le _⟩ ?_ ?_
 ·(refine fK ?_; (with_reducible repeat' (first | exact trivial | (show _ ∧ _; refine aK ?_ ?_))); (all_goals try rfl))
  all_goals first
   | exact ⟨.refl rfl, rfl⟩
   | exact ⟨.refl (noRef_ids _), noRef_ids _⟩
   | exact ⟨.refl (noRef_ints _), noRef_ints _⟩
 rintro k ⟨hk, hki⟩
 with_reducible refine wK ?_
 refine IfK.mk (fun h1 => ?_) (fun h1 => ?_) <;> (try simp only [castN] at h1) <;> with_reducible refine wK ?_
 ·have hk' : k < ks.length := by simp only [decide_eq_true_eq] at h1; omega
  obtain ⟨a, ha⟩ : ∃ a, ks[k]? = some a := ⟨_, List.getElem?_eq_getElem hk'⟩
  have h83 := hf k a ha
  refine LtK.mk k rfl (by omega) ?_; with_reducible refine wK ?_
  refine ElemK.mk (eInt a) (by rw [Nat.zero_add]; exact int_get ha) ?_; with_reducible refine wK ?_
  refine CallK.lend (news := [mFin l m 1, idsM (cf (k + 1))]) [0, 1] [] h83 c83 ⟨rfl, ⟨rfl, rfl⟩, ⟨rfl, rfl⟩, trivial⟩ (ins_fin rfl rfl) rfl ⟨⟨rfl, rfl⟩, rfl⟩ rfl news_fin rfl rfl ?_
  with_reducible refine wK ?_
  cases hpa : p a with
  | true =>
    have hi : ks.findIdx? p = some k := by
     cases hi : ks.findIdx? p with
     | none =>
       have := List.findIdx?_eq_none_iff.1 hi a (List.mem_of_getElem? ha)
       rw [hpa] at this; simp at this
     | some i0 =>
       have h2 := hki i0 hi
       by_cases e : k = i0
       ·rw [e]
       ·have := hno k a ha fun i hi' => by rw [hi] at hi'; cases hi'; omega
        rw [hpa] at this; cases this
    obtain ⟨_, _, _, g3, g4⟩ := hyes k hi
    rw [g4]
    subst g3
    repeat' (first
  | refine gK ?_ | refine aE ?_ ?_
  | apply trivial)
    all_goals first
     | rfl
     | exact ⟨.refl rfl, rfl⟩
     | exact ⟨.refl (noRef_ids _), noRef_ids _⟩
     | exact ⟨.refl (noRef_ints _), noRef_ints _⟩
  | false =>
    repeat' (first
  | refine gK ?_ | refine aE ?_ ?_
  | apply trivial)
    refine NextK.mk (k + 1) ⟨by omega, fun i hi => ?_⟩ (by omega) ?_
    ·have h2 := hki i hi
     by_cases e : k = i
     ·obtain ⟨b, hb, hpb, _⟩ := hyes i hi
      rw [← e, ha] at hb
      cases hb
      rw [hpa] at hpb; cases hpb
     ·omega
    ·(refine fK ?_; (with_reducible repeat' (first | exact trivial | (show _ ∧ _; refine aK ?_ ?_))); (all_goals try rfl))
     all_goals first
      | exact ⟨.refl rfl, rfl⟩
      | exact ⟨.refl (noRef_ids _), noRef_ids _⟩
      | exact ⟨.refl (noRef_ints _), noRef_ints _⟩
 ·have hkl : k = ks.length := by simp only [decide_eq_false_iff_not] at h1; omega
  subst hkl
  have hi : ks.findIdx? p = none := by
   cases hi : ks.findIdx? p with
   | none => rfl
   | some i0 =>
     have h2 := hki i0 hi
     have := (List.findIdx?_eq_some_iff_getElem.1 hi).1
     omega
  obtain ⟨g1, g2⟩ := hend hi
  rw [g2]
  subst g1
  repeat' (first
  | refine gK ?_ | refine aE ?_ ?_
  | apply trivial)
  all_goals first
   | rfl
   | exact ⟨.refl rfl, rfl⟩
   | exact ⟨.refl (noRef_ids _), noRef_ids _⟩
   | exact ⟨.refl (noRef_ints _), noRef_ints _⟩
end
def keptI (p : Int → Bool) (l : List Int) : List Int := l.filter fun x => !p x
theorem ins_fin3 {m' : ML} {b t q : Nat} {l : List NodeM} {m : Int} {c : List (Int × List (ByteArray × Int))} {ks : List Int} (h1 : lkM m' b = mFin l m t) (h3 : lkM m' t = idsM c) (h4 : lkM m' q = rInts ks) : InsM (tabR 3 0 [b, t, q]) [] m' [mFin l m 1, idsM c, rInts ks] [b, t, q] := by
 simp only [InsM, h1, h3, h4]
 refine ⟨⟨trivial, .inr ⟨⟨⟨rfl, rfl, ?_, trivial⟩, trivial⟩, rfl⟩⟩, ⟨trivial, .inl ⟨rfl, noRef_ids _⟩⟩, ⟨trivial, .inl ⟨rfl, noRef_ints _⟩⟩, trivial⟩
 simp [MF, tabR, lkN, Nat.beq_refl]
theorem news_fin3 {b t q : Nat} {l : List NodeM} {m : Int} {c : List (Int × List (ByteArray × Int))} {ks : List Int} : NewsM [b, t, q] [mFin l m 1, idsM c, rInts ks] [mFin l m t, idsM c, rInts ks] :=
 ⟨⟨rfl, .inr ⟨rfl, rfl, rfl⟩⟩, ⟨rfl, .inl ⟨rfl, noRef_ids _⟩⟩, ⟨rfl, .inl ⟨rfl, noRef_ints _⟩⟩, trivial⟩
set_option maxHeartbeats 16000000 in
theorem f82_fin {l : List NodeM} {m y : Int} {p : Int → Bool} {ks : List Int} {cf : Nat → List (Int × List (ByteArray × Int))} (hl : ks.length ≤ 100000) (hf : Asks l m y p ks cf) :
  FnOK Tryz.prog 82 [mFin l m 1, idsM (cf 0), rInts ks] [.own 2 0 ks.length, .clo (.func 83) [] [.ptr 0 0 0, .fptr (eInt y) 0]]
   [mFin l m 1, idsM (cf ks.length), rInts (keptI p ks ++ List.replicate (ks.length - (keptI p ks).length) 0)] (.own 2 0 (keptI p ks).length) := by
 have hlm : (ks.map oInt).length = ks.length := List.length_map ..
 have h130 := fun n1 => f130_fin hl hf n1
 cases hi : ks.findIdx? p with
 | none =>
   have e1 : idxI p ks = -1 := by unfold idxI; rw [hi]
   have e2 : keptI p ks = ks := by
    unfold keptI; rw [List.filter_eq_self]; intro a ha
    have := List.findIdx?_eq_none_iff.1 hi a ha
    simpa using this
   have h130 := h130 ks.length (by rw [hi])
   rw [e1] at h130
   rw [e2, Nat.sub_self, List.replicate_zero, List.append_nil]
   refine FnOK.startC (rvs := [.tmp 4]) G G_good Tryz.func82 rfl Tryz.ntmps82 rfl rfl ?_; delta List.toArray; (with_reducible ((conv => whnf); (conv => congr <;> reduce); repeat ((first | refine hK ?_ | refine sK ?_); (conv => whnf); (conv => congr <;> reduce))))
   refine CallK.lend (news := [mFin l m 1, idsM (cf ks.length), rInts ks]) [0, 1, 2] [] h130 c130 ⟨⟨rfl, rfl⟩, ⟨rfl, trivial, ⟨rfl, rfl⟩, ⟨rfl, rfl⟩, trivial⟩, trivial⟩ (ins_fin3 rfl rfl rfl) rfl ⟨⟨rfl, rfl⟩, rfl⟩ rfl news_fin3 rfl rfl ?_; (with_reducible ((conv => whnf); (conv => congr <;> reduce); repeat ((first | refine hK ?_ | refine sK ?_); (conv => whnf); (conv => congr <;> reduce))))
   repeat' (first
  | (first
  | ((with_reducible show IfK _ _ _ _); first | refine IfK.ff ?_ | refine IfK.tt ?_ | refine IfK.no (by first | exact qA | ((try simp only [castN]); first | (simp []; done) | (simp []; omega))) ?_ | refine IfK.yes (by first | exact qA | ((try simp only [castN]); first | (simp []; done) | (simp []; omega))) ?_)
  | ((with_reducible show NeedK _ _ _ _); refine nK ?_)
  | ((with_reducible show DrawK _ _ _ _); refine dK ?_)) <;> (with_reducible ((conv => whnf); (conv => congr <;> reduce); repeat ((first | refine hK ?_ | refine sK ?_); (conv => whnf); (conv => congr <;> reduce))))
  | ((with_reducible show (_ ∧ _) ∧ _ ∧ _); refine ⟨⟨rfl, rfl⟩, ?_, ?_⟩ <;> with_reducible ((conv => whnf) <;> repeat' (first | exact trivial | (refine And.intro ?_ ?_ <;> (conv => whnf))))))
   all_goals first
    | rfl
    | exact ⟨.refl rfl, rfl⟩
    | exact ⟨.refl (noRef_ids _), noRef_ids _⟩
    | exact ⟨.refl (noRef_ints _), noRef_ints _⟩
 | some i0 =>
   have e1 : idxI p ks = (i0 : Int) := by unfold idxI; rw [hi]
   have h130 := h130 (i0 + 1) (by rw [hi])
   rw [e1] at h130
   obtain ⟨hi1, hi2, hi3⟩ := List.findIdx?_eq_some_iff_getElem.1 hi
   obtain ⟨kp, hkp⟩ : ∃ kp : Nat → List Int, kp = fun j => keptI p (ks.take j) := ⟨_, rfl⟩
   have hk1 : kp (i0 + 1) = ks.take i0 := by
    rw [hkp]; unfold keptI
    show List.filter _ (ks.take (i0 + 1)) = _
    rw [List.take_add_one, List.getElem?_eq_getElem hi1, List.filter_append]
    have h1 : List.filter (fun x => !p x) (ks.take i0) = ks.take i0 := by
     rw [List.filter_eq_self]; intro a ha
     obtain ⟨j, hj, rfl⟩ := List.mem_iff_getElem.1 ha
     rw [List.getElem_take]
     simp only [List.length_take] at hj
     have := hi3 j (by omega)
     simpa using this
    rw [h1]; simp [hi2]
   have hstep : ∀ (j : Nat) (x : Int), ks[j]? = some x → kp (j + 1) = kp j ++ if p x = true then [] else [x] := fun j x hx => by
    rw [hkp]; unfold keptI
    show List.filter _ (ks.take (j + 1)) = _
    rw [List.take_add_one, hx, List.filter_append]
    congr 1
    show List.filter _ [x] = _
    rw [List.filter_cons]
    cases p x <;> rfl
   have hend : kp ks.length = keptI p ks := by rw [hkp]; show keptI p (ks.take ks.length) = _; rw [List.take_length]
   have hl1 : kp (i0 + 1) ++ [ks[i0]] ++ ks.drop (i0 + 1) = ks := by
    rw [hk1, List.append_assoc, List.singleton_append, ← List.drop_eq_getElem_cons hi1, List.take_append_drop]
   refine FnOK.startC (rvs := [.tmp 4]) G G_good Tryz.func82 rfl Tryz.ntmps82 rfl rfl ?_; delta List.toArray; (with_reducible ((conv => whnf); (conv => congr <;> reduce); repeat ((first | refine hK ?_ | refine sK ?_); (conv => whnf); (conv => congr <;> reduce))))
   refine CallK.lend (news := [mFin l m 1, idsM (cf (i0 + 1)), rInts ks]) [0, 1, 2] [] h130 c130 ⟨⟨rfl, rfl⟩, ⟨rfl, trivial, ⟨rfl, rfl⟩, ⟨rfl, rfl⟩, trivial⟩, trivial⟩ (ins_fin3 rfl rfl rfl) rfl ⟨⟨rfl, rfl⟩, rfl⟩ rfl news_fin3 rfl rfl ?_; (with_reducible ((conv => whnf); (conv => congr <;> reduce); repeat ((first | refine hK ?_ | refine sK ?_); (conv => whnf); (conv => congr <;> reduce))))
   repeat' (first
  | (first
  | ((with_reducible show IfK _ _ _ _); first | refine IfK.ff ?_ | refine IfK.tt ?_ | refine IfK.no (by first | exact qA | ((try simp only [castN]); first | (simp []; done) | (simp []; omega))) ?_ | refine IfK.yes (by first | exact qA | ((try simp only [castN]); first | (simp []; done) | (simp []; omega))) ?_)
  | ((with_reducible show NeedK _ _ _ _); refine nK ?_)
  | ((with_reducible show DrawK _ _ _ _); refine dK ?_)) <;> (with_reducible ((conv => whnf); (conv => congr <;> reduce); repeat ((first | refine hK ?_ | refine sK ?_); (conv => whnf); (conv => congr <;> reduce))))
  | ((with_reducible show (_ ∧ _) ∧ _ ∧ _); refine ⟨⟨rfl, rfl⟩, ?_, ?_⟩ <;> with_reducible ((conv => whnf) <;> repeat' (first | exact trivial | (refine And.intro ?_ ?_ <;> (conv => whnf))))))
   refine LoopK.use G G_good (fun (i : Nat × List Int) => [(0, .own 2 0 ks.length), (1, .clo (.func 83) [] [.ptr 0 0 0, .fptr (eInt y) 0]), (5, eInt (kp i.1).length), (6, eInt i.1)])
    (fun i => [(0, mFin l m 1), (1, idsM (cf i.1)), (2, rInts (kp i.1 ++ i.2 ++ ks.drop i.1))])
    (fun i => i.1 ≤ ks.length ∧ (kp i.1).length + i.2.length = i.1 ∧ i.2 ≠ []) (fun i => ks.length - i.1) (i0 + 1, [ks[i0]]) ⟨by show i0 + 1 ≤ _; omega, by show (kp (i0 + 1)).length + 1 = i0 + 1; rw [hk1, List.length_take, Nat.min_eq_left (by omega)], by simp⟩ ?_ ?_
   ·(refine ⟨⟨rfl, rfl⟩, ?_⟩; (with_reducible conv => whnf); (repeat' (first | (with_reducible exact trivial) | (with_reducible refine And.intro ?_ ?_ <;> with_reducible conv => whnf))); (all_goals try rfl))
    all_goals first
     | (show ((kp (i0 + 1)).length : Int) = (i0 : Int); rw [hk1, List.length_take, Nat.min_eq_left (by omega)])
     | exact ⟨.refl rfl, rfl⟩
     | exact ⟨.refl (noRef_ids _), noRef_ids _⟩
     | (show ObjK _ ((kp (i0 + 1) ++ [ks[i0]] ++ ks.drop (i0 + 1)).map oInt) _; rw [hl1]; exact ⟨.refl (noRef_ints _), noRef_ints _⟩)
   rintro ⟨j, gar⟩ ⟨hj, hg, hg0⟩
   simp only at hj hg hg0
   (with_reducible ((conv => whnf); (conv => congr <;> reduce); repeat ((first | refine hK ?_ | refine sK ?_); (conv => whnf); (conv => congr <;> reduce))))
   have hdl : (ks.drop j).length = ks.length - j := List.length_drop ..
   have hlr : ((kp j ++ gar ++ ks.drop j).map oInt).length = ks.length := by simp; omega
   refine IfK.mk (fun h1 => ?_) (fun h1 => ?_) <;> (try simp only [castN] at h1) <;> (with_reducible ((conv => whnf); (conv => congr <;> reduce); repeat ((first | refine hK ?_ | refine sK ?_); (conv => whnf); (conv => congr <;> reduce))))
   ·simp only [decide_eq_true_eq] at h1
    have hj' : j < ks.length := by omega
    obtain ⟨x, hx⟩ : ∃ x, ks[j]? = some x := ⟨_, List.getElem?_eq_getElem hj'⟩
    have hdj : ks.drop j = x :: ks.drop (j + 1) := by
     rw [List.drop_eq_getElem_cons hj']; congr 1
     rw [List.getElem?_eq_getElem hj'] at hx; exact Option.some.inj hx
    have hst := hstep j x hx
    have h83 := hf j x hx
    rw [hdj]
    rw [hdj] at hlr
    obtain ⟨z, gar', rfl⟩ := List.exists_cons_of_ne_nil hg0
    simp only [List.length_cons] at hg
    refine LtK.mk j rfl (by omega) ?_
    (with_reducible ((conv => whnf); (conv => congr <;> reduce); repeat ((first | refine hK ?_ | refine sK ?_); (conv => whnf); (conv => congr <;> reduce))))
    refine ElemK.mk (eInt x) (by rw [Nat.zero_add, List.getElem?_map, List.getElem?_append_right (by simp; omega), show j - (kp j ++ z :: gar').length = 0 by simp; omega]; rfl) ?_; (with_reducible ((conv => whnf); (conv => congr <;> reduce); repeat ((first | refine hK ?_ | refine sK ?_); (conv => whnf); (conv => congr <;> reduce))))
    repeat' (first
  | (first
  | ((with_reducible show IfK _ _ _ _); first | refine IfK.ff ?_ | refine IfK.tt ?_ | refine IfK.no (by first | exact qA | ((try simp only [castN]); first | (simp []; done) | (simp []; omega))) ?_ | refine IfK.yes (by first | exact qA | ((try simp only [castN]); first | (simp []; done) | (simp []; omega))) ?_)
  | ((with_reducible show NeedK _ _ _ _); refine nK ?_)
  | ((with_reducible show DrawK _ _ _ _); refine dK ?_)) <;> (with_reducible ((conv => whnf); (conv => congr <;> reduce); repeat ((first | refine hK ?_ | refine sK ?_); (conv => whnf); (conv => congr <;> reduce))))
  | ((with_reducible show (_ ∧ _) ∧ _ ∧ _); refine ⟨⟨rfl, rfl⟩, ?_, ?_⟩ <;> with_reducible ((conv => whnf) <;> repeat' (first | exact trivial | (refine And.intro ?_ ?_ <;> (conv => whnf))))))
    refine CallK.lend (news := [mFin l m 1, idsM (cf (j + 1))]) [0, 1] [] h83 c83 ⟨rfl, ⟨rfl, rfl⟩, ⟨rfl, rfl⟩, trivial⟩ (ins_fin rfl rfl) rfl ⟨⟨rfl, rfl⟩, rfl⟩ rfl news_fin rfl rfl ?_; (with_reducible ((conv => whnf); (conv => congr <;> reduce); repeat ((first | refine hK ?_ | refine sK ?_); (conv => whnf); (conv => congr <;> reduce))))
    cases hp : p x with
    | true =>
      rw [hp, if_pos rfl, List.append_nil] at hst
      have hl2 : kp (j + 1) ++ (z :: gar' ++ [x]) ++ ks.drop (j + 1) = kp j ++ z :: gar' ++ x :: ks.drop (j + 1) := by rw [hst]; simp
      repeat' (first
  | (first
  | ((with_reducible show IfK _ _ _ _); first | refine IfK.ff ?_ | refine IfK.tt ?_ | refine IfK.no (by first | exact qA | ((try simp only [castN]); first | (simp []; done) | (simp []; omega))) ?_ | refine IfK.yes (by first | exact qA | ((try simp only [castN]); first | (simp []; done) | (simp []; omega))) ?_)
  | ((with_reducible show NeedK _ _ _ _); refine nK ?_)
  | ((with_reducible show DrawK _ _ _ _); refine dK ?_)) <;> (with_reducible ((conv => whnf); (conv => congr <;> reduce); repeat ((first | refine hK ?_ | refine sK ?_); (conv => whnf); (conv => congr <;> reduce))))
  | ((with_reducible show (_ ∧ _) ∧ _ ∧ _); refine ⟨⟨rfl, rfl⟩, ?_, ?_⟩ <;> with_reducible ((conv => whnf) <;> repeat' (first | exact trivial | (refine And.intro ?_ ?_ <;> (conv => whnf))))))
      refine NextK.mk (j + 1, z :: gar' ++ [x]) ⟨by show j + 1 ≤ _; omega, by show (kp (j + 1)).length + _ = j + 1; rw [hst]; simp; omega, by simp⟩ (by show ks.length - (j + 1) < ks.length - j; omega) ?_
      (refine ⟨⟨rfl, rfl⟩, ?_⟩; (with_reducible conv => whnf); (repeat' (first | (with_reducible exact trivial) | (with_reducible refine And.intro ?_ ?_ <;> with_reducible conv => whnf))); (all_goals try rfl))
      all_goals first
       | exact ⟨.refl rfl, rfl⟩
       | exact ⟨.refl (noRef_ids _), noRef_ids _⟩
       | (show ((kp (j + 1)).length : Int) = ((kp j).length : Int); rw [hst])
       | (show ObjK _ ((kp (j + 1) ++ (z :: gar' ++ [x]) ++ ks.drop (j + 1)).map oInt) _; rw [hl2]; exact ⟨.refl (noRef_ints _), noRef_ints _⟩)
    | false =>
      rw [hp, if_neg (by simp)] at hst
      have hl2 : ((kp j ++ z :: gar' ++ x :: ks.drop (j + 1)).map oInt).set (0 + (kp j).length) (eInt x) = (kp (j + 1) ++ (gar' ++ [x]) ++ ks.drop (j + 1)).map oInt := by
       rw [hst, Nat.zero_add, List.append_assoc, List.cons_append, List.map_append, List.set_append, if_neg (by simp), List.length_map, Nat.sub_self, List.map_cons, List.set_cons_zero, show eInt x = oInt x from rfl]
       simp
      repeat' (first
  | (first
  | ((with_reducible show IfK _ _ _ _); first | refine IfK.ff ?_ | refine IfK.tt ?_ | refine IfK.no (by first | exact qA | ((try simp only [castN]); first | (simp []; done) | (simp []; omega))) ?_ | refine IfK.yes (by first | exact qA | ((try simp only [castN]); first | (simp []; done) | (simp []; omega))) ?_)
  | ((with_reducible show NeedK _ _ _ _); refine nK ?_)
  | ((with_reducible show DrawK _ _ _ _); refine dK ?_)) <;> (with_reducible ((conv => whnf); (conv => congr <;> reduce); repeat ((first | refine hK ?_ | refine sK ?_); (conv => whnf); (conv => congr <;> reduce))))
  | ((with_reducible show (_ ∧ _) ∧ _ ∧ _); refine ⟨⟨rfl, rfl⟩, ?_, ?_⟩ <;> with_reducible ((conv => whnf) <;> repeat' (first | exact trivial | (refine And.intro ?_ ?_ <;> (conv => whnf))))))
      refine LtK.mk (kp j).length rfl (by omega) ?_; (with_reducible ((conv => whnf); (conv => congr <;> reduce); repeat ((first | refine hK ?_ | refine sK ?_); (conv => whnf); (conv => congr <;> reduce))))
      refine ElemK.mk (eInt z) (by rw [Nat.zero_add, List.getElem?_map, List.append_assoc, List.getElem?_append_right (Nat.le_refl _), Nat.sub_self]; rfl) ?_; (with_reducible ((conv => whnf); (conv => congr <;> reduce); repeat ((first | refine hK ?_ | refine sK ?_); (conv => whnf); (conv => congr <;> reduce))))
      rw [hl2]
      repeat' (first
  | (first
  | ((with_reducible show IfK _ _ _ _); first | refine IfK.ff ?_ | refine IfK.tt ?_ | refine IfK.no (by first | exact qA | ((try simp only [castN]); first | (simp []; done) | (simp []; omega))) ?_ | refine IfK.yes (by first | exact qA | ((try simp only [castN]); first | (simp []; done) | (simp []; omega))) ?_)
  | ((with_reducible show NeedK _ _ _ _); refine nK ?_)
  | ((with_reducible show DrawK _ _ _ _); refine dK ?_)) <;> (with_reducible ((conv => whnf); (conv => congr <;> reduce); repeat ((first | refine hK ?_ | refine sK ?_); (conv => whnf); (conv => congr <;> reduce))))
  | ((with_reducible show (_ ∧ _) ∧ _ ∧ _); refine ⟨⟨rfl, rfl⟩, ?_, ?_⟩ <;> with_reducible ((conv => whnf) <;> repeat' (first | exact trivial | (refine And.intro ?_ ?_ <;> (conv => whnf))))))
      refine NextK.mk (j + 1, gar' ++ [x]) ⟨by show j + 1 ≤ _; omega, by show (kp (j + 1)).length + _ = j + 1; rw [hst]; simp; omega, by simp⟩ (by show ks.length - (j + 1) < ks.length - j; omega) ?_
      (refine ⟨⟨rfl, rfl⟩, ?_⟩; (with_reducible conv => whnf); (repeat' (first | (with_reducible exact trivial) | (with_reducible refine And.intro ?_ ?_ <;> with_reducible conv => whnf))); (all_goals try rfl))
      all_goals first
       | exact ⟨.refl rfl, rfl⟩
       | exact ⟨.refl (noRef_ids _), noRef_ids _⟩
       | exact ⟨.refl (noRef_ints _), noRef_ints _⟩
       | (show ((kp (j + 1)).length : Int) = ((kp j).length : Int) + 1; rw [hst]; simp)
   ·simp only [decide_eq_false_iff_not] at h1
    obtain rfl : j = ks.length := by omega
    repeat' (first
  | (first
  | ((with_reducible show IfK _ _ _ _); first | refine IfK.ff ?_ | refine IfK.tt ?_ | refine IfK.no (by first | exact qA | ((try simp only [castN]); first | (simp []; done) | (simp []; omega))) ?_ | refine IfK.yes (by first | exact qA | ((try simp only [castN]); first | (simp []; done) | (simp []; omega))) ?_)
  | ((with_reducible show NeedK _ _ _ _); refine nK ?_)
  | ((with_reducible show DrawK _ _ _ _); refine dK ?_)) <;> (with_reducible ((conv => whnf); (conv => congr <;> reduce); repeat ((first | refine hK ?_ | refine sK ?_); (conv => whnf); (conv => congr <;> reduce))))
  | ((with_reducible show (_ ∧ _) ∧ _ ∧ _); refine ⟨⟨rfl, rfl⟩, ?_, ?_⟩ <;> with_reducible ((conv => whnf) <;> repeat' (first | exact trivial | (refine And.intro ?_ ?_ <;> (conv => whnf))))))
    refine CutK.mk (kp ks.length).length gar.length rfl (by (try simp only [castN]); omega) (by omega) ?_; (with_reducible ((conv => whnf); (conv => congr <;> reduce); repeat ((first | refine hK ?_ | refine sK ?_); (conv => whnf); (conv => congr <;> reduce))))
    have hpos : 0 < gar.length := List.length_pos_iff.2 hg0
    refine HandK.clear ((kp ks.length ++ List.replicate gar.length 0).map oInt) (by
    rw [Nat.zero_add, List.map_append, List.map_append, List.map_append, List.append_assoc, List.take_left' (List.length_map ..), List.map_replicate]; rfl) rfl Tryz.underlying32 Tryz.zeroValue3 rfl rfl rfl rfl hpos rfl (by simp) rfl ?_; (with_reducible ((conv => whnf); (conv => congr <;> reduce); repeat ((first | refine hK ?_ | refine sK ?_); (conv => whnf); (conv => congr <;> reduce))))
    repeat' (first
  | (first
  | ((with_reducible show IfK _ _ _ _); first | refine IfK.ff ?_ | refine IfK.tt ?_ | refine IfK.no (by first | exact qA | ((try simp only [castN]); first | (simp []; done) | (simp []; omega))) ?_ | refine IfK.yes (by first | exact qA | ((try simp only [castN]); first | (simp []; done) | (simp []; omega))) ?_)
  | ((with_reducible show NeedK _ _ _ _); refine nK ?_)
  | ((with_reducible show DrawK _ _ _ _); refine dK ?_)) <;> (with_reducible ((conv => whnf); (conv => congr <;> reduce); repeat ((first | refine hK ?_ | refine sK ?_); (conv => whnf); (conv => congr <;> reduce))))
  | ((with_reducible show (_ ∧ _) ∧ _ ∧ _); refine ⟨⟨rfl, rfl⟩, ?_, ?_⟩ <;> with_reducible ((conv => whnf) <;> repeat' (first | exact trivial | (refine And.intro ?_ ?_ <;> (conv => whnf))))))
    refine CutK.mk 0 (kp ks.length).length rfl (by (try simp only [castN]); omega) (by omega) ?_; (with_reducible ((conv => whnf); (conv => congr <;> reduce); repeat ((first | refine hK ?_ | refine sK ?_); (conv => whnf); (conv => congr <;> reduce))))
    repeat' (first
  | (first
  | ((with_reducible show IfK _ _ _ _); first | refine IfK.ff ?_ | refine IfK.tt ?_ | refine IfK.no (by first | exact qA | ((try simp only [castN]); first | (simp []; done) | (simp []; omega))) ?_ | refine IfK.yes (by first | exact qA | ((try simp only [castN]); first | (simp []; done) | (simp []; omega))) ?_)
  | ((with_reducible show NeedK _ _ _ _); refine nK ?_)
  | ((with_reducible show DrawK _ _ _ _); refine dK ?_)) <;> (with_reducible ((conv => whnf); (conv => congr <;> reduce); repeat ((first | refine hK ?_ | refine sK ?_); (conv => whnf); (conv => congr <;> reduce))))
  | ((with_reducible show (_ ∧ _) ∧ _ ∧ _); refine ⟨⟨rfl, rfl⟩, ?_, ?_⟩ <;> with_reducible ((conv => whnf) <;> repeat' (first | exact trivial | (refine And.intro ?_ ?_ <;> (conv => whnf))))))
    all_goals first
     | exact ⟨.refl rfl, rfl⟩
     | exact ⟨.refl (noRef_ids _), noRef_ids _⟩
     | (rw [hend]; done)
     | (rw [← hend, show ks.length - (kp ks.length).length = gar.length by omega]; exact ⟨.refl (noRef_ints _), noRef_ints _⟩)
     | (show ObjK _ ((keptI p ks ++ List.replicate (ks.length - (keptI p ks).length) 0).map oInt) _; rw [← hend, show ks.length - (kp ks.length).length = gar.length by omega]; exact ⟨.refl (noRef_ints _), noRef_ints _⟩)
end Go.Proofs.Heir
end
section
set_option linter.unusedSimpArgs false
set_option linter.unusedVariables false
namespace Go.Am
open Go
section
variable {P : Program}
@[reducible] def AfterR (P : Program) (N nL : Nat) (b : Code) (Q : Exit → SL → ML → Prop) : Exit → SL → ML → Prop := fun e sl m => match e with
 | .normal => LoopK P N nL sl m (c := b) (Q := Q)
 | e => Q e sl m
theorem AfterR.ok {N nL : Nat} {Γ : TEnv} (hΓ : Γ.Good P) {a b : Code} {sl : SL} {m : ML} {Q : Exit → SL → ML → Prop} (h : wpC P N nL Γ a sl m (AfterR P N nL b Q)) : AWp P N nL (.seq a b) (toA Q) (St sl m) := by
 refine AWp.seq ((wpC_ok hΓ _ _ _ _ h).mono ?_)
 rintro e σ ⟨sl', m', rfl, h'⟩
 cases e with
 | normal => exact h'
 | _ => exact ⟨sl', m', rfl, h'⟩
theorem LoopK.run {N nL : Nat} {sl : SL} {m : ML} {c : Code} {Q : Exit → SL → ML → Prop} (Γ : TEnv) (hΓ : Γ.Good P) (h : wpC P N nL Γ c sl m Q) : LoopK P N nL sl m (c := c) (Q := Q) := wpC_ok hΓ _ _ _ _ h
theorem FnOK.startS {f : FuncId} {fn : Func} {a1 b1 : Code} {ins outs : List MS} {args : List AV} {res : AV} {N : Nat} {rvs : List ResultVar} (Γ : TEnv) (hΓ : Γ.Good P) (hf : P.funcs[f]? = some fn) (hb : fn.body = some (.seq a1 b1)) (hN : fn.ntmps = N) (hr : fn.results.toList = rvs)
  (hlen : Nat.ble (lenR args) N = true) (h : wpC P N (lenR ins) Γ a1 (argsR 0 args) (objsR 0 ins) (AfterR P N (lenR ins) b1 (EndR Γ (lenR ins) rvs outs res))) : FnOK P f ins args outs res := by
 subst hN; subst hr
 have hlen : args.length ≤ fn.ntmps := by rw [← lenR_eq]; exact ble_le hlen
 intro w W0 L vs hL hs hr
 have h := AfterR.ok hΓ h
 rw [argsR_eq, objsR_eq, lenR_eq] at h
 have hst : (⟨fun i => args.getD i .any, objsOf ins⟩ : AState) = St (argsS 0 args) (objsS 0 ins) := by
  unfold St
  congr 1
  ·funext i; rw [argsS_look]; simp
  ·exact (objsS_objsOf ins).symm
 have hsim : Sim P fn.ntmps w W0 L L ⟨fun i => args.getD i .any, objsOf ins⟩ { tmps := vs.toArray ++ Array.replicate (fn.ntmps - vs.toArray.size) undef, defers := [] } w := by
  refine ⟨?_, .nil, hs.os, hs.tape, hs.output, hs.hsize, hs.shp, hs.keep, hs.w0lt, hs.lentμ, hs.free, fun i => ?_, hs.objs, hs.inj, hs.out, hs.tabs⟩
  ·simp [hr.1]; omega
  ·by_cases hi : i < args.length
   ·have h1 : args[i]? = some args[i] := List.getElem?_eq_getElem hi
    have h2 : vs[i]? = some (vs[i]'(by rw [hr.1]; exact hi)) := List.getElem?_eq_getElem _
    have := hr.2 i _ _ h1 h2
    have hv : (vs.toArray ++ Array.replicate (fn.ntmps - vs.toArray.size) undef).getD i undef = vs[i]'(by rw [hr.1]; exact hi) := by
     rw [Array.getD_eq_getD_getElem?, Array.getElem?_append_left (by simp; rw [hr.1]; exact hi)]
     simp [h2]
    simp only [hv, List.getD_eq_getElem?_getD, h1, Option.getD_some]
    exact this
   ·simp only [List.getD_eq_getElem?_getD, List.getElem?_eq_none (Nat.le_of_not_lt hi), Option.getD_none]
    exact .any
 rw [hst] at hsim
 refine calls_of_awp hf hb h (fun t ht => hL t (by omega)) hsim (fun e σ' ⟨sl, m, _, hend⟩ => ?_) ?_
 ·cases e with
  | normal => exact .inl rfl
  | ret => exact .inr rfl
  | _ => exact hend.elim
 rintro e σ' μ' a' w' ⟨sl, m, rfl, hend⟩ hs' hd
 have key : endG Γ ins.length fn.results.toList outs res (ghAll outs fn.results.toList (resL fn.results.toList res) sl m) → ∃ v, (results fn a'.tmps).run P w' = .ok v w' ∧ ∃ v_1 μ', Ending.returned v = .returned v_1 ∧ Sim P 0 w W0 L μ' (bare outs) noAct w' ∧ Rep (Wr W0 μ' (objsOf outs)) μ' w' res v_1 := by
  intro hend
  obtain ⟨μ2, hs2⟩ := ghAll_sim (outs := outs) fn.results.toList (resL fn.results.toList res) sl m μ' hs'
  generalize ghAll outs fn.results.toList (resL fn.results.toList res) sl m = q at hend hs2
  obtain ⟨sl2, m2⟩ := q
  simp only [endG] at hend
  split at hend
  ·rename_i xs hxs
   have hres := (resB_ok hΓ hxs).get
   obtain ⟨v, v1, v2⟩ := results_run hs2 hres.1 hres.2
   rw [ret1R_eq] at hend
   obtain ⟨μ'', h1, h2⟩ := hend.end (fun t ht _ => hL t ht) hs2 v2
   exact ⟨v, v1, v, μ'', rfl, h1, h2⟩
  ·exact hend.elim
 cases e with
 | normal => exact key hend
 | ret => exact key hend
 | _ => exact hend.elim
end
end Go.Am
end
section
set_option linter.unusedSimpArgs false
set_option linter.unusedVariables false
namespace Go.Proofs.Heir
open Go Go.Am Go.RowKit Go.Lib
set_option maxRecDepth 100000
set_option maxHeartbeats 8000000
def keepL (l : List NodeM) (ks : List Int) : Nat → List (Int × List (ByteArray × Int))
 | 0 => []
 | j + 1 => match ks[j]? with
   | some a => stepC l (keepL l ks j) a
   | none => keepL l ks j
theorem keepL_ok (l : List NodeM) (ks : List Int) : ∀ k, k ≤ 60 → IdsOK l (keepL l ks k) ∧ (keepL l ks k).length ≤ k
 | 0, _ => ⟨idsOK_nil l, Nat.le_refl _⟩
 | k + 1, h => by
   obtain ⟨h1, h2⟩ := keepL_ok l ks k (by omega)
   unfold keepL
   cases hk : ks[k]? with
   | none => exact ⟨h1, by show (keepL l ks k).length ≤ _; omega⟩
   | some a =>
     have h3 := stepC_len l (keepL l ks k) a
     exact ⟨⟨stepC_is h1.is _, by show (stepC l (keepL l ks k) a).length ≤ _; omega⟩, by show (stepC l (keepL l ks k) a).length ≤ _; omega⟩
def memV (f : ForM) (x : Int) : List Int := if (thereN f.nodes x && rightF f) = true then memF f.nodes x else []
theorem keptI_mem {l : List NodeM} {x : Int} : keptI (fun a => !decide (ownN l a = x)) (ordN l l.length (rootN l x)) = memN l x := by
 unfold keptI memN
 congr 1
 funext a
 simp
theorem frz_kept {m : ML} {fz : Nat → Bool} {tab : List (Nat × Nat)} {n t k : Nat} {ro : Bool} {rows : List AV} {l r : List Int} (h1 : lkM m t = .live 1 rows ro) (h2 : fz t = true) (h3 : rows = (l ++ r).map oInt) (h4 : k = l.length) : FrzK m fz (MF tab fz m n) (eInts l) t 0 k := by
 subst h3; subst h4
 have e : (l.map oInt).length = l.length := List.length_map ..
 exact .cut h1 h2 (by simp) (by rw [List.drop_zero, List.map_append, List.take_left' e]) (noRef_ints l)
theorem ints_outs (l : List Int) : okOuts [rInts l] := ⟨Wide.of_mem fun r hr => by
 obtain ⟨a, _, rfl⟩ := List.mem_map.1 hr
 rfl, noRef_ints l, trivial⟩
theorem f43_ok (f : ForM) (hs : SmallN f.nodes) (n : Int) : FnOK Tryz.prog 43 [] [eFor f, eInt n] [] (eInts (memV f n)) := by
 have h15 := f15_ok f hs
 have h73 := f73_ok f
 have h48 := f48_ok f hs
 have h78 := f78_own f hs
 have h83 := f83_ok f.nodes f.most hs
 have h60 := hs.len
 obtain ⟨l, m⟩ := f
 simp only at h73 h48 h78 h60 h83
 have hlm : (l.map oNode).length = l.length := List.length_map ..
 obtain ⟨o, ho⟩ : ∃ o, memV ⟨l, m⟩ n = o := ⟨_, rfl⟩
 rw [ho]
 unfold memV at ho
 simp only at ho
 refine FnOK.startS (rvs := [.tmp 4]) G G_good Tryz.func43 rfl Tryz.ntmps43 rfl rfl ?_; with_reducible refine wD ?_
 refine LoopK.fit (sl' := [(2, .fptr (eFor ⟨l, m⟩) 0), (3, .fptr (eInt n) 0), (4, nilA)]) (m' := []) ?_ ?_
 ·(refine fK ?_; (with_reducible repeat' (first | exact trivial | (show _ ∧ _; refine aK ?_ ?_))); (all_goals try rfl))
  all_goals first
   | exact ⟨2, [eFor ⟨l, m⟩], false, eFor ⟨l, m⟩, eFor ⟨l, m⟩, rfl, rfl, rfl, rfl, rfl, ⟨rfl, rfl, trivial⟩⟩
   | exact ⟨1, [eInt n], false, eInt n, eInt n, rfl, rfl, rfl, rfl, rfl, rfl⟩
   | exact .inl rfl
 refine LoopK.run G G_good ?_
 with_reducible refine wK ?_
 cases ht : thereN l n with
 | false =>
   have ht' : ¬ (0 ≤ n ∧ n < (l.length : Int)) := fun h => by
    unfold thereN at ht; simp [h.1, h.2] at ht
   rw [ht, Bool.false_and, if_neg (by simp)] at ho
   subst ho
   by_cases e1 : n < 0
   ·(have fct := (eq_true e1); (repeat' (first
  | refine gF ?_ | refine aE ?_ ?_
  | apply trivial)); all_goals clear fct)
    all_goals exact .inr (.inr ⟨1, rfl⟩)
   ·have e2 : (l.length : Int) ≤ n := by omega
    (have fct := And.intro (eq_false e1) (And.intro hlm ((eq_true e2))); (repeat' (first
  | refine gF ?_ | refine aE ?_ ?_
  | apply trivial)); all_goals clear fct)
    all_goals exact .inr (.inr ⟨1, rfl⟩)
 | true =>
   obtain ⟨e1, e2⟩ := there_pos ht
   have e1' : ¬ n < 0 := by omega
   have e2' : ¬ (l.length : Int) ≤ n := by omega
   cases hr : rightF ⟨l, m⟩ with
   | false =>
     rw [hr] at h15
     rw [ht, hr, Bool.true_and, if_neg (by simp)] at ho
     subst ho
     (have fct := And.intro (eq_false e1') (And.intro hlm ((eq_false e2'))); (repeat' (first
  | refine gF ?_ | refine aE ?_ ?_
  | (((with_reducible refine kQ 15 ?_); refine cL h15 c15 ?_) <;> with_reducible refine wK ?_)
  | apply trivial)); all_goals clear fct)
     all_goals exact .inr (.inr ⟨1, rfl⟩)
   | true =>
     rw [hr] at h15
     rw [ht, hr, Bool.true_and, if_pos rfl] at ho
     have T : Tree l := tree_of hr
     have h48 := h48 hr n ht
     have hrt := (root_there T n ht).1
     have h78 := h78 (rootN l n) (by rw [hr, show thereN l (rootN l n) = true from hrt]; rfl)
     have hol := ord_len T l.length hrt
     have hot : ∀ k ∈ ordN l l.length (rootN l n), thereN l k = true := fun k hk => (ord_root T hrt hk).1
     have hkp := keptI_mem (l := l) (x := n)
     obtain ⟨p, hp⟩ : ∃ p : Int → Bool, p = fun a => !decide (ownN l a = n) := ⟨_, rfl⟩
     rw [← hp] at hkp
     generalize ordN l l.length (rootN l n) = ks at h78 hol hot hkp
     have hasks : Asks l m n p ks (keepL l ks) := fun j a ha => by
      have hj := (List.getElem?_eq_some_iff.1 ha).1
      have := h83 hr (keepL l ks j) (keepL_ok l ks j (by omega)).1 n a (hot a (List.mem_of_getElem? ha))
      have e : keepL l ks (j + 1) = stepC l (keepL l ks j) a := by show (match ks[j]? with | some a => stepC l (keepL l ks j) a | none => keepL l ks j) = _; rw [ha]
      rw [e, hp]
      exact this
     have h82 := f82_fin (show ks.length ≤ 100000 by omega) hasks
     rw [hkp] at h82
     have hk0 : keepL l ks 0 = [] := rfl
     rw [hk0] at h82
     unfold memF at ho
     generalize memN l n = mm at h82 ho
     generalize keepL l ks ks.length = c2 at h82
     generalize List.replicate (ks.length - mm.length) (0 : Int) = gar at h82
     generalize rootN l n = r at h48 h78
     obtain ⟨i, x, e, hx, hnx⟩ := there_iff.1 ht
     rw [hnx] at ho
     have h81 := f81_ok x
     obtain ⟨fm, hfm⟩ : ∃ fm, isForm x = fm := ⟨_, rfl⟩
     rw [hfm] at h81 ho
     obtain ⟨a1, a2, a3, a4, a5, a6, a7, a8, a9, a10⟩ := x
     clear hfm
     cases fm with
     | false =>
       rw [if_neg (by simp)] at ho
       subst ho
       (have fct := And.intro (eq_false e1') (And.intro hlm ((eq_false e2'))); (repeat' (first
  | refine gF ?_ | refine aE ?_ ?_
  | ((first
   | ((with_reducible refine kQ 15 ?_); refine cL h15 c15 ?_)
   | (refine IdxK.mk i (eNode _) e (node_get hx) ?_)
   | ((with_reducible refine kQ 81 ?_); refine cL h81 c81 ?_)) <;> with_reducible refine wK ?_)
  | apply trivial)); all_goals clear fct)
       all_goals exact .inr (.inr ⟨1, rfl⟩)
     | true =>
       rw [if_pos rfl] at ho
       subst ho
       (have fct := And.intro (eq_false e1') (And.intro hlm ((eq_false e2'))); (repeat' (first
  | refine gF ?_ | refine aE ?_ ?_
  | ((first
   | ((with_reducible refine kQ 15 ?_); refine cL h15 c15 ?_)
   | (refine IdxK.mk i (eNode _) e (node_get hx) ?_)
   | ((with_reducible refine kQ 81 ?_); refine cL h81 c81 ?_)
   | ((with_reducible refine kQ 73 ?_); refine CallK.new 301 [] h73 c73 ⟨⟨rfl, rfl, trivial⟩, trivial⟩ rfl rfl rfl ⟨.nil _, rfl, trivial⟩ rfl ?_)
   | ((with_reducible refine kQ 48 ?_); refine cL h48 c48 ?_)
   | ((with_reducible refine kQ 78 ?_); refine CallK.new 351 [] h78 c78 ⟨⟨rfl, rfl, trivial⟩, rfl, trivial⟩ rfl rfl rfl (ints_outs ks) rfl ?_)) <;> with_reducible refine wK ?_)
  | apply trivial)); all_goals clear fct)
       refine CallK.lend (news := [mFin l m 301, idsM c2, rInts (mm ++ gar)]) [50, 301, 351] [] h82 c82 ⟨⟨rfl, rfl⟩, ⟨rfl, trivial, ⟨rfl, rfl⟩, ⟨rfl, rfl⟩, trivial⟩, trivial⟩ (ins_fin3 rfl rfl rfl) rfl ⟨⟨rfl, rfl⟩, rfl⟩ rfl news_fin3 rfl rfl ?_
       with_reducible refine wK ?_
       repeat' (first
  | refine gK ?_ | refine aE ?_ ?_
  | apply trivial)
       all_goals first | exact frz_kept rfl rfl rfl rfl
def rDu (f : ForM) (d : DeskM) (cs : List ClassM) (st : List StateM) (ms : List Int) (k : Nat) : List DueN := (ms.take k).flatMap (resetD f d cs st)
theorem rDu_step {f : ForM} {d : DeskM} {cs : List ClassM} {st : List StateM} {ms : List Int} {k : Nat} {c : Int} (h : ms[k]? = some c) : rDu f d cs st ms (k + 1) = rDu f d cs st ms k ++ resetD f d cs st c := by
 unfold rDu; rw [List.take_add_one, h, List.flatMap_append]; simp
theorem resetD_len (f : ForM) (d : DeskM) (cs : List ClassM) (st : List StateM) (c : Int) : (resetD f d cs st c).length ≤ 1 := by
 unfold resetD
 split
 ·exact tellD_len _ _ _
 ·simp
theorem rDu_len (f : ForM) (d : DeskM) (cs : List ClassM) (st : List StateM) (ms : List Int) : ∀ k, (rDu f d cs st ms k).length ≤ k
 | 0 => Nat.le_refl _
 | k + 1 => by
   have := rDu_len f d cs st ms k
   cases h : ms[k]? with
   | none =>
     have h1 : ms.take (k + 1) = ms.take k := by rw [List.take_add_one, h]; simp
     unfold rDu at this ⊢
     rw [h1]; omega
   | some c =>
     rw [rDu_step h, List.length_append]
     have := resetD_len f d cs st c
     omega
theorem resetDu_eq {f : ForM} {st : List StateM} {d : DeskM} {cs : List ClassM} {x : Int} (h : lookV f st d = true) : resetDu f st d cs x = rDu f d cs st (memV f x) (memV f x).length := by
 have hr : rightF f = true := by
  unfold lookV at h
  simp only [Bool.and_eq_true] at h
  exact h.1.2
 unfold resetDu rDu memV
 rw [List.take_length, hr, h, Bool.and_true]
 cases thereN f.nodes x <;> simp
theorem memV_there {f : ForM} {x c : Int} (h : c ∈ memV f x) : thereN f.nodes c = true := by
 unfold memV at h
 split at h
 ·rename_i e
  obtain ⟨e1, e2⟩ : thereN f.nodes x = true ∧ rightF f = true := by simpa using e
  exact (mem_facts (tree_of e2) e1 h).1
 ·cases h
theorem memV_len {f : ForM} (x : Int) : (memV f x).length ≤ f.nodes.length := by
 unfold memV
 split
 ·rename_i e
  obtain ⟨e1, e2⟩ : thereN f.nodes x = true ∧ rightF f = true := by simpa using e
  exact mem_len (tree_of e2) e1
 ·simp
theorem f25_ok (f : ForM) (hs : SmallN f.nodes) (st : List StateM) (hst : st.length ≤ 1000) (d : DeskM) (hd : SmallD d) (cs : List ClassM) (hcs : ∀ c ∈ cs, c.hooks.length ≤ 100000) (x : Int) :
  FnOK Tryz.prog 25 [] [eFor f, eStates st, eDesk d, eClasses cs, eInt x] [] (eDuesN (resetDu f st d cs x)) := by
 have h64 := f64_ok f hs st (by omega) d hd cs
 obtain ⟨od, hod⟩ : ∃ x', resetDu f st d cs x = x' := ⟨_, rfl⟩
 rw [hod]
 obtain ⟨lv, hlv⟩ : ∃ lv, lookV f st d = lv := ⟨_, rfl⟩
 rw [hlv] at h64
 cases lv with
 | false =>
   have h0 : od = [] := by rw [← hod]; unfold resetDu; rw [hlv]; simp
   subst h0
   obtain ⟨l, m⟩ := f
   obtain ⟨d1, d2, d3, d4⟩ := d
   refine FnOK.startC (rvs := [.tmp 10]) G G_good Tryz.func25 rfl Tryz.ntmps25 rfl rfl ?_; with_reducible refine wD ?_
   refine CallK.lend (news := [mHall ⟨l, m⟩ (.own 221 0 st.length) ⟨d1, d2, d3, d4⟩ cs nilA, mStates st]) [220, 221] [] h64 c64 ⟨⟨rfl, rfl, trivial⟩, rfl, ⟨rfl, rfl, rfl, rfl, trivial⟩, rfl, trivial⟩ trivial rfl ⟨⟨rfl, rfl⟩, rfl⟩ rfl ⟨⟨rfl, .inr ⟨rfl, rfl, rfl⟩⟩, ⟨rfl, .inl ⟨rfl, noRef_states _⟩⟩, trivial⟩ rfl rfl ?_
   with_reducible refine wK ?_
   repeat' (first
  | refine gK ?_ | refine aE ?_ ?_
  | apply trivial)
   all_goals exact .inr (.inr ⟨_, rfl⟩)
 | true =>
   rw [resetDu_eq hlv] at hod
   subst hod
   have hlv' := hlv
   unfold lookV at hlv'
   obtain ⟨⟨hlen, hr⟩, hrd⟩ : (st.length = f.nodes.length ∧ rightF f = true) ∧ rightD d = true := by simpa using hlv'
   have h43 := f43_ok f hs x
   have hhk := fun s => classV_hooks hcs s d
   have h60 := hs.len
   have hml := memV_len (f := f) x
   have hmt : ∀ c ∈ memV f x, ∃ (i : Nat) (s : StateM), c = (i : Int) ∧ st[i]? = some s ∧ sAt st c.toNat = s ∧ thereN f.nodes (i : Int) = true := fun c hc => by
    have ht := memV_there hc
    obtain ⟨i, y, e, hy, _⟩ := there_iff.1 ht
    have hi := (List.getElem?_eq_some_iff.1 hy).1
    obtain ⟨s, hs'⟩ : ∃ s, st[i]? = some s := ⟨_, List.getElem?_eq_getElem (by omega)⟩
    subst e
    exact ⟨i, s, rfl, hs', by rw [Int.toNat_natCast]; exact sAt_of hs', ht⟩
   have hstep := fun k c (h : (memV f x)[k]? = some c) => rDu_step (f := f) (d := d) (cs := cs) (st := st) h
   have hRD : ∀ c, resetD f d cs st c = if dutyB f d cs c (sAt st c.toNat) = true then tellD (classV (sAt st c.toNat) d cs) c clearedT else [] := fun c => rfl
   have hdlen := rDu_len f d cs st (memV f x)
   have h0 : rDu f d cs st (memV f x) 0 = [] := rfl
   have h65 := fun (due : List DueN) (k : Nat) (s : StateM) (h2 : st[k]? = some s) (h3 : thereN f.nodes (k : Int) = true) => f65_own f st st.length rfl d cs due k s h2 h3
   generalize rDu f d cs st (memV f x) = du at hstep hdlen h0
   generalize memV f x = ms at h43 hml hmt hstep
   have hmm : (ms.map oInt).length = ms.length := List.length_map ..
   obtain ⟨l, m⟩ := f
   obtain ⟨d1, d2, d3, d4⟩ := d
   simp only at hlen h60 hml
   refine FnOK.startC (rvs := [.tmp 10]) G G_good Tryz.func25 rfl Tryz.ntmps25 rfl rfl ?_; with_reducible refine wD ?_
   refine CallK.lend (news := [mHall ⟨l, m⟩ (.own 221 0 st.length) ⟨d1, d2, d3, d4⟩ cs nilA, mStates st]) [220, 221] [] h64 c64 ⟨⟨rfl, rfl, trivial⟩, rfl, ⟨rfl, rfl, rfl, rfl, trivial⟩, rfl, trivial⟩ trivial rfl ⟨⟨rfl, rfl⟩, rfl⟩ rfl ⟨⟨rfl, .inr ⟨rfl, rfl, rfl⟩⟩, ⟨rfl, .inl ⟨rfl, noRef_states _⟩⟩, trivial⟩ rfl rfl ?_
   with_reducible refine wK ?_
   repeat' (first
  | refine gK ?_ | refine aE ?_ ?_
  | (((with_reducible refine kQ 43 ?_); refine cV h43 c43 ?_) <;> with_reducible refine wK ?_)
  | apply trivial)
   refine LoopK.ghostRow 11 220 228 11 0 8 (eHall ⟨l, m⟩ (.own 221 0 st.length) ⟨d1, d2, d3, d4⟩ cs nilA) (eHall ⟨l, m⟩ (.own 221 0 st.length) ⟨d1, d2, d3, d4⟩ cs (.own 228 0 0)) rfl rfl rfl rfl rfl rfl ?_
   refine LoopK.use G G_good (fun (k : Nat) => [(11, .ptr 220 0 0), (29, eInts ms), (30, eInt ms.length), (31, eInt k)])
    (fun k => [(220, mHall ⟨l, m⟩ (.own 221 0 st.length) ⟨d1, d2, d3, d4⟩ cs (.own 228 0 (du k).length)), (221, mStates st), (228, rDuesN (du k))])
    (fun k => k ≤ ms.length) (fun k => ms.length - k) 0 (Nat.zero_le _) ?_ ?_
   ·rw [h0]
    (refine fK ?_; (with_reducible repeat' (first | exact trivial | (show _ ∧ _; refine aK ?_ ?_))); (all_goals try rfl))
    all_goals first
     | (show (ms.length : Int) = _; rw [hmm])
     | exact ⟨⟨rfl, rfl, ⟨rfl, rfl⟩, rfl, rfl, rfl, rfl, rfl, ⟨rfl, rfl⟩, trivial⟩, trivial⟩
     | exact ⟨.refl (noRef_states st), noRef_states st⟩
     | (show ObjK _ [] []; exact ⟨.refl rfl, rfl⟩)
   intro k hk
   have hdl := hdlen k
   with_reducible refine wK ?_
   refine IfK.mk (fun h1 => ?_) (fun h1 => ?_) <;> (try simp only [castN] at h1) <;> with_reducible refine wK ?_
   ·have hk' : k < ms.length := by simp only [decide_eq_true_eq] at h1; omega
    obtain ⟨c, hc⟩ : ∃ c, ms[k]? = some c := ⟨_, List.getElem?_eq_getElem hk'⟩
    obtain ⟨i, s, ei, hsi, hsa, hti⟩ := hmt c (List.mem_of_getElem? hc)
    subst ei
    have h65 := h65 (du k) i s hsi hti
    have hst1 := hstep k _ hc
    rw [hRD, hsa] at hst1
    have hhk := hhk s
    clear hmt hstep hRD hsa h64 h43
    obtain ⟨dy, hdy⟩ : ∃ dy, dutyB ⟨l, m⟩ ⟨d1, d2, d3, d4⟩ cs (i : Int) s = dy := ⟨_, rfl⟩
    rw [hdy] at h65 hst1
    generalize hcv : classV s ⟨d1, d2, d3, d4⟩ cs = cv at *
    generalize du k = D at *
    obtain ⟨c1, c2, c3, c4, c5⟩ := cv
    refine IdxK.mk k (eInt (i : Int)) rfl (int_get hc) ?_; with_reducible refine wK ?_
    refine CallK.lend (news := [mHall ⟨l, m⟩ (.own 221 0 st.length) ⟨d1, d2, d3, d4⟩ cs (.own 228 0 D.length), mStates st, rDuesN D]) [220, 221, 228] [] h65 c65 ⟨⟨rfl, rfl⟩, rfl, trivial⟩ (ins_hall rfl rfl rfl) rfl ⟨⟨rfl, rfl⟩, rfl⟩ rfl news_hall rfl rfl ?_
    with_reducible refine wK ?_
    cases dy with
    | false =>
      rw [if_neg (by simp), List.append_nil] at hst1
      repeat' (first
  | refine gK ?_ | refine aE ?_ ?_
  | apply trivial)
      refine NextK.mk (k + 1) (by omega) (by omega) ?_
      rw [hst1]
      (refine fK ?_; (with_reducible repeat' (first | exact trivial | (show _ ∧ _; refine aK ?_ ?_))); (all_goals try rfl))
      all_goals first
       | exact ⟨.refl (noRef_states _), noRef_states _⟩
       | exact ⟨.refl (noRef_duesN _), noRef_duesN _⟩
       | (simp; done)
    | true =>
      rw [if_pos rfl] at hst1
      repeat' (first
  | refine gK ?_ | refine aE ?_ ?_
  | apply trivial)
      cases hw : hearsC ⟨c1, c2, c3, c4, c5⟩ 7 with
      | true =>
        rw [tellD_yes (show hearsC _ clearedT.kind = true from hw)] at hst1
        have h66 := f66_yes ⟨l, m⟩ st ⟨d1, d2, d3, d4⟩ cs D (by omega) ⟨c1, c2, c3, c4, c5⟩ hhk (i : Int) clearedT hw
        have hFl : (D ++ ([⟨(i : Int), clearedT⟩] : List DueN)).length = D.length + 1 := by simp
        refine CallK.lend (news := [mHall ⟨l, m⟩ (.own 221 0 st.length) ⟨d1, d2, d3, d4⟩ cs (.own 911 0 (D.length + 1)), mStates st, .dead, rDuesN (D ++ [⟨(i : Int), clearedT⟩])]) [220, 221, 228, 911] [] h66 c66 ⟨⟨rfl, rfl⟩, ⟨rfl, rfl, rfl, rfl, rfl, trivial⟩, rfl, ⟨rfl, rfl, rfl, rfl, rfl, rfl, rfl, rfl, rfl, rfl, trivial⟩, trivial⟩ (ins_hall rfl rfl rfl) rfl ⟨⟨rfl, rfl⟩, rfl⟩ rfl news_tell rfl rfl ?_
        with_reducible refine wK ?_
        repeat' (first
  | refine gK ?_ | refine aE ?_ ?_
  | apply trivial)
        refine NextK.mk (k + 1) (by omega) (by omega) ?_
        rw [hst1]
        (refine fK ?_; (with_reducible repeat' (first | exact trivial | (show _ ∧ _; refine aK ?_ ?_))); (all_goals try rfl))
        all_goals first
         | exact ⟨.refl (noRef_states _), noRef_states _⟩
         | exact ⟨.refl (noRef_duesN _), noRef_duesN _⟩
         | (simp; done)
      | false =>
        rw [tellD_no (show hearsC _ clearedT.kind = false from hw), List.append_nil] at hst1
        have h66 := f66_no ⟨l, m⟩ st ⟨d1, d2, d3, d4⟩ cs D ⟨c1, c2, c3, c4, c5⟩ hhk (i : Int) clearedT hw
        refine CallK.lend (news := [mHall ⟨l, m⟩ (.own 221 0 st.length) ⟨d1, d2, d3, d4⟩ cs (.own 228 0 D.length), mStates st, rDuesN D]) [220, 221, 228] [] h66 c66 ⟨⟨rfl, rfl⟩, ⟨rfl, rfl, rfl, rfl, rfl, trivial⟩, rfl, ⟨rfl, rfl, rfl, rfl, rfl, rfl, rfl, rfl, rfl, rfl, trivial⟩, trivial⟩ (ins_hall rfl rfl rfl) rfl ⟨⟨rfl, rfl⟩, rfl⟩ rfl news_hall rfl rfl ?_
        with_reducible refine wK ?_
        repeat' (first
  | refine gK ?_ | refine aE ?_ ?_
  | apply trivial)
        refine NextK.mk (k + 1) (by omega) (by omega) ?_
        rw [hst1]
        (refine fK ?_; (with_reducible repeat' (first | exact trivial | (show _ ∧ _; refine aK ?_ ?_))); (all_goals try rfl))
        all_goals first
         | exact ⟨.refl (noRef_states _), noRef_states _⟩
         | exact ⟨.refl (noRef_duesN _), noRef_duesN _⟩
         | (simp; done)
   ·have hjl : k = ms.length := by simp only [decide_eq_false_iff_not] at h1; omega
    subst hjl
    repeat' (first
  | refine gK ?_ | refine aE ?_ ?_
  | (((with_reducible show DrawK _ _ _ _); refine dK ?_) <;> with_reducible refine wK ?_)
  | apply trivial)
    all_goals first | exact frz_duesN rfl rfl rfl rfl
theorem ins_hallN {m : ML} {b s : Nat} {f : ForM} {st : List StateM} {d : DeskM} {cs : List ClassM} {n : Nat} (hb : lkM m b = mHall f (.own s 0 n) d cs nilA) (hs : lkM m s = mStates st) {r : List Nat} : InsM (tabR 2 0 (b :: s :: r)) [] m [mHall f (.own 1 0 n) d cs nilA, mStates st] (b :: s :: r) := by
 simp only [InsM, hb, hs]
 refine ⟨⟨trivial, .inr ⟨⟨⟨rfl, rfl, ?_, rfl, rfl, rfl, rfl, rfl, .inl rfl, trivial⟩, trivial⟩, rfl⟩⟩, ⟨trivial, .inl ⟨rfl, noRef_states _⟩⟩, trivial⟩
 all_goals (simp [MF, tabR, lkN, Nat.beq_refl])
theorem news_hallN {b s : Nat} {f : ForM} {st : List StateM} {d : DeskM} {cs : List ClassM} {n : Nat} : NewsM [b, s] [mHall f (.own 1 0 n) d cs nilA, mStates st] [mHall f (.own s 0 n) d cs nilA, mStates st] :=
 ⟨⟨rfl, .inr ⟨rfl, rfl, rfl⟩⟩, ⟨rfl, .inl ⟨rfl, noRef_states _⟩⟩, trivial⟩
theorem f65_nil (f : ForM) (st : List StateM) (ns : Nat) (hns : st.length = ns) (d : DeskM) (cs : List ClassM) (k : Nat) (s : StateM) (hk : st[k]? = some s) (ht : thereN f.nodes (k : Int) = true) :
  FnOK Tryz.prog 65 [mHall f (.own 1 0 ns) d cs nilA, mStates st] [.ptr 0 0 0, eInt k] [mHall f (.own 1 0 ns) d cs nilA, mStates st] (.tup [eClass (classV s d cs), eBool (dutyB f d cs k s)]) := by
 have hkl := (List.getElem?_eq_some_iff.1 hk).1
 have h36 := f36_ok s d cs
 unfold dutyB
 obtain ⟨i, x, e, hx, hnx⟩ := there_iff.1 ht
 rw [hnx]
 obtain ⟨l, m⟩ := f
 obtain ⟨d1, d2, d3, d4⟩ := d
 obtain ⟨cv, hcv⟩ : ∃ cv, classV s ⟨d1, d2, d3, d4⟩ cs = cv := ⟨_, rfl⟩
 obtain ⟨cb, hcb⟩ : ∃ cb, classB s ⟨d1, d2, d3, d4⟩ cs = cb := ⟨_, rfl⟩
 rw [hcv, hcb] at h36 ⊢
 obtain ⟨s1, s2, s3, s4⟩ := s
 obtain ⟨c1, c2, c3, c4, c5⟩ := cv
 obtain ⟨a1, a2, a3, a4, a5, a6, a7, a8, a9, a10⟩ := x
 simp only at hx
 clear hcv hcb
 refine FnOK.startC (rvs := [.cell 4 63, .tmp 5]) G G_good Tryz.func65 rfl Tryz.ntmps65 rfl rfl ?_; with_reducible refine wD ?_
 repeat' (first
  | refine gK ?_ | refine aE ?_ ?_
  | ((first
   | (refine IdxK.mk i (eNode _) e (node_get hx) ?_)
   | ((with_reducible show LtK _ _ _ _ _); refine LtK.mk k rfl (by omega) ?_)
   | ((with_reducible show ElemK _ _ _ _ _); refine ElemK.mk (eState ⟨s1, s2, s3, s4⟩) (by rw [Nat.zero_add]; exact state_get hk) ?_)
   | ((with_reducible refine kQ 36 ?_); refine cV h36 c36 ?_)
   | ((with_reducible show DrawK _ _ _ _); refine dK ?_)) <;> with_reducible refine wK ?_)
  | apply trivial)
 cases cb with
 | false =>
   repeat' (first
  | refine gK ?_ | refine aE ?_ ?_
  | (((with_reducible show DrawK _ _ _ _); refine dK ?_) <;> with_reducible refine wK ?_)
  | apply trivial)
   all_goals first
    | rfl
    | exact ⟨.refl (noRef_states st), noRef_states st⟩
    | exact .inl rfl
    | (simp [*]; done)
 | true =>
   cases c1 with
   | false =>
     repeat' (first
  | refine gK ?_ | refine aE ?_ ?_
  | (((with_reducible show DrawK _ _ _ _); refine dK ?_) <;> with_reducible refine wK ?_)
  | apply trivial)
     all_goals first
      | rfl
      | exact ⟨.refl (noRef_states st), noRef_states st⟩
      | exact .inl rfl
      | (simp [*]; done)
   | true =>
     by_cases e1 : s1 = 3
     ·(have fct := (eq_true e1); (repeat' (first
  | refine gF ?_ | refine aE ?_ ?_
  | ((first
   | (refine IdxK.mk i (eNode _) e (node_get hx) ?_)
   | ((with_reducible show DrawK _ _ _ _); refine dK ?_)) <;> with_reducible refine wK ?_)
  | apply trivial)); all_goals clear fct)
      all_goals first
       | rfl
       | exact ⟨.refl (noRef_states st), noRef_states st⟩
       | exact .inl rfl
       | (simp [*]; done)
     ·(have fct := (eq_false e1); (repeat' (first
  | refine gF ?_ | refine aE ?_ ?_
  | (((with_reducible show DrawK _ _ _ _); refine dK ?_) <;> with_reducible refine wK ?_)
  | apply trivial)); all_goals clear fct)
      all_goals first
       | rfl
       | exact ⟨.refl (noRef_states st), noRef_states st⟩
       | exact .inl rfl
       | (simp [*]; done)
theorem f66_yesN (f : ForM) (st : List StateM) (d : DeskM) (cs : List ClassM) (c : ClassM) (hc : c.hooks.length ≤ 100000) (n : Int) (t : TodoM) (hh : hearsC c t.kind = true) :
  FnOK Tryz.prog 66 [mHall f (.own 1 0 st.length) d cs nilA, mStates st] [.ptr 0 0 0, eClass c, eInt n, eTodo t]
   [mHall f (.own 1 0 st.length) d cs (.own 2 0 1), mStates st, rDuesN [⟨n, t⟩]] (.tup []) := by
 have h37 := f37_ok c hc t.kind
 rw [hh] at h37
 obtain ⟨l, m⟩ := f
 obtain ⟨d1, d2, d3, d4⟩ := d
 obtain ⟨c1, c2, c3, c4, c5⟩ := c
 obtain ⟨t1, t2, t3, t4, t5, t6, t7, t8, t9, t10⟩ := t
 simp only at h37
 refine FnOK.startB (rvs := []) G G_good Tryz.func66 rfl Tryz.ntmps66 rfl rfl ?_; with_reducible refine wD ?_
 repeat' (first
  | refine gK ?_ | refine aE ?_ ?_
  | ((first
   | ((with_reducible refine kQ 37 ?_); refine cL h37 c37 ?_)
   | ((with_reducible show AppK _ _ _ _ _ _ _ _ _ _); refine AppK.mk [] [eDueN ⟨n, ⟨t1, t2, t3, t4, t5, t6, t7, t8, t9, t10⟩⟩] ⟨rfl, rfl, rfl⟩ ⟨rfl, rfl, rfl⟩ rfl (by simp) (by simp) ?_)
   | ((with_reducible show DrawK _ _ _ _); refine dK ?_)) <;> with_reducible refine wK ?_)
  | apply trivial)
 all_goals first
  | (simp; done)
  | exact ⟨.refl (noRef_states st), noRef_states st⟩
  | exact ⟨.refl (noRef_duesN [⟨n, ⟨t1, t2, t3, t4, t5, t6, t7, t8, t9, t10⟩⟩]), noRef_duesN [⟨n, ⟨t1, t2, t3, t4, t5, t6, t7, t8, t9, t10⟩⟩]⟩
theorem f66_noN (f : ForM) (st : List StateM) (d : DeskM) (cs : List ClassM) (c : ClassM) (hc : c.hooks.length ≤ 100000) (n : Int) (t : TodoM) (hh : hearsC c t.kind = false) :
  FnOK Tryz.prog 66 [mHall f (.own 1 0 st.length) d cs nilA, mStates st] [.ptr 0 0 0, eClass c, eInt n, eTodo t]
   [mHall f (.own 1 0 st.length) d cs nilA, mStates st] (.tup []) := by
 have h37 := f37_ok c hc t.kind
 rw [hh] at h37
 obtain ⟨l, m⟩ := f
 obtain ⟨d1, d2, d3, d4⟩ := d
 obtain ⟨c1, c2, c3, c4, c5⟩ := c
 obtain ⟨t1, t2, t3, t4, t5, t6, t7, t8, t9, t10⟩ := t
 simp only at h37
 refine FnOK.startC (rvs := []) G G_good Tryz.func66 rfl Tryz.ntmps66 rfl rfl ?_; with_reducible refine wD ?_
 repeat' (first
  | refine gK ?_ | refine aE ?_ ?_
  | (((with_reducible refine kQ 37 ?_); refine cL h37 c37 ?_) <;> with_reducible refine wK ?_)
  | apply trivial)
 all_goals first
  | exact ⟨.refl (noRef_states st), noRef_states st⟩
  | exact .inl rfl
theorem f26_ok (f : ForM) (hs : SmallN f.nodes) (st : List StateM) (hst : st.length ≤ 1000) (d : DeskM) (hd : SmallD d) (cs : List ClassM) (hcs : ∀ c ∈ cs, c.hooks.length ≤ 100000) (n : Int) (s : ByteArray) :
  FnOK Tryz.prog 26 [] [eFor f, eStates st, eDesk d, eClasses cs, eInt n, eStr s] [] (eDuesN (restoreDu f st d cs n s)) := by
 have h64 := f64_ok f hs st (by omega) d hd cs
 obtain ⟨od, hod⟩ : ∃ x', restoreDu f st d cs n s = x' := ⟨_, rfl⟩
 rw [hod]
 obtain ⟨lv, hlv⟩ : ∃ lv, lookV f st d = lv := ⟨_, rfl⟩
 rw [hlv] at h64
 unfold restoreDu at hod
 rw [hlv] at hod
 have hsm : (st.map oState).length = st.length := List.length_map ..
 cases lv with
 | false =>
   rw [if_neg (by simp)] at hod
   subst hod
   obtain ⟨l, m⟩ := f
   obtain ⟨d1, d2, d3, d4⟩ := d
   refine FnOK.startC (rvs := [.tmp 12]) G G_good Tryz.func26 rfl Tryz.ntmps26 rfl rfl ?_; with_reducible refine wD ?_
   refine CallK.lend (news := [mHall ⟨l, m⟩ (.own 221 0 st.length) ⟨d1, d2, d3, d4⟩ cs nilA, mStates st]) [220, 221] [] h64 c64 ⟨⟨rfl, rfl, trivial⟩, rfl, ⟨rfl, rfl, rfl, rfl, trivial⟩, rfl, trivial⟩ trivial rfl ⟨⟨rfl, rfl⟩, rfl⟩ rfl ⟨⟨rfl, .inr ⟨rfl, rfl, rfl⟩⟩, ⟨rfl, .inl ⟨rfl, noRef_states _⟩⟩, trivial⟩ rfl rfl ?_
   with_reducible refine wK ?_
   repeat' (first
  | refine gK ?_ | refine aE ?_ ?_
  | apply trivial)
   all_goals exact .inr (.inr ⟨_, rfl⟩)
 | true =>
   have hlv' := hlv
   unfold lookV at hlv'
   obtain ⟨⟨hlen, hr⟩, hrd⟩ : (st.length = f.nodes.length ∧ rightF f = true) ∧ rightD d = true := by simpa using hlv'
   have hhk := fun s => classV_hooks hcs s d
   have h65 := fun (k : Nat) (s : StateM) (h2 : st[k]? = some s) (h3 : thereN f.nodes (k : Int) = true) => f65_nil f st st.length rfl d cs k s h2 h3
   cases ht : thereN f.nodes n with
   | false =>
     rw [ht, if_neg (by simp)] at hod
     subst hod
     obtain ⟨l, m⟩ := f
     obtain ⟨d1, d2, d3, d4⟩ := d
     simp only at hlen ht
     have ht' : ¬ (0 ≤ n ∧ n < (l.length : Int)) := fun h => by
      unfold thereN at ht; simp [h.1, h.2] at ht
     refine FnOK.startC (rvs := [.tmp 12]) G G_good Tryz.func26 rfl Tryz.ntmps26 rfl rfl ?_; with_reducible refine wD ?_
     refine CallK.lend (news := [mHall ⟨l, m⟩ (.own 221 0 st.length) ⟨d1, d2, d3, d4⟩ cs nilA, mStates st]) [220, 221] [] h64 c64 ⟨⟨rfl, rfl, trivial⟩, rfl, ⟨rfl, rfl, rfl, rfl, trivial⟩, rfl, trivial⟩ trivial rfl ⟨⟨rfl, rfl⟩, rfl⟩ rfl ⟨⟨rfl, .inr ⟨rfl, rfl, rfl⟩⟩, ⟨rfl, .inl ⟨rfl, noRef_states _⟩⟩, trivial⟩ rfl rfl ?_
     with_reducible refine wK ?_
     by_cases e1 : n < 0
     ·(have fct := (eq_true e1); (repeat' (first
  | refine gF ?_ | refine aE ?_ ?_
  | apply trivial)); all_goals clear fct)
      all_goals exact .inr (.inr ⟨_, rfl⟩)
     ·have e2 : (st.length : Int) ≤ n := by omega
      (have fct := And.intro (eq_false e1) (And.intro hsm ((eq_true e2))); (repeat' (first
  | refine gF ?_ | refine aE ?_ ?_
  | apply trivial)); all_goals clear fct)
      all_goals exact .inr (.inr ⟨_, rfl⟩)
   | true =>
     rw [ht, if_pos ⟨rfl, rfl⟩] at hod
     obtain ⟨i, y, ei, hy, _⟩ := there_iff.1 ht
     subst ei
     have hi := (List.getElem?_eq_some_iff.1 hy).1
     obtain ⟨q, hq⟩ : ∃ q, st[i]? = some q := ⟨_, List.getElem?_eq_getElem (by omega)⟩
     have h65 := h65 i q hq ht
     rw [Int.toNat_natCast, sAt_of hq] at hod
     have hhk := hhk q
     have hi1 : i < st.length := by omega
     clear h64 hy
     have h64 := f64_ok f hs st (by omega) d hd cs
     rw [hlv] at h64
     obtain ⟨dy, hdy⟩ : ∃ dy, dutyB f d cs (i : Int) q = dy := ⟨_, rfl⟩
     rw [hdy] at h65 hod
     generalize hcv : classV q d cs = cv at *
     obtain ⟨l, m⟩ := f
     obtain ⟨d1, d2, d3, d4⟩ := d
     obtain ⟨c1, c2, c3, c4, c5⟩ := cv
     have e1 : ¬ ((i : Int) < 0) := by omega
     have e2 : ¬ ((st.length : Int) ≤ (i : Int)) := by omega
     refine FnOK.startC (rvs := [.tmp 12]) G G_good Tryz.func26 rfl Tryz.ntmps26 rfl rfl ?_; with_reducible refine wD ?_
     refine CallK.lend (news := [mHall ⟨l, m⟩ (.own 221 0 st.length) ⟨d1, d2, d3, d4⟩ cs nilA, mStates st]) [220, 221] [] h64 c64 ⟨⟨rfl, rfl, trivial⟩, rfl, ⟨rfl, rfl, rfl, rfl, trivial⟩, rfl, trivial⟩ trivial rfl ⟨⟨rfl, rfl⟩, rfl⟩ rfl ⟨⟨rfl, .inr ⟨rfl, rfl, rfl⟩⟩, ⟨rfl, .inl ⟨rfl, noRef_states _⟩⟩, trivial⟩ rfl rfl ?_
     with_reducible refine wK ?_
     (have fct := And.intro (eq_false e1) (And.intro hsm ((eq_false e2))); (repeat' (first
  | refine gF ?_ | refine aE ?_ ?_
  | apply trivial)); all_goals clear fct)
     refine CallK.lend (news := [mHall ⟨l, m⟩ (.own 221 0 st.length) ⟨d1, d2, d3, d4⟩ cs nilA, mStates st]) [220, 221] [] h65 c65 ⟨⟨rfl, rfl⟩, rfl, trivial⟩ (ins_hallN rfl rfl) rfl ⟨⟨rfl, rfl⟩, rfl⟩ rfl news_hallN rfl rfl ?_
     with_reducible refine wK ?_
     cases dy with
     | false =>
       rw [if_neg (by simp)] at hod
       subst hod
       repeat' (first
  | refine gK ?_ | refine aE ?_ ?_
  | (((with_reducible show DrawK _ _ _ _); refine dK ?_) <;> with_reducible refine wK ?_)
  | apply trivial)
       all_goals exact .inr (.inr ⟨_, rfl⟩)
     | true =>
       rw [if_pos rfl] at hod
       repeat' (first
  | refine gK ?_ | refine aE ?_ ?_
  | apply trivial)
       cases hw : hearsC ⟨c1, c2, c3, c4, c5⟩ 8 with
       | true =>
         rw [tellD_yes (show hearsC _ (restoredT s).kind = true from hw)] at hod
         subst hod
         have h66 := f66_yesN ⟨l, m⟩ st ⟨d1, d2, d3, d4⟩ cs ⟨c1, c2, c3, c4, c5⟩ hhk (i : Int) (restoredT s) hw
         refine CallK.lend (news := [mHall ⟨l, m⟩ (.own 221 0 st.length) ⟨d1, d2, d3, d4⟩ cs (.own 911 0 1), mStates st, rDuesN [⟨(i : Int), restoredT s⟩]]) [220, 221, 911] [] h66 c66 ⟨⟨rfl, rfl⟩, ⟨rfl, rfl, rfl, rfl, rfl, trivial⟩, rfl, ⟨rfl, rfl, rfl, rfl, rfl, rfl, rfl, rfl, rfl, rfl, trivial⟩, trivial⟩ (ins_hallN rfl rfl) rfl ⟨⟨rfl, rfl⟩, rfl⟩ rfl news_hall rfl rfl ?_
         with_reducible refine wK ?_
         repeat' (first
  | refine gK ?_ | refine aE ?_ ?_
  | (((with_reducible show DrawK _ _ _ _); refine dK ?_) <;> with_reducible refine wK ?_)
  | apply trivial)
         all_goals exact frz_duesN rfl rfl rfl rfl
       | false =>
         rw [tellD_no (show hearsC _ (restoredT s).kind = false from hw)] at hod
         subst hod
         have h66 := f66_noN ⟨l, m⟩ st ⟨d1, d2, d3, d4⟩ cs ⟨c1, c2, c3, c4, c5⟩ hhk (i : Int) (restoredT s) hw
         refine CallK.lend (news := [mHall ⟨l, m⟩ (.own 221 0 st.length) ⟨d1, d2, d3, d4⟩ cs nilA, mStates st]) [220, 221] [] h66 c66 ⟨⟨rfl, rfl⟩, ⟨rfl, rfl, rfl, rfl, rfl, trivial⟩, rfl, ⟨rfl, rfl, rfl, rfl, rfl, rfl, rfl, rfl, rfl, rfl, trivial⟩, trivial⟩ (ins_hallN rfl rfl) rfl ⟨⟨rfl, rfl⟩, rfl⟩ rfl news_hallN rfl rfl ?_
         with_reducible refine wK ?_
         repeat' (first
  | refine gK ?_ | refine aE ?_ ?_
  | (((with_reducible show DrawK _ _ _ _); refine dK ?_) <;> with_reducible refine wK ?_)
  | apply trivial)
         all_goals exact .inr (.inr ⟨_, rfl⟩)
theorem mt78 : MapTy Tryz.prog 204 .string (.agg #[.string ByteArray.empty, .string ByteArray.empty]) := ⟨9, 130, by kernel_rfl, by kernel_rfl, fun w => Tryz.zeroValue130 w⟩
noncomputable def fnsT : List (Nat × Func) := [(13, Tryz.f13), (45, Tryz.f45), (51, Tryz.f51), (91, Tryz.f91), (15, Tryz.f15), (144, Tryz.f144), (89, Tryz.f89), (90, Tryz.f90), (139, Tryz.f139), (142, Tryz.f142), (145, Tryz.f145), (54, Tryz.f54), (180, Tryz.f180), (136, Tryz.f136), (137, Tryz.f137), (138, Tryz.f138), (177, Tryz.f177), (92, Tryz.f92), (93, Tryz.f93), (94, Tryz.f94), (95, Tryz.f95), (96, Tryz.f96), (97, Tryz.f97), (120, Tryz.f120), (171, Tryz.f171), (172, Tryz.f172), (173, Tryz.f173), (174, Tryz.f174), (175, Tryz.f175), (134, Tryz.f134), (133, Tryz.f133), (146, Tryz.f146), (122, Tryz.f122), (147, Tryz.f147), (148, Tryz.f148), (149, Tryz.f149), (130, Tryz.f130), (192, Tryz.f192), (193, Tryz.f193), (194, Tryz.f194), (168, Tryz.f168), (165, Tryz.f165), (166, Tryz.f166), (167, Tryz.f167), (79, Tryz.f79), (208, Tryz.f208), (209, Tryz.f209), (169, Tryz.f169), (220, Tryz.f220)]
def kindsT : List (Nat × IntKind) := [(3, .i64), (5, .u8), (21, .i32), (33, .i64)]
theorem fnsT_ok : ∀ p ∈ fnsT, Tryz.prog.funcs[p.1]? = some p.2 ∧ Callable Tryz.prog p.1 := List.forall_mem_cons.2 ⟨⟨Tryz.func13, c13⟩, List.forall_mem_cons.2 ⟨⟨Tryz.func45, c45⟩, List.forall_mem_cons.2 ⟨⟨Tryz.func51, c51⟩, List.forall_mem_cons.2 ⟨⟨Tryz.func91, c91⟩, List.forall_mem_cons.2 ⟨⟨Tryz.func15, c15⟩, List.forall_mem_cons.2 ⟨⟨Tryz.func144, c144⟩, List.forall_mem_cons.2 ⟨⟨Tryz.func89, c89⟩, List.forall_mem_cons.2 ⟨⟨Tryz.func90, c90⟩, List.forall_mem_cons.2 ⟨⟨Tryz.func139, c139⟩, List.forall_mem_cons.2 ⟨⟨Tryz.func142, c142⟩, List.forall_mem_cons.2 ⟨⟨Tryz.func145, c145⟩, List.forall_mem_cons.2 ⟨⟨Tryz.func54, c54⟩, List.forall_mem_cons.2 ⟨⟨Tryz.func180, c180⟩, List.forall_mem_cons.2 ⟨⟨Tryz.func136, c136⟩, List.forall_mem_cons.2 ⟨⟨Tryz.func137, c137⟩, List.forall_mem_cons.2 ⟨⟨Tryz.func138, c138⟩, List.forall_mem_cons.2 ⟨⟨Tryz.func177, c177⟩, List.forall_mem_cons.2 ⟨⟨Tryz.func92, c92⟩, List.forall_mem_cons.2 ⟨⟨Tryz.func93, c93⟩, List.forall_mem_cons.2 ⟨⟨Tryz.func94, c94⟩, List.forall_mem_cons.2 ⟨⟨Tryz.func95, c95⟩, List.forall_mem_cons.2 ⟨⟨Tryz.func96, c96⟩, List.forall_mem_cons.2 ⟨⟨Tryz.func97, c97⟩, List.forall_mem_cons.2 ⟨⟨Tryz.func120, c120⟩, List.forall_mem_cons.2 ⟨⟨Tryz.func171, c171⟩, List.forall_mem_cons.2 ⟨⟨Tryz.func172, c172⟩, List.forall_mem_cons.2 ⟨⟨Tryz.func173, c173⟩, List.forall_mem_cons.2 ⟨⟨Tryz.func174, c174⟩, List.forall_mem_cons.2 ⟨⟨Tryz.func175, c175⟩, List.forall_mem_cons.2 ⟨⟨Tryz.func134, c134⟩, List.forall_mem_cons.2 ⟨⟨Tryz.func133, c133⟩, List.forall_mem_cons.2 ⟨⟨Tryz.func146, c146⟩, List.forall_mem_cons.2 ⟨⟨Tryz.func122, c122⟩, List.forall_mem_cons.2 ⟨⟨Tryz.func147, c147⟩, List.forall_mem_cons.2 ⟨⟨Tryz.func148, c148⟩, List.forall_mem_cons.2 ⟨⟨Tryz.func149, c149⟩, List.forall_mem_cons.2 ⟨⟨Tryz.func130, c130⟩, List.forall_mem_cons.2 ⟨⟨Tryz.func192, c192⟩, List.forall_mem_cons.2 ⟨⟨Tryz.func193, c193⟩, List.forall_mem_cons.2 ⟨⟨Tryz.func194, c194⟩, List.forall_mem_cons.2 ⟨⟨Tryz.func168, c168⟩, List.forall_mem_cons.2 ⟨⟨Tryz.func165, c165⟩, List.forall_mem_cons.2 ⟨⟨Tryz.func166, c166⟩, List.forall_mem_cons.2 ⟨⟨Tryz.func167, c167⟩, List.forall_mem_cons.2 ⟨⟨Tryz.func79, c79⟩, List.forall_mem_cons.2 ⟨⟨Tryz.func208, c208⟩, List.forall_mem_cons.2 ⟨⟨Tryz.func209, c209⟩, List.forall_mem_cons.2 ⟨⟨Tryz.func169, c169⟩, List.forall_mem_cons.2 ⟨⟨Tryz.func220, c220⟩, fun _ h => by simp at h⟩⟩⟩⟩⟩⟩⟩⟩⟩⟩⟩⟩⟩⟩⟩⟩⟩⟩⟩⟩⟩⟩⟩⟩⟩⟩⟩⟩⟩⟩⟩⟩⟩⟩⟩⟩⟩⟩⟩⟩⟩⟩⟩⟩⟩⟩⟩⟩⟩
theorem kindsT_ok : ∀ p ∈ kindsT, Tryz.prog.underlying p.1 = some (.int p.2) := List.forall_mem_cons.2 ⟨by kernel_rfl, List.forall_mem_cons.2 ⟨by kernel_rfl, List.forall_mem_cons.2 ⟨by kernel_rfl, List.forall_mem_cons.2 ⟨by kernel_rfl, fun _ h => by simp at h⟩⟩⟩⟩
def mapsT : MEnv := [(135, .int .i64, .int .i64 0), (204, .string, .agg #[.string ByteArray.empty, .string ByteArray.empty])]
theorem mapsT_ok : MEnv.Good Tryz.prog mapsT := List.forall_mem_cons.2 ⟨mt74, List.forall_mem_cons.2 ⟨mt78, fun _ h => by simp at h⟩⟩
theorem i32_run (s t : TypeId) (c : Int) (h1 : Tryz.prog.underlying s = some (.int .i32)) (h2 : Tryz.prog.underlying t = some .string) : ∀ w, (convert s t (.int .i32 c)).run Tryz.prog w = .ok (.string (Utf8.encode c)) w :=
 fun w => run_convert_int_string w s t .i32 c (by rw [h1]; rfl) h2
theorem enc_size (c : Int) : (Utf8.encode c).size ≤ 4 := by
 unfold Utf8.encode
 simp only
 repeat' split
 all_goals exact Nat.le_of_ble_eq_true rfl
@[reducible] def aB : ByteArray := ⟨#[97]⟩
def wordB (r : Nat) : Bool := !rightS (aB ++ Utf8.encode (r : Int))
theorem f209_ok (c : Int) : FnOK Tryz.prog 209 [] [eRune c] [] (eBool (!rightS (aB ++ Utf8.encode c))) := by
 have hsz := enc_size c
 have ha : aB.size = 1 := rfl
 refine FnOK.startC (rvs := [.tmp 2]) G G_good Tryz.func209 rfl Tryz.ntmps209 rfl rfl ?_; with_reducible refine wD ?_
 refine ConvK.mk _ (i32_run 21 9 c (by kernel_rfl) (by kernel_rfl)) ?_; with_reducible refine wK ?_
 refine NeedK.mk (by have := enc_size c; have h1 : (⟨⟨[97]⟩⟩ : ByteArray).size = 1 := rfl; omega) ?_; with_reducible refine wK ?_
 refine cL (f139_ok _) c139 ?_; with_reducible refine wK ?_
 (refine eK ?_ ?_ <;> with_reducible repeat' (first | exact trivial | (show _ ∧ _; refine aK ?_ ?_)))
 all_goals first | rfl
theorem f178_word (s : ByteArray) : FnOK Tryz.prog 178 [] [eStr s, .lit (.func (.func 209) #[] #[])] [] (eInt (Lib.idxFunc wordB true s)) :=
 FnOK.of_calls (vs := [.string s, .func (.func 209) #[] #[]]) fun w ht => f178_calls 209 c209 wordB s w ht fun W x ht _ => (f209_ok (x : Int)).below (vs := [.int .i32 (x : Int)]) W ht
theorem f195_nil : FnOK Tryz.prog 195 [.live 2 [.agg [.lit (.pointer none), .lit (.slice none 0 0)]] false] [.ptr 0 0 0] [.live 2 [.agg [.lit (.pointer none), .lit (.slice none 0 0)]] false] (eStr ⟨#[]⟩) := by
 refine FnOK.startC (rvs := [.tmp 2]) G G_good Tryz.func195 rfl Tryz.ntmps195 rfl rfl ?_; with_reducible refine wD ?_
 refine ⟨[], .lit (.pointer none), [], EffOK.lits (ρ := fun _ => .slice none 0 0) (r := .pointer none) (by simp) (fun y hy => ?_) (fun w => ?_) (dst_ok rfl), ?_⟩
 ·simp [Op.operands, Call.operands] at hy
  subst hy
  rfl
 ·kernel_rfl
 with_reducible refine wK ?_
 refine ⟨[], .lit (.string ⟨#[]⟩), [], EffOK.lits (ρ := fun y => match y with | .tmp 7 => .pointer none | _ => .int .i64 0) (r := .string ⟨#[]⟩) (by simp) (fun y hy => ?_) (fun w => ?_) (dst_ok rfl), ?_⟩
 ·simp [Op.operands, Call.operands] at hy
  rcases hy with rfl | rfl <;> rfl
 ·kernel_rfl
 with_reducible refine wK ?_
 refine dK ?_; with_reducible refine wK ?_
 (refine eK ?_ ?_ <;> with_reducible repeat' (first | exact trivial | (show _ ∧ _; refine aK ?_ ?_)))
 all_goals first | rfl | exact .inl rfl | exact ⟨rfl, rfl⟩
def orcA : CallT := fun g ins args => match g with
 | 91 => match ins, args with
   | [], [.lit (.string s)] => some ([], eBool (customS s))
   | _, _ => none
 | 139 => match ins, args with
   | [], [.lit (.string s)] => some ([], eBool (rightS s))
   | _, _ => none
 | 134 => match ins, args with
   | [], [.lit (.string s)] => some ([], .tup [eStr (if rightS s then lowS s else ⟨#[]⟩), eInt (if rightS s then 0 else 4)])
   | _, _ => none
 | 178 => match ins, args with
   | [], [.lit (.string s), .lit (.func (.func 209) a b)] => match a.toList, b.toList with
     | [], [] => some ([], eInt (Lib.idxFunc wordB true s))
     | _, _ => none
   | _, _ => none
 | 195 => match ins, args with
   | [.live 2 [.agg [.lit (.pointer none), .lit (.slice none 0 0)]] false], [.ptr 0 0 0] => some ([.live 2 [.agg [.lit (.pointer none), .lit (.slice none 0 0)]] false], eStr ⟨#[]⟩)
   | _, _ => none
 | _ => none
theorem orcA_ok : ∀ g ins args outs res, orcA g ins args = some (outs, res) → FnOK Tryz.prog g ins args outs res ∧ Callable Tryz.prog g := by
 intro g ins args outs res h
 unfold orcA at h
 split at h
 ·split at h
  ·cases h; exact ⟨f91_ok _, c91⟩
  ·cases h
 ·split at h
  ·cases h; exact ⟨f139_ok _, c139⟩
  ·cases h
 ·split at h
  ·cases h; exact ⟨f134_ok _, c134⟩
  ·cases h
 ·split at h
  ·split at h
   ·rename_i ha hb
    cases h
    rename_i a b _ _
    obtain rfl := (Array.ext' ha : _ = #[])
    obtain rfl := (Array.ext' hb : _ = #[])
    exact ⟨f178_word _, c178⟩
   ·cases h
  ·cases h
 ·split at h
  ·cases h; exact ⟨f195_nil, c195⟩
  ·cases h
 ·cases h
noncomputable def envA : EEnv := ⟨G, mapsT, fnsT, kindsT, orcA⟩
theorem envA_good : envA.Good Tryz.prog := ⟨G_good, mapsT_ok, fnsT_ok, kindsT_ok, orcA_ok, by kernel_rfl⟩
def awA : ByteArray := ⟨#[120, 45, 97]⟩
end Go.Proofs.Heir
namespace Go.Proofs
open Go.Shelf
def Tryz.lays169_ren : Go.Shelf.Ren := ⟨fun | 169 => 195 | n => n, fun | 70 => 221 | 9 => 9 | 0 => 0 | 72 => 223 | 37 => 182 | 127 => 240 | 3 => 3 | 5 => 5 | n => n, fun | n => n⟩
theorem Tryz.lays169 : Go.Proofs.Lays.n169 Tryz.prog Tryz.lays169_ren := {
 mixed := by kernel_rfl
 f169 := Tryz.func195.trans (congrArg some (by kernel_rfl))
 t0 := Tryz.underlying0
 a0 := Tryz.isAgg0
 z0 := Tryz.sizeOf0
 v0 := Tryz.zeroValue0
 t3 := Tryz.underlying3
 a3 := Tryz.isAgg3
 z3 := Tryz.sizeOf3
 v3 := Tryz.zeroValue3
 t9 := Tryz.underlying9
 a9 := Tryz.isAgg9
 z9 := Tryz.sizeOf9
 v9 := Tryz.zeroValue9
 t37 := Tryz.underlying182
 a37 := Tryz.isAgg182
 z37 := Tryz.sizeOf182
 v37 := Tryz.zeroValue182
 t70 := Tryz.underlying221
 a70 := Tryz.isAgg221
 z70 := Tryz.sizeOf221
 v70 := Tryz.zeroValue221
 t72 := Tryz.underlying223
 a72 := Tryz.isAgg223
 z72 := Tryz.sizeOf223
 v72 := Tryz.zeroValue223
 t127 := Tryz.underlying240
 a127 := Tryz.isAgg240
 z127 := Tryz.sizeOf240
 v127 := Tryz.zeroValue240 }
theorem Tryz.Builder_Extra_169 : Builder.Extra Tryz.prog Tryz.lays169_ren := {
 sizeBuilder := by kernel_rfl
 liesBuilder := by kernel_rfl
 t5 := Tryz.underlying5
 a5 := Tryz.isAgg5
 z5 := Tryz.sizeOf5
 v5 := Tryz.zeroValue5
 infoByte := by kernel_rfl
 cellsByte := by kernel_rfl
 sizeByte := by kernel_rfl
 neB5 := by decide }
open Go.RowKit in
theorem Tryz.Builder_String_any (B b : Nat) (l : List UInt8) (w : World) (h : Lib.IsBuilder 223 5 B b (Lib.byteCells l) w) (hBw : B ≤ w.heap.size) :
  Calls Tryz.prog 195 #[.pointer (some ⟨b, 0, none⟩)] w fun e w' => e = .returned (.string ⟨l.toArray⟩) ∧ Below B w w' := Any.Builder_String_any Tryz.lays169 Tryz.Builder_Extra_169 B b l w h hBw
def Tryz.lays167_ren : Go.Shelf.Ren := ⟨fun | 167 => 196 | 240 => 210 | 276 => 221 | n => n, fun | 0 => 0 | 4 => 4 | 5 => 5 | 9 => 9 | 20 => 20 | 37 => 182 | 70 => 221 | 72 => 223 | 75 => 159 | 80 => 209 | 164 => 228 | n => n, fun | n => n⟩
theorem Tryz.lays167 : Go.Proofs.Lays.n167 Tryz.prog Tryz.lays167_ren := {
 mixed := by kernel_rfl
 f167 := Tryz.func196.trans (congrArg some (by kernel_rfl))
 f240 := Tryz.func210.trans (congrArg some (by kernel_rfl))
 f276 := Tryz.func221.trans (congrArg some (by kernel_rfl))
 t0 := Tryz.underlying0
 a0 := Tryz.isAgg0
 z0 := Tryz.sizeOf0
 v0 := Tryz.zeroValue0
 t4 := Tryz.underlying4
 a4 := Tryz.isAgg4
 z4 := Tryz.sizeOf4
 v4 := Tryz.zeroValue4
 t5 := Tryz.underlying5
 a5 := Tryz.isAgg5
 z5 := Tryz.sizeOf5
 v5 := Tryz.zeroValue5
 t9 := Tryz.underlying9
 a9 := Tryz.isAgg9
 z9 := Tryz.sizeOf9
 v9 := Tryz.zeroValue9
 t20 := Tryz.underlying20
 a20 := Tryz.isAgg20
 z20 := Tryz.sizeOf20
 v20 := Tryz.zeroValue20
 t37 := Tryz.underlying182
 a37 := Tryz.isAgg182
 z37 := Tryz.sizeOf182
 v37 := Tryz.zeroValue182
 t70 := Tryz.underlying221
 a70 := Tryz.isAgg221
 z70 := Tryz.sizeOf221
 v70 := Tryz.zeroValue221
 t72 := Tryz.underlying223
 a72 := Tryz.isAgg223
 z72 := Tryz.sizeOf223
 v72 := Tryz.zeroValue223
 t75 := Tryz.underlying159
 a75 := Tryz.isAgg159
 z75 := Tryz.sizeOf159
 v75 := Tryz.zeroValue159
 t164 := Tryz.underlying228
 a164 := Tryz.isAgg228
 z164 := Tryz.sizeOf228
 v164 := Tryz.zeroValue228 }
theorem Tryz.Builder_Extra_167 : Builder.Extra Tryz.prog Tryz.lays167_ren := {
 sizeBuilder := by kernel_rfl
 liesBuilder := by kernel_rfl
 t5 := Tryz.underlying5
 a5 := Tryz.isAgg5
 z5 := Tryz.sizeOf5
 v5 := Tryz.zeroValue5
 infoByte := by kernel_rfl
 cellsByte := by kernel_rfl
 sizeByte := by kernel_rfl
 neB5 := by decide }
open Go.RowKit in
theorem Tryz.Builder_WriteByte (B b : Nat) (bs : List Value) (c : Int) (w : World) (h : Lib.IsBuilder 223 5 B b bs w) (hlen : bs.length + 1 ≤ 140737488355328) (hBw : B ≤ w.heap.size) :
  Calls Tryz.prog 196 #[.pointer (some ⟨b, 0, none⟩), .int .u8 c] w fun e w' => e = .returned .nilIface ∧ (Lib.BuilderAt 223 5 B b (.pointer (some ⟨b, 0, none⟩)) (bs ++ [.int .u8 c]) w' ∧ Below B w w') := Any.Builder_WriteByte Tryz.lays167 Tryz.Builder_Extra_167 B b bs c w h hlen hBw
end Go.Proofs
namespace Go.Proofs.Heir
open Go Go.Am Go.RowKit Go.Shelf
set_option maxRecDepth 100000
set_option maxHeartbeats 8000000
theorem setCell_heap (w : World) (a : Addr) (u : Value) (k : Nat) : (w.setCell a u).heap[k]? = if k = a.block then (w.heap[k]?).map (fun o => match (w.setCell a u).heap[k]? with | some o' => o' | none => o) else w.heap[k]? := by
 by_cases h : k = a.block
 ·subst h
  rw [if_pos rfl]
  unfold World.setCell
  simp only [Array.getElem?_modify, if_true]
  cases w.heap[a.block]? <;> rfl
 ·rw [if_neg h]
  unfold World.setCell
  simp only [Array.getElem?_modify]
  rw [if_neg (fun e => h e.symm)]
theorem setCell_ne (w : World) (a : Addr) (u : Value) {k : Nat} (h : k ≠ a.block) : (w.setCell a u).heap[k]? = w.heap[k]? := by rw [setCell_heap, if_neg h]
theorem setCell_same {w w' : World} (a : Addr) (u : Value) (h : w'.heap[a.block]? = w.heap[a.block]?) : (w'.setCell a u).heap[a.block]? = (w.setCell a u).heap[a.block]? := by
 unfold World.setCell
 simp only [Array.getElem?_modify, if_true, h]
theorem below_both {B : Nat} {w w' : World} (h : Below B w w') (a : Addr) (u : Value) (ha : a.block < B) : Below B (w.setCell a u) (w'.setCell a u) where
 os := h.os
 tape := h.tape
 output := h.output
 size := by have := h.size; simpa [World.setCell] using this
 block k hk := by
  by_cases e : k = a.block
  ·subst e; exact setCell_same a u (h.block _ hk)
  ·rw [setCell_ne _ _ _ e, setCell_ne _ _ _ e]; exact h.block k hk
theorem builder_setCell {T e : TypeId} {B b : Nat} {bs : List Value} {w : World} (h : Lib.IsBuilder T e B b bs w) (a : Addr) (ha : a.block < B) (u : Value) : Lib.IsBuilder T e B b bs (w.setCell a u) := by
 rcases h with ⟨hB, v, hb, hown, hne⟩ | ⟨hB, v, hb, hown, hne⟩
 ·exact .inl ⟨hB, v, (setCell_ne w a u (by omega)).trans hb, ownsRow_setCell_below hown ha u, hne⟩
 ·exact .inr ⟨hB, v, (setCell_ne w a u (by omega)).trans hb, ownsRow_setCell_below hown ha u, hne⟩
theorem quoted_calls (w : World) (b o : Nat) (body tail : List UInt8) (hb : ∀ c ∈ body, c ≠ 34 ∧ c ≠ 92) (hsz : body.length + tail.length ≤ 100000) (Q : World → Prop)
  (hm : Calls Tryz.prog 194 #[.pointer (some ⟨b, o, none⟩), .string ⟨#[34]⟩] w fun e w1 => e = .returned (.tuple #[]) ∧ Q w1)
  (hQ : ∀ w1, Q w1 → w1.cell? ⟨b, o + 3, none⟩ = some (.string ⟨(body ++ 34 :: tail).toArray⟩) ∧ w1.frozen? ⟨b, o + 3, none⟩ = false) :
  Calls Tryz.prog 175 #[.pointer (some ⟨b, o, none⟩)] w fun e w' => e = .returned (.string ⟨body.toArray⟩) ∧ ∃ w1, Q w1 ∧ Below w1.heap.size (w1.setCell ⟨b, o + 3, none⟩ (.string ⟨tail.toArray⟩)) w' := by
 go_enter Tryz.func175, Tryz.ntmps175
 go_wp2_with (go_at_call 194; refine hm.mono ?_; rintro e w1 ⟨rfl, hq⟩)
 obtain ⟨c1, f1⟩ := hQ w1 hq
 have hlt := World.block_lt_of_cell? _ _ c1
 have hsl : (ByteArray.mk (body ++ 34 :: tail).toArray).size = body.length + (tail.length + 1) := by simp [ByteArray.size]
 go_loopw [4] (fun i wr => ∃ k : Nat, k ≤ body.length ∧ i = .int .i64 k ∧ Lib.IsBuilder 223 5 w1.heap.size w1.heap.size (Lib.byteCells (body.take k)) wr ∧ Below w1.heap.size w1 wr ∧ w1.heap.size ≤ wr.heap.size) (fun i _ => body.length + 1 - (intOf i).toNat)
 case atStart => exact ⟨0, Nat.zero_le _, rfl, Lib.fresh_isBuilder 223 5 w1, (Below.refl _ w1).alloc (Nat.le_refl _) _, by simp⟩
 case round =>
  obtain ⟨k, hk, rfl, hbd, hbl, hsz2⟩ := hrel
  have c2 : wr.cell? ⟨b, o + 3, none⟩ = some (.string ⟨(body ++ 34 :: tail).toArray⟩) := (hbl.cell (p := ⟨b, o + 3, none⟩) hlt).trans c1
  have f2 : wr.frozen? ⟨b, o + 3, none⟩ = false := (hbl.frozen (p := ⟨b, o + 3, none⟩) hlt).trans f1
  have hklt : k < body.length + (tail.length + 1) := by omega
  by_cases hkb : k < body.length
  ·have hkS : k < (ByteArray.mk (body ++ 34 :: tail).toArray).size := by rw [hsl]; omega
   have hgk : (ByteArray.mk (body ++ 34 :: tail).toArray)[k]'hkS = body[k] := by
    show (body ++ 34 :: tail).toArray[k] = _
    rw [List.getElem_toArray, List.getElem_append_left hkb]
   obtain ⟨m, hm⟩ : ∃ m : UInt8, body[k] = m := ⟨_, rfl⟩
   have hmm := hb m (by rw [← hm]; exact List.getElem_mem hkb)
   have q1 : ((m.toNat : Int) == 34) = false := by
    rw [beq_eq_false_iff_ne]; intro h; exact hmm.1 (UInt8.toNat_inj.1 (by show m.toNat = 34; omega))
   have q2 : ((m.toNat : Int) == 92) = false := by
    rw [beq_eq_false_iff_ne]; intro h; exact hmm.2 (UInt8.toNat_inj.1 (by show m.toNat = 92; omega))
   have q3 : ¬ (m.toNat : Int) = 34 := by simpa using q1
   have q4 : ¬ (m.toNat : Int) = 92 := by simpa using q2
   rw [hm] at hgk
   have hwb := Tryz.Builder_WriteByte w1.heap.size w1.heap.size (Lib.byteCells (body.take k)) m.toNat wr hbd (by rw [show (Lib.byteCells (body.take k)).length = (body.take k).length from List.length_map .., List.length_take]; omega) hsz2
   have htk : Lib.byteCells (body.take k) ++ [.int .u8 (m.toNat : Int)] = Lib.byteCells (body.take (k + 1)) := by
    rw [List.take_add_one, List.getElem?_eq_getElem hkb, hm]
    simp [Lib.byteCells]
   rw [htk] at hwb
   clear hb hmm hsl
   go_wp2_with (go_at_call 196; refine hwb.mono ?_; rintro e w2 ⟨rfl, h2, h3⟩)
   exact ⟨⟨k + 1, hkb, by congr 1, .inr h2, hbl.trans h3, by have := h3.size; omega⟩, by simp [intOf]; omega⟩
  ·obtain rfl : k = body.length := by omega
   have hkS : body.length < (ByteArray.mk (body ++ 34 :: tail).toArray).size := by rw [hsl]; omega
   have hgk : (ByteArray.mk (body ++ 34 :: tail).toArray)[body.length]'hkS = 34 := by
    show (body ++ 34 :: tail).toArray[body.length] = _
    rw [List.getElem_toArray, List.getElem_append_right (Nat.le_refl _)]
    simp
   have hex : (ByteArray.mk (body ++ 34 :: tail).toArray).extract (body.length + 1) (body.length + (tail.length + 1)) = ⟨tail.toArray⟩ := by
    rw [cut_strOf]
    show strOf (((body ++ 34 :: tail).take (body.length + (tail.length + 1))).drop (body.length + 1)) = strOf tail
    rw [List.take_of_length_le (by simp), show body ++ 34 :: tail = (body ++ [34]) ++ tail by simp, List.drop_left' (by simp)]
   rw [List.take_length] at hbd
   have hst := Tryz.Builder_String_any w1.heap.size w1.heap.size body (wr.setCell ⟨b, o + 3, none⟩ (.string ⟨tail.toArray⟩)) (builder_setCell hbd ⟨b, o + 3, none⟩ hlt _) (by simpa [World.setCell] using hsz2)
   have h34 : ((34 : UInt8).toNat : Int) = 34 := rfl
   clear hb
   go_wp2_with (go_at_call 195; refine hst.mono ?_; rintro e w2 ⟨rfl, h3⟩)
   go_ret
   exact ⟨rfl, w1, hq, (below_both hbl _ _ hlt).trans h3⟩
theorem setCell_row {w : World} {b j : Nat} {C : Array Value} {e : TypeId} {fz : Nat × Nat} (hC : w.heap[b]? = some (.cells C e fz)) (u : Value) : w.setCell ⟨b, j, none⟩ u = w.setRow b (C.setIfInBounds j u) := by
 unfold World.setCell World.setRow
 congr 1
 apply Array.ext_getElem?
 intro k
 simp only [Array.getElem?_modify]
 by_cases e : b = k
 ·subst e; simp [hC]
 ·simp [e]
theorem f175_ok (x0 x1 x2 : AV) (s0 : ByteArray) (body tail : List UInt8) (rest : List MS) (hb : ∀ c ∈ body, c ≠ 34 ∧ c ≠ 92) (hsz : body.length + tail.length ≤ 100000)
  (h126 : FnOK Tryz.prog 194 (.live 5 [.agg [x0, x1, x2, .lit (.string s0), .lit (.bool false)]] false :: rest) [.ptr 0 0 0, .lit (.string ⟨#[34]⟩)] (.live 5 [.agg [x0, x1, x2, .lit (.string ⟨(body ++ 34 :: tail).toArray⟩), .lit (.bool false)]] false :: rest) (.tup [])) :
  FnOK Tryz.prog 175 (.live 5 [.agg [x0, x1, x2, .lit (.string s0), .lit (.bool false)]] false :: rest) [.ptr 0 0 0] (.live 5 [.agg [x0, x1, x2, .lit (.string ⟨tail.toArray⟩), .lit (.bool false)]] false :: rest) (.lit (.string ⟨body.toArray⟩)) := by
 intro w W0 L vs hL hs hr
 obtain ⟨v, us, rfl, hv, hus⟩ := RepL.uncons hr
 obtain rfl := RepL.unnil hus
 obtain ⟨B, hB, hmp, rfl⟩ : ∃ B, L 0 = some B ∧ B.mp = false ∧ v = .pointer (some ⟨B.b, B.o + (0 * B.wd + 0), none⟩) := by cases hv with | ptr h1 h2 => exact ⟨_, h1, h2, rfl⟩
 rw [Nat.zero_mul, Nat.zero_add, Nat.add_zero] at hv
 rw [Nat.zero_mul, Nat.zero_add, Nat.add_zero]
 have look : ∀ (s1 : ByteArray) (μ' : Mu) (w1 : World), Sim Tryz.prog 0 w W0 L μ' (bare (.live 5 [.agg [x0, x1, x2, .lit (.string s1), .lit (.bool false)]] false :: rest)) noAct w1 → μ' 0 = some B ∧ ObjAt (Wr W0 μ' (objsOf (.live 5 [.agg [x0, x1, x2, .lit (.string s1), .lit (.bool false)]] false :: rest))) μ' w1 B 5 [.agg [x0, x1, x2, .lit (.string s1), .lit (.bool false)]] false := by
  intro s1 μ' w1 hs1
  obtain ⟨B', hB', ho⟩ := hs1.objs 0 5 _ false rfl
  have h := hs1.lentμ 0 B (by decide) hB
  rw [h] at hB'
  cases hB'
  exact ⟨h, ho⟩
 refine (quoted_calls w B.b B.o body tail hb hsz (fun w1 => ∃ μ', Sim Tryz.prog 0 w W0 L μ' (bare (.live 5 [.agg [x0, x1, x2, .lit (.string ⟨(body ++ 34 :: tail).toArray⟩), .lit (.bool false)]] false :: rest)) noAct w1) ?_ ?_).mono ?_
 ·refine (h126 w W0 L [.pointer (some ⟨B.b, B.o, none⟩), .string ⟨#[34]⟩] hL hs (.cons hv (.cons .lit .nil))).mono ?_
  rintro e w1 ⟨u, μ', rfl, hs1, hu⟩
  cases hu with
  | tup h1 h2 =>
    rename_i vs
    obtain rfl : vs = [] := List.eq_nil_of_length_eq_zero h1
    exact ⟨rfl, μ', hs1⟩
 ·rintro w1 ⟨μ', hs1⟩
  obtain ⟨h1, ho⟩ := look _ μ' w1 hs1
  obtain ⟨u, hu1, hu2⟩ := ho.cell hmp 3 (.lit (.string ⟨(body ++ 34 :: tail).toArray⟩)) rfl
  have hvirt := ho.real (i := 0) rfl
  obtain ⟨C, e, fz, c1, c2, _⟩ := ho.blk hvirt hmp
  rw [c2 rfl] at c1
  refine ⟨?_, Lib.frozen_of_heap c1 _⟩
  rw [hu1]; cases hu2; rfl
 ·rintro e w' ⟨rfl, w1, ⟨μ', hs1⟩, hbel⟩
  obtain ⟨h1, ho⟩ := look _ μ' w1 hs1
  have hvirt := ho.real (i := 0) rfl
  obtain ⟨C, e, fz, c1, c2, c3⟩ := ho.blk hvirt hmp
  rw [c2 rfl] at c1
  have hset := hs1.setObj (t := 0) (rows' := [.agg [x0, x1, x2, .lit (.string ⟨tail.toArray⟩), .lit (.bool false)]]) (C' := C.setIfInBounds (B.o + 3) (.string ⟨tail.toArray⟩)) rfl h1 hvirt hmp c1 (by simp) rfl (Wide.of_mem fun r hr => by rw [List.mem_singleton] at hr; subst hr; rfl) (fun q c hc => ?_)
  ·rw [← setCell_row c1] at hset
   refine ⟨_, μ', rfl, ?_, .lit⟩
   have hm := hset.more (w' := w') ⟨hbel.os, hbel.tape, hbel.output, hbel.size, fun k hk => hbel.block k (by simpa [World.setCell] using hk)⟩
   have e : (⟨(bare (.live 5 [.agg [x0, x1, x2, .lit (.string ⟨(body ++ 34 :: tail).toArray⟩), .lit (.bool false)]] false :: rest)).slots, updM (bare (.live 5 [.agg [x0, x1, x2, .lit (.string ⟨(body ++ 34 :: tail).toArray⟩), .lit (.bool false)]] false :: rest)).mem [(0, .live 5 [.agg [x0, x1, x2, .lit (.string ⟨tail.toArray⟩), .lit (.bool false)]] false)]⟩ : AState) = bare (.live 5 [.agg [x0, x1, x2, .lit (.string ⟨tail.toArray⟩), .lit (.bool false)]] false :: rest) := by
    unfold bare
    congr 1
    funext t
    cases t with
    | zero => rfl
    | succ t => rfl
   rw [e] at hm
   exact hm
  ·have hq5 : q < 5 := by
    have := (List.getElem?_eq_some_iff.1 hc).1
    simpa [flat, cells] using this
   by_cases h3 : q = 3
   ·subst h3
    obtain rfl : AV.lit (.string ⟨tail.toArray⟩) = c := Option.some.inj hc
    refine ⟨_, ?_, .lit⟩
    rw [Array.getElem?_setIfInBounds_self_of_lt]
    have : [AV.agg [x0, x1, x2, .lit (.string ⟨(body ++ 34 :: tail).toArray⟩), .lit (.bool false)]].length * 5 = 5 := rfl
    omega
   ·have hc' : (flat [AV.agg [x0, x1, x2, .lit (.string ⟨(body ++ 34 :: tail).toArray⟩), .lit (.bool false)]])[q]? = some c := by
     rw [← hc]
     match q, hq5, h3 with
     | 0, _, _ => rfl
     | 1, _, _ => rfl
     | 2, _, _ => rfl
     | 4, _, _ => rfl
    obtain ⟨u, hu1, hu2⟩ := ho.cell hmp q c hc'
    rw [Lib.cell_of_heap c1] at hu1
    exact ⟨u, by rw [Array.getElem?_setIfInBounds_ne (by omega)]; exact hu1, hu2⟩
end Go.Proofs.Heir
namespace Go.Proofs.Heir
open Go Go.Am Go.RowKit Go.Lib
set_option maxRecDepth 100000
set_option maxHeartbeats 8000000
def dIns (s : ByteArray) : List MS := [.live 5 [.agg [.own 1 0 2, .lit (.int .i64 (400)), .lit (.int .i64 (0)), .lit (.string s), .lit (.bool false)]] false, .live 10 [.agg [.lit (.int .i64 (0)), .lit (.string ⟨⟨[]⟩⟩), .lit (.string ⟨⟨[]⟩⟩), .lit (.string ⟨⟨[]⟩⟩), .lit (.slice none 0 0), .lit (.int .i64 (-1)), .lit (.slice none 0 0), .lit (.int .i64 (-1)), .lit (.int .i64 (-1)), .lit (.int .i64 (0))], .agg [.lit (.int .i64 (1)), .lit (.string ⟨⟨[102, 111, 114, 109]⟩⟩), .lit (.string ⟨⟨[]⟩⟩), .lit (.string ⟨⟨[]⟩⟩), .lit (.slice none 0 0), .lit (.int .i64 (-1)), .lit (.slice none 0 0), .lit (.int .i64 (-1)), .lit (.int .i64 (-1)), .lit (.int .i64 (0))]] false]
def dm1 : Ans := ⟨194, dIns ⟨⟨[34, 34, 62, 60, 47, 120, 45, 97, 62, 60, 47, 102, 111, 114, 109, 62]⟩⟩, [.ptr 0 0 0, .lit (.string ⟨⟨[34]⟩⟩)], dIns ⟨⟨[34, 62, 60, 47, 120, 45, 97, 62, 60, 47, 102, 111, 114, 109, 62]⟩⟩, .tup []⟩
theorem dm1_run : runF envA 1000 60 dm1.g dm1.ins dm1.args = some (dm1.outs, dm1.res) := by kernel_rfl
def dq1 : Ans := ⟨175, dIns ⟨⟨[34, 34, 62, 60, 47, 120, 45, 97, 62, 60, 47, 102, 111, 114, 109, 62]⟩⟩, [.ptr 0 0 0], dIns ⟨⟨[62, 60, 47, 120, 45, 97, 62, 60, 47, 102, 111, 114, 109, 62]⟩⟩, .lit (.string ⟨⟨[]⟩⟩)⟩
theorem dq1_ok : dq1.OK Tryz.prog := ⟨f175_ok (.own 1 0 2) (.lit (.int .i64 400)) (.lit (.int .i64 0)) _ [] [62, 60, 47, 120, 45, 97, 62, 60, 47, 102, 111, 114, 109, 62] _ (by decide) (by decide) (Ans.of envA_good dm1_run).1, c175⟩
theorem dq_ok : ∀ r ∈ [dq1], r.OK Tryz.prog := Ans.cons dq1_ok (fun _ h => by cases h)
def dR : Ans := ⟨51, [], [.lit (.string ⟨⟨[60, 102, 111, 114, 109, 62, 60, 120, 45, 97, 32, 100, 105, 115, 97, 98, 108, 101, 100, 61, 34, 34, 62, 60, 47, 120, 45, 97, 62, 60, 47, 102, 111, 114, 109, 62]⟩⟩), .lit (.int .i64 (9))], [.live 10 [.agg [.lit (.int .i64 (0)), .lit (.string ⟨⟨[]⟩⟩), .lit (.string ⟨⟨[]⟩⟩), .lit (.string ⟨⟨[]⟩⟩), .lit (.slice none 0 0), .lit (.int .i64 (-1)), .lit (.slice none 0 0), .lit (.int .i64 (-1)), .lit (.int .i64 (-1)), .lit (.int .i64 (0))], .agg [.lit (.int .i64 (1)), .lit (.string ⟨⟨[102, 111, 114, 109]⟩⟩), .lit (.string ⟨⟨[]⟩⟩), .lit (.string ⟨⟨[]⟩⟩), .lit (.slice none 0 0), .lit (.int .i64 (-1)), .own 1 0 1, .lit (.int .i64 (-1)), .lit (.int .i64 (-1)), .lit (.int .i64 (0))], .agg [.lit (.int .i64 (1)), .lit (.string ⟨⟨[120, 45, 97]⟩⟩), .lit (.string ⟨⟨[]⟩⟩), .lit (.string ⟨⟨[]⟩⟩), .own 2 0 1, .lit (.int .i64 (1)), .lit (.slice none 0 0), .lit (.int .i64 (-1)), .lit (.int .i64 (-1)), .lit (.int .i64 (0))]] false, .live 1 [.lit (.int .i64 (2))] false, .live 2 [.agg [.lit (.string ⟨⟨[100, 105, 115, 97, 98, 108, 101, 100]⟩⟩), .lit (.string ⟨⟨[]⟩⟩)]] false], .tup [.agg [.own 0 0 3, .lit (.int .i64 (9))], .lit (.int .i64 (1)), .lit (.int .i64 (0))]⟩
theorem dR_run : runF (envA.more [dq1]) 1000 60 dR.g dR.ins dR.args = some (dR.outs, dR.res) := by kernel_rfl
theorem dR_ok : dR.OK Tryz.prog := Ans.of (EEnv.more_good envA_good dq_ok) dR_run
def dT : ByteArray := ⟨⟨[60, 102, 111, 114, 109, 62, 60, 120, 45, 97, 32, 100, 105, 115, 97, 98, 108, 101, 100, 61, 34, 34, 62, 60, 47, 120, 45, 97, 62, 60, 47, 102, 111, 114, 109, 62]⟩⟩
def dsW : ByteArray := ⟨#[100, 105, 115, 97, 98, 108, 101, 100]⟩
def dF : ForM := ⟨[⟨0, ⟨#[]⟩, ⟨#[]⟩, ⟨#[]⟩, [], -1, [], -1, -1, 0⟩, ⟨1, ⟨#[102, 111, 114, 109]⟩, ⟨#[]⟩, ⟨#[]⟩, [], -1, [2], -1, -1, 0⟩, ⟨1, awA, ⟨#[]⟩, ⟨#[]⟩, [⟨dsW, ⟨#[]⟩⟩], 1, [], -1, -1, 0⟩], 9⟩
theorem dfresh_ok : FnOK Tryz.prog 51 [] [eStr dT, eInt 9] [] (.tup [eFor dF, eInt 1, eInt 0]) := by
 have h := dR_ok.1
 refine FnOK.frozen (objsR 0 dR.outs) ?_ (by kernel_rfl) h ?_
 ·funext t
  match t with
  | 0 => rfl
  | 1 => rfl
  | 2 => rfl
  | n + 3 => rfl
 ·have nil2 : ∀ wd, NilK (.sl wd []) := fun wd => .inr (.inr ⟨wd, rfl⟩)
  refine ⟨⟨⟨10, _, _, _, rfl, rfl, rfl, by decide, rfl, RowsM.of ⟨?_, ?_, ?_, trivial⟩⟩, rfl, trivial⟩, rfl, rfl, trivial⟩
  ·exact ⟨rfl, rfl, rfl, rfl, nil2 _, rfl, nil2 _, rfl, rfl, rfl, trivial⟩
  ·exact ⟨rfl, rfl, rfl, rfl, nil2 _, rfl, ⟨1, _, _, _, rfl, rfl, rfl, by decide, rfl, RowsM.of ⟨rfl, trivial⟩⟩, rfl, rfl, rfl, trivial⟩
  ·exact ⟨rfl, rfl, rfl, rfl, ⟨2, _, _, _, rfl, rfl, rfl, by decide, rfl, RowsM.of ⟨⟨rfl, rfl, trivial⟩, trivial⟩⟩, rfl, nil2 _, rfl, rfl, rfl, trivial⟩
def dDk : DeskM := ⟨[⟨awA, awA, 0⟩], [], 0, false⟩
def dCl : ClassM := ⟨true, [], [], [], [⟨5, []⟩, ⟨6, []⟩, ⟨7, []⟩, ⟨8, []⟩]⟩
def dSt : List StateM := [⟨0, -1, -1, false⟩, ⟨0, -1, -1, false⟩, ⟨3, 0, -1, false⟩]
def dNow : List StateM := [⟨0, -1, -1, false⟩, ⟨0, -1, -1, false⟩, ⟨3, 0, 1, true⟩]
def dS : ByteArray := ⟨#[115]⟩
theorem d_small : SmallN dF.nodes := ⟨by decide, by decide, by decide, by decide⟩
theorem d_smallD : SmallD dDk := ⟨by decide, by decide⟩
theorem d_smallC : ∀ c ∈ [dCl], c.hooks.length ≤ 100000 := by
 intro c hc
 rw [List.mem_singleton] at hc
 subst hc
 decide
theorem ad24 : FnOK Tryz.prog 24 [] [eFor dF, eStates dSt, eDesk dDk, eClasses [dCl]] [] (.tup [eStates dNow, eDuesN [⟨2, ownedT (-1) 1⟩, ⟨2, barredT true⟩]]) := by
 have h := f24_ok dF d_small dSt (by decide) dDk d_smallD [dCl] d_smallC
 rwa [show toldSt dF dSt dDk [dCl] = dNow from by kernel_rfl, show toldDu dF dSt dDk [dCl] = [⟨2, ownedT (-1) 1⟩, ⟨2, barredT true⟩] from by kernel_rfl] at h
theorem ad25 : FnOK Tryz.prog 25 [] [eFor dF, eStates dSt, eDesk dDk, eClasses [dCl], eInt 1] [] (eDuesN [⟨2, clearedT⟩]) := by
 have h := f25_ok dF d_small dSt (by decide) dDk d_smallD [dCl] d_smallC 1
 rwa [show resetDu dF dSt dDk [dCl] 1 = [⟨2, clearedT⟩] from by kernel_rfl] at h
theorem ad26 : FnOK Tryz.prog 26 [] [eFor dF, eStates dSt, eDesk dDk, eClasses [dCl], eInt 2, eStr dS] [] (eDuesN [⟨2, restoredT dS⟩]) := by
 have h := f26_ok dF d_small dSt (by decide) dDk d_smallD [dCl] d_smallC 2 dS
 rwa [show restoreDu dF dSt dDk [dCl] 2 dS = [⟨2, restoredT dS⟩] from by kernel_rfl] at h
theorem f22_ok : FnOK Tryz.prog 22 [] [] [] (eBool true) := by
 have nil2 : ∀ wd, NilK (.sl wd []) := fun wd => .inr (.inr ⟨wd, rfl⟩)
 refine FnOK.startC (rvs := [.tmp 0]) G G_good Tryz.func22 rfl Tryz.ntmps22 rfl rfl ?_; with_reducible refine wD ?_
 refine cV dfresh_ok c51 ?_; with_reducible refine wK ?_
 repeat' (first
  | refine gK ?_ | refine aE ?_ ?_
  | (((with_reducible refine kQ 24 ?_); refine CallK.val [181, 241, 261, 311] ad24 c24 ⟨⟨rfl, rfl, trivial⟩, ⟨4, _, _, _, rfl, rfl, rfl, by decide, rfl, RowsM.of ⟨⟨rfl, rfl, rfl, rfl, trivial⟩, ⟨rfl, rfl, rfl, rfl, trivial⟩, ⟨rfl, rfl, rfl, rfl, trivial⟩, trivial⟩⟩, ⟨⟨3, _, _, _, rfl, rfl, rfl, by decide, rfl, RowsM.of ⟨⟨rfl, rfl, rfl, trivial⟩, trivial⟩⟩, nil2 _, rfl, rfl, trivial⟩, ⟨5, _, _, _, rfl, rfl, rfl, by decide, rfl, RowsM.of ⟨⟨rfl, nil2 _, nil2 _, nil2 _, ⟨2, _, _, _, rfl, rfl, rfl, by decide, rfl, RowsM.of ⟨⟨rfl, nil2 _, trivial⟩, ⟨rfl, nil2 _, trivial⟩, ⟨rfl, nil2 _, trivial⟩, ⟨rfl, nil2 _, trivial⟩, trivial⟩⟩, trivial⟩, trivial⟩⟩, trivial⟩ rfl rfl rfl ?_) <;> with_reducible refine wK ?_)
  | apply trivial)
 dsimp only [List.append]; with_reducible refine wK ?_
 repeat' (first
  | refine gK ?_ | refine aE ?_ ?_
  | (((with_reducible refine kQ 25 ?_); refine CallK.val [181, 241, 261, 311] ad25 c25 ⟨⟨rfl, rfl, trivial⟩, ⟨4, _, _, _, rfl, rfl, rfl, by decide, rfl, RowsM.of ⟨⟨rfl, rfl, rfl, rfl, trivial⟩, ⟨rfl, rfl, rfl, rfl, trivial⟩, ⟨rfl, rfl, rfl, rfl, trivial⟩, trivial⟩⟩, ⟨⟨3, _, _, _, rfl, rfl, rfl, by decide, rfl, RowsM.of ⟨⟨rfl, rfl, rfl, trivial⟩, trivial⟩⟩, nil2 _, rfl, rfl, trivial⟩, ⟨5, _, _, _, rfl, rfl, rfl, by decide, rfl, RowsM.of ⟨⟨rfl, nil2 _, nil2 _, nil2 _, ⟨2, _, _, _, rfl, rfl, rfl, by decide, rfl, RowsM.of ⟨⟨rfl, nil2 _, trivial⟩, ⟨rfl, nil2 _, trivial⟩, ⟨rfl, nil2 _, trivial⟩, ⟨rfl, nil2 _, trivial⟩, trivial⟩⟩, trivial⟩, trivial⟩⟩, rfl, trivial⟩ rfl rfl rfl ?_) <;> with_reducible refine wK ?_)
  | apply trivial)
 dsimp only [List.append]; with_reducible refine wK ?_
 repeat' (first
  | refine gK ?_ | refine aE ?_ ?_
  | (((with_reducible refine kQ 26 ?_); refine CallK.val [181, 241, 261, 311] ad26 c26 ⟨⟨rfl, rfl, trivial⟩, ⟨4, _, _, _, rfl, rfl, rfl, by decide, rfl, RowsM.of ⟨⟨rfl, rfl, rfl, rfl, trivial⟩, ⟨rfl, rfl, rfl, rfl, trivial⟩, ⟨rfl, rfl, rfl, rfl, trivial⟩, trivial⟩⟩, ⟨⟨3, _, _, _, rfl, rfl, rfl, by decide, rfl, RowsM.of ⟨⟨rfl, rfl, rfl, trivial⟩, trivial⟩⟩, nil2 _, rfl, rfl, trivial⟩, ⟨5, _, _, _, rfl, rfl, rfl, by decide, rfl, RowsM.of ⟨⟨rfl, nil2 _, nil2 _, nil2 _, ⟨2, _, _, _, rfl, rfl, rfl, by decide, rfl, RowsM.of ⟨⟨rfl, nil2 _, trivial⟩, ⟨rfl, nil2 _, trivial⟩, ⟨rfl, nil2 _, trivial⟩, ⟨rfl, nil2 _, trivial⟩, trivial⟩⟩, trivial⟩, trivial⟩⟩, rfl, rfl, trivial⟩ rfl rfl rfl ?_) <;> with_reducible refine wK ?_)
  | apply trivial)
 dsimp only [List.append]; with_reducible refine wK ?_
 repeat' (first
  | refine gK ?_ | refine aE ?_ ?_
  | ((first
   | (first | refine IdxK.mk 0 (eDueN ⟨2, ownedT (-1) 1⟩) rfl rfl ?_ | refine IdxK.mk 1 (eDueN ⟨2, barredT true⟩) rfl rfl ?_ | refine IdxK.mk 2 (eState ⟨3, 0, 1, true⟩) rfl rfl ?_ | refine IdxK.mk 0 (eDueN ⟨2, clearedT⟩) rfl rfl ?_ | refine IdxK.mk 0 (eDueN ⟨2, restoredT dS⟩) rfl rfl ?_)
   | ((with_reducible show EqK _ _ _ _ _ _ _ _); first | refine EqK.mk _ (fun y z w => dueN_eql ⟨2, ownedT (-1) 1⟩ ⟨2, ownedT (-1) 1⟩ y z w) ?_ | refine EqK.mk _ (fun y z w => dueN_eql ⟨2, barredT true⟩ ⟨2, barredT true⟩ y z w) ?_)
   | ((with_reducible show DrawK _ _ _ _); refine dK ?_)) <;> with_reducible refine wK ?_)
  | apply trivial)
 all_goals first | rfl
theorem HandK.mul {N : Nat} {o : Oper} {acc : Tk} {sl : SL} {m : ML} {R : Go.Am.Rest} {x y : Operand} {a b : Int} (ha : 0 ≤ a * b ∧ a * b ≤ 1000000) (ho : o.op = .binOp .mul 3 x y 3) (h1 : evB sl x = .lit (.int .i64 a)) (h2 : evB sl y = .lit (.int .i64 b)) (hd : dstB N o.dst = true) (h : R [] (.lit (.int .i64 (a * b))) [] acc sl m) : HandK Tryz.prog N acc sl m (o := o) (R := R) := by
 rw [evB_eq] at h1 h2
 refine ⟨[], .lit (.int .i64 (a * b)), [], ?_, h⟩
 refine .val (fun σ2 he2 hrd w0 W0 L μ a' w hs => ⟨.int .i64 (a * b), ?_, .lit⟩) (dst_ok hd)
 have k1 := hs.eval x
 have k2 := hs.eval y
 rw [he2 x (by simp [ho, Op.operands]), St_eval, h1] at k1
 rw [he2 y (by simp [ho, Op.operands]), St_eval, h2] at k2
 have hx := k1.val
 have hy := k2.val
 have hw : IntKind.i64.wrap (a * b) = a * b := IntWalk.i64_in _ (by omega)
 simp only [execOp, ho, hx, hy]
 simp only [eqGuard, binOp]
 go_simp
theorem rStr : Reads Tryz.prog 9 1 eStr (fun s => s.size ≤ maxLen) := Reads.str Tryz.underlying9 (by kernel_rfl)
theorem rInt : Reads Tryz.prog 3 1 oInt (fun _ => True) := (Reads.int Tryz.underlying3 (by kernel_rfl)).conv id id (fun _ => rfl) (fun _ => rfl) (fun _ _ => trivial)
theorem rBool : Reads Tryz.prog 4 1 (fun b : Bool => .lit (.bool b)) (fun _ => True) := Reads.bool Tryz.underlying4 (by kernel_rfl)
theorem rDef : Reads Tryz.prog 39 3 oDef (fun _ => True) :=
 (Reads.struct (l := [(0, 9), (1, 9), (2, 3)]) Tryz.underlying39 (by kernel_rfl) rfl (.cons rStr (.cons rStr (.cons rInt .nil)))).conv
  (fun (a, b, c, _) => ⟨a, b, c⟩) (fun t => (t.name, t.locl, t.cls, ())) (fun _ => rfl) (fun _ => rfl) (fun _ _ => trivial)
theorem rWait : Reads Tryz.prog 89 2 oWait (fun _ => True) :=
 (Reads.struct (l := [(0, 9), (1, 3)]) Tryz.underlying89 (by kernel_rfl) rfl (.cons rStr (.cons rInt .nil))).conv
  (fun (a, b, _) => ⟨a, b⟩) (fun t => (t.name, t.ticket, ())) (fun _ => rfl) (fun _ => rfl) (fun _ _ => trivial)
theorem rDefs1 : Reads Tryz.prog 25 1 eDefs (fun _ => True) := (Reads.slice Tryz.underlying25 (by kernel_rfl) rDef (by omega)).conv id id (fun _ => rfl) (fun _ => rfl) (fun _ _ => trivial)
theorem rWaits1 : Reads Tryz.prog 26 1 eWaits (fun _ => True) := (Reads.slice Tryz.underlying26 (by kernel_rfl) rWait (by omega)).conv id id (fun _ => rfl) (fun _ => rfl) (fun _ _ => trivial)
theorem rDesk : Reads Tryz.prog 28 4 eDesk (fun _ => True) :=
 (Reads.struct (l := [(0, 25), (1, 26), (2, 3), (3, 4)]) Tryz.underlying28 (by kernel_rfl) rfl (.cons rDefs1 (.cons rWaits1 (.cons rInt (.cons rBool .nil))))).conv
  (fun (a, b, c, e, _) => ⟨a, b, c, e⟩) (fun t => (t.defs, t.waits, t.next, t.busy, ())) (fun _ => rfl) (fun _ => rfl) (fun _ _ => trivial)
theorem rAttr : Reads Tryz.prog 130 2 oAttr (fun _ => True) :=
 (Reads.struct (l := [(0, 9), (1, 9)]) Tryz.underlying130 (by kernel_rfl) rfl (.cons rStr (.cons rStr .nil))).conv
  (fun (a, b, _) => ⟨a, b⟩) (fun t => (t.name, t.value, ())) (fun _ => rfl) (fun _ => rfl) (fun _ _ => trivial)
theorem rAttrs1 : Reads Tryz.prog 40 1 eAttrs (fun _ => True) := (Reads.slice Tryz.underlying40 (by kernel_rfl) rAttr (by omega)).conv id id (fun _ => rfl) (fun _ => rfl) (fun _ _ => trivial)
theorem rInts1 : Reads Tryz.prog 32 1 eInts (fun _ => True) := (Reads.slice Tryz.underlying32 (by kernel_rfl) rInt (by omega)).conv id id (fun _ => rfl) (fun _ => rfl) (fun _ _ => trivial)
theorem rNode : Reads Tryz.prog 42 10 oNode (fun _ => True) :=
 (Reads.struct (l := [(0, 3), (1, 9), (2, 9), (3, 9), (4, 40), (5, 3), (6, 32), (7, 3), (8, 3), (9, 3)]) Tryz.underlying42 (by kernel_rfl) rfl
  (.cons rInt (.cons rStr (.cons rStr (.cons rStr (.cons rAttrs1 (.cons rInt (.cons rInts1 (.cons rInt (.cons rInt (.cons rInt .nil))))))))))).conv
  (fun (a, b, c, d, e, f, g, h, i, j, _) => ⟨a, b, c, d, e, f, g, h, i, j⟩)
  (fun t => (t.kind, t.name, t.is, t.data, t.attrs, t.parent, t.kids, t.host, t.under, t.doc, ())) (fun _ => rfl) (fun _ => rfl) (fun _ _ => trivial)
theorem rNodes1 : Reads Tryz.prog 22 1 eNodes (fun _ => True) := (Reads.slice Tryz.underlying22 (by kernel_rfl) rNode (by omega)).conv id id (fun _ => rfl) (fun _ => rfl) (fun _ _ => trivial)
theorem rFor : Reads Tryz.prog 24 2 eFor (fun _ => True) :=
 (Reads.struct (l := [(0, 22), (1, 3)]) Tryz.underlying24 (by kernel_rfl) rfl (.cons rNodes1 (.cons rInt .nil))).conv
  (fun (a, b, _) => ⟨a, b⟩) (fun t => (t.nodes, t.most, ())) (fun _ => rfl) (fun _ => rfl) (fun _ _ => trivial)
theorem laid : Go.laidOutB Tryz.prog = true := by kernel_rfl
abbrev laidRows : List (String × DataW Unit) := [("unicode.White_Space", Go.Proofs.YtpogpigciaajoaaGreatDoor.Rows.laid_unicode_White_Space), ("strings.asciiSpace", Go.Proofs.YtpogpigciaajoaaGreatDoor.Rows.laid_strings_asciiSpace)]
theorem tab_eq : (Go.Proofs.YtpogpigciaajoaaGreatDoor.Rows.laid_strings_asciiSpace : DataW Unit) = Lib.tabData .u8 Lib.asciiSpaceTab := by kernel_rfl
theorem door_met (os : Os) (args : Array Value) : laidMetH Tryz.prog laidRows ((World.doorLaid Tryz.prog 33 os).forCall (fun _ _ => 0) ⟨#[], args, []⟩).memory :=
 laidMetH_of_parts3 (fuel := 8) (laidMet_of_run' 8 (by kernel_rfl) (by kernel_rfl)) (by kernel_rfl) (by kernel_rfl)
theorem gSp : Tryz.prog.globalNamed "strings.asciiSpace" = some 0 := by kernel_rfl
theorem tySp : (Tryz.prog.globals[0]?).map (·.type) = some 226 := by kernel_rfl
theorem tabs_of_laid {W : World} (h : laidMetH Tryz.prog laidRows W) : Tabs Tryz.prog W fun _ => none := by
 rw [MakeChecks.laidMetH_plain _ _ _ (by kernel_rfl)] at h
 obtain ⟨ps, ⟨g0, t0, cs0, f0, p0, q0, hg0, ht0, hv0, hd0, ⟨g1, t1, cs1, f1, p1, q1, hg1, ht1, hv1, hd1, _, _⟩, _⟩, _⟩ := h
 intro g hg
 obtain rfl := Option.some.inj (hg.symm.trans hg1)
 have e : g = 0 := Option.some.inj (hg.symm.trans gSp)
 have ht : (Tryz.prog.globals[g]?).map (·.type) = some 226 := by rw [e]; exact tySp
 obtain rfl := Option.some.inj (ht.symm.trans ht1)
 rw [tab_eq] at hd1
 have hc := Lib.cells_of_tab Tryz.underlying226 Tryz.underlying5 (by kernel_rfl) (by kernel_rfl) hd1
 have htab : Lib.TabIs Tryz.prog W "strings.asciiSpace" .u8 Lib.asciiSpaceTab := by
  unfold Lib.TabIs
  rw [hv1, ← hc]
 have hcell : ∀ c : Nat, c < 256 → W.cell? ⟨g, c, none⟩ = some (.int .u8 (if Lib.isSp (UInt8.ofNat c) then 1 else 0)) := fun c hc => by
  rw [htab.cell hg c (by rw [Lib.asciiSpaceTab_length]; exact hc), Lib.asciiSpaceTab_at c hc]
 refine ⟨(by rintro ⟨_, _, h, _⟩; cases h), World.block_lt_of_cell? _ _ (hcell 0 (by omega)), hcell⟩
theorem rOp : Reads Tryz.prog 293 7 oOp (fun _ => True) :=
 (Reads.struct (l := [(0, 3), (1, 3), (2, 3), (3, 3), (4, 9), (5, 9), (6, 4)]) Tryz.underlying293 (by kernel_rfl) rfl (.cons rInt (.cons rInt (.cons rInt (.cons rInt (.cons rStr (.cons rStr (.cons rBool .nil)))))))).conv
  (fun (a, b, c, d, e, f, g, _) => ⟨a, b, c, d, e, f, g⟩) (fun t => (t.kind, t.a, t.b, t.c, t.s, t.t, t.must, ())) (fun _ => rfl) (fun _ => rfl) (fun _ _ => trivial)
theorem rOps1 : Reads Tryz.prog 60 1 eOps (fun _ => True) := (Reads.slice Tryz.underlying60 (by kernel_rfl) rOp (by omega)).conv id id (fun _ => rfl) (fun _ => rfl) (fun _ _ => trivial)
theorem rHook : Reads Tryz.prog 101 2 oHook (fun _ => True) :=
 (Reads.struct (l := [(0, 3), (1, 60)]) Tryz.underlying101 (by kernel_rfl) rfl (.cons rInt (.cons rOps1 .nil))).conv
  (fun (a, b, _) => ⟨a, b⟩) (fun t => (t.kind, t.prog, ())) (fun _ => rfl) (fun _ => rfl) (fun _ _ => trivial)
theorem rHooks1 : Reads Tryz.prog 61 1 eHooks (fun _ => True) := (Reads.slice Tryz.underlying61 (by kernel_rfl) rHook (by omega)).conv id id (fun _ => rfl) (fun _ => rfl) (fun _ _ => trivial)
theorem rStrO : Reads Tryz.prog 9 1 oStr (fun s => s.size ≤ maxLen) := rStr.conv id id (fun _ => rfl) (fun _ => rfl) (fun _ h => h)
theorem rStrs1 : Reads Tryz.prog 59 1 eStrs (fun _ => True) := (Reads.slice Tryz.underlying59 (by kernel_rfl) rStrO (by omega)).conv id id (fun _ => rfl) (fun _ => rfl) (fun _ _ => trivial)
theorem rClass : Reads Tryz.prog 63 5 oClass (fun _ => True) :=
 (Reads.struct (l := [(0, 4), (1, 59), (2, 60), (3, 60), (4, 61)]) Tryz.underlying63 (by kernel_rfl) rfl (.cons rBool (.cons rStrs1 (.cons rOps1 (.cons rOps1 (.cons rHooks1 .nil)))))).conv
  (fun (a, b, c, d, e, _) => ⟨a, b, c, d, e⟩) (fun t => (t.form, t.watch, t.peek, t.make, t.hooks, ())) (fun _ => rfl) (fun _ => rfl) (fun _ _ => trivial)
theorem rClasses : Reads Tryz.prog 48 1 eClasses (fun _ => True) := (Reads.slice Tryz.underlying48 (by kernel_rfl) rClass (by omega)).conv id id (fun _ => rfl) (fun _ => rfl) (fun _ _ => trivial)
theorem rState : Reads Tryz.prog 67 4 oState (fun _ => True) :=
 (Reads.struct (l := [(0, 3), (1, 3), (2, 3), (3, 4)]) Tryz.underlying67 (by kernel_rfl) rfl (.cons rInt (.cons rInt (.cons rInt (.cons rBool .nil))))).conv
  (fun (a, b, c, d, _) => ⟨a, b, c, d⟩) (fun t => (t.phase, t.df, t.owner, t.barred, ())) (fun _ => rfl) (fun _ => rfl) (fun _ _ => trivial)
theorem rStates : Reads Tryz.prog 47 1 eStates (fun _ => True) := (Reads.slice Tryz.underlying47 (by kernel_rfl) rState (by omega)).conv id id (fun _ => rfl) (fun _ => rfl) (fun _ _ => trivial)
end Go.Proofs.Heir
end
section
namespace Go.Proofs.Heir
open Go Go.Am Go.RowKit Go.Lib
set_option maxRecDepth 100000
set_option maxHeartbeats 8000000
variable {l : List NodeM}
theorem mem_root (T : Tree l) {n : Int} (hn : thereN l n = true) : n ∈ ordN l l.length (rootN l n) := by
  obtain ⟨h1, _, h3⟩ := root_there T n hn
  exact (ord_iff T h1 hn).2 h3
theorem near_spec (T : Tree l) (q : Int → Bool) : ∀ n, thereN l n = true →
    (nearBy l q n = -1 ∧ ∀ a ∈ wayN l n, a ≠ n → q a = false) ∨
    (nearBy l q n ∈ wayN l n ∧ nearBy l q n ≠ n ∧ q (nearBy l q n) = true ∧ ∀ a ∈ wayN l n, a ≠ n → q a = true → a ∈ wayN l (nearBy l q n)) := by
  refine up_ind T (fun n hn h => ?_) (fun n hn h hu ih => ?_)
  · left
    refine ⟨find_top T q hn h, fun a ha hne => ?_⟩
    rw [way_top T hn h] at ha
    exact absurd (List.mem_singleton.1 ha) hne
  · have hne : ∀ a ∈ wayN l (nd l n).parent, a ≠ n := by
      intro a ha e
      subst e
      have h1 := way_step T hn h
      obtain ⟨t, ht⟩ := way_cut T _ hu a ha
      rw [ht] at h1
      have := congrArg List.length h1
      simp at this
      omega
    rw [find_step T q hn h]
    have hw := way_step T hn h
    cases hq : q (nd l n).parent with
    | true =>
      rw [if_pos rfl]
      right
      refine ⟨by rw [hw]; exact List.mem_cons_of_mem _ (way_self T hu), hne _ (way_self T hu), hq, fun a ha hna _ => ?_⟩
      rw [hw] at ha
      exact (List.mem_cons.1 ha).resolve_left hna
    | false =>
      rw [if_neg (by simp)]
      rcases ih with ⟨h1, h2⟩ | ⟨h1, h2, h3, h4⟩
      · left
        refine ⟨h1, fun a ha hna => ?_⟩
        rw [hw] at ha
        have ha' := (List.mem_cons.1 ha).resolve_left hna
        by_cases e : a = (nd l n).parent
        · rw [e]; exact hq
        · exact h2 a ha' e
      · right
        refine ⟨by rw [hw]; exact List.mem_cons_of_mem _ h1, hne _ h1, h3, fun a ha hna hqa => ?_⟩
        rw [hw] at ha
        have ha' := (List.mem_cons.1 ha).resolve_left hna
        refine h4 a ha' (fun e => ?_) hqa
        rw [e, hq] at hqa; cases hqa
theorem own_form (T : Tree l) {n : Int} (hn : thereN l n = true) (h : ownN l n ≠ -1) : thereN l (ownN l n) = true ∧ isForm (nd l (ownN l n)) = true ∧ rootN l (ownN l n) = rootN l n ∧ (nd l n).kind = 1 := by
  have hnear : nearN l n ≠ -1 → thereN l (nearN l n) = true ∧ isForm (nd l (nearN l n)) = true ∧ rootN l (nearN l n) = rootN l n := by
    intro h
    rcases near_spec T (fun p => isForm (nd l p)) n hn with ⟨h1, _⟩ | ⟨h1, _, h3, _⟩
    · exact absurd h1 h
    · exact ⟨way_there T n hn _ h1, h3, root_way T n hn _ h1⟩
  unfold ownN at h ⊢
  by_cases hk : (nd l n).kind = 1
  · rw [if_pos hk] at h ⊢
    cases ha : attV (nd l n) formW with
    | none =>
      rw [ha] at h
      exact ⟨(hnear h).1, (hnear h).2.1, (hnear h).2.2, hk⟩
    | some v =>
      rw [ha] at h
      simp only at h ⊢
      by_cases hc : conN l n = true
      · rw [if_pos hc] at h ⊢
        unfold byId at h ⊢
        cases hf : firstId l (rootN l n) v with
        | none => rw [hf] at h; exact absurd rfl h
        | some k =>
          rw [hf] at h
          simp only at h ⊢
          by_cases e : v ≠ ⟨#[]⟩ ∧ isForm (nd l k) = true
          · rw [if_pos e] at h ⊢
            obtain ⟨h1, h2, h3⟩ := ord_root T (root_there T n hn).1 (first_some hf).1
            exact ⟨h1, e.2, by rw [h3, root_self T hn], hk⟩
          · rw [if_neg e] at h; exact absurd rfl h
      · rw [if_neg hc] at h ⊢
        exact ⟨(hnear h).1, (hnear h).2.1, (hnear h).2.2, hk⟩
  · rw [if_neg hk] at h; exact absurd rfl h
def ixN (ks : List Int) (n : Int) : Int := idxI (fun c => decide (c = n)) ks
theorem ix_cons (n a : Int) (r : List Int) : ixN (a :: r) n = if a = n then 0 else if ixN r n = -1 then -1 else ixN r n + 1 := by
  unfold ixN idxI
  rw [List.findIdx?_cons]
  by_cases h : a = n
  · simp [h]
  · simp only [h, decide_false, Bool.false_eq_true, if_false]
    cases List.findIdx? (fun c => decide (c = n)) r with
    | none => rfl
    | some k =>
      simp only [Option.map_some]
      rw [if_neg (by omega)]
      rfl
theorem ix_mem : ∀ {ks : List Int} {n : Int}, n ∈ ks → 0 ≤ ixN ks n
  | a :: r, n, h => by
    rw [ix_cons]
    split
    · omega
    · rename_i hne
      have := ix_mem ((List.mem_cons.1 h).resolve_left fun e => hne e.symm)
      split <;> omega
theorem ix_filter (q : Int → Bool) : ∀ {ks : List Int}, ks.Nodup → ∀ {i : Nat} {a b : Int}, (ks.filter q)[i]? = some a → (ks.filter q)[i + 1]? = some b → ixN ks a < ixN ks b
  | [], _, i, a, b, h, _ => by simp at h
  | c :: r, hn, i, a, b, ha, hb => by
    obtain ⟨hc, hn'⟩ := List.nodup_cons.1 hn
    rw [List.filter_cons] at ha hb
    have inr : ∀ {j : Nat} {x : Int}, (r.filter q)[j]? = some x → x ∈ r ∧ ¬ c = x := fun h => by
      have h1 := (List.mem_filter.1 (List.mem_of_getElem? h)).1
      exact ⟨h1, fun e => hc (e ▸ h1)⟩
    by_cases hq : q c = true
    · rw [if_pos hq] at ha hb
      rw [List.getElem?_cons_succ] at hb
      obtain ⟨hb1, hb2⟩ := inr hb
      have h2 := ix_mem hb1
      rw [ix_cons b, if_neg hb2, if_neg (by omega)]
      cases i with
      | zero =>
        simp only [List.getElem?_cons_zero, Option.some.injEq] at ha
        subst ha
        rw [ix_cons, if_pos rfl]; omega
      | succ i =>
        rw [List.getElem?_cons_succ] at ha
        obtain ⟨ha1, ha2⟩ := inr ha
        have h1 := ix_mem ha1
        have := ix_filter q hn' ha hb
        rw [ix_cons a, if_neg ha2, if_neg (by omega)]; omega
    · rw [if_neg hq] at ha hb
      obtain ⟨ha1, ha2⟩ := inr ha
      obtain ⟨hb1, hb2⟩ := inr hb
      have h1 := ix_mem ha1
      have h2 := ix_mem hb1
      have := ix_filter q hn' ha hb
      rw [ix_cons a, ix_cons b, if_neg ha2, if_neg hb2, if_neg (by omega), if_neg (by omega)]; omega
def aheadN (l : List NodeM) (a b : Int) : Bool := decide (rootN l a = rootN l b) && decide (ixN (ordN l l.length (rootN l a)) a < ixN (ordN l l.length (rootN l a)) b)
theorem mem_iff (T : Tree l) {x : Int} (hx : thereN l x = true) {c : Int} (hc : thereN l c = true) : c ∈ memF l x ↔ ownN l c = x := by
  constructor
  · intro h; exact (mem_facts T hx h).2.1
  · intro h
    have h0 := there_pos hx
    obtain ⟨_, a2, a3, _⟩ := own_form T hc (by omega)
    rw [h] at a2 a3
    unfold memF memN
    rw [if_pos a2, List.mem_filter, a3]
    exact ⟨mem_root T hc, by simpa using h⟩
theorem mem_nodup (T : Tree l) {x : Int} (hx : thereN l x = true) : (memF l x).Nodup := by
  unfold memF memN
  split
  · exact (ord_nodup T _ _ (root_there T x hx).1).sublist List.filter_sublist
  · exact .nil
theorem count_has (T : Tree l) {x : Int} (hx : thereN l x = true) {c : Int} (hc : thereN l c = true) : (memF l x).count c = if ownN l c = x then 1 else 0 := by
  by_cases h : ownN l c = x
  · rw [if_pos h]
    have h1 := (mem_iff T hx hc).2 h
    have h2 := List.count_pos_iff.2 h1
    have h3 := List.nodup_iff_count.1 (mem_nodup T hx) c
    omega
  · rw [if_neg h]
    exact List.count_eq_zero.2 fun h1 => h ((mem_iff T hx hc).1 h1)
theorem asked_two (f : ForM) (a b : Int) : (rightF f && !decide (0 ≤ idxI (fun n => !thereN f.nodes n) [a, b])) = (rightF f && (thereN f.nodes a && thereN f.nodes b)) := by
  congr 1
  unfold idxI
  cases h : thereN f.nodes a <;> cases h2 : thereN f.nodes b <;> simp [List.findIdx?_cons, h, h2]
end Go.Proofs.Heir
end
namespace Go.Proofs.Heir
open Go Go.Am Go.RowKit Go.Lib
set_option maxRecDepth 100000
set_option maxHeartbeats 8000000
section
variable {f : ForM} {st : List StateM} {d : DeskM} {cs : List ClassM}
def hitD (f : ForM) (d : DeskM) (cs : List ClassM) (st : List StateM) (n : Int) : Bool := dutyB f d cs n (sAt st n.toNat) && hearsC (classV (sAt st n.toNat) d cs) 7
theorem resetD_hit (n : Int) : resetD f d cs st n = if hitD f d cs st n = true then [⟨n, clearedT⟩] else [] := by
  unfold resetD hitD tellD
  show (if _ then (if hearsC _ 7 = true then _ else _) else _) = _
  cases dutyB f d cs n (sAt st n.toNat) <;> simp
def rsN (f : ForM) (d : DeskM) (cs : List ClassM) (st : List StateM) (x : Int) : List Int := (memF f.nodes x).filter (hitD f d cs st)
theorem flat_hit : ∀ ks : List Int, ks.flatMap (resetD f d cs st) = (ks.filter (hitD f d cs st)).map fun n => (⟨n, clearedT⟩ : DueN)
  | [] => rfl
  | n :: r => by
    rw [List.flatMap_cons, List.filter_cons, flat_hit r, resetD_hit]
    split <;> rfl
theorem resetDu_rs (h : lookV f st d = true) {x : Int} (hx : thereN f.nodes x = true) : resetDu f st d cs x = (rsN f d cs st x).map fun n => ⟨n, clearedT⟩ := by
  unfold resetDu rsN
  rw [if_pos ⟨h, hx⟩, flat_hit]
theorem rs_facts (T : Tree f.nodes) {x : Int} (hx : thereN f.nodes x = true) {c : Int} (h : c ∈ rsN f d cs st x) : thereN f.nodes c = true ∧ ownN f.nodes c = x := by
  unfold rsN at h
  obtain ⟨a, b, _, _⟩ := mem_facts T hx (List.mem_filter.1 h).1
  exact ⟨a, b⟩
theorem rs_ahead (T : Tree f.nodes) {x : Int} (hx : thereN f.nodes x = true) {i : Nat} {a b : Int} (ha : (rsN f d cs st x)[i]? = some a) (hb : (rsN f d cs st x)[i + 1]? = some b) : aheadN f.nodes a b = true := by
  obtain ⟨_, _, a3, _⟩ := mem_facts T hx (List.mem_filter.1 (List.mem_of_getElem? ha)).1
  obtain ⟨_, _, b3, _⟩ := mem_facts T hx (List.mem_filter.1 (List.mem_of_getElem? hb)).1
  unfold rsN memF at ha hb
  by_cases hf : isForm (nd f.nodes x) = true
  · rw [if_pos hf] at ha hb
    unfold memN at ha hb
    rw [List.filter_filter] at ha hb
    have := ix_filter _ (ord_nodup T _ _ (root_there T x hx).1) ha hb
    unfold aheadN
    rw [a3, b3, decide_eq_true this]; simp
  · rw [if_neg hf] at ha; simp at ha
theorem rs_len (T : Tree f.nodes) {x : Int} (hx : thereN f.nodes x = true) : (rsN f d cs st x).length ≤ f.nodes.length := by
  unfold rsN
  exact Nat.le_trans (List.length_filter_le _ _) (mem_len T hx)
def aN (f : ForM) (d : DeskM) (cs : List ClassM) (st : List StateM) (x : Nat) : List Int := (List.range x).flatMap fun k : Nat => rsN f d cs st (k : Int)
theorem aN_step (x : Nat) : aN f d cs st (x + 1) = aN f d cs st x ++ rsN f d cs st (x : Int) := by
  unfold aN; rw [List.range_succ, List.flatMap_append]; simp
theorem rs_count (T : Tree f.nodes) {x n : Int} (hx : thereN f.nodes x = true) (hn : thereN f.nodes n = true) : (rsN f d cs st x).count n = if hitD f d cs st n = true ∧ ownN f.nodes n = x then 1 else 0 := by
  unfold rsN
  by_cases h : hitD f d cs st n = true
  · rw [List.count_filter h, count_has T hx hn]
    simp [h]
  · rw [if_neg (fun e => h e.1)]
    exact List.count_eq_zero.2 fun h1 => h (List.mem_filter.1 h1).2
theorem aN_count (T : Tree f.nodes) {n : Int} (hn : thereN f.nodes n = true) : ∀ x, x ≤ f.nodes.length → (aN f d cs st x).count n = if hitD f d cs st n = true ∧ 0 ≤ ownN f.nodes n ∧ ownN f.nodes n < (x : Int) then 1 else 0
  | 0, _ => by
    rw [if_neg (by omega)]; rfl
  | x + 1, h => by
    have hx : thereN f.nodes (x : Int) = true := there_get (List.getElem?_eq_getElem (by omega))
    rw [aN_step, List.count_append, aN_count T hn x (by omega), rs_count T hx hn]
    by_cases h1 : hitD f d cs st n = true
    · by_cases h2 : ownN f.nodes n = (x : Int)
      · rw [if_neg (by omega), if_pos ⟨h1, h2⟩, if_pos ⟨h1, by omega, by omega⟩]
      · rw [if_neg (c := _ ∧ ownN f.nodes n = (x : Int)) (fun e => h2 e.2)]
        by_cases h3 : 0 ≤ ownN f.nodes n ∧ ownN f.nodes n < (x : Int)
        · rw [if_pos ⟨h1, h3⟩, if_pos ⟨h1, by omega, by omega⟩]
        · rw [if_neg (fun e => h3 e.2), if_neg (fun e => h3 ⟨e.2.1, by omega⟩)]
    · rw [if_neg (fun e => h1 e.1), if_neg (fun e => h1 e.1), if_neg (fun e => h1 e.1)]
theorem aN_all (T : Tree f.nodes) {n : Int} (hn : thereN f.nodes n = true) : ((aN f d cs st f.nodes.length).count n : Int) = if (((classB (sAt st n.toNat) d cs && (classV (sAt st n.toNat) d cs).form) && decide ((sAt st n.toNat).phase = 3)) && !decide (ownN f.nodes n = -1)) && hearsC (classV (sAt st n.toNat) d cs) 7 then 1 else 0 := by
  rw [aN_count T hn _ (Nat.le_refl _)]
  have e : (hitD f d cs st n = true ∧ 0 ≤ ownN f.nodes n ∧ ownN f.nodes n < (f.nodes.length : Int)) ↔ ((((classB (sAt st n.toNat) d cs && (classV (sAt st n.toNat) d cs).form) && decide ((sAt st n.toNat).phase = 3)) && !decide (ownN f.nodes n = -1)) && hearsC (classV (sAt st n.toNat) d cs) 7) = true := by
    unfold hitD dutyB
    simp only [Bool.and_eq_true, decide_eq_true_eq, Bool.not_eq_true', decide_eq_false_iff_not]
    constructor
    · rintro ⟨⟨⟨⟨⟨h1, h2⟩, h3⟩, h4⟩, h5⟩, h6, _⟩
      exact ⟨⟨⟨⟨h1, h2⟩, h3⟩, by omega⟩, h5⟩
    · rintro ⟨⟨⟨⟨h1, h2⟩, h3⟩, h6⟩, h5⟩
      obtain ⟨g1, _, _, g4⟩ := own_form T hn h6
      obtain ⟨j, y, hj, hy, _⟩ := there_iff.1 g1
      have := (List.getElem?_eq_some_iff.1 hy).1
      exact ⟨⟨⟨⟨⟨h1, h2⟩, h3⟩, g4⟩, h5⟩, by omega, by omega⟩
  by_cases h : hitD f d cs st n = true ∧ 0 ≤ ownN f.nodes n ∧ ownN f.nodes n < (f.nodes.length : Int)
  · rw [if_pos h, if_pos (e.1 h)]; rfl
  · rw [if_neg h, if_neg (fun h' => h (e.2 h'))]; rfl
theorem aN_len (T : Tree f.nodes) (h60 : f.nodes.length ≤ 60) : ∀ x, x ≤ f.nodes.length → (aN f d cs st x).length ≤ 60 * x
  | 0, _ => Nat.le_refl _
  | x + 1, h => by
    have h1 := aN_len T h60 x (by omega)
    have h2 := rs_len (d := d) (cs := cs) (st := st) T (x := (x : Int)) (there_get (List.getElem?_eq_getElem (by omega)))
    rw [aN_step, List.length_append]
    omega
def tL (L : List Int) : List Int := (List.range 60).map fun n : Nat => (L.count (n : Int) : Int)
theorem tL_zero : tL [] = List.replicate 60 0 := by decide +kernel
theorem tL_len (L : List Int) : (tL L).length = 60 := by unfold tL; simp
theorem tL_get (L : List Int) {n : Nat} (h : n < 60) : (tL L)[n]? = some (L.count (n : Int) : Int) := by
  unfold tL; rw [List.getElem?_map, List.getElem?_range h]; rfl
theorem tL_snoc (L : List Int) {k : Nat} (h : k < 60) : tL (L ++ [(k : Int)]) = (tL L).set k ((L.count (k : Int) : Int) + 1) := by
  apply List.ext_getElem?
  intro n
  rw [List.getElem?_set]
  by_cases hn : n < 60
  · rw [tL_get _ hn, tL_get _ hn, tL_len, List.count_append]
    by_cases e : k = n
    · subst e; rw [if_pos rfl, if_pos h]; simp
    · have : ¬ (k : Int) = (n : Int) := by omega
      rw [if_neg e]; simp [List.count_cons, this]
  · rw [List.getElem?_eq_none (by rw [tL_len]; omega), if_neg (by omega), List.getElem?_eq_none (by rw [tL_len]; omega)]
end
def aheadF (f : ForM) (a b : Int) : Bool := (rightF f && (thereN f.nodes a && thereN f.nodes b)) && aheadN f.nodes a b
theorem c40 : Callable Tryz.prog 40 := fun _ _ => by kernel_rfl
theorem f40_ok (f : ForM) (hs : SmallN f.nodes) (a b : Int) : FnOK Tryz.prog 40 [] [eFor f, eInt a, eInt b] [] (eBool (aheadF f a b)) := by
  have h76 := f76_ok f hs [a, b] (by simp)
  rw [asked_two] at h76
  unfold aheadF
  cases e0 : (rightF f && (thereN f.nodes a && thereN f.nodes b)) with
  | false =>
    rw [e0] at h76
    obtain ⟨l, m⟩ := f
    refine FnOK.startC (rvs := [.tmp 6]) G G_good Tryz.func40 rfl Tryz.ntmps40 rfl rfl ?_; with_reducible refine wD ?_
    refine CallK.lit [111] h76 c76 ⟨⟨rfl, rfl, trivial⟩, frz_ints (l := [a, b]) rfl rfl rfl rfl, trivial⟩ rfl rfl ?_; with_reducible refine wK ?_
    repeat' (first
    | refine gK ?_
    | ((with_reducible show (_ ∧ _) ∧ _ ∧ _); (refine eK ?_ ?_ <;> with_reducible repeat' (first | exact trivial | (show _ ∧ _; refine aK ?_ ?_)))))
    all_goals rfl
  | true =>
    rw [e0] at h76
    obtain ⟨hr, ha, hb⟩ : rightF f = true ∧ thereN f.nodes a = true ∧ thereN f.nodes b = true := by simpa using e0
    have T := tree_of hr
    have hra := root_there T a ha
    have h77a := f77_ok f T a ha
    have h77b := f77_ok f T b hb
    have h78 := f78_ok f hs (rootN f.nodes a)
    have e8 : ordF f (rootN f.nodes a) = ordN f.nodes f.nodes.length (rootN f.nodes a) := by unfold ordF; rw [hr, hra.1]; rfl
    rw [e8] at h78
    have hol := ord_len T f.nodes.length hra.1
    have hl := hs.len
    have h79 := fun n => f79_ok (ordN f.nodes f.nodes.length (rootN f.nodes a)) (by omega) n
    have hdef : aheadN f.nodes a b = (decide (rootN f.nodes a = rootN f.nodes b) && decide (ixN (ordN f.nodes f.nodes.length (rootN f.nodes a)) a < ixN (ordN f.nodes f.nodes.length (rootN f.nodes a)) b)) := rfl
    have hix : ∀ n, idxI (fun x => decide (x = n)) (ordN f.nodes f.nodes.length (rootN f.nodes a)) = ixN (ordN f.nodes f.nodes.length (rootN f.nodes a)) n := fun n => rfl
    simp only [hix] at h79
    rw [hdef, Bool.true_and]
    clear hdef hix hra e8 hol
    generalize ordN f.nodes f.nodes.length (rootN f.nodes a) = ks at *
    generalize rootN f.nodes a = ra at *
    generalize rootN f.nodes b = rb at *
    have hA := h79 a
    have hB := h79 b
    clear h79
    generalize ixN ks a = ia at *
    generalize ixN ks b = ib at *
    obtain ⟨l, m⟩ := f
    refine FnOK.startC (rvs := [.tmp 6]) G G_good Tryz.func40 rfl Tryz.ntmps40 rfl rfl ?_; with_reducible refine wD ?_
    refine CallK.lit [111] h76 c76 ⟨⟨rfl, rfl, trivial⟩, frz_ints (l := [a, b]) rfl rfl rfl rfl, trivial⟩ rfl rfl ?_; with_reducible refine wK ?_
    by_cases e : ra = rb
    · (have fct := (eq_true e); (repeat' (first
    | refine gF ?_
    | ((first
      | ((with_reducible show CallK _ _ 77 _ _ _ _); first | refine CallK.lit [] h77a c77 ⟨⟨rfl, rfl, trivial⟩, rfl, trivial⟩ rfl rfl ?_ | refine CallK.lit [] h77b c77 ⟨⟨rfl, rfl, trivial⟩, rfl, trivial⟩ rfl rfl ?_)
      | ((with_reducible show CallK _ _ 78 _ _ _ _); refine CallK.val [] h78 c78 ⟨⟨rfl, rfl, trivial⟩, rfl, trivial⟩ rfl rfl rfl ?_)
      | ((with_reducible show CallK _ _ 79 _ _ _ _); first | refine CallK.lit [] hA c79 ⟨rfl, rfl, trivial⟩ rfl rfl ?_ | refine CallK.lit [] hB c79 ⟨rfl, rfl, trivial⟩ rfl rfl ?_)) <;> with_reducible refine wK ?_)
    | ((with_reducible show (_ ∧ _) ∧ _ ∧ _); (refine eK ?_ ?_ <;> with_reducible repeat' (first | exact trivial | (show _ ∧ _; refine aK ?_ ?_)))))); all_goals clear fct)
      all_goals first | (rw [decide_eq_true e]; rfl) | trace_state
    · (have fct := (eq_false e); (repeat' (first
    | refine gF ?_
    | (((with_reducible show CallK _ _ 77 _ _ _ _); first | refine CallK.lit [] h77a c77 ⟨⟨rfl, rfl, trivial⟩, rfl, trivial⟩ rfl rfl ?_ | refine CallK.lit [] h77b c77 ⟨⟨rfl, rfl, trivial⟩, rfl, trivial⟩ rfl rfl ?_) <;> with_reducible refine wK ?_)
    | ((with_reducible show (_ ∧ _) ∧ _ ∧ _); (refine eK ?_ ?_ <;> with_reducible repeat' (first | exact trivial | (show _ ∧ _; refine aK ?_ ?_)))))); all_goals clear fct)
      all_goals first | (rw [decide_eq_false e]; rfl) | trace_state
end Go.Proofs.Heir
