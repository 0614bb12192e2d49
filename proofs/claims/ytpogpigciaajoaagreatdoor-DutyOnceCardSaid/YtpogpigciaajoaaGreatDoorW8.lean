/- Models, plain laws and contracts of functions of the given program; conditions as stated in each theorem. By an AI agent. -/
import Derived.Test.YtpogpigciaajoaaGreatDoorW6
import Derived.Test.YtpogpigciaajoaaGreatDoorW7
import Derived.Test.YtpogpigciaajoaaGreatDoorW4
import Derived.Test.YtpogpigciaajoaaGreatDoorW5
set_option linter.unusedSimpArgs false
set_option linter.unusedVariables false
namespace Go.Proofs.Heir
open Go Go.Am Go.RowKit Go.Lib
set_option maxRecDepth 100000
set_option maxHeartbeats 8000000
theorem f78_own (f : ForM) (hs : SmallN f.nodes) (n : Int) (e0 : (rightF f && thereN f.nodes n) = true) : FnOK Tryz.prog 78 [] [eFor f, eInt n] [rInts (ordN f.nodes f.nodes.length n)] (.own 0 0 (ordN f.nodes f.nodes.length n).length) := by
 have h76 := f76_ok f hs [n] (by simp)
 rw [asked_one] at h76
 obtain ⟨l, m⟩ := f
 simp only at h76 e0 ⊢
 have hlm : (l.map oNode).length = l.length := List.length_map ..
 refine FnOK.startC (rvs := [.tmp 4]) G G_good Tryz.func78 rfl Tryz.ntmps78 rfl rfl ?_; delta List.toArray; (with_reducible ((conv => whnf); (conv => congr <;> reduce); repeat ((first | refine hK ?_ | refine sK ?_); (conv => whnf); (conv => congr <;> reduce))))
 rw [e0] at h76
 refine CallK.lit [131] h76 c76 ⟨⟨rfl, rfl, trivial⟩, frz_ints (l := [n]) rfl rfl rfl rfl, trivial⟩ rfl rfl ?_; (with_reducible ((conv => whnf); (conv => congr <;> reduce); repeat ((first | refine hK ?_ | refine sK ?_); (conv => whnf); (conv => congr <;> reduce))))
 obtain ⟨hr, hn⟩ : rightF ⟨l, m⟩ = true ∧ thereN l n = true := by simpa using e0
 have T := tree_of hr
 have hol := ord_len T l.length hn
 simp only at T hol
 repeat' (first
  | (first
  | ((with_reducible show IfK _ _ _ _); first | refine IfK.ff ?_ | refine IfK.tt ?_ | refine IfK.no (by first | exact qA | ((try simp only [castN]); first | (simp []; done) | (simp []; omega))) ?_ | refine IfK.yes (by first | exact qA | ((try simp only [castN]); first | (simp []; done) | (simp []; omega))) ?_)
  | ((with_reducible show NeedK _ _ _ _); refine nK ?_)
  | ((with_reducible show DrawK _ _ _ _); refine dK ?_)) <;> (with_reducible ((conv => whnf); (conv => congr <;> reduce); repeat ((first | refine hK ?_ | refine sK ?_); (conv => whnf); (conv => congr <;> reduce))))
  | ((with_reducible show (_ ∧ _) ∧ _ ∧ _); refine ⟨⟨rfl, rfl⟩, ?_, ?_⟩ <;> with_reducible ((conv => whnf) <;> repeat' (first | exact trivial | (refine And.intro ?_ ?_ <;> (conv => whnf))))))
 refine LoopK.ghost 5 51 1 rfl rfl ?_
 refine LoopK.use G G_good (fun (i : List Int × List Int × List Int) => [(2, .ptr 20 0 0), (5, .own 51 0 i.1.length), (6, .ptr 60 0 0)])
  (fun i => [(20, .live 2 [eFor ⟨l, m⟩] false), (51, rInts i.1), (60, .live 1 [.own 171 0 i.2.1.length] false), (171, rInts (i.2.1 ++ i.2.2))])
  (fun i => ordN l l.length n = i.1 ++ V.rest l i.2.1 ∧ ∀ c ∈ i.2.1, thereN l c = true) (fun i => l.length - i.1.length) ([], [n], []) ⟨by simp [V.rest], fun c hc => by rw [List.mem_singleton] at hc; subst hc; exact hn⟩
  (by refine ⟨⟨rfl, rfl⟩, ⟨⟨rfl, rfl⟩, ⟨rfl, rfl⟩, ⟨rfl, rfl⟩, trivial⟩, ⟨⟨rfl, rfl, trivial⟩, trivial⟩, ⟨.refl rfl, noRef_ints _⟩, ⟨⟨rfl, rfl⟩, trivial⟩, ⟨.refl rfl, noRef_ints _⟩, trivial⟩) ?_
 rintro ⟨out, st, sp⟩ ⟨ho, hst⟩
 simp only at ho hst
 (with_reducible ((conv => whnf); (conv => congr <;> reduce); repeat ((first | refine hK ?_ | refine sK ?_); (conv => whnf); (conv => congr <;> reduce))))
 have hoL := congrArg List.length ho
 rw [List.length_append] at hoL
 have hol' : out.length = (out.map oInt).length := (List.length_map ..).symm
 have hrl := V.rest_len T hst
 have hl60 := hs.len
 simp only at hl60
 obtain h | ⟨st', t, h⟩ := List.eq_nil_or_concat st <;> (try rw [List.concat_eq_append] at h) <;> subst h
 ·repeat' (first
  | (first
  | ((with_reducible show IfK _ _ _ _); first | refine IfK.ff ?_ | refine IfK.tt ?_ | refine IfK.no (by first | exact qA | ((try simp only [castN]); first | (simp []; done) | (simp []; omega))) ?_ | refine IfK.yes (by first | exact qA | ((try simp only [castN]); first | (simp []; done) | (simp []; omega))) ?_)
  | ((with_reducible show NeedK _ _ _ _); refine nK ?_)
  | ((with_reducible show DrawK _ _ _ _); refine dK ?_)) <;> (with_reducible ((conv => whnf); (conv => congr <;> reduce); repeat ((first | refine hK ?_ | refine sK ?_); (conv => whnf); (conv => congr <;> reduce))))
  | ((with_reducible show (_ ∧ _) ∧ _ ∧ _); refine ⟨⟨rfl, rfl⟩, ?_, ?_⟩ <;> with_reducible ((conv => whnf) <;> repeat' (first | exact trivial | (refine And.intro ?_ ?_ <;> (conv => whnf))))))
  all_goals have ho' : ordN l l.length n = out := by rw [ho]; simp [V.rest]
  all_goals clear ho hoL
  all_goals subst ho'
  all_goals first
   | rfl
   | exact MFL_refl (noRef_ints _)
 ·have ht := hst t (by simp)
  have hlen : (st' ++ [t]).length = st'.length + 1 := by simp
  obtain ⟨k, x, rfl, hx, hnx⟩ := there_iff.1 ht
  rw [hlen]
  rw [hlen] at hrl
  repeat' (first
  | (first
  | ((with_reducible show IfK _ _ _ _); first | refine IfK.ff ?_ | refine IfK.tt ?_ | refine IfK.no (by first | exact qA | ((try simp only [castN]); first | (simp []; done) | (simp []; omega))) ?_ | refine IfK.yes (by first | exact qA | ((try simp only [castN]); first | (simp []; done) | (simp []; omega))) ?_)
  | ((with_reducible show NeedK _ _ _ _); refine nK ?_)
  | ((with_reducible show DrawK _ _ _ _); refine dK ?_)) <;> (with_reducible ((conv => whnf); (conv => congr <;> reduce); repeat ((first | refine hK ?_ | refine sK ?_); (conv => whnf); (conv => congr <;> reduce))))
  | ((with_reducible show (_ ∧ _) ∧ _ ∧ _); refine ⟨⟨rfl, rfl⟩, ?_, ?_⟩ <;> with_reducible ((conv => whnf) <;> repeat' (first | exact trivial | (refine And.intro ?_ ?_ <;> (conv => whnf))))))
  refine LtK.mk st'.length (by (try simp only [castN]); omega) (by omega) ?_; (with_reducible ((conv => whnf); (conv => congr <;> reduce); repeat ((first | refine hK ?_ | refine sK ?_); (conv => whnf); (conv => congr <;> reduce))))
  refine ElemK.mk (eInt (k : Int)) (by rw [Nat.zero_add, List.getElem?_map, List.append_assoc, List.getElem?_append_right (Nat.le_refl _), Nat.sub_self]; rfl) ?_; (with_reducible ((conv => whnf); (conv => congr <;> reduce); repeat ((first | refine hK ?_ | refine sK ?_); (conv => whnf); (conv => congr <;> reduce))))
  repeat' (first
  | (first
  | ((with_reducible show IfK _ _ _ _); first | refine IfK.ff ?_ | refine IfK.tt ?_ | refine IfK.no (by first | exact qA | ((try simp only [castN]); first | (simp []; done) | (simp []; omega))) ?_ | refine IfK.yes (by first | exact qA | ((try simp only [castN]); first | (simp []; done) | (simp []; omega))) ?_)
  | ((with_reducible show NeedK _ _ _ _); refine nK ?_)
  | ((with_reducible show DrawK _ _ _ _); refine dK ?_)) <;> (with_reducible ((conv => whnf); (conv => congr <;> reduce); repeat ((first | refine hK ?_ | refine sK ?_); (conv => whnf); (conv => congr <;> reduce))))
  | ((with_reducible show (_ ∧ _) ∧ _ ∧ _); refine ⟨⟨rfl, rfl⟩, ?_, ?_⟩ <;> with_reducible ((conv => whnf) <;> repeat' (first | exact trivial | (refine And.intro ?_ ?_ <;> (conv => whnf))))))
  refine CutK.mk 0 st'.length rfl (by (try simp only [castN]); omega) (by omega) ?_; (with_reducible ((conv => whnf); (conv => congr <;> reduce); repeat ((first | refine hK ?_ | refine sK ?_); (conv => whnf); (conv => congr <;> reduce))))
  repeat' (first
  | (first
  | ((with_reducible show IfK _ _ _ _); first | refine IfK.ff ?_ | refine IfK.tt ?_ | refine IfK.no (by first | exact qA | ((try simp only [castN]); first | (simp []; done) | (simp []; omega))) ?_ | refine IfK.yes (by first | exact qA | ((try simp only [castN]); first | (simp []; done) | (simp []; omega))) ?_)
  | ((with_reducible show NeedK _ _ _ _); refine nK ?_)
  | ((with_reducible show DrawK _ _ _ _); refine dK ?_)) <;> (with_reducible ((conv => whnf); (conv => congr <;> reduce); repeat ((first | refine hK ?_ | refine sK ?_); (conv => whnf); (conv => congr <;> reduce))))
  | ((with_reducible show (_ ∧ _) ∧ _ ∧ _); refine ⟨⟨rfl, rfl⟩, ?_, ?_⟩ <;> with_reducible ((conv => whnf) <;> repeat' (first | exact trivial | (refine And.intro ?_ ?_ <;> (conv => whnf))))))
  refine AppK.mk (out.map oInt) [eInt (k : Int)] ⟨rfl, hol', rfl⟩ ⟨rfl, rfl, rfl⟩ rfl (by simp; omega) (by simp; omega) ?_; (with_reducible ((conv => whnf); (conv => congr <;> reduce); repeat ((first | refine hK ?_ | refine sK ?_); (conv => whnf); (conv => congr <;> reduce))))
  repeat' (first
  | (first
  | ((with_reducible show IfK _ _ _ _); first | refine IfK.ff ?_ | refine IfK.tt ?_ | refine IfK.no (by first | exact qA | ((try simp only [castN]); first | (simp []; done) | (simp []; omega))) ?_ | refine IfK.yes (by first | exact qA | ((try simp only [castN]); first | (simp []; done) | (simp []; omega))) ?_)
  | ((with_reducible show NeedK _ _ _ _); refine nK ?_)
  | ((with_reducible show DrawK _ _ _ _); refine dK ?_)) <;> (with_reducible ((conv => whnf); (conv => congr <;> reduce); repeat ((first | refine hK ?_ | refine sK ?_); (conv => whnf); (conv => congr <;> reduce))))
  | ((with_reducible show (_ ∧ _) ∧ _ ∧ _); refine ⟨⟨rfl, rfl⟩, ?_, ?_⟩ <;> with_reducible ((conv => whnf) <;> repeat' (first | exact trivial | (refine And.intro ?_ ?_ <;> (conv => whnf))))))
  obtain ⟨a1, a2, a3, a4, a5, a6, a7, a8, a9, a10⟩ := x
  refine IdxK.mk k (eNode _) rfl (node_get hx) ?_; (with_reducible ((conv => whnf); (conv => congr <;> reduce); repeat ((first | refine hK ?_ | refine sK ?_); (conv => whnf); (conv => congr <;> reduce))))
  repeat' (first
  | (first
  | ((with_reducible show IfK _ _ _ _); first | refine IfK.ff ?_ | refine IfK.tt ?_ | refine IfK.no (by first | exact qA | ((try simp only [castN]); first | (simp []; done) | (simp []; omega))) ?_ | refine IfK.yes (by first | exact qA | ((try simp only [castN]); first | (simp []; done) | (simp []; omega))) ?_)
  | ((with_reducible show NeedK _ _ _ _); refine nK ?_)
  | ((with_reducible show DrawK _ _ _ _); refine dK ?_)) <;> (with_reducible ((conv => whnf); (conv => congr <;> reduce); repeat ((first | refine hK ?_ | refine sK ?_); (conv => whnf); (conv => congr <;> reduce))))
  | ((with_reducible show (_ ∧ _) ∧ _ ∧ _); refine ⟨⟨rfl, rfl⟩, ?_, ?_⟩ <;> with_reducible ((conv => whnf) <;> repeat' (first | exact trivial | (refine And.intro ?_ ?_ <;> (conv => whnf))))))
  refine cV (f123_ok a7) c123 ?_; (with_reducible ((conv => whnf); (conv => congr <;> reduce); repeat ((first | refine hK ?_ | refine sK ?_); (conv => whnf); (conv => congr <;> reduce))))
  repeat' (first
  | (first
  | ((with_reducible show IfK _ _ _ _); first | refine IfK.ff ?_ | refine IfK.tt ?_ | refine IfK.no (by first | exact qA | ((try simp only [castN]); first | (simp []; done) | (simp []; omega))) ?_ | refine IfK.yes (by first | exact qA | ((try simp only [castN]); first | (simp []; done) | (simp []; omega))) ?_)
  | ((with_reducible show NeedK _ _ _ _); refine nK ?_)
  | ((with_reducible show DrawK _ _ _ _); refine dK ?_)) <;> (with_reducible ((conv => whnf); (conv => congr <;> reduce); repeat ((first | refine hK ?_ | refine sK ?_); (conv => whnf); (conv => congr <;> reduce))))
  | ((with_reducible show (_ ∧ _) ∧ _ ∧ _); refine ⟨⟨rfl, rfl⟩, ?_, ?_⟩ <;> with_reducible ((conv => whnf) <;> repeat' (first | exact trivial | (refine And.intro ?_ ?_ <;> (conv => whnf))))))
  obtain ⟨spF, hs0, hs1⟩ : ∃ spF : Nat → List Int, spF 0 = (k : Int) :: sp ∧ ∀ j, spF (j + 1) = [] := ⟨fun j => match j with | 0 => (k : Int) :: sp | _ + 1 => [], rfl, fun _ => rfl⟩
  have hk7 := hs.kids _ (List.mem_of_getElem? hx)
  simp only at hk7
  refine LoopK.range G G_good 3 [(2, .ptr 1 0 0), (5, .own 2 0 (out.length + 1)), (6, .ptr 0 0 0), (41, .clo (.func 155) [] [.fptr (eInts a7) 0])]
   (fun j => [(0, .live 1 [.own 171 0 (st'.length + j)] false), (1, .live 2 [eFor ⟨l, m⟩] false), (2, rInts (out ++ [(k : Int)])), (171, rInts (st' ++ a7.reverse.take j ++ spF j))])
   (back_it a7 (by omega)) c155 ?_ rfl ⟨⟨rfl, rfl⟩, rfl⟩ (fun _ _ => rfl) (fun _ _ => rfl) ⟨⟨rfl, rfl⟩, rfl, rfl⟩ ?_ ?_
  ·refine ⟨⟨rfl, rfl⟩, ?_⟩
   (with_reducible conv => whnf)
   repeat' (first | (with_reducible exact trivial) | (with_reducible refine And.intro ?_ ?_ <;> with_reducible conv => whnf))
   all_goals try rfl
   ·simp
   ·exact ⟨.refl rfl, rfl⟩
   ·refine ⟨?_, noRef_ints _⟩
    rw [← show (out ++ [(k : Int)]).map oInt = out.map oInt ++ [AV.lit (.int .i64 k)] by simp; rfl]
    exact .refl (noRef_ints _)
   ·refine ⟨?_, noRef_ints _⟩
    rw [hs0, List.take_zero, List.append_nil, show st' ++ [(k : Int)] ++ sp = st' ++ (k : Int) :: sp by simp]; exact .refl (noRef_ints _)
  ·intro j hj
   (with_reducible ((conv => whnf); (conv => congr <;> reduce); repeat ((first | refine hK ?_ | refine sK ?_); (conv => whnf); (conv => congr <;> reduce))))
   refine BodyK.mk rfl ?_; (with_reducible ((conv => whnf); (conv => congr <;> reduce); repeat ((first | refine hK ?_ | refine sK ?_); (conv => whnf); (conv => congr <;> reduce))))
   repeat' (first
  | (first
  | ((with_reducible show IfK _ _ _ _); first | refine IfK.ff ?_ | refine IfK.tt ?_ | refine IfK.no (by first | exact qA | ((try simp only [castN]); first | (simp []; done) | (simp []; omega))) ?_ | refine IfK.yes (by first | exact qA | ((try simp only [castN]); first | (simp []; done) | (simp []; omega))) ?_)
  | ((with_reducible show NeedK _ _ _ _); refine nK ?_)
  | ((with_reducible show DrawK _ _ _ _); refine dK ?_)) <;> (with_reducible ((conv => whnf); (conv => congr <;> reduce); repeat ((first | refine hK ?_ | refine sK ?_); (conv => whnf); (conv => congr <;> reduce))))
  | ((with_reducible show (_ ∧ _) ∧ _ ∧ _); refine ⟨⟨rfl, rfl⟩, ?_, ?_⟩ <;> with_reducible ((conv => whnf) <;> repeat' (first | exact trivial | (refine And.intro ?_ ?_ <;> (conv => whnf))))))
   refine AppK.take ((st' ++ a7.reverse.take j).map oInt) [oInt ((a7.reverse[j]?).getD 0)] ⟨rfl, by simp; omega, by rw [List.map_append (l₂ := spF j), List.take_left' (by simp; omega)]⟩ ⟨rfl, rfl, rfl⟩ rfl (by simp; omega) (by simp; omega) ?_
   (with_reducible ((conv => whnf); (conv => congr <;> reduce); repeat ((first | refine hK ?_ | refine sK ?_); (conv => whnf); (conv => congr <;> reduce))))
   repeat' (first
  | (first
  | ((with_reducible show IfK _ _ _ _); first | refine IfK.ff ?_ | refine IfK.tt ?_ | refine IfK.no (by first | exact qA | ((try simp only [castN]); first | (simp []; done) | (simp []; omega))) ?_ | refine IfK.yes (by first | exact qA | ((try simp only [castN]); first | (simp []; done) | (simp []; omega))) ?_)
  | ((with_reducible show NeedK _ _ _ _); refine nK ?_)
  | ((with_reducible show DrawK _ _ _ _); refine dK ?_)) <;> (with_reducible ((conv => whnf); (conv => congr <;> reduce); repeat ((first | refine hK ?_ | refine sK ?_); (conv => whnf); (conv => congr <;> reduce))))
  | ((with_reducible show (_ ∧ _) ∧ _ ∧ _); refine ⟨⟨rfl, rfl⟩, ?_, ?_⟩ <;> with_reducible ((conv => whnf) <;> repeat' (first | exact trivial | (refine And.intro ?_ ?_ <;> (conv => whnf))))))
   refine TurnK.mk ?_
   obtain ⟨c, hc⟩ : ∃ c, a7.reverse[j]? = some c := ⟨_, List.getElem?_eq_getElem (by simpa using hj)⟩
   have htk : a7.reverse.take (j + 1) = a7.reverse.take j ++ [c] := by rw [List.take_add_one, hc]; rfl
   rw [hc, Option.getD_some]
   refine ⟨⟨rfl, rfl⟩, ?_⟩
   (with_reducible conv => whnf)
   repeat' (first | (with_reducible exact trivial) | (with_reducible refine And.intro ?_ ?_ <;> with_reducible conv => whnf))
   all_goals try rfl
   ·simp; omega
   ·exact ⟨.refl rfl, rfl⟩
   ·exact ⟨.refl (noRef_ints _), noRef_ints _⟩
   ·refine ⟨?_, noRef_ints _⟩
    rw [hs1, htk, List.append_nil, ← List.append_assoc, List.map_append (l₂ := [c])]; exact .refl (by rw [← List.map_append]; exact noRef_ints _)
  ·(with_reducible ((conv => whnf); (conv => congr <;> reduce); repeat ((first | refine hK ?_ | refine sK ?_); (conv => whnf); (conv => congr <;> reduce))))
   have hT : nd l k = ⟨a1, a2, a3, a4, a5, a6, a7, a8, a9, a10⟩ := hnx
   have hch : (nd l k).kids = a7 := by rw [hT]
   have hpop := V.rest_pop T (st := st') ht
   rw [hch] at hpop
   have hkid : ∀ c ∈ a7, thereN l c = true := fun c hc => (T.kid k ht c (by rw [hch]; exact hc)).1
   have hta : a7.reverse.take a7.length = a7.reverse := List.take_of_length_le (by simp)
   refine NextK.mk (out ++ [(k : Int)], st' ++ a7.reverse, spF a7.length) ⟨?_, ?_⟩ ?_ ?_
   ·rw [ho, hpop]; simp
   ·intro c hc
    rcases List.mem_append.1 hc with h | h
    ·exact hst c (by simp [h])
    ·exact hkid c (by simpa using h)
   ·simp only [List.length_append, List.length_singleton]; omega
   ·refine ⟨⟨rfl, rfl⟩, ?_⟩
    (with_reducible conv => whnf)
    repeat' (first | (with_reducible exact trivial) | (with_reducible refine And.intro ?_ ?_ <;> with_reducible conv => whnf))
    all_goals try rfl
    ·simp
    ·exact ⟨.refl (noRef_ints _), noRef_ints _⟩
    ·simp
    ·refine ⟨?_, noRef_ints _⟩
     rw [hta]; exact .refl (noRef_ints _)
theorem wide_ints (l : List Int) : wideM [(0, rInts l)] = true := by
 have : wideB 1 (l.map oInt) = true := List.all_eq_true.2 fun x hx => by
  obtain ⟨n, _, rfl⟩ := List.mem_map.1 hx; rfl
 show (wideB 1 (l.map oInt) && true) = true
 rw [this]; rfl
theorem f78_ok (f : ForM) (hs : SmallN f.nodes) (n : Int) : FnOK Tryz.prog 78 [] [eFor f, eInt n] [] (eInts (ordF f n)) := by
 cases e0 : (rightF f && thereN f.nodes n) with
 | true =>
   unfold ordF
   rw [if_pos e0]
   refine FnOK.frozen [(0, rInts (ordN f.nodes f.nodes.length n))] ?_ (wide_ints _) (f78_own f hs n e0) (frz_ints rfl rfl rfl rfl)
   funext t
   match t with
   | 0 => rfl
   | n + 1 => rfl
 | false =>
   have h76 := f76_ok f hs [n] (by simp)
   rw [asked_one, e0] at h76
   unfold ordF
   rw [e0]
   obtain ⟨l, m⟩ := f
   refine FnOK.startC (rvs := [.tmp 4]) G G_good Tryz.func78 rfl Tryz.ntmps78 rfl rfl ?_; delta List.toArray; (with_reducible ((conv => whnf); (conv => congr <;> reduce); repeat ((first | refine hK ?_ | refine sK ?_); (conv => whnf); (conv => congr <;> reduce))))
   refine CallK.lit [131] h76 c76 ⟨⟨rfl, rfl, trivial⟩, frz_ints (l := [n]) rfl rfl rfl rfl, trivial⟩ rfl rfl ?_; (with_reducible ((conv => whnf); (conv => congr <;> reduce); repeat ((first | refine hK ?_ | refine sK ?_); (conv => whnf); (conv => congr <;> reduce))))
   repeat' (first
  | (first
  | ((with_reducible show IfK _ _ _ _); first | refine IfK.ff ?_ | refine IfK.tt ?_ | refine IfK.no (by first | exact qA | ((try simp only [castN]); first | (simp []; done) | (simp []; omega))) ?_ | refine IfK.yes (by first | exact qA | ((try simp only [castN]); first | (simp []; done) | (simp []; omega))) ?_)
  | ((with_reducible show NeedK _ _ _ _); refine nK ?_)
  | ((with_reducible show DrawK _ _ _ _); refine dK ?_)) <;> (with_reducible ((conv => whnf); (conv => congr <;> reduce); repeat ((first | refine hK ?_ | refine sK ?_); (conv => whnf); (conv => congr <;> reduce))))
  | ((with_reducible show (_ ∧ _) ∧ _ ∧ _); refine ⟨⟨rfl, rfl⟩, ?_, ?_⟩ <;> with_reducible ((conv => whnf) <;> repeat' (first | exact trivial | (refine And.intro ?_ ?_ <;> (conv => whnf))))))
   all_goals exact .inr (.inr ⟨1, rfl⟩)
@[reducible] def eIds (t : List (ByteArray × Int)) : AV := .fmap (tRows Value.string oInt t)
def oIds (t : List (ByteArray × Int)) : AV := eIds t
@[reducible] def idRows (c : List (Int × List (ByteArray × Int))) : List AV := tRows vInt oIds c
@[reducible] def idsM (c : List (Int × List (ByteArray × Int))) : MS := .live 2 (idRows c) false
theorem mt114 : MapTy Tryz.prog 114 (.int .i64) (.map none) := ⟨3, 134, by kernel_rfl, by kernel_rfl, fun w => Tryz.zeroValue134 w⟩
theorem noRef_tRows {K α : Type} (kv : K → Value) (e : α → AV) (h : ∀ a, noRef (e a) = true) (l : List (K × α)) : noRefL (tRows kv e l) = true := by
 rw [noRefL_iff]; intro x hx
 obtain ⟨p, _, rfl⟩ := List.mem_map.1 hx
 simp [entry, noRef, noRefL, h]
theorem noRef_ids (c : List (Int × List (ByteArray × Int))) : noRefL (idRows c) = true := noRef_tRows _ _ (fun _ => rfl) c
theorem noRef_idT (t : List (ByteArray × Int)) : noRefL (tRows Value.string oInt t) = true := noRef_tRows _ _ (fun _ => rfl) t
structure IdsOK (l : List NodeM) (c : List (Int × List (ByteArray × Int))) : Prop where
 is : ∀ r t, tget r c = some t → t = idTab l r
 len : c.length ≤ 1000
def keepT (l : List NodeM) (c : List (Int × List (ByteArray × Int))) (r : Int) : List (Int × List (ByteArray × Int)) := match tget r c with
 | some _ => c
 | none => c ++ [(r, idTab l r)]
def stepC (l : List NodeM) (c : List (Int × List (ByteArray × Int))) (n : Int) : List (Int × List (ByteArray × Int)) :=
 if (nd l n).kind = 1 then
  match attV (nd l n) formW with
  | some _ => if conN l n = true then keepT l c (rootN l n) else c
  | none => c
 else c
theorem keepT_is {l : List NodeM} {c : List (Int × List (ByteArray × Int))} (h : ∀ r t, tget r c = some t → t = idTab l r) (r : Int) : ∀ q t, tget q (keepT l c r) = some t → t = idTab l q := by
 intro q t
 unfold keepT
 cases hg : tget r c with
 | some x => exact h q t
 | none =>
   rw [← tput_new hg, tget_put]
   by_cases e : r = q
   ·rw [if_pos e]; intro ht; cases ht; rw [e]
   ·rw [if_neg e]; exact h q t
theorem keepT_len (l : List NodeM) (c : List (Int × List (ByteArray × Int))) (r : Int) : (keepT l c r).length ≤ c.length + 1 := by
 unfold keepT; split <;> simp
theorem stepC_is {l : List NodeM} {c : List (Int × List (ByteArray × Int))} (h : ∀ r t, tget r c = some t → t = idTab l r) (n : Int) : ∀ q t, tget q (stepC l c n) = some t → t = idTab l q := by
 unfold stepC
 split
 ·split
  ·split
   ·exact keepT_is h _
   ·exact h
  ·exact h
 ·exact h
theorem stepC_len (l : List NodeM) (c : List (Int × List (ByteArray × Int))) (n : Int) : (stepC l c n).length ≤ c.length + 1 := by
 unfold stepC
 split
 ·split
  ·split
   ·exact keepT_len _ _ _
   ·omega
  ·omega
 ·omega
theorem f116_ok (l : List NodeM) (m : Int) (c : List (Int × List (ByteArray × Int))) (T : Tree l) (n : Int) (hn : thereN l n = true) :
  FnOK Tryz.prog 116 [] [.agg [eNodes l, eInt m, .fmap (idRows c)], eInt n] [] (eInt (nearN l n)) := by
 have hstep := fun n h1 h2 => find_step T (fun p => isForm (nd l p)) (n := n) h1 h2
 have htop := fun n h1 h2 => find_top T (fun p => isForm (nd l p)) (n := n) h1 h2
 have hwst := fun n h1 h2 => way_step T (n := n) h1 h2
 have hpar : ∀ n, thereN l n = true → (nd l n).parent = -1 ∨ thereN l (nd l n).parent = true := fun n hn => by
  by_cases h : (nd l n).parent = -1
  ·exact .inl h
  ·exact .inr (T.par n hn h).1
 unfold nearN
 obtain ⟨q, hq⟩ : ∃ q : Int → Bool, (fun p => isForm (nd l p)) = q := ⟨_, rfl⟩
 rw [hq] at hstep htop ⊢
 have hqe : ∀ p, q p = isForm (nd l p) := fun p => by rw [← hq]
 have step : ∀ p y, thereN l p = true → nd l p = y → (y.parent = -1 ∧ nearBy l q p = -1) ∨ (thereN l y.parent = true ∧ y.parent ≠ -1 ∧ (nearBy l q p = if isForm (nd l y.parent) = true then y.parent else nearBy l q y.parent) ∧ (wayN l y.parent).length < (wayN l p).length) := by
  rintro p y hp rfl
  by_cases e : (nd l p).parent = -1
  ·exact .inl ⟨e, htop p hp e⟩
  ·exact .inr ⟨(hpar p hp).resolve_left e, e, (hstep p hp e).trans (by first | rfl | rw [hqe]), by rw [hwst p hp e]; simp⟩
 clear hstep htop hwst hpar
 refine FnOK.startC (rvs := [.tmp 4]) G G_good Tryz.func116 rfl Tryz.ntmps116 rfl rfl ?_; with_reducible refine wD ?_
 obtain ⟨i, y, e, hy, hny⟩ := there_iff.1 hn
 have hst := step n y hn hny
 obtain ⟨b1, b2, b3, b4, b5, b6, b7, b8, b9, b10⟩ := y
 simp only at hst
 refine IdxK.mk i (eNode _) e (node_get hy) ?_; with_reducible refine wK ?_
 refine LoopK.use G G_good (fun (p : Int) => [(1, eInt p), (2, .ptr 20 0 0)]) (fun _ => [(20, .live 3 [.agg [eNodes l, eInt m, .fmap (idRows c)]] false)])
  (fun p => (p = -1 ∧ nearBy l q n = -1) ∨ (thereN l p = true ∧ p ≠ -1 ∧ nearBy l q n = if isForm (nd l p) = true then p else nearBy l q p)) (fun p => if p = -1 then 0 else (wayN l p).length) b6
  (by rcases hst with h | ⟨h1, h2, h3, _⟩; exact .inl h; exact .inr ⟨h1, h2, h3⟩) (by (refine fK ?_; (with_reducible repeat' (first | exact trivial | (show _ ∧ _; refine aK ?_ ?_))); (all_goals try rfl))) ?_
 intro p hp
 with_reducible refine wK ?_
 rcases hp with ⟨rfl, h1⟩ | ⟨h1, h2, h3⟩
 ·rw [h1]
  repeat' (first
  | refine gK ?_ | refine aE ?_ ?_
  | apply trivial)
  all_goals rfl
 ·obtain ⟨j, z, e', hz, hnz⟩ := there_iff.1 h1
  have hst := step p z h1 hnz
  rw [hnz] at h3
  have h81 := f81_ok z
  obtain ⟨c1, c2, c3, c4, c5, c6, c7, c8, c9, c10⟩ := z
  simp only at hst
  cases hf : isForm ⟨c1, c2, c3, c4, c5, c6, c7, c8, c9, c10⟩ with
  | true =>
    rw [hf] at h81 h3
    rw [h3, if_pos rfl]
    (have fct := (eq_false h2); (repeat' (first
  | refine gF ?_ | refine aE ?_ ?_
  | ((first
   | ((with_reducible refine kQ 81 ?_); refine cL h81 c81 ?_)
   | (refine IdxK.mk j (eNode ⟨c1, c2, c3, c4, c5, c6, c7, c8, c9, c10⟩) e' (node_get hz) ?_)) <;> with_reducible refine wK ?_)
  | apply trivial)); all_goals clear fct)
    all_goals rfl
  | false =>
    rw [hf] at h81 h3
    rw [if_neg (by simp)] at h3
    (have fct := (eq_false h2); (repeat' (first
  | refine gF ?_ | refine aE ?_ ?_
  | ((first
   | ((with_reducible refine kQ 81 ?_); refine cL h81 c81 ?_)
   | (refine IdxK.mk j (eNode ⟨c1, c2, c3, c4, c5, c6, c7, c8, c9, c10⟩) e' (node_get hz) ?_)) <;> with_reducible refine wK ?_)
  | apply trivial)); all_goals clear fct)
    refine NextK.mk c6 ?_ ?_ ?_
    ·rw [h3]
     rcases hst with h | ⟨g1, g2, g3, _⟩
     ·exact .inl h
     ·exact .inr ⟨g1, g2, g3⟩
    ·rw [if_neg h2]
     rcases hst with ⟨h, _⟩ | ⟨_, g2, _, g4⟩
     ·rw [if_pos h]
      obtain ⟨r, hr⟩ := way_head T h1
      rw [hr]; simp
     ·rw [if_neg g2]; exact g4
    ·(refine fK ?_; (with_reducible repeat' (first | exact trivial | (show _ ∧ _; refine aK ?_ ?_))); (all_goals try rfl))
theorem f73_ok (f : ForM) : FnOK Tryz.prog 73 [] [eFor f] [idsM []] (.agg [eNodes f.nodes, eInt f.most, .mapr 0]) := by
 obtain ⟨l, m⟩ := f
 refine FnOK.startC (rvs := [.cell 2 116]) G G_good Tryz.func73 rfl Tryz.ntmps73 rfl rfl ?_; with_reducible refine wD ?_
 repeat' (first
  | refine gK ?_ | refine aE ?_ ?_
  | apply trivial)
 all_goals first | rfl | trivial
theorem rows_snoc {R : AV → AV → Prop} {a b : List AV} {x y : AV} (h : RowsM R a b) (k : R x y) : RowsM R (a ++ [x]) (b ++ [y]) := by
 refine ⟨by simp [h.1], fun i u v hu hv => ?_⟩
 rw [List.getElem?_append] at hu hv
 rw [h.1] at hu
 by_cases hi : i < b.length
 ·rw [if_pos hi] at hu hv; exact h.2 i u v hu hv
 ·rw [if_neg hi] at hu hv
  rw [List.getElem?_singleton] at hu hv
  split at hu
  ·rename_i h0; rw [if_pos h0] at hv; cases hu; cases hv; exact k
  ·cases hu
theorem MFL_of {R : AV → AV → Prop} : ∀ {a b : List AV}, RowsM R a b → MFL R a b
 | [], [], _ => trivial
 | x :: xs, y :: ys, h => ⟨h.2 0 x y rfl rfl, MFL_of ⟨by have := h.1; simpa using this, fun i u v hu hv => h.2 (i + 1) u v (by simpa using hu) (by simpa using hv)⟩⟩
 | [], _ :: _, h => by have := h.1; simp at this
 | _ :: _, [], h => by have := h.1; simp at this
theorem ids_snoc (c : List (Int × List (ByteArray × Int))) (r : Int) (t : List (ByteArray × Int)) : idRows (c ++ [(r, t)]) = idRows c ++ [entry (vInt r) (eIds t)] := by
 unfold idRows tRows; rw [List.map_append]; rfl
theorem frz_idT {m : ML} {fz : Nat → Bool} {k : Nat} {ro : Bool} {rows : List AV} {t : List (ByteArray × Int)} (h1 : lkM m k = .live 2 rows ro) (h2 : fz k = true) (h3 : rows = tRows Value.string oInt t) : FrzMK m fz (eIds t) k := by
 subst h3
 refine ⟨2, _, ro, h1, h2, rfl, fun x hx => ?_⟩
 obtain ⟨p, _, rfl⟩ := List.mem_map.1 hx
 exact ⟨_, _, rfl, rfl⟩
theorem f117_ok (l : List NodeM) (m : Int) (hs : SmallN l) (hrt : rightF ⟨l, m⟩ = true) (c : List (Int × List (ByteArray × Int))) (hc : IdsOK l c) (r : Int) (hr : thereN l r = true) :
  FnOK Tryz.prog 117 [idsM c] [.agg [eNodes l, eInt m, .mapr 0], eInt r] [idsM (keepT l c r)] (eIds (idTab l r)) := by
 have T : Tree l := tree_of hrt
 have h78 := f78_ok ⟨l, m⟩ hs r
 have e78 : ordF ⟨l, m⟩ r = ordN l l.length r := by unfold ordF; rw [if_pos (by rw [hrt, hr]; rfl)]
 rw [e78] at h78
 have hol := ord_len T l.length hr
 have h60 := hs.len
 have hot : ∀ k ∈ ordN l l.length r, thereN l k = true := fun k hk => (ord_root T hr hk).1
 have hci := hc.is r
 have hcl := hc.len
 obtain ⟨kt, hkt⟩ : ∃ kt, keepT l c r = kt := ⟨_, rfl⟩
 rw [hkt]
 unfold keepT at hkt
 unfold idTab at hkt hci ⊢
 have hci := hci
 generalize ordN l l.length r = ks at h78 hol hot hci hkt ⊢
 have hkm : (ks.map oInt).length = ks.length := List.length_map ..
 refine FnOK.startC (rvs := [.tmp 4]) G G_good Tryz.func117 rfl Tryz.ntmps117 rfl rfl ?_; with_reducible refine wD ?_
 refine LookK.tab vInt oIds c (k := r) (zv := .lit (.map none)) mt114 ⟨_, _, rfl⟩ key_int inj_int rfl rfl (fun x hx => ?_) (fun hx => ?_)
 ·rw [hx] at hkt
  dsimp only at hkt
  subst hkt
  rw [show oIds x = eIds x from rfl]
  have hxe := hci x hx
  with_reducible refine wK ?_
  repeat' (first
  | refine gK ?_ | refine aE ?_ ?_
  | apply trivial)
  all_goals first
   | exact MFL_refl (noRef_ids c)
   | rfl
   | exact (congrArg eIds hxe).symm
   | skip
 ·rw [hx] at hkt
  dsimp only at hkt
  subst hkt
  with_reducible refine wK ?_
  repeat' (first
  | refine gK ?_ | refine aE ?_ ?_
  | (((with_reducible refine kQ 78 ?_); refine cV h78 c78 ?_) <;> with_reducible refine wK ?_)
  | apply trivial)
  refine LoopK.use G G_good (fun (j : Nat) => [(1, eInt r), (2, .ptr 20 0 0), (7, .mapr 71), (27, eInts ks), (28, eInt ks.length), (29, eInt j)])
   (fun j => [(0, idsM c), (20, .live 3 [.agg [eNodes l, eInt m, .mapr 0]] false), (71, .live 2 (tRows Value.string oInt ((ks.take j).foldl (addId l) [])) false)])
   (fun j => j ≤ ks.length) (fun j => ks.length - j) 0 (Nat.zero_le _) ?_ ?_
  ·(refine fK ?_; (with_reducible repeat' (first | exact trivial | (show _ ∧ _; refine aK ?_ ?_))); (all_goals try rfl))
   all_goals first
    | exact MFL_refl (noRef_ids c)
    | exact hkm
    | (show (ks.length : Int) = _; rw [hkm])
    | (show ObjK _ [] []; exact ⟨.refl rfl, rfl⟩)
    | skip
  intro j hj
  with_reducible refine wK ?_
  refine IfK.mk (fun h1 => ?_) (fun h1 => ?_) <;> (try simp only [castN] at h1) <;> with_reducible refine wK ?_
  ·have hj' : j < ks.length := by simp only [decide_eq_true_eq] at h1; omega
   obtain ⟨k, hk⟩ : ∃ k, ks[j]? = some k := ⟨_, List.getElem?_eq_getElem hj'⟩
   obtain ⟨i, y, e, hy, hny⟩ := there_iff.1 (hot k (List.mem_of_getElem? hk))
   have h47 := f47_ok y.attrs (by have := hs.attrs y (List.mem_of_getElem? hy); omega) idW
   have hst : (ks.take (j + 1)).foldl (addId l) [] = addId l ((ks.take j).foldl (addId l) []) k := by
    rw [List.take_add_one, hk, List.foldl_append]; rfl
   have hfl := fold_len l (ks.take j) []
   rw [List.length_nil, List.length_take] at hfl
   generalize (ks.take j).foldl (addId l) [] = t at hst hfl ⊢
   have ha : addId l t k = if 0 ≤ findP y.attrs idW ∧ tget (getS y.attrs idW) t = none then tput (getS y.attrs idW) k t else t := by
    unfold addId attV
    rw [hny]
    by_cases e1 : 0 ≤ findP y.attrs idW
    ·rw [if_pos e1]
     simp only
     cases e2 : tget (getS y.attrs idW) t with
     | none => rw [if_pos ⟨e1, rfl⟩]
     | some z => rw [if_neg (fun h => by cases h.2)]
    ·rw [if_neg e1, if_neg (fun h => e1 h.1)]
   rw [ha] at hst
   generalize hg : getS y.attrs idW = gs at h47 hst
   obtain ⟨ok, hok⟩ : ∃ ok, decide (0 ≤ findP y.attrs idW) = ok := ⟨_, rfl⟩
   rw [hok] at h47
   have hst' : (ks.take (j + 1)).foldl (addId l) [] = if ok = true ∧ tget gs t = none then tput gs k t else t := by rw [hst]; simp only [← hok, decide_eq_true_eq]
   clear ha hst hg hok
   obtain ⟨b1, b2, b3, b4, b5, b6, b7, b8, b9, b10⟩ := y
   simp only at h47
   refine IdxK.mk j (eInt k) rfl (int_get hk) ?_; with_reducible refine wK ?_
   refine IdxK.mk i (eNode _) e (node_get hy) ?_; with_reducible refine wK ?_
   refine cL h47 c47 ?_; with_reducible refine wK ?_
   refine LookK.tab Value.string oInt t (k := gs) (zv := eInt 0) map62 ⟨_, _, rfl⟩ key_str inj_str rfl rfl (fun x hx2 => ?_) (fun hx2 => ?_)
   ·rw [hx2, if_neg (fun h => by cases h.2)] at hst'
    rw [show oInt x = eInt x from rfl]
    with_reducible refine wK ?_
    cases ok <;> (
     repeat' (first
  | refine gK ?_ | refine aE ?_ ?_
  | apply trivial)
     refine NextK.mk (j + 1) (by omega) (by omega) ?_
     rw [hst']
     (refine fK ?_; (with_reducible repeat' (first | exact trivial | (show _ ∧ _; refine aK ?_ ?_))); (all_goals try rfl))
     all_goals first
      | exact MFL_refl (noRef_ids c)
      | exact ⟨.refl (noRef_idT t), noRef_idT t⟩
      | skip)
   ·rw [hx2] at hst'
    with_reducible refine wK ?_
    cases ok with
    | false =>
      rw [if_neg (fun h => by cases h.1)] at hst'
      repeat' (first
  | refine gK ?_ | refine aE ?_ ?_
  | apply trivial)
      refine NextK.mk (j + 1) (by omega) (by omega) ?_
      rw [hst']
      (refine fK ?_; (with_reducible repeat' (first | exact trivial | (show _ ∧ _; refine aK ?_ ?_))); (all_goals try rfl))
      all_goals first
       | exact MFL_refl (noRef_ids c)
       | exact ⟨.refl (noRef_idT t), noRef_idT t⟩
       | skip
    | true =>
      rw [if_pos ⟨rfl, rfl⟩] at hst'
      repeat' (first
  | refine gK ?_ | refine aE ?_ ?_
  | apply trivial)
      refine PutK.tab Value.string oInt t k map62 rfl key_str inj_str (by unfold maxLen; omega) rfl ?_; with_reducible refine wK ?_
      repeat' (first
  | refine gK ?_ | refine aE ?_ ?_
  | apply trivial)
      refine NextK.mk (j + 1) (by omega) (by omega) ?_
      rw [hst']
      (refine fK ?_; (with_reducible repeat' (first | exact trivial | (show _ ∧ _; refine aK ?_ ?_))); (all_goals try rfl))
      all_goals first
       | exact MFL_refl (noRef_ids c)
       | exact ⟨.refl (noRef_idT _), noRef_idT _⟩
       | skip
  ·have hjl : j = ks.length := by simp only [decide_eq_false_iff_not] at h1; omega
   subst hjl
   rw [List.take_length]
   generalize hT : ks.foldl (addId l) [] = t
   repeat' (first
  | refine gK ?_ | refine aE ?_ ?_
  | apply trivial)
   refine PutK.new mt114 rfl (key_int r) (tRows_ents key_int) (tRows_no inj_int hx) (by simp [idRows, tRows, maxLen]; omega) rfl rfl ?_; with_reducible refine wK ?_
   repeat' (first
  | refine gK ?_ | refine aE ?_ ?_
  | apply trivial)
   all_goals first
    | exact frz_idT rfl rfl rfl
    | skip
   rw [ids_snoc]
   refine MFL_of (rows_snoc (.refl (noRef_ids c)) ?_)
   exact ⟨rfl, ⟨frz_idT rfl rfl rfl, trivial⟩, trivial⟩
theorem frz_ids {m : ML} {fz : Nat → Bool} {k : Nat} {ro : Bool} {rows : List AV} {c : List (Int × List (ByteArray × Int))} (h1 : lkM m k = .live 2 rows ro) (h2 : fz k = true) (h3 : rows = idRows c) : FrzMK m fz (.fmap (idRows c)) k := by
 subst h3
 refine ⟨2, _, ro, h1, h2, rfl, fun x hx => ?_⟩
 obtain ⟨p, _, rfl⟩ := List.mem_map.1 hx
 exact ⟨_, _, rfl, rfl⟩
theorem att_get {x : NodeM} {w : ByteArray} : attV x w = if 0 ≤ findP x.attrs w then some (getS x.attrs w) else none := rfl
theorem conF_eq {l : List NodeM} {m : Int} (hr : rightF ⟨l, m⟩ = true) {n : Int} (hn : thereN l n = true) : conF ⟨l, m⟩ n = conN l n := by
 unfold conF conN; rw [hr, show thereN (ForM.mk l m).nodes n = true from hn]; rfl
theorem f74_ok (l : List NodeM) (m : Int) (hs : SmallN l) (hrt : rightF ⟨l, m⟩ = true) (c : List (Int × List (ByteArray × Int))) (hc : IdsOK l c) (n : Int) (hn : thereN l n = true) :
  FnOK Tryz.prog 74 [idsM c] [.agg [eNodes l, eInt m, .mapr 0], eInt n] [idsM (stepC l c n)] (eInt (ownN l n)) := by
 have T : Tree l := tree_of hrt
 have h21 := f21_ok ⟨l, m⟩ hs n
 rw [conF_eq hrt hn] at h21
 have h116 := f116_ok l m c T n hn
 have h48 := f48_ok ⟨l, m⟩ hs hrt n hn
 have hrth := (root_there T n hn).1
 have h117 := f117_ok l m hs hrt c hc (rootN l n) hrth
 have hfst := fun v k => @first_some l (rootN l n) v k
 have hord := fun k hk => (ord_root T hrth (n := k) hk).1
 obtain ⟨i, x, e, hx, hnx⟩ := there_iff.1 hn
 have h47 := f47_ok x.attrs (by have := hs.attrs x (List.mem_of_getElem? hx); omega) formW
 unfold ownN stepC byId
 rw [hnx, att_get]
 simp only at h48
 have hig := fun v => idTab_get l (rootN l n) v
 generalize rootN l n = r at h48 h117 hfst hord hig ⊢
 generalize nearN l n = nr at h116 ⊢
 generalize conN l n = cn at h21 ⊢
 generalize hgs : getS x.attrs formW = v at h47 ⊢
 obtain ⟨ok, hok⟩ : ∃ ok, decide (0 ≤ findP x.attrs formW) = ok := ⟨_, rfl⟩
 rw [hok] at h47
 have hok' : (0 ≤ findP x.attrs formW) = (ok = true) := by rw [← hok]; simp
 simp only [hok']
 clear hok hok' hgs
 obtain ⟨a1, a2, a3, a4, a5, a6, a7, a8, a9, a10⟩ := x
 simp only at h47 ⊢
 refine FnOK.startC (rvs := [.tmp 4]) G G_good Tryz.func74 rfl Tryz.ntmps74 rfl rfl ?_; with_reducible refine wD ?_
 refine IdxK.mk i (eNode _) e (node_get hx) ?_; with_reducible refine wK ?_
 by_cases e1 : a1 = 1
 ·rw [if_pos e1, if_pos e1]
  refine IfK.no (by rw [e1]; rfl) ?_; with_reducible refine wK ?_
  cases ok with
  | false =>
    rw [if_neg (by simp)]
    repeat' (first
  | refine gK ?_ | refine aE ?_ ?_
  | ((first
   | ((with_reducible refine kQ 47 ?_); refine cL h47 c47 ?_)
   | ((with_reducible refine kQ 21 ?_); refine cL h21 c21 ?_)
   | ((with_reducible refine kQ 116 ?_); refine CallK.lit [0] h116 c116 ⟨⟨rfl, rfl, frz_ids rfl rfl rfl, trivial⟩, rfl, trivial⟩ rfl rfl ?_)) <;> with_reducible refine wK ?_)
  | apply trivial)
    all_goals first | rfl | exact MFL_refl (noRef_ids c)
  | true =>
    rw [if_pos rfl]
    simp only
    cases cn with
    | false =>
      rw [if_neg (by simp), if_neg (by simp)]
      repeat' (first
  | refine gK ?_ | refine aE ?_ ?_
  | ((first
   | ((with_reducible refine kQ 47 ?_); refine cL h47 c47 ?_)
   | ((with_reducible refine kQ 21 ?_); refine cL h21 c21 ?_)
   | ((with_reducible refine kQ 116 ?_); refine CallK.lit [0] h116 c116 ⟨⟨rfl, rfl, frz_ids rfl rfl rfl, trivial⟩, rfl, trivial⟩ rfl rfl ?_)) <;> with_reducible refine wK ?_)
  | apply trivial)
      all_goals first | rfl | exact MFL_refl (noRef_ids c)
    | true =>
      rw [if_pos rfl, if_pos rfl]
      repeat' (first
  | refine gK ?_ | refine aE ?_ ?_
  | ((first
   | ((with_reducible refine kQ 47 ?_); refine cL h47 c47 ?_)
   | ((with_reducible refine kQ 21 ?_); refine cL h21 c21 ?_)
   | ((with_reducible refine kQ 48 ?_); refine cL h48 c48 ?_)) <;> with_reducible refine wK ?_)
  | apply trivial)
      refine CallK.lend (news := [idsM (keepT l c r)]) [0] [] h117 c117 ⟨⟨rfl, rfl, trivial, trivial⟩, rfl, trivial⟩ ⟨⟨rfl, .inl ⟨rfl, noRef_ids c⟩⟩, trivial⟩ rfl ⟨⟨rfl, rfl⟩, rfl⟩ rfl ⟨⟨rfl, .inl ⟨rfl, noRef_ids _⟩⟩, trivial⟩ rfl rfl ?_
      with_reducible refine wK ?_
      refine LookK.tab Value.string oInt (idTab l r) (k := v) (zv := eInt 0) map62 rfl key_str inj_str rfl rfl (fun k hk => ?_) (fun hk => ?_)
      ·rw [hig] at hk
       rw [hk, show oInt k = eInt k from rfl]
       simp only
       obtain ⟨j, y, e', hy, hny⟩ := there_iff.1 (hord k (hfst v k hk).1)
       rw [hny]
       have h81 := f81_ok y
       obtain ⟨b1, b2, b3, b4, b5, b6, b7, b8, b9, b10⟩ := y
       obtain ⟨fm, hfm⟩ : ∃ fm, isForm ⟨b1, b2, b3, b4, b5, b6, b7, b8, b9, b10⟩ = fm := ⟨_, rfl⟩
       rw [hfm] at h81 ⊢
       with_reducible refine wK ?_
       by_cases ev : v = ⟨#[]⟩
       ·rw [if_neg (fun h => h.1 ev)]
        have ev' : v = ⟨⟨[]⟩⟩ := ev
        (have fct := ev'; (repeat' (first
  | refine gF ?_ | refine aE ?_ ?_
  | (((with_reducible show DrawK _ _ _ _); refine dK ?_) <;> with_reducible refine wK ?_)
  | apply trivial)); all_goals clear fct)
        all_goals first | rfl | exact MFL_refl (noRef_ids _)
       ·have ev' : ¬ v = ⟨⟨[]⟩⟩ := ev
        cases fm with
        | true =>
          rw [if_pos ⟨ev, rfl⟩]
          (have fct := ev'; (repeat' (first
  | refine gF ?_ | refine aE ?_ ?_
  | ((first
   | ((with_reducible show DrawK _ _ _ _); refine dK ?_)
   | (refine IdxK.mk j (eNode ⟨b1, b2, b3, b4, b5, b6, b7, b8, b9, b10⟩) e' (node_get hy) ?_)
   | ((with_reducible refine kQ 81 ?_); refine cL h81 c81 ?_)) <;> with_reducible refine wK ?_)
  | apply trivial)); all_goals clear fct)
          all_goals first | rfl | exact MFL_refl (noRef_ids _)
        | false =>
          rw [if_neg (fun h => by cases h.2)]
          (have fct := ev'; (repeat' (first
  | refine gF ?_ | refine aE ?_ ?_
  | ((first
   | ((with_reducible show DrawK _ _ _ _); refine dK ?_)
   | (refine IdxK.mk j (eNode ⟨b1, b2, b3, b4, b5, b6, b7, b8, b9, b10⟩) e' (node_get hy) ?_)
   | ((with_reducible refine kQ 81 ?_); refine cL h81 c81 ?_)) <;> with_reducible refine wK ?_)
  | apply trivial)); all_goals clear fct)
          all_goals first | rfl | exact MFL_refl (noRef_ids _)
      ·rw [hig] at hk
       rw [hk]
       with_reducible refine wK ?_
       repeat' (first
  | refine gK ?_ | refine aE ?_ ?_
  | (((with_reducible show DrawK _ _ _ _); refine dK ?_) <;> with_reducible refine wK ?_)
  | apply trivial)
       all_goals first | rfl | exact MFL_refl (noRef_ids _)
 ·rw [if_neg e1, if_neg e1]
  (have fct := (eq_false e1); (repeat' (first
  | refine gF ?_ | refine aE ?_ ?_
  | apply trivial)); all_goals clear fct)
  all_goals first | rfl | exact MFL_refl (noRef_ids c)
def ownF (f : ForM) (n : Int) : Int := if (thereN f.nodes n && rightF f) = true then ownN f.nodes n else -1
theorem idsOK_nil (l : List NodeM) : IdsOK l [] := ⟨fun r t h => (by cases h), (by simp)⟩
theorem f38_ok (f : ForM) (hs : SmallN f.nodes) (n : Int) : FnOK Tryz.prog 38 [] [eFor f, eInt n] [] (eInt (ownF f n)) := by
 have h15 := f15_ok f hs
 have h73 := f73_ok f
 obtain ⟨l, m⟩ := f
 unfold ownF
 simp only at h73 ⊢
 have hlm : (l.map oNode).length = l.length := List.length_map ..
 obtain ⟨o, ho⟩ : ∃ o, (if (thereN l n && rightF ⟨l, m⟩) = true then ownN l n else -1) = o := ⟨_, rfl⟩
 rw [ho]
 refine FnOK.startC (rvs := [.tmp 4]) G G_good Tryz.func38 rfl Tryz.ntmps38 rfl rfl ?_; with_reducible refine wD ?_
 cases ht : thereN l n with
 | false =>
   have ht' : ¬ (0 ≤ n ∧ n < (l.length : Int)) := fun h => by
    unfold thereN at ht; simp [h.1, h.2] at ht
   rw [ht, Bool.false_and, if_neg (by simp)] at ho
   subst ho
   by_cases e1 : n < 0
   ·(have fct := (eq_true e1); (repeat' (first
  | refine gF ?_ | refine aE ?_ ?_
  | apply trivial)); all_goals clear fct)
    all_goals rfl
   ·have e2 : (l.length : Int) ≤ n := by omega
    (have fct := And.intro (eq_false e1) (And.intro hlm ((eq_true e2))); (repeat' (first
  | refine gF ?_ | refine aE ?_ ?_
  | apply trivial)); all_goals clear fct)
    all_goals rfl
 | true =>
   obtain ⟨e1, e2⟩ := there_pos ht
   have e1' : ¬ n < 0 := by omega
   have e2' : ¬ (l.length : Int) ≤ n := by omega
   cases hr : rightF ⟨l, m⟩ with
   | false =>
     rw [hr] at h15
     rw [ht, hr, Bool.true_and, if_neg (by simp)] at ho
     subst ho
     (have fct := And.intro (eq_false e1') (And.intro hlm ((eq_false e2'))); (repeat' (first
  | refine gF ?_ | refine aE ?_ ?_
  | (((with_reducible refine kQ 15 ?_); refine cL h15 c15 ?_) <;> with_reducible refine wK ?_)
  | apply trivial)); all_goals clear fct)
     all_goals rfl
   | true =>
     rw [hr] at h15
     rw [ht, hr, Bool.true_and, if_pos rfl] at ho
     have h74 := f74_ok l m hs hr [] (idsOK_nil l) n ht
     rw [ho] at h74
     generalize stepC l [] n = c at h74
     (have fct := And.intro (eq_false e1') (And.intro hlm ((eq_false e2'))); (repeat' (first
  | refine gF ?_ | refine aE ?_ ?_
  | ((first
   | ((with_reducible refine kQ 15 ?_); refine cL h15 c15 ?_)
   | ((with_reducible refine kQ 73 ?_); refine CallK.new 201 [] h73 c73 ⟨⟨rfl, rfl, trivial⟩, trivial⟩ rfl rfl rfl ⟨.nil _, rfl, trivial⟩ rfl ?_)
   | ((with_reducible refine kQ 74 ?_); refine CallK.lend (news := [idsM c]) [201] [] h74 c74 ⟨⟨rfl, rfl, trivial, trivial⟩, rfl, trivial⟩ ⟨⟨rfl, .inl ⟨rfl, rfl⟩⟩, trivial⟩ rfl ⟨⟨rfl, rfl⟩, rfl⟩ rfl ⟨⟨rfl, .inl ⟨rfl, noRef_ids _⟩⟩, trivial⟩ rfl rfl ?_)) <;> with_reducible refine wK ?_)
  | apply trivial)); all_goals clear fct)
     all_goals rfl
def ownTo (l : List NodeM) (k : Nat) : List Int := (List.range k).map fun n : Nat => ownN l (n : Int)
def keepTo (l : List NodeM) : Nat → List (Int × List (ByteArray × Int))
 | 0 => []
 | k + 1 => stepC l (keepTo l k) (k : Int)
theorem keepTo_ok (l : List NodeM) : ∀ k, k ≤ 60 → IdsOK l (keepTo l k) ∧ (keepTo l k).length ≤ k
 | 0, _ => ⟨idsOK_nil l, Nat.le_refl _⟩
 | k + 1, h => by
   obtain ⟨h1, h2⟩ := keepTo_ok l k (by omega)
   have h3 := stepC_len l (keepTo l k) (k : Int)
   exact ⟨⟨stepC_is h1.is _, by show (stepC l (keepTo l k) (k : Int)).length ≤ _; omega⟩, by show (stepC l (keepTo l k) (k : Int)).length ≤ _; omega⟩
theorem ownTo_step (l : List NodeM) (k : Nat) : ownTo l (k + 1) = ownTo l k ++ [ownN l (k : Int)] := by unfold ownTo; rw [List.range_succ, List.map_append]; rfl
theorem ownTo_len (l : List NodeM) (k : Nat) : (ownTo l k).length = k := by unfold ownTo; simp
def allF (f : ForM) : List Int := if rightF f = true then ownTo f.nodes f.nodes.length else []
theorem f42_ok (f : ForM) (hs : SmallN f.nodes) : FnOK Tryz.prog 42 [] [eFor f] [] (eInts (allF f)) := by
 have h15 := f15_ok f hs
 have h73 := f73_ok f
 have h60 := hs.len
 obtain ⟨l, m⟩ := f
 unfold allF
 simp only at h73 h60 ⊢
 have hlm : (l.map oNode).length = l.length := List.length_map ..
 obtain ⟨o, ho⟩ : ∃ o, (if rightF ⟨l, m⟩ = true then ownTo l l.length else []) = o := ⟨_, rfl⟩
 rw [ho]
 refine FnOK.startC (rvs := [.tmp 2]) G G_good Tryz.func42 rfl Tryz.ntmps42 rfl rfl ?_; with_reducible refine wD ?_
 cases hr : rightF ⟨l, m⟩ with
 | false =>
   rw [hr] at h15
   rw [hr, if_neg (by simp)] at ho
   subst ho
   repeat' (first
  | refine gK ?_ | refine aE ?_ ?_
  | (((with_reducible refine kQ 15 ?_); refine cL h15 c15 ?_) <;> with_reducible refine wK ?_)
  | apply trivial)
   all_goals exact .inr (.inr ⟨1, rfl⟩)
 | true =>
   rw [hr] at h15
   rw [hr, if_pos rfl] at ho
   subst ho
   have hstep := fun k => ownTo_step l k
   have hlen := fun k => ownTo_len l k
   have hcall : ∀ k, k < l.length → FnOK Tryz.prog 74 [idsM (keepTo l k)] [.agg [eNodes l, eInt m, .mapr 0], eInt (k : Int)] [idsM (keepTo l (k + 1))] (eInt (ownN l (k : Int))) := fun k hk =>
    f74_ok l m hs hr (keepTo l k) (keepTo_ok l k (by omega)).1 k (there_get (List.getElem?_eq_getElem hk))
   have hk0 : keepTo l 0 = [] := rfl
   have ho0 : ownTo l 0 = [] := rfl
   generalize keepTo l = kt at hcall hk0
   generalize ownTo l = ot at hstep hlen ho0 ⊢
   repeat' (first
  | refine gK ?_ | refine aE ?_ ?_
  | ((first
   | ((with_reducible refine kQ 15 ?_); refine cL h15 c15 ?_)
   | ((with_reducible refine kQ 73 ?_); refine CallK.new 101 [] h73 c73 ⟨⟨rfl, rfl, trivial⟩, trivial⟩ rfl rfl rfl ⟨.nil _, rfl, trivial⟩ rfl ?_)) <;> with_reducible refine wK ?_)
  | apply trivial)
   refine LoopK.ghost 3 31 1 rfl rfl ?_
   refine LoopK.use G G_good (fun (k : Nat) => [(1, .ptr 10 0 0), (3, .own 31 0 k), (4, .ptr 40 0 0), (13, eInt l.length), (14, eInt k)])
    (fun k => [(10, .live 2 [eFor ⟨l, m⟩] false), (31, rInts (ot k)), (40, .live 3 [.agg [eNodes l, eInt m, .mapr 101]] false), (101, idsM (kt k))])
    (fun k => k ≤ l.length) (fun k => l.length - k) 0 (Nat.zero_le _) ?_ ?_
   ·(refine fK ?_; (with_reducible repeat' (first | exact trivial | (show _ ∧ _; refine aK ?_ ?_))); (all_goals try rfl))
    all_goals first
     | (show (l.length : Int) = _; rw [hlm])
     | (rw [ho0]; exact ⟨.refl rfl, rfl⟩)
     | (rw [hk0]; exact ⟨.refl rfl, rfl⟩)
     | skip
   intro k hk
   have hkl := hlen k
   have hkm : ((ot k).map oInt).length = k := by rw [List.length_map, hkl]
   with_reducible refine wK ?_
   refine IfK.mk (fun h1 => ?_) (fun h1 => ?_) <;> (try simp only [castN] at h1) <;> with_reducible refine wK ?_
   ·have hk' : k < l.length := by simp only [decide_eq_true_eq] at h1; omega
    have h74 := hcall k hk'
    have hst := hstep k
    generalize ownN l (k : Int) = o at h74 hst
    repeat' (first
  | refine gK ?_ | refine aE ?_ ?_
  | ((first
   | ((with_reducible refine kQ 74 ?_); refine CallK.lend (news := [idsM (kt (k + 1))]) [101] [] h74 c74 ⟨⟨rfl, rfl, trivial, trivial⟩, rfl, trivial⟩ ⟨⟨rfl, .inl ⟨rfl, noRef_ids _⟩⟩, trivial⟩ rfl ⟨⟨rfl, rfl⟩, rfl⟩ rfl ⟨⟨rfl, .inl ⟨rfl, noRef_ids _⟩⟩, trivial⟩ rfl rfl ?_)
   | ((with_reducible show AppK _ _ _ _ _ _ _ _ _ _); refine AppK.mk ((ot k).map oInt) [eInt o] ⟨rfl, hkm.symm, rfl⟩ ⟨rfl, rfl, rfl⟩ rfl (by simp; omega) (by simp; omega) ?_)
   | ((with_reducible show DrawK _ _ _ _); refine dK ?_)) <;> with_reducible refine wK ?_)
  | apply trivial)
    refine NextK.mk (k + 1) (by omega) (by omega) ?_
    rw [hst]
    (refine fK ?_; (with_reducible repeat' (first | exact trivial | (show _ ∧ _; refine aK ?_ ?_))); (all_goals try rfl))
    all_goals first
     | (simp [hkl]; done)
     | (refine ⟨?_, noRef_ints _⟩; rw [List.map_append]; exact .refl (by rw [← List.map_append]; exact noRef_ints _))
     | exact ⟨.refl (noRef_ids _), noRef_ids _⟩
     | skip
   ·have hjl : k = l.length := by simp only [decide_eq_false_iff_not] at h1; omega
    subst hjl
    repeat' (first
  | refine gK ?_ | refine aE ?_ ?_
  | apply trivial)
    all_goals exact frz_ints rfl rfl rfl hkl.symm
theorem fin_succ {l : List NodeM} {m : Nat} {n : Int} : finN l (m + 1) n = if (nd l n).parent = -1 then true else finN l m (nd l n).parent := rfl
theorem walk_succ {l : List NodeM} {m : Nat} {b : Int} : walkB l (m + 1) b = if (nd l b).parent = -1 then false else (condB l (nd l b).parent b || walkB l m (nd l b).parent) := rfl
theorem f75_ok (f : ForM) (hs : SmallN f.nodes) (T : Tree f.nodes) (k : Nat) (x : NodeM) (hx : f.nodes[k]? = some x) : FnOK Tryz.prog 75 [] [eFor f, eInt k] [] (eBool (barN f.nodes k)) := by
 have h28 : ∀ x ∈ f.nodes, FnOK Tryz.prog 118 [] [eNode x] [] (eBool (disX x)) := fun x hx => f118_ok x (by have := hs.attrs x hx; omega)
 have h20 : ∀ (k : Nat) (x : NodeM), f.nodes[k]? = some x → FnOK Tryz.prog 119 [] [eFor f, eInt k] [] (eInt (legN f.nodes k)) := fun k x hx => f119_ok f hs k x hx fun c hc => by
  have := T.kid k (there_get hx) c
  rw [nd_get hx] at this
  exact (this hc).1
 have hfin := T.fin k (there_get hx)
 have hpar := T.par
 have hk := (List.getElem?_eq_some_iff.1 hx).1
 obtain ⟨l, m⟩ := f
 unfold barN
 simp only at h28 h20 hx hfin hpar hk ⊢
 rw [nd_get hx]
 have hx' := hx
 have h28x := h28 x (List.mem_of_getElem? hx)
 have hw : disX x = false → x.kind = 1 → ∀ b : Bool, walkB l l.length k = b → (disX x || (decide (x.kind = 1) && walkB l l.length k)) = b := fun h1 h2 b h => by rw [h1, h2, h]; simp
 have hwn : disX x = false → x.kind ≠ 1 → (disX x || (decide (x.kind = 1) && walkB l l.length k)) = false := fun h1 h2 => by rw [h1, decide_eq_false h2]; rfl
 have hwy : disX x = true → (disX x || (decide (x.kind = 1) && walkB l l.length k)) = true := fun h1 => by rw [h1]; rfl
 have hdk := @dis_kind x
 obtain ⟨a1, a2, a3, a4, a5, a6, a7, a8, a9, a10⟩ := x
 have hxp : (nd l k).parent = a6 := by rw [nd_get hx]
 simp only at hw hwn hwy hdk ⊢
 refine FnOK.startC (rvs := [.tmp 4]) G G_good Tryz.func75 rfl Tryz.ntmps75 rfl rfl ?_; with_reducible refine wD ?_
 refine IdxK.mk k (eNode _) rfl (node_get hx) ?_; with_reducible refine wK ?_
 refine cL h28x c118 ?_; with_reducible refine wK ?_
 cases d0 : disX ⟨a1, a2, a3, a4, a5, a6, a7, a8, a9, a10⟩ with
 | true =>
   have e1 := hdk d0
   rw [Bool.true_or]
   (have fct := And.intro d0 (e1); (repeat' (first
  | refine gF ?_ | refine aE ?_ ?_
  | ((refine IdxK.mk k (eNode _) rfl (node_get hx) ?_) <;> with_reducible refine wK ?_)
  | apply trivial)); all_goals clear fct)
   all_goals simp [e1]
 | false =>
   by_cases e1 : ¬ a1 = 1
   ·rw [decide_eq_false e1]
    (have fct := And.intro d0 ((eq_false e1)); (repeat' (first
  | refine gF ?_ | refine aE ?_ ?_
  | ((refine IdxK.mk k (eNode _) rfl (node_get hx) ?_) <;> with_reducible refine wK ?_)
  | apply trivial)); all_goals clear fct)
    all_goals simp
   have e1 := Decidable.not_not.1 e1
   rw [decide_eq_true e1, Bool.false_or, Bool.true_and]
   (have fct := And.intro d0 (e1); (repeat' (first
  | refine gF ?_ | refine aE ?_ ?_
  | ((refine IdxK.mk k (eNode _) rfl (node_get hx) ?_) <;> with_reducible refine wK ?_)
  | apply trivial)); all_goals clear fct)
   refine LoopK.use G G_good (fun (i : Nat × Nat) => [(2, .ptr 20 0 0), (5, eInt i.2), (6, eInt (nd l i.2).parent)]) (fun _ => [(20, .live 2 [eFor ⟨l, m⟩] false)])
    (fun i => i.2 < l.length ∧ finN l i.1 i.2 = true ∧ walkB l l.length k = walkB l i.1 i.2) (fun i => i.1) (l.length, k) ⟨hk, hfin, rfl⟩
    ⟨⟨rfl, rfl⟩, ⟨⟨rfl, rfl⟩, rfl, hxp, trivial⟩, ⟨⟨rfl, rfl, trivial⟩, trivial⟩, trivial⟩ ?_
   rintro ⟨n, b⟩ ⟨hb, hf, hwk⟩
   simp only at hb hf hwk
   obtain ⟨y, hy⟩ : ∃ y, l[b]? = some y := ⟨_, List.getElem?_eq_getElem hb⟩
   have hpb := hpar b (there_get hy)
   cases n with
   | zero => simp [finN] at hf
   | succ n =>
   rw [fin_succ] at hf
   rw [walk_succ] at hwk
   rw [nd_get hy] at hf hwk hpb
   with_reducible refine wK ?_
   simp only [nd_get hy]
   obtain ⟨b1, b2, b3, b4, b5, b6, b7, b8, b9, b10⟩ := y
   simp only at hf hwk hpb ⊢
   by_cases p1 : b6 = -1
   ·rw [if_pos p1] at hwk
    rw [hwk]
    (have fct := p1; (repeat' (first
  | refine gF ?_ | refine aE ?_ ?_
  | apply trivial)); all_goals clear fct)
   ·rw [if_neg p1] at hf hwk
    obtain ⟨i, z, rfl, hz, hnz⟩ := there_iff.1 (hpb p1).1
    have h28z := h28 z (List.mem_of_getElem? hz)
    have h20z := h20 i z hz
    have hi := (List.getElem?_eq_some_iff.1 hz).1
    have hzp : (nd l i).parent = z.parent := by rw [hnz]
    unfold condB at hwk
    rw [hnz] at hwk
    obtain ⟨z1, z2, z3, z4, z5, z6, z7, z8, z9, z10⟩ := z
    simp only at hwk hzp
    have hne : ¬ ((i : Int) = -1) := p1
    refine IfK.yes (by simp [hne]) ?_; with_reducible refine wK ?_
    refine IdxK.mk i (eNode ⟨z1, z2, z3, z4, z5, z6, z7, z8, z9, z10⟩) rfl (node_get hz) ?_; with_reducible refine wK ?_
    by_cases f1 : z2 = fldW
    ·cases d1 : disX ⟨z1, z2, z3, z4, z5, z6, z7, z8, z9, z10⟩ with
     | true =>
       by_cases g1 : legN l i = b
       ·rw [d1, decide_eq_false (fun h : legN l i ≠ b => h g1), Bool.and_false, Bool.and_false, Bool.false_or] at hwk
        (have fct := And.intro f1 (And.intro d1 (g1)); (repeat' (first
  | refine gF ?_ | refine aE ?_ ?_
  | ((first
   | ((with_reducible refine kQ 118 ?_); refine cL h28z c118 ?_)
   | ((with_reducible refine kQ 119 ?_); refine cL h20z c119 ?_)
   | (refine IdxK.mk i (eNode ⟨z1, z2, z3, z4, z5, z6, z7, z8, z9, z10⟩) rfl (node_get hz) ?_)
   | ((with_reducible show NextK _ _); refine NextK.mk (n, i) ⟨hi, hf, hwk⟩ (Nat.lt_succ_self n) ⟨⟨rfl, rfl⟩, ⟨⟨rfl, rfl⟩, rfl, hzp, trivial⟩, ⟨⟨rfl, rfl, trivial⟩, trivial⟩, trivial⟩)) <;> with_reducible refine wK ?_)
  | apply trivial)); all_goals clear fct)
       ·rw [d1, decide_eq_true f1, decide_eq_true (show legN l i ≠ b from g1)] at hwk
        rw [hwk]
        (have fct := And.intro f1 (And.intro d1 ((eq_false g1))); (repeat' (first
  | refine gF ?_ | refine aE ?_ ?_
  | ((first
   | ((with_reducible refine kQ 118 ?_); refine cL h28z c118 ?_)
   | ((with_reducible refine kQ 119 ?_); refine cL h20z c119 ?_)) <;> with_reducible refine wK ?_)
  | apply trivial)); all_goals clear fct)
        all_goals simp
     | false =>
       rw [d1, Bool.false_and, Bool.and_false, Bool.false_or] at hwk
       (have fct := And.intro f1 (d1); (repeat' (first
  | refine gF ?_ | refine aE ?_ ?_
  | ((first
   | ((with_reducible refine kQ 118 ?_); refine cL h28z c118 ?_)
   | (refine IdxK.mk i (eNode ⟨z1, z2, z3, z4, z5, z6, z7, z8, z9, z10⟩) rfl (node_get hz) ?_)
   | ((with_reducible show NextK _ _); refine NextK.mk (n, i) ⟨hi, hf, hwk⟩ (Nat.lt_succ_self n) ⟨⟨rfl, rfl⟩, ⟨⟨rfl, rfl⟩, rfl, hzp, trivial⟩, ⟨⟨rfl, rfl, trivial⟩, trivial⟩, trivial⟩)) <;> with_reducible refine wK ?_)
  | apply trivial)); all_goals clear fct)
    ·rw [decide_eq_false f1, Bool.false_and, Bool.false_or] at hwk
     (have fct := (eq_false f1); (repeat' (first
  | refine gF ?_ | refine aE ?_ ?_
  | ((first
   | (refine IdxK.mk i (eNode ⟨z1, z2, z3, z4, z5, z6, z7, z8, z9, z10⟩) rfl (node_get hz) ?_)
   | ((with_reducible show NextK _ _); refine NextK.mk (n, i) ⟨hi, hf, hwk⟩ (Nat.lt_succ_self n) ⟨⟨rfl, rfl⟩, ⟨⟨rfl, rfl⟩, rfl, hzp, trivial⟩, ⟨⟨rfl, rfl, trivial⟩, trivial⟩, trivial⟩)) <;> with_reducible refine wK ?_)
  | apply trivial)); all_goals clear fct)
theorem f39_ok (f : ForM) (hs : SmallN f.nodes) (n : Int) : FnOK Tryz.prog 39 [] [eFor f, eInt n] [] (eBool (thereN f.nodes n && (rightF f && barN f.nodes n))) := by
 have h13 := f15_ok f hs
 have h18 : rightF f = true → ∀ (k : Nat) (x : NodeM), f.nodes[k]? = some x → FnOK Tryz.prog 75 [] [eFor f, eInt k] [] (eBool (barN f.nodes k)) := fun hr k x hx => f75_ok f hs (tree_of hr) k x hx
 obtain ⟨l, m⟩ := f
 simp only at h13 h18 ⊢
 have hlm : (l.map oNode).length = l.length := List.length_map ..
 refine FnOK.startC (rvs := [.tmp 4]) G G_good Tryz.func39 rfl Tryz.ntmps39 rfl rfl ?_; with_reducible refine wD ?_
 by_cases e0 : ¬ 0 ≤ n
 ·have ht : thereN l n = false := by unfold thereN; simp [e0]
  rw [ht]
  (have fct := (eq_false e0); (repeat' (first
  | refine gF ?_ | refine aE ?_ ?_
  | apply trivial)); all_goals clear fct)
  all_goals simp
 have e0 := Decidable.not_not.1 e0
 by_cases e1 : ¬ n < (l.length : Int)
 ·have ht : thereN l n = false := by unfold thereN; simp [e1]
  rw [ht]
  (have fct := And.intro e0 (And.intro hlm ((eq_false e1))); (repeat' (first
  | refine gF ?_ | refine aE ?_ ?_
  | apply trivial)); all_goals clear fct)
  all_goals simp
 have e1 := Decidable.not_not.1 e1
 have ht : thereN l n = true := by unfold thereN; simp [e0, e1]
 obtain ⟨k, x, rfl, hx, _⟩ := there_iff.1 ht
 rw [ht]
 cases hr : rightF ⟨l, m⟩ with
 | false =>
   (have fct := And.intro hlm (And.intro e0 (And.intro e1 (hr))); (repeat' (first
  | refine gF ?_ | refine aE ?_ ?_
  | (((with_reducible refine kQ 15 ?_); refine cL h13 c15 ?_) <;> with_reducible refine wK ?_)
  | apply trivial)); all_goals clear fct)
   all_goals simp
 | true =>
   have h18' := h18 hr k x hx
   (have fct := And.intro hlm (And.intro e0 (And.intro e1 (hr))); (repeat' (first
  | refine gF ?_ | refine aE ?_ ?_
  | ((first
   | ((with_reducible refine kQ 15 ?_); refine cL h13 c15 ?_)
   | ((with_reducible refine kQ 75 ?_); refine cL h18' c75 ?_)) <;> with_reducible refine wK ?_)
  | apply trivial)); all_goals clear fct)
   all_goals simp
@[reducible] def mStates (l : List StateM) : MS := .live 4 (l.map oState) false
theorem noRef_states (l : List StateM) : noRefL (l.map oState) = true := noRefL_map oState (fun _ => rfl) l
theorem one_states (l : List StateM) : oneL (flat (l.map oState)) = true := oneL_map oState (fun _ => rfl) l
theorem states_outs (l : List StateM) : okOuts [mStates l] := ⟨Wide.of_mem fun r hr => by
 obtain ⟨a, _, rfl⟩ := List.mem_map.1 hr
 rfl, noRef_states l, trivial⟩
theorem frz_states {m : ML} {fz : Nat → Bool} {tab : List (Nat × Nat)} {n t len : Nat} {ro : Bool} {rows : List AV} {l : List StateM} (h1 : lkM m t = .live 4 rows ro) (h2 : fz t = true) (h3 : rows = l.map oState) (h4 : len = l.length) : FrzK m fz (MF tab fz m n) (eStates l) t 0 len := by
 subst h3; subst h4
 have e : (l.map oState).length = l.length := List.length_map ..
 exact .cut h1 h2 (by omega) (by rw [List.drop_zero, List.take_of_length_le (by omega)]) (noRef_states l)
theorem f108_ok (l : List StateM) (hl : l.length ≤ 100000) : FnOK Tryz.prog 108 [] [eStates l] [mStates l] (.own 0 0 l.length) := by
 have hlm : (l.map oState).length = l.length := List.length_map ..
 refine FnOK.startC (rvs := [.tmp 2]) G G_good Tryz.func108 rfl Tryz.ntmps108 rfl rfl ?_; with_reducible refine wD ?_
 refine GuessK.mk (fun h => ?_) (fun _ => ?_) <;> with_reducible refine wK ?_
 ·obtain rfl : l = [] := by simpa using h
  (refine eK ?_ ?_ <;> with_reducible repeat' (first | exact trivial | (show _ ∧ _; refine aK ?_ ?_)))
  all_goals first | rfl | trivial
 ·refine AppK.mk [] (l.map oState) ⟨rfl, rfl, rfl⟩ ⟨rfl, rfl, rfl⟩ (one_states l) (by simp; omega) (by simp; omega) ?_; with_reducible refine wK ?_
  (refine eK ?_ ?_ <;> with_reducible repeat' (first | exact trivial | (show _ ∧ _; refine aK ?_ ?_)))
  ·exact hlm.symm
  ·exact MFL_refl (noRef_states l)
theorem snoc_duesN (l : List DueN) (x : DueN) : l.map oDueN ++ [eDueN x] = (l ++ [x]).map oDueN := by rw [List.map_append]; rfl
@[reducible] def eHall (f : ForM) (x : AV) (d : DeskM) (cs : List ClassM) (y : AV) : AV := .agg [eNodes f.nodes, eInt f.most, x, eDefs d.defs, eWaits d.waits, eInt d.next, eBool d.busy, eClasses cs, y]
@[reducible] def mHall (f : ForM) (x : AV) (d : DeskM) (cs : List ClassM) (y : AV) : MS := .live 9 [eHall f x d cs y] false
@[reducible] def nilA : AV := .lit (.slice none 0 0)
theorem f64_ok (f : ForM) (hs : SmallN f.nodes) (st : List StateM) (hst : st.length ≤ 100000) (d : DeskM) (hd : SmallD d) (cs : List ClassM) :
  FnOK Tryz.prog 64 [] [eFor f, eStates st, eDesk d, eClasses cs] [mHall f (.own 1 0 st.length) d cs nilA, mStates st] (.tup [.ptr 0 0 0, eBool (lookV f st d)]) := by
 have h15 := f15_ok f hs
 have h71 := f71_ok d hd
 have h108 := f108_ok st hst
 have hsm : (st.map oState).length = st.length := List.length_map ..
 have hlm := (show (f.nodes.map oNode).length = f.nodes.length from List.length_map ..)
 unfold lookV
 obtain ⟨l, m⟩ := f
 obtain ⟨d1, d2, d3, d4⟩ := d
 simp only at h15 h71 hlm ⊢
 refine FnOK.startC (rvs := [.tmp 8, .tmp 9]) G G_good Tryz.func64 rfl Tryz.ntmps64 rfl rfl ?_; with_reducible refine wD ?_
 refine CallK.new 131 [] h108 c108 ⟨rfl, trivial⟩ rfl rfl rfl (states_outs st) rfl ?_; with_reducible refine wK ?_
 by_cases e1 : st.length = l.length
 ·cases e2 : rightF ⟨l, m⟩ <;> rw [e2] at h15
  ·(have fct := And.intro hsm (And.intro hlm ((eq_true e1))); (repeat' (first
  | refine gF ?_ | refine aE ?_ ?_
  | ((first
   | ((with_reducible refine kQ 15 ?_); refine cL h15 c15 ?_)
   | ((with_reducible show DrawK _ _ _ _); refine dK ?_)) <;> with_reducible refine wK ?_)
  | apply trivial)); all_goals clear fct)
   all_goals first | (simp [e1]; done) | exact ⟨.refl (noRef_states st), noRef_states st⟩ | exact .inl rfl | rfl
  ·cases e3 : rightD ⟨d1, d2, d3, d4⟩ <;> rw [e3] at h71
   all_goals ((have fct := And.intro hsm (And.intro hlm ((eq_true e1))); (repeat' (first
  | refine gF ?_ | refine aE ?_ ?_
  | ((first
   | ((with_reducible refine kQ 15 ?_); refine cL h15 c15 ?_)
   | ((with_reducible refine kQ 71 ?_); refine cL h71 c71 ?_)
   | ((with_reducible show DrawK _ _ _ _); refine dK ?_)) <;> with_reducible refine wK ?_)
  | apply trivial)); all_goals clear fct))
   all_goals first | (simp [e1]; done) | exact ⟨.refl (noRef_states st), noRef_states st⟩ | exact .inl rfl | rfl
 ·(have fct := And.intro hsm (And.intro hlm ((eq_false e1))); (repeat' (first
  | refine gF ?_ | refine aE ?_ ?_
  | (((with_reducible show DrawK _ _ _ _); refine dK ?_) <;> with_reducible refine wK ?_)
  | apply trivial)); all_goals clear fct)
  all_goals first | (simp [e1]; done) | exact ⟨.refl (noRef_states st), noRef_states st⟩ | exact .inl rfl | rfl
theorem f66_yes (f : ForM) (st : List StateM) (d : DeskM) (cs : List ClassM) (due : List DueN) (hdl : due.length ≤ 100000) (c : ClassM) (hc : c.hooks.length ≤ 100000) (n : Int) (t : TodoM) (hh : hearsC c t.kind = true) :
  FnOK Tryz.prog 66 [mHall f (.own 1 0 st.length) d cs (.own 2 0 due.length), mStates st, rDuesN due] [.ptr 0 0 0, eClass c, eInt n, eTodo t]
   [mHall f (.own 1 0 st.length) d cs (.own 3 0 (due.length + 1)), mStates st, .dead, rDuesN (due ++ [⟨n, t⟩])] (.tup []) := by
 have h37 := f37_ok c hc t.kind
 rw [hh] at h37
 have hdm : (due.map oDueN).length = due.length := List.length_map ..
 obtain ⟨l, m⟩ := f
 obtain ⟨d1, d2, d3, d4⟩ := d
 obtain ⟨c1, c2, c3, c4, c5⟩ := c
 obtain ⟨t1, t2, t3, t4, t5, t6, t7, t8, t9, t10⟩ := t
 simp only at h37
 refine FnOK.startB (rvs := []) G G_good Tryz.func66 rfl Tryz.ntmps66 rfl rfl ?_; with_reducible refine wD ?_
 repeat' (first
  | refine gK ?_ | refine aE ?_ ?_
  | ((first
   | ((with_reducible refine kQ 37 ?_); refine cL h37 c37 ?_)
   | ((with_reducible show AppK _ _ _ _ _ _ _ _ _ _); refine AppK.mk (due.map oDueN) [eDueN ⟨n, ⟨t1, t2, t3, t4, t5, t6, t7, t8, t9, t10⟩⟩] ⟨rfl, hdm.symm, rfl⟩ ⟨rfl, rfl, rfl⟩ rfl (by simp; omega) (by simp; omega) ?_)
   | ((with_reducible show DrawK _ _ _ _); refine dK ?_)) <;> with_reducible refine wK ?_)
  | apply trivial)
 all_goals first
  | (simp; done)
  | exact ⟨.refl (noRef_states st), noRef_states st⟩
  | (show ObjK _ ((due ++ ([⟨n, ⟨t1, t2, t3, t4, t5, t6, t7, t8, t9, t10⟩⟩] : List DueN)).map oDueN) (due.map oDueN ++ [eDueN ⟨n, ⟨t1, t2, t3, t4, t5, t6, t7, t8, t9, t10⟩⟩]); rw [snoc_duesN]; exact ⟨.refl (noRef_duesN _), noRef_duesN _⟩)
theorem f66_no (f : ForM) (st : List StateM) (d : DeskM) (cs : List ClassM) (due : List DueN) (c : ClassM) (hc : c.hooks.length ≤ 100000) (n : Int) (t : TodoM) (hh : hearsC c t.kind = false) :
  FnOK Tryz.prog 66 [mHall f (.own 1 0 st.length) d cs (.own 2 0 due.length), mStates st, rDuesN due] [.ptr 0 0 0, eClass c, eInt n, eTodo t]
   [mHall f (.own 1 0 st.length) d cs (.own 2 0 due.length), mStates st, rDuesN due] (.tup []) := by
 have h37 := f37_ok c hc t.kind
 rw [hh] at h37
 obtain ⟨l, m⟩ := f
 obtain ⟨d1, d2, d3, d4⟩ := d
 obtain ⟨c1, c2, c3, c4, c5⟩ := c
 obtain ⟨t1, t2, t3, t4, t5, t6, t7, t8, t9, t10⟩ := t
 simp only at h37
 refine FnOK.startC (rvs := []) G G_good Tryz.func66 rfl Tryz.ntmps66 rfl rfl ?_; with_reducible refine wD ?_
 repeat' (first
  | refine gK ?_ | refine aE ?_ ?_
  | (((with_reducible refine kQ 37 ?_); refine cL h37 c37 ?_) <;> with_reducible refine wK ?_)
  | apply trivial)
 all_goals first
  | exact ⟨.refl (noRef_states st), noRef_states st⟩
  | exact ⟨.refl (noRef_duesN due), noRef_duesN due⟩
section
variable {m : ML} {b s e : Nat} {f : ForM} {st st' : List StateM} {d : DeskM} {cs : List ClassM} {due due' : List DueN} {k k' n n' : Nat}
theorem ins_hall (hb : lkM m b = mHall f (.own s 0 n) d cs (.own e 0 k)) (hs : lkM m s = mStates st) (he : lkM m e = rDuesN due) {r : List Nat} : InsM (tabR 3 0 (b :: s :: e :: r)) [] m [mHall f (.own 1 0 n) d cs (.own 2 0 k), mStates st, rDuesN due] (b :: s :: e :: r) := by
 simp only [InsM, hb, hs, he]
 refine ⟨⟨trivial, .inr ⟨⟨⟨rfl, rfl, ?_, rfl, rfl, rfl, rfl, rfl, ?_, trivial⟩, trivial⟩, rfl⟩⟩, ⟨trivial, .inl ⟨rfl, noRef_states _⟩⟩, ⟨trivial, .inl ⟨rfl, noRef_duesN _⟩⟩, trivial⟩
 all_goals (simp [MF, tabR, lkN, Nat.beq_refl])
theorem news_hall : NewsM [b, s, e] [mHall f (.own 1 0 n) d cs (.own 2 0 k), mStates st, rDuesN due] [mHall f (.own s 0 n) d cs (.own e 0 k), mStates st, rDuesN due] :=
 ⟨⟨rfl, .inr ⟨rfl, rfl, rfl⟩⟩, ⟨rfl, .inl ⟨rfl, noRef_states _⟩⟩, ⟨rfl, .inl ⟨rfl, noRef_duesN _⟩⟩, trivial⟩
theorem news_tell {q : Nat} : NewsM [b, s, e, q] [mHall f (.own 1 0 n) d cs (.own 3 0 k), mStates st, .dead, rDuesN due] [mHall f (.own s 0 n) d cs (.own q 0 k), mStates st, .dead, rDuesN due] :=
 ⟨⟨rfl, .inr ⟨rfl, rfl, rfl⟩⟩, ⟨rfl, .inl ⟨rfl, noRef_states _⟩⟩, ⟨rfl, .inl ⟨rfl, noRef_duesN _⟩⟩, trivial⟩
end
theorem set_st (l : List StateM) (k : Nat) (y : StateM) : (l.map oState).set (0 + k) (eState y) = (l.set k y).map oState := by rw [Nat.zero_add, List.map_set]; rfl
theorem f65_own (f : ForM) (st : List StateM) (ns : Nat) (hns : st.length = ns) (d : DeskM) (cs : List ClassM) (due : List DueN) (k : Nat) (s : StateM) (hk : st[k]? = some s) (ht : thereN f.nodes (k : Int) = true) :
  FnOK Tryz.prog 65 [mHall f (.own 1 0 ns) d cs (.own 2 0 due.length), mStates st, rDuesN due] [.ptr 0 0 0, eInt k] [mHall f (.own 1 0 ns) d cs (.own 2 0 due.length), mStates st, rDuesN due] (.tup [eClass (classV s d cs), eBool (dutyB f d cs k s)]) := by
 have hkl := (List.getElem?_eq_some_iff.1 hk).1
 have h36 := f36_ok s d cs
 unfold dutyB
 obtain ⟨i, x, e, hx, hnx⟩ := there_iff.1 ht
 rw [hnx]
 obtain ⟨l, m⟩ := f
 obtain ⟨d1, d2, d3, d4⟩ := d
 obtain ⟨cv, hcv⟩ : ∃ cv, classV s ⟨d1, d2, d3, d4⟩ cs = cv := ⟨_, rfl⟩
 obtain ⟨cb, hcb⟩ : ∃ cb, classB s ⟨d1, d2, d3, d4⟩ cs = cb := ⟨_, rfl⟩
 rw [hcv, hcb] at h36 ⊢
 obtain ⟨s1, s2, s3, s4⟩ := s
 obtain ⟨c1, c2, c3, c4, c5⟩ := cv
 obtain ⟨a1, a2, a3, a4, a5, a6, a7, a8, a9, a10⟩ := x
 simp only at hx
 clear hcv hcb
 refine FnOK.startC (rvs := [.cell 4 63, .tmp 5]) G G_good Tryz.func65 rfl Tryz.ntmps65 rfl rfl ?_; with_reducible refine wD ?_
 repeat' (first
  | refine gK ?_ | refine aE ?_ ?_
  | ((first
   | (refine IdxK.mk i (eNode _) e (node_get hx) ?_)
   | ((with_reducible show LtK _ _ _ _ _); refine LtK.mk k rfl (by omega) ?_)
   | ((with_reducible show ElemK _ _ _ _ _); refine ElemK.mk (eState ⟨s1, s2, s3, s4⟩) (by rw [Nat.zero_add]; exact state_get hk) ?_)
   | ((with_reducible refine kQ 36 ?_); refine cV h36 c36 ?_)
   | ((with_reducible show DrawK _ _ _ _); refine dK ?_)) <;> with_reducible refine wK ?_)
  | apply trivial)
 cases cb with
 | false =>
   repeat' (first
  | refine gK ?_ | refine aE ?_ ?_
  | (((with_reducible show DrawK _ _ _ _); refine dK ?_) <;> with_reducible refine wK ?_)
  | apply trivial)
   all_goals first
    | rfl
    | exact ⟨.refl (noRef_states st), noRef_states st⟩
    | exact ⟨.refl (noRef_duesN due), noRef_duesN due⟩
    | (simp [*]; done)
 | true =>
   cases c1 with
   | false =>
     repeat' (first
  | refine gK ?_ | refine aE ?_ ?_
  | (((with_reducible show DrawK _ _ _ _); refine dK ?_) <;> with_reducible refine wK ?_)
  | apply trivial)
     all_goals first
      | rfl
      | exact ⟨.refl (noRef_states st), noRef_states st⟩
      | exact ⟨.refl (noRef_duesN due), noRef_duesN due⟩
      | (simp [*]; done)
   | true =>
     by_cases e1 : s1 = 3
     ·(have fct := (eq_true e1); (repeat' (first
  | refine gF ?_ | refine aE ?_ ?_
  | ((first
   | (refine IdxK.mk i (eNode _) e (node_get hx) ?_)
   | ((with_reducible show DrawK _ _ _ _); refine dK ?_)) <;> with_reducible refine wK ?_)
  | apply trivial)); all_goals clear fct)
      all_goals first
       | rfl
       | exact ⟨.refl (noRef_states st), noRef_states st⟩
       | exact ⟨.refl (noRef_duesN due), noRef_duesN due⟩
       | (simp [*]; done)
     ·(have fct := (eq_false e1); (repeat' (first
  | refine gF ?_ | refine aE ?_ ?_
  | (((with_reducible show DrawK _ _ _ _); refine dK ?_) <;> with_reducible refine wK ?_)
  | apply trivial)); all_goals clear fct)
      all_goals first
       | rfl
       | exact ⟨.refl (noRef_states st), noRef_states st⟩
       | exact ⟨.refl (noRef_duesN due), noRef_duesN due⟩
       | (simp [*]; done)
theorem tellD_yes {c : ClassM} {n : Int} {t : TodoM} (h : hearsC c t.kind = true) : tellD c n t = [⟨n, t⟩] := by unfold tellD; rw [if_pos h]
theorem tellD_no {c : ClassM} {n : Int} {t : TodoM} (h : hearsC c t.kind = false) : tellD c n t = [] := by unfold tellD; rw [if_neg (by simp [h])]
theorem classV_hooks {cs : List ClassM} (h : ∀ c ∈ cs, c.hooks.length ≤ 100000) (s : StateM) (d : DeskM) : (classV s d cs).hooks.length ≤ 100000 := by
 unfold classV
 split
 ·cases hg : cs[(classAt s d cs.length).toNat]? with
  | none => show (0 : Nat) ≤ _; omega
  | some c => exact h c (List.mem_of_getElem? hg)
 ·show (0 : Nat) ≤ _; omega
theorem f24_ok (f : ForM) (hs : SmallN f.nodes) (st : List StateM) (hst : st.length ≤ 1000) (d : DeskM) (hd : SmallD d) (cs : List ClassM) (hcs : ∀ c ∈ cs, c.hooks.length ≤ 100000) :
  FnOK Tryz.prog 24 [] [eFor f, eStates st, eDesk d, eClasses cs] [] (.tup [eStates (toldSt f st d cs), eDuesN (toldDu f st d cs)]) := by
 have h64 := f64_ok f hs st (by omega) d hd cs
 obtain ⟨os', hos'⟩ : ∃ x, toldSt f st d cs = x := ⟨_, rfl⟩
 obtain ⟨od, hod⟩ : ∃ x, toldDu f st d cs = x := ⟨_, rfl⟩
 rw [hos', hod]
 unfold toldSt at hos'
 unfold toldDu at hod
 obtain ⟨lv, hlv⟩ : ∃ lv, lookV f st d = lv := ⟨_, rfl⟩
 rw [hlv] at h64 hos' hod
 cases lv with
 | false =>
   rw [if_neg (by simp)] at hos' hod
   subst hos'
   subst hod
   obtain ⟨l, m⟩ := f
   obtain ⟨d1, d2, d3, d4⟩ := d
   refine FnOK.startC (rvs := [.tmp 8, .tmp 9]) G G_good Tryz.func24 rfl Tryz.ntmps24 rfl rfl ?_; with_reducible refine wD ?_
   refine CallK.lend (news := [mHall ⟨l, m⟩ (.own 241 0 st.length) ⟨d1, d2, d3, d4⟩ cs nilA, mStates st]) [240, 241] [] h64 c64 ⟨⟨rfl, rfl, trivial⟩, rfl, ⟨rfl, rfl, rfl, rfl, trivial⟩, rfl, trivial⟩ trivial rfl ⟨⟨rfl, rfl⟩, rfl⟩ rfl ⟨⟨rfl, .inr ⟨rfl, rfl, rfl⟩⟩, ⟨rfl, .inl ⟨rfl, noRef_states _⟩⟩, trivial⟩ rfl rfl ?_
   with_reducible refine wK ?_
   repeat' (first
  | refine gK ?_ | refine aE ?_ ?_
  | apply trivial)
   all_goals first | exact frz_states rfl rfl rfl rfl | exact .inr (.inr ⟨_, rfl⟩)
 | true =>
   rw [if_pos rfl] at hos' hod
   have hlv' := hlv
   unfold lookV at hlv'
   obtain ⟨⟨hlen, hr⟩, hrd⟩ : (st.length = f.nodes.length ∧ rightF f = true) ∧ rightD d = true := by simpa using hlv'
   have h42 := f42_ok f hs
   have e42 : allF f = ownTo f.nodes f.nodes.length := by unfold allF; rw [if_pos hr]
   rw [e42] at h42
   have h39 := fun n => f39_ok f hs n
   have hhk := fun s => classV_hooks hcs s d
   have h60 := hs.len
   have hos : ∀ k, k < st.length → (ownTo f.nodes f.nodes.length)[k]? = some (ownN f.nodes (k : Int)) := fun k hk => by
    unfold ownTo; rw [List.getElem?_map, List.getElem?_range (by omega)]; rfl
   have hol := ownTo_len f.nodes f.nodes.length
   have hth : ∀ k, k < st.length → thereN f.nodes (k : Int) = true := fun k hk => there_get (List.getElem?_eq_getElem (by omega))
   have htl := fun k => tSt_len f d cs st k
   have htg : ∀ k, k < st.length → (tSt f d cs st k)[k]? = some (sAt st k) := fun k hk => by rw [tSt_get hk, if_neg (by omega)]
   have hts := fun k hk => tSt_step f d cs st (k := k) hk
   have htm := fun k hk => tSt_same f d cs st (k := k) hk
   have htd := fun k => tDu_step f d cs st k
   have htdl := fun k => tDu_len f d cs st k
   have ht0 := tSt_zero f d cs st
   have hd0 : tDu f d cs st 0 = [] := rfl
   have hSd : ∀ k s, toldS f d cs k s = if dutyB f d cs k s = true then ⟨s.phase, s.df, ownN f.nodes k, barN f.nodes k⟩ else s := fun k s => rfl
   have hDd : ∀ k s, toldD f d cs k s = if dutyB f d cs k s = true then
    (if s.owner = ownN f.nodes k then [] else tellD (classV s d cs) k (ownedT s.owner (ownN f.nodes k))) ++ (if s.barred = barN f.nodes k then [] else tellD (classV s d cs) k (barredT (barN f.nodes k))) else [] := fun k s => rfl
   have h65 := fun (st' : List StateM) (due : List DueN) (k : Nat) (s : StateM) (h1 : st'.length = st.length) (h2 : st'[k]? = some s) (h3 : thereN f.nodes (k : Int) = true) => f65_own f st' st.length h1 d cs due k s h2 h3
   generalize tSt f d cs st = ts at hos' htl htg hts htm ht0
   generalize tDu f d cs st = td at hod htd htdl hd0
   subst hos'
   subst hod
   generalize ownTo f.nodes f.nodes.length = ol at h42 hos hol
   have hom : (ol.map oInt).length = ol.length := List.length_map ..
   obtain ⟨l, m⟩ := f
   obtain ⟨d1, d2, d3, d4⟩ := d
   simp only at hlen h60 hol
   refine FnOK.startC (rvs := [.tmp 8, .tmp 9]) G G_good Tryz.func24 rfl Tryz.ntmps24 rfl rfl ?_; with_reducible refine wD ?_
   refine CallK.lend (news := [mHall ⟨l, m⟩ (.own 241 0 st.length) ⟨d1, d2, d3, d4⟩ cs nilA, mStates st]) [240, 241] [] h64 c64 ⟨⟨rfl, rfl, trivial⟩, rfl, ⟨rfl, rfl, rfl, rfl, trivial⟩, rfl, trivial⟩ trivial rfl ⟨⟨rfl, rfl⟩, rfl⟩ rfl ⟨⟨rfl, .inr ⟨rfl, rfl, rfl⟩⟩, ⟨rfl, .inl ⟨rfl, noRef_states _⟩⟩, trivial⟩ rfl rfl ?_
   with_reducible refine wK ?_
   repeat' (first
  | refine gK ?_ | refine aE ?_ ?_
  | (((with_reducible refine kQ 42 ?_); refine cV h42 c42 ?_) <;> with_reducible refine wK ?_)
  | apply trivial)
   refine LoopK.ghostRow 10 240 248 11 0 8 (eHall ⟨l, m⟩ (.own 241 0 st.length) ⟨d1, d2, d3, d4⟩ cs nilA) (eHall ⟨l, m⟩ (.own 241 0 st.length) ⟨d1, d2, d3, d4⟩ cs (.own 248 0 0)) rfl rfl rfl rfl rfl rfl ?_
   refine LoopK.use G G_good (fun (k : Nat) => [(4, .ptr 40 0 0), (10, .ptr 240 0 0), (34, eInts ol), (35, eInt ol.length), (36, eInt k)])
    (fun k => [(40, .live 2 [eFor ⟨l, m⟩] false), (240, mHall ⟨l, m⟩ (.own 241 0 st.length) ⟨d1, d2, d3, d4⟩ cs (.own 248 0 (td k).length)), (241, mStates (ts k)), (248, rDuesN (td k))])
    (fun k => k ≤ st.length) (fun k => st.length - k) 0 (Nat.zero_le _) ?_ ?_
   ·rw [ht0, hd0]
    (refine fK ?_; (with_reducible repeat' (first | exact trivial | (show _ ∧ _; refine aK ?_ ?_))); (all_goals try rfl))
    all_goals first
     | (show (ol.length : Int) = _; rw [hom])
     | exact ⟨⟨rfl, rfl, ⟨rfl, rfl⟩, rfl, rfl, rfl, rfl, rfl, ⟨rfl, rfl⟩, trivial⟩, trivial⟩
     | exact ⟨.refl (noRef_states st), noRef_states st⟩
     | (show ObjK _ [] []; exact ⟨.refl rfl, rfl⟩)
   intro k hk
   have hdl := htdl k
   have htk := htl k
   with_reducible refine wK ?_
   refine IfK.mk (fun h1 => ?_) (fun h1 => ?_) <;> (try simp only [castN] at h1) <;> with_reducible refine wK ?_
   ·have hk' : k < st.length := by simp only [decide_eq_true_eq] at h1; omega
    have hok := hos k hk'
    have hgk := htg k hk'
    have h65 := h65 (ts k) (td k) k (sAt st k) htk hgk (hth k hk')
    have h39 := h39 (k : Int)
    rw [hth k hk', hr, Bool.true_and, Bool.true_and] at h39
    have hts := hts k hk'
    have htm := htm k hk'
    have htd := htd k
    have hhk := hhk (sAt st k)
    have hSd := hSd k (sAt st k)
    have hDd := hDd k (sAt st k)
    have htl1 := htl (k + 1)
    clear hos htl htg htdl h64 h42 hth
    generalize sAt st k = s at *
    obtain ⟨dy, hdy⟩ : ∃ dy, dutyB ⟨l, m⟩ ⟨d1, d2, d3, d4⟩ cs (k : Int) s = dy := ⟨_, rfl⟩
    rw [hdy] at h65 hSd hDd
    generalize hcv : classV s ⟨d1, d2, d3, d4⟩ cs = cv at *
    generalize ownN l (k : Int) = o at *
    generalize barN l (k : Int) = b at *
    generalize ts k = X at *
    generalize td k = D at *
    obtain ⟨s1, s2, s3, s4⟩ := s
    obtain ⟨c1, c2, c3, c4, c5⟩ := cv
    refine IdxK.mk k (eInt o) rfl (int_get hok) ?_; with_reducible refine wK ?_
    refine CallK.lend (news := [mHall ⟨l, m⟩ (.own 241 0 st.length) ⟨d1, d2, d3, d4⟩ cs (.own 248 0 D.length), mStates X, rDuesN D]) [240, 241, 248] [] h65 c65 ⟨⟨rfl, rfl⟩, rfl, trivial⟩ (ins_hall rfl rfl rfl) rfl ⟨⟨rfl, rfl⟩, rfl⟩ rfl news_hall rfl rfl ?_
    with_reducible refine wK ?_
    cases dy with
    | false =>
      rw [if_neg (by simp)] at hSd hDd
      rw [hSd] at htm
      rw [hDd, List.append_nil] at htd
      repeat' (first
  | refine gK ?_ | refine aE ?_ ?_
  | apply trivial)
      refine NextK.mk (k + 1) (by omega) (by omega) ?_
      rw [htd, htm rfl]
      (refine fK ?_; (with_reducible repeat' (first | exact trivial | (show _ ∧ _; refine aK ?_ ?_))); (all_goals try rfl))
      all_goals first
       | exact ⟨.refl (noRef_states _), noRef_states _⟩
       | exact ⟨.refl (noRef_duesN _), noRef_duesN _⟩
       | (simp; done)
    | true =>
      rw [if_pos rfl] at hSd hDd
      simp only at hSd hDd
      rw [hSd] at hts htm
      rw [hDd] at htd
      have hXk : X[k]? = some ⟨s1, s2, s3, s4⟩ := hgk
      have h66y : ∀ (Z : List StateM) (E : List DueN) (t : TodoM), Z.length = st.length → E.length ≤ 1000 → hearsC ⟨c1, c2, c3, c4, c5⟩ t.kind = true →
        FnOK Tryz.prog 66 [mHall ⟨l, m⟩ (.own 1 0 st.length) ⟨d1, d2, d3, d4⟩ cs (.own 2 0 E.length), mStates Z, rDuesN E] [.ptr 0 0 0, eClass ⟨c1, c2, c3, c4, c5⟩, eInt (k : Int), eTodo t]
         [mHall ⟨l, m⟩ (.own 1 0 st.length) ⟨d1, d2, d3, d4⟩ cs (.own 3 0 (E.length + 1)), mStates Z, .dead, rDuesN (E ++ [⟨(k : Int), t⟩])] (.tup []) := fun Z E t hz he hh => by
       have := f66_yes ⟨l, m⟩ Z ⟨d1, d2, d3, d4⟩ cs E (by omega) ⟨c1, c2, c3, c4, c5⟩ hhk (k : Int) t hh
       rwa [hz] at this
      have h66n : ∀ (Z : List StateM) (E : List DueN) (t : TodoM), Z.length = st.length → hearsC ⟨c1, c2, c3, c4, c5⟩ t.kind = false →
        FnOK Tryz.prog 66 [mHall ⟨l, m⟩ (.own 1 0 st.length) ⟨d1, d2, d3, d4⟩ cs (.own 2 0 E.length), mStates Z, rDuesN E] [.ptr 0 0 0, eClass ⟨c1, c2, c3, c4, c5⟩, eInt (k : Int), eTodo t]
         [mHall ⟨l, m⟩ (.own 1 0 st.length) ⟨d1, d2, d3, d4⟩ cs (.own 2 0 E.length), mStates Z, rDuesN E] (.tup []) := fun Z E t hz hh => by
       have := f66_no ⟨l, m⟩ Z ⟨d1, d2, d3, d4⟩ cs E ⟨c1, c2, c3, c4, c5⟩ hhk (k : Int) t hh
       rwa [hz] at this
      have hDl : D.length ≤ 500 := by omega
      clear h65 hSd hDd hhk
      by_cases e1 : s3 = o
      ·obtain rfl := e1.symm
       rw [if_pos rfl, List.nil_append] at htd
       by_cases e2 : s4 = b
       ·obtain rfl := e2.symm
        rw [if_pos rfl, List.append_nil] at htd
        repeat' (first
  | refine gK ?_ | refine aE ?_ ?_
  | ((first
   | ((with_reducible show LtK _ _ _ _ _); refine LtK.mk k rfl (by omega) ?_)
   | ((with_reducible show ElemK _ _ _ _ _); refine ElemK.mk (eState ⟨s1, s2, o, b⟩) (by rw [Nat.zero_add]; exact state_get hXk) ?_)
   | ((with_reducible refine kQ 39 ?_); refine cL h39 c39 ?_)) <;> with_reducible refine wK ?_)
  | apply trivial)
        refine NextK.mk (k + 1) (by omega) (by omega) ?_
        rw [htd, htm rfl]
        (refine fK ?_; (with_reducible repeat' (first | exact trivial | (show _ ∧ _; refine aK ?_ ?_))); (all_goals try rfl))
        all_goals first
         | exact ⟨.refl (noRef_states _), noRef_states _⟩
         | exact ⟨.refl (noRef_duesN _), noRef_duesN _⟩
         | (simp; done)
       ·rw [if_neg e2] at htd
        have e2' : (b == s4) = false := by cases b <;> cases s4 <;> simp at e2 ⊢
        (have fct := e2'; (repeat' (first
  | refine gF ?_ | refine aE ?_ ?_
  | ((first
   | ((with_reducible show LtK _ _ _ _ _); refine LtK.mk k rfl (by omega) ?_)
   | ((with_reducible show ElemK _ _ _ _ _); refine ElemK.mk (eState ⟨s1, s2, o, s4⟩) (by rw [Nat.zero_add]; exact state_get hXk) ?_)
   | ((with_reducible refine kQ 39 ?_); refine cL h39 c39 ?_)) <;> with_reducible refine wK ?_)
  | apply trivial)); all_goals clear fct)
        have htk2 : (X.set k ⟨s1, s2, o, b⟩).length = st.length := by simp [htk]
        rw [set_st X k ⟨s1, s2, o, b⟩]
        cases hw2 : hearsC ⟨c1, c2, c3, c4, c5⟩ 6 with
        | true =>
          rw [tellD_yes (show hearsC _ (barredT b).kind = true from hw2)] at htd
          have hFl : (D ++ ([⟨(k : Int), barredT b⟩] : List DueN)).length = D.length + 1 := by simp
          refine CallK.lend (news := [mHall ⟨l, m⟩ (.own 241 0 st.length) ⟨d1, d2, d3, d4⟩ cs (.own 911 0 (D.length + 1)), mStates (X.set k ⟨s1, s2, o, b⟩), .dead, rDuesN (D ++ [⟨(k : Int), barredT b⟩])]) [240, 241, 248, 911] [] (h66y (X.set k ⟨s1, s2, o, b⟩) D (barredT b) (by simp; omega) (by omega) hw2) c66 ⟨⟨rfl, rfl⟩, ⟨rfl, rfl, rfl, rfl, rfl, trivial⟩, rfl, ⟨rfl, rfl, rfl, rfl, rfl, rfl, rfl, rfl, rfl, rfl, trivial⟩, trivial⟩ (ins_hall rfl rfl rfl) rfl ⟨⟨rfl, rfl⟩, rfl⟩ rfl news_tell rfl rfl ?_
          with_reducible refine wK ?_
          repeat' (first
  | refine gK ?_ | refine aE ?_ ?_
  | apply trivial)
          refine NextK.mk (k + 1) (by omega) (by omega) ?_
          rw [htd, hts]
          (refine fK ?_; (with_reducible repeat' (first | exact trivial | (show _ ∧ _; refine aK ?_ ?_))); (all_goals try rfl))
          all_goals first
           | exact ⟨.refl (noRef_states _), noRef_states _⟩
           | exact ⟨.refl (noRef_duesN _), noRef_duesN _⟩
           | (simp; done)
        | false =>
          rw [tellD_no (show hearsC _ (barredT b).kind = false from hw2), List.append_nil] at htd
          refine CallK.lend (news := [mHall ⟨l, m⟩ (.own 241 0 st.length) ⟨d1, d2, d3, d4⟩ cs (.own 248 0 D.length), mStates (X.set k ⟨s1, s2, o, b⟩), rDuesN D]) [240, 241, 248] [] (h66n (X.set k ⟨s1, s2, o, b⟩) D (barredT b) (by simp; omega) hw2) c66 ⟨⟨rfl, rfl⟩, ⟨rfl, rfl, rfl, rfl, rfl, trivial⟩, rfl, ⟨rfl, rfl, rfl, rfl, rfl, rfl, rfl, rfl, rfl, rfl, trivial⟩, trivial⟩ (ins_hall rfl rfl rfl) rfl ⟨⟨rfl, rfl⟩, rfl⟩ rfl news_hall rfl rfl ?_
          with_reducible refine wK ?_
          repeat' (first
  | refine gK ?_ | refine aE ?_ ?_
  | apply trivial)
          refine NextK.mk (k + 1) (by omega) (by omega) ?_
          rw [htd, hts]
          (refine fK ?_; (with_reducible repeat' (first | exact trivial | (show _ ∧ _; refine aK ?_ ?_))); (all_goals try rfl))
          all_goals first
           | exact ⟨.refl (noRef_states _), noRef_states _⟩
           | exact ⟨.refl (noRef_duesN _), noRef_duesN _⟩
           | (simp; done)
      ·rw [if_neg e1] at htd
       have hYk : (X.set k ⟨s1, s2, o, s4⟩)[k]? = some ⟨s1, s2, o, s4⟩ := by rw [List.getElem?_set_self (by omega)]
       have hYl : (X.set k ⟨s1, s2, o, s4⟩).length = st.length := by simp [htk]
       have hset : (X.set k ⟨s1, s2, o, s4⟩).set k ⟨s1, s2, o, b⟩ = X.set k ⟨s1, s2, o, b⟩ := List.set_set ..
       rw [← hset] at hts
       (have fct := (eq_false e1); (repeat' (first
  | refine gF ?_ | refine aE ?_ ?_
  | ((first
   | ((with_reducible show LtK _ _ _ _ _); refine LtK.mk k rfl (by omega) ?_)
   | ((with_reducible show ElemK _ _ _ _ _); refine ElemK.mk (eState ⟨s1, s2, s3, s4⟩) (by rw [Nat.zero_add]; exact state_get hXk) ?_)) <;> with_reducible refine wK ?_)
  | apply trivial)); all_goals clear fct)
       rw [set_st X k ⟨s1, s2, o, s4⟩]
       generalize X.set k ⟨s1, s2, o, s4⟩ = Y at *
       cases hw : hearsC ⟨c1, c2, c3, c4, c5⟩ 5 with
       | true =>
         rw [tellD_yes (show hearsC _ (ownedT s3 o).kind = true from hw), ← List.append_assoc] at htd
         have hEl : (D ++ ([⟨(k : Int), ownedT s3 o⟩] : List DueN)).length = D.length + 1 := by simp
         refine CallK.lend (news := [mHall ⟨l, m⟩ (.own 241 0 st.length) ⟨d1, d2, d3, d4⟩ cs (.own 721 0 (D.length + 1)), mStates Y, .dead, rDuesN (D ++ [⟨(k : Int), ownedT s3 o⟩])]) [240, 241, 248, 721] [] (h66y Y D (ownedT s3 o) hYl (by omega) hw) c66 ⟨⟨rfl, rfl⟩, ⟨rfl, rfl, rfl, rfl, rfl, trivial⟩, rfl, ⟨rfl, rfl, rfl, rfl, rfl, rfl, rfl, rfl, rfl, rfl, trivial⟩, trivial⟩ (ins_hall rfl rfl rfl) rfl ⟨⟨rfl, rfl⟩, rfl⟩ rfl news_tell rfl rfl ?_
         rw [← hEl]
         generalize D ++ ([⟨(k : Int), ownedT s3 o⟩] : List DueN) = E at *
         have hEl' : E.length ≤ 501 := by omega
         with_reducible refine wK ?_
         by_cases e2 : s4 = b
         ·obtain rfl := e2.symm
          rw [if_pos rfl, List.append_nil] at htd
          have hYs : Y.set k ⟨s1, s2, o, b⟩ = Y := by
           apply List.ext_getElem?
           intro n
           rw [List.getElem?_set]
           by_cases e : k = n
           ·subst e; rw [if_pos rfl, if_pos (by omega), hYk]
           ·rw [if_neg e]
          rw [hYs] at hts
          repeat' (first
  | refine gK ?_ | refine aE ?_ ?_
  | ((first
   | ((with_reducible show LtK _ _ _ _ _); refine LtK.mk k rfl (by omega) ?_)
   | ((with_reducible show ElemK _ _ _ _ _); refine ElemK.mk (eState ⟨s1, s2, o, b⟩) (by rw [Nat.zero_add]; exact state_get hYk) ?_)
   | ((with_reducible refine kQ 39 ?_); refine cL h39 c39 ?_)) <;> with_reducible refine wK ?_)
  | apply trivial)
          refine NextK.mk (k + 1) (by omega) (by omega) ?_
          rw [htd, hts]
          (refine fK ?_; (with_reducible repeat' (first | exact trivial | (show _ ∧ _; refine aK ?_ ?_))); (all_goals try rfl))
          all_goals first
           | exact ⟨.refl (noRef_states _), noRef_states _⟩
           | exact ⟨.refl (noRef_duesN _), noRef_duesN _⟩
           | (simp; done)
         ·rw [if_neg e2] at htd
          have e2' : (b == s4) = false := by cases b <;> cases s4 <;> simp at e2 ⊢
          (have fct := e2'; (repeat' (first
  | refine gF ?_ | refine aE ?_ ?_
  | ((first
   | ((with_reducible show LtK _ _ _ _ _); refine LtK.mk k rfl (by omega) ?_)
   | ((with_reducible show ElemK _ _ _ _ _); refine ElemK.mk (eState ⟨s1, s2, o, s4⟩) (by rw [Nat.zero_add]; exact state_get hYk) ?_)
   | ((with_reducible refine kQ 39 ?_); refine cL h39 c39 ?_)) <;> with_reducible refine wK ?_)
  | apply trivial)); all_goals clear fct)
          rw [set_st Y k ⟨s1, s2, o, b⟩]
          cases hw2 : hearsC ⟨c1, c2, c3, c4, c5⟩ 6 with
          | true =>
            rw [tellD_yes (show hearsC _ (barredT b).kind = true from hw2)] at htd
            have hFl : (E ++ ([⟨(k : Int), barredT b⟩] : List DueN)).length = E.length + 1 := by simp
            refine CallK.lend (news := [mHall ⟨l, m⟩ (.own 241 0 st.length) ⟨d1, d2, d3, d4⟩ cs (.own 911 0 (E.length + 1)), mStates (Y.set k ⟨s1, s2, o, b⟩), .dead, rDuesN (E ++ [⟨(k : Int), barredT b⟩])]) [240, 241, 721, 911] [] (h66y (Y.set k ⟨s1, s2, o, b⟩) E (barredT b) (by simp; omega) (by omega) hw2) c66 ⟨⟨rfl, rfl⟩, ⟨rfl, rfl, rfl, rfl, rfl, trivial⟩, rfl, ⟨rfl, rfl, rfl, rfl, rfl, rfl, rfl, rfl, rfl, rfl, trivial⟩, trivial⟩ (ins_hall rfl rfl rfl) rfl ⟨⟨rfl, rfl⟩, rfl⟩ rfl news_tell rfl rfl ?_
            with_reducible refine wK ?_
            repeat' (first
  | refine gK ?_ | refine aE ?_ ?_
  | apply trivial)
            refine NextK.mk (k + 1) (by omega) (by omega) ?_
            rw [htd, hts]
            (refine fK ?_; (with_reducible repeat' (first | exact trivial | (show _ ∧ _; refine aK ?_ ?_))); (all_goals try rfl))
            all_goals first
             | exact ⟨.refl (noRef_states _), noRef_states _⟩
             | exact ⟨.refl (noRef_duesN _), noRef_duesN _⟩
             | (simp; done)
          | false =>
            rw [tellD_no (show hearsC _ (barredT b).kind = false from hw2), List.append_nil] at htd
            refine CallK.lend (news := [mHall ⟨l, m⟩ (.own 241 0 st.length) ⟨d1, d2, d3, d4⟩ cs (.own 721 0 E.length), mStates (Y.set k ⟨s1, s2, o, b⟩), rDuesN E]) [240, 241, 721] [] (h66n (Y.set k ⟨s1, s2, o, b⟩) E (barredT b) (by simp; omega) hw2) c66 ⟨⟨rfl, rfl⟩, ⟨rfl, rfl, rfl, rfl, rfl, trivial⟩, rfl, ⟨rfl, rfl, rfl, rfl, rfl, rfl, rfl, rfl, rfl, rfl, trivial⟩, trivial⟩ (ins_hall rfl rfl rfl) rfl ⟨⟨rfl, rfl⟩, rfl⟩ rfl news_hall rfl rfl ?_
            with_reducible refine wK ?_
            repeat' (first
  | refine gK ?_ | refine aE ?_ ?_
  | apply trivial)
            refine NextK.mk (k + 1) (by omega) (by omega) ?_
            rw [htd, hts]
            (refine fK ?_; (with_reducible repeat' (first | exact trivial | (show _ ∧ _; refine aK ?_ ?_))); (all_goals try rfl))
            all_goals first
             | exact ⟨.refl (noRef_states _), noRef_states _⟩
             | exact ⟨.refl (noRef_duesN _), noRef_duesN _⟩
             | (simp; done)
       | false =>
         rw [tellD_no (show hearsC _ (ownedT s3 o).kind = false from hw), List.nil_append] at htd
         refine CallK.lend (news := [mHall ⟨l, m⟩ (.own 241 0 st.length) ⟨d1, d2, d3, d4⟩ cs (.own 248 0 D.length), mStates Y, rDuesN D]) [240, 241, 248] [] (h66n Y D (ownedT s3 o) hYl hw) c66 ⟨⟨rfl, rfl⟩, ⟨rfl, rfl, rfl, rfl, rfl, trivial⟩, rfl, ⟨rfl, rfl, rfl, rfl, rfl, rfl, rfl, rfl, rfl, rfl, trivial⟩, trivial⟩ (ins_hall rfl rfl rfl) rfl ⟨⟨rfl, rfl⟩, rfl⟩ rfl news_hall rfl rfl ?_
         with_reducible refine wK ?_
         by_cases e2 : s4 = b
         ·obtain rfl := e2.symm
          rw [if_pos rfl, List.append_nil] at htd
          have hYs : Y.set k ⟨s1, s2, o, b⟩ = Y := by
           apply List.ext_getElem?
           intro n
           rw [List.getElem?_set]
           by_cases e : k = n
           ·subst e; rw [if_pos rfl, if_pos (by omega), hYk]
           ·rw [if_neg e]
          rw [hYs] at hts
          repeat' (first
  | refine gK ?_ | refine aE ?_ ?_
  | ((first
   | ((with_reducible show LtK _ _ _ _ _); refine LtK.mk k rfl (by omega) ?_)
   | ((with_reducible show ElemK _ _ _ _ _); refine ElemK.mk (eState ⟨s1, s2, o, b⟩) (by rw [Nat.zero_add]; exact state_get hYk) ?_)
   | ((with_reducible refine kQ 39 ?_); refine cL h39 c39 ?_)) <;> with_reducible refine wK ?_)
  | apply trivial)
          refine NextK.mk (k + 1) (by omega) (by omega) ?_
          rw [htd, hts]
          (refine fK ?_; (with_reducible repeat' (first | exact trivial | (show _ ∧ _; refine aK ?_ ?_))); (all_goals try rfl))
          all_goals first
           | exact ⟨.refl (noRef_states _), noRef_states _⟩
           | exact ⟨.refl (noRef_duesN _), noRef_duesN _⟩
           | (simp; done)
         ·rw [if_neg e2] at htd
          have e2' : (b == s4) = false := by cases b <;> cases s4 <;> simp at e2 ⊢
          (have fct := e2'; (repeat' (first
  | refine gF ?_ | refine aE ?_ ?_
  | ((first
   | ((with_reducible show LtK _ _ _ _ _); refine LtK.mk k rfl (by omega) ?_)
   | ((with_reducible show ElemK _ _ _ _ _); refine ElemK.mk (eState ⟨s1, s2, o, s4⟩) (by rw [Nat.zero_add]; exact state_get hYk) ?_)
   | ((with_reducible refine kQ 39 ?_); refine cL h39 c39 ?_)) <;> with_reducible refine wK ?_)
  | apply trivial)); all_goals clear fct)
          rw [set_st Y k ⟨s1, s2, o, b⟩]
          cases hw2 : hearsC ⟨c1, c2, c3, c4, c5⟩ 6 with
          | true =>
            rw [tellD_yes (show hearsC _ (barredT b).kind = true from hw2)] at htd
            have hFl : (D ++ ([⟨(k : Int), barredT b⟩] : List DueN)).length = D.length + 1 := by simp
            refine CallK.lend (news := [mHall ⟨l, m⟩ (.own 241 0 st.length) ⟨d1, d2, d3, d4⟩ cs (.own 911 0 (D.length + 1)), mStates (Y.set k ⟨s1, s2, o, b⟩), .dead, rDuesN (D ++ [⟨(k : Int), barredT b⟩])]) [240, 241, 248, 911] [] (h66y (Y.set k ⟨s1, s2, o, b⟩) D (barredT b) (by simp; omega) (by omega) hw2) c66 ⟨⟨rfl, rfl⟩, ⟨rfl, rfl, rfl, rfl, rfl, trivial⟩, rfl, ⟨rfl, rfl, rfl, rfl, rfl, rfl, rfl, rfl, rfl, rfl, trivial⟩, trivial⟩ (ins_hall rfl rfl rfl) rfl ⟨⟨rfl, rfl⟩, rfl⟩ rfl news_tell rfl rfl ?_
            with_reducible refine wK ?_
            repeat' (first
  | refine gK ?_ | refine aE ?_ ?_
  | apply trivial)
            refine NextK.mk (k + 1) (by omega) (by omega) ?_
            rw [htd, hts]
            (refine fK ?_; (with_reducible repeat' (first | exact trivial | (show _ ∧ _; refine aK ?_ ?_))); (all_goals try rfl))
            all_goals first
             | exact ⟨.refl (noRef_states _), noRef_states _⟩
             | exact ⟨.refl (noRef_duesN _), noRef_duesN _⟩
             | (simp; done)
          | false =>
            rw [tellD_no (show hearsC _ (barredT b).kind = false from hw2), List.append_nil] at htd
            refine CallK.lend (news := [mHall ⟨l, m⟩ (.own 241 0 st.length) ⟨d1, d2, d3, d4⟩ cs (.own 248 0 D.length), mStates (Y.set k ⟨s1, s2, o, b⟩), rDuesN D]) [240, 241, 248] [] (h66n (Y.set k ⟨s1, s2, o, b⟩) D (barredT b) (by simp; omega) hw2) c66 ⟨⟨rfl, rfl⟩, ⟨rfl, rfl, rfl, rfl, rfl, trivial⟩, rfl, ⟨rfl, rfl, rfl, rfl, rfl, rfl, rfl, rfl, rfl, rfl, trivial⟩, trivial⟩ (ins_hall rfl rfl rfl) rfl ⟨⟨rfl, rfl⟩, rfl⟩ rfl news_hall rfl rfl ?_
            with_reducible refine wK ?_
            repeat' (first
  | refine gK ?_ | refine aE ?_ ?_
  | apply trivial)
            refine NextK.mk (k + 1) (by omega) (by omega) ?_
            rw [htd, hts]
            (refine fK ?_; (with_reducible repeat' (first | exact trivial | (show _ ∧ _; refine aK ?_ ?_))); (all_goals try rfl))
            all_goals first
             | exact ⟨.refl (noRef_states _), noRef_states _⟩
             | exact ⟨.refl (noRef_duesN _), noRef_duesN _⟩
             | (simp; done)
   ·have hjl : k = st.length := by simp only [decide_eq_false_iff_not] at h1; omega
    subst hjl
    repeat' (first
  | refine gK ?_ | refine aE ?_ ?_
  | (((with_reducible show DrawK _ _ _ _); refine dK ?_) <;> with_reducible refine wK ?_)
  | apply trivial)
    all_goals first | exact frz_states rfl rfl rfl htk.symm | exact frz_duesN rfl rfl rfl rfl
end Go.Proofs.Heir
