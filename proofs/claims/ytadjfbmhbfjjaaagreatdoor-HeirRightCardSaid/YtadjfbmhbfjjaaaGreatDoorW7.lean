/- Models, plain laws and contracts of functions of the given program; conditions as stated in each theorem. By an AI agent. -/
import Derived.Test.YtadjfbmhbfjjaaaGreatDoorW6
import Derived.Laws.StructEq
import Derived.Tactics
import Derived.Test.YtadjfbmhbfjjaaaGreatDoorW4
import Derived.Test.YtadjfbmhbfjjaaaGreatDoorW1
import Derived.Test.YtadjfbmhbfjjaaaGreatDoorRows
import Derived.ProofKit
import Derived.LaidMore
import Derived.OpenShut
import Derived.Stop.Joined
import Derived.Lib.LaidTab
import Derived.MakeChecks
section
set_option linter.unusedSimpArgs false
set_option linter.unusedVariables false
namespace Go.Proofs.Heir
open Go Go.Am Go.RowKit Go.Lib
set_option maxRecDepth 100000
theorem f50_ok (f : ForM) (n : Int) : FnOK Tryz.prog 50 [] [eFor f, eInt n] [] (.clo (.func 79) [] [.fptr (eFor f) 0, .fptr (eInt n) 0]) := by
  obtain ⟨l, m⟩ := f
  refine FnOK.startC (rvs := [.tmp 4]) G G_good Tryz.func50 rfl Tryz.ntmps50 rfl rfl ?_; delta List.toArray; (with_reducible ((conv => whnf); (conv => congr <;> reduce); repeat ((first | refine hK ?_ | refine sK ?_); (conv => whnf); (conv => congr <;> reduce))))
  refine ⟨⟨rfl, rfl⟩, ⟨rfl, trivial, ⟨_, _, _, _, _, rfl, rfl, rfl, rfl, rfl, ⟨rfl, rfl, trivial⟩⟩, ⟨_, _, _, _, _, rfl, rfl, rfl, rfl, rfl, rfl⟩, trivial⟩, ?_⟩
  exact trivial
def bornM (s i : ByteArray) : Int := if (!decide (i = ⟨#[]⟩) || customS s) = true then 1 else 0
theorem size_zero {i : ByteArray} : i.size = 0 ↔ i = ⟨#[]⟩ := by
  constructor
  · intro h
    obtain ⟨⟨l⟩⟩ := i
    have : l.length = 0 := h
    rw [List.eq_nil_of_length_eq_zero this]
  · rintro rfl; rfl
theorem f11_ok (s i : ByteArray) : FnOK Tryz.prog 11 [] [eStr s, eStr i] [] (eInt (bornM s i)) := by
  have h42 := f42_ok s
  unfold bornM
  refine FnOK.startC (rvs := [.tmp 4]) G G_good Tryz.func11 rfl Tryz.ntmps11 rfl rfl ?_; delta List.toArray; (with_reducible ((conv => whnf); (conv => congr <;> reduce); repeat ((first | refine hK ?_ | refine sK ?_); (conv => whnf); (conv => congr <;> reduce))))
  cases e : decide (i = ⟨#[]⟩) with
  | true =>
    cases hc : customS s <;> rw [hc] at h42 <;> repeat' (first
    | (first
    | ((with_reducible show IfK _ _ _ _); first | refine IfK.ff ?_ | refine IfK.tt ?_ | refine IfK.no (by first | rfl | assumption | exact nfA | exact ntA | ((try simp only [castN]); first | simp [e] <;> omega)) ?_ | refine IfK.yes (by first | rfl | assumption | exact nfA | exact ntA | ((try simp only [castN]); first | simp [e] <;> omega)) ?_)
    | ((with_reducible show NeedK _ _ _ _); refine nK ?_)
    | ((with_reducible show DrawK _ _ _ _); refine dK ?_)
    | ((with_reducible show CallK _ _ 42 _ _ _ _); refine CallK.lit [] h42 c42 ⟨rfl, trivial⟩ rfl rfl ?_)) <;> (with_reducible ((conv => whnf); (conv => congr <;> reduce); repeat ((first | refine hK ?_ | refine sK ?_); (conv => whnf); (conv => congr <;> reduce))))
    | ((with_reducible show (_ ∧ _) ∧ _ ∧ _); refine ⟨⟨rfl, rfl⟩, ?_, ?_⟩ <;> with_reducible ((conv => whnf) <;> repeat' (first | exact trivial | (refine And.intro ?_ ?_ <;> (conv => whnf))))))
    all_goals rfl
  | false =>
    repeat' (first
    | (first
    | ((with_reducible show IfK _ _ _ _); first | refine IfK.ff ?_ | refine IfK.tt ?_ | refine IfK.no (by first | rfl | assumption | exact nfA | exact ntA | ((try simp only [castN]); first | simp [e] <;> omega)) ?_ | refine IfK.yes (by first | rfl | assumption | exact nfA | exact ntA | ((try simp only [castN]); first | simp [e] <;> omega)) ?_)
    | ((with_reducible show NeedK _ _ _ _); refine nK ?_)
    | ((with_reducible show DrawK _ _ _ _); refine dK ?_)) <;> (with_reducible ((conv => whnf); (conv => congr <;> reduce); repeat ((first | refine hK ?_ | refine sK ?_); (conv => whnf); (conv => congr <;> reduce))))
    | ((with_reducible show (_ ∧ _) ∧ _ ∧ _); refine ⟨⟨rfl, rfl⟩, ?_, ?_⟩ <;> with_reducible ((conv => whnf) <;> repeat' (first | exact trivial | (refine And.intro ?_ ?_ <;> (conv => whnf))))))
    all_goals rfl
theorem f12_ok (s i : ByteArray) : FnOK Tryz.prog 12 [] [eStr s, eStr i] [] (eInt (bornM s i)) := by
  have h43 := f43s_ok s
  unfold bornM
  refine FnOK.startC (rvs := [.tmp 4]) G G_good Tryz.func12 rfl Tryz.ntmps12 rfl rfl ?_; delta List.toArray; (with_reducible ((conv => whnf); (conv => congr <;> reduce); repeat ((first | refine hK ?_ | refine sK ?_); (conv => whnf); (conv => congr <;> reduce))))
  refine CallK.lit [] h43 c43 ⟨rfl, trivial⟩ rfl rfl ?_; (with_reducible ((conv => whnf); (conv => congr <;> reduce); repeat ((first | refine hK ?_ | refine sK ?_); (conv => whnf); (conv => congr <;> reduce))))
  cases hc : customS s with
  | true =>
    rw [Bool.or_true, if_pos rfl]
    repeat' (first
    | (first
    | ((with_reducible show IfK _ _ _ _); first | refine IfK.ff ?_ | refine IfK.tt ?_ | refine IfK.no (by first | rfl | assumption | exact nfA | exact ntA | ((try simp only [castN]); first | simp [] <;> omega)) ?_ | refine IfK.yes (by first | rfl | assumption | exact nfA | exact ntA | ((try simp only [castN]); first | simp [] <;> omega)) ?_)
    | ((with_reducible show NeedK _ _ _ _); refine nK ?_)
    | ((with_reducible show DrawK _ _ _ _); refine dK ?_)) <;> (with_reducible ((conv => whnf); (conv => congr <;> reduce); repeat ((first | refine hK ?_ | refine sK ?_); (conv => whnf); (conv => congr <;> reduce))))
    | ((with_reducible show (_ ∧ _) ∧ _ ∧ _); refine ⟨⟨rfl, rfl⟩, ?_, ?_⟩ <;> with_reducible ((conv => whnf) <;> repeat' (first | exact trivial | (refine And.intro ?_ ?_ <;> (conv => whnf))))))
  | false =>
    rw [Bool.or_false]
    by_cases e : i.size = 0
    · rw [decide_eq_true (size_zero.1 e)]
      repeat' (first
    | (first
    | ((with_reducible show IfK _ _ _ _); first | refine IfK.ff ?_ | refine IfK.tt ?_ | refine IfK.no (by first | rfl | assumption | exact nfA | exact ntA | ((try simp only [castN]); first | simp [e] <;> omega)) ?_ | refine IfK.yes (by first | rfl | assumption | exact nfA | exact ntA | ((try simp only [castN]); first | simp [e] <;> omega)) ?_)
    | ((with_reducible show NeedK _ _ _ _); refine nK ?_)
    | ((with_reducible show DrawK _ _ _ _); refine dK ?_)) <;> (with_reducible ((conv => whnf); (conv => congr <;> reduce); repeat ((first | refine hK ?_ | refine sK ?_); (conv => whnf); (conv => congr <;> reduce))))
    | ((with_reducible show (_ ∧ _) ∧ _ ∧ _); refine ⟨⟨rfl, rfl⟩, ?_, ?_⟩ <;> with_reducible ((conv => whnf) <;> repeat' (first | exact trivial | (refine And.intro ?_ ?_ <;> (conv => whnf))))))
      all_goals rfl
    · rw [decide_eq_false (fun h => e (size_zero.2 h))]
      repeat' (first
    | (first
    | ((with_reducible show IfK _ _ _ _); first | refine IfK.ff ?_ | refine IfK.tt ?_ | refine IfK.no (by first | rfl | assumption | exact nfA | exact ntA | ((try simp only [castN]); first | simp [show 0 < i.size by omega] <;> omega)) ?_ | refine IfK.yes (by first | rfl | assumption | exact nfA | exact ntA | ((try simp only [castN]); first | simp [show 0 < i.size by omega] <;> omega)) ?_)
    | ((with_reducible show NeedK _ _ _ _); refine nK ?_)
    | ((with_reducible show DrawK _ _ _ _); refine dK ?_)) <;> (with_reducible ((conv => whnf); (conv => congr <;> reduce); repeat ((first | refine hK ?_ | refine sK ?_); (conv => whnf); (conv => congr <;> reduce))))
    | ((with_reducible show (_ ∧ _) ∧ _ ∧ _); refine ⟨⟨rfl, rfl⟩, ?_, ?_⟩ <;> with_reducible ((conv => whnf) <;> repeat' (first | exact trivial | (refine And.intro ?_ ?_ <;> (conv => whnf))))))
      all_goals rfl
def fateD (x : NodeM) (d : DeskM) : Int := if x.kind = 1 ∧ x.doc = 0 then findD d x.name x.is else -1
theorem f49_ok (x : NodeM) (d : DeskM) (h : SmallD d) : FnOK Tryz.prog 49 [] [eNode x, eDesk d] [] (eInt (fateD x d)) := by
  have h78 := f78_ok d h x.name x.is
  obtain ⟨a1, a2, a3, a4, a5, a6, a7, a8, a9, a10⟩ := x
  obtain ⟨d1, d2, d3, d4⟩ := d
  unfold fateD
  simp only at h78 ⊢
  refine FnOK.startC (rvs := [.tmp 4]) G G_good Tryz.func49 rfl Tryz.ntmps49 rfl rfl ?_; delta List.toArray; (with_reducible ((conv => whnf); (conv => congr <;> reduce); repeat ((first | refine hK ?_ | refine sK ?_); (conv => whnf); (conv => congr <;> reduce))))
  by_cases e1 : a1 = 1
  · subst e1
    by_cases e2 : a10 = 0
    · subst e2
      rw [if_pos ⟨rfl, rfl⟩]
      repeat' (first
    | (first
    | ((with_reducible show IfK _ _ _ _); first | refine IfK.ff ?_ | refine IfK.tt ?_ | refine IfK.no (by first | rfl | assumption | exact nfA | exact ntA | ((try simp only [castN]); first | simp [] <;> omega)) ?_ | refine IfK.yes (by first | rfl | assumption | exact nfA | exact ntA | ((try simp only [castN]); first | simp [] <;> omega)) ?_)
    | ((with_reducible show NeedK _ _ _ _); refine nK ?_)
    | ((with_reducible show DrawK _ _ _ _); refine dK ?_)
    | ((with_reducible show CallK _ _ 78 _ _ _ _); refine CallK.lit [] h78 c78 ⟨⟨rfl, rfl, rfl, rfl, trivial⟩, rfl, rfl, trivial⟩ rfl rfl ?_)) <;> (with_reducible ((conv => whnf); (conv => congr <;> reduce); repeat ((first | refine hK ?_ | refine sK ?_); (conv => whnf); (conv => congr <;> reduce))))
    | ((with_reducible show (_ ∧ _) ∧ _ ∧ _); refine ⟨⟨rfl, rfl⟩, ?_, ?_⟩ <;> with_reducible ((conv => whnf) <;> repeat' (first | exact trivial | (refine And.intro ?_ ?_ <;> (conv => whnf))))))
    · rw [if_neg fun h => e2 h.2]
      repeat' (first
    | (first
    | ((with_reducible show IfK _ _ _ _); first | refine IfK.ff ?_ | refine IfK.tt ?_ | refine IfK.no (by first | rfl | assumption | exact nfA | exact ntA | ((try simp only [castN]); first | simp [e2] <;> omega)) ?_ | refine IfK.yes (by first | rfl | assumption | exact nfA | exact ntA | ((try simp only [castN]); first | simp [e2] <;> omega)) ?_)
    | ((with_reducible show NeedK _ _ _ _); refine nK ?_)
    | ((with_reducible show DrawK _ _ _ _); refine dK ?_)) <;> (with_reducible ((conv => whnf); (conv => congr <;> reduce); repeat ((first | refine hK ?_ | refine sK ?_); (conv => whnf); (conv => congr <;> reduce))))
    | ((with_reducible show (_ ∧ _) ∧ _ ∧ _); refine ⟨⟨rfl, rfl⟩, ?_, ?_⟩ <;> with_reducible ((conv => whnf) <;> repeat' (first | exact trivial | (refine And.intro ?_ ?_ <;> (conv => whnf))))))
  · rw [if_neg fun h => e1 h.1]
    repeat' (first
    | (first
    | ((with_reducible show IfK _ _ _ _); first | refine IfK.ff ?_ | refine IfK.tt ?_ | refine IfK.no (by first | rfl | assumption | exact nfA | exact ntA | ((try simp only [castN]); first | simp [e1] <;> omega)) ?_ | refine IfK.yes (by first | rfl | assumption | exact nfA | exact ntA | ((try simp only [castN]); first | simp [e1] <;> omega)) ?_)
    | ((with_reducible show NeedK _ _ _ _); refine nK ?_)
    | ((with_reducible show DrawK _ _ _ _); refine dK ?_)) <;> (with_reducible ((conv => whnf); (conv => congr <;> reduce); repeat ((first | refine hK ?_ | refine sK ?_); (conv => whnf); (conv => congr <;> reduce))))
    | ((with_reducible show (_ ∧ _) ∧ _ ∧ _); refine ⟨⟨rfl, rfl⟩, ?_, ?_⟩ <;> with_reducible ((conv => whnf) <;> repeat' (first | exact trivial | (refine And.intro ?_ ?_ <;> (conv => whnf))))))
def fateF (f : ForM) (n : Int) (d : DeskM) : Int := if (thereN f.nodes n && rightF f) = true then fateD (nd f.nodes n) d else -1
theorem f15_ok (f : ForM) (hs : SmallN f.nodes) (n : Int) (d : DeskM) (h : SmallD d) : FnOK Tryz.prog 15 [] [eFor f, eInt n, eDesk d] [] (eInt (fateF f n d)) := by
  have h48 := f48_ok f hs
  have h49 := fun x => f49_ok x d h
  obtain ⟨l, m⟩ := f
  obtain ⟨d1, d2, d3, d4⟩ := d
  have hlm : (l.map oNode).length = l.length := List.length_map ..
  unfold fateF
  simp only at h48 h49 ⊢
  refine FnOK.startC (rvs := [.tmp 6]) G G_good Tryz.func15 rfl Tryz.ntmps15 rfl rfl ?_; delta List.toArray; (with_reducible ((conv => whnf); (conv => congr <;> reduce); repeat ((first | refine hK ?_ | refine sK ?_); (conv => whnf); (conv => congr <;> reduce))))
  by_cases e1 : n < 0
  · have e : thereN l n = false := by unfold thereN; rw [decide_eq_false (show ¬ 0 ≤ n by omega)]; rfl
    rw [e, Bool.false_and, if_neg (by simp)]
    repeat' (first
    | (first
    | ((with_reducible show IfK _ _ _ _); first | refine IfK.ff ?_ | refine IfK.tt ?_ | refine IfK.no (by first | rfl | assumption | exact nfA | exact ntA | ((try simp only [castN]); first | simp [e1] <;> omega)) ?_ | refine IfK.yes (by first | rfl | assumption | exact nfA | exact ntA | ((try simp only [castN]); first | simp [e1] <;> omega)) ?_)
    | ((with_reducible show NeedK _ _ _ _); refine nK ?_)
    | ((with_reducible show DrawK _ _ _ _); refine dK ?_)) <;> (with_reducible ((conv => whnf); (conv => congr <;> reduce); repeat ((first | refine hK ?_ | refine sK ?_); (conv => whnf); (conv => congr <;> reduce))))
    | ((with_reducible show (_ ∧ _) ∧ _ ∧ _); refine ⟨⟨rfl, rfl⟩, ?_, ?_⟩ <;> with_reducible ((conv => whnf) <;> repeat' (first | exact trivial | (refine And.intro ?_ ?_ <;> (conv => whnf))))))
  by_cases e2 : (l.length : Int) ≤ n
  · have e : thereN l n = false := by unfold thereN; rw [decide_eq_false (show ¬ n < (l.length : Int) by omega)]; simp
    rw [e, Bool.false_and, if_neg (by simp)]
    repeat' (first
    | (first
    | ((with_reducible show IfK _ _ _ _); first | refine IfK.ff ?_ | refine IfK.tt ?_ | refine IfK.no (by first | rfl | assumption | exact nfA | exact ntA | ((try simp only [castN]); first | simp [hlm, eq_false e1, e2] <;> omega)) ?_ | refine IfK.yes (by first | rfl | assumption | exact nfA | exact ntA | ((try simp only [castN]); first | simp [hlm, eq_false e1, e2] <;> omega)) ?_)
    | ((with_reducible show NeedK _ _ _ _); refine nK ?_)
    | ((with_reducible show DrawK _ _ _ _); refine dK ?_)) <;> (with_reducible ((conv => whnf); (conv => congr <;> reduce); repeat ((first | refine hK ?_ | refine sK ?_); (conv => whnf); (conv => congr <;> reduce))))
    | ((with_reducible show (_ ∧ _) ∧ _ ∧ _); refine ⟨⟨rfl, rfl⟩, ?_, ?_⟩ <;> with_reducible ((conv => whnf) <;> repeat' (first | exact trivial | (refine And.intro ?_ ?_ <;> (conv => whnf))))))
  have e : thereN l n = true := by unfold thereN; simp; omega
  rw [e, Bool.true_and]
  cases hr : rightF ⟨l, m⟩ with
  | false =>
    rw [hr] at h48
    rw [if_neg (by simp)]
    repeat' (first
    | (first
    | ((with_reducible show IfK _ _ _ _); first | refine IfK.ff ?_ | refine IfK.tt ?_ | refine IfK.no (by first | rfl | assumption | exact nfA | exact ntA | ((try simp only [castN]); first | simp [hlm, eq_false e1, eq_false e2] <;> omega)) ?_ | refine IfK.yes (by first | rfl | assumption | exact nfA | exact ntA | ((try simp only [castN]); first | simp [hlm, eq_false e1, eq_false e2] <;> omega)) ?_)
    | ((with_reducible show NeedK _ _ _ _); refine nK ?_)
    | ((with_reducible show DrawK _ _ _ _); refine dK ?_)
    | ((with_reducible show CallK _ _ 48 _ _ _ _); refine CallK.lit [] h48 c48 ⟨⟨rfl, rfl, trivial⟩, trivial⟩ rfl rfl ?_)) <;> (with_reducible ((conv => whnf); (conv => congr <;> reduce); repeat ((first | refine hK ?_ | refine sK ?_); (conv => whnf); (conv => congr <;> reduce))))
    | ((with_reducible show (_ ∧ _) ∧ _ ∧ _); refine ⟨⟨rfl, rfl⟩, ?_, ?_⟩ <;> with_reducible ((conv => whnf) <;> repeat' (first | exact trivial | (refine And.intro ?_ ?_ <;> (conv => whnf))))))
  | true =>
    rw [hr] at h48
    rw [if_pos rfl]
    obtain ⟨k, x, rfl, hx, hnx⟩ := there_iff.1 e
    have h49 := h49 x
    rw [hnx]
    obtain ⟨a1, a2, a3, a4, a5, a6, a7, a8, a9, a10⟩ := x
    repeat' (first
    | (first
    | ((with_reducible show IfK _ _ _ _); first | refine IfK.ff ?_ | refine IfK.tt ?_ | refine IfK.no (by first | rfl | assumption | exact nfA | exact ntA | ((try simp only [castN]); first | simp [hlm, eq_false e1, eq_false e2] <;> omega)) ?_ | refine IfK.yes (by first | rfl | assumption | exact nfA | exact ntA | ((try simp only [castN]); first | simp [hlm, eq_false e1, eq_false e2] <;> omega)) ?_)
    | ((with_reducible show NeedK _ _ _ _); refine nK ?_)
    | ((with_reducible show DrawK _ _ _ _); refine dK ?_)
    | ((with_reducible show CallK _ _ 48 _ _ _ _); refine CallK.lit [] h48 c48 ⟨⟨rfl, rfl, trivial⟩, trivial⟩ rfl rfl ?_)
    | ((with_reducible show IdxK _ _ _ _ _); refine IdxK.mk k (eNode _) rfl (node_get hx) ?_)
    | ((with_reducible show CallK _ _ 49 _ _ _ _); refine CallK.lit [] h49 c49 ⟨⟨rfl, rfl, rfl, rfl, rfl, rfl, rfl, rfl, rfl, rfl, trivial⟩, ⟨rfl, rfl, rfl, rfl, trivial⟩, trivial⟩ rfl rfl ?_)) <;> (with_reducible ((conv => whnf); (conv => congr <;> reduce); repeat ((first | refine hK ?_ | refine sK ?_); (conv => whnf); (conv => congr <;> reduce))))
    | ((with_reducible show (_ ∧ _) ∧ _ ∧ _); refine ⟨⟨rfl, rfl⟩, ?_, ?_⟩ <;> with_reducible ((conv => whnf) <;> repeat' (first | exact trivial | (refine And.intro ?_ ?_ <;> (conv => whnf))))))
end Go.Proofs.Heir
end
section
set_option linter.unusedSimpArgs false
set_option linter.unusedVariables false
namespace Go.Proofs.Heir
open Go Go.Am Go.RowKit Go.Lib
set_option maxRecDepth 100000
def isHeir (x : DefM) (y : NodeM) : Bool := decide (y.name = x.locl) && (decide (y.is = x.name) || decide (y.name = x.name))
def heirsU (f : ForM) (x : DefM) : List Int := (elemsU f.nodes (allU f 0)).filter fun c => isHeir x (nd f.nodes c)
theorem allU_there {f : ForM} {n : Int} : ∀ c ∈ allU f n, thereN f.nodes c = true := by
  intro c hc
  unfold allU at hc
  split at hc
  · rename_i h
    obtain ⟨hr, hn⟩ : rightF f = true ∧ thereN f.nodes n = true := by simpa using h
    exact (U.ord_way (U.tree_of hr) _ n hn c hc).1
  · simp at hc
theorem allU_len {f : ForM} {n : Int} : (allU f n).length ≤ f.nodes.length := by
  unfold allU
  split
  · rename_i h
    obtain ⟨hr, hn⟩ : rightF f = true ∧ thereN f.nodes n = true := by simpa using h
    exact U.ord_len (U.tree_of hr) _ hn
  · simp
theorem each_it' (f : ForM) (hs : SmallN f.nodes) (n : Int) : ItOK Tryz.prog 79 [.fptr (eFor f) 0, .fptr (eInt n) 0] (elemsU f.nodes (allU f n)).length (fun k => [oInt (((elemsU f.nodes (allU f n))[k]?).getD 0), eNode (nd f.nodes (((elemsU f.nodes (allU f n))[k]?).getD 0))]) := each_it f n (allU f n) (Nat.le_trans allU_len (by have := hs.len; omega)) allU_there (f80_ok f hs n) c80
theorem f16_ok (f : ForM) (hs : SmallN f.nodes) (x : DefM) : FnOK Tryz.prog 16 [] [eFor f, eDef x] [] (eInts (heirsU f x)) := by
  have h50 := f50_ok f 0
  have hit := each_it' f hs 0
  obtain ⟨es, hes⟩ : ∃ es, es = elemsU f.nodes (allU f 0) := ⟨_, rfl⟩
  rw [← hes] at hit
  unfold heirsU
  rw [← hes]
  have hel : es.length ≤ 60 := by
    rw [hes]; unfold elemsU
    exact Nat.le_trans (List.length_filter_le _ _) (Nat.le_trans allU_len hs.len)
  obtain ⟨l, m⟩ := f
  obtain ⟨x1, x2, x3⟩ := x
  simp only at hit hel ⊢
  refine FnOK.startC (rvs := [.tmp 4]) G G_good Tryz.func16 rfl Tryz.ntmps16 rfl rfl ?_; delta List.toArray; (with_reducible ((conv => whnf); (conv => congr <;> reduce); repeat ((first | refine hK ?_ | refine sK ?_); (conv => whnf); (conv => congr <;> reduce))))
  refine CallK.val [] h50 c50 ⟨⟨rfl, rfl, trivial⟩, rfl, trivial⟩ rfl rfl rfl ?_; (with_reducible ((conv => whnf); (conv => congr <;> reduce); repeat ((first | refine hK ?_ | refine sK ?_); (conv => whnf); (conv => congr <;> reduce))))
  repeat' (first
    | (first
    | ((with_reducible show IfK _ _ _ _); first | refine IfK.ff ?_ | refine IfK.tt ?_ | refine IfK.no (by first | rfl | assumption | exact nfA | exact ntA | ((try simp only [castN]); first | simp [] <;> omega)) ?_ | refine IfK.yes (by first | rfl | assumption | exact nfA | exact ntA | ((try simp only [castN]); first | simp [] <;> omega)) ?_)
    | ((with_reducible show NeedK _ _ _ _); refine nK ?_)
    | ((with_reducible show DrawK _ _ _ _); refine dK ?_)) <;> (with_reducible ((conv => whnf); (conv => congr <;> reduce); repeat ((first | refine hK ?_ | refine sK ?_); (conv => whnf); (conv => congr <;> reduce))))
    | ((with_reducible show (_ ∧ _) ∧ _ ∧ _); refine ⟨⟨rfl, rfl⟩, ?_, ?_⟩ <;> with_reducible ((conv => whnf) <;> repeat' (first | exact trivial | (refine And.intro ?_ ?_ <;> (conv => whnf))))))
  refine LoopK.ghostRow 5 50 57 1 0 0 (.lit (.slice none 0 0)) (.own 57 0 0) rfl rfl rfl rfl rfl rfl ?_
  obtain ⟨ks, hks⟩ : ∃ ks : Nat → List Int, ks = fun k => (es.take k).filter fun c => isHeir ⟨x1, x2, x3⟩ (nd l c) := ⟨_, rfl⟩
  have hkl : ∀ k, (ks k).length ≤ 60 := fun k => by
    rw [hks]; exact Nat.le_trans (List.length_filter_le _ _) (by rw [List.length_take]; omega)
  have hk0 : ks 0 = [] := by rw [hks]; rfl
  have hstep : ∀ (k : Nat) (c : Int), es[k]? = some c → ks (k + 1) = ks k ++ if isHeir ⟨x1, x2, x3⟩ (nd l c) = true then [c] else [] := fun k c hc => by
    rw [hks]; show ((es.take (k + 1)).filter _) = _
    rw [List.take_succ, hc, List.filter_append]
    congr 1
    show List.filter _ [c] = _
    rw [List.filter_cons]; rfl
  refine LoopK.range G G_good 2 [(3, .ptr 1 0 0), (5, .ptr 0 0 0), (9, .clo (.func 79) [] [.fptr (eFor ⟨l, m⟩) 0, .fptr (eInt 0) 0])]
    (fun k => [(0, .live 1 [.own 57 0 (ks k).length] false), (1, .live 3 [eDef ⟨x1, x2, x3⟩] false), (57, rInts (ks k))])
    hit c79 ?_ rfl ⟨⟨rfl, rfl⟩, rfl⟩ (fun _ _ => rfl) (fun _ _ => rfl) ⟨⟨rfl, rfl⟩, rfl, rfl⟩ ?_ ?_
  · rw [hk0]
    (refine ⟨⟨rfl, rfl⟩, ?_⟩; (with_reducible conv => whnf); (repeat' (first | (with_reducible exact trivial) | (with_reducible refine And.intro ?_ ?_ <;> with_reducible conv => whnf))); (all_goals try rfl))
    · exact ⟨⟨rfl, rfl⟩, trivial⟩
    · exact ⟨.refl rfl, rfl⟩
    · show ObjK (MF _ _ _ 12) [] []
      exact ⟨.refl rfl, rfl⟩
  · intro k hk
    obtain ⟨c, hc⟩ : ∃ c, es[k]? = some c := ⟨_, List.getElem?_eq_getElem hk⟩
    rw [hc, Option.getD_some, show oInt c = eInt c from rfl]
    generalize hy : nd l c = y
    obtain ⟨a1, a2, a3, a4, a5, a6, a7, a8, a9, a10⟩ := y
    have hst := hstep k c hc
    rw [hy] at hst
    have hkk := hkl k
    have turn0 : isHeir ⟨x1, x2, x3⟩ ⟨a1, a2, a3, a4, a5, a6, a7, a8, a9, a10⟩ = false → ks (k + 1) = ks k := fun h => by rw [hst, h]; simp
    have turn1 : isHeir ⟨x1, x2, x3⟩ ⟨a1, a2, a3, a4, a5, a6, a7, a8, a9, a10⟩ = true → ks (k + 1) = ks k ++ [c] := fun h => by rw [hst, h]; simp
    clear hst hstep hit hy
    (with_reducible ((conv => whnf); (conv => congr <;> reduce); repeat ((first | refine hK ?_ | refine sK ?_); (conv => whnf); (conv => congr <;> reduce))))
    refine BodyK.mk rfl ?_; (with_reducible ((conv => whnf); (conv => congr <;> reduce); repeat ((first | refine hK ?_ | refine sK ?_); (conv => whnf); (conv => congr <;> reduce))))
    by_cases e1 : a2 = x2
    · by_cases e2 : a3 = x1
      · have h0 := turn1 (by unfold isHeir; rw [decide_eq_true e1, decide_eq_true e2]; rfl)
        repeat' (first
    | (first
    | ((with_reducible show IfK _ _ _ _); first | refine IfK.ff ?_ | refine IfK.tt ?_ | refine IfK.no (by first | rfl | assumption | exact nfA | exact ntA | ((try simp only [castN]); first | simp [eq_true e1, eq_true e2] <;> omega)) ?_ | refine IfK.yes (by first | rfl | assumption | exact nfA | exact ntA | ((try simp only [castN]); first | simp [eq_true e1, eq_true e2] <;> omega)) ?_)
    | ((with_reducible show NeedK _ _ _ _); refine nK ?_)
    | ((with_reducible show DrawK _ _ _ _); refine dK ?_)
    | ((with_reducible show ElemK _ _ _ _ _); refine ElemK.mk (.agg [eStr x1, eStr x2, eInt x3]) rfl ?_)
    | ((with_reducible show AppK _ _ _ _ _ _ _ _ _ _); refine AppK.mk ((ks k).map oInt) [eInt c] ⟨rfl, (List.length_map ..).symm, rfl⟩ ⟨rfl, rfl, rfl⟩ rfl (by simp; omega) (by simp; omega) ?_)) <;> (with_reducible ((conv => whnf); (conv => congr <;> reduce); repeat ((first | refine hK ?_ | refine sK ?_); (conv => whnf); (conv => congr <;> reduce))))
    | ((with_reducible show (_ ∧ _) ∧ _ ∧ _); refine ⟨⟨rfl, rfl⟩, ?_, ?_⟩ <;> with_reducible ((conv => whnf) <;> repeat' (first | exact trivial | (refine And.intro ?_ ?_ <;> (conv => whnf))))))
        refine TurnK.mk ?_
        rw [h0]
        (refine ⟨⟨rfl, rfl⟩, ?_⟩; (with_reducible conv => whnf); (repeat' (first | (with_reducible exact trivial) | (with_reducible refine And.intro ?_ ?_ <;> with_reducible conv => whnf))); (all_goals try rfl))
        · simp
        · exact ⟨.refl rfl, rfl⟩
        · refine ⟨?_, noRef_ints _⟩
          rw [List.map_append]; exact .refl (by rw [← List.map_append]; exact noRef_ints _)
      · by_cases e3 : a2 = x1
        · have h0 := turn1 (by unfold isHeir; rw [decide_eq_true e1, decide_eq_true e3, Bool.or_true]; rfl)
          repeat' (first
    | (first
    | ((with_reducible show IfK _ _ _ _); first | refine IfK.ff ?_ | refine IfK.tt ?_ | refine IfK.no (by first | rfl | assumption | exact nfA | exact ntA | ((try simp only [castN]); first | simp [eq_true e1, eq_false e2, eq_true e3] <;> omega)) ?_ | refine IfK.yes (by first | rfl | assumption | exact nfA | exact ntA | ((try simp only [castN]); first | simp [eq_true e1, eq_false e2, eq_true e3] <;> omega)) ?_)
    | ((with_reducible show NeedK _ _ _ _); refine nK ?_)
    | ((with_reducible show DrawK _ _ _ _); refine dK ?_)
    | ((with_reducible show ElemK _ _ _ _ _); refine ElemK.mk (.agg [eStr x1, eStr x2, eInt x3]) rfl ?_)
    | ((with_reducible show AppK _ _ _ _ _ _ _ _ _ _); refine AppK.mk ((ks k).map oInt) [eInt c] ⟨rfl, (List.length_map ..).symm, rfl⟩ ⟨rfl, rfl, rfl⟩ rfl (by simp; omega) (by simp; omega) ?_)) <;> (with_reducible ((conv => whnf); (conv => congr <;> reduce); repeat ((first | refine hK ?_ | refine sK ?_); (conv => whnf); (conv => congr <;> reduce))))
    | ((with_reducible show (_ ∧ _) ∧ _ ∧ _); refine ⟨⟨rfl, rfl⟩, ?_, ?_⟩ <;> with_reducible ((conv => whnf) <;> repeat' (first | exact trivial | (refine And.intro ?_ ?_ <;> (conv => whnf))))))
          refine TurnK.mk ?_
          rw [h0]
          (refine ⟨⟨rfl, rfl⟩, ?_⟩; (with_reducible conv => whnf); (repeat' (first | (with_reducible exact trivial) | (with_reducible refine And.intro ?_ ?_ <;> with_reducible conv => whnf))); (all_goals try rfl))
          · simp
          · exact ⟨.refl rfl, rfl⟩
          · refine ⟨?_, noRef_ints _⟩
            rw [List.map_append]; exact .refl (by rw [← List.map_append]; exact noRef_ints _)
        · have h0 := turn0 (by unfold isHeir; rw [decide_eq_true e1, decide_eq_false e2, decide_eq_false e3]; rfl)
          repeat' (first
    | (first
    | ((with_reducible show IfK _ _ _ _); first | refine IfK.ff ?_ | refine IfK.tt ?_ | refine IfK.no (by first | rfl | assumption | exact nfA | exact ntA | ((try simp only [castN]); first | simp [eq_true e1, eq_false e2, eq_false e3] <;> omega)) ?_ | refine IfK.yes (by first | rfl | assumption | exact nfA | exact ntA | ((try simp only [castN]); first | simp [eq_true e1, eq_false e2, eq_false e3] <;> omega)) ?_)
    | ((with_reducible show NeedK _ _ _ _); refine nK ?_)
    | ((with_reducible show DrawK _ _ _ _); refine dK ?_)
    | ((with_reducible show ElemK _ _ _ _ _); refine ElemK.mk (.agg [eStr x1, eStr x2, eInt x3]) rfl ?_)) <;> (with_reducible ((conv => whnf); (conv => congr <;> reduce); repeat ((first | refine hK ?_ | refine sK ?_); (conv => whnf); (conv => congr <;> reduce))))
    | ((with_reducible show (_ ∧ _) ∧ _ ∧ _); refine ⟨⟨rfl, rfl⟩, ?_, ?_⟩ <;> with_reducible ((conv => whnf) <;> repeat' (first | exact trivial | (refine And.intro ?_ ?_ <;> (conv => whnf))))))
          refine TurnK.mk ?_
          rw [h0]
          (refine ⟨⟨rfl, rfl⟩, ?_⟩; (with_reducible conv => whnf); (repeat' (first | (with_reducible exact trivial) | (with_reducible refine And.intro ?_ ?_ <;> with_reducible conv => whnf))); (all_goals try rfl))
          · exact ⟨.refl rfl, rfl⟩
          · exact ⟨.refl (noRef_ints _), noRef_ints _⟩
    · have h0 := turn0 (by unfold isHeir; rw [decide_eq_false e1]; rfl)
      repeat' (first
    | (first
    | ((with_reducible show IfK _ _ _ _); first | refine IfK.ff ?_ | refine IfK.tt ?_ | refine IfK.no (by first | rfl | assumption | exact nfA | exact ntA | ((try simp only [castN]); first | simp [eq_false e1] <;> omega)) ?_ | refine IfK.yes (by first | rfl | assumption | exact nfA | exact ntA | ((try simp only [castN]); first | simp [eq_false e1] <;> omega)) ?_)
    | ((with_reducible show NeedK _ _ _ _); refine nK ?_)
    | ((with_reducible show DrawK _ _ _ _); refine dK ?_)
    | ((with_reducible show ElemK _ _ _ _ _); refine ElemK.mk (.agg [eStr x1, eStr x2, eInt x3]) rfl ?_)) <;> (with_reducible ((conv => whnf); (conv => congr <;> reduce); repeat ((first | refine hK ?_ | refine sK ?_); (conv => whnf); (conv => congr <;> reduce))))
    | ((with_reducible show (_ ∧ _) ∧ _ ∧ _); refine ⟨⟨rfl, rfl⟩, ?_, ?_⟩ <;> with_reducible ((conv => whnf) <;> repeat' (first | exact trivial | (refine And.intro ?_ ?_ <;> (conv => whnf))))))
      refine TurnK.mk ?_
      rw [h0]
      (refine ⟨⟨rfl, rfl⟩, ?_⟩; (with_reducible conv => whnf); (repeat' (first | (with_reducible exact trivial) | (with_reducible refine And.intro ?_ ?_ <;> with_reducible conv => whnf))); (all_goals try rfl))
      · exact ⟨.refl rfl, rfl⟩
      · exact ⟨.refl (noRef_ints _), noRef_ints _⟩
  · (with_reducible ((conv => whnf); (conv => congr <;> reduce); repeat ((first | refine hK ?_ | refine sK ?_); (conv => whnf); (conv => congr <;> reduce))))
    have hke : ks es.length = es.filter fun c => isHeir ⟨x1, x2, x3⟩ (nd l c) := by rw [hks]; show List.filter _ (es.take es.length) = _; rw [List.take_length]
    rw [← hke]
    refine ⟨⟨rfl, rfl⟩, ?_, ?_⟩ <;> with_reducible ((conv => whnf) <;> repeat' (first | exact trivial | (refine And.intro ?_ ?_ <;> (conv => whnf))))
    all_goals exact frz_ints rfl rfl rfl rfl
end Go.Proofs.Heir
end
section
set_option linter.unusedSimpArgs false
set_option linter.unusedVariables false
namespace Go.Proofs.Heir
open Go Go.Am Go.RowKit Go.Lib
set_option maxRecDepth 100000
structure DueM where
  node : Int
  at' : Int
  deriving DecidableEq
@[reducible] def eDue (x : DueM) : AV := .agg [eInt x.node, eInt 9, eInt x.at', eStr ⟨#[]⟩, eBool false, eBool false, eStr ⟨#[]⟩, eStr ⟨#[]⟩, eInt 0, eInt 0, eBool false]
def oDue (x : DueM) : AV := eDue x
@[reducible] def eDues (l : List DueM) : AV := .sl 11 (l.map oDue)
@[reducible] def rDues (l : List DueM) : MS := .live 11 (l.map oDue) false
theorem noRef_dues (l : List DueM) : noRefL (l.map oDue) = true := noRefL_map oDue (fun _ => rfl) l
theorem due_get {l : List DueM} {k : Nat} {x : DueM} (h : l[k]? = some x) : (l.map oDue)[k]? = some (eDue x) := by rw [List.getElem?_map, h]; rfl
theorem frz_dues {m : ML} {fz : Nat → Bool} {tab : List (Nat × Nat)} {n t len : Nat} {ro : Bool} {rows : List AV} {l : List DueM} (h1 : lkM m t = .live 11 rows ro) (h2 : fz t = true) (h3 : rows = l.map oDue) (h4 : len = l.length) : FrzK m fz (MF tab fz m n) (eDues l) t 0 len := by
  subst h3; subst h4
  have e : (l.map oDue).length = l.length := List.length_map ..
  exact .cut h1 h2 (by omega) (by rw [List.drop_zero, List.take_of_length_le (by omega)]) (noRef_dues l)
def dueOf (l : List NodeM) (d : DeskM) (c : Int) : List DueM := if fateD (nd l c) d = -1 then [] else [⟨c, fateD (nd l c) d⟩]
def triesU (f : ForM) (n : Int) (d : DeskM) : List DueM := (elemsU f.nodes (allU f n)).flatMap (dueOf f.nodes d)
theorem dueOf_len (l : List NodeM) (d : DeskM) : ∀ cs : List Int, (cs.flatMap (dueOf l d)).length ≤ cs.length
  | [] => Nat.le_refl _
  | c :: r => by
    have := dueOf_len l d r
    rw [List.flatMap_cons, List.length_append, List.length_cons]
    have h2 : (dueOf l d c).length ≤ 1 := by unfold dueOf; split <;> simp
    omega
theorem f17_ok (f : ForM) (hs : SmallN f.nodes) (n : Int) (d : DeskM) (hd : SmallD d) : FnOK Tryz.prog 17 [] [eFor f, eInt n, eDesk d] [] (eDues (triesU f n d)) := by
  have h50 := f50_ok f n
  have hit := each_it' f hs n
  obtain ⟨es, hes⟩ : ∃ es, es = elemsU f.nodes (allU f n) := ⟨_, rfl⟩
  rw [← hes] at hit
  unfold triesU
  rw [← hes]
  have hel : es.length ≤ 60 := by
    rw [hes]; unfold elemsU
    exact Nat.le_trans (List.length_filter_le _ _) (Nat.le_trans allU_len hs.len)
  obtain ⟨l, m⟩ := f
  simp only at hit hel ⊢
  obtain ⟨ks, hks⟩ : ∃ ks : Nat → List DueM, ks = fun k => (es.take k).flatMap (dueOf l d) := ⟨_, rfl⟩
  have hkl : ∀ k, (ks k).length ≤ 60 := fun k => by
    rw [hks]; exact Nat.le_trans (dueOf_len _ _ _) (by rw [List.length_take]; omega)
  have hk0 : ks 0 = [] := by rw [hks]; rfl
  have hke : ks es.length = es.flatMap (dueOf l d) := by rw [hks]; show List.flatMap _ (es.take es.length) = _; rw [List.take_length]
  have hstep : ∀ (k : Nat) (c : Int), es[k]? = some c → ks (k + 1) = ks k ++ dueOf l d c := fun k c hc => by
    rw [hks]; show ((es.take (k + 1)).flatMap _) = _
    rw [List.take_succ, hc, List.flatMap_append]
    congr 1
    show List.flatMap _ [c] = _
    rw [List.flatMap_cons]; simp
  rw [← hke]
  have h49 := fun x => f49_ok x d hd
  unfold dueOf at hstep
  obtain ⟨d1, d2, d3, d4⟩ := d
  refine FnOK.startC (rvs := [.tmp 6]) G G_good Tryz.func17 rfl Tryz.ntmps17 rfl rfl ?_; delta List.toArray; (with_reducible ((conv => whnf); (conv => congr <;> reduce); repeat ((first | refine hK ?_ | refine sK ?_); (conv => whnf); (conv => congr <;> reduce))))
  refine CallK.val [] h50 c50 ⟨⟨rfl, rfl, trivial⟩, rfl, trivial⟩ rfl rfl rfl ?_; (with_reducible ((conv => whnf); (conv => congr <;> reduce); repeat ((first | refine hK ?_ | refine sK ?_); (conv => whnf); (conv => congr <;> reduce))))
  repeat' (first
    | (first
    | ((with_reducible show IfK _ _ _ _); first | refine IfK.ff ?_ | refine IfK.tt ?_ | refine IfK.no (by first | rfl | assumption | exact nfA | exact ntA | ((try simp only [castN]); first | simp [] <;> omega)) ?_ | refine IfK.yes (by first | rfl | assumption | exact nfA | exact ntA | ((try simp only [castN]); first | simp [] <;> omega)) ?_)
    | ((with_reducible show NeedK _ _ _ _); refine nK ?_)
    | ((with_reducible show DrawK _ _ _ _); refine dK ?_)) <;> (with_reducible ((conv => whnf); (conv => congr <;> reduce); repeat ((first | refine hK ?_ | refine sK ?_); (conv => whnf); (conv => congr <;> reduce))))
    | ((with_reducible show (_ ∧ _) ∧ _ ∧ _); refine ⟨⟨rfl, rfl⟩, ?_, ?_⟩ <;> with_reducible ((conv => whnf) <;> repeat' (first | exact trivial | (refine And.intro ?_ ?_ <;> (conv => whnf))))))
  refine LoopK.ghostRow 7 70 77 11 0 0 (.lit (.slice none 0 0)) (.own 77 0 0) rfl rfl rfl rfl rfl rfl ?_
  refine LoopK.range G G_good 2 [(5, .ptr 1 0 0), (7, .ptr 0 0 0), (13, .clo (.func 79) [] [.fptr (eFor ⟨l, m⟩) 0, .fptr (eInt n) 0])]
    (fun k => [(0, .live 1 [.own 77 0 (ks k).length] false), (1, .live 4 [eDesk ⟨d1, d2, d3, d4⟩] false), (77, rDues (ks k))])
    hit c79 ?_ rfl ⟨⟨rfl, rfl⟩, rfl⟩ (fun _ _ => rfl) (fun _ _ => rfl) ⟨⟨rfl, rfl⟩, rfl, rfl⟩ ?_ ?_
  · rw [hk0]
    (refine ⟨⟨rfl, rfl⟩, ?_⟩; (with_reducible conv => whnf); (repeat' (first | (with_reducible exact trivial) | (with_reducible refine And.intro ?_ ?_ <;> with_reducible conv => whnf))); (all_goals try rfl))
    · exact ⟨⟨rfl, rfl⟩, trivial⟩
    · exact ⟨.refl rfl, rfl⟩
    · show ObjK (MF _ _ _ 12) [] []
      exact ⟨.refl rfl, rfl⟩
  · intro k hk
    obtain ⟨c, hc⟩ : ∃ c, es[k]? = some c := ⟨_, List.getElem?_eq_getElem hk⟩
    rw [hc, Option.getD_some, show oInt c = eInt c from rfl]
    generalize hy : nd l c = y
    have hst := hstep k c hc
    rw [hy] at hst
    have hkk := hkl k
    have h49y := h49 y
    obtain ⟨a1, a2, a3, a4, a5, a6, a7, a8, a9, a10⟩ := y
    clear hstep hit hy h49 hes hks hke
    generalize fateD ⟨a1, a2, a3, a4, a5, a6, a7, a8, a9, a10⟩ ⟨d1, d2, d3, d4⟩ = at' at hst h49y
    (with_reducible ((conv => whnf); (conv => congr <;> reduce); repeat ((first | refine hK ?_ | refine sK ?_); (conv => whnf); (conv => congr <;> reduce))))
    refine BodyK.mk rfl ?_; (with_reducible ((conv => whnf); (conv => congr <;> reduce); repeat ((first | refine hK ?_ | refine sK ?_); (conv => whnf); (conv => congr <;> reduce))))
    refine ElemK.mk (.agg [.sl 3 (d1.map oDef), .sl 2 (d2.map oWait), eInt d3, eBool d4]) rfl ?_; (with_reducible ((conv => whnf); (conv => congr <;> reduce); repeat ((first | refine hK ?_ | refine sK ?_); (conv => whnf); (conv => congr <;> reduce))))
    repeat' (first
    | (first
    | ((with_reducible show IfK _ _ _ _); first | refine IfK.ff ?_ | refine IfK.tt ?_ | refine IfK.no (by first | rfl | assumption | exact nfA | exact ntA | ((try simp only [castN]); first | simp [] <;> omega)) ?_ | refine IfK.yes (by first | rfl | assumption | exact nfA | exact ntA | ((try simp only [castN]); first | simp [] <;> omega)) ?_)
    | ((with_reducible show NeedK _ _ _ _); refine nK ?_)
    | ((with_reducible show DrawK _ _ _ _); refine dK ?_)
    | ((with_reducible show CallK _ _ 49 _ _ _ _); refine CallK.lit [] h49y c49 ⟨⟨rfl, rfl, rfl, rfl, rfl, rfl, rfl, rfl, rfl, rfl, trivial⟩, ⟨rfl, rfl, rfl, rfl, trivial⟩, trivial⟩ rfl rfl ?_)) <;> (with_reducible ((conv => whnf); (conv => congr <;> reduce); repeat ((first | refine hK ?_ | refine sK ?_); (conv => whnf); (conv => congr <;> reduce))))
    | ((with_reducible show (_ ∧ _) ∧ _ ∧ _); refine ⟨⟨rfl, rfl⟩, ?_, ?_⟩ <;> with_reducible ((conv => whnf) <;> repeat' (first | exact trivial | (refine And.intro ?_ ?_ <;> (conv => whnf))))))
    by_cases e : at' = -1
    · rw [if_pos e, List.append_nil] at hst
      repeat' (first
    | (first
    | ((with_reducible show IfK _ _ _ _); first | refine IfK.ff ?_ | refine IfK.tt ?_ | refine IfK.no (by first | rfl | assumption | exact nfA | exact ntA | ((try simp only [castN]); first | simp [eq_true e] <;> omega)) ?_ | refine IfK.yes (by first | rfl | assumption | exact nfA | exact ntA | ((try simp only [castN]); first | simp [eq_true e] <;> omega)) ?_)
    | ((with_reducible show NeedK _ _ _ _); refine nK ?_)
    | ((with_reducible show DrawK _ _ _ _); refine dK ?_)) <;> (with_reducible ((conv => whnf); (conv => congr <;> reduce); repeat ((first | refine hK ?_ | refine sK ?_); (conv => whnf); (conv => congr <;> reduce))))
    | ((with_reducible show (_ ∧ _) ∧ _ ∧ _); refine ⟨⟨rfl, rfl⟩, ?_, ?_⟩ <;> with_reducible ((conv => whnf) <;> repeat' (first | exact trivial | (refine And.intro ?_ ?_ <;> (conv => whnf))))))
      refine TurnK.mk ?_
      rw [hst]
      (refine ⟨⟨rfl, rfl⟩, ?_⟩; (with_reducible conv => whnf); (repeat' (first | (with_reducible exact trivial) | (with_reducible refine And.intro ?_ ?_ <;> with_reducible conv => whnf))); (all_goals try rfl))
      · exact ⟨.refl rfl, rfl⟩
      · exact ⟨.refl (noRef_dues _), noRef_dues _⟩
    · rw [if_neg e] at hst
      repeat' (first
    | (first
    | ((with_reducible show IfK _ _ _ _); first | refine IfK.ff ?_ | refine IfK.tt ?_ | refine IfK.no (by first | rfl | assumption | exact nfA | exact ntA | ((try simp only [castN]); first | simp [eq_false e] <;> omega)) ?_ | refine IfK.yes (by first | rfl | assumption | exact nfA | exact ntA | ((try simp only [castN]); first | simp [eq_false e] <;> omega)) ?_)
    | ((with_reducible show NeedK _ _ _ _); refine nK ?_)
    | ((with_reducible show DrawK _ _ _ _); refine dK ?_)
    | ((with_reducible show AppK _ _ _ _ _ _ _ _ _ _); refine AppK.mk ((ks k).map oDue) [eDue ⟨c, at'⟩] ⟨rfl, (List.length_map ..).symm, rfl⟩ ⟨rfl, rfl, rfl⟩ rfl (by simp; omega) (by simp; omega) ?_)) <;> (with_reducible ((conv => whnf); (conv => congr <;> reduce); repeat ((first | refine hK ?_ | refine sK ?_); (conv => whnf); (conv => congr <;> reduce))))
    | ((with_reducible show (_ ∧ _) ∧ _ ∧ _); refine ⟨⟨rfl, rfl⟩, ?_, ?_⟩ <;> with_reducible ((conv => whnf) <;> repeat' (first | exact trivial | (refine And.intro ?_ ?_ <;> (conv => whnf))))))
      trace_state
      refine TurnK.mk ?_
      rw [hst]
      (refine ⟨⟨rfl, rfl⟩, ?_⟩; (with_reducible conv => whnf); (repeat' (first | (with_reducible exact trivial) | (with_reducible refine And.intro ?_ ?_ <;> with_reducible conv => whnf))); (all_goals try rfl))
      · simp
      · exact ⟨.refl rfl, rfl⟩
      · refine ⟨?_, noRef_dues _⟩
        rw [List.map_append]; exact .refl (by rw [← List.map_append]; exact noRef_dues _)
  · (with_reducible ((conv => whnf); (conv => congr <;> reduce); repeat ((first | refine hK ?_ | refine sK ?_); (conv => whnf); (conv => congr <;> reduce))))
    refine ⟨⟨rfl, rfl⟩, ?_, ?_⟩ <;> with_reducible ((conv => whnf) <;> repeat' (first | exact trivial | (refine And.intro ?_ ?_ <;> (conv => whnf))))
    all_goals exact frz_dues rfl rfl rfl rfl
end Go.Proofs.Heir
end
section
set_option linter.unusedSimpArgs false
set_option linter.unusedVariables false
namespace Go.Proofs.Heir
open Go Go.Am Go.RowKit Go.Lib
set_option maxRecDepth 100000
def preU (l : List NodeM) (m : Nat) (P : List Int) (cs : List Int) : List Int := P ++ cs.flatMap (U.ordN l m)
theorem preU_step (l : List NodeM) (m : Nat) (P : List Int) {cs : List Int} {j : Nat} {c : Int} (h : cs[j]? = some c) : preU l m P (cs.take (j + 1)) = preU l m P (cs.take j) ++ U.ordN l m c := by
  unfold preU
  rw [take_snocI h, List.flatMap_append]; simp
theorem preU_len (l : List NodeM) (m : Nat) (P : List Int) (cs : List Int) (j : Nat) : (preU l m P (cs.take j)).length ≤ (preU l m P cs).length := by
  unfold preU
  conv => rhs; rw [← List.take_append_drop j cs]
  rw [List.flatMap_append]; simp
set_option maxHeartbeats 8000000 in
theorem f81_ok (f : ForM) (hs : SmallN f.nodes) (T : U.Tree f.nodes) : ∀ (m : Nat) (k : Nat) (x : NodeM), f.nodes[k]? = some x → f.nodes.length + 1 ≤ m + (U.wayN f.nodes k).length → FnOK Tryz.prog 81 [] [eFor f, eInt k] [] (eInts (U.ordN f.nodes m k)) := by
  have hl := hs.len
  intro m
  induction m with
  | zero => intro k x hx hm; have := U.way_len (l := f.nodes) k; omega
  | succ m ih =>
    intro k x hx hm
    have htk := there_get hx
    have hnk := nd_get hx
    have h7 := hs.kids x (List.mem_of_getElem? hx)
    have hkid := T.kid k htk
    have hway := fun c => U.way_kid T (n := (k : Int)) (k := c) htk
    have hol := U.ord_len T (m + 1) htk
    rw [hnk] at hkid hway
    have ihc : ∀ c ∈ chU x, FnOK Tryz.prog 81 [] [eFor f, eInt c] [] (eInts (U.ordN f.nodes m c)) := fun c hc => by
      obtain ⟨i, y, rfl, hy, _⟩ := there_iff.1 (hkid c hc).1
      exact ih i y hy (by rw [hway _ hc]; simp; omega)
    obtain ⟨P, hP⟩ : ∃ P, P = (k : Int) :: (if x.under = -1 then [] else U.ordN f.nodes m x.under) := ⟨_, rfl⟩
    have hoe : U.ordN f.nodes (m + 1) k = preU f.nodes m P x.kids := by
      unfold preU; rw [U.ordN, hnk, hP]; unfold chU
      split <;> simp
    rw [hoe] at hol ⊢
    have hpl := fun j => preU_len f.nodes m P x.kids j
    have hps := fun j c => @preU_step f.nodes m P x.kids j c
    have hp0 : preU f.nodes m P (x.kids.take 0) = P := by unfold preU; simp
    have ihk : ∀ c ∈ x.kids, FnOK Tryz.prog 81 [] [eFor f, eInt c] [] (eInts (U.ordN f.nodes m c)) := fun c hc => ihc c (by unfold chU; simp [hc])
    have ihu : x.under ≠ -1 → FnOK Tryz.prog 81 [] [eFor f, eInt x.under] [] (eInts (U.ordN f.nodes m x.under)) := fun h => ihc _ (by unfold chU; rw [if_neg h]; simp)
    have hPl : P.length ≤ 60 := by have := hpl 0; rw [hp0] at this; omega
    clear ih hway hm hkid hnk hoe ihc
    obtain ⟨l, mo⟩ := f
    obtain ⟨a1, a2, a3, a4, a5, a6, a7, a8, a9, a10⟩ := x
    simp only at hl hx h7 hol hpl hps ihk ihu hP hp0 ⊢
    have hlk : (a7.map oInt).length = a7.length := List.length_map ..
    apply CutK (P := Tryz.prog) (N := 51) (nL := 0) (F := True) (sl := [(1, eInt k), (2, .ptr 20 0 0), (5, .own 81 0 P.length), (6, eInt 0)]) (m := [(20, .live 2 [eFor ⟨l, mo⟩] false), (81, rInts P)])
    case main =>
      intro key
      refine FnOK.startC (rvs := [.tmp 4]) G G_good Tryz.func81 rfl Tryz.ntmps81 rfl rfl ?_; delta List.toArray; (with_reducible ((conv => whnf); (conv => congr <;> reduce); repeat ((first | refine hK ?_ | refine sK ?_); (conv => whnf); (conv => congr <;> reduce))))
      refine IdxK.mk k (eNode _) rfl (node_get hx) ?_; (with_reducible ((conv => whnf); (conv => congr <;> reduce); repeat ((first | refine hK ?_ | refine sK ?_); (conv => whnf); (conv => congr <;> reduce))))
      by_cases e9 : a9 = -1
      · rw [if_pos e9] at hP
        repeat' (first
    | (first
    | ((with_reducible show IfK _ _ _ _); first | refine IfK.ff ?_ | refine IfK.tt ?_ | refine IfK.no (by first | rfl | assumption | exact nfA | exact ntA | ((try simp only [castN]); first | simp [eq_true e9] <;> omega)) ?_ | refine IfK.yes (by first | rfl | assumption | exact nfA | exact ntA | ((try simp only [castN]); first | simp [eq_true e9] <;> omega)) ?_)
    | ((with_reducible show NeedK _ _ _ _); refine nK ?_)
    | ((with_reducible show DrawK _ _ _ _); refine dK ?_)) <;> (with_reducible ((conv => whnf); (conv => congr <;> reduce); repeat ((first | refine hK ?_ | refine sK ?_); (conv => whnf); (conv => congr <;> reduce))))
    | ((with_reducible show (_ ∧ _) ∧ _ ∧ _); refine ⟨⟨rfl, rfl⟩, ?_, ?_⟩ <;> with_reducible ((conv => whnf) <;> repeat' (first | exact trivial | (refine And.intro ?_ ?_ <;> (conv => whnf))))))
        refine LoopK.fit ?_ (key trivial)
        subst hP
        (refine ⟨⟨rfl, rfl⟩, ?_⟩; (with_reducible conv => whnf); (repeat' (first | (with_reducible exact trivial) | (with_reducible refine And.intro ?_ ?_ <;> with_reducible conv => whnf))); (all_goals try rfl))
        exact ⟨.refl (noRef_ints _), noRef_ints _⟩
      · rw [if_neg e9] at hP
        have ihu := ihu e9
        have hPL : P.length = (U.ordN l m a9).length + 1 := by rw [hP]; rfl
        have hbc : ((U.ordN l m a9).map oInt).length = (U.ordN l m a9).length := List.length_map ..
        repeat' (first
    | (first
    | ((with_reducible show IfK _ _ _ _); first | refine IfK.ff ?_ | refine IfK.tt ?_ | refine IfK.no (by first | rfl | assumption | exact nfA | exact ntA | ((try simp only [castN]); first | simp [eq_false e9] <;> omega)) ?_ | refine IfK.yes (by first | rfl | assumption | exact nfA | exact ntA | ((try simp only [castN]); first | simp [eq_false e9] <;> omega)) ?_)
    | ((with_reducible show NeedK _ _ _ _); refine nK ?_)
    | ((with_reducible show DrawK _ _ _ _); refine dK ?_)
    | ((with_reducible show IdxK _ _ _ _ _); refine IdxK.mk k (eNode _) rfl (node_get hx) ?_)
    | ((with_reducible show CallK _ _ 81 _ _ _ _); refine CallK.val [] ihu c81 ⟨⟨rfl, rfl, trivial⟩, rfl, trivial⟩ rfl rfl rfl ?_)
    | ((with_reducible show AppK _ _ _ _ _ _ _ _ _ _); refine AppK.mk [eInt k] ((U.ordN l m a9).map oInt) ⟨rfl, rfl, rfl⟩ ⟨rfl, rfl, rfl⟩ (one_ints _) (by simp; omega) (by simp; omega) ?_)) <;> (with_reducible ((conv => whnf); (conv => congr <;> reduce); repeat ((first | refine hK ?_ | refine sK ?_); (conv => whnf); (conv => congr <;> reduce))))
    | ((with_reducible show (_ ∧ _) ∧ _ ∧ _); refine ⟨⟨rfl, rfl⟩, ?_, ?_⟩ <;> with_reducible ((conv => whnf) <;> repeat' (first | exact trivial | (refine And.intro ?_ ?_ <;> (conv => whnf))))))
        refine LoopK.fit ?_ (key trivial)
        subst hP
        (refine ⟨⟨rfl, rfl⟩, ?_⟩; (with_reducible conv => whnf); (repeat' (first | (with_reducible exact trivial) | (with_reducible refine And.intro ?_ ?_ <;> with_reducible conv => whnf))); (all_goals try rfl))
        · simp
        · exact ⟨.refl (noRef_ints _), noRef_ints _⟩
    case rest =>
      intro _
      clear hP ihu
      refine LoopK.use G G_good (fun (j : Nat) => [(1, eInt k), (2, .ptr 20 0 0), (5, .own 81 0 (preU l m P (a7.take j)).length), (6, eInt j)]) (fun j => [(20, .live 2 [eFor ⟨l, mo⟩] false), (81, rInts (preU l m P (a7.take j)))])
        (fun j => j ≤ a7.length) (fun j => a7.length - j) 0 (Nat.zero_le _)
        (by rw [hp0]; exact ⟨⟨rfl, rfl⟩, ⟨rfl, ⟨rfl, rfl⟩, ⟨rfl, rfl⟩, rfl, trivial⟩, ⟨⟨rfl, rfl, trivial⟩, trivial⟩, ⟨.refl (noRef_ints _), noRef_ints _⟩, trivial⟩) ?_
      intro j hj
      (with_reducible ((conv => whnf); (conv => congr <;> reduce); repeat ((first | refine hK ?_ | refine sK ?_); (conv => whnf); (conv => congr <;> reduce))))
      refine IdxK.mk k (eNode _) rfl (node_get hx) ?_; (with_reducible ((conv => whnf); (conv => congr <;> reduce); repeat ((first | refine hK ?_ | refine sK ?_); (conv => whnf); (conv => congr <;> reduce))))
      refine IfK.mk (fun h1 => ?_) (fun h1 => ?_) <;> (try simp only [castN] at h1) <;> (with_reducible ((conv => whnf); (conv => congr <;> reduce); repeat ((first | refine hK ?_ | refine sK ?_); (conv => whnf); (conv => congr <;> reduce))))
      · have hj' : j < a7.length := by simp only [decide_eq_true_eq] at h1; omega
        obtain ⟨c, hc⟩ : ∃ c, a7[j]? = some c := ⟨_, List.getElem?_eq_getElem hj'⟩
        have ihc' := ihk c (List.mem_of_getElem? hc)
        have hst := hps j c hc
        have hl1 := hpl (j + 1)
        have hbl : ((preU l m P (a7.take j)).map oInt).length = (preU l m P (a7.take j)).length := List.length_map ..
        have hbc : ((U.ordN l m c).map oInt).length = (U.ordN l m c).length := List.length_map ..
        have hsum : (preU l m P (a7.take j)).length + (U.ordN l m c).length ≤ 60 := by rw [hst, List.length_append] at hl1; omega
        refine IdxK.mk k (eNode _) rfl (node_get hx) ?_; (with_reducible ((conv => whnf); (conv => congr <;> reduce); repeat ((first | refine hK ?_ | refine sK ?_); (conv => whnf); (conv => congr <;> reduce))))
        refine IdxK.mk j (eInt c) rfl (int_get hc) ?_; (with_reducible ((conv => whnf); (conv => congr <;> reduce); repeat ((first | refine hK ?_ | refine sK ?_); (conv => whnf); (conv => congr <;> reduce))))
        refine CallK.val [] ihc' c81 ⟨⟨rfl, rfl, trivial⟩, rfl, trivial⟩ rfl rfl rfl ?_; (with_reducible ((conv => whnf); (conv => congr <;> reduce); repeat ((first | refine hK ?_ | refine sK ?_); (conv => whnf); (conv => congr <;> reduce))))
        refine AppK.mk ((preU l m P (a7.take j)).map oInt) ((U.ordN l m c).map oInt) ⟨rfl, hbl.symm, rfl⟩ ⟨rfl, rfl, rfl⟩ (one_ints _) (by simp; omega) (by simp; omega) ?_; (with_reducible ((conv => whnf); (conv => congr <;> reduce); repeat ((first | refine hK ?_ | refine sK ?_); (conv => whnf); (conv => congr <;> reduce))))
        refine dK ?_; (with_reducible ((conv => whnf); (conv => congr <;> reduce); repeat ((first | refine hK ?_ | refine sK ?_); (conv => whnf); (conv => congr <;> reduce))))
        refine nK ?_; (with_reducible ((conv => whnf); (conv => congr <;> reduce); repeat ((first | refine hK ?_ | refine sK ?_); (conv => whnf); (conv => congr <;> reduce))))
        refine NextK.mk (j + 1) (by omega) (by omega) ⟨⟨rfl, rfl⟩, ⟨rfl, ⟨rfl, rfl⟩, ⟨rfl, ?_⟩, by show ((j + 1 : Nat) : Int) = (j : Int) + 1; omega, trivial⟩, ⟨⟨rfl, rfl, trivial⟩, trivial⟩, ⟨?_, noRef_ints _⟩, trivial⟩
        · rw [hst]; simp
        · rw [hst, List.map_append]; exact .refl (by rw [← List.map_append]; exact noRef_ints _)
      · refine ⟨⟨rfl, rfl⟩, ?_, ?_⟩ <;> with_reducible ((conv => whnf) <;> repeat' (first | exact trivial | (refine And.intro ?_ ?_ <;> (conv => whnf))))
        have hjl : j = a7.length := by simp only [decide_eq_false_iff_not] at h1; omega
        subst hjl
        rw [List.take_length]
        exact frz_ints rfl rfl rfl rfl
end Go.Proofs.Heir
end
section
set_option linter.unusedSimpArgs false
set_option linter.unusedVariables false
namespace Go.Proofs.Heir
open Go Go.Am Go.RowKit Go.Lib
set_option maxRecDepth 100000
theorem elemsU_len (l : List NodeM) (ms : List Int) : (elemsU l ms).length ≤ ms.length := List.length_filter_le _ _
set_option maxHeartbeats 8000000 in
theorem f51_ok (f : ForM) (hs : SmallN f.nodes) (T : U.Tree f.nodes) (n : Nat) (x : NodeM) (hx : f.nodes[n]? = some x) : FnOK Tryz.prog 51 [] [eFor f, eInt n] [] (eInts (elemsU f.nodes (U.ordN f.nodes f.nodes.length n))) := by
  have htn := there_get hx
  have h81 := f81_ok f hs T f.nodes.length n x hx (U.ord_fuel T htn)
  have hol := U.ord_len T f.nodes.length htn
  have hl := hs.len
  have hth : ∀ c ∈ U.ordN f.nodes f.nodes.length n, thereN f.nodes c = true := fun c hc => (U.ord_way T _ n htn c hc).1
  obtain ⟨l, m⟩ := f
  simp only at h81 hol hl hth ⊢
  generalize U.ordN l l.length n = ms at h81 hol hth ⊢
  have hms : (ms.map oInt).length = ms.length := List.length_map ..
  have hlm : (l.map oNode).length = l.length := List.length_map ..
  refine FnOK.startC (rvs := [.tmp 4]) G G_good Tryz.func51 rfl Tryz.ntmps51 rfl rfl ?_; delta List.toArray; (with_reducible ((conv => whnf); (conv => congr <;> reduce); repeat ((first | refine hK ?_ | refine sK ?_); (conv => whnf); (conv => congr <;> reduce))))
  refine CallK.val [] h81 c81 ⟨⟨rfl, rfl, trivial⟩, rfl, trivial⟩ rfl rfl rfl ?_; (with_reducible ((conv => whnf); (conv => congr <;> reduce); repeat ((first | refine hK ?_ | refine sK ?_); (conv => whnf); (conv => congr <;> reduce))))
  repeat' (first
    | (first
    | ((with_reducible show IfK _ _ _ _); first | refine IfK.ff ?_ | refine IfK.tt ?_ | refine IfK.no (by first | rfl | assumption | exact nfA | exact ntA | ((try simp only [castN]); first | simp [] <;> omega)) ?_ | refine IfK.yes (by first | rfl | assumption | exact nfA | exact ntA | ((try simp only [castN]); first | simp [] <;> omega)) ?_)
    | ((with_reducible show NeedK _ _ _ _); refine nK ?_)
    | ((with_reducible show DrawK _ _ _ _); refine dK ?_)) <;> (with_reducible ((conv => whnf); (conv => congr <;> reduce); repeat ((first | refine hK ?_ | refine sK ?_); (conv => whnf); (conv => congr <;> reduce))))
    | ((with_reducible show (_ ∧ _) ∧ _ ∧ _); refine ⟨⟨rfl, rfl⟩, ?_, ?_⟩ <;> with_reducible ((conv => whnf) <;> repeat' (first | exact trivial | (refine And.intro ?_ ?_ <;> (conv => whnf))))))
  refine LoopK.ghost 5 51 1 rfl rfl ?_
  refine LoopK.use G G_good (fun (j : Nat) => [(2, .ptr 20 0 0), (5, .own 51 0 (elemsU l (ms.take j)).length), (6, eInts ms), (7, eInt j)]) (fun j => [(20, .live 2 [eFor ⟨l, m⟩] false), (51, rInts (elemsU l (ms.take j)))])
    (fun j => j ≤ ms.length) (fun j => ms.length - j) 0 (Nat.zero_le _)
    ⟨⟨rfl, rfl⟩, ⟨⟨rfl, rfl⟩, ⟨rfl, rfl⟩, rfl, rfl, trivial⟩, ⟨⟨rfl, rfl, trivial⟩, trivial⟩, ⟨.refl rfl, noRef_ints _⟩, trivial⟩ ?_
  intro j hj
  (with_reducible ((conv => whnf); (conv => congr <;> reduce); repeat ((first | refine hK ?_ | refine sK ?_); (conv => whnf); (conv => congr <;> reduce))))
  refine IfK.mk (fun h1 => ?_) (fun h1 => ?_) <;> (try simp only [castN] at h1) <;> (with_reducible ((conv => whnf); (conv => congr <;> reduce); repeat ((first | refine hK ?_ | refine sK ?_); (conv => whnf); (conv => congr <;> reduce))))
  · have hj' : j < ms.length := by simp only [decide_eq_true_eq] at h1; omega
    obtain ⟨c, hc⟩ : ∃ c, ms[j]? = some c := ⟨_, List.getElem?_eq_getElem hj'⟩
    obtain ⟨i, y, rfl, hy, hny⟩ := there_iff.1 (hth c (List.mem_of_getElem? hc))
    have hst := elemsU_step (l := l) hc
    rw [hny] at hst
    have hle := Nat.le_trans (elemsU_len l (ms.take j)) (by rw [List.length_take]; exact Nat.min_le_left j ms.length)
    obtain ⟨b1, b2, b3, b4, b5, b6, b7, b8, b9, b10⟩ := y
    refine IdxK.mk j (eInt (i : Int)) rfl (int_get hc) ?_; (with_reducible ((conv => whnf); (conv => congr <;> reduce); repeat ((first | refine hK ?_ | refine sK ?_); (conv => whnf); (conv => congr <;> reduce))))
    refine IdxK.mk i (eNode _) rfl (node_get hy) ?_; (with_reducible ((conv => whnf); (conv => congr <;> reduce); repeat ((first | refine hK ?_ | refine sK ?_); (conv => whnf); (conv => congr <;> reduce))))
    by_cases e : b1 = 1
    · rw [if_pos e] at hst
      repeat' (first
    | (first
    | ((with_reducible show IfK _ _ _ _); first | refine IfK.ff ?_ | refine IfK.tt ?_ | refine IfK.no (by first | rfl | assumption | exact nfA | exact ntA | ((try simp only [castN]); first | simp [eq_true e] <;> omega)) ?_ | refine IfK.yes (by first | rfl | assumption | exact nfA | exact ntA | ((try simp only [castN]); first | simp [eq_true e] <;> omega)) ?_)
    | ((with_reducible show NeedK _ _ _ _); refine nK ?_)
    | ((with_reducible show DrawK _ _ _ _); refine dK ?_)
    | ((with_reducible show IdxK _ _ _ _ _); refine IdxK.mk j (eInt (i : Int)) rfl (int_get hc) ?_)
    | ((with_reducible show AppK _ _ _ _ _ _ _ _ _ _); refine AppK.mk ((elemsU l (ms.take j)).map oInt) [eInt (i : Int)] ⟨rfl, (List.length_map ..).symm, rfl⟩ ⟨rfl, rfl, rfl⟩ rfl (by simp; omega) (by simp; omega) ?_)) <;> (with_reducible ((conv => whnf); (conv => congr <;> reduce); repeat ((first | refine hK ?_ | refine sK ?_); (conv => whnf); (conv => congr <;> reduce))))
    | ((with_reducible show (_ ∧ _) ∧ _ ∧ _); refine ⟨⟨rfl, rfl⟩, ?_, ?_⟩ <;> with_reducible ((conv => whnf) <;> repeat' (first | exact trivial | (refine And.intro ?_ ?_ <;> (conv => whnf))))))
      refine NextK.mk (j + 1) (by omega) (by omega) ⟨⟨rfl, rfl⟩, ⟨⟨rfl, rfl⟩, ⟨rfl, ?_⟩, rfl, by show ((j + 1 : Nat) : Int) = (j : Int) + 1; omega, trivial⟩, ⟨⟨rfl, rfl, trivial⟩, trivial⟩, ⟨?_, noRef_ints _⟩, trivial⟩
      · rw [hst]; simp
      · rw [hst, List.map_append]; exact .refl (by rw [← List.map_append]; exact noRef_ints _)
    · rw [if_neg e, List.append_nil] at hst
      repeat' (first
    | (first
    | ((with_reducible show IfK _ _ _ _); first | refine IfK.ff ?_ | refine IfK.tt ?_ | refine IfK.no (by first | rfl | assumption | exact nfA | exact ntA | ((try simp only [castN]); first | simp [eq_false e] <;> omega)) ?_ | refine IfK.yes (by first | rfl | assumption | exact nfA | exact ntA | ((try simp only [castN]); first | simp [eq_false e] <;> omega)) ?_)
    | ((with_reducible show NeedK _ _ _ _); refine nK ?_)
    | ((with_reducible show DrawK _ _ _ _); refine dK ?_)) <;> (with_reducible ((conv => whnf); (conv => congr <;> reduce); repeat ((first | refine hK ?_ | refine sK ?_); (conv => whnf); (conv => congr <;> reduce))))
    | ((with_reducible show (_ ∧ _) ∧ _ ∧ _); refine ⟨⟨rfl, rfl⟩, ?_, ?_⟩ <;> with_reducible ((conv => whnf) <;> repeat' (first | exact trivial | (refine And.intro ?_ ?_ <;> (conv => whnf))))))
      refine NextK.mk (j + 1) (by omega) (by omega) ⟨⟨rfl, rfl⟩, ⟨⟨rfl, rfl⟩, ⟨rfl, ?_⟩, rfl, by show ((j + 1 : Nat) : Int) = (j : Int) + 1; omega, trivial⟩, ⟨⟨rfl, rfl, trivial⟩, trivial⟩, ⟨?_, noRef_ints _⟩, trivial⟩
      · rw [hst]
      · rw [hst]; exact .refl (noRef_ints _)
  · refine ⟨⟨rfl, rfl⟩, ?_, ?_⟩ <;> with_reducible ((conv => whnf) <;> repeat' (first | exact trivial | (refine And.intro ?_ ?_ <;> (conv => whnf))))
    have hjl : j = ms.length := by simp only [decide_eq_false_iff_not] at h1; omega
    subst hjl
    rw [List.take_length]
    exact frz_ints rfl rfl rfl rfl
theorem f20_ok (f : ForM) (n : Nat) (x : NodeM) (hx : f.nodes[n]? = some x) (d : DeskM) (h : SmallD d) (hr : rightD d = true) : FnOK Tryz.prog 20 [] [eFor f, eInt n, eDesk d] [] (eInt (fateD x d)) := by
  have h52 := f52_ok d h x.name x.is
  obtain ⟨l, m⟩ := f
  obtain ⟨a1, a2, a3, a4, a5, a6, a7, a8, a9, a10⟩ := x
  unfold fateD findD
  rw [if_pos hr]
  obtain ⟨d1, d2, d3, d4⟩ := d
  simp only at h52 hx ⊢
  refine FnOK.startC (rvs := [.tmp 6]) G G_good Tryz.func20 rfl Tryz.ntmps20 rfl rfl ?_; delta List.toArray; (with_reducible ((conv => whnf); (conv => congr <;> reduce); repeat ((first | refine hK ?_ | refine sK ?_); (conv => whnf); (conv => congr <;> reduce))))
  refine IdxK.mk n (eNode _) rfl (node_get hx) ?_; (with_reducible ((conv => whnf); (conv => congr <;> reduce); repeat ((first | refine hK ?_ | refine sK ?_); (conv => whnf); (conv => congr <;> reduce))))
  by_cases e1 : a1 = 1
  · subst e1
    by_cases e2 : a10 = 0
    · subst e2
      rw [if_pos ⟨rfl, rfl⟩]
      repeat' (first
    | (first
    | ((with_reducible show IfK _ _ _ _); first | refine IfK.ff ?_ | refine IfK.tt ?_ | refine IfK.no (by first | rfl | assumption | exact nfA | exact ntA | ((try simp only [castN]); first | simp [] <;> omega)) ?_ | refine IfK.yes (by first | rfl | assumption | exact nfA | exact ntA | ((try simp only [castN]); first | simp [] <;> omega)) ?_)
    | ((with_reducible show NeedK _ _ _ _); refine nK ?_)
    | ((with_reducible show DrawK _ _ _ _); refine dK ?_)
    | ((with_reducible show CallK _ _ 52 _ _ _ _); refine CallK.lit [] h52 c52 ⟨⟨rfl, rfl, rfl, rfl, trivial⟩, rfl, rfl, trivial⟩ rfl rfl ?_)) <;> (with_reducible ((conv => whnf); (conv => congr <;> reduce); repeat ((first | refine hK ?_ | refine sK ?_); (conv => whnf); (conv => congr <;> reduce))))
    | ((with_reducible show (_ ∧ _) ∧ _ ∧ _); refine ⟨⟨rfl, rfl⟩, ?_, ?_⟩ <;> with_reducible ((conv => whnf) <;> repeat' (first | exact trivial | (refine And.intro ?_ ?_ <;> (conv => whnf))))))
    · rw [if_neg fun h => e2 h.2]
      repeat' (first
    | (first
    | ((with_reducible show IfK _ _ _ _); first | refine IfK.ff ?_ | refine IfK.tt ?_ | refine IfK.no (by first | rfl | assumption | exact nfA | exact ntA | ((try simp only [castN]); first | simp [e2] <;> omega)) ?_ | refine IfK.yes (by first | rfl | assumption | exact nfA | exact ntA | ((try simp only [castN]); first | simp [e2] <;> omega)) ?_)
    | ((with_reducible show NeedK _ _ _ _); refine nK ?_)
    | ((with_reducible show DrawK _ _ _ _); refine dK ?_)) <;> (with_reducible ((conv => whnf); (conv => congr <;> reduce); repeat ((first | refine hK ?_ | refine sK ?_); (conv => whnf); (conv => congr <;> reduce))))
    | ((with_reducible show (_ ∧ _) ∧ _ ∧ _); refine ⟨⟨rfl, rfl⟩, ?_, ?_⟩ <;> with_reducible ((conv => whnf) <;> repeat' (first | exact trivial | (refine And.intro ?_ ?_ <;> (conv => whnf))))))
  · rw [if_neg fun h => e1 h.1]
    repeat' (first
    | (first
    | ((with_reducible show IfK _ _ _ _); first | refine IfK.ff ?_ | refine IfK.tt ?_ | refine IfK.no (by first | rfl | assumption | exact nfA | exact ntA | ((try simp only [castN]); first | simp [e1] <;> omega)) ?_ | refine IfK.yes (by first | rfl | assumption | exact nfA | exact ntA | ((try simp only [castN]); first | simp [e1] <;> omega)) ?_)
    | ((with_reducible show NeedK _ _ _ _); refine nK ?_)
    | ((with_reducible show DrawK _ _ _ _); refine dK ?_)) <;> (with_reducible ((conv => whnf); (conv => congr <;> reduce); repeat ((first | refine hK ?_ | refine sK ?_); (conv => whnf); (conv => congr <;> reduce))))
    | ((with_reducible show (_ ∧ _) ∧ _ ∧ _); refine ⟨⟨rfl, rfl⟩, ?_, ?_⟩ <;> with_reducible ((conv => whnf) <;> repeat' (first | exact trivial | (refine And.intro ?_ ?_ <;> (conv => whnf))))))
end Go.Proofs.Heir
end
section
set_option linter.unusedSimpArgs false
set_option linter.unusedVariables false
namespace Go.Proofs.Heir
open Go Go.Am Go.RowKit Go.Lib
set_option maxRecDepth 100000
@[reducible] def vDue (a : DueM) : Value := .agg #[.int .i64 a.node, .int .i64 9, .int .i64 a.at', .string ⟨#[]⟩, .bool false, .bool false, .string ⟨#[]⟩, .string ⟨#[]⟩, .int .i64 0, .int .i64 0, .bool false]
theorem todo_eq (a b : Int) (w : World) : (Op.equalIn 9999 72 (.agg #[.int .i64 9, .int .i64 a, .string ⟨#[]⟩, .bool false, .bool false, .string ⟨#[]⟩, .string ⟨#[]⟩, .int .i64 0, .int .i64 0, .bool false]) (.agg #[.int .i64 9, .int .i64 b, .string ⟨#[]⟩, .bool false, .bool false, .string ⟨#[]⟩, .string ⟨#[]⟩, .int .i64 0, .int .i64 0, .bool false])).run Tryz.prog w = .ok (decide (a = b)) w := by
  have hS : Tryz.prog.underlying 72 = some (.struct (Tryz.prog.fieldsOf 72)) := by kernel_rfl
  have hp : Tryz.prog.stoodInHeld 72 = false := by kernel_rfl
  have u9 := Tryz.underlying9
  have a9 := Tryz.isAgg9
  have z9 := Tryz.sizeOf9
  have u3 := Tryz.underlying3
  have a3 := Tryz.isAgg3
  have z3 := Tryz.sizeOf3
  have u4 := Tryz.underlying4
  have a4 := Tryz.isAgg4
  have z4 := Tryz.sizeOf4
  rw [show (9999 : Nat) = 9998 + 1 from rfl, run_equalIn_agg w 9998 72 _ _ hS hp]
  simp only [Program.fieldsOf, Tryz.underlying72]
  go_simp
  by_cases h : a = b <;> simp [h]
theorem due_eq (a b : DueM) (w : World) : (Op.equalIn 10000 74 (vDue a) (vDue b)).run Tryz.prog w = .ok (decide (a = b)) w := by
  have hS : Tryz.prog.underlying 74 = some (.struct (Tryz.prog.fieldsOf 74)) := by kernel_rfl
  have hp : Tryz.prog.stoodInHeld 74 = false := by kernel_rfl
  have ht := todo_eq a.at' b.at' w
  have u72 := Tryz.underlying72
  have a72 := Tryz.isAgg72
  have z72 := Tryz.sizeOf72
  have u3 := Tryz.underlying3
  have a3 := Tryz.isAgg3
  have z3 := Tryz.sizeOf3
  rw [show (10000 : Nat) = 9999 + 1 from rfl, run_equalIn_agg w 9999 74 _ _ hS hp]
  simp only [Program.fieldsOf, Tryz.underlying74]
  go_simp
  obtain ⟨a1, a2⟩ := a
  obtain ⟨b1, b2⟩ := b
  simp only [DueM.mk.injEq]
  by_cases h1 : a1 = b1 <;> by_cases h2 : a2 = b2 <;> simp [h1, h2]
theorem due_neq (a b : DueM) (y z : Operand) (w : World) : ((do eqGuard .neq 74 y z (vDue a) (vDue b); binOp .neq 74 (vDue a) (vDue b) : Sem Value)).run Tryz.prog w = .ok (.bool (!decide (a = b))) w := by
  rw [Sem.run_bind, run_eqGuard_agg w .neq 74 y z _ _ (by kernel_rfl), Result.andThen_ok, run_neq_struct, due_eq]; rfl
set_option maxHeartbeats 8000000 in
theorem f21_ok (a b : List DueM) (ha : a.length ≤ 100000) : FnOK Tryz.prog 21 [] [eDues a, eDues b] [] (eBool (decide (a = b))) := by
  have hlm : (a.map oDue).length = a.length := List.length_map ..
  have hlm' : (b.map oDue).length = b.length := List.length_map ..
  refine FnOK.startC (rvs := [.tmp 4]) G G_good Tryz.func21 rfl Tryz.ntmps21 rfl rfl ?_; delta List.toArray; (with_reducible ((conv => whnf); (conv => congr <;> reduce); repeat ((first | refine hK ?_ | refine sK ?_); (conv => whnf); (conv => congr <;> reduce))))
  by_cases g1 : a.length = b.length
  · repeat' (first
    | (first
    | ((with_reducible show IfK _ _ _ _); first | refine IfK.ff ?_ | refine IfK.tt ?_ | refine IfK.no (by first | rfl | assumption | exact nfA | exact ntA | ((try simp only [castN]); first | simp [hlm, hlm', g1] <;> omega)) ?_ | refine IfK.yes (by first | rfl | assumption | exact nfA | exact ntA | ((try simp only [castN]); first | simp [hlm, hlm', g1] <;> omega)) ?_)
    | ((with_reducible show NeedK _ _ _ _); refine nK ?_)
    | ((with_reducible show DrawK _ _ _ _); refine dK ?_)) <;> (with_reducible ((conv => whnf); (conv => congr <;> reduce); repeat ((first | refine hK ?_ | refine sK ?_); (conv => whnf); (conv => congr <;> reduce))))
    | ((with_reducible show (_ ∧ _) ∧ _ ∧ _); refine ⟨⟨rfl, rfl⟩, ?_, ?_⟩ <;> with_reducible ((conv => whnf) <;> repeat' (first | exact trivial | (refine And.intro ?_ ?_ <;> (conv => whnf))))))
    refine LoopK.use G G_good (fun (k : Nat) => [(0, eDues a), (1, eDues b), (5, eInt k)]) (fun _ => []) (fun k => k ≤ a.length ∧ ∀ j, j < k → a[j]? = b[j]?) (fun k => a.length - k) 0 ⟨Nat.zero_le _, fun j hj => by omega⟩
      ⟨⟨rfl, rfl⟩, ⟨rfl, rfl, rfl, trivial⟩, trivial⟩ ?_
    intro k ⟨hk, hno⟩
    (with_reducible ((conv => whnf); (conv => congr <;> reduce); repeat ((first | refine hK ?_ | refine sK ?_); (conv => whnf); (conv => congr <;> reduce))))
    refine IfK.mk (fun h1 => ?_) (fun h1 => ?_) <;> (try simp only [castN] at h1) <;> (with_reducible ((conv => whnf); (conv => congr <;> reduce); repeat ((first | refine hK ?_ | refine sK ?_); (conv => whnf); (conv => congr <;> reduce))))
    · simp only [hlm, decide_eq_true_eq] at h1
      have hk' : k < a.length := by omega
      obtain ⟨⟨x1, x2⟩, hx⟩ : ∃ x, a[k]? = some x := ⟨_, List.getElem?_eq_getElem hk'⟩
      obtain ⟨⟨y1, y2⟩, hy⟩ : ∃ y, b[k]? = some y := ⟨_, List.getElem?_eq_getElem (by omega)⟩
      refine IdxK.mk k (eDue ⟨x1, x2⟩) rfl (due_get hx) ?_; (with_reducible ((conv => whnf); (conv => congr <;> reduce); repeat ((first | refine hK ?_ | refine sK ?_); (conv => whnf); (conv => congr <;> reduce))))
      refine IdxK.mk k (eDue ⟨y1, y2⟩) rfl (due_get hy) ?_; (with_reducible ((conv => whnf); (conv => congr <;> reduce); repeat ((first | refine hK ?_ | refine sK ?_); (conv => whnf); (conv => congr <;> reduce))))
      refine EqK.mk _ (fun y z w => due_neq ⟨x1, x2⟩ ⟨y1, y2⟩ y z w) ?_; (with_reducible ((conv => whnf); (conv => congr <;> reduce); repeat ((first | refine hK ?_ | refine sK ?_); (conv => whnf); (conv => congr <;> reduce))))
      by_cases e : (⟨x1, x2⟩ : DueM) = ⟨y1, y2⟩
      · repeat' (first
    | (first
    | ((with_reducible show IfK _ _ _ _); first | refine IfK.ff ?_ | refine IfK.tt ?_ | refine IfK.no (by first | rfl | assumption | exact nfA | exact ntA | ((try simp only [castN]); first | simp [e] <;> omega)) ?_ | refine IfK.yes (by first | rfl | assumption | exact nfA | exact ntA | ((try simp only [castN]); first | simp [e] <;> omega)) ?_)
    | ((with_reducible show NeedK _ _ _ _); refine nK ?_)
    | ((with_reducible show DrawK _ _ _ _); refine dK ?_)
    | ((with_reducible show NextK _ _); refine NextK.mk (k + 1) ⟨by omega, same_succ hno (by rw [hx, hy, e])⟩ (by omega) ⟨⟨rfl, rfl⟩, ⟨rfl, rfl, by show ((k + 1 : Nat) : Int) = (k : Int) + 1; omega, trivial⟩, trivial⟩)) <;> (with_reducible ((conv => whnf); (conv => congr <;> reduce); repeat ((first | refine hK ?_ | refine sK ?_); (conv => whnf); (conv => congr <;> reduce))))
    | ((with_reducible show (_ ∧ _) ∧ _ ∧ _); refine ⟨⟨rfl, rfl⟩, ?_, ?_⟩ <;> with_reducible ((conv => whnf) <;> repeat' (first | exact trivial | (refine And.intro ?_ ?_ <;> (conv => whnf))))))
      · rw [show decide (a = b) = false from decide_eq_false fun h => e (by rw [h] at hx; rw [hx] at hy; exact Option.some.inj hy)]
        repeat' (first
    | (first
    | ((with_reducible show IfK _ _ _ _); first | refine IfK.ff ?_ | refine IfK.tt ?_ | refine IfK.no (by first | rfl | assumption | exact nfA | exact ntA | ((try simp only [castN]); first | simp [e] <;> omega)) ?_ | refine IfK.yes (by first | rfl | assumption | exact nfA | exact ntA | ((try simp only [castN]); first | simp [e] <;> omega)) ?_)
    | ((with_reducible show NeedK _ _ _ _); refine nK ?_)
    | ((with_reducible show DrawK _ _ _ _); refine dK ?_)) <;> (with_reducible ((conv => whnf); (conv => congr <;> reduce); repeat ((first | refine hK ?_ | refine sK ?_); (conv => whnf); (conv => congr <;> reduce))))
    | ((with_reducible show (_ ∧ _) ∧ _ ∧ _); refine ⟨⟨rfl, rfl⟩, ?_, ?_⟩ <;> with_reducible ((conv => whnf) <;> repeat' (first | exact trivial | (refine And.intro ?_ ?_ <;> (conv => whnf))))))
    · have hkl : k = a.length := by simp only [hlm, decide_eq_false_iff_not] at h1; omega
      subst hkl
      rw [show decide (a = b) = true from decide_eq_true (list_same g1 hno)]
      repeat' (first
    | (first
    | ((with_reducible show IfK _ _ _ _); first | refine IfK.ff ?_ | refine IfK.tt ?_ | refine IfK.no (by first | rfl | assumption | exact nfA | exact ntA | ((try simp only [castN]); first | simp [hlm] <;> omega)) ?_ | refine IfK.yes (by first | rfl | assumption | exact nfA | exact ntA | ((try simp only [castN]); first | simp [hlm] <;> omega)) ?_)
    | ((with_reducible show NeedK _ _ _ _); refine nK ?_)
    | ((with_reducible show DrawK _ _ _ _); refine dK ?_)) <;> (with_reducible ((conv => whnf); (conv => congr <;> reduce); repeat ((first | refine hK ?_ | refine sK ?_); (conv => whnf); (conv => congr <;> reduce))))
    | ((with_reducible show (_ ∧ _) ∧ _ ∧ _); refine ⟨⟨rfl, rfl⟩, ?_, ?_⟩ <;> with_reducible ((conv => whnf) <;> repeat' (first | exact trivial | (refine And.intro ?_ ?_ <;> (conv => whnf))))))
  · rw [show decide (a = b) = false from decide_eq_false fun h => g1 (by rw [h])]
    repeat' (first
    | (first
    | ((with_reducible show IfK _ _ _ _); first | refine IfK.ff ?_ | refine IfK.tt ?_ | refine IfK.no (by first | rfl | assumption | exact nfA | exact ntA | ((try simp only [castN]); first | simp [hlm, hlm', g1] <;> omega)) ?_ | refine IfK.yes (by first | rfl | assumption | exact nfA | exact ntA | ((try simp only [castN]); first | simp [hlm, hlm', g1] <;> omega)) ?_)
    | ((with_reducible show NeedK _ _ _ _); refine nK ?_)
    | ((with_reducible show DrawK _ _ _ _); refine dK ?_)) <;> (with_reducible ((conv => whnf); (conv => congr <;> reduce); repeat ((first | refine hK ?_ | refine sK ?_); (conv => whnf); (conv => congr <;> reduce))))
    | ((with_reducible show (_ ∧ _) ∧ _ ∧ _); refine ⟨⟨rfl, rfl⟩, ?_, ?_⟩ <;> with_reducible ((conv => whnf) <;> repeat' (first | exact trivial | (refine And.intro ?_ ?_ <;> (conv => whnf))))))
end Go.Proofs.Heir
end
section
set_option linter.unusedSimpArgs false
set_option linter.unusedVariables false
namespace Go.Proofs.Heir
open Go Go.Am Go.RowKit Go.Lib
set_option maxRecDepth 100000
theorem filter_step {α : Type} (p : α → Bool) {ms : List α} {j : Nat} {c : α} (hc : ms[j]? = some c) : (ms.take (j + 1)).filter p = (ms.take j).filter p ++ if p c = true then [c] else [] := by
  rw [take_snocI hc, List.filter_append]
  congr 1
  rw [List.filter_cons]; rfl
set_option maxHeartbeats 8000000 in
theorem f19_ok (f : ForM) (hs : SmallN f.nodes) (T : U.Tree f.nodes) (h0 : thereN f.nodes 0 = true) (x : DefM) : FnOK Tryz.prog 19 [] [eFor f, eDef x] [] (eInts ((elemsU f.nodes (U.ordN f.nodes f.nodes.length 0)).filter fun c => isHeir x (nd f.nodes c))) := by
  obtain ⟨z, x0, hz, hx0, _⟩ := there_iff.1 h0
  obtain rfl : z = 0 := by omega
  have h51 := f51_ok f hs T 0 x0 hx0
  have hol := Nat.le_trans (elemsU_len f.nodes _) (U.ord_len T f.nodes.length h0)
  have hl := hs.len
  have hth : ∀ c ∈ elemsU f.nodes (U.ordN f.nodes f.nodes.length 0), thereN f.nodes c = true := fun c hc => (U.ord_way T _ 0 h0 c (List.mem_filter.1 (show c ∈ List.filter _ _ from hc)).1).1
  obtain ⟨l, m⟩ := f
  obtain ⟨x1, x2, x3⟩ := x
  simp only [Int.natCast_zero] at h51 hol hl hth ⊢
  change FnOK Tryz.prog 51 [] [eFor ⟨l, m⟩, eInt 0] [] (eInts (elemsU l (U.ordN l l.length 0))) at h51
  generalize elemsU l (U.ordN l l.length 0) = ms at h51 hol hth ⊢
  have hms : (ms.map oInt).length = ms.length := List.length_map ..
  obtain ⟨ks, hks⟩ : ∃ ks : Nat → List Int, ks = fun k => (ms.take k).filter fun c => isHeir ⟨x1, x2, x3⟩ (nd l c) := ⟨_, rfl⟩
  have hkl : ∀ k, (ks k).length ≤ 60 := fun k => by
    rw [hks]; exact Nat.le_trans (List.length_filter_le _ _) (by rw [List.length_take]; omega)
  have hk0 : ks 0 = [] := by rw [hks]; rfl
  have hke : ks ms.length = ms.filter fun c => isHeir ⟨x1, x2, x3⟩ (nd l c) := by rw [hks]; show List.filter _ (ms.take ms.length) = _; rw [List.take_length]
  have hstep : ∀ (k : Nat) (c : Int), ms[k]? = some c → ks (k + 1) = ks k ++ if isHeir ⟨x1, x2, x3⟩ (nd l c) = true then [c] else [] := fun k c hc => by
    rw [hks]; exact filter_step _ hc
  rw [← hke]
  refine FnOK.startC (rvs := [.tmp 4]) G G_good Tryz.func19 rfl Tryz.ntmps19 rfl rfl ?_; delta List.toArray; (with_reducible ((conv => whnf); (conv => congr <;> reduce); repeat ((first | refine hK ?_ | refine sK ?_); (conv => whnf); (conv => congr <;> reduce))))
  refine CallK.val [] h51 c51 ⟨⟨rfl, rfl, trivial⟩, rfl, trivial⟩ rfl rfl rfl ?_; (with_reducible ((conv => whnf); (conv => congr <;> reduce); repeat ((first | refine hK ?_ | refine sK ?_); (conv => whnf); (conv => congr <;> reduce))))
  repeat' (first
    | (first
    | ((with_reducible show IfK _ _ _ _); first | refine IfK.ff ?_ | refine IfK.tt ?_ | refine IfK.no (by first | rfl | assumption | exact nfA | exact ntA | ((try simp only [castN]); first | simp [] <;> omega)) ?_ | refine IfK.yes (by first | rfl | assumption | exact nfA | exact ntA | ((try simp only [castN]); first | simp [] <;> omega)) ?_)
    | ((with_reducible show NeedK _ _ _ _); refine nK ?_)
    | ((with_reducible show DrawK _ _ _ _); refine dK ?_)) <;> (with_reducible ((conv => whnf); (conv => congr <;> reduce); repeat ((first | refine hK ?_ | refine sK ?_); (conv => whnf); (conv => congr <;> reduce))))
    | ((with_reducible show (_ ∧ _) ∧ _ ∧ _); refine ⟨⟨rfl, rfl⟩, ?_, ?_⟩ <;> with_reducible ((conv => whnf) <;> repeat' (first | exact trivial | (refine And.intro ?_ ?_ <;> (conv => whnf))))))
  refine LoopK.ghost 5 51 1 rfl rfl ?_
  refine LoopK.use G G_good (fun (j : Nat) => [(2, .ptr 20 0 0), (3, .ptr 30 0 0), (5, .own 51 0 (ks j).length), (6, eInts ms), (7, eInt j)]) (fun j => [(20, .live 2 [eFor ⟨l, m⟩] false), (30, .live 3 [eDef ⟨x1, x2, x3⟩] false), (51, rInts (ks j))])
    (fun j => j ≤ ms.length) (fun j => ms.length - j) 0 (Nat.zero_le _)
    (by rw [hk0]; exact ⟨⟨rfl, rfl⟩, ⟨⟨rfl, rfl⟩, ⟨rfl, rfl⟩, ⟨rfl, rfl⟩, rfl, rfl, trivial⟩, ⟨⟨rfl, rfl, trivial⟩, trivial⟩, ⟨⟨rfl, rfl, rfl, trivial⟩, trivial⟩, ⟨.refl rfl, noRef_ints _⟩, trivial⟩) ?_
  intro j hj
  (with_reducible ((conv => whnf); (conv => congr <;> reduce); repeat ((first | refine hK ?_ | refine sK ?_); (conv => whnf); (conv => congr <;> reduce))))
  refine IfK.mk (fun h1 => ?_) (fun h1 => ?_) <;> (try simp only [castN] at h1) <;> (with_reducible ((conv => whnf); (conv => congr <;> reduce); repeat ((first | refine hK ?_ | refine sK ?_); (conv => whnf); (conv => congr <;> reduce))))
  · have hj' : j < ms.length := by simp only [decide_eq_true_eq] at h1; omega
    obtain ⟨c, hc⟩ : ∃ c, ms[j]? = some c := ⟨_, List.getElem?_eq_getElem hj'⟩
    obtain ⟨i, y, rfl, hy, hny⟩ := there_iff.1 (hth c (List.mem_of_getElem? hc))
    have hst := hstep j _ hc
    rw [hny] at hst
    have hle := hkl j
    obtain ⟨b1, b2, b3, b4, b5, b6, b7, b8, b9, b10⟩ := y
    have turn0 : isHeir ⟨x1, x2, x3⟩ ⟨b1, b2, b3, b4, b5, b6, b7, b8, b9, b10⟩ = false → ks (j + 1) = ks j := fun h => by rw [hst, h]; simp
    have turn1 : isHeir ⟨x1, x2, x3⟩ ⟨b1, b2, b3, b4, b5, b6, b7, b8, b9, b10⟩ = true → ks (j + 1) = ks j ++ [(i : Int)] := fun h => by rw [hst, h]; simp
    clear hst hstep hks hke hny
    refine IdxK.mk j (eInt (i : Int)) rfl (int_get hc) ?_; (with_reducible ((conv => whnf); (conv => congr <;> reduce); repeat ((first | refine hK ?_ | refine sK ?_); (conv => whnf); (conv => congr <;> reduce))))
    refine IdxK.mk i (eNode _) rfl (node_get hy) ?_; (with_reducible ((conv => whnf); (conv => congr <;> reduce); repeat ((first | refine hK ?_ | refine sK ?_); (conv => whnf); (conv => congr <;> reduce))))
    by_cases e1 : b2 = x2
    · by_cases e3 : b2 = x1
      · have h0 := turn1 (by unfold isHeir; rw [decide_eq_true e1, decide_eq_true e3, Bool.or_true]; rfl)
        repeat' (first
    | (first
    | ((with_reducible show IfK _ _ _ _); first | refine IfK.ff ?_ | refine IfK.tt ?_ | refine IfK.no (by first | rfl | assumption | exact nfA | exact ntA | ((try simp only [castN]); first | simp [eq_true e1, eq_true e3] <;> omega)) ?_ | refine IfK.yes (by first | rfl | assumption | exact nfA | exact ntA | ((try simp only [castN]); first | simp [eq_true e1, eq_true e3] <;> omega)) ?_)
    | ((with_reducible show NeedK _ _ _ _); refine nK ?_)
    | ((with_reducible show DrawK _ _ _ _); refine dK ?_)
    | ((with_reducible show IdxK _ _ _ _ _); refine IdxK.mk j (eInt (i : Int)) rfl (int_get hc) ?_)
    | ((with_reducible show AppK _ _ _ _ _ _ _ _ _ _); refine AppK.mk ((ks j).map oInt) [eInt (i : Int)] ⟨rfl, (List.length_map ..).symm, rfl⟩ ⟨rfl, rfl, rfl⟩ rfl (by simp; omega) (by simp; omega) ?_)) <;> (with_reducible ((conv => whnf); (conv => congr <;> reduce); repeat ((first | refine hK ?_ | refine sK ?_); (conv => whnf); (conv => congr <;> reduce))))
    | ((with_reducible show (_ ∧ _) ∧ _ ∧ _); refine ⟨⟨rfl, rfl⟩, ?_, ?_⟩ <;> with_reducible ((conv => whnf) <;> repeat' (first | exact trivial | (refine And.intro ?_ ?_ <;> (conv => whnf))))))
        refine NextK.mk (j + 1) (by omega) (by omega) ⟨⟨rfl, rfl⟩, ⟨⟨rfl, rfl⟩, ⟨rfl, rfl⟩, ⟨rfl, ?_⟩, rfl, by show ((j + 1 : Nat) : Int) = (j : Int) + 1; omega, trivial⟩, ⟨⟨rfl, rfl, trivial⟩, trivial⟩, ⟨⟨rfl, rfl, rfl, trivial⟩, trivial⟩, ⟨?_, noRef_ints _⟩, trivial⟩
        · rw [h0]; simp
        · rw [h0, List.map_append]; exact .refl (by rw [← List.map_append]; exact noRef_ints _)
      · by_cases e2 : b3 = x1
        · have h0 := turn1 (by unfold isHeir; rw [decide_eq_true e1, decide_eq_true e2]; rfl)
          repeat' (first
    | (first
    | ((with_reducible show IfK _ _ _ _); first | refine IfK.ff ?_ | refine IfK.tt ?_ | refine IfK.no (by first | rfl | assumption | exact nfA | exact ntA | ((try simp only [castN]); first | simp [eq_true e1, eq_false e3, eq_true e2] <;> omega)) ?_ | refine IfK.yes (by first | rfl | assumption | exact nfA | exact ntA | ((try simp only [castN]); first | simp [eq_true e1, eq_false e3, eq_true e2] <;> omega)) ?_)
    | ((with_reducible show NeedK _ _ _ _); refine nK ?_)
    | ((with_reducible show DrawK _ _ _ _); refine dK ?_)
    | ((with_reducible show IdxK _ _ _ _ _); refine IdxK.mk j (eInt (i : Int)) rfl (int_get hc) ?_)
    | ((with_reducible show AppK _ _ _ _ _ _ _ _ _ _); refine AppK.mk ((ks j).map oInt) [eInt (i : Int)] ⟨rfl, (List.length_map ..).symm, rfl⟩ ⟨rfl, rfl, rfl⟩ rfl (by simp; omega) (by simp; omega) ?_)) <;> (with_reducible ((conv => whnf); (conv => congr <;> reduce); repeat ((first | refine hK ?_ | refine sK ?_); (conv => whnf); (conv => congr <;> reduce))))
    | ((with_reducible show (_ ∧ _) ∧ _ ∧ _); refine ⟨⟨rfl, rfl⟩, ?_, ?_⟩ <;> with_reducible ((conv => whnf) <;> repeat' (first | exact trivial | (refine And.intro ?_ ?_ <;> (conv => whnf))))))
          refine NextK.mk (j + 1) (by omega) (by omega) ⟨⟨rfl, rfl⟩, ⟨⟨rfl, rfl⟩, ⟨rfl, rfl⟩, ⟨rfl, ?_⟩, rfl, by show ((j + 1 : Nat) : Int) = (j : Int) + 1; omega, trivial⟩, ⟨⟨rfl, rfl, trivial⟩, trivial⟩, ⟨⟨rfl, rfl, rfl, trivial⟩, trivial⟩, ⟨?_, noRef_ints _⟩, trivial⟩
          · rw [h0]; simp
          · rw [h0, List.map_append]; exact .refl (by rw [← List.map_append]; exact noRef_ints _)
        · have h0 := turn0 (by unfold isHeir; rw [decide_eq_true e1, decide_eq_false e2, decide_eq_false e3]; rfl)
          repeat' (first
    | (first
    | ((with_reducible show IfK _ _ _ _); first | refine IfK.ff ?_ | refine IfK.tt ?_ | refine IfK.no (by first | rfl | assumption | exact nfA | exact ntA | ((try simp only [castN]); first | simp [eq_true e1, eq_false e3, eq_false e2] <;> omega)) ?_ | refine IfK.yes (by first | rfl | assumption | exact nfA | exact ntA | ((try simp only [castN]); first | simp [eq_true e1, eq_false e3, eq_false e2] <;> omega)) ?_)
    | ((with_reducible show NeedK _ _ _ _); refine nK ?_)
    | ((with_reducible show DrawK _ _ _ _); refine dK ?_)) <;> (with_reducible ((conv => whnf); (conv => congr <;> reduce); repeat ((first | refine hK ?_ | refine sK ?_); (conv => whnf); (conv => congr <;> reduce))))
    | ((with_reducible show (_ ∧ _) ∧ _ ∧ _); refine ⟨⟨rfl, rfl⟩, ?_, ?_⟩ <;> with_reducible ((conv => whnf) <;> repeat' (first | exact trivial | (refine And.intro ?_ ?_ <;> (conv => whnf))))))
          refine NextK.mk (j + 1) (by omega) (by omega) ⟨⟨rfl, rfl⟩, ⟨⟨rfl, rfl⟩, ⟨rfl, rfl⟩, ⟨rfl, ?_⟩, rfl, by show ((j + 1 : Nat) : Int) = (j : Int) + 1; omega, trivial⟩, ⟨⟨rfl, rfl, trivial⟩, trivial⟩, ⟨⟨rfl, rfl, rfl, trivial⟩, trivial⟩, ⟨?_, noRef_ints _⟩, trivial⟩
          · rw [h0]
          · rw [h0]; exact .refl (noRef_ints _)
    · have h0 := turn0 (by unfold isHeir; rw [decide_eq_false e1]; rfl)
      repeat' (first
    | (first
    | ((with_reducible show IfK _ _ _ _); first | refine IfK.ff ?_ | refine IfK.tt ?_ | refine IfK.no (by first | rfl | assumption | exact nfA | exact ntA | ((try simp only [castN]); first | simp [eq_false e1] <;> omega)) ?_ | refine IfK.yes (by first | rfl | assumption | exact nfA | exact ntA | ((try simp only [castN]); first | simp [eq_false e1] <;> omega)) ?_)
    | ((with_reducible show NeedK _ _ _ _); refine nK ?_)
    | ((with_reducible show DrawK _ _ _ _); refine dK ?_)) <;> (with_reducible ((conv => whnf); (conv => congr <;> reduce); repeat ((first | refine hK ?_ | refine sK ?_); (conv => whnf); (conv => congr <;> reduce))))
    | ((with_reducible show (_ ∧ _) ∧ _ ∧ _); refine ⟨⟨rfl, rfl⟩, ?_, ?_⟩ <;> with_reducible ((conv => whnf) <;> repeat' (first | exact trivial | (refine And.intro ?_ ?_ <;> (conv => whnf))))))
      refine NextK.mk (j + 1) (by omega) (by omega) ⟨⟨rfl, rfl⟩, ⟨⟨rfl, rfl⟩, ⟨rfl, rfl⟩, ⟨rfl, ?_⟩, rfl, by show ((j + 1 : Nat) : Int) = (j : Int) + 1; omega, trivial⟩, ⟨⟨rfl, rfl, trivial⟩, trivial⟩, ⟨⟨rfl, rfl, rfl, trivial⟩, trivial⟩, ⟨?_, noRef_ints _⟩, trivial⟩
      · rw [h0]
      · rw [h0]; exact .refl (noRef_ints _)
  · refine ⟨⟨rfl, rfl⟩, ?_, ?_⟩ <;> with_reducible ((conv => whnf) <;> repeat' (first | exact trivial | (refine And.intro ?_ ?_ <;> (conv => whnf))))
    have hjl : j = ms.length := by simp only [decide_eq_false_iff_not] at h1; omega
    subst hjl
    exact frz_ints rfl rfl rfl rfl
end Go.Proofs.Heir
end
section
set_option linter.unusedSimpArgs false
set_option linter.unusedVariables false
namespace Go.Proofs.Heir
open Go Go.Am Go.RowKit Go.Lib
set_option maxRecDepth 100000
theorem ixI_ge {α : Type} (p : α → Bool) (l : List α) : -1 ≤ ixI p l := by
  unfold ixI
  split <;> omega
theorem fate_ge (x : NodeM) (d : DeskM) : -1 ≤ fateD x d := by
  have hf : -1 ≤ findR d.defs x.name x.is := by
    unfold findR
    split
    · exact ixI_ge _ _
    · exact ixI_ge _ _
  unfold fateD findD
  split
  · split
    · exact hf
    · omega
  · omega
set_option maxHeartbeats 8000000 in
theorem f22_ok (f : ForM) (hs : SmallN f.nodes) (T : U.Tree f.nodes) (n : Nat) (x0 : NodeM) (hx0 : f.nodes[n]? = some x0) (d : DeskM) (hd : SmallD d) (hr : rightD d = true) : FnOK Tryz.prog 22 [] [eFor f, eInt n, eDesk d] [] (eDues ((elemsU f.nodes (U.ordN f.nodes f.nodes.length n)).flatMap (dueOf f.nodes d))) := by
  have h51 := f51_ok f hs T n x0 hx0
  have htn := there_get hx0
  have hol := Nat.le_trans (elemsU_len f.nodes _) (U.ord_len T f.nodes.length htn)
  have hl := hs.len
  have hth : ∀ c ∈ elemsU f.nodes (U.ordN f.nodes f.nodes.length n), thereN f.nodes c = true := fun c hc => (U.ord_way T _ n htn c (List.mem_filter.1 (show c ∈ List.filter _ _ from hc)).1).1
  have h20 := fun i y hy => f20_ok f i y hy d hd hr
  have hge := fun y => fate_ge y d
  obtain ⟨l, m⟩ := f
  simp only at h51 hol hl hth h20 ⊢
  generalize elemsU l (U.ordN l l.length n) = ms at h51 hol hth ⊢
  have hms : (ms.map oInt).length = ms.length := List.length_map ..
  obtain ⟨ks, hks⟩ : ∃ ks : Nat → List DueM, ks = fun k => (ms.take k).flatMap (dueOf l d) := ⟨_, rfl⟩
  have hkl : ∀ k, (ks k).length ≤ 60 := fun k => by
    rw [hks]; exact Nat.le_trans (dueOf_len _ _ _) (by rw [List.length_take]; omega)
  have hk0 : ks 0 = [] := by rw [hks]; rfl
  have hke : ks ms.length = ms.flatMap (dueOf l d) := by rw [hks]; show List.flatMap _ (ms.take ms.length) = _; rw [List.take_length]
  have hstep : ∀ (k : Nat) (c : Int), ms[k]? = some c → ks (k + 1) = ks k ++ dueOf l d c := fun k c hc => by
    rw [hks]; show ((ms.take (k + 1)).flatMap _) = _
    rw [take_snocI hc, List.flatMap_append]
    congr 1
    rw [List.flatMap_cons]; simp
  rw [← hke]
  unfold dueOf at hstep
  obtain ⟨d1, d2, d3, d4⟩ := d
  refine FnOK.startC (rvs := [.tmp 6]) G G_good Tryz.func22 rfl Tryz.ntmps22 rfl rfl ?_; delta List.toArray; (with_reducible ((conv => whnf); (conv => congr <;> reduce); repeat ((first | refine hK ?_ | refine sK ?_); (conv => whnf); (conv => congr <;> reduce))))
  refine CallK.val [] h51 c51 ⟨⟨rfl, rfl, trivial⟩, rfl, trivial⟩ rfl rfl rfl ?_; (with_reducible ((conv => whnf); (conv => congr <;> reduce); repeat ((first | refine hK ?_ | refine sK ?_); (conv => whnf); (conv => congr <;> reduce))))
  repeat' (first
    | (first
    | ((with_reducible show IfK _ _ _ _); first | refine IfK.ff ?_ | refine IfK.tt ?_ | refine IfK.no (by first | rfl | assumption | exact nfA | exact ntA | ((try simp only [castN]); first | simp [] <;> omega)) ?_ | refine IfK.yes (by first | rfl | assumption | exact nfA | exact ntA | ((try simp only [castN]); first | simp [] <;> omega)) ?_)
    | ((with_reducible show NeedK _ _ _ _); refine nK ?_)
    | ((with_reducible show DrawK _ _ _ _); refine dK ?_)) <;> (with_reducible ((conv => whnf); (conv => congr <;> reduce); repeat ((first | refine hK ?_ | refine sK ?_); (conv => whnf); (conv => congr <;> reduce))))
    | ((with_reducible show (_ ∧ _) ∧ _ ∧ _); refine ⟨⟨rfl, rfl⟩, ?_, ?_⟩ <;> with_reducible ((conv => whnf) <;> repeat' (first | exact trivial | (refine And.intro ?_ ?_ <;> (conv => whnf))))))
  refine LoopK.ghost 7 71 11 rfl rfl ?_
  refine LoopK.use G G_good (fun (j : Nat) => [(3, .ptr 30 0 0), (5, .ptr 50 0 0), (7, .own 71 0 (ks j).length), (8, eInts ms), (9, eInt j)]) (fun j => [(30, .live 2 [eFor ⟨l, m⟩] false), (50, .live 4 [eDesk ⟨d1, d2, d3, d4⟩] false), (71, rDues (ks j))])
    (fun j => j ≤ ms.length) (fun j => ms.length - j) 0 (Nat.zero_le _)
    (by rw [hk0]; exact ⟨⟨rfl, rfl⟩, ⟨⟨rfl, rfl⟩, ⟨rfl, rfl⟩, ⟨rfl, rfl⟩, rfl, rfl, trivial⟩, ⟨⟨rfl, rfl, trivial⟩, trivial⟩, ⟨⟨rfl, rfl, rfl, rfl, trivial⟩, trivial⟩, ⟨.refl rfl, noRef_dues _⟩, trivial⟩) ?_
  intro j hj
  (with_reducible ((conv => whnf); (conv => congr <;> reduce); repeat ((first | refine hK ?_ | refine sK ?_); (conv => whnf); (conv => congr <;> reduce))))
  refine IfK.mk (fun h1 => ?_) (fun h1 => ?_) <;> (try simp only [castN] at h1) <;> (with_reducible ((conv => whnf); (conv => congr <;> reduce); repeat ((first | refine hK ?_ | refine sK ?_); (conv => whnf); (conv => congr <;> reduce))))
  · have hj' : j < ms.length := by simp only [decide_eq_true_eq] at h1; omega
    obtain ⟨c, hc⟩ : ∃ c, ms[j]? = some c := ⟨_, List.getElem?_eq_getElem hj'⟩
    obtain ⟨i, y, rfl, hy, hny⟩ := there_iff.1 (hth c (List.mem_of_getElem? hc))
    have hst := hstep j _ hc
    rw [hny] at hst
    have hle := hkl j
    have h20y := h20 i y hy
    have hgy := hge y
    clear hstep hks hke hny h20 hge
    generalize fateD y ⟨d1, d2, d3, d4⟩ = at' at hst h20y hgy
    refine IdxK.mk j (eInt (i : Int)) rfl (int_get hc) ?_; (with_reducible ((conv => whnf); (conv => congr <;> reduce); repeat ((first | refine hK ?_ | refine sK ?_); (conv => whnf); (conv => congr <;> reduce))))
    refine CallK.lit [] h20y c20 ⟨⟨rfl, rfl, trivial⟩, rfl, ⟨rfl, rfl, rfl, rfl, trivial⟩, trivial⟩ rfl rfl ?_; (with_reducible ((conv => whnf); (conv => congr <;> reduce); repeat ((first | refine hK ?_ | refine sK ?_); (conv => whnf); (conv => congr <;> reduce))))
    by_cases e : at' = -1
    · rw [if_pos e, List.append_nil] at hst
      have e' : ¬ 0 ≤ at' := by omega
      repeat' (first
    | (first
    | ((with_reducible show IfK _ _ _ _); first | refine IfK.ff ?_ | refine IfK.tt ?_ | refine IfK.no (by first | rfl | assumption | exact nfA | exact ntA | ((try simp only [castN]); first | simp [eq_false e'] <;> omega)) ?_ | refine IfK.yes (by first | rfl | assumption | exact nfA | exact ntA | ((try simp only [castN]); first | simp [eq_false e'] <;> omega)) ?_)
    | ((with_reducible show NeedK _ _ _ _); refine nK ?_)
    | ((with_reducible show DrawK _ _ _ _); refine dK ?_)) <;> (with_reducible ((conv => whnf); (conv => congr <;> reduce); repeat ((first | refine hK ?_ | refine sK ?_); (conv => whnf); (conv => congr <;> reduce))))
    | ((with_reducible show (_ ∧ _) ∧ _ ∧ _); refine ⟨⟨rfl, rfl⟩, ?_, ?_⟩ <;> with_reducible ((conv => whnf) <;> repeat' (first | exact trivial | (refine And.intro ?_ ?_ <;> (conv => whnf))))))
      refine NextK.mk (j + 1) (by omega) (by omega) ⟨⟨rfl, rfl⟩, ⟨⟨rfl, rfl⟩, ⟨rfl, rfl⟩, ⟨rfl, ?_⟩, rfl, by show ((j + 1 : Nat) : Int) = (j : Int) + 1; omega, trivial⟩, ⟨⟨rfl, rfl, trivial⟩, trivial⟩, ⟨⟨rfl, rfl, rfl, rfl, trivial⟩, trivial⟩, ⟨?_, noRef_dues _⟩, trivial⟩
      · rw [hst]
      · rw [hst]; exact .refl (noRef_dues _)
    · rw [if_neg e] at hst
      have e' : 0 ≤ at' := by omega
      repeat' (first
    | (first
    | ((with_reducible show IfK _ _ _ _); first | refine IfK.ff ?_ | refine IfK.tt ?_ | refine IfK.no (by first | rfl | assumption | exact nfA | exact ntA | ((try simp only [castN]); first | simp [eq_true e'] <;> omega)) ?_ | refine IfK.yes (by first | rfl | assumption | exact nfA | exact ntA | ((try simp only [castN]); first | simp [eq_true e'] <;> omega)) ?_)
    | ((with_reducible show NeedK _ _ _ _); refine nK ?_)
    | ((with_reducible show DrawK _ _ _ _); refine dK ?_)
    | ((with_reducible show IdxK _ _ _ _ _); refine IdxK.mk j (eInt (i : Int)) rfl (int_get hc) ?_)
    | ((with_reducible show CallK _ _ 20 _ _ _ _); refine CallK.lit [] h20y c20 ⟨⟨rfl, rfl, trivial⟩, rfl, ⟨rfl, rfl, rfl, rfl, trivial⟩, trivial⟩ rfl rfl ?_)
    | ((with_reducible show AppK _ _ _ _ _ _ _ _ _ _); refine AppK.mk ((ks j).map oDue) [eDue ⟨(i : Int), at'⟩] ⟨rfl, (List.length_map ..).symm, rfl⟩ ⟨rfl, rfl, rfl⟩ rfl (by simp; omega) (by simp; omega) ?_)) <;> (with_reducible ((conv => whnf); (conv => congr <;> reduce); repeat ((first | refine hK ?_ | refine sK ?_); (conv => whnf); (conv => congr <;> reduce))))
    | ((with_reducible show (_ ∧ _) ∧ _ ∧ _); refine ⟨⟨rfl, rfl⟩, ?_, ?_⟩ <;> with_reducible ((conv => whnf) <;> repeat' (first | exact trivial | (refine And.intro ?_ ?_ <;> (conv => whnf))))))
      refine NextK.mk (j + 1) (by omega) (by omega) ⟨⟨rfl, rfl⟩, ⟨⟨rfl, rfl⟩, ⟨rfl, rfl⟩, ⟨rfl, ?_⟩, rfl, by show ((j + 1 : Nat) : Int) = (j : Int) + 1; omega, trivial⟩, ⟨⟨rfl, rfl, trivial⟩, trivial⟩, ⟨⟨rfl, rfl, rfl, rfl, trivial⟩, trivial⟩, ⟨?_, noRef_dues _⟩, trivial⟩
      · rw [hst]; simp
      · rw [hst, List.map_append]; exact .refl (by rw [← List.map_append]; exact noRef_dues _)
  · refine ⟨⟨rfl, rfl⟩, ?_, ?_⟩ <;> with_reducible ((conv => whnf) <;> repeat' (first | exact trivial | (refine And.intro ?_ ?_ <;> (conv => whnf))))
    have hjl : j = ms.length := by simp only [decide_eq_false_iff_not] at h1; omega
    subst hjl
    exact frz_dues rfl rfl rfl rfl
end Go.Proofs.Heir
end
section
set_option linter.unusedSimpArgs false
set_option linter.unusedVariables false
namespace Go.Am
open Go
theorem RowsM.of {R : AV → AV → Prop} : ∀ {a b : List AV}, MFL R a b → RowsM R a b
  | [], [], _ => ⟨rfl, fun i x y h => by simp at h⟩
  | x :: xs, y :: ys, h => by
    obtain ⟨h1, h2⟩ := RowsM.of h.2
    refine ⟨by simp [h1], fun i u v hu hv => ?_⟩
    cases i with
    | zero => cases hu; cases hv; exact h.1
    | succ i => exact h2 i u v hu hv
  | [], _ :: _, h => h.elim
  | _ :: _, [], h => h.elim
def wideB (wd : Nat) (rows : List AV) : Bool := rows.all fun r => (cells r).length == wd
def wideM (m : ML) : Bool := m.all fun p => match p.2 with
  | .live wd rows _ => wideB wd rows
  | _ => true
theorem wideM_ok {m : ML} (h : wideM m = true) : ∀ t wd rows ro, lkM m t = .live wd rows ro → Wide wd rows := by
  induction m with
  | nil => intro t wd rows ro h; cases h
  | cons p r ih =>
    intro t wd rows ro hl
    obtain ⟨a, b⟩ := p
    unfold wideM at h
    rw [List.all_cons, Bool.and_eq_true] at h
    rw [lkM_eq] at hl
    simp only [lookM] at hl
    cases hta : t == a with
    | true =>
      rw [hta] at hl
      change b = _ at hl
      subst hl
      exact Wide.of_mem fun x hx => by simpa using (List.all_eq_true.1 h.1) x hx
    | false =>
      rw [hta] at hl
      exact ih h.2 t wd rows ro (by rw [lkM_eq]; exact hl)
theorem FnOK.frozen {P : Program} {f : FuncId} {args : List AV} {outs : List MS} {res res' : AV} (m : ML) (hm : lookM m = objsOf outs) (hw : wideM m = true) (h : FnOK P f [] args outs res) (hcv : MF [] (fun _ => true) m 12 res' res) : FnOK P f [] args [] res' := by
  intro w W0 L vs hL hs hargs
  refine (h w W0 L vs hL hs hargs).mono ?_
  rintro e w' ⟨v, μ', rfl, hs', hv⟩
  have hLn : ∀ t, L t = none := fun t => hL t (Nat.zero_le _)
  have hW : ∀ b, Wr W0 (fun _ => none) (objsOf []) b → W0 b := by
    rintro b (h | ⟨t, B, wd, rows, _, h, _⟩)
    · exact h
    · cases h
  refine ⟨v, fun _ => none, rfl, ?_, ?_⟩
  · refine ⟨hs'.tsize, hs'.defers, hs'.os, hs'.tape, hs'.output, hs'.hsize, hs'.shp, hs'.keep, hs'.w0lt, fun t B _ h => (by rw [hLn] at h; cases h), fun t => by simp [bare, objsOf], fun _ => .any, fun t wd rows ro h => ?_, fun t t' wd rows wd' rows' ro' B B' _ h => ?_, fun t wd rows ro B h => ?_, hs'.tabs⟩ <;> simp [bare, objsOf] at h
  · have hc : Cv (lookM m) (renT []) (fun _ => False) (fun t => ∃ wd rows ro, lookM m t = .live wd rows ro) res' res :=
      MF_cv (fun t wd rows ro h _ => wideM_ok hw t wd rows ro h) (fun t u h => by cases h) (fun t wd rows ro h _ => ⟨wd, rows, ro, by rw [← lkM_eq]; exact h⟩) 12 res' res hcv
    rw [hm] at hc
    refine Cv.rep (W := Wr W0 μ' (objsOf outs)) (μ := μ') (fun t wd rows ro h => hs'.objs t wd rows ro h) (fun b _ hb => .inl (hW b hb)) (fun t h => h.elim) ?_ hc hv
    rintro s B ⟨wd, rows, ro, hl⟩ hB hv hb
    exact (hs'.out s wd rows ro B hl hB hv).1 (hW _ hb)
end Go.Am
namespace Go.Proofs.Heir
open Go Go.Am Go.RowKit Go.Lib
set_option maxRecDepth 100000
def awP : ByteArray := ⟨#[112]⟩
def awA : ByteArray := ⟨#[120, 45, 97]⟩
def awB : ByteArray := ⟨#[98]⟩
def awX : ByteArray := ⟨#[120, 45, 98]⟩
def awF : ForM := ⟨[⟨0, ⟨#[]⟩, ⟨#[]⟩, ⟨#[]⟩, [], -1, [], -1, -1, 0⟩, ⟨1, awP, ⟨#[]⟩, ⟨#[]⟩, [], -1, [2, 3, 4], -1, -1, 0⟩, ⟨1, awA, ⟨#[]⟩, ⟨#[]⟩, [], 1, [], -1, -1, 0⟩, ⟨1, awB, awX, ⟨#[]⟩, [], 1, [], -1, -1, 0⟩, ⟨1, awX, ⟨#[]⟩, ⟨#[]⟩, [], 1, [], -1, -1, 0⟩], 9⟩
def awT : ByteArray := ⟨#[60, 112, 62, 60, 120, 45, 97, 62, 60, 47, 120, 45, 97, 62, 60, 98, 33, 120, 45, 98, 62, 60, 47, 98, 62, 60, 120, 45, 98, 62, 60, 47, 120, 45, 98, 62, 60, 47, 112, 62]⟩
theorem fresh_ok : FnOK Tryz.prog 41 [] [eStr awT, eInt 9] [] (.tup [eFor awF, eInt 1, eInt 0]) := by
  have h := r_last
  refine FnOK.frozen (objsR 0 r15.outs) ?_ (by kernel_rfl) h ?_
  · funext t
    match t with
    | 0 => rfl
    | 1 => rfl
    | n + 2 => rfl
  · have nil2 : ∀ wd, NilK (.sl wd []) := fun wd => .inr (.inr ⟨wd, rfl⟩)
    refine ⟨⟨⟨10, _, _, _, rfl, rfl, rfl, by decide, rfl, RowsM.of ⟨?_, ?_, ?_, ?_, ?_, trivial⟩⟩, rfl, trivial⟩, rfl, rfl, trivial⟩
    · exact ⟨rfl, rfl, rfl, rfl, nil2 _, rfl, nil2 _, rfl, rfl, rfl, trivial⟩
    · exact ⟨rfl, rfl, rfl, rfl, nil2 _, rfl, ⟨1, _, _, _, rfl, rfl, rfl, by decide, rfl, RowsM.of ⟨rfl, rfl, rfl, trivial⟩⟩, rfl, rfl, rfl, trivial⟩
    · exact ⟨rfl, rfl, rfl, rfl, nil2 _, rfl, nil2 _, rfl, rfl, rfl, trivial⟩
    · exact ⟨rfl, rfl, rfl, rfl, nil2 _, rfl, nil2 _, rfl, rfl, rfl, trivial⟩
    · exact ⟨rfl, rfl, rfl, rfl, nil2 _, rfl, nil2 _, rfl, rfl, rfl, trivial⟩
end Go.Proofs.Heir
end
section
set_option linter.unusedSimpArgs false
set_option linter.unusedVariables false
namespace Go.Proofs.Heir
open Go Go.Am Go.RowKit Go.Lib
set_option maxRecDepth 100000
def awD : DeskM := ⟨[⟨awA, awA, 0⟩, ⟨awX, awB, 1⟩], [], 0, false⟩
theorem aw_small : SmallN awF.nodes := ⟨by decide, by decide, by decide, by decide⟩
theorem aw_smallD : SmallD awD := ⟨by decide, by decide⟩
theorem aw17 : FnOK Tryz.prog 17 [] [eFor awF, eInt 1, eDesk awD] [] (eDues [⟨2, 0⟩, ⟨3, 1⟩]) := by
  have h := f17_ok awF aw_small 1 awD aw_smallD
  rwa [show triesU awF 1 awD = [⟨2, 0⟩, ⟨3, 1⟩] from by kernel_rfl] at h
theorem aw16 : FnOK Tryz.prog 16 [] [eFor awF, eDef ⟨awA, awA, 0⟩] [] (eInts []) := by
  have h := f16_ok awF aw_small ⟨awA, awA, 0⟩
  rwa [show heirsU awF ⟨awA, awA, 0⟩ = [] from by kernel_rfl] at h
theorem aw15a : FnOK Tryz.prog 15 [] [eFor awF, eInt 4, eDesk awD] [] (eInt (-1)) := by
  have h := f15_ok awF aw_small 4 awD aw_smallD
  rwa [show fateF awF 4 awD = -1 from by kernel_rfl] at h
theorem aw15b : FnOK Tryz.prog 15 [] [eFor awF, eInt 3, eDesk awD] [] (eInt 1) := by
  have h := f15_ok awF aw_small 3 awD aw_smallD
  rwa [show fateF awF 3 awD = 1 from by kernel_rfl] at h
theorem aw11a : FnOK Tryz.prog 11 [] [eStr awP, eStr ⟨#[]⟩] [] (eInt 0) := by
  have h := f11_ok awP ⟨#[]⟩
  rwa [show bornM awP ⟨#[]⟩ = 0 from by kernel_rfl] at h
theorem aw11b : FnOK Tryz.prog 11 [] [eStr awA, eStr ⟨#[]⟩] [] (eInt 1) := by
  have h := f11_ok awA ⟨#[]⟩
  rwa [show bornM awA ⟨#[]⟩ = 1 from by kernel_rfl] at h
theorem due_eql (a b : DueM) (y z : Operand) (w : World) : ((do eqGuard .eql 74 y z (vDue a) (vDue b); binOp .eql 74 (vDue a) (vDue b) : Sem Value)).run Tryz.prog w = .ok (.bool (decide (a = b))) w := by
  rw [Sem.run_bind, run_eqGuard_agg w .eql 74 y z _ _ (by kernel_rfl), Result.andThen_ok, run_eql_struct, due_eq]
  rfl
set_option maxHeartbeats 8000000 in
theorem f8_ok : FnOK Tryz.prog 8 [] [] [] (eBool true) := by
  refine FnOK.startC (rvs := [.tmp 0]) G G_good Tryz.func8 rfl Tryz.ntmps8 rfl rfl ?_; delta List.toArray; (with_reducible ((conv => whnf); (conv => congr <;> reduce); repeat ((first | refine hK ?_ | refine sK ?_); (conv => whnf); (conv => congr <;> reduce))))
  refine CallK.val [] fresh_ok c41 ⟨rfl, rfl, trivial⟩ rfl rfl rfl ?_; (with_reducible ((conv => whnf); (conv => congr <;> reduce); repeat ((first | refine hK ?_ | refine sK ?_); (conv => whnf); (conv => congr <;> reduce))))
  repeat' (first
    | (first
    | ((with_reducible show IfK _ _ _ _); first | refine IfK.ff ?_ | refine IfK.tt ?_ | refine IfK.no (by first | rfl | assumption | exact nfA | exact ntA | ((try simp only [castN]); first | simp [] <;> omega)) ?_ | refine IfK.yes (by first | rfl | assumption | exact nfA | exact ntA | ((try simp only [castN]); first | simp [] <;> omega)) ?_)
    | ((with_reducible show NeedK _ _ _ _); refine nK ?_)
    | ((with_reducible show DrawK _ _ _ _); refine dK ?_)
    | ((with_reducible show CallK _ _ 17 _ _ _ _); refine CallK.val [131] aw17 c17 ⟨⟨rfl, rfl, trivial⟩, rfl, ⟨⟨3, _, _, _, rfl, rfl, rfl, by decide, rfl, RowsM.of ⟨⟨rfl, rfl, rfl, trivial⟩, ⟨rfl, rfl, rfl, trivial⟩, trivial⟩⟩, .inr (.inr ⟨_, rfl⟩), rfl, rfl, trivial⟩, trivial⟩ rfl rfl rfl ?_)
    | ((with_reducible show CallK _ _ 15 _ _ _ _); first | refine CallK.lit [131] aw15a c15 ⟨⟨rfl, rfl, trivial⟩, rfl, ⟨⟨3, _, _, _, rfl, rfl, rfl, by decide, rfl, RowsM.of ⟨⟨rfl, rfl, rfl, trivial⟩, ⟨rfl, rfl, rfl, trivial⟩, trivial⟩⟩, .inr (.inr ⟨_, rfl⟩), rfl, rfl, trivial⟩, trivial⟩ rfl rfl ?_ | refine CallK.lit [131] aw15b c15 ⟨⟨rfl, rfl, trivial⟩, rfl, ⟨⟨3, _, _, _, rfl, rfl, rfl, by decide, rfl, RowsM.of ⟨⟨rfl, rfl, rfl, trivial⟩, ⟨rfl, rfl, rfl, trivial⟩, trivial⟩⟩, .inr (.inr ⟨_, rfl⟩), rfl, rfl, trivial⟩, trivial⟩ rfl rfl ?_)
    | ((with_reducible show CallK _ _ 16 _ _ _ _); refine CallK.val [] aw16 c16 ⟨⟨rfl, rfl, trivial⟩, ⟨rfl, rfl, rfl, trivial⟩, trivial⟩ rfl rfl rfl ?_)
    | ((with_reducible show CallK _ _ 11 _ _ _ _); first | refine CallK.lit [] aw11a c11 ⟨rfl, rfl, trivial⟩ rfl rfl ?_ | refine CallK.lit [] aw11b c11 ⟨rfl, rfl, trivial⟩ rfl rfl ?_)
    | ((with_reducible show IdxK _ 0 _ _ _); refine IdxK.mk 0 (eDue ⟨2, 0⟩) rfl rfl ?_)
    | ((with_reducible show IdxK _ 1 _ _ _); refine IdxK.mk 1 (eDue ⟨3, 1⟩) rfl rfl ?_)
    | ((with_reducible show LtK _ _ _ _ _); refine LtK.mk 0 rfl (by decide) ?_)
    | ((with_reducible show ElemK _ _ _ _ _); refine ElemK.mk (eDef ⟨awA, awA, 0⟩) rfl ?_)
    | ((with_reducible show EqK _ _ _ _ _ _ _ _); refine EqK.mk _ (fun y z w => due_eql ⟨3, 1⟩ ⟨3, 1⟩ y z w) ?_)) <;> (with_reducible ((conv => whnf); (conv => congr <;> reduce); repeat ((first | refine hK ?_ | refine sK ?_); (conv => whnf); (conv => congr <;> reduce))))
    | ((with_reducible show (_ ∧ _) ∧ _ ∧ _); refine ⟨⟨rfl, rfl⟩, ?_, ?_⟩ <;> with_reducible ((conv => whnf) <;> repeat' (first | exact trivial | (refine And.intro ?_ ?_ <;> (conv => whnf))))))
  all_goals rfl
end Go.Proofs.Heir
end
section
set_option linter.unusedSimpArgs false
set_option linter.unusedVariables false
namespace Go.Proofs.Heir
open Go Go.Am Go.RowKit Go.Lib
set_option maxRecDepth 100000
theorem there0 {f : ForM} (h : rightF f = true) : thereN f.nodes 0 = true := by
  unfold rightF at h
  rw [Bool.and_eq_true] at h
  have h1 := h.1
  obtain ⟨l, m⟩ := f
  cases l with
  | nil => simp [headOK] at h1
  | cons a r => unfold thereN; simp
theorem heirs_none {f : ForM} (x : DefM) (h : rightF f = false) : heirsU f x = [] := by unfold heirsU allU; rw [h]; rfl
theorem heirs_some {f : ForM} (x : DefM) (h : rightF f = true) : heirsU f x = ((elemsU f.nodes (U.ordN f.nodes f.nodes.length 0)).filter fun c => isHeir x (nd f.nodes c)) := by unfold heirsU allU; rw [h, there0 h]; rfl
theorem tries_none {f : ForM} {n : Int} (d : DeskM) (h : (rightF f && thereN f.nodes n) = false) : triesU f n d = [] := by unfold triesU allU; rw [h]; rfl
theorem tries_shut {f : ForM} {n : Int} (d : DeskM) (h : rightD d = false) : triesU f n d = [] := by
  have hf : ∀ x : NodeM, fateD x d = -1 := fun x => by unfold fateD findD; rw [h]; simp
  unfold triesU
  rw [List.flatMap_eq_nil_iff]
  intro c _
  unfold dueOf; rw [hf, if_pos rfl]
theorem fate_shut {f : ForM} {n : Int} (d : DeskM) (h : rightD d = false) : fateF f n d = -1 := by
  have hf : ∀ x : NodeM, fateD x d = -1 := fun x => by unfold fateD findD; rw [h]; simp
  unfold fateF; rw [hf]; simp
theorem tries_some {f : ForM} {n : Int} (d : DeskM) (h : rightF f = true) (hn : thereN f.nodes n = true) : triesU f n d = (elemsU f.nodes (U.ordN f.nodes f.nodes.length n)).flatMap (dueOf f.nodes d) := by unfold triesU allU; rw [h, hn]; rfl
set_option maxHeartbeats 16000000 in
theorem f3_long (f : ForM) (n : Int) (d : DeskM) (x : DefM) (s i : ByteArray) (h : shortF f = false ∨ shortB d = false ∨ ¬ s.size ≤ 300 ∨ ¬ i.size ≤ 300) : FnOK Tryz.prog 3 [] [eFor f, eInt n, eDesk d, eDef x, eStr s, eStr i] [] (eBool true) := by
  have h8 := f8_ok
  have h9 := f9_ok f
  have h10 := f10_ok d
  obtain ⟨q9, hq9⟩ : ∃ q, shortF f = q := ⟨_, rfl⟩
  obtain ⟨q10, hq10⟩ : ∃ q, shortB d = q := ⟨_, rfl⟩
  rw [hq9] at h9 h
  rw [hq10] at h10 h
  clear hq9 hq10
  obtain ⟨l, m⟩ := f
  obtain ⟨d1, d2, d3, d4⟩ := d
  obtain ⟨x1, x2, x3⟩ := x
  refine FnOK.startC (rvs := [.tmp 12]) G G_good Tryz.func3 rfl Tryz.ntmps3 rfl rfl ?_; delta List.toArray; (with_reducible ((conv => whnf); (conv => congr <;> reduce); repeat ((first | refine hK ?_ | refine sK ?_); (conv => whnf); (conv => congr <;> reduce))))
  cases q9 with
  | false =>
    repeat' (first
    | (first
    | ((with_reducible show IfK _ _ _ _); first | refine IfK.ff ?_ | refine IfK.tt ?_ | refine IfK.no (by first | rfl | assumption | exact nfA | exact ntA | ((try simp only [castN]); first | simp [] <;> omega)) ?_ | refine IfK.yes (by first | rfl | assumption | exact nfA | exact ntA | ((try simp only [castN]); first | simp [] <;> omega)) ?_)
    | ((with_reducible show NeedK _ _ _ _); refine nK ?_)
    | ((with_reducible show DrawK _ _ _ _); refine dK ?_)
    | ((with_reducible show CallK _ _ 8 _ _ _ _); refine CallK.lit [] h8 c8 trivial rfl rfl ?_)
    | ((with_reducible show CallK _ _ 9 _ _ _ _); refine CallK.lit [] h9 c9 ⟨⟨rfl, rfl, trivial⟩, trivial⟩ rfl rfl ?_)
    | ((with_reducible show CallK _ _ 10 _ _ _ _); refine CallK.lit [] h10 c10 ⟨⟨rfl, rfl, rfl, rfl, trivial⟩, trivial⟩ rfl rfl ?_)) <;> (with_reducible ((conv => whnf); (conv => congr <;> reduce); repeat ((first | refine hK ?_ | refine sK ?_); (conv => whnf); (conv => congr <;> reduce))))
    | ((with_reducible show (_ ∧ _) ∧ _ ∧ _); refine ⟨⟨rfl, rfl⟩, ?_, ?_⟩ <;> with_reducible ((conv => whnf) <;> repeat' (first | exact trivial | (refine And.intro ?_ ?_ <;> (conv => whnf))))))
  | true =>
    cases q10 with
    | false =>
      repeat' (first
    | (first
    | ((with_reducible show IfK _ _ _ _); first | refine IfK.ff ?_ | refine IfK.tt ?_ | refine IfK.no (by first | rfl | assumption | exact nfA | exact ntA | ((try simp only [castN]); first | simp [] <;> omega)) ?_ | refine IfK.yes (by first | rfl | assumption | exact nfA | exact ntA | ((try simp only [castN]); first | simp [] <;> omega)) ?_)
    | ((with_reducible show NeedK _ _ _ _); refine nK ?_)
    | ((with_reducible show DrawK _ _ _ _); refine dK ?_)
    | ((with_reducible show CallK _ _ 8 _ _ _ _); refine CallK.lit [] h8 c8 trivial rfl rfl ?_)
    | ((with_reducible show CallK _ _ 9 _ _ _ _); refine CallK.lit [] h9 c9 ⟨⟨rfl, rfl, trivial⟩, trivial⟩ rfl rfl ?_)
    | ((with_reducible show CallK _ _ 10 _ _ _ _); refine CallK.lit [] h10 c10 ⟨⟨rfl, rfl, rfl, rfl, trivial⟩, trivial⟩ rfl rfl ?_)) <;> (with_reducible ((conv => whnf); (conv => congr <;> reduce); repeat ((first | refine hK ?_ | refine sK ?_); (conv => whnf); (conv => congr <;> reduce))))
    | ((with_reducible show (_ ∧ _) ∧ _ ∧ _); refine ⟨⟨rfl, rfl⟩, ?_, ?_⟩ <;> with_reducible ((conv => whnf) <;> repeat' (first | exact trivial | (refine And.intro ?_ ?_ <;> (conv => whnf))))))
    | true =>
      by_cases k3 : (300 : Int) < (s.size : Int)
      · repeat' (first
    | (first
    | ((with_reducible show IfK _ _ _ _); first | refine IfK.ff ?_ | refine IfK.tt ?_ | refine IfK.no (by first | rfl | assumption | exact nfA | exact ntA | ((try simp only [castN]); first | simp [eq_true k3] <;> omega)) ?_ | refine IfK.yes (by first | rfl | assumption | exact nfA | exact ntA | ((try simp only [castN]); first | simp [eq_true k3] <;> omega)) ?_)
    | ((with_reducible show NeedK _ _ _ _); refine nK ?_)
    | ((with_reducible show DrawK _ _ _ _); refine dK ?_)
    | ((with_reducible show CallK _ _ 8 _ _ _ _); refine CallK.lit [] h8 c8 trivial rfl rfl ?_)
    | ((with_reducible show CallK _ _ 9 _ _ _ _); refine CallK.lit [] h9 c9 ⟨⟨rfl, rfl, trivial⟩, trivial⟩ rfl rfl ?_)
    | ((with_reducible show CallK _ _ 10 _ _ _ _); refine CallK.lit [] h10 c10 ⟨⟨rfl, rfl, rfl, rfl, trivial⟩, trivial⟩ rfl rfl ?_)) <;> (with_reducible ((conv => whnf); (conv => congr <;> reduce); repeat ((first | refine hK ?_ | refine sK ?_); (conv => whnf); (conv => congr <;> reduce))))
    | ((with_reducible show (_ ∧ _) ∧ _ ∧ _); refine ⟨⟨rfl, rfl⟩, ?_, ?_⟩ <;> with_reducible ((conv => whnf) <;> repeat' (first | exact trivial | (refine And.intro ?_ ?_ <;> (conv => whnf))))))
      · have k4 : (300 : Int) < (i.size : Int) := by
          rcases h with h | h | h | h
          · cases h
          · cases h
          · omega
          · omega
        repeat' (first
    | (first
    | ((with_reducible show IfK _ _ _ _); first | refine IfK.ff ?_ | refine IfK.tt ?_ | refine IfK.no (by first | rfl | assumption | exact nfA | exact ntA | ((try simp only [castN]); first | simp [eq_false k3, eq_true k4] <;> omega)) ?_ | refine IfK.yes (by first | rfl | assumption | exact nfA | exact ntA | ((try simp only [castN]); first | simp [eq_false k3, eq_true k4] <;> omega)) ?_)
    | ((with_reducible show NeedK _ _ _ _); refine nK ?_)
    | ((with_reducible show DrawK _ _ _ _); refine dK ?_)
    | ((with_reducible show CallK _ _ 8 _ _ _ _); refine CallK.lit [] h8 c8 trivial rfl rfl ?_)
    | ((with_reducible show CallK _ _ 9 _ _ _ _); refine CallK.lit [] h9 c9 ⟨⟨rfl, rfl, trivial⟩, trivial⟩ rfl rfl ?_)
    | ((with_reducible show CallK _ _ 10 _ _ _ _); refine CallK.lit [] h10 c10 ⟨⟨rfl, rfl, rfl, rfl, trivial⟩, trivial⟩ rfl rfl ?_)) <;> (with_reducible ((conv => whnf); (conv => congr <;> reduce); repeat ((first | refine hK ?_ | refine sK ?_); (conv => whnf); (conv => congr <;> reduce))))
    | ((with_reducible show (_ ∧ _) ∧ _ ∧ _); refine ⟨⟨rfl, rfl⟩, ?_, ?_⟩ <;> with_reducible ((conv => whnf) <;> repeat' (first | exact trivial | (refine And.intro ?_ ?_ <;> (conv => whnf))))))
set_option maxHeartbeats 16000000 in
theorem f3_short (f : ForM) (n : Int) (d : DeskM) (x : DefM) (s i : ByteArray) (k1 : shortF f = true) (k2 : shortB d = true) (k3 : s.size ≤ 300) (k4 : i.size ≤ 300) : FnOK Tryz.prog 3 [] [eFor f, eInt n, eDesk d, eDef x, eStr s, eStr i] [] (eBool true) := by
  have h8 := f8_ok
  have h9 := f9_ok f
  have h10 := f10_ok d
  have k3i : ¬ (300 : Int) < (s.size : Int) := by omega
  have k4i : ¬ (300 : Int) < (i.size : Int) := by omega
  rw [k1] at h9
  rw [k2] at h10
  have hs := shortF_iff.1 k1
  have hsd := shortB_iff.1 k2
  have hd := hsd.small
  have h11 := f11_ok s i
  have h12 := f12_ok s i
  have h13 := f13_ok f hs
  rw [right_eq] at h13
  have h14 := f14_ok d hsd
  have h15 := f15_ok f hs n d hd
  have h16 := f16_ok f hs x
  have h17 := f17_ok f hs n d hd
  have hhl : (heirsU f x).length ≤ 60 := by
    unfold heirsU elemsU
    exact Nat.le_trans (List.length_filter_le _ _) (Nat.le_trans (List.length_filter_le _ _) (Nat.le_trans allU_len hs.len))
  have htl : (triesU f n d).length ≤ 60 := by
    unfold triesU
    exact Nat.le_trans (dueOf_len _ _ _) (Nat.le_trans (elemsU_len _ _) (Nat.le_trans allU_len hs.len))
  have h18 := f18_ok (heirsU f x) (heirsU f x) (by omega)
  rw [decide_eq_true rfl] at h18
  have h21 := f21_ok (triesU f n d) (triesU f n d) (by omega)
  rw [decide_eq_true rfl] at h21
  have hlm : (f.nodes.map oNode).length = f.nodes.length := List.length_map ..
  generalize bornM s i = bn at h11 h12
  cases hr : rightF f with
  | false =>
    have e1 : heirsU f x = [] := heirs_none x hr
    have e2 : triesU f n d = [] := tries_none d (by rw [hr]; rfl)
    have e3 : fateF f n d = -1 := by unfold fateF; rw [hr]; simp
    rw [e1] at h16
    rw [e2] at h17
    rw [e3] at h15
    rw [hr] at h13
    clear h18 h21 hhl htl e1 e2 e3
    obtain ⟨l, m⟩ := f
    obtain ⟨d1, d2, d3, d4⟩ := d
    obtain ⟨x1, x2, x3⟩ := x
    refine FnOK.startC (rvs := [.tmp 12]) G G_good Tryz.func3 rfl Tryz.ntmps3 rfl rfl ?_; delta List.toArray; (with_reducible ((conv => whnf); (conv => congr <;> reduce); repeat ((first | refine hK ?_ | refine sK ?_); (conv => whnf); (conv => congr <;> reduce))))
    repeat' (first
    | (first
    | ((with_reducible show IfK _ _ _ _); first | refine IfK.ff ?_ | refine IfK.tt ?_ | refine IfK.no (by first | rfl | assumption | exact nfA | exact ntA | ((try simp only [castN]); first | simp [eq_false k3i, eq_false k4i] <;> omega)) ?_ | refine IfK.yes (by first | rfl | assumption | exact nfA | exact ntA | ((try simp only [castN]); first | simp [eq_false k3i, eq_false k4i] <;> omega)) ?_)
    | ((with_reducible show NeedK _ _ _ _); refine nK ?_)
    | ((with_reducible show DrawK _ _ _ _); refine dK ?_)
    | ((with_reducible show CallK _ _ 8 _ _ _ _); refine CallK.lit [] h8 c8 trivial rfl rfl ?_)
    | ((with_reducible show CallK _ _ 9 _ _ _ _); refine CallK.lit [] h9 c9 ⟨⟨rfl, rfl, trivial⟩, trivial⟩ rfl rfl ?_)
    | ((with_reducible show CallK _ _ 10 _ _ _ _); refine CallK.lit [] h10 c10 ⟨⟨rfl, rfl, rfl, rfl, trivial⟩, trivial⟩ rfl rfl ?_)
    | ((with_reducible show CallK _ _ 11 _ _ _ _); refine CallK.lit [] h11 c11 ⟨rfl, rfl, trivial⟩ rfl rfl ?_)
    | ((with_reducible show CallK _ _ 12 _ _ _ _); refine CallK.lit [] h12 c12 ⟨rfl, rfl, trivial⟩ rfl rfl ?_)
    | ((with_reducible show CallK _ _ 13 _ _ _ _); refine CallK.lit [] h13 c13 ⟨⟨rfl, rfl, trivial⟩, trivial⟩ rfl rfl ?_)
    | ((with_reducible show CallK _ _ 14 _ _ _ _); refine CallK.lit [] h14 c14 ⟨⟨rfl, rfl, rfl, rfl, trivial⟩, trivial⟩ rfl rfl ?_)
    | ((with_reducible show CallK _ _ 15 _ _ _ _); refine CallK.lit [] h15 c15 ⟨⟨rfl, rfl, trivial⟩, rfl, ⟨rfl, rfl, rfl, rfl, trivial⟩, trivial⟩ rfl rfl ?_)
    | ((with_reducible show CallK _ _ 16 _ _ _ _); refine CallK.val [] h16 c16 ⟨⟨rfl, rfl, trivial⟩, ⟨rfl, rfl, rfl, trivial⟩, trivial⟩ rfl rfl rfl ?_)
    | ((with_reducible show CallK _ _ 17 _ _ _ _); refine CallK.val [] h17 c17 ⟨⟨rfl, rfl, trivial⟩, rfl, ⟨rfl, rfl, rfl, rfl, trivial⟩, trivial⟩ rfl rfl rfl ?_)) <;> (with_reducible ((conv => whnf); (conv => congr <;> reduce); repeat ((first | refine hK ?_ | refine sK ?_); (conv => whnf); (conv => congr <;> reduce))))
    | ((with_reducible show (_ ∧ _) ∧ _ ∧ _); refine ⟨⟨rfl, rfl⟩, ?_, ?_⟩ <;> with_reducible ((conv => whnf) <;> repeat' (first | exact trivial | (refine And.intro ?_ ?_ <;> (conv => whnf))))))
    all_goals rfl
  | true =>
    have T := U.tree_of hr
    have t0 := there0 hr
    have h19 := f19_ok f hs T t0 x
    rw [← heirs_some x hr] at h19
    rw [hr] at h13
    generalize heirsU f x = hb at h16 h18 h19 hhl
    have hbl : (hb.map oInt).length = hb.length := List.length_map ..
    by_cases hn0 : 0 ≤ n
    · by_cases hn1 : n < (f.nodes.length : Int)
      · have hn : thereN f.nodes n = true := by unfold thereN; rw [decide_eq_true hn0, decide_eq_true hn1]; rfl
        cases ho : rightD d with
        | false =>
          rw [ho] at h14
          rw [tries_shut d ho] at h17
          rw [fate_shut d ho] at h15
          clear h21 htl
          obtain ⟨l, m⟩ := f
          obtain ⟨d1, d2, d3, d4⟩ := d
          obtain ⟨x1, x2, x3⟩ := x
          simp only at hlm
          refine FnOK.startC (rvs := [.tmp 12]) G G_good Tryz.func3 rfl Tryz.ntmps3 rfl rfl ?_; delta List.toArray; (with_reducible ((conv => whnf); (conv => congr <;> reduce); repeat ((first | refine hK ?_ | refine sK ?_); (conv => whnf); (conv => congr <;> reduce))))
          simp only at hn1
          repeat' (first
    | (first
    | ((with_reducible show IfK _ _ _ _); first | refine IfK.ff ?_ | refine IfK.tt ?_ | refine IfK.no (by first | rfl | assumption | exact nfA | exact ntA | ((try simp only [castN]); first | simp [eq_false k3i, eq_false k4i, hlm, eq_true hn0, eq_true hn1] <;> omega)) ?_ | refine IfK.yes (by first | rfl | assumption | exact nfA | exact ntA | ((try simp only [castN]); first | simp [eq_false k3i, eq_false k4i, hlm, eq_true hn0, eq_true hn1] <;> omega)) ?_)
    | ((with_reducible show NeedK _ _ _ _); refine nK ?_)
    | ((with_reducible show DrawK _ _ _ _); refine dK ?_)
    | ((with_reducible show CallK _ _ 8 _ _ _ _); refine CallK.lit [] h8 c8 trivial rfl rfl ?_)
    | ((with_reducible show CallK _ _ 9 _ _ _ _); refine CallK.lit [] h9 c9 ⟨⟨rfl, rfl, trivial⟩, trivial⟩ rfl rfl ?_)
    | ((with_reducible show CallK _ _ 10 _ _ _ _); refine CallK.lit [] h10 c10 ⟨⟨rfl, rfl, rfl, rfl, trivial⟩, trivial⟩ rfl rfl ?_)
    | ((with_reducible show CallK _ _ 11 _ _ _ _); refine CallK.lit [] h11 c11 ⟨rfl, rfl, trivial⟩ rfl rfl ?_)
    | ((with_reducible show CallK _ _ 12 _ _ _ _); refine CallK.lit [] h12 c12 ⟨rfl, rfl, trivial⟩ rfl rfl ?_)
    | ((with_reducible show CallK _ _ 13 _ _ _ _); refine CallK.lit [] h13 c13 ⟨⟨rfl, rfl, trivial⟩, trivial⟩ rfl rfl ?_)
    | ((with_reducible show CallK _ _ 14 _ _ _ _); refine CallK.lit [] h14 c14 ⟨⟨rfl, rfl, rfl, rfl, trivial⟩, trivial⟩ rfl rfl ?_)
    | ((with_reducible show CallK _ _ 15 _ _ _ _); refine CallK.lit [] h15 c15 ⟨⟨rfl, rfl, trivial⟩, rfl, ⟨rfl, rfl, rfl, rfl, trivial⟩, trivial⟩ rfl rfl ?_)
    | ((with_reducible show CallK _ _ 16 _ _ _ _); refine CallK.val [] h16 c16 ⟨⟨rfl, rfl, trivial⟩, ⟨rfl, rfl, rfl, trivial⟩, trivial⟩ rfl rfl rfl ?_)
    | ((with_reducible show CallK _ _ 17 _ _ _ _); refine CallK.val [] h17 c17 ⟨⟨rfl, rfl, trivial⟩, rfl, ⟨rfl, rfl, rfl, rfl, trivial⟩, trivial⟩ rfl rfl rfl ?_)
    | ((with_reducible show CallK _ _ 18 _ _ _ _); refine CallK.lit [] h18 c18 ⟨rfl, rfl, trivial⟩ rfl rfl ?_)
    | ((with_reducible show CallK _ _ 19 _ _ _ _); refine CallK.val [] h19 c19 ⟨⟨rfl, rfl, trivial⟩, ⟨rfl, rfl, rfl, trivial⟩, trivial⟩ rfl rfl rfl ?_)) <;> (with_reducible ((conv => whnf); (conv => congr <;> reduce); repeat ((first | refine hK ?_ | refine sK ?_); (conv => whnf); (conv => congr <;> reduce))))
    | ((with_reducible show (_ ∧ _) ∧ _ ∧ _); refine ⟨⟨rfl, rfl⟩, ?_, ?_⟩ <;> with_reducible ((conv => whnf) <;> repeat' (first | exact trivial | (refine And.intro ?_ ?_ <;> (conv => whnf))))))
          all_goals rfl
        | true =>
          rw [ho] at h14
          obtain ⟨k, y, rfl, hy, hny⟩ := there_iff.1 hn
          have h20 := f20_ok f k y hy d hd ho
          have h22 := f22_ok f hs T k y hy d hd ho
          rw [← tries_some d hr hn] at h22
          have hfe : fateF f k d = fateD y d := by unfold fateF; rw [hn, hr, hny]; rfl
          rw [hfe] at h15
          clear hfe
          generalize triesU f (k : Int) d = ts at h17 h21 h22 htl
          generalize fateD y d = at' at h15 h20
          obtain ⟨l, m⟩ := f
          obtain ⟨d1, d2, d3, d4⟩ := d
          obtain ⟨x1, x2, x3⟩ := x
          simp only at hlm
          refine FnOK.startC (rvs := [.tmp 12]) G G_good Tryz.func3 rfl Tryz.ntmps3 rfl rfl ?_; delta List.toArray; (with_reducible ((conv => whnf); (conv => congr <;> reduce); repeat ((first | refine hK ?_ | refine sK ?_); (conv => whnf); (conv => congr <;> reduce))))
          simp only at hn1
          repeat' (first
    | (first
    | ((with_reducible show IfK _ _ _ _); first | refine IfK.ff ?_ | refine IfK.tt ?_ | refine IfK.no (by first | rfl | assumption | exact nfA | exact ntA | ((try simp only [castN]); first | simp [eq_false k3i, eq_false k4i, hlm, eq_true hn0, eq_true hn1] <;> omega)) ?_ | refine IfK.yes (by first | rfl | assumption | exact nfA | exact ntA | ((try simp only [castN]); first | simp [eq_false k3i, eq_false k4i, hlm, eq_true hn0, eq_true hn1] <;> omega)) ?_)
    | ((with_reducible show NeedK _ _ _ _); refine nK ?_)
    | ((with_reducible show DrawK _ _ _ _); refine dK ?_)
    | ((with_reducible show CallK _ _ 8 _ _ _ _); refine CallK.lit [] h8 c8 trivial rfl rfl ?_)
    | ((with_reducible show CallK _ _ 9 _ _ _ _); refine CallK.lit [] h9 c9 ⟨⟨rfl, rfl, trivial⟩, trivial⟩ rfl rfl ?_)
    | ((with_reducible show CallK _ _ 10 _ _ _ _); refine CallK.lit [] h10 c10 ⟨⟨rfl, rfl, rfl, rfl, trivial⟩, trivial⟩ rfl rfl ?_)
    | ((with_reducible show CallK _ _ 11 _ _ _ _); refine CallK.lit [] h11 c11 ⟨rfl, rfl, trivial⟩ rfl rfl ?_)
    | ((with_reducible show CallK _ _ 12 _ _ _ _); refine CallK.lit [] h12 c12 ⟨rfl, rfl, trivial⟩ rfl rfl ?_)
    | ((with_reducible show CallK _ _ 13 _ _ _ _); refine CallK.lit [] h13 c13 ⟨⟨rfl, rfl, trivial⟩, trivial⟩ rfl rfl ?_)
    | ((with_reducible show CallK _ _ 14 _ _ _ _); refine CallK.lit [] h14 c14 ⟨⟨rfl, rfl, rfl, rfl, trivial⟩, trivial⟩ rfl rfl ?_)
    | ((with_reducible show CallK _ _ 15 _ _ _ _); refine CallK.lit [] h15 c15 ⟨⟨rfl, rfl, trivial⟩, rfl, ⟨rfl, rfl, rfl, rfl, trivial⟩, trivial⟩ rfl rfl ?_)
    | ((with_reducible show CallK _ _ 16 _ _ _ _); refine CallK.val [] h16 c16 ⟨⟨rfl, rfl, trivial⟩, ⟨rfl, rfl, rfl, trivial⟩, trivial⟩ rfl rfl rfl ?_)
    | ((with_reducible show CallK _ _ 17 _ _ _ _); refine CallK.val [] h17 c17 ⟨⟨rfl, rfl, trivial⟩, rfl, ⟨rfl, rfl, rfl, rfl, trivial⟩, trivial⟩ rfl rfl rfl ?_)
    | ((with_reducible show CallK _ _ 18 _ _ _ _); refine CallK.lit [] h18 c18 ⟨rfl, rfl, trivial⟩ rfl rfl ?_)
    | ((with_reducible show CallK _ _ 19 _ _ _ _); refine CallK.val [] h19 c19 ⟨⟨rfl, rfl, trivial⟩, ⟨rfl, rfl, rfl, trivial⟩, trivial⟩ rfl rfl rfl ?_)
    | ((with_reducible show CallK _ _ 20 _ _ _ _); refine CallK.lit [] h20 c20 ⟨⟨rfl, rfl, trivial⟩, rfl, ⟨rfl, rfl, rfl, rfl, trivial⟩, trivial⟩ rfl rfl ?_)
    | ((with_reducible show CallK _ _ 21 _ _ _ _); refine CallK.lit [] h21 c21 ⟨rfl, rfl, trivial⟩ rfl rfl ?_)
    | ((with_reducible show CallK _ _ 22 _ _ _ _); refine CallK.val [] h22 c22 ⟨⟨rfl, rfl, trivial⟩, rfl, ⟨rfl, rfl, rfl, rfl, trivial⟩, trivial⟩ rfl rfl rfl ?_)) <;> (with_reducible ((conv => whnf); (conv => congr <;> reduce); repeat ((first | refine hK ?_ | refine sK ?_); (conv => whnf); (conv => congr <;> reduce))))
    | ((with_reducible show (_ ∧ _) ∧ _ ∧ _); refine ⟨⟨rfl, rfl⟩, ?_, ?_⟩ <;> with_reducible ((conv => whnf) <;> repeat' (first | exact trivial | (refine And.intro ?_ ?_ <;> (conv => whnf))))))
          all_goals rfl
      · have hn : thereN f.nodes n = false := by unfold thereN; rw [decide_eq_false hn1, Bool.and_false]
        rw [tries_none d (by rw [hn, Bool.and_false])] at h17
        have hfe : fateF f n d = -1 := by unfold fateF; rw [hn]; simp
        rw [hfe] at h15
        clear h21 htl hfe
        obtain ⟨l, m⟩ := f
        obtain ⟨d1, d2, d3, d4⟩ := d
        obtain ⟨x1, x2, x3⟩ := x
        simp only at hlm
        refine FnOK.startC (rvs := [.tmp 12]) G G_good Tryz.func3 rfl Tryz.ntmps3 rfl rfl ?_; delta List.toArray; (with_reducible ((conv => whnf); (conv => congr <;> reduce); repeat ((first | refine hK ?_ | refine sK ?_); (conv => whnf); (conv => congr <;> reduce))))
        simp only at hn1
        repeat' (first
    | (first
    | ((with_reducible show IfK _ _ _ _); first | refine IfK.ff ?_ | refine IfK.tt ?_ | refine IfK.no (by first | rfl | assumption | exact nfA | exact ntA | ((try simp only [castN]); first | simp [eq_false k3i, eq_false k4i, hlm, eq_true hn0, eq_false hn1] <;> omega)) ?_ | refine IfK.yes (by first | rfl | assumption | exact nfA | exact ntA | ((try simp only [castN]); first | simp [eq_false k3i, eq_false k4i, hlm, eq_true hn0, eq_false hn1] <;> omega)) ?_)
    | ((with_reducible show NeedK _ _ _ _); refine nK ?_)
    | ((with_reducible show DrawK _ _ _ _); refine dK ?_)
    | ((with_reducible show CallK _ _ 8 _ _ _ _); refine CallK.lit [] h8 c8 trivial rfl rfl ?_)
    | ((with_reducible show CallK _ _ 9 _ _ _ _); refine CallK.lit [] h9 c9 ⟨⟨rfl, rfl, trivial⟩, trivial⟩ rfl rfl ?_)
    | ((with_reducible show CallK _ _ 10 _ _ _ _); refine CallK.lit [] h10 c10 ⟨⟨rfl, rfl, rfl, rfl, trivial⟩, trivial⟩ rfl rfl ?_)
    | ((with_reducible show CallK _ _ 11 _ _ _ _); refine CallK.lit [] h11 c11 ⟨rfl, rfl, trivial⟩ rfl rfl ?_)
    | ((with_reducible show CallK _ _ 12 _ _ _ _); refine CallK.lit [] h12 c12 ⟨rfl, rfl, trivial⟩ rfl rfl ?_)
    | ((with_reducible show CallK _ _ 13 _ _ _ _); refine CallK.lit [] h13 c13 ⟨⟨rfl, rfl, trivial⟩, trivial⟩ rfl rfl ?_)
    | ((with_reducible show CallK _ _ 14 _ _ _ _); refine CallK.lit [] h14 c14 ⟨⟨rfl, rfl, rfl, rfl, trivial⟩, trivial⟩ rfl rfl ?_)
    | ((with_reducible show CallK _ _ 15 _ _ _ _); refine CallK.lit [] h15 c15 ⟨⟨rfl, rfl, trivial⟩, rfl, ⟨rfl, rfl, rfl, rfl, trivial⟩, trivial⟩ rfl rfl ?_)
    | ((with_reducible show CallK _ _ 16 _ _ _ _); refine CallK.val [] h16 c16 ⟨⟨rfl, rfl, trivial⟩, ⟨rfl, rfl, rfl, trivial⟩, trivial⟩ rfl rfl rfl ?_)
    | ((with_reducible show CallK _ _ 17 _ _ _ _); refine CallK.val [] h17 c17 ⟨⟨rfl, rfl, trivial⟩, rfl, ⟨rfl, rfl, rfl, rfl, trivial⟩, trivial⟩ rfl rfl rfl ?_)
    | ((with_reducible show CallK _ _ 18 _ _ _ _); refine CallK.lit [] h18 c18 ⟨rfl, rfl, trivial⟩ rfl rfl ?_)
    | ((with_reducible show CallK _ _ 19 _ _ _ _); refine CallK.val [] h19 c19 ⟨⟨rfl, rfl, trivial⟩, ⟨rfl, rfl, rfl, trivial⟩, trivial⟩ rfl rfl rfl ?_)) <;> (with_reducible ((conv => whnf); (conv => congr <;> reduce); repeat ((first | refine hK ?_ | refine sK ?_); (conv => whnf); (conv => congr <;> reduce))))
    | ((with_reducible show (_ ∧ _) ∧ _ ∧ _); refine ⟨⟨rfl, rfl⟩, ?_, ?_⟩ <;> with_reducible ((conv => whnf) <;> repeat' (first | exact trivial | (refine And.intro ?_ ?_ <;> (conv => whnf))))))
        all_goals rfl
    · have hn : thereN f.nodes n = false := by unfold thereN; rw [decide_eq_false hn0, Bool.false_and]
      rw [tries_none d (by rw [hn, Bool.and_false])] at h17
      have hfe : fateF f n d = -1 := by unfold fateF; rw [hn]; simp
      rw [hfe] at h15
      clear h21 htl hfe
      obtain ⟨l, m⟩ := f
      obtain ⟨d1, d2, d3, d4⟩ := d
      obtain ⟨x1, x2, x3⟩ := x
      simp only at hlm
      refine FnOK.startC (rvs := [.tmp 12]) G G_good Tryz.func3 rfl Tryz.ntmps3 rfl rfl ?_; delta List.toArray; (with_reducible ((conv => whnf); (conv => congr <;> reduce); repeat ((first | refine hK ?_ | refine sK ?_); (conv => whnf); (conv => congr <;> reduce))))
      repeat' (first
    | (first
    | ((with_reducible show IfK _ _ _ _); first | refine IfK.ff ?_ | refine IfK.tt ?_ | refine IfK.no (by first | rfl | assumption | exact nfA | exact ntA | ((try simp only [castN]); first | simp [eq_false k3i, eq_false k4i, hlm, eq_false hn0] <;> omega)) ?_ | refine IfK.yes (by first | rfl | assumption | exact nfA | exact ntA | ((try simp only [castN]); first | simp [eq_false k3i, eq_false k4i, hlm, eq_false hn0] <;> omega)) ?_)
    | ((with_reducible show NeedK _ _ _ _); refine nK ?_)
    | ((with_reducible show DrawK _ _ _ _); refine dK ?_)
    | ((with_reducible show CallK _ _ 8 _ _ _ _); refine CallK.lit [] h8 c8 trivial rfl rfl ?_)
    | ((with_reducible show CallK _ _ 9 _ _ _ _); refine CallK.lit [] h9 c9 ⟨⟨rfl, rfl, trivial⟩, trivial⟩ rfl rfl ?_)
    | ((with_reducible show CallK _ _ 10 _ _ _ _); refine CallK.lit [] h10 c10 ⟨⟨rfl, rfl, rfl, rfl, trivial⟩, trivial⟩ rfl rfl ?_)
    | ((with_reducible show CallK _ _ 11 _ _ _ _); refine CallK.lit [] h11 c11 ⟨rfl, rfl, trivial⟩ rfl rfl ?_)
    | ((with_reducible show CallK _ _ 12 _ _ _ _); refine CallK.lit [] h12 c12 ⟨rfl, rfl, trivial⟩ rfl rfl ?_)
    | ((with_reducible show CallK _ _ 13 _ _ _ _); refine CallK.lit [] h13 c13 ⟨⟨rfl, rfl, trivial⟩, trivial⟩ rfl rfl ?_)
    | ((with_reducible show CallK _ _ 14 _ _ _ _); refine CallK.lit [] h14 c14 ⟨⟨rfl, rfl, rfl, rfl, trivial⟩, trivial⟩ rfl rfl ?_)
    | ((with_reducible show CallK _ _ 15 _ _ _ _); refine CallK.lit [] h15 c15 ⟨⟨rfl, rfl, trivial⟩, rfl, ⟨rfl, rfl, rfl, rfl, trivial⟩, trivial⟩ rfl rfl ?_)
    | ((with_reducible show CallK _ _ 16 _ _ _ _); refine CallK.val [] h16 c16 ⟨⟨rfl, rfl, trivial⟩, ⟨rfl, rfl, rfl, trivial⟩, trivial⟩ rfl rfl rfl ?_)
    | ((with_reducible show CallK _ _ 17 _ _ _ _); refine CallK.val [] h17 c17 ⟨⟨rfl, rfl, trivial⟩, rfl, ⟨rfl, rfl, rfl, rfl, trivial⟩, trivial⟩ rfl rfl rfl ?_)
    | ((with_reducible show CallK _ _ 18 _ _ _ _); refine CallK.lit [] h18 c18 ⟨rfl, rfl, trivial⟩ rfl rfl ?_)
    | ((with_reducible show CallK _ _ 19 _ _ _ _); refine CallK.val [] h19 c19 ⟨⟨rfl, rfl, trivial⟩, ⟨rfl, rfl, rfl, trivial⟩, trivial⟩ rfl rfl rfl ?_)) <;> (with_reducible ((conv => whnf); (conv => congr <;> reduce); repeat ((first | refine hK ?_ | refine sK ?_); (conv => whnf); (conv => congr <;> reduce))))
    | ((with_reducible show (_ ∧ _) ∧ _ ∧ _); refine ⟨⟨rfl, rfl⟩, ?_, ?_⟩ <;> with_reducible ((conv => whnf) <;> repeat' (first | exact trivial | (refine And.intro ?_ ?_ <;> (conv => whnf))))))
      all_goals rfl
theorem f3_ok (f : ForM) (n : Int) (d : DeskM) (x : DefM) (s i : ByteArray) : FnOK Tryz.prog 3 [] [eFor f, eInt n, eDesk d, eDef x, eStr s, eStr i] [] (eBool true) := by
  by_cases k1 : shortF f = true
  · by_cases k2 : shortB d = true
    · by_cases k3 : s.size ≤ 300
      · by_cases k4 : i.size ≤ 300
        · exact f3_short f n d x s i k1 k2 k3 k4
        · exact f3_long f n d x s i (.inr (.inr (.inr k4)))
      · exact f3_long f n d x s i (.inr (.inr (.inl k3)))
    · exact f3_long f n d x s i (.inr (.inl (by simpa using k2)))
  · exact f3_long f n d x s i (.inl (by simpa using k1))
end Go.Proofs.Heir
end
section
set_option linter.unusedSimpArgs false
set_option linter.unusedVariables false
namespace Go.Proofs.Heir
open Go Go.Am Go.RowKit
theorem rStr : Reads Tryz.prog 9 1 eStr (fun s => s.size ≤ maxLen) := Reads.str Tryz.underlying9 (by kernel_rfl)
theorem rInt : Reads Tryz.prog 3 1 oInt (fun _ => True) := (Reads.int Tryz.underlying3 (by kernel_rfl)).conv id id (fun _ => rfl) (fun _ => rfl) (fun _ _ => trivial)
theorem rBool : Reads Tryz.prog 4 1 (fun b : Bool => .lit (.bool b)) (fun _ => True) := Reads.bool Tryz.underlying4 (by kernel_rfl)
theorem rDef : Reads Tryz.prog 30 3 oDef (fun _ => True) :=
  (Reads.struct (l := [(0, 9), (1, 9), (2, 3)]) Tryz.underlying30 (by kernel_rfl) rfl (.cons rStr (.cons rStr (.cons rInt .nil)))).conv
    (fun (a, b, c, _) => ⟨a, b, c⟩) (fun t => (t.name, t.locl, t.cls, ())) (fun _ => rfl) (fun _ => rfl) (fun _ _ => trivial)
theorem rWait : Reads Tryz.prog 85 2 oWait (fun _ => True) :=
  (Reads.struct (l := [(0, 9), (1, 3)]) Tryz.underlying85 (by kernel_rfl) rfl (.cons rStr (.cons rInt .nil))).conv
    (fun (a, b, _) => ⟨a, b⟩) (fun t => (t.name, t.ticket, ())) (fun _ => rfl) (fun _ => rfl) (fun _ _ => trivial)
theorem rDefs1 : Reads Tryz.prog 25 1 eDefs (fun _ => True) := (Reads.slice Tryz.underlying25 (by kernel_rfl) rDef (by omega)).conv id id (fun _ => rfl) (fun _ => rfl) (fun _ _ => trivial)
theorem rWaits1 : Reads Tryz.prog 26 1 eWaits (fun _ => True) := (Reads.slice Tryz.underlying26 (by kernel_rfl) rWait (by omega)).conv id id (fun _ => rfl) (fun _ => rfl) (fun _ _ => trivial)
theorem rDesk : Reads Tryz.prog 28 4 eDesk (fun _ => True) :=
  (Reads.struct (l := [(0, 25), (1, 26), (2, 3), (3, 4)]) Tryz.underlying28 (by kernel_rfl) rfl (.cons rDefs1 (.cons rWaits1 (.cons rInt (.cons rBool .nil))))).conv
    (fun (a, b, c, e, _) => ⟨a, b, c, e⟩) (fun t => (t.defs, t.waits, t.next, t.busy, ())) (fun _ => rfl) (fun _ => rfl) (fun _ _ => trivial)
theorem rAttr : Reads Tryz.prog 77 2 oAttr (fun _ => True) :=
  (Reads.struct (l := [(0, 9), (1, 9)]) Tryz.underlying77 (by kernel_rfl) rfl (.cons rStr (.cons rStr .nil))).conv
    (fun (a, b, _) => ⟨a, b⟩) (fun t => (t.name, t.value, ())) (fun _ => rfl) (fun _ => rfl) (fun _ _ => trivial)
theorem rAttrs1 : Reads Tryz.prog 64 1 eAttrs (fun _ => True) := (Reads.slice Tryz.underlying64 (by kernel_rfl) rAttr (by omega)).conv id id (fun _ => rfl) (fun _ => rfl) (fun _ _ => trivial)
theorem rInts1 : Reads Tryz.prog 36 1 eInts (fun _ => True) := (Reads.slice Tryz.underlying36 (by kernel_rfl) rInt (by omega)).conv id id (fun _ => rfl) (fun _ => rfl) (fun _ _ => trivial)
theorem rNode : Reads Tryz.prog 66 10 oNode (fun _ => True) :=
  (Reads.struct (l := [(0, 3), (1, 9), (2, 9), (3, 9), (4, 64), (5, 3), (6, 36), (7, 3), (8, 3), (9, 3)]) Tryz.underlying66 (by kernel_rfl) rfl
    (.cons rInt (.cons rStr (.cons rStr (.cons rStr (.cons rAttrs1 (.cons rInt (.cons rInts1 (.cons rInt (.cons rInt (.cons rInt .nil))))))))))).conv
    (fun (a, b, c, d, e, f, g, h, i, j, _) => ⟨a, b, c, d, e, f, g, h, i, j⟩)
    (fun t => (t.kind, t.name, t.is, t.data, t.attrs, t.parent, t.kids, t.host, t.under, t.doc, ())) (fun _ => rfl) (fun _ => rfl) (fun _ _ => trivial)
theorem rNodes1 : Reads Tryz.prog 22 1 eNodes (fun _ => True) := (Reads.slice Tryz.underlying22 (by kernel_rfl) rNode (by omega)).conv id id (fun _ => rfl) (fun _ => rfl) (fun _ _ => trivial)
theorem rFor : Reads Tryz.prog 24 2 eFor (fun _ => True) :=
  (Reads.struct (l := [(0, 22), (1, 3)]) Tryz.underlying24 (by kernel_rfl) rfl (.cons rNodes1 (.cons rInt .nil))).conv
    (fun (a, b, _) => ⟨a, b⟩) (fun t => (t.nodes, t.most, ())) (fun _ => rfl) (fun _ => rfl) (fun _ _ => trivial)
theorem laid : Go.laidOutB Tryz.prog = true := by kernel_rfl
abbrev laidRows : List (String × DataW Unit) := [("unicode.White_Space", Go.Proofs.YtadjfbmhbfjjaaaGreatDoor.Rows.laid_unicode_White_Space), ("strings.asciiSpace", Go.Proofs.YtadjfbmhbfjjaaaGreatDoor.Rows.laid_strings_asciiSpace)]
theorem tab_eq : (Go.Proofs.YtadjfbmhbfjjaaaGreatDoor.Rows.laid_strings_asciiSpace : DataW Unit) = Lib.tabData .u8 Lib.asciiSpaceTab := by kernel_rfl
theorem door_met (os : Os) (args : Array Value) : laidMetH Tryz.prog laidRows ((World.doorLaid Tryz.prog 33 os).forCall (fun _ _ => 0) ⟨#[], args, []⟩).memory :=
  laidMetH_of_parts3 (fuel := 8) (laidMet_of_run' 8 (by kernel_rfl) (by kernel_rfl)) (by kernel_rfl) (by kernel_rfl)
theorem gSp : Tryz.prog.globalNamed "strings.asciiSpace" = some 1 := by kernel_rfl
theorem tySp : (Tryz.prog.globals[1]?).map (·.type) = some 186 := by kernel_rfl
theorem tabs_of_laid {W : World} (h : laidMetH Tryz.prog laidRows W) : Tabs Tryz.prog W fun _ => none := by
  rw [MakeChecks.laidMetH_plain _ _ _ (by kernel_rfl)] at h
  obtain ⟨ps, ⟨g0, t0, cs0, f0, p0, q0, hg0, ht0, hv0, hd0, ⟨g1, t1, cs1, f1, p1, q1, hg1, ht1, hv1, hd1, _, _⟩, _⟩, _⟩ := h
  intro g hg
  obtain rfl := Option.some.inj (hg.symm.trans hg1)
  have e : g = 1 := Option.some.inj (hg.symm.trans gSp)
  have ht : (Tryz.prog.globals[g]?).map (·.type) = some 186 := by rw [e]; exact tySp
  obtain rfl := Option.some.inj (ht.symm.trans ht1)
  rw [tab_eq] at hd1
  have hc := Lib.cells_of_tab Tryz.underlying186 Tryz.underlying5 (by kernel_rfl) (by kernel_rfl) hd1
  have htab : Lib.TabIs Tryz.prog W "strings.asciiSpace" .u8 Lib.asciiSpaceTab := by
    unfold Lib.TabIs
    rw [hv1, ← hc]
  have hcell : ∀ c : Nat, c < 256 → W.cell? ⟨g, c, none⟩ = some (.int .u8 (if Lib.isSp (UInt8.ofNat c) then 1 else 0)) := fun c hc => by
    rw [htab.cell hg c (by rw [Lib.asciiSpaceTab_length]; exact hc), Lib.asciiSpaceTab_at c hc]
  refine ⟨(by rintro ⟨_, _, h, _⟩; cases h), World.block_lt_of_cell? _ _ (hcell 0 (by omega)), hcell⟩
end Go.Proofs.Heir
end
