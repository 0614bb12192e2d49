/- Models, plain laws and contracts of functions of the given program; conditions as stated in each theorem. By an AI agent. -/
import Derived.Test.YtadjfbmhbfjjaaaW5
import Derived.Test.YtadjfbmhbfjjaaaW4
import Derived.Laws.Runes
section
set_option linter.unusedSimpArgs false
set_option linter.unusedVariables false
namespace Go.Proofs.Able
open Go Go.Am Go.RowKit Go.Lib
set_option maxRecDepth 100000
theorem allIx_no {α : Type} {p : Nat → α → Bool} {l : List α} {k : Nat} {x : α} (h : l[k]? = some x) (hp : p k x = false) : allIx p 0 l = false := by
  rw [Bool.eq_false_iff]
  intro h1
  have := allIx_iff.1 h1 k x h
  rw [Nat.zero_add, hp] at this
  cases this
theorem allIx_yes {α : Type} {p : Nat → α → Bool} {l : List α} (h : ∀ k x, l[k]? = some x → p k x = true) : allIx p 0 l = true :=
  allIx_iff.2 fun k x hx => by rw [Nat.zero_add]; exact h k x hx
set_option maxHeartbeats 16000000 in
/-- view.right -/
theorem f23_ok (f : ForM) (hs : SmallN f.nodes) : FnOK Try.prog 23 [] [eFor f] [] (eBool (rightF f)) := by
  have hl := hs.len
  have h38 : ∀ x ∈ f.nodes, FnOK Try.prog 38 [] [eNode x] [] (eBool (namedN x)) := fun x hx => f38_ok x (by have := hs.attrs x hx; omega)
  have h39 := f39_ok f
  have h40 := f40_ok f hs
  have h41 := f41_ok f hs
  have h42 := f42_ok f
  have h43 : (∀ n, thereN f.nodes n = true → nodeOK f.nodes n (nd f.nodes n) = true) → ∀ k, k < f.nodes.length → FnOK Try.prog 43 [] [eFor f, eInt k] [] (eBool (endsN f.nodes f.nodes.length k)) := fun hN k hk => f43_ok f (by omega) (fun k x hx => by have := node_up hN k (there_get hx); rwa [nd_get hx] at this) k hk
  obtain ⟨l, m⟩ := f
  unfold rightF headOK
  simp only at hl h38 h39 h40 h41 h42 h43 ⊢
  have hlm : (l.map oNode).length = l.length := List.length_map ..
  refine FnOK.startC (rvs := [.tmp 2]) G G_good Try.func23 rfl Try.ntmps23 rfl rfl ?_; delta List.toArray; ((with_reducible conv => whnf); (with_reducible conv => congr <;> reduce); repeat ((first | (with_reducible refine HaltK.mk ?_) | (with_reducible refine StopK.mk ?_)); (with_reducible conv => whnf); (with_reducible conv => congr <;> reduce)))
  by_cases e1 : m < 1
  · have c1 : decide (1 ≤ m) = false := decide_eq_false (by omega)
    rw [c1]
    repeat' (first
    | (first
    | ((with_reducible show IfK _ _ _ _); first | refine IfK.ff ?_ | refine IfK.tt ?_ | refine IfK.no (by first | rfl | assumption | exact nf (by assumption) | exact nt (by assumption) | ((try simp only [castN]); first | (simp [e1]; done) | (simp [e1]; omega))) ?_ | refine IfK.yes (by first | rfl | assumption | exact nf (by assumption) | exact nt (by assumption) | ((try simp only [castN]); first | (simp [e1]; done) | (simp [e1]; omega))) ?_)
    | ((with_reducible show NeedK _ _ _ _); refine NeedK.mk (by (try simp only [castN]); omega) ?_)
    | ((with_reducible show DrawK _ _ _ _); refine DrawK.mk (by kernel_rfl) (by kernel_rfl) (by kernel_rfl) ?_)) <;> ((with_reducible conv => whnf); (with_reducible conv => congr <;> reduce); repeat ((first | (with_reducible refine HaltK.mk ?_) | (with_reducible refine StopK.mk ?_)); (with_reducible conv => whnf); (with_reducible conv => congr <;> reduce)))
    | ((with_reducible show (_ ∧ _) ∧ _ ∧ _); refine ⟨⟨rfl, rfl⟩, ?_, ?_⟩ <;> (with_reducible conv => whnf) <;> repeat' (first | (with_reducible exact trivial) | (with_reducible refine And.intro ?_ ?_ <;> with_reducible conv => whnf))))
    all_goals simp
  by_cases e2 : 400 < m
  · have c1 : decide (m ≤ 400) = false := decide_eq_false (by omega)
    rw [c1]
    repeat' (first
    | (first
    | ((with_reducible show IfK _ _ _ _); first | refine IfK.ff ?_ | refine IfK.tt ?_ | refine IfK.no (by first | rfl | assumption | exact nf (by assumption) | exact nt (by assumption) | ((try simp only [castN]); first | (simp [eq_false e1, e2]; done) | (simp [eq_false e1, e2]; omega))) ?_ | refine IfK.yes (by first | rfl | assumption | exact nf (by assumption) | exact nt (by assumption) | ((try simp only [castN]); first | (simp [eq_false e1, e2]; done) | (simp [eq_false e1, e2]; omega))) ?_)
    | ((with_reducible show NeedK _ _ _ _); refine NeedK.mk (by (try simp only [castN]); omega) ?_)
    | ((with_reducible show DrawK _ _ _ _); refine DrawK.mk (by kernel_rfl) (by kernel_rfl) (by kernel_rfl) ?_)) <;> ((with_reducible conv => whnf); (with_reducible conv => congr <;> reduce); repeat ((first | (with_reducible refine HaltK.mk ?_) | (with_reducible refine StopK.mk ?_)); (with_reducible conv => whnf); (with_reducible conv => congr <;> reduce)))
    | ((with_reducible show (_ ∧ _) ∧ _ ∧ _); refine ⟨⟨rfl, rfl⟩, ?_, ?_⟩ <;> (with_reducible conv => whnf) <;> repeat' (first | (with_reducible exact trivial) | (with_reducible refine And.intro ?_ ?_ <;> with_reducible conv => whnf))))
    all_goals simp
  by_cases e3 : l.length < 1
  · have c1 : decide (1 ≤ l.length) = false := decide_eq_false (by omega)
    have e3' : (l.length : Int) < 1 := by omega
    rw [c1]
    repeat' (first
    | (first
    | ((with_reducible show IfK _ _ _ _); first | refine IfK.ff ?_ | refine IfK.tt ?_ | refine IfK.no (by first | rfl | assumption | exact nf (by assumption) | exact nt (by assumption) | ((try simp only [castN]); first | (simp [eq_false e1, eq_false e2, hlm, e3']; done) | (simp [eq_false e1, eq_false e2, hlm, e3']; omega))) ?_ | refine IfK.yes (by first | rfl | assumption | exact nf (by assumption) | exact nt (by assumption) | ((try simp only [castN]); first | (simp [eq_false e1, eq_false e2, hlm, e3']; done) | (simp [eq_false e1, eq_false e2, hlm, e3']; omega))) ?_)
    | ((with_reducible show NeedK _ _ _ _); refine NeedK.mk (by (try simp only [castN]); omega) ?_)
    | ((with_reducible show DrawK _ _ _ _); refine DrawK.mk (by kernel_rfl) (by kernel_rfl) (by kernel_rfl) ?_)) <;> ((with_reducible conv => whnf); (with_reducible conv => congr <;> reduce); repeat ((first | (with_reducible refine HaltK.mk ?_) | (with_reducible refine StopK.mk ?_)); (with_reducible conv => whnf); (with_reducible conv => congr <;> reduce)))
    | ((with_reducible show (_ ∧ _) ∧ _ ∧ _); refine ⟨⟨rfl, rfl⟩, ?_, ?_⟩ <;> (with_reducible conv => whnf) <;> repeat' (first | (with_reducible exact trivial) | (with_reducible refine And.intro ?_ ?_ <;> with_reducible conv => whnf))))
    all_goals simp
  have e3' : ¬ (l.length : Int) < 1 := by omega
  by_cases e4 : m < (l.length : Int)
  · have c1 : decide ((l.length : Int) ≤ m) = false := decide_eq_false (by omega)
    rw [c1]
    repeat' (first
    | (first
    | ((with_reducible show IfK _ _ _ _); first | refine IfK.ff ?_ | refine IfK.tt ?_ | refine IfK.no (by first | rfl | assumption | exact nf (by assumption) | exact nt (by assumption) | ((try simp only [castN]); first | (simp [eq_false e1, eq_false e2, hlm, eq_false e3', e4]; done) | (simp [eq_false e1, eq_false e2, hlm, eq_false e3', e4]; omega))) ?_ | refine IfK.yes (by first | rfl | assumption | exact nf (by assumption) | exact nt (by assumption) | ((try simp only [castN]); first | (simp [eq_false e1, eq_false e2, hlm, eq_false e3', e4]; done) | (simp [eq_false e1, eq_false e2, hlm, eq_false e3', e4]; omega))) ?_)
    | ((with_reducible show NeedK _ _ _ _); refine NeedK.mk (by (try simp only [castN]); omega) ?_)
    | ((with_reducible show DrawK _ _ _ _); refine DrawK.mk (by kernel_rfl) (by kernel_rfl) (by kernel_rfl) ?_)) <;> ((with_reducible conv => whnf); (with_reducible conv => congr <;> reduce); repeat ((first | (with_reducible refine HaltK.mk ?_) | (with_reducible refine StopK.mk ?_)); (with_reducible conv => whnf); (with_reducible conv => congr <;> reduce)))
    | ((with_reducible show (_ ∧ _) ∧ _ ∧ _); refine ⟨⟨rfl, rfl⟩, ?_, ?_⟩ <;> (with_reducible conv => whnf) <;> repeat' (first | (with_reducible exact trivial) | (with_reducible refine And.intro ?_ ?_ <;> with_reducible conv => whnf))))
    all_goals simp
  obtain ⟨x0, hx0⟩ : ∃ x, l[0]? = some x := ⟨_, List.getElem?_eq_getElem (by omega)⟩
  have hn0 : nd l 0 = x0 := nd_get (k := 0) hx0
  rw [hn0]
  obtain ⟨z1, z2, z3, z4, z5, z6, z7, z8, z9, z10⟩ := x0
  by_cases e5 : ¬ z1 = 0
  · repeat' (first
    | (first
    | ((with_reducible show IfK _ _ _ _); first | refine IfK.ff ?_ | refine IfK.tt ?_ | refine IfK.no (by first | rfl | assumption | exact nf (by assumption) | exact nt (by assumption) | ((try simp only [castN]); first | (simp [eq_false e1, eq_false e2, hlm, eq_false e3', eq_false e4, eq_false e5]; done) | (simp [eq_false e1, eq_false e2, hlm, eq_false e3', eq_false e4, eq_false e5]; omega))) ?_ | refine IfK.yes (by first | rfl | assumption | exact nf (by assumption) | exact nt (by assumption) | ((try simp only [castN]); first | (simp [eq_false e1, eq_false e2, hlm, eq_false e3', eq_false e4, eq_false e5]; done) | (simp [eq_false e1, eq_false e2, hlm, eq_false e3', eq_false e4, eq_false e5]; omega))) ?_)
    | ((with_reducible show NeedK _ _ _ _); refine NeedK.mk (by (try simp only [castN]); omega) ?_)
    | ((with_reducible show DrawK _ _ _ _); refine DrawK.mk (by kernel_rfl) (by kernel_rfl) (by kernel_rfl) ?_)
    | (refine IdxK.mk 0 (eNode ⟨z1, z2, z3, z4, z5, z6, z7, z8, z9, z10⟩) rfl (node_get hx0) ?_)) <;> ((with_reducible conv => whnf); (with_reducible conv => congr <;> reduce); repeat ((first | (with_reducible refine HaltK.mk ?_) | (with_reducible refine StopK.mk ?_)); (with_reducible conv => whnf); (with_reducible conv => congr <;> reduce)))
    | ((with_reducible show (_ ∧ _) ∧ _ ∧ _); refine ⟨⟨rfl, rfl⟩, ?_, ?_⟩ <;> (with_reducible conv => whnf) <;> repeat' (first | (with_reducible exact trivial) | (with_reducible refine And.intro ?_ ?_ <;> with_reducible conv => whnf))))
    all_goals simp [e5]
  have e5 := Decidable.not_not.1 e5
  have c1 : (decide (1 ≤ m) && decide (m ≤ 400) && decide (1 ≤ l.length) && decide ((l.length : Int) ≤ m) && decide (z1 = 0)) = true := by
    simp only [Bool.and_eq_true, decide_eq_true_eq]; omega
  simp only at c1 ⊢
  rw [c1, Bool.true_and]
  repeat' (first
    | (first
    | ((with_reducible show IfK _ _ _ _); first | refine IfK.ff ?_ | refine IfK.tt ?_ | refine IfK.no (by first | rfl | assumption | exact nf (by assumption) | exact nt (by assumption) | ((try simp only [castN]); first | (simp [eq_false e1, eq_false e2, hlm, eq_false e3', eq_false e4, e5]; done) | (simp [eq_false e1, eq_false e2, hlm, eq_false e3', eq_false e4, e5]; omega))) ?_ | refine IfK.yes (by first | rfl | assumption | exact nf (by assumption) | exact nt (by assumption) | ((try simp only [castN]); first | (simp [eq_false e1, eq_false e2, hlm, eq_false e3', eq_false e4, e5]; done) | (simp [eq_false e1, eq_false e2, hlm, eq_false e3', eq_false e4, e5]; omega))) ?_)
    | ((with_reducible show NeedK _ _ _ _); refine NeedK.mk (by (try simp only [castN]); omega) ?_)
    | ((with_reducible show DrawK _ _ _ _); refine DrawK.mk (by kernel_rfl) (by kernel_rfl) (by kernel_rfl) ?_)
    | (refine IdxK.mk 0 (eNode ⟨z1, z2, z3, z4, z5, z6, z7, z8, z9, z10⟩) rfl (node_get hx0) ?_)) <;> ((with_reducible conv => whnf); (with_reducible conv => congr <;> reduce); repeat ((first | (with_reducible refine HaltK.mk ?_) | (with_reducible refine StopK.mk ?_)); (with_reducible conv => whnf); (with_reducible conv => congr <;> reduce)))
    | ((with_reducible show (_ ∧ _) ∧ _ ∧ _); refine ⟨⟨rfl, rfl⟩, ?_, ?_⟩ <;> (with_reducible conv => whnf) <;> repeat' (first | (with_reducible exact trivial) | (with_reducible refine And.intro ?_ ?_ <;> with_reducible conv => whnf))))
  refine LoopK.use G G_good (fun (k : Nat) => [(1, .ptr 10 0 0), (44, eNodes l), (45, eInt l.length), (46, eInt k)]) (fun _ => [(10, .live 2 [eFor ⟨l, m⟩] false)])
    (fun k => k ≤ l.length ∧ ∀ j x, j < k → l[j]? = some x → nodeOK l j x = true) (fun k => l.length - k) 0 ⟨Nat.zero_le _, fun j x h => by omega⟩
    ⟨⟨rfl, rfl⟩, ⟨⟨rfl, rfl⟩, rfl, by show (l.length : Int) = ((l.map oNode).length : Int); rw [hlm], rfl, trivial⟩, ⟨⟨rfl, rfl, trivial⟩, trivial⟩, trivial⟩ ?_
  rintro k ⟨hk, hok⟩
  ((with_reducible conv => whnf); (with_reducible conv => congr <;> reduce); repeat ((first | (with_reducible refine HaltK.mk ?_) | (with_reducible refine StopK.mk ?_)); (with_reducible conv => whnf); (with_reducible conv => congr <;> reduce)))
  refine IfK.mk (fun g1 => ?_) (fun g1 => ?_) <;> (try simp only [castN] at g1) <;> ((with_reducible conv => whnf); (with_reducible conv => congr <;> reduce); repeat ((first | (with_reducible refine HaltK.mk ?_) | (with_reducible refine StopK.mk ?_)); (with_reducible conv => whnf); (with_reducible conv => congr <;> reduce)))
  · have hk' : k < l.length := by simp only [decide_eq_true_eq] at g1; omega
    obtain ⟨x, hx⟩ : ∃ x, l[k]? = some x := ⟨_, List.getElem?_eq_getElem hk'⟩
    have h38' := h38 x (List.mem_of_getElem? hx)
    have h39' := h39 k x hx
    have h40' := h40 k x hx
    have h41' := h41 k x hx
    have h42' := h42 k x hx
    have bad : nodeOK l k x = false → allIx (fun k x => nodeOK l k x) 0 l = false := fun h => allIx_no hx h
    have good : nodeOK l k x = true → ∀ j y, j < k + 1 → l[j]? = some y → nodeOK l j y = true := fun h j y hj hy => by
      rcases Nat.lt_or_ge j k with h6 | h6
      · exact hok j y h6 hy
      · have : j = k := by omega
        subst this
        rw [hx] at hy; cases hy; exact h
    obtain ⟨a1, a2, a3, a4, a5, a6, a7, a8, a9, a10⟩ := x
    refine IdxK.mk k (eNode ⟨a1, a2, a3, a4, a5, a6, a7, a8, a9, a10⟩) rfl (node_get hx) ?_; ((with_reducible conv => whnf); (with_reducible conv => congr <;> reduce); repeat ((first | (with_reducible refine HaltK.mk ?_) | (with_reducible refine StopK.mk ?_)); (with_reducible conv => whnf); (with_reducible conv => congr <;> reduce)))
    cases q1 : namedN ⟨a1, a2, a3, a4, a5, a6, a7, a8, a9, a10⟩ with
    | false =>
      rw [bad (by unfold nodeOK; rw [q1]; rfl), Bool.false_and]
      repeat' (first
    | (first
    | ((with_reducible show IfK _ _ _ _); first | refine IfK.ff ?_ | refine IfK.tt ?_ | refine IfK.no (by first | rfl | assumption | exact nf (by assumption) | exact nt (by assumption) | ((try simp only [castN]); first | (simp [q1]; done) | (simp [q1]; omega))) ?_ | refine IfK.yes (by first | rfl | assumption | exact nf (by assumption) | exact nt (by assumption) | ((try simp only [castN]); first | (simp [q1]; done) | (simp [q1]; omega))) ?_)
    | ((with_reducible show NeedK _ _ _ _); refine NeedK.mk (by (try simp only [castN]); omega) ?_)
    | ((with_reducible show DrawK _ _ _ _); refine DrawK.mk (by kernel_rfl) (by kernel_rfl) (by kernel_rfl) ?_)
    | ((with_reducible show CallK _ _ 38 _ _ _ _); refine CallK.lit [] h38' c38 ⟨⟨rfl, rfl, rfl, rfl, rfl, rfl, rfl, rfl, rfl, rfl, trivial⟩, trivial⟩ rfl rfl ?_)) <;> ((with_reducible conv => whnf); (with_reducible conv => congr <;> reduce); repeat ((first | (with_reducible refine HaltK.mk ?_) | (with_reducible refine StopK.mk ?_)); (with_reducible conv => whnf); (with_reducible conv => congr <;> reduce)))
    | ((with_reducible show (_ ∧ _) ∧ _ ∧ _); refine ⟨⟨rfl, rfl⟩, ?_, ?_⟩ <;> (with_reducible conv => whnf) <;> repeat' (first | (with_reducible exact trivial) | (with_reducible refine And.intro ?_ ?_ <;> with_reducible conv => whnf))))
    | true =>
      cases q2 : ownedN l k ⟨a1, a2, a3, a4, a5, a6, a7, a8, a9, a10⟩ with
      | false =>
        rw [bad (by unfold nodeOK; rw [q1, q2]; rfl), Bool.false_and]
        repeat' (first
    | (first
    | ((with_reducible show IfK _ _ _ _); first | refine IfK.ff ?_ | refine IfK.tt ?_ | refine IfK.no (by first | rfl | assumption | exact nf (by assumption) | exact nt (by assumption) | ((try simp only [castN]); first | (simp [q1, q2]; done) | (simp [q1, q2]; omega))) ?_ | refine IfK.yes (by first | rfl | assumption | exact nf (by assumption) | exact nt (by assumption) | ((try simp only [castN]); first | (simp [q1, q2]; done) | (simp [q1, q2]; omega))) ?_)
    | ((with_reducible show NeedK _ _ _ _); refine NeedK.mk (by (try simp only [castN]); omega) ?_)
    | ((with_reducible show DrawK _ _ _ _); refine DrawK.mk (by kernel_rfl) (by kernel_rfl) (by kernel_rfl) ?_)
    | ((with_reducible show CallK _ _ 38 _ _ _ _); refine CallK.lit [] h38' c38 ⟨⟨rfl, rfl, rfl, rfl, rfl, rfl, rfl, rfl, rfl, rfl, trivial⟩, trivial⟩ rfl rfl ?_)
    | ((with_reducible show CallK _ _ 39 _ _ _ _); refine CallK.lit [] h39' c39 ⟨⟨rfl, rfl, trivial⟩, rfl, trivial⟩ rfl rfl ?_)) <;> ((with_reducible conv => whnf); (with_reducible conv => congr <;> reduce); repeat ((first | (with_reducible refine HaltK.mk ?_) | (with_reducible refine StopK.mk ?_)); (with_reducible conv => whnf); (with_reducible conv => congr <;> reduce)))
    | ((with_reducible show (_ ∧ _) ∧ _ ∧ _); refine ⟨⟨rfl, rfl⟩, ?_, ?_⟩ <;> (with_reducible conv => whnf) <;> repeat' (first | (with_reducible exact trivial) | (with_reducible refine And.intro ?_ ?_ <;> with_reducible conv => whnf))))
      | true =>
        cases q3 : hungN l k ⟨a1, a2, a3, a4, a5, a6, a7, a8, a9, a10⟩ with
        | false =>
          rw [bad (by unfold nodeOK; rw [q1, q2, q3]; rfl), Bool.false_and]
          repeat' (first
    | (first
    | ((with_reducible show IfK _ _ _ _); first | refine IfK.ff ?_ | refine IfK.tt ?_ | refine IfK.no (by first | rfl | assumption | exact nf (by assumption) | exact nt (by assumption) | ((try simp only [castN]); first | (simp [q1, q2, q3]; done) | (simp [q1, q2, q3]; omega))) ?_ | refine IfK.yes (by first | rfl | assumption | exact nf (by assumption) | exact nt (by assumption) | ((try simp only [castN]); first | (simp [q1, q2, q3]; done) | (simp [q1, q2, q3]; omega))) ?_)
    | ((with_reducible show NeedK _ _ _ _); refine NeedK.mk (by (try simp only [castN]); omega) ?_)
    | ((with_reducible show DrawK _ _ _ _); refine DrawK.mk (by kernel_rfl) (by kernel_rfl) (by kernel_rfl) ?_)
    | ((with_reducible show CallK _ _ 38 _ _ _ _); refine CallK.lit [] h38' c38 ⟨⟨rfl, rfl, rfl, rfl, rfl, rfl, rfl, rfl, rfl, rfl, trivial⟩, trivial⟩ rfl rfl ?_)
    | ((with_reducible show CallK _ _ 39 _ _ _ _); refine CallK.lit [] h39' c39 ⟨⟨rfl, rfl, trivial⟩, rfl, trivial⟩ rfl rfl ?_)
    | ((with_reducible show CallK _ _ 40 _ _ _ _); refine CallK.lit [] h40' c40 ⟨⟨rfl, rfl, trivial⟩, rfl, trivial⟩ rfl rfl ?_)) <;> ((with_reducible conv => whnf); (with_reducible conv => congr <;> reduce); repeat ((first | (with_reducible refine HaltK.mk ?_) | (with_reducible refine StopK.mk ?_)); (with_reducible conv => whnf); (with_reducible conv => congr <;> reduce)))
    | ((with_reducible show (_ ∧ _) ∧ _ ∧ _); refine ⟨⟨rfl, rfl⟩, ?_, ?_⟩ <;> (with_reducible conv => whnf) <;> repeat' (first | (with_reducible exact trivial) | (with_reducible refine And.intro ?_ ?_ <;> with_reducible conv => whnf))))
        | true =>
          cases q4 : bearsN l k ⟨a1, a2, a3, a4, a5, a6, a7, a8, a9, a10⟩ with
          | false =>
            rw [bad (by unfold nodeOK; rw [q1, q2, q3, q4]; rfl), Bool.false_and]
            repeat' (first
    | (first
    | ((with_reducible show IfK _ _ _ _); first | refine IfK.ff ?_ | refine IfK.tt ?_ | refine IfK.no (by first | rfl | assumption | exact nf (by assumption) | exact nt (by assumption) | ((try simp only [castN]); first | (simp [q1, q2, q3, q4]; done) | (simp [q1, q2, q3, q4]; omega))) ?_ | refine IfK.yes (by first | rfl | assumption | exact nf (by assumption) | exact nt (by assumption) | ((try simp only [castN]); first | (simp [q1, q2, q3, q4]; done) | (simp [q1, q2, q3, q4]; omega))) ?_)
    | ((with_reducible show NeedK _ _ _ _); refine NeedK.mk (by (try simp only [castN]); omega) ?_)
    | ((with_reducible show DrawK _ _ _ _); refine DrawK.mk (by kernel_rfl) (by kernel_rfl) (by kernel_rfl) ?_)
    | ((with_reducible show CallK _ _ 38 _ _ _ _); refine CallK.lit [] h38' c38 ⟨⟨rfl, rfl, rfl, rfl, rfl, rfl, rfl, rfl, rfl, rfl, trivial⟩, trivial⟩ rfl rfl ?_)
    | ((with_reducible show CallK _ _ 39 _ _ _ _); refine CallK.lit [] h39' c39 ⟨⟨rfl, rfl, trivial⟩, rfl, trivial⟩ rfl rfl ?_)
    | ((with_reducible show CallK _ _ 40 _ _ _ _); refine CallK.lit [] h40' c40 ⟨⟨rfl, rfl, trivial⟩, rfl, trivial⟩ rfl rfl ?_)
    | ((with_reducible show CallK _ _ 41 _ _ _ _); refine CallK.lit [] h41' c41 ⟨⟨rfl, rfl, trivial⟩, rfl, trivial⟩ rfl rfl ?_)) <;> ((with_reducible conv => whnf); (with_reducible conv => congr <;> reduce); repeat ((first | (with_reducible refine HaltK.mk ?_) | (with_reducible refine StopK.mk ?_)); (with_reducible conv => whnf); (with_reducible conv => congr <;> reduce)))
    | ((with_reducible show (_ ∧ _) ∧ _ ∧ _); refine ⟨⟨rfl, rfl⟩, ?_, ?_⟩ <;> (with_reducible conv => whnf) <;> repeat' (first | (with_reducible exact trivial) | (with_reducible refine And.intro ?_ ?_ <;> with_reducible conv => whnf))))
          | true =>
            cases q5 : shadedN l k ⟨a1, a2, a3, a4, a5, a6, a7, a8, a9, a10⟩ with
            | false =>
              rw [bad (by unfold nodeOK; rw [q1, q2, q3, q4, q5]; rfl), Bool.false_and]
              repeat' (first
    | (first
    | ((with_reducible show IfK _ _ _ _); first | refine IfK.ff ?_ | refine IfK.tt ?_ | refine IfK.no (by first | rfl | assumption | exact nf (by assumption) | exact nt (by assumption) | ((try simp only [castN]); first | (simp [q1, q2, q3, q4, q5]; done) | (simp [q1, q2, q3, q4, q5]; omega))) ?_ | refine IfK.yes (by first | rfl | assumption | exact nf (by assumption) | exact nt (by assumption) | ((try simp only [castN]); first | (simp [q1, q2, q3, q4, q5]; done) | (simp [q1, q2, q3, q4, q5]; omega))) ?_)
    | ((with_reducible show NeedK _ _ _ _); refine NeedK.mk (by (try simp only [castN]); omega) ?_)
    | ((with_reducible show DrawK _ _ _ _); refine DrawK.mk (by kernel_rfl) (by kernel_rfl) (by kernel_rfl) ?_)
    | ((with_reducible show CallK _ _ 38 _ _ _ _); refine CallK.lit [] h38' c38 ⟨⟨rfl, rfl, rfl, rfl, rfl, rfl, rfl, rfl, rfl, rfl, trivial⟩, trivial⟩ rfl rfl ?_)
    | ((with_reducible show CallK _ _ 39 _ _ _ _); refine CallK.lit [] h39' c39 ⟨⟨rfl, rfl, trivial⟩, rfl, trivial⟩ rfl rfl ?_)
    | ((with_reducible show CallK _ _ 40 _ _ _ _); refine CallK.lit [] h40' c40 ⟨⟨rfl, rfl, trivial⟩, rfl, trivial⟩ rfl rfl ?_)
    | ((with_reducible show CallK _ _ 41 _ _ _ _); refine CallK.lit [] h41' c41 ⟨⟨rfl, rfl, trivial⟩, rfl, trivial⟩ rfl rfl ?_)
    | ((with_reducible show CallK _ _ 42 _ _ _ _); refine CallK.lit [] h42' c42 ⟨⟨rfl, rfl, trivial⟩, rfl, trivial⟩ rfl rfl ?_)) <;> ((with_reducible conv => whnf); (with_reducible conv => congr <;> reduce); repeat ((first | (with_reducible refine HaltK.mk ?_) | (with_reducible refine StopK.mk ?_)); (with_reducible conv => whnf); (with_reducible conv => congr <;> reduce)))
    | ((with_reducible show (_ ∧ _) ∧ _ ∧ _); refine ⟨⟨rfl, rfl⟩, ?_, ?_⟩ <;> (with_reducible conv => whnf) <;> repeat' (first | (with_reducible exact trivial) | (with_reducible refine And.intro ?_ ?_ <;> with_reducible conv => whnf))))
            | true =>
              have hnx := good (by unfold nodeOK; rw [q1, q2, q3, q4, q5]; rfl)
              repeat' (first
    | (first
    | ((with_reducible show IfK _ _ _ _); first | refine IfK.ff ?_ | refine IfK.tt ?_ | refine IfK.no (by first | rfl | assumption | exact nf (by assumption) | exact nt (by assumption) | ((try simp only [castN]); first | (simp [q1, q2, q3, q4, q5]; done) | (simp [q1, q2, q3, q4, q5]; omega))) ?_ | refine IfK.yes (by first | rfl | assumption | exact nf (by assumption) | exact nt (by assumption) | ((try simp only [castN]); first | (simp [q1, q2, q3, q4, q5]; done) | (simp [q1, q2, q3, q4, q5]; omega))) ?_)
    | ((with_reducible show NeedK _ _ _ _); refine NeedK.mk (by (try simp only [castN]); omega) ?_)
    | ((with_reducible show DrawK _ _ _ _); refine DrawK.mk (by kernel_rfl) (by kernel_rfl) (by kernel_rfl) ?_)
    | ((with_reducible show CallK _ _ 38 _ _ _ _); refine CallK.lit [] h38' c38 ⟨⟨rfl, rfl, rfl, rfl, rfl, rfl, rfl, rfl, rfl, rfl, trivial⟩, trivial⟩ rfl rfl ?_)
    | ((with_reducible show CallK _ _ 39 _ _ _ _); refine CallK.lit [] h39' c39 ⟨⟨rfl, rfl, trivial⟩, rfl, trivial⟩ rfl rfl ?_)
    | ((with_reducible show CallK _ _ 40 _ _ _ _); refine CallK.lit [] h40' c40 ⟨⟨rfl, rfl, trivial⟩, rfl, trivial⟩ rfl rfl ?_)
    | ((with_reducible show CallK _ _ 41 _ _ _ _); refine CallK.lit [] h41' c41 ⟨⟨rfl, rfl, trivial⟩, rfl, trivial⟩ rfl rfl ?_)
    | ((with_reducible show CallK _ _ 42 _ _ _ _); refine CallK.lit [] h42' c42 ⟨⟨rfl, rfl, trivial⟩, rfl, trivial⟩ rfl rfl ?_)
    | ((with_reducible show NextK _ _); refine NextK.mk (k + 1) ⟨by omega, hnx⟩ (by omega) ⟨⟨rfl, rfl⟩, ⟨⟨rfl, rfl⟩, rfl, rfl, by show ((k + 1 : Nat) : Int) = (k : Int) + 1; omega, trivial⟩, ⟨⟨rfl, rfl, trivial⟩, trivial⟩, trivial⟩)) <;> ((with_reducible conv => whnf); (with_reducible conv => congr <;> reduce); repeat ((first | (with_reducible refine HaltK.mk ?_) | (with_reducible refine StopK.mk ?_)); (with_reducible conv => whnf); (with_reducible conv => congr <;> reduce)))
    | ((with_reducible show (_ ∧ _) ∧ _ ∧ _); refine ⟨⟨rfl, rfl⟩, ?_, ?_⟩ <;> (with_reducible conv => whnf) <;> repeat' (first | (with_reducible exact trivial) | (with_reducible refine And.intro ?_ ?_ <;> with_reducible conv => whnf))))
  · have hkl : k = l.length := by simp only [decide_eq_false_iff_not] at g1; omega
    have hall : ∀ (j : Nat) (x : NodeM), l[j]? = some x → nodeOK l j x = true := fun j x hx => hok j x (by have := (List.getElem?_eq_some_iff.1 hx).1; omega) hx
    rw [allIx_yes hall, Bool.true_and]
    have h43' := h43 fun n hn => by
      obtain ⟨k, x, rfl, hk, hx⟩ := there_iff.1 hn
      rw [hx]; exact hall k x hk
    refine LoopK.use G G_good (fun (k : Nat) => [(1, .ptr 10 0 0), (82, eInt l.length), (83, eInt k)]) (fun _ => [(10, .live 2 [eFor ⟨l, m⟩] false)])
      (fun k => k ≤ l.length ∧ ∀ (j : Nat) (x : NodeM), j < k → l[j]? = some x → endsN l l.length j = true) (fun k => l.length - k) 0 ⟨Nat.zero_le _, fun j x h => by omega⟩
      ⟨⟨rfl, rfl⟩, ⟨⟨rfl, rfl⟩, by show (l.length : Int) = ((l.map oNode).length : Int); rw [hlm], rfl, trivial⟩, ⟨⟨rfl, rfl, trivial⟩, trivial⟩, trivial⟩ ?_
    rintro i ⟨hi, hends⟩
    ((with_reducible conv => whnf); (with_reducible conv => congr <;> reduce); repeat ((first | (with_reducible refine HaltK.mk ?_) | (with_reducible refine StopK.mk ?_)); (with_reducible conv => whnf); (with_reducible conv => congr <;> reduce)))
    refine IfK.mk (fun g2 => ?_) (fun g2 => ?_) <;> (try simp only [castN] at g2) <;> ((with_reducible conv => whnf); (with_reducible conv => congr <;> reduce); repeat ((first | (with_reducible refine HaltK.mk ?_) | (with_reducible refine StopK.mk ?_)); (with_reducible conv => whnf); (with_reducible conv => congr <;> reduce)))
    · have hi' : i < l.length := by simp only [decide_eq_true_eq] at g2; omega
      obtain ⟨y, hy⟩ : ∃ y, l[i]? = some y := ⟨_, List.getElem?_eq_getElem hi'⟩
      have h43'' := h43' i hi'
      refine CallK.lit [] h43'' c43 ⟨⟨rfl, rfl, trivial⟩, rfl, trivial⟩ rfl rfl ?_; ((with_reducible conv => whnf); (with_reducible conv => congr <;> reduce); repeat ((first | (with_reducible refine HaltK.mk ?_) | (with_reducible refine StopK.mk ?_)); (with_reducible conv => whnf); (with_reducible conv => congr <;> reduce)))
      cases q : endsN l l.length i with
      | false =>
        rw [allIx_no hy q]
        repeat' (first
    | (first
    | ((with_reducible show IfK _ _ _ _); first | refine IfK.ff ?_ | refine IfK.tt ?_ | refine IfK.no (by first | rfl | assumption | exact nf (by assumption) | exact nt (by assumption) | ((try simp only [castN]); first | (simp [q]; done) | (simp [q]; omega))) ?_ | refine IfK.yes (by first | rfl | assumption | exact nf (by assumption) | exact nt (by assumption) | ((try simp only [castN]); first | (simp [q]; done) | (simp [q]; omega))) ?_)
    | ((with_reducible show NeedK _ _ _ _); refine NeedK.mk (by (try simp only [castN]); omega) ?_)
    | ((with_reducible show DrawK _ _ _ _); refine DrawK.mk (by kernel_rfl) (by kernel_rfl) (by kernel_rfl) ?_)) <;> ((with_reducible conv => whnf); (with_reducible conv => congr <;> reduce); repeat ((first | (with_reducible refine HaltK.mk ?_) | (with_reducible refine StopK.mk ?_)); (with_reducible conv => whnf); (with_reducible conv => congr <;> reduce)))
    | ((with_reducible show (_ ∧ _) ∧ _ ∧ _); refine ⟨⟨rfl, rfl⟩, ?_, ?_⟩ <;> (with_reducible conv => whnf) <;> repeat' (first | (with_reducible exact trivial) | (with_reducible refine And.intro ?_ ?_ <;> with_reducible conv => whnf))))
      | true =>
        repeat' (first
    | (first
    | ((with_reducible show IfK _ _ _ _); first | refine IfK.ff ?_ | refine IfK.tt ?_ | refine IfK.no (by first | rfl | assumption | exact nf (by assumption) | exact nt (by assumption) | ((try simp only [castN]); first | (simp [q]; done) | (simp [q]; omega))) ?_ | refine IfK.yes (by first | rfl | assumption | exact nf (by assumption) | exact nt (by assumption) | ((try simp only [castN]); first | (simp [q]; done) | (simp [q]; omega))) ?_)
    | ((with_reducible show NeedK _ _ _ _); refine NeedK.mk (by (try simp only [castN]); omega) ?_)
    | ((with_reducible show DrawK _ _ _ _); refine DrawK.mk (by kernel_rfl) (by kernel_rfl) (by kernel_rfl) ?_)
    | ((with_reducible show NextK _ _); refine NextK.mk (i + 1) ⟨by omega, fun j x hj hx => ?_⟩ (by omega) ⟨⟨rfl, rfl⟩, ⟨⟨rfl, rfl⟩, rfl, by show ((i + 1 : Nat) : Int) = (i : Int) + 1; omega, trivial⟩, ⟨⟨rfl, rfl, trivial⟩, trivial⟩, trivial⟩)) <;> ((with_reducible conv => whnf); (with_reducible conv => congr <;> reduce); repeat ((first | (with_reducible refine HaltK.mk ?_) | (with_reducible refine StopK.mk ?_)); (with_reducible conv => whnf); (with_reducible conv => congr <;> reduce)))
    | ((with_reducible show (_ ∧ _) ∧ _ ∧ _); refine ⟨⟨rfl, rfl⟩, ?_, ?_⟩ <;> (with_reducible conv => whnf) <;> repeat' (first | (with_reducible exact trivial) | (with_reducible refine And.intro ?_ ?_ <;> with_reducible conv => whnf))))
        rcases Nat.lt_or_ge j i with h6 | h6
        · exact hends j x h6 hx
        · have : j = i := by omega
          rw [this]; exact q
    · have hil : i = l.length := by simp only [decide_eq_false_iff_not] at g2; omega
      rw [allIx_yes fun j x hx => hends j x (by have := (List.getElem?_eq_some_iff.1 hx).1; omega) hx]
      refine ⟨⟨rfl, rfl⟩, ?_, ?_⟩ <;> (with_reducible conv => whnf) <;> repeat' (first | (with_reducible exact trivial) | (with_reducible refine And.intro ?_ ?_ <;> with_reducible conv => whnf))
set_option maxHeartbeats 4000000 in
/-- forest.Right -/
theorem f13_ok (f : ForM) (hs : SmallN f.nodes) : FnOK Try.prog 13 [] [eFor f] [] (eBool (rightF f)) := by
  have h23 := f23_ok f hs
  obtain ⟨l, m⟩ := f
  refine FnOK.startC (rvs := [.tmp 2]) G G_good Try.func13 rfl Try.ntmps13 rfl rfl ?_; delta List.toArray; ((with_reducible conv => whnf); (with_reducible conv => congr <;> reduce); repeat ((first | (with_reducible refine HaltK.mk ?_) | (with_reducible refine StopK.mk ?_)); (with_reducible conv => whnf); (with_reducible conv => congr <;> reduce)))
  refine CallK.lit [] h23 c23 ⟨⟨rfl, rfl, trivial⟩, trivial⟩ rfl rfl ?_; ((with_reducible conv => whnf); (with_reducible conv => congr <;> reduce); repeat ((first | (with_reducible refine HaltK.mk ?_) | (with_reducible refine StopK.mk ?_)); (with_reducible conv => whnf); (with_reducible conv => congr <;> reduce)))
  refine ⟨⟨rfl, rfl⟩, ?_, ?_⟩ <;> (with_reducible conv => whnf) <;> repeat' (first | (with_reducible exact trivial) | (with_reducible refine And.intro ?_ ?_ <;> with_reducible conv => whnf))
end Go.Proofs.Able
end
section
set_option linter.unusedSimpArgs false
set_option linter.unusedVariables false
namespace Go.Proofs.Able
open Go Go.Am Go.RowKit Go.Lib
set_option maxRecDepth 100000
theorem f34_ok (g : Nat) (cg : Callable Try.prog g) (caps : List AV) (hcaps : noRefL caps = true) (p : Int → Bool) (l : List Int) (hl : l.length ≤ 100000) (hf : ∀ a, a ∈ l → FnOK Try.prog g [] (eInt a :: caps) [] (eBool (p a))) :
    FnOK Try.prog 34 [] [eInts l, .clo (.func g) [] caps] [] (eInt (idxI p l)) := by
  have hlm : (l.map oInt).length = l.length := List.length_map ..
  refine FnOK.startC (rvs := [.tmp 4]) G G_good Try.func34 rfl Try.ntmps34 rfl rfl ?_; delta List.toArray; ((with_reducible conv => whnf); (with_reducible conv => congr <;> reduce); repeat ((first | (with_reducible refine HaltK.mk ?_) | (with_reducible refine StopK.mk ?_)); (with_reducible conv => whnf); (with_reducible conv => congr <;> reduce)))
  refine LoopK.use G G_good (fun (k : Nat) => [(0, eInts l), (1, .clo (.func g) [] caps), (7, eInt l.length), (8, eInt k)]) (fun _ => []) (fun k => k ≤ l.length ∧ ∀ j x, j < k → l[j]? = some x → p x = false) (fun k => l.length - k) 0 ⟨Nat.zero_le _, fun j x h => by omega⟩
    ⟨⟨rfl, rfl⟩, ⟨rfl, ⟨rfl, trivial, MFL_refl hcaps⟩, by show (l.length : Int) = ((l.map oInt).length : Int); rw [hlm], rfl, trivial⟩, trivial⟩ ?_
  rintro k ⟨hk, hno⟩
  ((with_reducible conv => whnf); (with_reducible conv => congr <;> reduce); repeat ((first | (with_reducible refine HaltK.mk ?_) | (with_reducible refine StopK.mk ?_)); (with_reducible conv => whnf); (with_reducible conv => congr <;> reduce)))
  refine IfK.mk (fun h1 => ?_) (fun h1 => ?_) <;> (try simp only [castN] at h1) <;> ((with_reducible conv => whnf); (with_reducible conv => congr <;> reduce); repeat ((first | (with_reducible refine HaltK.mk ?_) | (with_reducible refine StopK.mk ?_)); (with_reducible conv => whnf); (with_reducible conv => congr <;> reduce)))
  · simp only [decide_eq_true_eq] at h1
    have hk' : k < l.length := by omega
    obtain ⟨a, ha⟩ : ∃ a, l[k]? = some a := ⟨_, List.getElem?_eq_getElem hk'⟩
    refine IdxK.mk k (eInt a) rfl (int_get ha) ?_; ((with_reducible conv => whnf); (with_reducible conv => congr <;> reduce); repeat ((first | (with_reducible refine HaltK.mk ?_) | (with_reducible refine StopK.mk ?_)); (with_reducible conv => whnf); (with_reducible conv => congr <;> reduce)))
    refine CallK.lit [] (hf a (List.mem_of_getElem? ha)) cg ⟨rfl, MFL_refl hcaps⟩ rfl rfl ?_; ((with_reducible conv => whnf); (with_reducible conv => congr <;> reduce); repeat ((first | (with_reducible refine HaltK.mk ?_) | (with_reducible refine StopK.mk ?_)); (with_reducible conv => whnf); (with_reducible conv => congr <;> reduce)))
    refine IfK.mk (fun h2 => ?_) (fun h2 => ?_) <;> (try simp only [castN] at h2) <;> ((with_reducible conv => whnf); (with_reducible conv => congr <;> reduce); repeat ((first | (with_reducible refine HaltK.mk ?_) | (with_reducible refine StopK.mk ?_)); (with_reducible conv => whnf); (with_reducible conv => congr <;> reduce)))
    · refine ⟨⟨rfl, rfl⟩, ?_, ?_⟩ <;> (with_reducible conv => whnf) <;> repeat' (first | (with_reducible exact trivial) | (with_reducible refine And.intro ?_ ?_ <;> with_reducible conv => whnf))
      exact idxI_hit ha h2 hno
    · refine NeedK.mk (by (try simp only [castN]); omega) ?_; ((with_reducible conv => whnf); (with_reducible conv => congr <;> reduce); repeat ((first | (with_reducible refine HaltK.mk ?_) | (with_reducible refine StopK.mk ?_)); (with_reducible conv => whnf); (with_reducible conv => congr <;> reduce)))
      refine NextK.mk (k + 1) ⟨by omega, fun j x hj hx => ?_⟩ (by omega) ⟨⟨rfl, rfl⟩, ⟨rfl, ⟨rfl, trivial, MFL_refl hcaps⟩, rfl, by show ((k + 1 : Nat) : Int) = (k : Int) + 1; omega, trivial⟩, trivial⟩
      rcases Nat.lt_or_ge j k with h6 | h6
      · exact hno j x h6 hx
      · have : j = k := by omega
        subst this
        rw [ha] at hx; cases hx; exact h2
  · refine ⟨⟨rfl, rfl⟩, ?_, ?_⟩ <;> (with_reducible conv => whnf) <;> repeat' (first | (with_reducible exact trivial) | (with_reducible refine And.intro ?_ ?_ <;> with_reducible conv => whnf))
    have : k = l.length := by simp only [decide_eq_false_iff_not] at h1; omega
    exact idxI_none fun j x hx => hno j x (by have := (List.getElem?_eq_some_iff.1 hx).1; omega) hx
theorem f35_ok (f : ForM) (c : Int) (hc : thereN f.nodes c = true) : FnOK Try.prog 35 [] [eInt c, .fptr (eFor f) 0] [] (eBool (isLeg f.nodes c)) := by
  obtain ⟨k, x, rfl, hx, hnd⟩ := there_iff.1 hc
  obtain ⟨l, m⟩ := f
  unfold isLeg
  simp only at hx hnd ⊢
  rw [hnd]
  obtain ⟨a1, a2, a3, a4, a5, a6, a7, a8, a9, a10⟩ := x
  refine FnOK.startC (rvs := [.tmp 3]) G G_good Try.func35 rfl Try.ntmps35 rfl rfl ?_; delta List.toArray; ((with_reducible conv => whnf); (with_reducible conv => congr <;> reduce); repeat ((first | (with_reducible refine HaltK.mk ?_) | (with_reducible refine StopK.mk ?_)); (with_reducible conv => whnf); (with_reducible conv => congr <;> reduce)))
  refine IdxK.mk k (eNode ⟨a1, a2, a3, a4, a5, a6, a7, a8, a9, a10⟩) rfl (node_get hx) ?_; ((with_reducible conv => whnf); (with_reducible conv => congr <;> reduce); repeat ((first | (with_reducible refine HaltK.mk ?_) | (with_reducible refine StopK.mk ?_)); (with_reducible conv => whnf); (with_reducible conv => congr <;> reduce)))
  by_cases e1 : a1 = 1
  · repeat' (first
    | (first
    | ((with_reducible show IfK _ _ _ _); first | refine IfK.ff ?_ | refine IfK.tt ?_ | refine IfK.no (by first | rfl | assumption | exact nf (by assumption) | exact nt (by assumption) | ((try simp only [castN]); first | (simp [e1]; done) | (simp [e1]; omega))) ?_ | refine IfK.yes (by first | rfl | assumption | exact nf (by assumption) | exact nt (by assumption) | ((try simp only [castN]); first | (simp [e1]; done) | (simp [e1]; omega))) ?_)
    | ((with_reducible show NeedK _ _ _ _); refine NeedK.mk (by (try simp only [castN]); omega) ?_)
    | ((with_reducible show DrawK _ _ _ _); refine DrawK.mk (by kernel_rfl) (by kernel_rfl) (by kernel_rfl) ?_)
    | (refine IdxK.mk k (eNode ⟨a1, a2, a3, a4, a5, a6, a7, a8, a9, a10⟩) rfl (node_get hx) ?_)) <;> ((with_reducible conv => whnf); (with_reducible conv => congr <;> reduce); repeat ((first | (with_reducible refine HaltK.mk ?_) | (with_reducible refine StopK.mk ?_)); (with_reducible conv => whnf); (with_reducible conv => congr <;> reduce)))
    | ((with_reducible show (_ ∧ _) ∧ _ ∧ _); refine ⟨⟨rfl, rfl⟩, ?_, ?_⟩ <;> (with_reducible conv => whnf) <;> repeat' (first | (with_reducible exact trivial) | (with_reducible refine And.intro ?_ ?_ <;> with_reducible conv => whnf))))
    all_goals simp [e1]
  · repeat' (first
    | (first
    | ((with_reducible show IfK _ _ _ _); first | refine IfK.ff ?_ | refine IfK.tt ?_ | refine IfK.no (by first | rfl | assumption | exact nf (by assumption) | exact nt (by assumption) | ((try simp only [castN]); first | (simp [eq_false e1]; done) | (simp [eq_false e1]; omega))) ?_ | refine IfK.yes (by first | rfl | assumption | exact nf (by assumption) | exact nt (by assumption) | ((try simp only [castN]); first | (simp [eq_false e1]; done) | (simp [eq_false e1]; omega))) ?_)
    | ((with_reducible show NeedK _ _ _ _); refine NeedK.mk (by (try simp only [castN]); omega) ?_)
    | ((with_reducible show DrawK _ _ _ _); refine DrawK.mk (by kernel_rfl) (by kernel_rfl) (by kernel_rfl) ?_)) <;> ((with_reducible conv => whnf); (with_reducible conv => congr <;> reduce); repeat ((first | (with_reducible refine HaltK.mk ?_) | (with_reducible refine StopK.mk ?_)); (with_reducible conv => whnf); (with_reducible conv => congr <;> reduce)))
    | ((with_reducible show (_ ∧ _) ∧ _ ∧ _); refine ⟨⟨rfl, rfl⟩, ?_, ?_⟩ <;> (with_reducible conv => whnf) <;> repeat' (first | (with_reducible exact trivial) | (with_reducible refine And.intro ?_ ?_ <;> with_reducible conv => whnf))))
    all_goals simp [e1]
theorem f20_ok (f : ForM) (hs : SmallN f.nodes) (k : Nat) (x : NodeM) (hx : f.nodes[k]? = some x) (hkids : ∀ c ∈ x.kids, thereN f.nodes c = true) : FnOK Try.prog 20 [] [eFor f, eInt k] [] (eInt (legN f.nodes k)) := by
  have h7 := hs.kids x (List.mem_of_getElem? hx)
  have h35 := fun c hc => f35_ok f c (hkids c hc)
  obtain ⟨l, m⟩ := f
  unfold legN kidAt
  simp only at hx h7 hkids h35 ⊢
  rw [nd_get hx]
  obtain ⟨a1, a2, a3, a4, a5, a6, a7, a8, a9, a10⟩ := x
  simp only at h7 hkids h35 ⊢
  refine FnOK.startC (rvs := [.tmp 4]) G G_good Try.func20 rfl Try.ntmps20 rfl rfl ?_; delta List.toArray; ((with_reducible conv => whnf); (with_reducible conv => congr <;> reduce); repeat ((first | (with_reducible refine HaltK.mk ?_) | (with_reducible refine StopK.mk ?_)); (with_reducible conv => whnf); (with_reducible conv => congr <;> reduce)))
  refine IdxK.mk k (eNode ⟨a1, a2, a3, a4, a5, a6, a7, a8, a9, a10⟩) rfl (node_get hx) ?_; ((with_reducible conv => whnf); (with_reducible conv => congr <;> reduce); repeat ((first | (with_reducible refine HaltK.mk ?_) | (with_reducible refine StopK.mk ?_)); (with_reducible conv => whnf); (with_reducible conv => congr <;> reduce)))
  refine CallK.lit [20] (f34_ok 35 c35 [.fptr (eFor ⟨l, m⟩) 0] rfl (isLeg l) a7 (by omega) h35) c34 ⟨rfl, ⟨rfl, trivial, ⟨_, _, _, _, _, rfl, rfl, rfl, rfl, rfl, ⟨rfl, rfl, trivial⟩⟩, trivial⟩, trivial⟩ rfl rfl ?_; ((with_reducible conv => whnf); (with_reducible conv => congr <;> reduce); repeat ((first | (with_reducible refine HaltK.mk ?_) | (with_reducible refine StopK.mk ?_)); (with_reducible conv => whnf); (with_reducible conv => congr <;> reduce)))
  rcases idxI_cases (isLeg l) a7 with h | ⟨i, c, h, hi, _⟩
  · rw [h]
    repeat' (first
    | (first
    | ((with_reducible show IfK _ _ _ _); first | refine IfK.ff ?_ | refine IfK.tt ?_ | refine IfK.no (by first | rfl | assumption | exact nf (by assumption) | exact nt (by assumption) | ((try simp only [castN]); first | (simp [h]; done) | (simp [h]; omega))) ?_ | refine IfK.yes (by first | rfl | assumption | exact nf (by assumption) | exact nt (by assumption) | ((try simp only [castN]); first | (simp [h]; done) | (simp [h]; omega))) ?_)
    | ((with_reducible show NeedK _ _ _ _); refine NeedK.mk (by (try simp only [castN]); omega) ?_)
    | ((with_reducible show DrawK _ _ _ _); refine DrawK.mk (by kernel_rfl) (by kernel_rfl) (by kernel_rfl) ?_)) <;> ((with_reducible conv => whnf); (with_reducible conv => congr <;> reduce); repeat ((first | (with_reducible refine HaltK.mk ?_) | (with_reducible refine StopK.mk ?_)); (with_reducible conv => whnf); (with_reducible conv => congr <;> reduce)))
    | ((with_reducible show (_ ∧ _) ∧ _ ∧ _); refine ⟨⟨rfl, rfl⟩, ?_, ?_⟩ <;> (with_reducible conv => whnf) <;> repeat' (first | (with_reducible exact trivial) | (with_reducible refine And.intro ?_ ?_ <;> with_reducible conv => whnf))))
    all_goals simp
  · rw [h]
    repeat' (first
    | (first
    | ((with_reducible show IfK _ _ _ _); first | refine IfK.ff ?_ | refine IfK.tt ?_ | refine IfK.no (by first | rfl | assumption | exact nf (by assumption) | exact nt (by assumption) | ((try simp only [castN]); first | (simp [h]; done) | (simp [h]; omega))) ?_ | refine IfK.yes (by first | rfl | assumption | exact nf (by assumption) | exact nt (by assumption) | ((try simp only [castN]); first | (simp [h]; done) | (simp [h]; omega))) ?_)
    | ((with_reducible show NeedK _ _ _ _); refine NeedK.mk (by (try simp only [castN]); omega) ?_)
    | ((with_reducible show DrawK _ _ _ _); refine DrawK.mk (by kernel_rfl) (by kernel_rfl) (by kernel_rfl) ?_)
    | (refine IdxK.mk i (eInt c) rfl (int_get hi) ?_)) <;> ((with_reducible conv => whnf); (with_reducible conv => congr <;> reduce); repeat ((first | (with_reducible refine HaltK.mk ?_) | (with_reducible refine StopK.mk ?_)); (with_reducible conv => whnf); (with_reducible conv => congr <;> reduce)))
    | ((with_reducible show (_ ∧ _) ∧ _ ∧ _); refine ⟨⟨rfl, rfl⟩, ?_, ?_⟩ <;> (with_reducible conv => whnf) <;> repeat' (first | (with_reducible exact trivial) | (with_reducible refine And.intro ?_ ?_ <;> with_reducible conv => whnf))))
    all_goals simp [hi]
theorem f28_ok (x : NodeM) (hx : x.attrs.length ≤ 100000) : FnOK Try.prog 28 [] [eNode x] [] (eBool (disX x)) := by
  have h14 := f14_ok x.attrs hx disW
  unfold disX
  obtain ⟨a1, a2, a3, a4, a5, a6, a7, a8, a9, a10⟩ := x
  simp only at h14 hx ⊢
  refine FnOK.startC (rvs := [.tmp 2]) G G_good Try.func28 rfl Try.ntmps28 rfl rfl ?_; delta List.toArray; ((with_reducible conv => whnf); (with_reducible conv => congr <;> reduce); repeat ((first | (with_reducible refine HaltK.mk ?_) | (with_reducible refine StopK.mk ?_)); (with_reducible conv => whnf); (with_reducible conv => congr <;> reduce)))
  refine CallK.lit [] h14 c14 ⟨rfl, rfl, trivial⟩ rfl rfl ?_; ((with_reducible conv => whnf); (with_reducible conv => congr <;> reduce); repeat ((first | (with_reducible refine HaltK.mk ?_) | (with_reducible refine StopK.mk ?_)); (with_reducible conv => whnf); (with_reducible conv => congr <;> reduce)))
  by_cases e1 : a1 = 1
  · repeat' (first
    | (first
    | ((with_reducible show IfK _ _ _ _); first | refine IfK.ff ?_ | refine IfK.tt ?_ | refine IfK.no (by first | rfl | assumption | exact nf (by assumption) | exact nt (by assumption) | ((try simp only [castN]); first | (simp [e1]; done) | (simp [e1]; omega))) ?_ | refine IfK.yes (by first | rfl | assumption | exact nf (by assumption) | exact nt (by assumption) | ((try simp only [castN]); first | (simp [e1]; done) | (simp [e1]; omega))) ?_)
    | ((with_reducible show NeedK _ _ _ _); refine NeedK.mk (by (try simp only [castN]); omega) ?_)
    | ((with_reducible show DrawK _ _ _ _); refine DrawK.mk (by kernel_rfl) (by kernel_rfl) (by kernel_rfl) ?_)) <;> ((with_reducible conv => whnf); (with_reducible conv => congr <;> reduce); repeat ((first | (with_reducible refine HaltK.mk ?_) | (with_reducible refine StopK.mk ?_)); (with_reducible conv => whnf); (with_reducible conv => congr <;> reduce)))
    | ((with_reducible show (_ ∧ _) ∧ _ ∧ _); refine ⟨⟨rfl, rfl⟩, ?_, ?_⟩ <;> (with_reducible conv => whnf) <;> repeat' (first | (with_reducible exact trivial) | (with_reducible refine And.intro ?_ ?_ <;> with_reducible conv => whnf))))
    all_goals simp [e1]
  · repeat' (first
    | (first
    | ((with_reducible show IfK _ _ _ _); first | refine IfK.ff ?_ | refine IfK.tt ?_ | refine IfK.no (by first | rfl | assumption | exact nf (by assumption) | exact nt (by assumption) | ((try simp only [castN]); first | (simp [eq_false e1]; done) | (simp [eq_false e1]; omega))) ?_ | refine IfK.yes (by first | rfl | assumption | exact nf (by assumption) | exact nt (by assumption) | ((try simp only [castN]); first | (simp [eq_false e1]; done) | (simp [eq_false e1]; omega))) ?_)
    | ((with_reducible show NeedK _ _ _ _); refine NeedK.mk (by (try simp only [castN]); omega) ?_)
    | ((with_reducible show DrawK _ _ _ _); refine DrawK.mk (by kernel_rfl) (by kernel_rfl) (by kernel_rfl) ?_)) <;> ((with_reducible conv => whnf); (with_reducible conv => congr <;> reduce); repeat ((first | (with_reducible refine HaltK.mk ?_) | (with_reducible refine StopK.mk ?_)); (with_reducible conv => whnf); (with_reducible conv => congr <;> reduce)))
    | ((with_reducible show (_ ∧ _) ∧ _ ∧ _); refine ⟨⟨rfl, rfl⟩, ?_, ?_⟩ <;> (with_reducible conv => whnf) <;> repeat' (first | (with_reducible exact trivial) | (with_reducible refine And.intro ?_ ?_ <;> with_reducible conv => whnf))))
    all_goals simp [e1]
end Go.Proofs.Able
end
section
set_option linter.unusedSimpArgs false
set_option linter.unusedVariables false
namespace Go.Proofs.Able
open Go Go.Am Go.RowKit Go.Lib
set_option maxRecDepth 100000
theorem fin_succ {l : List NodeM} {m : Nat} {n : Int} : finN l (m + 1) n = if (nd l n).parent = -1 then true else finN l m (nd l n).parent := rfl
theorem walk_succ {l : List NodeM} {m : Nat} {b : Int} : walkB l (m + 1) b = if (nd l b).parent = -1 then false else (condB l (nd l b).parent b || walkB l m (nd l b).parent) := rfl
set_option maxHeartbeats 16000000 in
/-- barred -/
theorem f18_ok (f : ForM) (hs : SmallN f.nodes) (T : Tree f.nodes) (k : Nat) (x : NodeM) (hx : f.nodes[k]? = some x) : FnOK Try.prog 18 [] [eFor f, eInt k] [] (eBool (barN f.nodes k)) := by
  have h28 : ∀ x ∈ f.nodes, FnOK Try.prog 28 [] [eNode x] [] (eBool (disX x)) := fun x hx => f28_ok x (by have := hs.attrs x hx; omega)
  have h20 : ∀ (k : Nat) (x : NodeM), f.nodes[k]? = some x → FnOK Try.prog 20 [] [eFor f, eInt k] [] (eInt (legN f.nodes k)) := fun k x hx => f20_ok f hs k x hx fun c hc => by
    have := T.kid k (there_get hx) c
    rw [nd_get hx] at this
    exact (this hc).1
  have hfin := T.fin k (there_get hx)
  have hpar := T.par
  have hk := (List.getElem?_eq_some_iff.1 hx).1
  obtain ⟨l, m⟩ := f
  unfold barN
  simp only at h28 h20 hx hfin hpar hk ⊢
  rw [nd_get hx]
  have hx' := hx
  have h28x := h28 x (List.mem_of_getElem? hx)
  have hw : disX x = false → x.kind = 1 → ∀ b : Bool, walkB l l.length k = b → (disX x || (decide (x.kind = 1) && walkB l l.length k)) = b := fun h1 h2 b h => by rw [h1, h2, h]; simp
  have hwn : disX x = false → x.kind ≠ 1 → (disX x || (decide (x.kind = 1) && walkB l l.length k)) = false := fun h1 h2 => by rw [h1, decide_eq_false h2]; rfl
  have hwy : disX x = true → (disX x || (decide (x.kind = 1) && walkB l l.length k)) = true := fun h1 => by rw [h1]; rfl
  have hdk := @dis_kind x
  obtain ⟨a1, a2, a3, a4, a5, a6, a7, a8, a9, a10⟩ := x
  have hxp : (nd l k).parent = a6 := by rw [nd_get hx]
  simp only at hw hwn hwy hdk ⊢
  refine FnOK.startC (rvs := [.tmp 4]) G G_good Try.func18 rfl Try.ntmps18 rfl rfl ?_; delta List.toArray; ((with_reducible conv => whnf); (with_reducible conv => congr <;> reduce); repeat ((first | (with_reducible refine HaltK.mk ?_) | (with_reducible refine StopK.mk ?_)); (with_reducible conv => whnf); (with_reducible conv => congr <;> reduce)))
  refine IdxK.mk k (eNode ⟨a1, a2, a3, a4, a5, a6, a7, a8, a9, a10⟩) rfl (node_get hx) ?_; ((with_reducible conv => whnf); (with_reducible conv => congr <;> reduce); repeat ((first | (with_reducible refine HaltK.mk ?_) | (with_reducible refine StopK.mk ?_)); (with_reducible conv => whnf); (with_reducible conv => congr <;> reduce)))
  refine CallK.lit [] h28x c28 ⟨⟨rfl, rfl, rfl, rfl, rfl, rfl, rfl, rfl, rfl, rfl, trivial⟩, trivial⟩ rfl rfl ?_; ((with_reducible conv => whnf); (with_reducible conv => congr <;> reduce); repeat ((first | (with_reducible refine HaltK.mk ?_) | (with_reducible refine StopK.mk ?_)); (with_reducible conv => whnf); (with_reducible conv => congr <;> reduce)))
  cases d0 : disX ⟨a1, a2, a3, a4, a5, a6, a7, a8, a9, a10⟩ with
  | true =>
    have e1 := hdk d0
    rw [Bool.true_or]
    repeat' (first
    | (first
    | ((with_reducible show IfK _ _ _ _); first | refine IfK.ff ?_ | refine IfK.tt ?_ | refine IfK.no (by first | rfl | assumption | exact nf (by assumption) | exact nt (by assumption) | ((try simp only [castN]); first | (simp [d0, e1]; done) | (simp [d0, e1]; omega))) ?_ | refine IfK.yes (by first | rfl | assumption | exact nf (by assumption) | exact nt (by assumption) | ((try simp only [castN]); first | (simp [d0, e1]; done) | (simp [d0, e1]; omega))) ?_)
    | ((with_reducible show NeedK _ _ _ _); refine NeedK.mk (by (try simp only [castN]); omega) ?_)
    | ((with_reducible show DrawK _ _ _ _); refine DrawK.mk (by kernel_rfl) (by kernel_rfl) (by kernel_rfl) ?_)
    | (refine IdxK.mk k (eNode ⟨a1, a2, a3, a4, a5, a6, a7, a8, a9, a10⟩) rfl (node_get hx) ?_)) <;> ((with_reducible conv => whnf); (with_reducible conv => congr <;> reduce); repeat ((first | (with_reducible refine HaltK.mk ?_) | (with_reducible refine StopK.mk ?_)); (with_reducible conv => whnf); (with_reducible conv => congr <;> reduce)))
    | ((with_reducible show (_ ∧ _) ∧ _ ∧ _); refine ⟨⟨rfl, rfl⟩, ?_, ?_⟩ <;> (with_reducible conv => whnf) <;> repeat' (first | (with_reducible exact trivial) | (with_reducible refine And.intro ?_ ?_ <;> with_reducible conv => whnf))))
    all_goals simp [e1]
  | false =>
    by_cases e1 : ¬ a1 = 1
    · rw [decide_eq_false e1]
      repeat' (first
    | (first
    | ((with_reducible show IfK _ _ _ _); first | refine IfK.ff ?_ | refine IfK.tt ?_ | refine IfK.no (by first | rfl | assumption | exact nf (by assumption) | exact nt (by assumption) | ((try simp only [castN]); first | (simp [d0, eq_false e1]; done) | (simp [d0, eq_false e1]; omega))) ?_ | refine IfK.yes (by first | rfl | assumption | exact nf (by assumption) | exact nt (by assumption) | ((try simp only [castN]); first | (simp [d0, eq_false e1]; done) | (simp [d0, eq_false e1]; omega))) ?_)
    | ((with_reducible show NeedK _ _ _ _); refine NeedK.mk (by (try simp only [castN]); omega) ?_)
    | ((with_reducible show DrawK _ _ _ _); refine DrawK.mk (by kernel_rfl) (by kernel_rfl) (by kernel_rfl) ?_)
    | (refine IdxK.mk k (eNode ⟨a1, a2, a3, a4, a5, a6, a7, a8, a9, a10⟩) rfl (node_get hx) ?_)) <;> ((with_reducible conv => whnf); (with_reducible conv => congr <;> reduce); repeat ((first | (with_reducible refine HaltK.mk ?_) | (with_reducible refine StopK.mk ?_)); (with_reducible conv => whnf); (with_reducible conv => congr <;> reduce)))
    | ((with_reducible show (_ ∧ _) ∧ _ ∧ _); refine ⟨⟨rfl, rfl⟩, ?_, ?_⟩ <;> (with_reducible conv => whnf) <;> repeat' (first | (with_reducible exact trivial) | (with_reducible refine And.intro ?_ ?_ <;> with_reducible conv => whnf))))
      all_goals simp
    have e1 := Decidable.not_not.1 e1
    rw [decide_eq_true e1, Bool.false_or, Bool.true_and]
    repeat' (first
    | (first
    | ((with_reducible show IfK _ _ _ _); first | refine IfK.ff ?_ | refine IfK.tt ?_ | refine IfK.no (by first | rfl | assumption | exact nf (by assumption) | exact nt (by assumption) | ((try simp only [castN]); first | (simp [d0, e1]; done) | (simp [d0, e1]; omega))) ?_ | refine IfK.yes (by first | rfl | assumption | exact nf (by assumption) | exact nt (by assumption) | ((try simp only [castN]); first | (simp [d0, e1]; done) | (simp [d0, e1]; omega))) ?_)
    | ((with_reducible show NeedK _ _ _ _); refine NeedK.mk (by (try simp only [castN]); omega) ?_)
    | ((with_reducible show DrawK _ _ _ _); refine DrawK.mk (by kernel_rfl) (by kernel_rfl) (by kernel_rfl) ?_)
    | (refine IdxK.mk k (eNode ⟨a1, a2, a3, a4, a5, a6, a7, a8, a9, a10⟩) rfl (node_get hx) ?_)) <;> ((with_reducible conv => whnf); (with_reducible conv => congr <;> reduce); repeat ((first | (with_reducible refine HaltK.mk ?_) | (with_reducible refine StopK.mk ?_)); (with_reducible conv => whnf); (with_reducible conv => congr <;> reduce)))
    | ((with_reducible show (_ ∧ _) ∧ _ ∧ _); refine ⟨⟨rfl, rfl⟩, ?_, ?_⟩ <;> (with_reducible conv => whnf) <;> repeat' (first | (with_reducible exact trivial) | (with_reducible refine And.intro ?_ ?_ <;> with_reducible conv => whnf))))
    refine LoopK.use G G_good (fun (i : Nat × Nat) => [(2, .ptr 20 0 0), (5, eInt i.2), (6, eInt (nd l i.2).parent)]) (fun _ => [(20, .live 2 [eFor ⟨l, m⟩] false)])
      (fun i => i.2 < l.length ∧ finN l i.1 i.2 = true ∧ walkB l l.length k = walkB l i.1 i.2) (fun i => i.1) (l.length, k) ⟨hk, hfin, rfl⟩
      ⟨⟨rfl, rfl⟩, ⟨⟨rfl, rfl⟩, rfl, hxp, trivial⟩, ⟨⟨rfl, rfl, trivial⟩, trivial⟩, trivial⟩ ?_
    rintro ⟨n, b⟩ ⟨hb, hf, hwk⟩
    simp only at hb hf hwk
    obtain ⟨y, hy⟩ : ∃ y, l[b]? = some y := ⟨_, List.getElem?_eq_getElem hb⟩
    have hpb := hpar b (there_get hy)
    cases n with
    | zero => simp [finN] at hf
    | succ n =>
    rw [fin_succ] at hf
    rw [walk_succ] at hwk
    rw [nd_get hy] at hf hwk hpb
    ((with_reducible conv => whnf); (with_reducible conv => congr <;> reduce); repeat ((first | (with_reducible refine HaltK.mk ?_) | (with_reducible refine StopK.mk ?_)); (with_reducible conv => whnf); (with_reducible conv => congr <;> reduce)))
    simp only [nd_get hy]
    obtain ⟨b1, b2, b3, b4, b5, b6, b7, b8, b9, b10⟩ := y
    simp only at hf hwk hpb ⊢
    by_cases p1 : b6 = -1
    · rw [if_pos p1] at hwk
      rw [hwk]
      repeat' (first
    | (first
    | ((with_reducible show IfK _ _ _ _); first | refine IfK.ff ?_ | refine IfK.tt ?_ | refine IfK.no (by first | rfl | assumption | exact nf (by assumption) | exact nt (by assumption) | ((try simp only [castN]); first | (simp [p1]; done) | (simp [p1]; omega))) ?_ | refine IfK.yes (by first | rfl | assumption | exact nf (by assumption) | exact nt (by assumption) | ((try simp only [castN]); first | (simp [p1]; done) | (simp [p1]; omega))) ?_)
    | ((with_reducible show NeedK _ _ _ _); refine NeedK.mk (by (try simp only [castN]); omega) ?_)
    | ((with_reducible show DrawK _ _ _ _); refine DrawK.mk (by kernel_rfl) (by kernel_rfl) (by kernel_rfl) ?_)) <;> ((with_reducible conv => whnf); (with_reducible conv => congr <;> reduce); repeat ((first | (with_reducible refine HaltK.mk ?_) | (with_reducible refine StopK.mk ?_)); (with_reducible conv => whnf); (with_reducible conv => congr <;> reduce)))
    | ((with_reducible show (_ ∧ _) ∧ _ ∧ _); refine ⟨⟨rfl, rfl⟩, ?_, ?_⟩ <;> (with_reducible conv => whnf) <;> repeat' (first | (with_reducible exact trivial) | (with_reducible refine And.intro ?_ ?_ <;> with_reducible conv => whnf))))
    · rw [if_neg p1] at hf hwk
      obtain ⟨i, z, rfl, hz, hnz⟩ := there_iff.1 (hpb p1).1
      have h28z := h28 z (List.mem_of_getElem? hz)
      have h20z := h20 i z hz
      have hi := (List.getElem?_eq_some_iff.1 hz).1
      have hzp : (nd l i).parent = z.parent := by rw [hnz]
      unfold condB at hwk
      rw [hnz] at hwk
      obtain ⟨z1, z2, z3, z4, z5, z6, z7, z8, z9, z10⟩ := z
      simp only at hwk hzp
      have hne : ¬ ((i : Int) = -1) := p1
      refine IfK.yes (by simp [hne]) ?_; ((with_reducible conv => whnf); (with_reducible conv => congr <;> reduce); repeat ((first | (with_reducible refine HaltK.mk ?_) | (with_reducible refine StopK.mk ?_)); (with_reducible conv => whnf); (with_reducible conv => congr <;> reduce)))
      refine IdxK.mk i (eNode ⟨z1, z2, z3, z4, z5, z6, z7, z8, z9, z10⟩) rfl (node_get hz) ?_; ((with_reducible conv => whnf); (with_reducible conv => congr <;> reduce); repeat ((first | (with_reducible refine HaltK.mk ?_) | (with_reducible refine StopK.mk ?_)); (with_reducible conv => whnf); (with_reducible conv => congr <;> reduce)))
      by_cases f1 : z2 = fldW
      · cases d1 : disX ⟨z1, z2, z3, z4, z5, z6, z7, z8, z9, z10⟩ with
        | true =>
          by_cases g1 : legN l i = b
          · rw [d1, decide_eq_false (fun h : legN l i ≠ b => h g1), Bool.and_false, Bool.and_false, Bool.false_or] at hwk
            repeat' (first
    | (first
    | ((with_reducible show IfK _ _ _ _); first | refine IfK.ff ?_ | refine IfK.tt ?_ | refine IfK.no (by first | rfl | assumption | exact nf (by assumption) | exact nt (by assumption) | ((try simp only [castN]); first | (simp [f1, d1, g1]; done) | (simp [f1, d1, g1]; omega))) ?_ | refine IfK.yes (by first | rfl | assumption | exact nf (by assumption) | exact nt (by assumption) | ((try simp only [castN]); first | (simp [f1, d1, g1]; done) | (simp [f1, d1, g1]; omega))) ?_)
    | ((with_reducible show NeedK _ _ _ _); refine NeedK.mk (by (try simp only [castN]); omega) ?_)
    | ((with_reducible show DrawK _ _ _ _); refine DrawK.mk (by kernel_rfl) (by kernel_rfl) (by kernel_rfl) ?_)
    | ((with_reducible show CallK _ _ 28 _ _ _ _); refine CallK.lit [] h28z c28 ⟨⟨rfl, rfl, rfl, rfl, rfl, rfl, rfl, rfl, rfl, rfl, trivial⟩, trivial⟩ rfl rfl ?_)
    | ((with_reducible show CallK _ _ 20 _ _ _ _); refine CallK.lit [] h20z c20 ⟨⟨rfl, rfl, trivial⟩, rfl, trivial⟩ rfl rfl ?_)
    | (refine IdxK.mk i (eNode ⟨z1, z2, z3, z4, z5, z6, z7, z8, z9, z10⟩) rfl (node_get hz) ?_)
    | ((with_reducible show NextK _ _); refine NextK.mk (n, i) ⟨hi, hf, hwk⟩ (Nat.lt_succ_self n) ⟨⟨rfl, rfl⟩, ⟨⟨rfl, rfl⟩, rfl, hzp, trivial⟩, ⟨⟨rfl, rfl, trivial⟩, trivial⟩, trivial⟩)) <;> ((with_reducible conv => whnf); (with_reducible conv => congr <;> reduce); repeat ((first | (with_reducible refine HaltK.mk ?_) | (with_reducible refine StopK.mk ?_)); (with_reducible conv => whnf); (with_reducible conv => congr <;> reduce)))
    | ((with_reducible show (_ ∧ _) ∧ _ ∧ _); refine ⟨⟨rfl, rfl⟩, ?_, ?_⟩ <;> (with_reducible conv => whnf) <;> repeat' (first | (with_reducible exact trivial) | (with_reducible refine And.intro ?_ ?_ <;> with_reducible conv => whnf))))
          · rw [d1, decide_eq_true f1, decide_eq_true (show legN l i ≠ b from g1)] at hwk
            rw [hwk]
            repeat' (first
    | (first
    | ((with_reducible show IfK _ _ _ _); first | refine IfK.ff ?_ | refine IfK.tt ?_ | refine IfK.no (by first | rfl | assumption | exact nf (by assumption) | exact nt (by assumption) | ((try simp only [castN]); first | (simp [f1, d1, eq_false g1]; done) | (simp [f1, d1, eq_false g1]; omega))) ?_ | refine IfK.yes (by first | rfl | assumption | exact nf (by assumption) | exact nt (by assumption) | ((try simp only [castN]); first | (simp [f1, d1, eq_false g1]; done) | (simp [f1, d1, eq_false g1]; omega))) ?_)
    | ((with_reducible show NeedK _ _ _ _); refine NeedK.mk (by (try simp only [castN]); omega) ?_)
    | ((with_reducible show DrawK _ _ _ _); refine DrawK.mk (by kernel_rfl) (by kernel_rfl) (by kernel_rfl) ?_)
    | ((with_reducible show CallK _ _ 28 _ _ _ _); refine CallK.lit [] h28z c28 ⟨⟨rfl, rfl, rfl, rfl, rfl, rfl, rfl, rfl, rfl, rfl, trivial⟩, trivial⟩ rfl rfl ?_)
    | ((with_reducible show CallK _ _ 20 _ _ _ _); refine CallK.lit [] h20z c20 ⟨⟨rfl, rfl, trivial⟩, rfl, trivial⟩ rfl rfl ?_)) <;> ((with_reducible conv => whnf); (with_reducible conv => congr <;> reduce); repeat ((first | (with_reducible refine HaltK.mk ?_) | (with_reducible refine StopK.mk ?_)); (with_reducible conv => whnf); (with_reducible conv => congr <;> reduce)))
    | ((with_reducible show (_ ∧ _) ∧ _ ∧ _); refine ⟨⟨rfl, rfl⟩, ?_, ?_⟩ <;> (with_reducible conv => whnf) <;> repeat' (first | (with_reducible exact trivial) | (with_reducible refine And.intro ?_ ?_ <;> with_reducible conv => whnf))))
            all_goals simp
        | false =>
          rw [d1, Bool.false_and, Bool.and_false, Bool.false_or] at hwk
          repeat' (first
    | (first
    | ((with_reducible show IfK _ _ _ _); first | refine IfK.ff ?_ | refine IfK.tt ?_ | refine IfK.no (by first | rfl | assumption | exact nf (by assumption) | exact nt (by assumption) | ((try simp only [castN]); first | (simp [f1, d1]; done) | (simp [f1, d1]; omega))) ?_ | refine IfK.yes (by first | rfl | assumption | exact nf (by assumption) | exact nt (by assumption) | ((try simp only [castN]); first | (simp [f1, d1]; done) | (simp [f1, d1]; omega))) ?_)
    | ((with_reducible show NeedK _ _ _ _); refine NeedK.mk (by (try simp only [castN]); omega) ?_)
    | ((with_reducible show DrawK _ _ _ _); refine DrawK.mk (by kernel_rfl) (by kernel_rfl) (by kernel_rfl) ?_)
    | ((with_reducible show CallK _ _ 28 _ _ _ _); refine CallK.lit [] h28z c28 ⟨⟨rfl, rfl, rfl, rfl, rfl, rfl, rfl, rfl, rfl, rfl, trivial⟩, trivial⟩ rfl rfl ?_)
    | (refine IdxK.mk i (eNode ⟨z1, z2, z3, z4, z5, z6, z7, z8, z9, z10⟩) rfl (node_get hz) ?_)
    | ((with_reducible show NextK _ _); refine NextK.mk (n, i) ⟨hi, hf, hwk⟩ (Nat.lt_succ_self n) ⟨⟨rfl, rfl⟩, ⟨⟨rfl, rfl⟩, rfl, hzp, trivial⟩, ⟨⟨rfl, rfl, trivial⟩, trivial⟩, trivial⟩)) <;> ((with_reducible conv => whnf); (with_reducible conv => congr <;> reduce); repeat ((first | (with_reducible refine HaltK.mk ?_) | (with_reducible refine StopK.mk ?_)); (with_reducible conv => whnf); (with_reducible conv => congr <;> reduce)))
    | ((with_reducible show (_ ∧ _) ∧ _ ∧ _); refine ⟨⟨rfl, rfl⟩, ?_, ?_⟩ <;> (with_reducible conv => whnf) <;> repeat' (first | (with_reducible exact trivial) | (with_reducible refine And.intro ?_ ?_ <;> with_reducible conv => whnf))))
      · rw [decide_eq_false f1, Bool.false_and, Bool.false_or] at hwk
        repeat' (first
    | (first
    | ((with_reducible show IfK _ _ _ _); first | refine IfK.ff ?_ | refine IfK.tt ?_ | refine IfK.no (by first | rfl | assumption | exact nf (by assumption) | exact nt (by assumption) | ((try simp only [castN]); first | (simp [eq_false f1]; done) | (simp [eq_false f1]; omega))) ?_ | refine IfK.yes (by first | rfl | assumption | exact nf (by assumption) | exact nt (by assumption) | ((try simp only [castN]); first | (simp [eq_false f1]; done) | (simp [eq_false f1]; omega))) ?_)
    | ((with_reducible show NeedK _ _ _ _); refine NeedK.mk (by (try simp only [castN]); omega) ?_)
    | ((with_reducible show DrawK _ _ _ _); refine DrawK.mk (by kernel_rfl) (by kernel_rfl) (by kernel_rfl) ?_)
    | (refine IdxK.mk i (eNode ⟨z1, z2, z3, z4, z5, z6, z7, z8, z9, z10⟩) rfl (node_get hz) ?_)
    | ((with_reducible show NextK _ _); refine NextK.mk (n, i) ⟨hi, hf, hwk⟩ (Nat.lt_succ_self n) ⟨⟨rfl, rfl⟩, ⟨⟨rfl, rfl⟩, rfl, hzp, trivial⟩, ⟨⟨rfl, rfl, trivial⟩, trivial⟩, trivial⟩)) <;> ((with_reducible conv => whnf); (with_reducible conv => congr <;> reduce); repeat ((first | (with_reducible refine HaltK.mk ?_) | (with_reducible refine StopK.mk ?_)); (with_reducible conv => whnf); (with_reducible conv => congr <;> reduce)))
    | ((with_reducible show (_ ∧ _) ∧ _ ∧ _); refine ⟨⟨rfl, rfl⟩, ?_, ?_⟩ <;> (with_reducible conv => whnf) <;> repeat' (first | (with_reducible exact trivial) | (with_reducible refine And.intro ?_ ?_ <;> with_reducible conv => whnf))))
set_option maxHeartbeats 8000000 in
/-- Barred -/
theorem f9_ok (f : ForM) (hs : SmallN f.nodes) (n : Int) : FnOK Try.prog 9 [] [eFor f, eInt n] [] (eBool (thereN f.nodes n && (rightF f && barN f.nodes n))) := by
  have h13 := f13_ok f hs
  have h18 : rightF f = true → ∀ (k : Nat) (x : NodeM), f.nodes[k]? = some x → FnOK Try.prog 18 [] [eFor f, eInt k] [] (eBool (barN f.nodes k)) := fun hr k x hx => f18_ok f hs (tree_of hr) k x hx
  obtain ⟨l, m⟩ := f
  simp only at h13 h18 ⊢
  have hlm : (l.map oNode).length = l.length := List.length_map ..
  refine FnOK.startC (rvs := [.tmp 4]) G G_good Try.func9 rfl Try.ntmps9 rfl rfl ?_; delta List.toArray; ((with_reducible conv => whnf); (with_reducible conv => congr <;> reduce); repeat ((first | (with_reducible refine HaltK.mk ?_) | (with_reducible refine StopK.mk ?_)); (with_reducible conv => whnf); (with_reducible conv => congr <;> reduce)))
  by_cases e0 : ¬ 0 ≤ n
  · have ht : thereN l n = false := by unfold thereN; simp [e0]
    rw [ht]
    repeat' (first
    | (first
    | ((with_reducible show IfK _ _ _ _); first | refine IfK.ff ?_ | refine IfK.tt ?_ | refine IfK.no (by first | rfl | assumption | exact nf (by assumption) | exact nt (by assumption) | ((try simp only [castN]); first | (simp [eq_false e0]; done) | (simp [eq_false e0]; omega))) ?_ | refine IfK.yes (by first | rfl | assumption | exact nf (by assumption) | exact nt (by assumption) | ((try simp only [castN]); first | (simp [eq_false e0]; done) | (simp [eq_false e0]; omega))) ?_)
    | ((with_reducible show NeedK _ _ _ _); refine NeedK.mk (by (try simp only [castN]); omega) ?_)
    | ((with_reducible show DrawK _ _ _ _); refine DrawK.mk (by kernel_rfl) (by kernel_rfl) (by kernel_rfl) ?_)) <;> ((with_reducible conv => whnf); (with_reducible conv => congr <;> reduce); repeat ((first | (with_reducible refine HaltK.mk ?_) | (with_reducible refine StopK.mk ?_)); (with_reducible conv => whnf); (with_reducible conv => congr <;> reduce)))
    | ((with_reducible show (_ ∧ _) ∧ _ ∧ _); refine ⟨⟨rfl, rfl⟩, ?_, ?_⟩ <;> (with_reducible conv => whnf) <;> repeat' (first | (with_reducible exact trivial) | (with_reducible refine And.intro ?_ ?_ <;> with_reducible conv => whnf))))
    all_goals simp
  have e0 := Decidable.not_not.1 e0
  by_cases e1 : ¬ n < (l.length : Int)
  · have ht : thereN l n = false := by unfold thereN; simp [e1]
    rw [ht]
    repeat' (first
    | (first
    | ((with_reducible show IfK _ _ _ _); first | refine IfK.ff ?_ | refine IfK.tt ?_ | refine IfK.no (by first | rfl | assumption | exact nf (by assumption) | exact nt (by assumption) | ((try simp only [castN]); first | (simp [e0, hlm, eq_false e1]; done) | (simp [e0, hlm, eq_false e1]; omega))) ?_ | refine IfK.yes (by first | rfl | assumption | exact nf (by assumption) | exact nt (by assumption) | ((try simp only [castN]); first | (simp [e0, hlm, eq_false e1]; done) | (simp [e0, hlm, eq_false e1]; omega))) ?_)
    | ((with_reducible show NeedK _ _ _ _); refine NeedK.mk (by (try simp only [castN]); omega) ?_)
    | ((with_reducible show DrawK _ _ _ _); refine DrawK.mk (by kernel_rfl) (by kernel_rfl) (by kernel_rfl) ?_)) <;> ((with_reducible conv => whnf); (with_reducible conv => congr <;> reduce); repeat ((first | (with_reducible refine HaltK.mk ?_) | (with_reducible refine StopK.mk ?_)); (with_reducible conv => whnf); (with_reducible conv => congr <;> reduce)))
    | ((with_reducible show (_ ∧ _) ∧ _ ∧ _); refine ⟨⟨rfl, rfl⟩, ?_, ?_⟩ <;> (with_reducible conv => whnf) <;> repeat' (first | (with_reducible exact trivial) | (with_reducible refine And.intro ?_ ?_ <;> with_reducible conv => whnf))))
    all_goals simp
  have e1 := Decidable.not_not.1 e1
  have ht : thereN l n = true := by unfold thereN; simp [e0, e1]
  obtain ⟨k, x, rfl, hx, _⟩ := there_iff.1 ht
  rw [ht]
  cases hr : rightF ⟨l, m⟩ with
  | false =>
    repeat' (first
    | (first
    | ((with_reducible show IfK _ _ _ _); first | refine IfK.ff ?_ | refine IfK.tt ?_ | refine IfK.no (by first | rfl | assumption | exact nf (by assumption) | exact nt (by assumption) | ((try simp only [castN]); first | (simp [hlm, e0, e1, hr]; done) | (simp [hlm, e0, e1, hr]; omega))) ?_ | refine IfK.yes (by first | rfl | assumption | exact nf (by assumption) | exact nt (by assumption) | ((try simp only [castN]); first | (simp [hlm, e0, e1, hr]; done) | (simp [hlm, e0, e1, hr]; omega))) ?_)
    | ((with_reducible show NeedK _ _ _ _); refine NeedK.mk (by (try simp only [castN]); omega) ?_)
    | ((with_reducible show DrawK _ _ _ _); refine DrawK.mk (by kernel_rfl) (by kernel_rfl) (by kernel_rfl) ?_)
    | ((with_reducible show CallK _ _ 13 _ _ _ _); refine CallK.lit [] h13 c13 ⟨⟨rfl, rfl, trivial⟩, trivial⟩ rfl rfl ?_)) <;> ((with_reducible conv => whnf); (with_reducible conv => congr <;> reduce); repeat ((first | (with_reducible refine HaltK.mk ?_) | (with_reducible refine StopK.mk ?_)); (with_reducible conv => whnf); (with_reducible conv => congr <;> reduce)))
    | ((with_reducible show (_ ∧ _) ∧ _ ∧ _); refine ⟨⟨rfl, rfl⟩, ?_, ?_⟩ <;> (with_reducible conv => whnf) <;> repeat' (first | (with_reducible exact trivial) | (with_reducible refine And.intro ?_ ?_ <;> with_reducible conv => whnf))))
    all_goals simp
  | true =>
    have h18' := h18 hr k x hx
    repeat' (first
    | (first
    | ((with_reducible show IfK _ _ _ _); first | refine IfK.ff ?_ | refine IfK.tt ?_ | refine IfK.no (by first | rfl | assumption | exact nf (by assumption) | exact nt (by assumption) | ((try simp only [castN]); first | (simp [hlm, e0, e1, hr]; done) | (simp [hlm, e0, e1, hr]; omega))) ?_ | refine IfK.yes (by first | rfl | assumption | exact nf (by assumption) | exact nt (by assumption) | ((try simp only [castN]); first | (simp [hlm, e0, e1, hr]; done) | (simp [hlm, e0, e1, hr]; omega))) ?_)
    | ((with_reducible show NeedK _ _ _ _); refine NeedK.mk (by (try simp only [castN]); omega) ?_)
    | ((with_reducible show DrawK _ _ _ _); refine DrawK.mk (by kernel_rfl) (by kernel_rfl) (by kernel_rfl) ?_)
    | ((with_reducible show CallK _ _ 13 _ _ _ _); refine CallK.lit [] h13 c13 ⟨⟨rfl, rfl, trivial⟩, trivial⟩ rfl rfl ?_)
    | ((with_reducible show CallK _ _ 18 _ _ _ _); refine CallK.lit [] h18' c18 ⟨⟨rfl, rfl, trivial⟩, rfl, trivial⟩ rfl rfl ?_)) <;> ((with_reducible conv => whnf); (with_reducible conv => congr <;> reduce); repeat ((first | (with_reducible refine HaltK.mk ?_) | (with_reducible refine StopK.mk ?_)); (with_reducible conv => whnf); (with_reducible conv => congr <;> reduce)))
    | ((with_reducible show (_ ∧ _) ∧ _ ∧ _); refine ⟨⟨rfl, rfl⟩, ?_, ?_⟩ <;> (with_reducible conv => whnf) <;> repeat' (first | (with_reducible exact trivial) | (with_reducible refine And.intro ?_ ?_ <;> with_reducible conv => whnf))))
    all_goals simp
set_option maxHeartbeats 8000000 in
/-- Legend -/
theorem f10_ok (f : ForM) (hs : SmallN f.nodes) (n : Int) : FnOK Try.prog 10 [] [eFor f, eInt n] [] (eInt (if thereN f.nodes n && rightF f then legN f.nodes n else -1)) := by
  have h13 := f13_ok f hs
  have h20 : rightF f = true → ∀ (k : Nat) (x : NodeM), f.nodes[k]? = some x → FnOK Try.prog 20 [] [eFor f, eInt k] [] (eInt (legN f.nodes k)) := fun hr k x hx => f20_ok f hs k x hx fun c hc => by
    have := (tree_of hr).kid k (there_get hx) c
    rw [nd_get hx] at this
    exact (this hc).1
  obtain ⟨l, m⟩ := f
  simp only at h13 h20 ⊢
  have hlm : (l.map oNode).length = l.length := List.length_map ..
  refine FnOK.startC (rvs := [.tmp 4]) G G_good Try.func10 rfl Try.ntmps10 rfl rfl ?_; delta List.toArray; ((with_reducible conv => whnf); (with_reducible conv => congr <;> reduce); repeat ((first | (with_reducible refine HaltK.mk ?_) | (with_reducible refine StopK.mk ?_)); (with_reducible conv => whnf); (with_reducible conv => congr <;> reduce)))
  by_cases e0 : n < 0
  · have ht : thereN l n = false := by unfold thereN; simp; omega
    rw [ht]
    repeat' (first
    | (first
    | ((with_reducible show IfK _ _ _ _); first | refine IfK.ff ?_ | refine IfK.tt ?_ | refine IfK.no (by first | rfl | assumption | exact nf (by assumption) | exact nt (by assumption) | ((try simp only [castN]); first | (simp [e0]; done) | (simp [e0]; omega))) ?_ | refine IfK.yes (by first | rfl | assumption | exact nf (by assumption) | exact nt (by assumption) | ((try simp only [castN]); first | (simp [e0]; done) | (simp [e0]; omega))) ?_)
    | ((with_reducible show NeedK _ _ _ _); refine NeedK.mk (by (try simp only [castN]); omega) ?_)
    | ((with_reducible show DrawK _ _ _ _); refine DrawK.mk (by kernel_rfl) (by kernel_rfl) (by kernel_rfl) ?_)) <;> ((with_reducible conv => whnf); (with_reducible conv => congr <;> reduce); repeat ((first | (with_reducible refine HaltK.mk ?_) | (with_reducible refine StopK.mk ?_)); (with_reducible conv => whnf); (with_reducible conv => congr <;> reduce)))
    | ((with_reducible show (_ ∧ _) ∧ _ ∧ _); refine ⟨⟨rfl, rfl⟩, ?_, ?_⟩ <;> (with_reducible conv => whnf) <;> repeat' (first | (with_reducible exact trivial) | (with_reducible refine And.intro ?_ ?_ <;> with_reducible conv => whnf))))
    all_goals simp
  by_cases e1 : (l.length : Int) ≤ n
  · have ht : thereN l n = false := by unfold thereN; simp; omega
    rw [ht]
    repeat' (first
    | (first
    | ((with_reducible show IfK _ _ _ _); first | refine IfK.ff ?_ | refine IfK.tt ?_ | refine IfK.no (by first | rfl | assumption | exact nf (by assumption) | exact nt (by assumption) | ((try simp only [castN]); first | (simp [eq_false e0, hlm, e1]; done) | (simp [eq_false e0, hlm, e1]; omega))) ?_ | refine IfK.yes (by first | rfl | assumption | exact nf (by assumption) | exact nt (by assumption) | ((try simp only [castN]); first | (simp [eq_false e0, hlm, e1]; done) | (simp [eq_false e0, hlm, e1]; omega))) ?_)
    | ((with_reducible show NeedK _ _ _ _); refine NeedK.mk (by (try simp only [castN]); omega) ?_)
    | ((with_reducible show DrawK _ _ _ _); refine DrawK.mk (by kernel_rfl) (by kernel_rfl) (by kernel_rfl) ?_)) <;> ((with_reducible conv => whnf); (with_reducible conv => congr <;> reduce); repeat ((first | (with_reducible refine HaltK.mk ?_) | (with_reducible refine StopK.mk ?_)); (with_reducible conv => whnf); (with_reducible conv => congr <;> reduce)))
    | ((with_reducible show (_ ∧ _) ∧ _ ∧ _); refine ⟨⟨rfl, rfl⟩, ?_, ?_⟩ <;> (with_reducible conv => whnf) <;> repeat' (first | (with_reducible exact trivial) | (with_reducible refine And.intro ?_ ?_ <;> with_reducible conv => whnf))))
    all_goals simp
  have ht : thereN l n = true := by unfold thereN; simp; omega
  obtain ⟨k, x, rfl, hx, _⟩ := there_iff.1 ht
  rw [ht]
  cases hr : rightF ⟨l, m⟩ with
  | false =>
    repeat' (first
    | (first
    | ((with_reducible show IfK _ _ _ _); first | refine IfK.ff ?_ | refine IfK.tt ?_ | refine IfK.no (by first | rfl | assumption | exact nf (by assumption) | exact nt (by assumption) | ((try simp only [castN]); first | (simp [hlm, eq_false e0, eq_false e1, hr]; done) | (simp [hlm, eq_false e0, eq_false e1, hr]; omega))) ?_ | refine IfK.yes (by first | rfl | assumption | exact nf (by assumption) | exact nt (by assumption) | ((try simp only [castN]); first | (simp [hlm, eq_false e0, eq_false e1, hr]; done) | (simp [hlm, eq_false e0, eq_false e1, hr]; omega))) ?_)
    | ((with_reducible show NeedK _ _ _ _); refine NeedK.mk (by (try simp only [castN]); omega) ?_)
    | ((with_reducible show DrawK _ _ _ _); refine DrawK.mk (by kernel_rfl) (by kernel_rfl) (by kernel_rfl) ?_)
    | ((with_reducible show CallK _ _ 13 _ _ _ _); refine CallK.lit [] h13 c13 ⟨⟨rfl, rfl, trivial⟩, trivial⟩ rfl rfl ?_)) <;> ((with_reducible conv => whnf); (with_reducible conv => congr <;> reduce); repeat ((first | (with_reducible refine HaltK.mk ?_) | (with_reducible refine StopK.mk ?_)); (with_reducible conv => whnf); (with_reducible conv => congr <;> reduce)))
    | ((with_reducible show (_ ∧ _) ∧ _ ∧ _); refine ⟨⟨rfl, rfl⟩, ?_, ?_⟩ <;> (with_reducible conv => whnf) <;> repeat' (first | (with_reducible exact trivial) | (with_reducible refine And.intro ?_ ?_ <;> with_reducible conv => whnf))))
    all_goals simp
  | true =>
    have h20' := h20 hr k x hx
    repeat' (first
    | (first
    | ((with_reducible show IfK _ _ _ _); first | refine IfK.ff ?_ | refine IfK.tt ?_ | refine IfK.no (by first | rfl | assumption | exact nf (by assumption) | exact nt (by assumption) | ((try simp only [castN]); first | (simp [hlm, eq_false e0, eq_false e1, hr]; done) | (simp [hlm, eq_false e0, eq_false e1, hr]; omega))) ?_ | refine IfK.yes (by first | rfl | assumption | exact nf (by assumption) | exact nt (by assumption) | ((try simp only [castN]); first | (simp [hlm, eq_false e0, eq_false e1, hr]; done) | (simp [hlm, eq_false e0, eq_false e1, hr]; omega))) ?_)
    | ((with_reducible show NeedK _ _ _ _); refine NeedK.mk (by (try simp only [castN]); omega) ?_)
    | ((with_reducible show DrawK _ _ _ _); refine DrawK.mk (by kernel_rfl) (by kernel_rfl) (by kernel_rfl) ?_)
    | ((with_reducible show CallK _ _ 13 _ _ _ _); refine CallK.lit [] h13 c13 ⟨⟨rfl, rfl, trivial⟩, trivial⟩ rfl rfl ?_)
    | ((with_reducible show CallK _ _ 20 _ _ _ _); refine CallK.lit [] h20' c20 ⟨⟨rfl, rfl, trivial⟩, rfl, trivial⟩ rfl rfl ?_)) <;> ((with_reducible conv => whnf); (with_reducible conv => congr <;> reduce); repeat ((first | (with_reducible refine HaltK.mk ?_) | (with_reducible refine StopK.mk ?_)); (with_reducible conv => whnf); (with_reducible conv => congr <;> reduce)))
    | ((with_reducible show (_ ∧ _) ∧ _ ∧ _); refine ⟨⟨rfl, rfl⟩, ?_, ?_⟩ <;> (with_reducible conv => whnf) <;> repeat' (first | (with_reducible exact trivial) | (with_reducible refine And.intro ?_ ?_ <;> with_reducible conv => whnf))))
    all_goals simp
end Go.Proofs.Able
end
section
set_option linter.unusedSimpArgs false
set_option linter.unusedVariables false
namespace Go.Proofs.Able
open Go Go.Am Go.RowKit Go.Lib
set_option maxRecDepth 100000
theorem noRef_ints (l : List Int) : noRefL (l.map oInt) = true := by
  rw [noRefL_iff]; intro x hx
  obtain ⟨a, _, rfl⟩ := List.mem_map.1 hx
  rfl
theorem one_ints (l : List Int) : oneL (flat (l.map oInt)) = true := oneL_map oInt (fun _ => rfl) l
theorem frz_ints {m : ML} {fz : Nat → Bool} {tab : List (Nat × Nat)} {n t len : Nat} {ro : Bool} {rows : List AV} {l : List Int} (h1 : lkM m t = .live 1 rows ro) (h2 : fz t = true) (h3 : rows = l.map oInt) (h4 : len = l.length) : FrzK m fz (MF tab fz m n) (eInts l) t 0 len := by
  subst h3; subst h4
  have e : (l.map oInt).length = l.length := List.length_map ..
  exact .cut h1 h2 (by omega) (by rw [List.drop_zero, List.take_of_length_le (by omega)]) (noRef_ints l)
@[reducible] def rInts (l : List Int) : MS := .live 1 (l.map oInt) false
theorem count_step {l : List Int} {n c : Int} {k : Nat} (h : l[k]? = some c) : (l.take (k + 1)).count n = (l.take k).count n + if c = n then 1 else 0 := by
  rw [take_snocI h, List.count_append, List.count_singleton]
  by_cases e : c = n <;> simp [e]
theorem f29_ok (l : List Int) (hl : l.length ≤ 100000) (n : Int) : FnOK Try.prog 29 [] [eInts l, eInt n] [] (eInt (l.count n)) := by
  have hlm : (l.map oInt).length = l.length := List.length_map ..
  refine FnOK.startC (rvs := [.tmp 4]) G G_good Try.func29 rfl Try.ntmps29 rfl rfl ?_; delta List.toArray; ((with_reducible conv => whnf); (with_reducible conv => congr <;> reduce); repeat ((first | (with_reducible refine HaltK.mk ?_) | (with_reducible refine StopK.mk ?_)); (with_reducible conv => whnf); (with_reducible conv => congr <;> reduce)))
  refine LoopK.use G G_good (fun (k : Nat) => [(0, eInts l), (1, eInt n), (5, eInt ((l.take k).count n)), (6, eInt k)]) (fun _ => []) (fun k => k ≤ l.length) (fun k => l.length - k) 0 (Nat.zero_le _)
    ⟨⟨rfl, rfl⟩, ⟨rfl, rfl, rfl, rfl, trivial⟩, trivial⟩ ?_
  rintro k hk
  ((with_reducible conv => whnf); (with_reducible conv => congr <;> reduce); repeat ((first | (with_reducible refine HaltK.mk ?_) | (with_reducible refine StopK.mk ?_)); (with_reducible conv => whnf); (with_reducible conv => congr <;> reduce)))
  refine IfK.mk (fun h1 => ?_) (fun h1 => ?_) <;> (try simp only [castN] at h1) <;> ((with_reducible conv => whnf); (with_reducible conv => congr <;> reduce); repeat ((first | (with_reducible refine HaltK.mk ?_) | (with_reducible refine StopK.mk ?_)); (with_reducible conv => whnf); (with_reducible conv => congr <;> reduce)))
  · have hk' : k < l.length := by simp only [decide_eq_true_eq] at h1; omega
    obtain ⟨c, hc⟩ : ∃ a, l[k]? = some a := ⟨_, List.getElem?_eq_getElem hk'⟩
    have hst := count_step (n := n) hc
    have hle : (l.take k).count n ≤ k := Nat.le_trans List.count_le_length (by simp; omega)
    refine IdxK.mk k (eInt c) rfl (int_get hc) ?_; ((with_reducible conv => whnf); (with_reducible conv => congr <;> reduce); repeat ((first | (with_reducible refine HaltK.mk ?_) | (with_reducible refine StopK.mk ?_)); (with_reducible conv => whnf); (with_reducible conv => congr <;> reduce)))
    by_cases e : c = n
    · rw [if_pos e] at hst
      repeat' (first
    | (first
    | ((with_reducible show IfK _ _ _ _); first | refine IfK.ff ?_ | refine IfK.tt ?_ | refine IfK.no (by first | rfl | assumption | exact nf (by assumption) | exact nt (by assumption) | ((try simp only [castN]); first | (simp [e]; done) | (simp [e]; omega))) ?_ | refine IfK.yes (by first | rfl | assumption | exact nf (by assumption) | exact nt (by assumption) | ((try simp only [castN]); first | (simp [e]; done) | (simp [e]; omega))) ?_)
    | ((with_reducible show NeedK _ _ _ _); refine NeedK.mk (by (try simp only [castN]); omega) ?_)
    | ((with_reducible show DrawK _ _ _ _); refine DrawK.mk (by kernel_rfl) (by kernel_rfl) (by kernel_rfl) ?_)
    | ((with_reducible show NextK _ _); refine NextK.mk (k + 1) (by omega) (by omega) ⟨⟨rfl, rfl⟩, ⟨rfl, rfl, by show (((l.take (k + 1)).count n : Nat) : Int) = _; rw [hst]; rfl, by show ((k + 1 : Nat) : Int) = (k : Int) + 1; omega, trivial⟩, trivial⟩)) <;> ((with_reducible conv => whnf); (with_reducible conv => congr <;> reduce); repeat ((first | (with_reducible refine HaltK.mk ?_) | (with_reducible refine StopK.mk ?_)); (with_reducible conv => whnf); (with_reducible conv => congr <;> reduce)))
    | ((with_reducible show (_ ∧ _) ∧ _ ∧ _); refine ⟨⟨rfl, rfl⟩, ?_, ?_⟩ <;> (with_reducible conv => whnf) <;> repeat' (first | (with_reducible exact trivial) | (with_reducible refine And.intro ?_ ?_ <;> with_reducible conv => whnf))))
    · rw [if_neg e] at hst
      repeat' (first
    | (first
    | ((with_reducible show IfK _ _ _ _); first | refine IfK.ff ?_ | refine IfK.tt ?_ | refine IfK.no (by first | rfl | assumption | exact nf (by assumption) | exact nt (by assumption) | ((try simp only [castN]); first | (simp [eq_false e]; done) | (simp [eq_false e]; omega))) ?_ | refine IfK.yes (by first | rfl | assumption | exact nf (by assumption) | exact nt (by assumption) | ((try simp only [castN]); first | (simp [eq_false e]; done) | (simp [eq_false e]; omega))) ?_)
    | ((with_reducible show NeedK _ _ _ _); refine NeedK.mk (by (try simp only [castN]); omega) ?_)
    | ((with_reducible show DrawK _ _ _ _); refine DrawK.mk (by kernel_rfl) (by kernel_rfl) (by kernel_rfl) ?_)
    | ((with_reducible show NextK _ _); refine NextK.mk (k + 1) (by omega) (by omega) ⟨⟨rfl, rfl⟩, ⟨rfl, rfl, by show (((l.take (k + 1)).count n : Nat) : Int) = _; rw [hst]; simp, by show ((k + 1 : Nat) : Int) = (k : Int) + 1; omega, trivial⟩, trivial⟩)) <;> ((with_reducible conv => whnf); (with_reducible conv => congr <;> reduce); repeat ((first | (with_reducible refine HaltK.mk ?_) | (with_reducible refine StopK.mk ?_)); (with_reducible conv => whnf); (with_reducible conv => congr <;> reduce)))
    | ((with_reducible show (_ ∧ _) ∧ _ ∧ _); refine ⟨⟨rfl, rfl⟩, ?_, ?_⟩ <;> (with_reducible conv => whnf) <;> repeat' (first | (with_reducible exact trivial) | (with_reducible refine And.intro ?_ ?_ <;> with_reducible conv => whnf))))
  · refine ⟨⟨rfl, rfl⟩, ?_, ?_⟩ <;> (with_reducible conv => whnf) <;> repeat' (first | (with_reducible exact trivial) | (with_reducible refine And.intro ?_ ?_ <;> with_reducible conv => whnf))
    have : k = l.length := by simp only [decide_eq_false_iff_not] at h1; omega
    rw [this, List.take_length]
def barTo (l : List NodeM) (k : Nat) : List Int := ((List.range k).filter (fun n : Nat => barN l (n : Int))).map (fun n : Nat => (n : Int))
theorem bar_step (l : List NodeM) (k : Nat) : barTo l (k + 1) = if barN l (k : Int) then barTo l k ++ [(k : Int)] else barTo l k := by
  unfold barTo
  rw [List.range_succ, List.filter_append, List.map_append]
  cases h : barN l (k : Int) <;> simp [h]
theorem bar_len (l : List NodeM) (k : Nat) : (barTo l k).length ≤ k := by
  unfold barTo
  rw [List.length_map]
  exact Nat.le_trans (List.length_filter_le ..) (by simp)
theorem snoc_ints (l : List Int) (n : Int) : l.map oInt ++ [eInt n] = (l ++ [n]).map oInt := by rw [List.map_append]; rfl
set_option maxHeartbeats 8000000 in
/-- All -/
theorem f7_ok (f : ForM) (hs : SmallN f.nodes) : FnOK Try.prog 7 [] [eFor f] [] (eInts (if rightF f then barTo f.nodes f.nodes.length else [])) := by
  have h13 := f13_ok f hs
  have hl := hs.len
  have h18 : rightF f = true → ∀ (k : Nat) (x : NodeM), f.nodes[k]? = some x → FnOK Try.prog 18 [] [eFor f, eInt k] [] (eBool (barN f.nodes k)) := fun hr k x hx => f18_ok f hs (tree_of hr) k x hx
  obtain ⟨l, m⟩ := f
  simp only at h13 h18 hl ⊢
  have hlm : (l.map oNode).length = l.length := List.length_map ..
  refine FnOK.startC (rvs := [.tmp 2]) G G_good Try.func7 rfl Try.ntmps7 rfl rfl ?_; delta List.toArray; ((with_reducible conv => whnf); (with_reducible conv => congr <;> reduce); repeat ((first | (with_reducible refine HaltK.mk ?_) | (with_reducible refine StopK.mk ?_)); (with_reducible conv => whnf); (with_reducible conv => congr <;> reduce)))
  refine CallK.lit [] h13 c13 ⟨⟨rfl, rfl, trivial⟩, trivial⟩ rfl rfl ?_; ((with_reducible conv => whnf); (with_reducible conv => congr <;> reduce); repeat ((first | (with_reducible refine HaltK.mk ?_) | (with_reducible refine StopK.mk ?_)); (with_reducible conv => whnf); (with_reducible conv => congr <;> reduce)))
  cases hr : rightF ⟨l, m⟩ with
  | false =>
    rw [if_neg (show ¬ false = true by decide)]
    repeat' (first
    | (first
    | ((with_reducible show IfK _ _ _ _); first | refine IfK.ff ?_ | refine IfK.tt ?_ | refine IfK.no (by first | rfl | assumption | exact nf (by assumption) | exact nt (by assumption) | ((try simp only [castN]); first | (simp [hr]; done) | (simp [hr]; omega))) ?_ | refine IfK.yes (by first | rfl | assumption | exact nf (by assumption) | exact nt (by assumption) | ((try simp only [castN]); first | (simp [hr]; done) | (simp [hr]; omega))) ?_)
    | ((with_reducible show NeedK _ _ _ _); refine NeedK.mk (by (try simp only [castN]); omega) ?_)
    | ((with_reducible show DrawK _ _ _ _); refine DrawK.mk (by kernel_rfl) (by kernel_rfl) (by kernel_rfl) ?_)) <;> ((with_reducible conv => whnf); (with_reducible conv => congr <;> reduce); repeat ((first | (with_reducible refine HaltK.mk ?_) | (with_reducible refine StopK.mk ?_)); (with_reducible conv => whnf); (with_reducible conv => congr <;> reduce)))
    | ((with_reducible show (_ ∧ _) ∧ _ ∧ _); refine ⟨⟨rfl, rfl⟩, ?_, ?_⟩ <;> (with_reducible conv => whnf) <;> repeat' (first | (with_reducible exact trivial) | (with_reducible refine And.intro ?_ ?_ <;> with_reducible conv => whnf))))
    all_goals exact .inr (.inr ⟨1, rfl⟩)
  | true =>
    have h18' := h18 hr
    rw [if_pos rfl]
    refine IfK.ff ?_; ((with_reducible conv => whnf); (with_reducible conv => congr <;> reduce); repeat ((first | (with_reducible refine HaltK.mk ?_) | (with_reducible refine StopK.mk ?_)); (with_reducible conv => whnf); (with_reducible conv => congr <;> reduce)))
    refine LoopK.ghost 3 31 1 rfl rfl ?_
    refine LoopK.use G G_good (fun (k : Nat) => [(1, .ptr 10 0 0), (3, .own 31 0 (barTo l k).length), (10, eInt l.length), (11, eInt k)]) (fun k => [(10, .live 2 [eFor ⟨l, m⟩] false), (31, rInts (barTo l k))]) (fun k => k ≤ l.length) (fun k => l.length - k) 0 (Nat.zero_le _)
      ⟨⟨rfl, rfl⟩, ⟨⟨rfl, rfl⟩, ⟨rfl, rfl⟩, by show (l.length : Int) = ((l.map oNode).length : Int); rw [hlm], rfl, trivial⟩, ⟨⟨rfl, rfl, trivial⟩, trivial⟩, ⟨.refl rfl, noRef_ints _⟩, trivial⟩ ?_
    intro k hk
    ((with_reducible conv => whnf); (with_reducible conv => congr <;> reduce); repeat ((first | (with_reducible refine HaltK.mk ?_) | (with_reducible refine StopK.mk ?_)); (with_reducible conv => whnf); (with_reducible conv => congr <;> reduce)))
    refine IfK.mk (fun h1 => ?_) (fun h1 => ?_) <;> (try simp only [castN] at h1) <;> ((with_reducible conv => whnf); (with_reducible conv => congr <;> reduce); repeat ((first | (with_reducible refine HaltK.mk ?_) | (with_reducible refine StopK.mk ?_)); (with_reducible conv => whnf); (with_reducible conv => congr <;> reduce)))
    · have hk' : k < l.length := by simp only [decide_eq_true_eq] at h1; omega
      obtain ⟨x, hx⟩ : ∃ x, l[k]? = some x := ⟨_, List.getElem?_eq_getElem hk'⟩
      have h18k := h18' k x hx
      have hst := bar_step l k
      have hln := bar_len l k
      have hbl : ((barTo l k).map oInt).length = (barTo l k).length := List.length_map ..
      refine CallK.lit [] h18k c18 ⟨⟨rfl, rfl, trivial⟩, rfl, trivial⟩ rfl rfl ?_; ((with_reducible conv => whnf); (with_reducible conv => congr <;> reduce); repeat ((first | (with_reducible refine HaltK.mk ?_) | (with_reducible refine StopK.mk ?_)); (with_reducible conv => whnf); (with_reducible conv => congr <;> reduce)))
      cases hb : barN l (k : Int) with
      | true =>
        rw [hb, if_pos rfl] at hst
        refine IfK.tt ?_; ((with_reducible conv => whnf); (with_reducible conv => congr <;> reduce); repeat ((first | (with_reducible refine HaltK.mk ?_) | (with_reducible refine StopK.mk ?_)); (with_reducible conv => whnf); (with_reducible conv => congr <;> reduce)))
        refine AppK.mk ((barTo l k).map oInt) [eInt k] ⟨rfl, hbl.symm, rfl⟩ ⟨rfl, rfl, rfl⟩ rfl (by simp; omega) (by simp; omega) ?_; ((with_reducible conv => whnf); (with_reducible conv => congr <;> reduce); repeat ((first | (with_reducible refine HaltK.mk ?_) | (with_reducible refine StopK.mk ?_)); (with_reducible conv => whnf); (with_reducible conv => congr <;> reduce)))
        refine NeedK.mk (by (try simp only [castN]); omega) ?_; ((with_reducible conv => whnf); (with_reducible conv => congr <;> reduce); repeat ((first | (with_reducible refine HaltK.mk ?_) | (with_reducible refine StopK.mk ?_)); (with_reducible conv => whnf); (with_reducible conv => congr <;> reduce)))
        refine NextK.mk (k + 1) (by omega) (by omega) ⟨⟨rfl, rfl⟩, ⟨⟨rfl, rfl⟩, ⟨rfl, ?_⟩, rfl, by show ((k + 1 : Nat) : Int) = (k : Int) + 1; omega, trivial⟩, ⟨⟨rfl, rfl, trivial⟩, trivial⟩, ⟨?_, noRef_ints _⟩, trivial⟩
        · rw [hst]; simp
        · rw [hst, ← snoc_ints]; exact .refl (by rw [snoc_ints]; exact noRef_ints _)
      | false =>
        rw [hb, if_neg (by decide)] at hst
        refine IfK.ff ?_; ((with_reducible conv => whnf); (with_reducible conv => congr <;> reduce); repeat ((first | (with_reducible refine HaltK.mk ?_) | (with_reducible refine StopK.mk ?_)); (with_reducible conv => whnf); (with_reducible conv => congr <;> reduce)))
        refine NeedK.mk (by (try simp only [castN]); omega) ?_; ((with_reducible conv => whnf); (with_reducible conv => congr <;> reduce); repeat ((first | (with_reducible refine HaltK.mk ?_) | (with_reducible refine StopK.mk ?_)); (with_reducible conv => whnf); (with_reducible conv => congr <;> reduce)))
        refine NextK.mk (k + 1) (by omega) (by omega) ⟨⟨rfl, rfl⟩, ⟨⟨rfl, rfl⟩, ⟨rfl, ?_⟩, rfl, by show ((k + 1 : Nat) : Int) = (k : Int) + 1; omega, trivial⟩, ⟨⟨rfl, rfl, trivial⟩, trivial⟩, ⟨?_, noRef_ints _⟩, trivial⟩
        · rw [hst]
        · rw [hst]; exact .refl (noRef_ints _)
    · refine ⟨⟨rfl, rfl⟩, ?_, ?_⟩ <;> (with_reducible conv => whnf) <;> repeat' (first | (with_reducible exact trivial) | (with_reducible refine And.intro ?_ ?_ <;> with_reducible conv => whnf))
      have hkl : k = l.length := by simp only [decide_eq_false_iff_not] at h1; omega
      subst hkl
      exact frz_ints rfl rfl rfl rfl
end Go.Proofs.Able
end
section
set_option linter.unusedSimpArgs false
set_option linter.unusedVariables false
namespace Go.Proofs.Able
open Go Go.Am Go.RowKit Go.Lib
set_option maxRecDepth 100000
def smallX (x : NodeM) : Bool := decide (x.kids.length ≤ 60) && decide (x.attrs.length ≤ 60) && decide (x.name.size ≤ 300)
theorem short_eq (f : ForM) : shortF f = (decide (f.nodes.length ≤ 60) && f.nodes.all smallX) := rfl
theorem all_no {α : Type} {p : α → Bool} {l : List α} {k : Nat} {x : α} (h : l[k]? = some x) (hp : p x = false) : l.all p = false := by
  rw [Bool.eq_false_iff]
  intro h1
  rw [List.all_eq_true] at h1
  rw [h1 x (List.mem_of_getElem? h)] at hp; cases hp
theorem all_yes {α : Type} {p : α → Bool} {l : List α} (h : ∀ (k : Nat) (x : α), l[k]? = some x → p x = true) : l.all p = true := by
  rw [List.all_eq_true]
  intro x hx
  obtain ⟨k, hk⟩ := List.getElem?_of_mem hx
  exact h k x hk
set_option maxHeartbeats 8000000 in
/-- ref.Short -/
theorem f6_ok (f : ForM) : FnOK Try.prog 6 [] [eFor f] [] (eBool (shortF f)) := by
  rw [short_eq]
  obtain ⟨l, m⟩ := f
  simp only
  have hlm : (l.map oNode).length = l.length := List.length_map ..
  refine FnOK.startC (rvs := [.tmp 2]) G G_good Try.func6 rfl Try.ntmps6 rfl rfl ?_; delta List.toArray; ((with_reducible conv => whnf); (with_reducible conv => congr <;> reduce); repeat ((first | (with_reducible refine HaltK.mk ?_) | (with_reducible refine StopK.mk ?_)); (with_reducible conv => whnf); (with_reducible conv => congr <;> reduce)))
  by_cases e0 : (60 : Int) < (l.length : Int)
  · rw [decide_eq_false (show ¬ l.length ≤ 60 by omega)]
    repeat' (first
    | (first
    | ((with_reducible show IfK _ _ _ _); first | refine IfK.ff ?_ | refine IfK.tt ?_ | refine IfK.no (by first | rfl | assumption | exact nf (by assumption) | exact nt (by assumption) | ((try simp only [castN]); first | (simp [hlm, e0]; done) | (simp [hlm, e0]; omega))) ?_ | refine IfK.yes (by first | rfl | assumption | exact nf (by assumption) | exact nt (by assumption) | ((try simp only [castN]); first | (simp [hlm, e0]; done) | (simp [hlm, e0]; omega))) ?_)
    | ((with_reducible show NeedK _ _ _ _); refine NeedK.mk (by (try simp only [castN]); omega) ?_)
    | ((with_reducible show DrawK _ _ _ _); refine DrawK.mk (by kernel_rfl) (by kernel_rfl) (by kernel_rfl) ?_)) <;> ((with_reducible conv => whnf); (with_reducible conv => congr <;> reduce); repeat ((first | (with_reducible refine HaltK.mk ?_) | (with_reducible refine StopK.mk ?_)); (with_reducible conv => whnf); (with_reducible conv => congr <;> reduce)))
    | ((with_reducible show (_ ∧ _) ∧ _ ∧ _); refine ⟨⟨rfl, rfl⟩, ?_, ?_⟩ <;> (with_reducible conv => whnf) <;> repeat' (first | (with_reducible exact trivial) | (with_reducible refine And.intro ?_ ?_ <;> with_reducible conv => whnf))))
    all_goals rfl
  rw [decide_eq_true (show l.length ≤ 60 by omega), Bool.true_and]
  repeat' (first
    | (first
    | ((with_reducible show IfK _ _ _ _); first | refine IfK.ff ?_ | refine IfK.tt ?_ | refine IfK.no (by first | rfl | assumption | exact nf (by assumption) | exact nt (by assumption) | ((try simp only [castN]); first | (simp [hlm, eq_false e0]; done) | (simp [hlm, eq_false e0]; omega))) ?_ | refine IfK.yes (by first | rfl | assumption | exact nf (by assumption) | exact nt (by assumption) | ((try simp only [castN]); first | (simp [hlm, eq_false e0]; done) | (simp [hlm, eq_false e0]; omega))) ?_)
    | ((with_reducible show NeedK _ _ _ _); refine NeedK.mk (by (try simp only [castN]); omega) ?_)
    | ((with_reducible show DrawK _ _ _ _); refine DrawK.mk (by kernel_rfl) (by kernel_rfl) (by kernel_rfl) ?_)) <;> ((with_reducible conv => whnf); (with_reducible conv => congr <;> reduce); repeat ((first | (with_reducible refine HaltK.mk ?_) | (with_reducible refine StopK.mk ?_)); (with_reducible conv => whnf); (with_reducible conv => congr <;> reduce)))
    | ((with_reducible show (_ ∧ _) ∧ _ ∧ _); refine ⟨⟨rfl, rfl⟩, ?_, ?_⟩ <;> (with_reducible conv => whnf) <;> repeat' (first | (with_reducible exact trivial) | (with_reducible refine And.intro ?_ ?_ <;> with_reducible conv => whnf))))
  refine LoopK.use G G_good (fun (k : Nat) => [(1, .ptr 10 0 0), (3, eInt k)]) (fun _ => [(10, .live 2 [eFor ⟨l, m⟩] false)])
    (fun k => k ≤ l.length ∧ ∀ (j : Nat) (y : NodeM), j < k → l[j]? = some y → smallX y = true) (fun k => l.length - k) 0 ⟨Nat.zero_le _, fun j y h => by omega⟩
    ⟨⟨rfl, rfl⟩, ⟨⟨rfl, rfl⟩, rfl, trivial⟩, ⟨⟨rfl, rfl, trivial⟩, trivial⟩, trivial⟩ ?_
  rintro k ⟨hk, hok⟩
  ((with_reducible conv => whnf); (with_reducible conv => congr <;> reduce); repeat ((first | (with_reducible refine HaltK.mk ?_) | (with_reducible refine StopK.mk ?_)); (with_reducible conv => whnf); (with_reducible conv => congr <;> reduce)))
  refine IfK.mk (fun h1 => ?_) (fun h1 => ?_) <;> (try simp only [castN] at h1) <;> ((with_reducible conv => whnf); (with_reducible conv => congr <;> reduce); repeat ((first | (with_reducible refine HaltK.mk ?_) | (with_reducible refine StopK.mk ?_)); (with_reducible conv => whnf); (with_reducible conv => congr <;> reduce)))
  · have hk' : k < l.length := by simp only [decide_eq_true_eq] at h1; omega
    obtain ⟨x, hx⟩ : ∃ x, l[k]? = some x := ⟨_, List.getElem?_eq_getElem hk'⟩
    have bad : smallX x = false → l.all smallX = false := fun h => all_no hx h
    have good : smallX x = true → ∀ (j : Nat) (y : NodeM), j < k + 1 → l[j]? = some y → smallX y = true := fun h j y hj hy => by
      rcases Nat.lt_or_ge j k with h6 | h6
      · exact hok j y h6 hy
      · have : j = k := by omega
        subst this
        rw [hx] at hy; cases hy; exact h
    obtain ⟨a1, a2, a3, a4, a5, a6, a7, a8, a9, a10⟩ := x
    have hla : (a5.map oAttr).length = a5.length := List.length_map ..
    have hlk : (a7.map oInt).length = a7.length := List.length_map ..
    have sm : smallX ⟨a1, a2, a3, a4, a5, a6, a7, a8, a9, a10⟩ = (decide (a7.length ≤ 60) && decide (a5.length ≤ 60) && decide (a2.size ≤ 300)) := rfl
    rw [sm] at bad good
    refine IdxK.mk k (eNode ⟨a1, a2, a3, a4, a5, a6, a7, a8, a9, a10⟩) rfl (node_get hx) ?_; ((with_reducible conv => whnf); (with_reducible conv => congr <;> reduce); repeat ((first | (with_reducible refine HaltK.mk ?_) | (with_reducible refine StopK.mk ?_)); (with_reducible conv => whnf); (with_reducible conv => congr <;> reduce)))
    by_cases e1 : (60 : Int) < (a7.length : Int)
    · rw [bad (by rw [decide_eq_false (show ¬ a7.length ≤ 60 by omega)]; rfl)]
      repeat' (first
    | (first
    | ((with_reducible show IfK _ _ _ _); first | refine IfK.ff ?_ | refine IfK.tt ?_ | refine IfK.no (by first | rfl | assumption | exact nf (by assumption) | exact nt (by assumption) | ((try simp only [castN]); first | (simp [hlk, e1]; done) | (simp [hlk, e1]; omega))) ?_ | refine IfK.yes (by first | rfl | assumption | exact nf (by assumption) | exact nt (by assumption) | ((try simp only [castN]); first | (simp [hlk, e1]; done) | (simp [hlk, e1]; omega))) ?_)
    | ((with_reducible show NeedK _ _ _ _); refine NeedK.mk (by (try simp only [castN]); omega) ?_)
    | ((with_reducible show DrawK _ _ _ _); refine DrawK.mk (by kernel_rfl) (by kernel_rfl) (by kernel_rfl) ?_)) <;> ((with_reducible conv => whnf); (with_reducible conv => congr <;> reduce); repeat ((first | (with_reducible refine HaltK.mk ?_) | (with_reducible refine StopK.mk ?_)); (with_reducible conv => whnf); (with_reducible conv => congr <;> reduce)))
    | ((with_reducible show (_ ∧ _) ∧ _ ∧ _); refine ⟨⟨rfl, rfl⟩, ?_, ?_⟩ <;> (with_reducible conv => whnf) <;> repeat' (first | (with_reducible exact trivial) | (with_reducible refine And.intro ?_ ?_ <;> with_reducible conv => whnf))))
    by_cases e2 : (60 : Int) < (a5.length : Int)
    · rw [bad (by rw [decide_eq_false (show ¬ a5.length ≤ 60 by omega), Bool.and_false]; rfl)]
      repeat' (first
    | (first
    | ((with_reducible show IfK _ _ _ _); first | refine IfK.ff ?_ | refine IfK.tt ?_ | refine IfK.no (by first | rfl | assumption | exact nf (by assumption) | exact nt (by assumption) | ((try simp only [castN]); first | (simp [hlk, hla, eq_false e1, e2]; done) | (simp [hlk, hla, eq_false e1, e2]; omega))) ?_ | refine IfK.yes (by first | rfl | assumption | exact nf (by assumption) | exact nt (by assumption) | ((try simp only [castN]); first | (simp [hlk, hla, eq_false e1, e2]; done) | (simp [hlk, hla, eq_false e1, e2]; omega))) ?_)
    | ((with_reducible show NeedK _ _ _ _); refine NeedK.mk (by (try simp only [castN]); omega) ?_)
    | ((with_reducible show DrawK _ _ _ _); refine DrawK.mk (by kernel_rfl) (by kernel_rfl) (by kernel_rfl) ?_)
    | (refine IdxK.mk k (eNode ⟨a1, a2, a3, a4, a5, a6, a7, a8, a9, a10⟩) rfl (node_get hx) ?_)) <;> ((with_reducible conv => whnf); (with_reducible conv => congr <;> reduce); repeat ((first | (with_reducible refine HaltK.mk ?_) | (with_reducible refine StopK.mk ?_)); (with_reducible conv => whnf); (with_reducible conv => congr <;> reduce)))
    | ((with_reducible show (_ ∧ _) ∧ _ ∧ _); refine ⟨⟨rfl, rfl⟩, ?_, ?_⟩ <;> (with_reducible conv => whnf) <;> repeat' (first | (with_reducible exact trivial) | (with_reducible refine And.intro ?_ ?_ <;> with_reducible conv => whnf))))
    by_cases e3 : (300 : Int) < (a2.size : Int)
    · rw [bad (by rw [decide_eq_false (show ¬ a2.size ≤ 300 by omega), Bool.and_false])]
      repeat' (first
    | (first
    | ((with_reducible show IfK _ _ _ _); first | refine IfK.ff ?_ | refine IfK.tt ?_ | refine IfK.no (by first | rfl | assumption | exact nf (by assumption) | exact nt (by assumption) | ((try simp only [castN]); first | (simp [hlk, hla, eq_false e1, eq_false e2, e3]; done) | (simp [hlk, hla, eq_false e1, eq_false e2, e3]; omega))) ?_ | refine IfK.yes (by first | rfl | assumption | exact nf (by assumption) | exact nt (by assumption) | ((try simp only [castN]); first | (simp [hlk, hla, eq_false e1, eq_false e2, e3]; done) | (simp [hlk, hla, eq_false e1, eq_false e2, e3]; omega))) ?_)
    | ((with_reducible show NeedK _ _ _ _); refine NeedK.mk (by (try simp only [castN]); omega) ?_)
    | ((with_reducible show DrawK _ _ _ _); refine DrawK.mk (by kernel_rfl) (by kernel_rfl) (by kernel_rfl) ?_)
    | (refine IdxK.mk k (eNode ⟨a1, a2, a3, a4, a5, a6, a7, a8, a9, a10⟩) rfl (node_get hx) ?_)) <;> ((with_reducible conv => whnf); (with_reducible conv => congr <;> reduce); repeat ((first | (with_reducible refine HaltK.mk ?_) | (with_reducible refine StopK.mk ?_)); (with_reducible conv => whnf); (with_reducible conv => congr <;> reduce)))
    | ((with_reducible show (_ ∧ _) ∧ _ ∧ _); refine ⟨⟨rfl, rfl⟩, ?_, ?_⟩ <;> (with_reducible conv => whnf) <;> repeat' (first | (with_reducible exact trivial) | (with_reducible refine And.intro ?_ ?_ <;> with_reducible conv => whnf))))
    have hnx := good (by simp only [Bool.and_eq_true, decide_eq_true_eq]; omega)
    repeat' (first
    | (first
    | ((with_reducible show IfK _ _ _ _); first | refine IfK.ff ?_ | refine IfK.tt ?_ | refine IfK.no (by first | rfl | assumption | exact nf (by assumption) | exact nt (by assumption) | ((try simp only [castN]); first | (simp [hlk, hla, eq_false e1, eq_false e2, eq_false e3]; done) | (simp [hlk, hla, eq_false e1, eq_false e2, eq_false e3]; omega))) ?_ | refine IfK.yes (by first | rfl | assumption | exact nf (by assumption) | exact nt (by assumption) | ((try simp only [castN]); first | (simp [hlk, hla, eq_false e1, eq_false e2, eq_false e3]; done) | (simp [hlk, hla, eq_false e1, eq_false e2, eq_false e3]; omega))) ?_)
    | ((with_reducible show NeedK _ _ _ _); refine NeedK.mk (by (try simp only [castN]); omega) ?_)
    | ((with_reducible show DrawK _ _ _ _); refine DrawK.mk (by kernel_rfl) (by kernel_rfl) (by kernel_rfl) ?_)
    | (refine IdxK.mk k (eNode ⟨a1, a2, a3, a4, a5, a6, a7, a8, a9, a10⟩) rfl (node_get hx) ?_)
    | ((with_reducible show NextK _ _); refine NextK.mk (k + 1) ⟨by omega, hnx⟩ (by omega) ⟨⟨rfl, rfl⟩, ⟨⟨rfl, rfl⟩, by show ((k + 1 : Nat) : Int) = (k : Int) + 1; omega, trivial⟩, ⟨⟨rfl, rfl, trivial⟩, trivial⟩, trivial⟩)) <;> ((with_reducible conv => whnf); (with_reducible conv => congr <;> reduce); repeat ((first | (with_reducible refine HaltK.mk ?_) | (with_reducible refine StopK.mk ?_)); (with_reducible conv => whnf); (with_reducible conv => congr <;> reduce)))
    | ((with_reducible show (_ ∧ _) ∧ _ ∧ _); refine ⟨⟨rfl, rfl⟩, ?_, ?_⟩ <;> (with_reducible conv => whnf) <;> repeat' (first | (with_reducible exact trivial) | (with_reducible refine And.intro ?_ ?_ <;> with_reducible conv => whnf))))
  · have hkl : k = l.length := by simp only [decide_eq_false_iff_not] at h1; omega
    rw [all_yes fun j y hy => hok j y (by have := (List.getElem?_eq_some_iff.1 hy).1; omega) hy]
    refine ⟨⟨rfl, rfl⟩, ?_, ?_⟩ <;> (with_reducible conv => whnf) <;> repeat' (first | (with_reducible exact trivial) | (with_reducible refine And.intro ?_ ?_ <;> with_reducible conv => whnf))
set_option maxHeartbeats 8000000 in
/-- ref.Legend -/
theorem f12_ok (f : ForM) (hs : SmallN f.nodes) (k : Nat) (x : NodeM) (hx : f.nodes[k]? = some x) (hkids : ∀ c ∈ x.kids, thereN f.nodes c = true) : FnOK Try.prog 12 [] [eFor f, eInt k] [] (eInt (legR f.nodes k)) := by
  have h7 := hs.kids x (List.mem_of_getElem? hx)
  obtain ⟨l, m⟩ := f
  unfold legR kidAt
  simp only at hx h7 hkids ⊢
  rw [nd_get hx]
  obtain ⟨a1, a2, a3, a4, a5, a6, a7, a8, a9, a10⟩ := x
  simp only at h7 hkids ⊢
  have hlk : (a7.map oInt).length = a7.length := List.length_map ..
  refine FnOK.startC (rvs := [.tmp 4]) G G_good Try.func12 rfl Try.ntmps12 rfl rfl ?_; delta List.toArray; ((with_reducible conv => whnf); (with_reducible conv => congr <;> reduce); repeat ((first | (with_reducible refine HaltK.mk ?_) | (with_reducible refine StopK.mk ?_)); (with_reducible conv => whnf); (with_reducible conv => congr <;> reduce)))
  refine IdxK.mk k (eNode ⟨a1, a2, a3, a4, a5, a6, a7, a8, a9, a10⟩) rfl (node_get hx) ?_; ((with_reducible conv => whnf); (with_reducible conv => congr <;> reduce); repeat ((first | (with_reducible refine HaltK.mk ?_) | (with_reducible refine StopK.mk ?_)); (with_reducible conv => whnf); (with_reducible conv => congr <;> reduce)))
  refine LoopK.use G G_good (fun (j : Nat) => [(2, .ptr 20 0 0), (5, eInts a7), (6, eInt j)]) (fun _ => [(20, .live 2 [eFor ⟨l, m⟩] false)])
    (fun j => j ≤ a7.length ∧ ∀ (i : Nat) (c : Int), i < j → a7[i]? = some c → isLegR l c = false) (fun j => a7.length - j) 0 ⟨Nat.zero_le _, fun j y h => by omega⟩
    ⟨⟨rfl, rfl⟩, ⟨⟨rfl, rfl⟩, rfl, rfl, trivial⟩, ⟨⟨rfl, rfl, trivial⟩, trivial⟩, trivial⟩ ?_
  rintro j ⟨hj, hno⟩
  ((with_reducible conv => whnf); (with_reducible conv => congr <;> reduce); repeat ((first | (with_reducible refine HaltK.mk ?_) | (with_reducible refine StopK.mk ?_)); (with_reducible conv => whnf); (with_reducible conv => congr <;> reduce)))
  refine IfK.mk (fun h1 => ?_) (fun h1 => ?_) <;> (try simp only [castN] at h1) <;> ((with_reducible conv => whnf); (with_reducible conv => congr <;> reduce); repeat ((first | (with_reducible refine HaltK.mk ?_) | (with_reducible refine StopK.mk ?_)); (with_reducible conv => whnf); (with_reducible conv => congr <;> reduce)))
  · have hj' : j < a7.length := by simp only [decide_eq_true_eq] at h1; omega
    obtain ⟨c, hc⟩ : ∃ c, a7[j]? = some c := ⟨_, List.getElem?_eq_getElem hj'⟩
    obtain ⟨i, y, rfl, hy, hny⟩ := there_iff.1 (hkids c (List.mem_of_getElem? hc))
    have hleg : isLegR l (i : Int) = decide (y.name = legW) := by unfold isLegR; rw [hny]
    obtain ⟨b1, b2, b3, b4, b5, b6, b7, b8, b9, b10⟩ := y
    refine IdxK.mk j (eInt (i : Int)) rfl (int_get hc) ?_; ((with_reducible conv => whnf); (with_reducible conv => congr <;> reduce); repeat ((first | (with_reducible refine HaltK.mk ?_) | (with_reducible refine StopK.mk ?_)); (with_reducible conv => whnf); (with_reducible conv => congr <;> reduce)))
    refine IdxK.mk i (eNode ⟨b1, b2, b3, b4, b5, b6, b7, b8, b9, b10⟩) rfl (node_get hy) ?_; ((with_reducible conv => whnf); (with_reducible conv => congr <;> reduce); repeat ((first | (with_reducible refine HaltK.mk ?_) | (with_reducible refine StopK.mk ?_)); (with_reducible conv => whnf); (with_reducible conv => congr <;> reduce)))
    by_cases e : b2 = legW
    · have hix := idxI_hit hc (by rw [hleg]; exact decide_eq_true e) hno
      rw [hix]
      repeat' (first
    | (first
    | ((with_reducible show IfK _ _ _ _); first | refine IfK.ff ?_ | refine IfK.tt ?_ | refine IfK.no (by first | rfl | assumption | exact nf (by assumption) | exact nt (by assumption) | ((try simp only [castN]); first | (simp [e]; done) | (simp [e]; omega))) ?_ | refine IfK.yes (by first | rfl | assumption | exact nf (by assumption) | exact nt (by assumption) | ((try simp only [castN]); first | (simp [e]; done) | (simp [e]; omega))) ?_)
    | ((with_reducible show NeedK _ _ _ _); refine NeedK.mk (by (try simp only [castN]); omega) ?_)
    | ((with_reducible show DrawK _ _ _ _); refine DrawK.mk (by kernel_rfl) (by kernel_rfl) (by kernel_rfl) ?_)
    | (refine IdxK.mk j (eInt (i : Int)) rfl (int_get hc) ?_)) <;> ((with_reducible conv => whnf); (with_reducible conv => congr <;> reduce); repeat ((first | (with_reducible refine HaltK.mk ?_) | (with_reducible refine StopK.mk ?_)); (with_reducible conv => whnf); (with_reducible conv => congr <;> reduce)))
    | ((with_reducible show (_ ∧ _) ∧ _ ∧ _); refine ⟨⟨rfl, rfl⟩, ?_, ?_⟩ <;> (with_reducible conv => whnf) <;> repeat' (first | (with_reducible exact trivial) | (with_reducible refine And.intro ?_ ?_ <;> with_reducible conv => whnf))))
      all_goals (rw [if_pos (Int.natCast_nonneg j), Int.toNat_natCast, hc]; rfl)
    · have hno' : ∀ (q : Nat) (c : Int), q < j + 1 → a7[q]? = some c → isLegR l c = false := fun q c' hq hc' => by
        rcases Nat.lt_or_ge q j with h6 | h6
        · exact hno q c' h6 hc'
        · have : q = j := by omega
          subst this
          rw [hc] at hc'; cases hc'; rw [hleg]; exact decide_eq_false e
      repeat' (first
    | (first
    | ((with_reducible show IfK _ _ _ _); first | refine IfK.ff ?_ | refine IfK.tt ?_ | refine IfK.no (by first | rfl | assumption | exact nf (by assumption) | exact nt (by assumption) | ((try simp only [castN]); first | (simp [eq_false e]; done) | (simp [eq_false e]; omega))) ?_ | refine IfK.yes (by first | rfl | assumption | exact nf (by assumption) | exact nt (by assumption) | ((try simp only [castN]); first | (simp [eq_false e]; done) | (simp [eq_false e]; omega))) ?_)
    | ((with_reducible show NeedK _ _ _ _); refine NeedK.mk (by (try simp only [castN]); omega) ?_)
    | ((with_reducible show DrawK _ _ _ _); refine DrawK.mk (by kernel_rfl) (by kernel_rfl) (by kernel_rfl) ?_)
    | ((with_reducible show NextK _ _); refine NextK.mk (j + 1) ⟨by omega, hno'⟩ (by omega) ⟨⟨rfl, rfl⟩, ⟨⟨rfl, rfl⟩, rfl, by show ((j + 1 : Nat) : Int) = (j : Int) + 1; omega, trivial⟩, ⟨⟨rfl, rfl, trivial⟩, trivial⟩, trivial⟩)) <;> ((with_reducible conv => whnf); (with_reducible conv => congr <;> reduce); repeat ((first | (with_reducible refine HaltK.mk ?_) | (with_reducible refine StopK.mk ?_)); (with_reducible conv => whnf); (with_reducible conv => congr <;> reduce)))
    | ((with_reducible show (_ ∧ _) ∧ _ ∧ _); refine ⟨⟨rfl, rfl⟩, ?_, ?_⟩ <;> (with_reducible conv => whnf) <;> repeat' (first | (with_reducible exact trivial) | (with_reducible refine And.intro ?_ ?_ <;> with_reducible conv => whnf))))
  · have hjl : j = a7.length := by simp only [decide_eq_false_iff_not] at h1; omega
    rw [idxI_none fun i c hc => hno i c (by have := (List.getElem?_eq_some_iff.1 hc).1; omega) hc]
    refine ⟨⟨rfl, rfl⟩, ?_, ?_⟩ <;> (with_reducible conv => whnf) <;> repeat' (first | (with_reducible exact trivial) | (with_reducible refine And.intro ?_ ?_ <;> with_reducible conv => whnf))
    all_goals rfl
theorem f21_ok (f : ForM) (hs : SmallN f.nodes) (k : Nat) (x : NodeM) (hx : f.nodes[k]? = some x) : FnOK Try.prog 21 [] [eFor f, eInt k] [] (eBool (disR x)) := by
  have h36 := f36_ok x.attrs (by have := hs.attrs x (List.mem_of_getElem? hx); omega) disW
  obtain ⟨l, m⟩ := f
  unfold disR
  obtain ⟨a1, a2, a3, a4, a5, a6, a7, a8, a9, a10⟩ := x
  simp only at hx h36 ⊢
  refine FnOK.startC (rvs := [.tmp 4]) G G_good Try.func21 rfl Try.ntmps21 rfl rfl ?_; delta List.toArray; ((with_reducible conv => whnf); (with_reducible conv => congr <;> reduce); repeat ((first | (with_reducible refine HaltK.mk ?_) | (with_reducible refine StopK.mk ?_)); (with_reducible conv => whnf); (with_reducible conv => congr <;> reduce)))
  refine IdxK.mk k (eNode ⟨a1, a2, a3, a4, a5, a6, a7, a8, a9, a10⟩) rfl (node_get hx) ?_; ((with_reducible conv => whnf); (with_reducible conv => congr <;> reduce); repeat ((first | (with_reducible refine HaltK.mk ?_) | (with_reducible refine StopK.mk ?_)); (with_reducible conv => whnf); (with_reducible conv => congr <;> reduce)))
  refine CallK.lit [] h36 c36 ⟨rfl, rfl, trivial⟩ rfl rfl ?_; ((with_reducible conv => whnf); (with_reducible conv => congr <;> reduce); repeat ((first | (with_reducible refine HaltK.mk ?_) | (with_reducible refine StopK.mk ?_)); (with_reducible conv => whnf); (with_reducible conv => congr <;> reduce)))
  refine ⟨⟨rfl, rfl⟩, ?_, ?_⟩ <;> (with_reducible conv => whnf) <;> repeat' (first | (with_reducible exact trivial) | (with_reducible refine And.intro ?_ ?_ <;> with_reducible conv => whnf))
  all_goals rfl
def preO (l : List NodeM) (m : Nat) (n : Int) (cs : List Int) : List Int := n :: cs.flatMap (ordN l m)
theorem pre_step (l : List NodeM) (m : Nat) (n : Int) {cs : List Int} {j : Nat} {c : Int} (h : cs[j]? = some c) : preO l m n (cs.take (j + 1)) = preO l m n (cs.take j) ++ ordN l m c := by
  unfold preO
  rw [take_snocI h, List.flatMap_append]; simp
theorem pre_len (l : List NodeM) (m : Nat) (n : Int) (cs : List Int) (j : Nat) : (preO l m n (cs.take j)).length ≤ (preO l m n cs).length := by
  unfold preO
  conv => rhs; rw [← List.take_append_drop j cs]
  rw [List.flatMap_append]; simp
set_option maxHeartbeats 8000000 in
/-- ref.Order -/
theorem f37_ok (f : ForM) (hs : SmallN f.nodes) (T : Tree f.nodes) : ∀ (m : Nat) (k : Nat) (x : NodeM), f.nodes[k]? = some x → f.nodes.length + 1 ≤ m + (wayN f.nodes k).length → FnOK Try.prog 37 [] [eFor f, eInt k] [] (eInts (ordN f.nodes m k)) := by
  have hl := hs.len
  intro m
  induction m with
  | zero => intro k x hx hm; have := way_len (l := f.nodes) k; omega
  | succ m ih =>
    intro k x hx hm
    have htk := there_get hx
    have hnk := nd_get hx
    have h7 := hs.kids x (List.mem_of_getElem? hx)
    have hkid := T.kid k htk
    have hway := fun c => way_kid T (n := (k : Int)) (k := c) htk
    have hol := ord_len T (m + 1) htk
    have hpl := fun j => pre_len f.nodes m k x.kids j
    have hps := fun j c => @pre_step f.nodes m k x.kids j c
    have hoe : ordN f.nodes (m + 1) k = preO f.nodes m k x.kids := by unfold preO; rw [ordN, hnk]
    rw [hoe] at hol ⊢
    rw [hnk] at hkid hway
    have ihc : ∀ c ∈ x.kids, FnOK Try.prog 37 [] [eFor f, eInt c] [] (eInts (ordN f.nodes m c)) := fun c hc => by
      obtain ⟨i, y, rfl, hy, _⟩ := there_iff.1 (hkid c hc).1
      exact ih i y hy (by rw [hway _ hc]; simp; omega)
    clear ih hway hm hkid hnk hoe
    obtain ⟨l, mo⟩ := f
    obtain ⟨a1, a2, a3, a4, a5, a6, a7, a8, a9, a10⟩ := x
    simp only at hl hx h7 hol hpl hps ihc ⊢
    have hlk : (a7.map oInt).length = a7.length := List.length_map ..
    refine FnOK.startC (rvs := [.tmp 4]) G G_good Try.func37 rfl Try.ntmps37 rfl rfl ?_; delta List.toArray; ((with_reducible conv => whnf); (with_reducible conv => congr <;> reduce); repeat ((first | (with_reducible refine HaltK.mk ?_) | (with_reducible refine StopK.mk ?_)); (with_reducible conv => whnf); (with_reducible conv => congr <;> reduce)))
    refine LoopK.use G G_good (fun (j : Nat) => [(1, eInt k), (2, .ptr 20 0 0), (5, .own 81 0 (preO l m k (a7.take j)).length), (6, eInt j)]) (fun j => [(20, .live 2 [eFor ⟨l, mo⟩] false), (81, rInts (preO l m k (a7.take j)))])
      (fun j => j ≤ a7.length) (fun j => a7.length - j) 0 (Nat.zero_le _)
      ⟨⟨rfl, rfl⟩, ⟨rfl, ⟨rfl, rfl⟩, ⟨rfl, rfl⟩, rfl, trivial⟩, ⟨⟨rfl, rfl, trivial⟩, trivial⟩, ⟨.refl rfl, noRef_ints _⟩, trivial⟩ ?_
    intro j hj
    ((with_reducible conv => whnf); (with_reducible conv => congr <;> reduce); repeat ((first | (with_reducible refine HaltK.mk ?_) | (with_reducible refine StopK.mk ?_)); (with_reducible conv => whnf); (with_reducible conv => congr <;> reduce)))
    refine IdxK.mk k (eNode ⟨a1, a2, a3, a4, a5, a6, a7, a8, a9, a10⟩) rfl (node_get hx) ?_; ((with_reducible conv => whnf); (with_reducible conv => congr <;> reduce); repeat ((first | (with_reducible refine HaltK.mk ?_) | (with_reducible refine StopK.mk ?_)); (with_reducible conv => whnf); (with_reducible conv => congr <;> reduce)))
    refine IfK.mk (fun h1 => ?_) (fun h1 => ?_) <;> (try simp only [castN] at h1) <;> ((with_reducible conv => whnf); (with_reducible conv => congr <;> reduce); repeat ((first | (with_reducible refine HaltK.mk ?_) | (with_reducible refine StopK.mk ?_)); (with_reducible conv => whnf); (with_reducible conv => congr <;> reduce)))
    · have hj' : j < a7.length := by simp only [decide_eq_true_eq] at h1; omega
      obtain ⟨c, hc⟩ : ∃ c, a7[j]? = some c := ⟨_, List.getElem?_eq_getElem hj'⟩
      have ihc' := ihc c (List.mem_of_getElem? hc)
      have hst := hps j c hc
      have hl1 := hpl (j + 1)
      have hbl : ((preO l m k (a7.take j)).map oInt).length = (preO l m k (a7.take j)).length := List.length_map ..
      have hbc : ((ordN l m c).map oInt).length = (ordN l m c).length := List.length_map ..
      have hsum : (preO l m k (a7.take j)).length + (ordN l m c).length ≤ 60 := by rw [hst, List.length_append] at hl1; omega
      refine IdxK.mk k (eNode ⟨a1, a2, a3, a4, a5, a6, a7, a8, a9, a10⟩) rfl (node_get hx) ?_; ((with_reducible conv => whnf); (with_reducible conv => congr <;> reduce); repeat ((first | (with_reducible refine HaltK.mk ?_) | (with_reducible refine StopK.mk ?_)); (with_reducible conv => whnf); (with_reducible conv => congr <;> reduce)))
      refine IdxK.mk j (eInt c) rfl (int_get hc) ?_; ((with_reducible conv => whnf); (with_reducible conv => congr <;> reduce); repeat ((first | (with_reducible refine HaltK.mk ?_) | (with_reducible refine StopK.mk ?_)); (with_reducible conv => whnf); (with_reducible conv => congr <;> reduce)))
      refine CallK.val [] ihc' c37 ⟨⟨rfl, rfl, trivial⟩, rfl, trivial⟩ rfl rfl rfl ?_; ((with_reducible conv => whnf); (with_reducible conv => congr <;> reduce); repeat ((first | (with_reducible refine HaltK.mk ?_) | (with_reducible refine StopK.mk ?_)); (with_reducible conv => whnf); (with_reducible conv => congr <;> reduce)))
      refine AppK.mk ((preO l m k (a7.take j)).map oInt) ((ordN l m c).map oInt) ⟨rfl, hbl.symm, rfl⟩ ⟨rfl, rfl, rfl⟩ (one_ints _) (by simp; omega) (by simp; omega) ?_; ((with_reducible conv => whnf); (with_reducible conv => congr <;> reduce); repeat ((first | (with_reducible refine HaltK.mk ?_) | (with_reducible refine StopK.mk ?_)); (with_reducible conv => whnf); (with_reducible conv => congr <;> reduce)))
      refine DrawK.mk (by kernel_rfl) (by kernel_rfl) (by kernel_rfl) ?_; ((with_reducible conv => whnf); (with_reducible conv => congr <;> reduce); repeat ((first | (with_reducible refine HaltK.mk ?_) | (with_reducible refine StopK.mk ?_)); (with_reducible conv => whnf); (with_reducible conv => congr <;> reduce)))
      refine NeedK.mk (by (try simp only [castN]); omega) ?_; ((with_reducible conv => whnf); (with_reducible conv => congr <;> reduce); repeat ((first | (with_reducible refine HaltK.mk ?_) | (with_reducible refine StopK.mk ?_)); (with_reducible conv => whnf); (with_reducible conv => congr <;> reduce)))
      refine NextK.mk (j + 1) (by omega) (by omega) ⟨⟨rfl, rfl⟩, ⟨rfl, ⟨rfl, rfl⟩, ⟨rfl, ?_⟩, by show ((j + 1 : Nat) : Int) = (j : Int) + 1; omega, trivial⟩, ⟨⟨rfl, rfl, trivial⟩, trivial⟩, ⟨?_, noRef_ints _⟩, trivial⟩
      · rw [hst]; simp
      · rw [hst, List.map_append]; exact .refl (by rw [← List.map_append]; exact noRef_ints _)
    · refine ⟨⟨rfl, rfl⟩, ?_, ?_⟩ <;> (with_reducible conv => whnf) <;> repeat' (first | (with_reducible exact trivial) | (with_reducible refine And.intro ?_ ?_ <;> with_reducible conv => whnf))
      have hjl : j = a7.length := by simp only [decide_eq_false_iff_not] at h1; omega
      subst hjl
      rw [List.take_length]
      exact frz_ints rfl rfl rfl rfl
theorem f22_ok (f : ForM) (hs : SmallN f.nodes) (T : Tree f.nodes) (a : Nat) (x : NodeM) (hx : f.nodes[a]? = some x) (b : Int) : FnOK Try.prog 22 [] [eFor f, eInt a, eInt b] [] (eBool (holdsR f.nodes a b)) := by
  have h37 := f37_ok f hs T f.nodes.length a x hx (ord_fuel T (there_get hx))
  have hol := ord_len T f.nodes.length (there_get hx)
  have hl := hs.len
  have h29 := f29_ok (ordN f.nodes f.nodes.length a) (by omega) b
  have hh : holdsR f.nodes a b = decide ((0 : Int) < ((ordN f.nodes f.nodes.length a).count b : Nat)) := by
    unfold holdsR
    refine decide_eq_decide.2 ?_
    rw [← List.count_pos_iff]; omega
  rw [hh]
  obtain ⟨l, m⟩ := f
  simp only at h37 h29 ⊢
  refine FnOK.startC (rvs := [.tmp 6]) G G_good Try.func22 rfl Try.ntmps22 rfl rfl ?_; delta List.toArray; ((with_reducible conv => whnf); (with_reducible conv => congr <;> reduce); repeat ((first | (with_reducible refine HaltK.mk ?_) | (with_reducible refine StopK.mk ?_)); (with_reducible conv => whnf); (with_reducible conv => congr <;> reduce)))
  refine CallK.val [] h37 c37 ⟨⟨rfl, rfl, trivial⟩, rfl, trivial⟩ rfl rfl rfl ?_; ((with_reducible conv => whnf); (with_reducible conv => congr <;> reduce); repeat ((first | (with_reducible refine HaltK.mk ?_) | (with_reducible refine StopK.mk ?_)); (with_reducible conv => whnf); (with_reducible conv => congr <;> reduce)))
  refine CallK.lit [] h29 c29 ⟨rfl, rfl, trivial⟩ rfl rfl ?_; ((with_reducible conv => whnf); (with_reducible conv => congr <;> reduce); repeat ((first | (with_reducible refine HaltK.mk ?_) | (with_reducible refine StopK.mk ?_)); (with_reducible conv => whnf); (with_reducible conv => congr <;> reduce)))
  refine ⟨⟨rfl, rfl⟩, ?_, ?_⟩ <;> (with_reducible conv => whnf) <;> repeat' (first | (with_reducible exact trivial) | (with_reducible refine And.intro ?_ ?_ <;> with_reducible conv => whnf))
  all_goals rfl
end Go.Proofs.Able
end
section
set_option linter.unusedSimpArgs false
set_option linter.unusedVariables false
namespace Go.Proofs.Able
open Go Go.Am Go.RowKit Go.Lib
set_option maxRecDepth 100000
theorem node_at {l : List NodeM} {n : Int} (h : 0 ≤ n ∧ n < (l.length : Int)) : ∃ (i : Nat) (y : NodeM), n = (i : Int) ∧ l[i]? = some y ∧ nd l n = y := by
  obtain ⟨i, y, h1, h2, h3⟩ := there_iff.1 (show thereN l n = true by unfold thereN; simp; omega)
  exact ⟨i, y, h1, h2, h3⟩
theorem CutK {P : Program} {N nL : Nat} {sl : SL} {m : ML} {c : Code} {Q : Exit → SL → ML → Prop} {F G : Prop} (main : (F → LoopK P N nL sl m (c := c) (Q := Q)) → G) (rest : F → LoopK P N nL sl m (c := c) (Q := Q)) : G := main rest
set_option maxHeartbeats 16000000 in
/-- ref.Node -/
theorem f19_ok (f : ForM) (hs : SmallN f.nodes) (k : Nat) (x : NodeM) (hx : f.nodes[k]? = some x) : FnOK Try.prog 19 [] [eFor f, eInt k] [] (eBool (refNode f.nodes k x)) := by
  have h29 := fun (l : List Int) (hl : l.length ≤ 100000) => f29_ok l hl
  have hxk := hs.kids x (List.mem_of_getElem? hx)
  have hxa := hs.attrs x (List.mem_of_getElem? hx)
  have hxn := hs.name x (List.mem_of_getElem? hx)
  have h30 := f30_ok x.name
  have h31 := f31_ok x.name (by omega)
  have h32 := f32_ok x.is
  have h33 := f33_ok x.attrs (by omega)
  have hK : ∀ (i : Nat) (y : NodeM), f.nodes[i]? = some y → y.kids.length ≤ 100000 := fun i y h => by have := hs.kids y (List.mem_of_getElem? h); omega
  have hl := hs.len
  have hk : k < f.nodes.length := (List.getElem?_eq_some_iff.1 hx).1
  obtain ⟨l, m⟩ := f
  unfold refNode
  simp only at hK hx hl hk ⊢
  obtain ⟨a1, a2, a3, a4, a5, a6, a7, a8, a9, a10⟩ := x
  simp only at hxk hxa hxn h30 h31 h32 h33 ⊢
  have hlm : (l.map oNode).length = l.length := List.length_map ..
  have hlk : (a7.map oInt).length = a7.length := List.length_map ..
  have hla : (a5.map oAttr).length = a5.length := List.length_map ..
  apply CutK (P := Try.prog) (N := 353) (nL := 0) (F := rDoc l k ⟨a1, a2, a3, a4, a5, a6, a7, a8, a9, a10⟩ = true ∧ rPar l k ⟨a1, a2, a3, a4, a5, a6, a7, a8, a9, a10⟩ = true)
    (sl := [(1, eInt k), (2, .ptr 20 0 0), (5, .ptr 50 0 0), (6, eInt l.length), (7, eInt 0), (8, eInt 0)]) (m := [(20, .live 2 [eFor ⟨l, m⟩] false), (50, .live 10 [eNode ⟨a1, a2, a3, a4, a5, a6, a7, a8, a9, a10⟩] false)])
  case main =>
    intro key
    have bad1 : ∀ b, rDoc l k ⟨a1, a2, a3, a4, a5, a6, a7, a8, a9, a10⟩ = false → (rDoc l k ⟨a1, a2, a3, a4, a5, a6, a7, a8, a9, a10⟩ && b) = false := fun b h => by rw [h]; rfl
    have bad2 : ∀ b c, rPar l k ⟨a1, a2, a3, a4, a5, a6, a7, a8, a9, a10⟩ = false → (c && (rPar l k ⟨a1, a2, a3, a4, a5, a6, a7, a8, a9, a10⟩ && b)) = false := fun b c h => by rw [h]; simp
    refine FnOK.startC (rvs := [.tmp 4]) G G_good Try.func19 rfl Try.ntmps19 rfl rfl ?_; delta List.toArray; ((with_reducible conv => whnf); (with_reducible conv => congr <;> reduce); repeat ((first | (with_reducible refine HaltK.mk ?_) | (with_reducible refine StopK.mk ?_)); (with_reducible conv => whnf); (with_reducible conv => congr <;> reduce)))
    refine IdxK.mk k (eNode ⟨a1, a2, a3, a4, a5, a6, a7, a8, a9, a10⟩) rfl (node_get hx) ?_; ((with_reducible conv => whnf); (with_reducible conv => congr <;> reduce); repeat ((first | (with_reducible refine HaltK.mk ?_) | (with_reducible refine StopK.mk ?_)); (with_reducible conv => whnf); (with_reducible conv => congr <;> reduce)))
    repeat' (first
    | (first
    | ((with_reducible show IfK _ _ _ _); first | refine IfK.ff ?_ | refine IfK.tt ?_ | refine IfK.no (by first | rfl | assumption | exact nf (by assumption) | exact nt (by assumption) | exact decide_eq_true (by (try simp only [castN]); omega) | exact decide_eq_false (by (try simp only [castN]); omega)) ?_ | refine IfK.yes (by first | rfl | assumption | exact nf (by assumption) | exact nt (by assumption) | exact decide_eq_true (by (try simp only [castN]); omega) | exact decide_eq_false (by (try simp only [castN]); omega)) ?_ | (refine IfK.mk (fun hp => ?_) (fun hp => ?_) <;> (try simp only [castN, decide_eq_true_eq, decide_eq_false_iff_not, Bool.not_eq_true', Bool.not_eq_false', Decidable.not_not, Int.not_lt, Int.not_le] at hp)))
    | ((with_reducible show NeedK _ _ _ _); refine NeedK.mk (by (try simp only [castN]); omega) ?_)
    | ((with_reducible show DrawK _ _ _ _); refine DrawK.mk (by kernel_rfl) (by kernel_rfl) (by kernel_rfl) ?_)
    | ((with_reducible show IdxK _ a10 _ _ _); refine IdxK.mk iD (eNode _) eD (node_get hyD) ?_)
    | ((with_reducible show IdxK _ a10 _ _ _); (obtain ⟨iD, y, eD, hyD, hnyD⟩ := node_at (l := l) (n := a10) (by omega)); (obtain ⟨b1, b2, b3, b4, b5, b6, b7, b8, b9, b10⟩ := y); refine IdxK.mk iD (eNode ⟨b1, b2, b3, b4, b5, b6, b7, b8, b9, b10⟩) eD (node_get hyD) ?_)
    | ((with_reducible show IdxK _ a6 _ _ _); refine IdxK.mk iP (eNode _) eP (node_get hyP) ?_)
    | ((with_reducible show IdxK _ a6 _ _ _); (obtain ⟨iP, y, eP, hyP, hnyP⟩ := node_at (l := l) (n := a6) (by omega)); (obtain ⟨b1, b2, b3, b4, b5, b6, b7, b8, b9, b10⟩ := y); refine IdxK.mk iP (eNode ⟨b1, b2, b3, b4, b5, b6, b7, b8, b9, b10⟩) eP (node_get hyP) ?_)
    | ((with_reducible show CallK _ _ 29 _ _ _ _); refine CallK.lit [] (h29 _ (hK _ _ hyP) k) c29 ⟨rfl, rfl, trivial⟩ rfl rfl ?_)) <;> ((with_reducible conv => whnf); (with_reducible conv => congr <;> reduce); repeat ((first | (with_reducible refine HaltK.mk ?_) | (with_reducible refine StopK.mk ?_)); (with_reducible conv => whnf); (with_reducible conv => congr <;> reduce)))
    | ((with_reducible show (_ ∧ _) ∧ _ ∧ _); refine ⟨⟨rfl, rfl⟩, ?_, ?_⟩ <;> (with_reducible conv => whnf) <;> repeat' (first | (with_reducible exact trivial) | (with_reducible refine And.intro ?_ ?_ <;> with_reducible conv => whnf))))
    all_goals first
      | refine bad1 _ ?_
        (rw [Bool.eq_false_iff]; intro h; (first | simp only [rDoc, isN, thereN, Bool.and_eq_true, Bool.or_eq_true, decide_eq_true_eq, ne_eq, ← List.length_eq_zero_iff, hnyD] at h | simp only [rDoc, isN, thereN, Bool.and_eq_true, Bool.or_eq_true, decide_eq_true_eq, ne_eq, ← List.length_eq_zero_iff] at h); omega)
      | refine bad2 _ _ ?_
        (rw [Bool.eq_false_iff]; intro h; (first | simp only [rPar, isN, thereN, Bool.and_eq_true, Bool.or_eq_true, decide_eq_true_eq, ne_eq, ← List.length_eq_zero_iff, hnyP] at h | simp only [rPar, isN, thereN, Bool.and_eq_true, Bool.or_eq_true, decide_eq_true_eq, ne_eq, ← List.length_eq_zero_iff] at h); omega)
      | refine LoopK.fit ?_ (key ⟨?_, ?_⟩)
        · exact ⟨⟨rfl, rfl⟩, ⟨rfl, ⟨rfl, rfl⟩, ⟨rfl, rfl⟩, by show (l.length : Int) = ((l.map oNode).length : Int); rw [hlm], rfl, rfl, trivial⟩, ⟨⟨rfl, rfl, trivial⟩, trivial⟩, ⟨⟨rfl, rfl, rfl, rfl, rfl, rfl, rfl, rfl, rfl, rfl, trivial⟩, trivial⟩, trivial⟩
        ·
          (simp only [rDoc, isN, thereN, Bool.and_eq_true, Bool.or_eq_true, decide_eq_true_eq, ne_eq, ← List.length_eq_zero_iff, hnyD]; omega)
        · first
            | (rw [rPar, decide_eq_true (by assumption)]; rfl)
            | skip
              (simp only [rPar, isN, thereN, Bool.and_eq_true, Bool.or_eq_true, decide_eq_true_eq, ne_eq, ← List.length_eq_zero_iff, hnyP]; omega)
      | trace_state
  case rest =>
    rintro ⟨hD, hP⟩
    rw [hD, hP]
    simp only [Bool.true_and]
    have bad3 : ∀ b, a7.all (rKid l k ⟨a1, a2, a3, a4, a5, a6, a7, a8, a9, a10⟩) = false → (a7.all (rKid l k ⟨a1, a2, a3, a4, a5, a6, a7, a8, a9, a10⟩) && b) = false := fun b h => by rw [h]; rfl
    refine LoopK.use G G_good (fun (j : Nat) => [(1, eInt k), (2, .ptr 20 0 0), (5, .ptr 50 0 0), (6, eInt l.length), (7, eInt (elemsN l (a7.take j))), (8, eInt j)]) (fun _ => [(20, .live 2 [eFor ⟨l, m⟩] false), (50, .live 10 [eNode ⟨a1, a2, a3, a4, a5, a6, a7, a8, a9, a10⟩] false)])
      (fun j => j ≤ a7.length ∧ ∀ (i : Nat) (c : Int), i < j → a7[i]? = some c → rKid l k ⟨a1, a2, a3, a4, a5, a6, a7, a8, a9, a10⟩ c = true) (fun j => a7.length - j) 0 ⟨Nat.zero_le _, fun i c h => by omega⟩
      ⟨⟨rfl, rfl⟩, ⟨rfl, ⟨rfl, rfl⟩, ⟨rfl, rfl⟩, rfl, rfl, rfl, trivial⟩, ⟨⟨rfl, rfl, trivial⟩, trivial⟩, ⟨⟨rfl, rfl, rfl, rfl, rfl, rfl, rfl, rfl, rfl, rfl, trivial⟩, trivial⟩, trivial⟩ ?_
    rintro j ⟨hj, hok⟩
    ((with_reducible conv => whnf); (with_reducible conv => congr <;> reduce); repeat ((first | (with_reducible refine HaltK.mk ?_) | (with_reducible refine StopK.mk ?_)); (with_reducible conv => whnf); (with_reducible conv => congr <;> reduce)))
    refine IfK.mk (fun h1 => ?_) (fun h1 => ?_) <;> (try simp only [castN] at h1) <;> ((with_reducible conv => whnf); (with_reducible conv => congr <;> reduce); repeat ((first | (with_reducible refine HaltK.mk ?_) | (with_reducible refine StopK.mk ?_)); (with_reducible conv => whnf); (with_reducible conv => congr <;> reduce)))
    · have hj' : j < a7.length := by simp only [decide_eq_true_eq] at h1; omega
      obtain ⟨c, hc⟩ : ∃ c, a7[j]? = some c := ⟨_, List.getElem?_eq_getElem hj'⟩
      have hse := @elems_step l a7 j c hc
      have hel := elems_le l a7 j
      have h29' := h29 a7 (by omega) c
      have good : rKid l k ⟨a1, a2, a3, a4, a5, a6, a7, a8, a9, a10⟩ c = true → ∀ (i : Nat) (d : Int), i < j + 1 → a7[i]? = some d → rKid l k ⟨a1, a2, a3, a4, a5, a6, a7, a8, a9, a10⟩ d = true := fun h i d hi hd => by
        rcases Nat.lt_or_ge i j with h6 | h6
        · exact hok i d h6 hd
        · have : i = j := by omega
          subst this
          rw [hc] at hd; cases hd; exact h
      refine IdxK.mk j (eInt c) rfl (int_get hc) ?_; ((with_reducible conv => whnf); (with_reducible conv => congr <;> reduce); repeat ((first | (with_reducible refine HaltK.mk ?_) | (with_reducible refine StopK.mk ?_)); (with_reducible conv => whnf); (with_reducible conv => congr <;> reduce)))
      repeat' (first
    | (first
    | ((with_reducible show IfK _ _ _ _); first | refine IfK.ff ?_ | refine IfK.tt ?_ | refine IfK.no (by first | rfl | assumption | exact nf (by assumption) | exact nt (by assumption) | exact decide_eq_true (by (try simp only [castN]); omega) | exact decide_eq_false (by (try simp only [castN]); omega)) ?_ | refine IfK.yes (by first | rfl | assumption | exact nf (by assumption) | exact nt (by assumption) | exact decide_eq_true (by (try simp only [castN]); omega) | exact decide_eq_false (by (try simp only [castN]); omega)) ?_ | (refine IfK.mk (fun hp => ?_) (fun hp => ?_) <;> (try simp only [castN, decide_eq_true_eq, decide_eq_false_iff_not, Bool.not_eq_true', Bool.not_eq_false', Decidable.not_not, Int.not_lt, Int.not_le] at hp)))
    | ((with_reducible show NeedK _ _ _ _); refine NeedK.mk (by (try simp only [castN]); omega) ?_)
    | ((with_reducible show DrawK _ _ _ _); refine DrawK.mk (by kernel_rfl) (by kernel_rfl) (by kernel_rfl) ?_)
    | ((with_reducible show IdxK _ c _ _ _); refine IdxK.mk iK (eNode _) eK (node_get hyK) ?_)
    | ((with_reducible show IdxK _ c _ _ _); (obtain ⟨iK, y, eK, hyK, hnyK⟩ := node_at (l := l) (n := c) (by omega)); (obtain ⟨b1, b2, b3, b4, b5, b6, b7, b8, b9, b10⟩ := y); refine IdxK.mk iK (eNode ⟨b1, b2, b3, b4, b5, b6, b7, b8, b9, b10⟩) eK (node_get hyK) ?_)
    | ((with_reducible show CallK _ _ 29 _ _ _ _); refine CallK.lit [] h29' c29 ⟨rfl, rfl, trivial⟩ rfl rfl ?_)) <;> ((with_reducible conv => whnf); (with_reducible conv => congr <;> reduce); repeat ((first | (with_reducible refine HaltK.mk ?_) | (with_reducible refine StopK.mk ?_)); (with_reducible conv => whnf); (with_reducible conv => congr <;> reduce)))
    | ((with_reducible show (_ ∧ _) ∧ _ ∧ _); refine ⟨⟨rfl, rfl⟩, ?_, ?_⟩ <;> (with_reducible conv => whnf) <;> repeat' (first | (with_reducible exact trivial) | (with_reducible refine And.intro ?_ ?_ <;> with_reducible conv => whnf))))
      all_goals first
        | refine bad3 _ (all_no hc ?_)
          (rw [Bool.eq_false_iff]; intro h; (first | simp only [rKid, isN, thereN, Bool.and_eq_true, Bool.or_eq_true, decide_eq_true_eq, ne_eq, ← List.length_eq_zero_iff, hnyK] at h | simp only [rKid, isN, thereN, Bool.and_eq_true, Bool.or_eq_true, decide_eq_true_eq, ne_eq, ← List.length_eq_zero_iff] at h); omega)
        | ((with_reducible show NextK _ _); refine NextK.mk (j + 1) ⟨by omega, good ?_⟩ (by omega) ⟨⟨rfl, rfl⟩, ⟨rfl, ⟨rfl, rfl⟩, ⟨rfl, rfl⟩, rfl, by rw [hse, hnyK]; first | (simp [show b1 = 1 by omega]; done) | (simp [show ¬ b1 = 1 by omega]; done), by show ((j + 1 : Nat) : Int) = (j : Int) + 1; omega, trivial⟩, ⟨⟨rfl, rfl, trivial⟩, trivial⟩, ⟨⟨rfl, rfl, rfl, rfl, rfl, rfl, rfl, rfl, rfl, rfl, trivial⟩, trivial⟩, trivial⟩)
          (simp only [rKid, isN, thereN, Bool.and_eq_true, Bool.or_eq_true, decide_eq_true_eq, ne_eq, ← List.length_eq_zero_iff, hnyK]; omega)
        | trace_state
    · have hjl : j = a7.length := by simp only [decide_eq_false_iff_not] at h1; omega
      rw [all_yes fun i c hc => hok i c (by have := (List.getElem?_eq_some_iff.1 hc).1; omega) hc, Bool.true_and]
      rw [hjl, List.take_length]
      have hel := elems_le l a7 a7.length
      rw [List.take_length] at hel
      have bad4 : ∀ b, rElems l ⟨a1, a2, a3, a4, a5, a6, a7, a8, a9, a10⟩ = false → (rElems l ⟨a1, a2, a3, a4, a5, a6, a7, a8, a9, a10⟩ && b) = false := fun b h => by rw [h]; rfl
      have bad5 : ∀ b c, shadedN l k ⟨a1, a2, a3, a4, a5, a6, a7, a8, a9, a10⟩ = false → (c && (shadedN l k ⟨a1, a2, a3, a4, a5, a6, a7, a8, a9, a10⟩ && b)) = false := fun b c h => by rw [h]; simp
      have good6 : rElems l ⟨a1, a2, a3, a4, a5, a6, a7, a8, a9, a10⟩ = true → shadedN l k ⟨a1, a2, a3, a4, a5, a6, a7, a8, a9, a10⟩ = true → ∀ b, rName ⟨a1, a2, a3, a4, a5, a6, a7, a8, a9, a10⟩ = b → (rElems l ⟨a1, a2, a3, a4, a5, a6, a7, a8, a9, a10⟩ && (shadedN l k ⟨a1, a2, a3, a4, a5, a6, a7, a8, a9, a10⟩ && rName ⟨a1, a2, a3, a4, a5, a6, a7, a8, a9, a10⟩)) = b := fun h1 h2 b h3 => by rw [h1, h2, h3]; rfl
      repeat' (first
    | (first
    | ((with_reducible show IfK _ _ _ _); first | refine IfK.ff ?_ | refine IfK.tt ?_ | refine IfK.no (by first | rfl | assumption | exact nf (by assumption) | exact nt (by assumption) | exact decide_eq_true (by (try simp only [castN]); omega) | exact decide_eq_false (by (try simp only [castN]); omega)) ?_ | refine IfK.yes (by first | rfl | assumption | exact nf (by assumption) | exact nt (by assumption) | exact decide_eq_true (by (try simp only [castN]); omega) | exact decide_eq_false (by (try simp only [castN]); omega)) ?_ | (refine IfK.mk (fun hp => ?_) (fun hp => ?_) <;> (try simp only [castN, decide_eq_true_eq, decide_eq_false_iff_not, Bool.not_eq_true', Bool.not_eq_false', Decidable.not_not, Int.not_lt, Int.not_le] at hp)))
    | ((with_reducible show NeedK _ _ _ _); refine NeedK.mk (by (try simp only [castN]); omega) ?_)
    | ((with_reducible show DrawK _ _ _ _); refine DrawK.mk (by kernel_rfl) (by kernel_rfl) (by kernel_rfl) ?_)
    | ((with_reducible show IdxK _ a8 _ _ _); refine IdxK.mk iH (eNode _) eH (node_get hyH) ?_)
    | ((with_reducible show IdxK _ a8 _ _ _); (obtain ⟨iH, y, eH, hyH, hnyH⟩ := node_at (l := l) (n := a8) (by omega)); (obtain ⟨b1, b2, b3, b4, b5, b6, b7, b8, b9, b10⟩ := y); refine IdxK.mk iH (eNode ⟨b1, b2, b3, b4, b5, b6, b7, b8, b9, b10⟩) eH (node_get hyH) ?_)
    | ((with_reducible show IdxK _ a9 _ _ _); refine IdxK.mk iU (eNode _) eU (node_get hyU) ?_)
    | ((with_reducible show IdxK _ a9 _ _ _); (obtain ⟨iU, y, eU, hyU, hnyU⟩ := node_at (l := l) (n := a9) (by omega)); (obtain ⟨b1, b2, b3, b4, b5, b6, b7, b8, b9, b10⟩ := y); refine IdxK.mk iU (eNode ⟨b1, b2, b3, b4, b5, b6, b7, b8, b9, b10⟩) eU (node_get hyU) ?_)
    | ((with_reducible show CallK _ _ 30 _ _ _ _); refine CallK.lit [] h30 c30 ⟨rfl, trivial⟩ rfl rfl ?_)
    | ((with_reducible show CallK _ _ 31 _ _ _ _); refine CallK.lit [] h31 c31 ⟨rfl, trivial⟩ rfl rfl ?_)
    | ((with_reducible show CallK _ _ 32 _ _ _ _); refine CallK.lit [] h32 c32 ⟨rfl, trivial⟩ rfl rfl ?_)
    | ((with_reducible show CallK _ _ 33 _ _ _ _); refine CallK.lit [] h33 c33 ⟨rfl, trivial⟩ rfl rfl ?_)) <;> ((with_reducible conv => whnf); (with_reducible conv => congr <;> reduce); repeat ((first | (with_reducible refine HaltK.mk ?_) | (with_reducible refine StopK.mk ?_)); (with_reducible conv => whnf); (with_reducible conv => congr <;> reduce)))
    | ((with_reducible show (_ ∧ _) ∧ _ ∧ _); refine ⟨⟨rfl, rfl⟩, ?_, ?_⟩ <;> (with_reducible conv => whnf) <;> repeat' (first | (with_reducible exact trivial) | (with_reducible refine And.intro ?_ ?_ <;> with_reducible conv => whnf))))
      all_goals clear hok
      all_goals first
        | refine bad4 _ ?_
          (rw [Bool.eq_false_iff]; intro h; (first | simp only [rElems, isN, thereN, Bool.and_eq_true, Bool.or_eq_true, decide_eq_true_eq, ne_eq, ← List.length_eq_zero_iff, hlk] at h | simp only [rElems, isN, thereN, Bool.and_eq_true, Bool.or_eq_true, decide_eq_true_eq, ne_eq, ← List.length_eq_zero_iff] at h); omega)
        | refine bad5 _ _ ?_
          (rw [Bool.eq_false_iff]; intro h; by_cases e4 : a1 = 4
           · simp only [shadedN, if_pos e4, isN, thereN, Bool.and_eq_true, Bool.or_eq_true, decide_eq_true_eq, ne_eq] at h; (try simp only [hnyH] at h); (try simp only [hnyU] at h); omega
           · simp only [shadedN, if_neg e4, isN, thereN, Bool.and_eq_true, Bool.or_eq_true, decide_eq_true_eq, ne_eq] at h; (try simp only [hnyH] at h); (try simp only [hnyU] at h); omega)
        | refine good6 ?_ ?_ _ ?_
          ·
            (simp only [rElems, isN, thereN, Bool.and_eq_true, Bool.or_eq_true, decide_eq_true_eq, ne_eq, ← List.length_eq_zero_iff, hlk]; omega)
          ·
            (by_cases e4 : a1 = 4
             · simp only [shadedN, if_pos e4, isN, thereN, Bool.and_eq_true, Bool.or_eq_true, decide_eq_true_eq, ne_eq]; (try simp only [hnyH]); (try simp only [hnyU]); omega
             · simp only [shadedN, if_neg e4, isN, thereN, Bool.and_eq_true, Bool.or_eq_true, decide_eq_true_eq, ne_eq]; (try simp only [hnyH]); (try simp only [hnyU]); omega)
          · clear bad4 bad5 good6 hK hs hx h29 h30 h31 h32 h33 hD hP
            first | (simp_all [rName]; done) | (simp_all [rName]; omega)
        | trace_state
end Go.Proofs.Able
end
section
set_option linter.unusedSimpArgs false
set_option linter.unusedVariables false
namespace Go.Proofs.Able
open Go Go.Am Go.RowKit Go.Lib
set_option maxRecDepth 100000
set_option maxHeartbeats 16000000 in
/-- ref.Right -/
theorem f8_ok (f : ForM) (hs : SmallN f.nodes) : FnOK Try.prog 8 [] [eFor f] [] (eBool (rightR f)) := by
  have hl := hs.len
  have h19 := f19_ok f hs
  obtain ⟨l, m⟩ := f
  unfold rightR
  simp only at h19 hl ⊢
  have hlm : (l.map oNode).length = l.length := List.length_map ..
  have bad0 : ∀ b, headOK ⟨l, m⟩ = false → (headOK ⟨l, m⟩ && b) = false := fun b h => by rw [h]; rfl
  apply CutK (P := Try.prog) (N := 84) (nL := 0) (F := headOK ⟨l, m⟩ = true) (sl := [(1, .ptr 10 0 0), (3, eInt 0)]) (m := [(10, .live 2 [eFor ⟨l, m⟩] false)])
  case main =>
    intro key
    refine FnOK.startC (rvs := [.tmp 2]) G G_good Try.func8 rfl Try.ntmps8 rfl rfl ?_; delta List.toArray; ((with_reducible conv => whnf); (with_reducible conv => congr <;> reduce); repeat ((first | (with_reducible refine HaltK.mk ?_) | (with_reducible refine StopK.mk ?_)); (with_reducible conv => whnf); (with_reducible conv => congr <;> reduce)))
    repeat' (first
    | (first
    | ((with_reducible show IfK _ _ _ _); first | refine IfK.ff ?_ | refine IfK.tt ?_ | refine IfK.no (by first | rfl | assumption | exact nf (by assumption) | exact nt (by assumption) | exact decide_eq_true (by (try simp only [castN]); omega) | exact decide_eq_false (by (try simp only [castN]); omega)) ?_ | refine IfK.yes (by first | rfl | assumption | exact nf (by assumption) | exact nt (by assumption) | exact decide_eq_true (by (try simp only [castN]); omega) | exact decide_eq_false (by (try simp only [castN]); omega)) ?_ | (refine IfK.mk (fun hp => ?_) (fun hp => ?_) <;> (try simp only [castN, decide_eq_true_eq, decide_eq_false_iff_not, Bool.not_eq_true', Bool.not_eq_false', Decidable.not_not, Int.not_lt, Int.not_le] at hp)))
    | ((with_reducible show NeedK _ _ _ _); refine NeedK.mk (by (try simp only [castN]); omega) ?_)
    | ((with_reducible show DrawK _ _ _ _); refine DrawK.mk (by kernel_rfl) (by kernel_rfl) (by kernel_rfl) ?_)
    | ((with_reducible show IdxK _ (0:Int) _ _ _); refine IdxK.mk iZ (eNode _) eZ (node_get hyZ) ?_)
    | ((with_reducible show IdxK _ (0:Int) _ _ _); (obtain ⟨iZ, y, eZ, hyZ, hnyZ⟩ := node_at (l := l) (n := (0:Int)) (by omega)); (obtain ⟨b1, b2, b3, b4, b5, b6, b7, b8, b9, b10⟩ := y); refine IdxK.mk iZ (eNode ⟨b1, b2, b3, b4, b5, b6, b7, b8, b9, b10⟩) eZ (node_get hyZ) ?_)) <;> ((with_reducible conv => whnf); (with_reducible conv => congr <;> reduce); repeat ((first | (with_reducible refine HaltK.mk ?_) | (with_reducible refine StopK.mk ?_)); (with_reducible conv => whnf); (with_reducible conv => congr <;> reduce)))
    | ((with_reducible show (_ ∧ _) ∧ _ ∧ _); refine ⟨⟨rfl, rfl⟩, ?_, ?_⟩ <;> (with_reducible conv => whnf) <;> repeat' (first | (with_reducible exact trivial) | (with_reducible refine And.intro ?_ ?_ <;> with_reducible conv => whnf))))
    all_goals first
      | refine bad0 _ ?_
        (rw [Bool.eq_false_iff]; intro h; simp only [headOK, Bool.and_eq_true, decide_eq_true_eq] at h; (try simp only [hnyZ] at h); omega)
      | refine LoopK.fit ?_ (key ?_)
        · exact ⟨⟨rfl, rfl⟩, ⟨⟨rfl, rfl⟩, rfl, trivial⟩, ⟨⟨rfl, rfl, trivial⟩, trivial⟩, trivial⟩
        · simp only [headOK, Bool.and_eq_true, decide_eq_true_eq, hnyZ]; omega
      | trace_state
  case rest =>
    intro hH
    rw [hH, Bool.true_and]
    refine LoopK.use G G_good (fun (k : Nat) => [(1, .ptr 10 0 0), (3, eInt k)]) (fun _ => [(10, .live 2 [eFor ⟨l, m⟩] false)])
      (fun k => k ≤ l.length ∧ ∀ j x, j < k → l[j]? = some x → refNode l j x = true) (fun k => l.length - k) 0 ⟨Nat.zero_le _, fun j x h => by omega⟩
      ⟨⟨rfl, rfl⟩, ⟨⟨rfl, rfl⟩, rfl, trivial⟩, ⟨⟨rfl, rfl, trivial⟩, trivial⟩, trivial⟩ ?_
    rintro k ⟨hk, hok⟩
    ((with_reducible conv => whnf); (with_reducible conv => congr <;> reduce); repeat ((first | (with_reducible refine HaltK.mk ?_) | (with_reducible refine StopK.mk ?_)); (with_reducible conv => whnf); (with_reducible conv => congr <;> reduce)))
    refine IfK.mk (fun g1 => ?_) (fun g1 => ?_) <;> (try simp only [castN] at g1) <;> ((with_reducible conv => whnf); (with_reducible conv => congr <;> reduce); repeat ((first | (with_reducible refine HaltK.mk ?_) | (with_reducible refine StopK.mk ?_)); (with_reducible conv => whnf); (with_reducible conv => congr <;> reduce)))
    · have hk' : k < l.length := by simp only [decide_eq_true_eq] at g1; omega
      obtain ⟨x, hx⟩ : ∃ x, l[k]? = some x := ⟨_, List.getElem?_eq_getElem hk'⟩
      have h19' := h19 k x hx
      have good : refNode l k x = true → ∀ j y, j < k + 1 → l[j]? = some y → refNode l j y = true := fun h j y hj hy => by
        rcases Nat.lt_or_ge j k with h6 | h6
        · exact hok j y h6 hy
        · have : j = k := by omega
          subst this
          rw [hx] at hy; cases hy; exact h
      refine CallK.lit [] h19' c19 ⟨⟨rfl, rfl, trivial⟩, rfl, trivial⟩ rfl rfl ?_; ((with_reducible conv => whnf); (with_reducible conv => congr <;> reduce); repeat ((first | (with_reducible refine HaltK.mk ?_) | (with_reducible refine StopK.mk ?_)); (with_reducible conv => whnf); (with_reducible conv => congr <;> reduce)))
      cases q : refNode l k x with
      | false =>
        rw [allIx_no hx q, Bool.false_and]
        repeat' (first
    | (first
    | ((with_reducible show IfK _ _ _ _); first | refine IfK.ff ?_ | refine IfK.tt ?_ | refine IfK.no (by first | rfl | assumption | exact nf (by assumption) | exact nt (by assumption) | ((try simp only [castN]); first | (simp [q]; done) | (simp [q]; omega))) ?_ | refine IfK.yes (by first | rfl | assumption | exact nf (by assumption) | exact nt (by assumption) | ((try simp only [castN]); first | (simp [q]; done) | (simp [q]; omega))) ?_)
    | ((with_reducible show NeedK _ _ _ _); refine NeedK.mk (by (try simp only [castN]); omega) ?_)
    | ((with_reducible show DrawK _ _ _ _); refine DrawK.mk (by kernel_rfl) (by kernel_rfl) (by kernel_rfl) ?_)) <;> ((with_reducible conv => whnf); (with_reducible conv => congr <;> reduce); repeat ((first | (with_reducible refine HaltK.mk ?_) | (with_reducible refine StopK.mk ?_)); (with_reducible conv => whnf); (with_reducible conv => congr <;> reduce)))
    | ((with_reducible show (_ ∧ _) ∧ _ ∧ _); refine ⟨⟨rfl, rfl⟩, ?_, ?_⟩ <;> (with_reducible conv => whnf) <;> repeat' (first | (with_reducible exact trivial) | (with_reducible refine And.intro ?_ ?_ <;> with_reducible conv => whnf))))
      | true =>
        repeat' (first
    | (first
    | ((with_reducible show IfK _ _ _ _); first | refine IfK.ff ?_ | refine IfK.tt ?_ | refine IfK.no (by first | rfl | assumption | exact nf (by assumption) | exact nt (by assumption) | ((try simp only [castN]); first | (simp [q]; done) | (simp [q]; omega))) ?_ | refine IfK.yes (by first | rfl | assumption | exact nf (by assumption) | exact nt (by assumption) | ((try simp only [castN]); first | (simp [q]; done) | (simp [q]; omega))) ?_)
    | ((with_reducible show NeedK _ _ _ _); refine NeedK.mk (by (try simp only [castN]); omega) ?_)
    | ((with_reducible show DrawK _ _ _ _); refine DrawK.mk (by kernel_rfl) (by kernel_rfl) (by kernel_rfl) ?_)
    | ((with_reducible show NextK _ _); refine NextK.mk (k + 1) ⟨by omega, good q⟩ (by omega) ⟨⟨rfl, rfl⟩, ⟨⟨rfl, rfl⟩, by show ((k + 1 : Nat) : Int) = (k : Int) + 1; omega, trivial⟩, ⟨⟨rfl, rfl, trivial⟩, trivial⟩, trivial⟩)) <;> ((with_reducible conv => whnf); (with_reducible conv => congr <;> reduce); repeat ((first | (with_reducible refine HaltK.mk ?_) | (with_reducible refine StopK.mk ?_)); (with_reducible conv => whnf); (with_reducible conv => congr <;> reduce)))
    | ((with_reducible show (_ ∧ _) ∧ _ ∧ _); refine ⟨⟨rfl, rfl⟩, ?_, ?_⟩ <;> (with_reducible conv => whnf) <;> repeat' (first | (with_reducible exact trivial) | (with_reducible refine And.intro ?_ ?_ <;> with_reducible conv => whnf))))
    · have hkl : k = l.length := by simp only [decide_eq_false_iff_not] at g1; omega
      have hall : ∀ (j : Nat) (x : NodeM), l[j]? = some x → refNode l j x = true := fun j x hx => hok j x (by have := (List.getElem?_eq_some_iff.1 hx).1; omega) hx
      rw [allIx_yes hall, Bool.true_and]
      have hup : ∀ n, thereN l n = true → upN (nd l n) = -1 ∨ thereN l (upN (nd l n)) = true := node_up (of_ref fun n hn => by
        obtain ⟨k, x, rfl, hk, hx⟩ := there_iff.1 hn
        rw [hx]; exact hall k x hk)
      refine LoopK.use G G_good (fun (k : Nat) => [(1, .ptr 10 0 0), (4, eInt k)]) (fun _ => [(10, .live 2 [eFor ⟨l, m⟩] false)])
        (fun k => k ≤ l.length ∧ ∀ (j : Nat) (x : NodeM), j < k → l[j]? = some x → endsN l (l.length + 1) j = true) (fun k => l.length - k) 0 ⟨Nat.zero_le _, fun j x h => by omega⟩
        ⟨⟨rfl, rfl⟩, ⟨⟨rfl, rfl⟩, rfl, trivial⟩, ⟨⟨rfl, rfl, trivial⟩, trivial⟩, trivial⟩ ?_
      rintro i ⟨hi, hends⟩
      ((with_reducible conv => whnf); (with_reducible conv => congr <;> reduce); repeat ((first | (with_reducible refine HaltK.mk ?_) | (with_reducible refine StopK.mk ?_)); (with_reducible conv => whnf); (with_reducible conv => congr <;> reduce)))
      refine IfK.mk (fun g2 => ?_) (fun g2 => ?_) <;> (try simp only [castN] at g2) <;> ((with_reducible conv => whnf); (with_reducible conv => congr <;> reduce); repeat ((first | (with_reducible refine HaltK.mk ?_) | (with_reducible refine StopK.mk ?_)); (with_reducible conv => whnf); (with_reducible conv => congr <;> reduce)))
      · have hi' : i < l.length := by simp only [decide_eq_true_eq] at g2; omega
        obtain ⟨x, hx⟩ : ∃ x, l[i]? = some x := ⟨_, List.getElem?_eq_getElem hi'⟩
        refine LoopK.use G G_good (fun (p : Nat × Int) => [(1, .ptr 10 0 0), (4, eInt i), (5, eInt p.2), (6, eInt p.1)]) (fun _ => [(10, .live 2 [eFor ⟨l, m⟩] false)])
          (fun p => p.1 ≤ l.length + 1 ∧ (p.2 = -1 ∨ thereN l p.2 = true) ∧ endsN l (l.length + 1) i = if p.2 = -1 then true else endsN l (l.length + 1 - p.1) p.2) (fun p => l.length + 1 - p.1) (0, (i : Int)) ⟨Nat.zero_le _, .inr (there_get hx), by rw [if_neg (by omega)]; rfl⟩
          ⟨⟨rfl, rfl⟩, ⟨⟨rfl, rfl⟩, rfl, rfl, rfl, trivial⟩, ⟨⟨rfl, rfl, trivial⟩, trivial⟩, trivial⟩ ?_
        rintro ⟨s, a⟩ ⟨hss, hat, hee⟩
        simp only at hss hat hee ⊢
        ((with_reducible conv => whnf); (with_reducible conv => congr <;> reduce); repeat ((first | (with_reducible refine HaltK.mk ?_) | (with_reducible refine StopK.mk ?_)); (with_reducible conv => whnf); (with_reducible conv => congr <;> reduce)))
        by_cases ea : a = -1
        · rw [if_pos ea] at hee
          subst ea
          repeat' (first
    | (first
    | ((with_reducible show IfK _ _ _ _); first | refine IfK.ff ?_ | refine IfK.tt ?_ | refine IfK.no (by first | rfl | assumption | exact nf (by assumption) | exact nt (by assumption) | ((try simp only [castN]); first | (simp []; done) | (simp []; omega))) ?_ | refine IfK.yes (by first | rfl | assumption | exact nf (by assumption) | exact nt (by assumption) | ((try simp only [castN]); first | (simp []; done) | (simp []; omega))) ?_)
    | ((with_reducible show NeedK _ _ _ _); refine NeedK.mk (by (try simp only [castN]); omega) ?_)
    | ((with_reducible show DrawK _ _ _ _); refine DrawK.mk (by kernel_rfl) (by kernel_rfl) (by kernel_rfl) ?_)
    | ((with_reducible show NextK _ _); refine NextK.mk (i + 1) ⟨by omega, fun j x hj hx => ?_⟩ (by omega) ⟨⟨rfl, rfl⟩, ⟨⟨rfl, rfl⟩, by show ((i + 1 : Nat) : Int) = (i : Int) + 1; omega, trivial⟩, ⟨⟨rfl, rfl, trivial⟩, trivial⟩, trivial⟩)) <;> ((with_reducible conv => whnf); (with_reducible conv => congr <;> reduce); repeat ((first | (with_reducible refine HaltK.mk ?_) | (with_reducible refine StopK.mk ?_)); (with_reducible conv => whnf); (with_reducible conv => congr <;> reduce)))
    | ((with_reducible show (_ ∧ _) ∧ _ ∧ _); refine ⟨⟨rfl, rfl⟩, ?_, ?_⟩ <;> (with_reducible conv => whnf) <;> repeat' (first | (with_reducible exact trivial) | (with_reducible refine And.intro ?_ ?_ <;> with_reducible conv => whnf))))
          rcases Nat.lt_or_ge j i with h6 | h6
          · exact hends j x h6 hx
          · have : j = i := by omega
            rw [this]; exact hee
        · rw [if_neg ea] at hee
          have hth := hat.resolve_left ea
          by_cases es : s = l.length + 1
          · have e0 : endsN l (l.length + 1 - s) a = false := by rw [es, Nat.sub_self]; rfl
            rw [e0] at hee
            rw [allIx_no hx hee]
            repeat' (first
    | (first
    | ((with_reducible show IfK _ _ _ _); first | refine IfK.ff ?_ | refine IfK.tt ?_ | refine IfK.no (by first | rfl | assumption | exact nf (by assumption) | exact nt (by assumption) | ((try simp only [castN]); first | (simp [eq_false ea]; done) | (simp [eq_false ea]; omega))) ?_ | refine IfK.yes (by first | rfl | assumption | exact nf (by assumption) | exact nt (by assumption) | ((try simp only [castN]); first | (simp [eq_false ea]; done) | (simp [eq_false ea]; omega))) ?_)
    | ((with_reducible show NeedK _ _ _ _); refine NeedK.mk (by (try simp only [castN]); omega) ?_)
    | ((with_reducible show DrawK _ _ _ _); refine DrawK.mk (by kernel_rfl) (by kernel_rfl) (by kernel_rfl) ?_)) <;> ((with_reducible conv => whnf); (with_reducible conv => congr <;> reduce); repeat ((first | (with_reducible refine HaltK.mk ?_) | (with_reducible refine StopK.mk ?_)); (with_reducible conv => whnf); (with_reducible conv => congr <;> reduce)))
    | ((with_reducible show (_ ∧ _) ∧ _ ∧ _); refine ⟨⟨rfl, rfl⟩, ?_, ?_⟩ <;> (with_reducible conv => whnf) <;> repeat' (first | (with_reducible exact trivial) | (with_reducible refine And.intro ?_ ?_ <;> with_reducible conv => whnf))))
          · obtain ⟨t, ht⟩ : ∃ t, l.length + 1 - s = t + 1 := ⟨l.length - s, by omega⟩
            rw [ht] at hee
            replace hee := hee.trans (endsN_succ l t a)
            have hua := hup a hth
            obtain ⟨k', y, e, hy, hny⟩ := there_iff.1 hth
            rw [hny] at hee hua
            obtain ⟨b1, b2, b3, b4, b5, b6, b7, b8, b9, b10⟩ := y
            have hlt : ¬ (l.length : Int) < s := by omega
            by_cases ep : b6 = -1
            · have hu : upN ⟨b1, b2, b3, b4, b5, b6, b7, b8, b9, b10⟩ = b8 := by unfold upN; rw [if_pos ep]
              rw [hu] at hee hua
              repeat' (first
    | (first
    | ((with_reducible show IfK _ _ _ _); first | refine IfK.ff ?_ | refine IfK.tt ?_ | refine IfK.no (by first | rfl | assumption | exact nf (by assumption) | exact nt (by assumption) | ((try simp only [castN]); first | (simp [hlm, eq_false ea, eq_false hlt, ep]; done) | (simp [hlm, eq_false ea, eq_false hlt, ep]; omega))) ?_ | refine IfK.yes (by first | rfl | assumption | exact nf (by assumption) | exact nt (by assumption) | ((try simp only [castN]); first | (simp [hlm, eq_false ea, eq_false hlt, ep]; done) | (simp [hlm, eq_false ea, eq_false hlt, ep]; omega))) ?_)
    | ((with_reducible show NeedK _ _ _ _); refine NeedK.mk (by (try simp only [castN]); omega) ?_)
    | ((with_reducible show DrawK _ _ _ _); refine DrawK.mk (by kernel_rfl) (by kernel_rfl) (by kernel_rfl) ?_)
    | (refine IdxK.mk k' (eNode ⟨b1, b2, b3, b4, b5, b6, b7, b8, b9, b10⟩) e (node_get hy) ?_)
    | ((with_reducible show NextK _ _); refine NextK.mk (s + 1, b8) ⟨by show s + 1 ≤ _; omega, hua, by rw [show l.length + 1 - (s + 1) = t by omega]; exact hee⟩ (by show l.length + 1 - (s + 1) < l.length + 1 - s; omega) ⟨⟨rfl, rfl⟩, ⟨⟨rfl, rfl⟩, rfl, rfl, by show ((s + 1 : Nat) : Int) = (s : Int) + 1; omega, trivial⟩, ⟨⟨rfl, rfl, trivial⟩, trivial⟩, trivial⟩)) <;> ((with_reducible conv => whnf); (with_reducible conv => congr <;> reduce); repeat ((first | (with_reducible refine HaltK.mk ?_) | (with_reducible refine StopK.mk ?_)); (with_reducible conv => whnf); (with_reducible conv => congr <;> reduce)))
    | ((with_reducible show (_ ∧ _) ∧ _ ∧ _); refine ⟨⟨rfl, rfl⟩, ?_, ?_⟩ <;> (with_reducible conv => whnf) <;> repeat' (first | (with_reducible exact trivial) | (with_reducible refine And.intro ?_ ?_ <;> with_reducible conv => whnf))))
            · have hu : upN ⟨b1, b2, b3, b4, b5, b6, b7, b8, b9, b10⟩ = b6 := by unfold upN; rw [if_neg ep]
              rw [hu] at hee hua
              repeat' (first
    | (first
    | ((with_reducible show IfK _ _ _ _); first | refine IfK.ff ?_ | refine IfK.tt ?_ | refine IfK.no (by first | rfl | assumption | exact nf (by assumption) | exact nt (by assumption) | ((try simp only [castN]); first | (simp [hlm, eq_false ea, eq_false hlt, eq_false ep]; done) | (simp [hlm, eq_false ea, eq_false hlt, eq_false ep]; omega))) ?_ | refine IfK.yes (by first | rfl | assumption | exact nf (by assumption) | exact nt (by assumption) | ((try simp only [castN]); first | (simp [hlm, eq_false ea, eq_false hlt, eq_false ep]; done) | (simp [hlm, eq_false ea, eq_false hlt, eq_false ep]; omega))) ?_)
    | ((with_reducible show NeedK _ _ _ _); refine NeedK.mk (by (try simp only [castN]); omega) ?_)
    | ((with_reducible show DrawK _ _ _ _); refine DrawK.mk (by kernel_rfl) (by kernel_rfl) (by kernel_rfl) ?_)
    | (refine IdxK.mk k' (eNode ⟨b1, b2, b3, b4, b5, b6, b7, b8, b9, b10⟩) e (node_get hy) ?_)
    | ((with_reducible show NextK _ _); refine NextK.mk (s + 1, b6) ⟨by show s + 1 ≤ _; omega, hua, by rw [show l.length + 1 - (s + 1) = t by omega]; exact hee⟩ (by show l.length + 1 - (s + 1) < l.length + 1 - s; omega) ⟨⟨rfl, rfl⟩, ⟨⟨rfl, rfl⟩, rfl, rfl, by show ((s + 1 : Nat) : Int) = (s : Int) + 1; omega, trivial⟩, ⟨⟨rfl, rfl, trivial⟩, trivial⟩, trivial⟩)) <;> ((with_reducible conv => whnf); (with_reducible conv => congr <;> reduce); repeat ((first | (with_reducible refine HaltK.mk ?_) | (with_reducible refine StopK.mk ?_)); (with_reducible conv => whnf); (with_reducible conv => congr <;> reduce)))
    | ((with_reducible show (_ ∧ _) ∧ _ ∧ _); refine ⟨⟨rfl, rfl⟩, ?_, ?_⟩ <;> (with_reducible conv => whnf) <;> repeat' (first | (with_reducible exact trivial) | (with_reducible refine And.intro ?_ ?_ <;> with_reducible conv => whnf))))
      · have hil : i = l.length := by simp only [decide_eq_false_iff_not] at g2; omega
        rw [allIx_yes fun j x hx => hends j x (by have := (List.getElem?_eq_some_iff.1 hx).1; omega) hx]
        refine ⟨⟨rfl, rfl⟩, ?_, ?_⟩ <;> (with_reducible conv => whnf) <;> repeat' (first | (with_reducible exact trivial) | (with_reducible refine And.intro ?_ ?_ <;> with_reducible conv => whnf))
end Go.Proofs.Able
end
section
set_option linter.unusedSimpArgs false
set_option linter.unusedVariables false
namespace Go.Proofs.Able
open Go Go.Am Go.RowKit Go.Lib
set_option maxRecDepth 100000
end Go.Proofs.Able
end
section
set_option linter.unusedSimpArgs false
set_option linter.unusedVariables false
namespace Go.Proofs.Able
open Go Go.Am Go.RowKit Go.Lib
set_option maxRecDepth 100000
theorem any_no {α : Type} {p : α → Bool} {l : List α} (h : ∀ (k : Nat) (x : α), l[k]? = some x → p x = false) : l.any p = false := by
  rw [List.any_eq_false]
  intro x hx
  obtain ⟨k, hk⟩ := List.getElem?_of_mem hx
  rw [h k x hk]; decide
theorem any_yes {α : Type} {p : α → Bool} {l : List α} {k : Nat} {x : α} (h : l[k]? = some x) (hp : p x = true) : l.any p = true :=
  List.any_eq_true.2 ⟨x, List.mem_of_getElem? h, hp⟩
theorem range_get {n k : Nat} (h : k < n) : (List.range n)[k]? = some k := by
  rw [List.getElem?_eq_getElem (by simpa using h)]; simp
theorem range_of {n k x : Nat} (h : (List.range n)[k]? = some x) : x = k ∧ k < n := by
  obtain ⟨h1, h2⟩ := List.getElem?_eq_some_iff.1 h
  simp at h1 h2
  exact ⟨h2.symm, h1⟩
set_option maxHeartbeats 16000000 in
/-- ref.Barred -/
theorem f11_ok (f : ForM) (hs : SmallN f.nodes) (T : Tree f.nodes) (k : Nat) (x : NodeM) (hx : f.nodes[k]? = some x) : FnOK Try.prog 11 [] [eFor f, eInt k] [] (eBool (barR f.nodes k)) := by
  have h21 := f21_ok f hs
  have h12 : ∀ (k : Nat) (x : NodeM), f.nodes[k]? = some x → FnOK Try.prog 12 [] [eFor f, eInt k] [] (eInt (legR f.nodes k)) := fun k x hx => f12_ok f hs k x hx fun c hc => by
    have := T.kid k (there_get hx) c
    rw [nd_get hx] at this
    exact (this hc).1
  have hleg : ∀ (k : Nat) (x : NodeM), f.nodes[k]? = some x → legR f.nodes k = -1 ∨ ∃ (i : Nat) (y : NodeM), legR f.nodes k = (i : Int) ∧ f.nodes[i]? = some y := fun k x hx => by
    rcases kidAt_cases (isLegR f.nodes) (nd f.nodes k).kids with h | h
    · exact .inl h
    · obtain ⟨i, y, h1, h2, _⟩ := there_iff.1 (T.kid k (there_get hx) _ h).1
      exact .inr ⟨i, y, h1, h2⟩
  have h22 := f22_ok f hs T
  have hl := hs.len
  obtain ⟨l, m⟩ := f
  unfold barR
  simp only at h21 h12 h22 hx hleg hl ⊢
  rw [nd_get hx]
  have h21k := h21 k x hx
  obtain ⟨a1, a2, a3, a4, a5, a6, a7, a8, a9, a10⟩ := x
  have hlm : (l.map oNode).length = l.length := List.length_map ..
  refine FnOK.startC (rvs := [.tmp 4]) G G_good Try.func11 rfl Try.ntmps11 rfl rfl ?_; delta List.toArray; ((with_reducible conv => whnf); (with_reducible conv => congr <;> reduce); repeat ((first | (with_reducible refine HaltK.mk ?_) | (with_reducible refine StopK.mk ?_)); (with_reducible conv => whnf); (with_reducible conv => congr <;> reduce)))
  refine IdxK.mk k (eNode ⟨a1, a2, a3, a4, a5, a6, a7, a8, a9, a10⟩) rfl (node_get hx) ?_; ((with_reducible conv => whnf); (with_reducible conv => congr <;> reduce); repeat ((first | (with_reducible refine HaltK.mk ?_) | (with_reducible refine StopK.mk ?_)); (with_reducible conv => whnf); (with_reducible conv => congr <;> reduce)))
  by_cases e1 : ¬ a1 = 1
  · rw [decide_eq_false e1]
    repeat' (first
    | (first
    | ((with_reducible show IfK _ _ _ _); first | refine IfK.ff ?_ | refine IfK.tt ?_ | refine IfK.no (by first | rfl | assumption | exact nf (by assumption) | exact nt (by assumption) | ((try simp only [castN]); first | (simp [eq_false e1]; done) | (simp [eq_false e1]; omega))) ?_ | refine IfK.yes (by first | rfl | assumption | exact nf (by assumption) | exact nt (by assumption) | ((try simp only [castN]); first | (simp [eq_false e1]; done) | (simp [eq_false e1]; omega))) ?_)
    | ((with_reducible show NeedK _ _ _ _); refine NeedK.mk (by (try simp only [castN]); omega) ?_)
    | ((with_reducible show DrawK _ _ _ _); refine DrawK.mk (by kernel_rfl) (by kernel_rfl) (by kernel_rfl) ?_)) <;> ((with_reducible conv => whnf); (with_reducible conv => congr <;> reduce); repeat ((first | (with_reducible refine HaltK.mk ?_) | (with_reducible refine StopK.mk ?_)); (with_reducible conv => whnf); (with_reducible conv => congr <;> reduce)))
    | ((with_reducible show (_ ∧ _) ∧ _ ∧ _); refine ⟨⟨rfl, rfl⟩, ?_, ?_⟩ <;> (with_reducible conv => whnf) <;> repeat' (first | (with_reducible exact trivial) | (with_reducible refine And.intro ?_ ?_ <;> with_reducible conv => whnf))))
    all_goals rfl
  have e1 := Decidable.not_not.1 e1
  rw [decide_eq_true e1]
  refine IfK.no (by simp [e1]) ?_; ((with_reducible conv => whnf); (with_reducible conv => congr <;> reduce); repeat ((first | (with_reducible refine HaltK.mk ?_) | (with_reducible refine StopK.mk ?_)); (with_reducible conv => whnf); (with_reducible conv => congr <;> reduce)))
  refine CallK.lit [] h21k c21 ⟨⟨rfl, rfl, trivial⟩, rfl, trivial⟩ rfl rfl ?_; ((with_reducible conv => whnf); (with_reducible conv => congr <;> reduce); repeat ((first | (with_reducible refine HaltK.mk ?_) | (with_reducible refine StopK.mk ?_)); (with_reducible conv => whnf); (with_reducible conv => congr <;> reduce)))
  cases d0 : disR ⟨a1, a2, a3, a4, a5, a6, a7, a8, a9, a10⟩ with
  | true =>
    repeat' (first
    | (first
    | ((with_reducible show IfK _ _ _ _); first | refine IfK.ff ?_ | refine IfK.tt ?_ | refine IfK.no (by first | rfl | assumption | exact nf (by assumption) | exact nt (by assumption) | ((try simp only [castN]); first | (simp [d0]; done) | (simp [d0]; omega))) ?_ | refine IfK.yes (by first | rfl | assumption | exact nf (by assumption) | exact nt (by assumption) | ((try simp only [castN]); first | (simp [d0]; done) | (simp [d0]; omega))) ?_)
    | ((with_reducible show NeedK _ _ _ _); refine NeedK.mk (by (try simp only [castN]); omega) ?_)
    | ((with_reducible show DrawK _ _ _ _); refine DrawK.mk (by kernel_rfl) (by kernel_rfl) (by kernel_rfl) ?_)) <;> ((with_reducible conv => whnf); (with_reducible conv => congr <;> reduce); repeat ((first | (with_reducible refine HaltK.mk ?_) | (with_reducible refine StopK.mk ?_)); (with_reducible conv => whnf); (with_reducible conv => congr <;> reduce)))
    | ((with_reducible show (_ ∧ _) ∧ _ ∧ _); refine ⟨⟨rfl, rfl⟩, ?_, ?_⟩ <;> (with_reducible conv => whnf) <;> repeat' (first | (with_reducible exact trivial) | (with_reducible refine And.intro ?_ ?_ <;> with_reducible conv => whnf))))
    all_goals rfl
  | false =>
    refine IfK.ff ?_; ((with_reducible conv => whnf); (with_reducible conv => congr <;> reduce); repeat ((first | (with_reducible refine HaltK.mk ?_) | (with_reducible refine StopK.mk ?_)); (with_reducible conv => whnf); (with_reducible conv => congr <;> reduce)))
    refine LoopK.use G G_good (fun (p : Nat) => [(1, eInt k), (2, .ptr 20 0 0), (5, eInt p)]) (fun _ => [(20, .live 2 [eFor ⟨l, m⟩] false)])
      (fun p => p ≤ l.length ∧ ∀ q : Nat, q < p → barP l k (q : Int) = false) (fun p => l.length - p) 0 ⟨Nat.zero_le _, fun q h => by omega⟩
      ⟨⟨rfl, rfl⟩, ⟨rfl, ⟨rfl, rfl⟩, rfl, trivial⟩, ⟨⟨rfl, rfl, trivial⟩, trivial⟩, trivial⟩ ?_
    rintro p ⟨hp, hno⟩
    ((with_reducible conv => whnf); (with_reducible conv => congr <;> reduce); repeat ((first | (with_reducible refine HaltK.mk ?_) | (with_reducible refine StopK.mk ?_)); (with_reducible conv => whnf); (with_reducible conv => congr <;> reduce)))
    refine IfK.mk (fun g1 => ?_) (fun g1 => ?_) <;> (try simp only [castN] at g1) <;> ((with_reducible conv => whnf); (with_reducible conv => congr <;> reduce); repeat ((first | (with_reducible refine HaltK.mk ?_) | (with_reducible refine StopK.mk ?_)); (with_reducible conv => whnf); (with_reducible conv => congr <;> reduce)))
    · have hp' : p < l.length := by simp only [decide_eq_true_eq] at g1; omega
      obtain ⟨z, hz⟩ : ∃ z, l[p]? = some z := ⟨_, List.getElem?_eq_getElem hp'⟩
      have hnz := nd_get hz
      have h21p := h21 p z hz
      have h12p := h12 p z hz
      have h22p := h22 p z hz k
      have hlp := hleg p z hz
      have hbp : barP l k (p : Int) = (decide (z.name = fldW) && (disR z && (decide ((p : Int) ≠ k) && (holdsR l p k && (decide (legR l p < 0) || !holdsR l (legR l p) k))))) := by unfold barP; rw [hnz]
      have good : barP l k (p : Int) = false → ∀ q : Nat, q < p + 1 → barP l k (q : Int) = false := fun h q hq => by
        rcases Nat.lt_or_ge q p with h6 | h6
        · exact hno q h6
        · have : q = p := by omega
          subst this; exact h
      have yes : barP l k (p : Int) = true → (List.range l.length).any (fun p => barP l k (p : Int)) = true := fun h => any_yes (range_get hp') h
      rw [hbp] at good yes
      obtain ⟨z1, z2, z3, z4, z5, z6, z7, z8, z9, z10⟩ := z
      simp only at good yes
      refine IdxK.mk p (eNode ⟨z1, z2, z3, z4, z5, z6, z7, z8, z9, z10⟩) rfl (node_get hz) ?_; ((with_reducible conv => whnf); (with_reducible conv => congr <;> reduce); repeat ((first | (with_reducible refine HaltK.mk ?_) | (with_reducible refine StopK.mk ?_)); (with_reducible conv => whnf); (with_reducible conv => congr <;> reduce)))
      by_cases f1 : ¬ z2 = fldW
      · have hnx := good (by rw [decide_eq_false f1]; rfl)
        repeat' (first
    | (first
    | ((with_reducible show IfK _ _ _ _); first | refine IfK.ff ?_ | refine IfK.tt ?_ | refine IfK.no (by first | rfl | assumption | exact nf (by assumption) | exact nt (by assumption) | ((try simp only [castN]); first | (simp [eq_false f1]; done) | (simp [eq_false f1]; omega))) ?_ | refine IfK.yes (by first | rfl | assumption | exact nf (by assumption) | exact nt (by assumption) | ((try simp only [castN]); first | (simp [eq_false f1]; done) | (simp [eq_false f1]; omega))) ?_)
    | ((with_reducible show NeedK _ _ _ _); refine NeedK.mk (by (try simp only [castN]); omega) ?_)
    | ((with_reducible show DrawK _ _ _ _); refine DrawK.mk (by kernel_rfl) (by kernel_rfl) (by kernel_rfl) ?_)
    | ((with_reducible show NextK _ _); refine NextK.mk (p + 1) ⟨by omega, hnx⟩ (by omega) ⟨⟨rfl, rfl⟩, ⟨rfl, ⟨rfl, rfl⟩, by show ((p + 1 : Nat) : Int) = (p : Int) + 1; omega, trivial⟩, ⟨⟨rfl, rfl, trivial⟩, trivial⟩, trivial⟩)) <;> ((with_reducible conv => whnf); (with_reducible conv => congr <;> reduce); repeat ((first | (with_reducible refine HaltK.mk ?_) | (with_reducible refine StopK.mk ?_)); (with_reducible conv => whnf); (with_reducible conv => congr <;> reduce)))
    | ((with_reducible show (_ ∧ _) ∧ _ ∧ _); refine ⟨⟨rfl, rfl⟩, ?_, ?_⟩ <;> (with_reducible conv => whnf) <;> repeat' (first | (with_reducible exact trivial) | (with_reducible refine And.intro ?_ ?_ <;> with_reducible conv => whnf))))
      have f1 := Decidable.not_not.1 f1
      cases d1 : disR ⟨z1, z2, z3, z4, z5, z6, z7, z8, z9, z10⟩ with
      | false =>
        have hnx := good (by rw [d1, Bool.false_and, Bool.and_false])
        repeat' (first
    | (first
    | ((with_reducible show IfK _ _ _ _); first | refine IfK.ff ?_ | refine IfK.tt ?_ | refine IfK.no (by first | rfl | assumption | exact nf (by assumption) | exact nt (by assumption) | ((try simp only [castN]); first | (simp [f1, d1]; done) | (simp [f1, d1]; omega))) ?_ | refine IfK.yes (by first | rfl | assumption | exact nf (by assumption) | exact nt (by assumption) | ((try simp only [castN]); first | (simp [f1, d1]; done) | (simp [f1, d1]; omega))) ?_)
    | ((with_reducible show NeedK _ _ _ _); refine NeedK.mk (by (try simp only [castN]); omega) ?_)
    | ((with_reducible show DrawK _ _ _ _); refine DrawK.mk (by kernel_rfl) (by kernel_rfl) (by kernel_rfl) ?_)
    | ((with_reducible show CallK _ _ 21 _ _ _ _); refine CallK.lit [] h21p c21 ⟨⟨rfl, rfl, trivial⟩, rfl, trivial⟩ rfl rfl ?_)
    | ((with_reducible show NextK _ _); refine NextK.mk (p + 1) ⟨by omega, hnx⟩ (by omega) ⟨⟨rfl, rfl⟩, ⟨rfl, ⟨rfl, rfl⟩, by show ((p + 1 : Nat) : Int) = (p : Int) + 1; omega, trivial⟩, ⟨⟨rfl, rfl, trivial⟩, trivial⟩, trivial⟩)) <;> ((with_reducible conv => whnf); (with_reducible conv => congr <;> reduce); repeat ((first | (with_reducible refine HaltK.mk ?_) | (with_reducible refine StopK.mk ?_)); (with_reducible conv => whnf); (with_reducible conv => congr <;> reduce)))
    | ((with_reducible show (_ ∧ _) ∧ _ ∧ _); refine ⟨⟨rfl, rfl⟩, ?_, ?_⟩ <;> (with_reducible conv => whnf) <;> repeat' (first | (with_reducible exact trivial) | (with_reducible refine And.intro ?_ ?_ <;> with_reducible conv => whnf))))
      | true =>
        by_cases g2 : (p : Int) = k
        · have hnx := good (by rw [decide_eq_false (fun h : (p : Int) ≠ k => h g2), Bool.false_and, Bool.and_false, Bool.and_false])
          repeat' (first
    | (first
    | ((with_reducible show IfK _ _ _ _); first | refine IfK.ff ?_ | refine IfK.tt ?_ | refine IfK.no (by first | rfl | assumption | exact nf (by assumption) | exact nt (by assumption) | ((try simp only [castN]); first | (simp [f1, d1, g2]; done) | (simp [f1, d1, g2]; omega))) ?_ | refine IfK.yes (by first | rfl | assumption | exact nf (by assumption) | exact nt (by assumption) | ((try simp only [castN]); first | (simp [f1, d1, g2]; done) | (simp [f1, d1, g2]; omega))) ?_)
    | ((with_reducible show NeedK _ _ _ _); refine NeedK.mk (by (try simp only [castN]); omega) ?_)
    | ((with_reducible show DrawK _ _ _ _); refine DrawK.mk (by kernel_rfl) (by kernel_rfl) (by kernel_rfl) ?_)
    | ((with_reducible show CallK _ _ 21 _ _ _ _); refine CallK.lit [] h21p c21 ⟨⟨rfl, rfl, trivial⟩, rfl, trivial⟩ rfl rfl ?_)
    | ((with_reducible show NextK _ _); refine NextK.mk (p + 1) ⟨by omega, hnx⟩ (by omega) ⟨⟨rfl, rfl⟩, ⟨rfl, ⟨rfl, rfl⟩, by show ((p + 1 : Nat) : Int) = (p : Int) + 1; omega, trivial⟩, ⟨⟨rfl, rfl, trivial⟩, trivial⟩, trivial⟩)) <;> ((with_reducible conv => whnf); (with_reducible conv => congr <;> reduce); repeat ((first | (with_reducible refine HaltK.mk ?_) | (with_reducible refine StopK.mk ?_)); (with_reducible conv => whnf); (with_reducible conv => congr <;> reduce)))
    | ((with_reducible show (_ ∧ _) ∧ _ ∧ _); refine ⟨⟨rfl, rfl⟩, ?_, ?_⟩ <;> (with_reducible conv => whnf) <;> repeat' (first | (with_reducible exact trivial) | (with_reducible refine And.intro ?_ ?_ <;> with_reducible conv => whnf))))
        cases hh : holdsR l p k with
        | false =>
          have hnx := good (by rw [hh, Bool.false_and, Bool.and_false, Bool.and_false, Bool.and_false])
          repeat' (first
    | (first
    | ((with_reducible show IfK _ _ _ _); first | refine IfK.ff ?_ | refine IfK.tt ?_ | refine IfK.no (by first | rfl | assumption | exact nf (by assumption) | exact nt (by assumption) | ((try simp only [castN]); first | (simp [f1, d1, eq_false g2, hh]; done) | (simp [f1, d1, eq_false g2, hh]; omega))) ?_ | refine IfK.yes (by first | rfl | assumption | exact nf (by assumption) | exact nt (by assumption) | ((try simp only [castN]); first | (simp [f1, d1, eq_false g2, hh]; done) | (simp [f1, d1, eq_false g2, hh]; omega))) ?_)
    | ((with_reducible show NeedK _ _ _ _); refine NeedK.mk (by (try simp only [castN]); omega) ?_)
    | ((with_reducible show DrawK _ _ _ _); refine DrawK.mk (by kernel_rfl) (by kernel_rfl) (by kernel_rfl) ?_)
    | ((with_reducible show CallK _ _ 21 _ _ _ _); refine CallK.lit [] h21p c21 ⟨⟨rfl, rfl, trivial⟩, rfl, trivial⟩ rfl rfl ?_)
    | ((with_reducible show CallK _ _ 22 _ _ _ _); refine CallK.lit [] h22p c22 ⟨⟨rfl, rfl, trivial⟩, rfl, rfl, trivial⟩ rfl rfl ?_)
    | ((with_reducible show NextK _ _); refine NextK.mk (p + 1) ⟨by omega, hnx⟩ (by omega) ⟨⟨rfl, rfl⟩, ⟨rfl, ⟨rfl, rfl⟩, by show ((p + 1 : Nat) : Int) = (p : Int) + 1; omega, trivial⟩, ⟨⟨rfl, rfl, trivial⟩, trivial⟩, trivial⟩)) <;> ((with_reducible conv => whnf); (with_reducible conv => congr <;> reduce); repeat ((first | (with_reducible refine HaltK.mk ?_) | (with_reducible refine StopK.mk ?_)); (with_reducible conv => whnf); (with_reducible conv => congr <;> reduce)))
    | ((with_reducible show (_ ∧ _) ∧ _ ∧ _); refine ⟨⟨rfl, rfl⟩, ?_, ?_⟩ <;> (with_reducible conv => whnf) <;> repeat' (first | (with_reducible exact trivial) | (with_reducible refine And.intro ?_ ?_ <;> with_reducible conv => whnf))))
        | true =>
          have hne : decide ((p : Int) ≠ k) = true := decide_eq_true g2
          rcases hlp with hlp | ⟨i, y, hlp, hy⟩
          · have hyes := yes (by rw [decide_eq_true f1, d1, hne, hh, hlp]; rfl)
            rw [hlp] at h12p
            rw [hyes]
            repeat' (first
    | (first
    | ((with_reducible show IfK _ _ _ _); first | refine IfK.ff ?_ | refine IfK.tt ?_ | refine IfK.no (by first | rfl | assumption | exact nf (by assumption) | exact nt (by assumption) | ((try simp only [castN]); first | (simp [f1, d1, eq_false g2, hh]; done) | (simp [f1, d1, eq_false g2, hh]; omega))) ?_ | refine IfK.yes (by first | rfl | assumption | exact nf (by assumption) | exact nt (by assumption) | ((try simp only [castN]); first | (simp [f1, d1, eq_false g2, hh]; done) | (simp [f1, d1, eq_false g2, hh]; omega))) ?_)
    | ((with_reducible show NeedK _ _ _ _); refine NeedK.mk (by (try simp only [castN]); omega) ?_)
    | ((with_reducible show DrawK _ _ _ _); refine DrawK.mk (by kernel_rfl) (by kernel_rfl) (by kernel_rfl) ?_)
    | ((with_reducible show CallK _ _ 21 _ _ _ _); refine CallK.lit [] h21p c21 ⟨⟨rfl, rfl, trivial⟩, rfl, trivial⟩ rfl rfl ?_)
    | ((with_reducible show CallK _ _ 22 _ _ _ _); refine CallK.lit [] h22p c22 ⟨⟨rfl, rfl, trivial⟩, rfl, rfl, trivial⟩ rfl rfl ?_)
    | ((with_reducible show CallK _ _ 12 _ _ _ _); refine CallK.lit [] h12p c12 ⟨⟨rfl, rfl, trivial⟩, rfl, trivial⟩ rfl rfl ?_)) <;> ((with_reducible conv => whnf); (with_reducible conv => congr <;> reduce); repeat ((first | (with_reducible refine HaltK.mk ?_) | (with_reducible refine StopK.mk ?_)); (with_reducible conv => whnf); (with_reducible conv => congr <;> reduce)))
    | ((with_reducible show (_ ∧ _) ∧ _ ∧ _); refine ⟨⟨rfl, rfl⟩, ?_, ?_⟩ <;> (with_reducible conv => whnf) <;> repeat' (first | (with_reducible exact trivial) | (with_reducible refine And.intro ?_ ?_ <;> with_reducible conv => whnf))))
            all_goals rfl
          · rw [hlp] at h12p good yes
            have h22i := h22 i y hy k
            cases hi : holdsR l i k with
            | true =>
              have hnx := good (by rw [decide_eq_false (show ¬ (i : Int) < 0 by omega), hi]; simp)
              repeat' (first
    | (first
    | ((with_reducible show IfK _ _ _ _); first | refine IfK.ff ?_ | refine IfK.tt ?_ | refine IfK.no (by first | rfl | assumption | exact nf (by assumption) | exact nt (by assumption) | ((try simp only [castN]); first | (simp [f1, d1, eq_false g2, hh, hi]; done) | (simp [f1, d1, eq_false g2, hh, hi]; omega))) ?_ | refine IfK.yes (by first | rfl | assumption | exact nf (by assumption) | exact nt (by assumption) | ((try simp only [castN]); first | (simp [f1, d1, eq_false g2, hh, hi]; done) | (simp [f1, d1, eq_false g2, hh, hi]; omega))) ?_)
    | ((with_reducible show NeedK _ _ _ _); refine NeedK.mk (by (try simp only [castN]); omega) ?_)
    | ((with_reducible show DrawK _ _ _ _); refine DrawK.mk (by kernel_rfl) (by kernel_rfl) (by kernel_rfl) ?_)
    | ((with_reducible show CallK _ _ 21 _ _ _ _); refine CallK.lit [] h21p c21 ⟨⟨rfl, rfl, trivial⟩, rfl, trivial⟩ rfl rfl ?_)
    | ((with_reducible show CallK _ _ 22 _ _ _ _); (first | refine CallK.lit [] h22p c22 ⟨⟨rfl, rfl, trivial⟩, rfl, rfl, trivial⟩ rfl rfl ?_ | refine CallK.lit [] h22i c22 ⟨⟨rfl, rfl, trivial⟩, rfl, rfl, trivial⟩ rfl rfl ?_))
    | ((with_reducible show CallK _ _ 12 _ _ _ _); refine CallK.lit [] h12p c12 ⟨⟨rfl, rfl, trivial⟩, rfl, trivial⟩ rfl rfl ?_)
    | ((with_reducible show NextK _ _); refine NextK.mk (p + 1) ⟨by omega, hnx⟩ (by omega) ⟨⟨rfl, rfl⟩, ⟨rfl, ⟨rfl, rfl⟩, by show ((p + 1 : Nat) : Int) = (p : Int) + 1; omega, trivial⟩, ⟨⟨rfl, rfl, trivial⟩, trivial⟩, trivial⟩)) <;> ((with_reducible conv => whnf); (with_reducible conv => congr <;> reduce); repeat ((first | (with_reducible refine HaltK.mk ?_) | (with_reducible refine StopK.mk ?_)); (with_reducible conv => whnf); (with_reducible conv => congr <;> reduce)))
    | ((with_reducible show (_ ∧ _) ∧ _ ∧ _); refine ⟨⟨rfl, rfl⟩, ?_, ?_⟩ <;> (with_reducible conv => whnf) <;> repeat' (first | (with_reducible exact trivial) | (with_reducible refine And.intro ?_ ?_ <;> with_reducible conv => whnf))))
            | false =>
              have hyes := yes (by rw [decide_eq_true f1, d1, hne, hh, hi]; simp)
              rw [hyes]
              repeat' (first
    | (first
    | ((with_reducible show IfK _ _ _ _); first | refine IfK.ff ?_ | refine IfK.tt ?_ | refine IfK.no (by first | rfl | assumption | exact nf (by assumption) | exact nt (by assumption) | ((try simp only [castN]); first | (simp [f1, d1, eq_false g2, hh, hi]; done) | (simp [f1, d1, eq_false g2, hh, hi]; omega))) ?_ | refine IfK.yes (by first | rfl | assumption | exact nf (by assumption) | exact nt (by assumption) | ((try simp only [castN]); first | (simp [f1, d1, eq_false g2, hh, hi]; done) | (simp [f1, d1, eq_false g2, hh, hi]; omega))) ?_)
    | ((with_reducible show NeedK _ _ _ _); refine NeedK.mk (by (try simp only [castN]); omega) ?_)
    | ((with_reducible show DrawK _ _ _ _); refine DrawK.mk (by kernel_rfl) (by kernel_rfl) (by kernel_rfl) ?_)
    | ((with_reducible show CallK _ _ 21 _ _ _ _); refine CallK.lit [] h21p c21 ⟨⟨rfl, rfl, trivial⟩, rfl, trivial⟩ rfl rfl ?_)
    | ((with_reducible show CallK _ _ 22 _ _ _ _); (first | refine CallK.lit [] h22p c22 ⟨⟨rfl, rfl, trivial⟩, rfl, rfl, trivial⟩ rfl rfl ?_ | refine CallK.lit [] h22i c22 ⟨⟨rfl, rfl, trivial⟩, rfl, rfl, trivial⟩ rfl rfl ?_))
    | ((with_reducible show CallK _ _ 12 _ _ _ _); refine CallK.lit [] h12p c12 ⟨⟨rfl, rfl, trivial⟩, rfl, trivial⟩ rfl rfl ?_)) <;> ((with_reducible conv => whnf); (with_reducible conv => congr <;> reduce); repeat ((first | (with_reducible refine HaltK.mk ?_) | (with_reducible refine StopK.mk ?_)); (with_reducible conv => whnf); (with_reducible conv => congr <;> reduce)))
    | ((with_reducible show (_ ∧ _) ∧ _ ∧ _); refine ⟨⟨rfl, rfl⟩, ?_, ?_⟩ <;> (with_reducible conv => whnf) <;> repeat' (first | (with_reducible exact trivial) | (with_reducible refine And.intro ?_ ?_ <;> with_reducible conv => whnf))))
              all_goals rfl
    · have hpl : p = l.length := by simp only [decide_eq_false_iff_not] at g1; omega
      have hfin : (List.range l.length).any (fun p => barP l k (p : Int)) = false := any_no fun j q hq => by
        obtain ⟨rfl, h1⟩ := range_of hq
        exact hno q (by omega)
      rw [hfin]
      refine ⟨⟨rfl, rfl⟩, ?_, ?_⟩ <;> (with_reducible conv => whnf) <;> repeat' (first | (with_reducible exact trivial) | (with_reducible refine And.intro ?_ ?_ <;> with_reducible conv => whnf))
      all_goals rfl
end Go.Proofs.Able
end
section
set_option linter.unusedSimpArgs false
set_option linter.unusedVariables false
namespace Go.Proofs.Able
open Go Go.Am Go.RowKit Go.Lib
set_option maxRecDepth 100000
theorem i32_run (s t : TypeId) (c : Int) (h1 : Try.prog.underlying s = some (.int .i32)) (h2 : Try.prog.underlying t = some .string) : ∀ w, (convert s t (.int .i32 c)).run Try.prog w = .ok (.string (Utf8.encode c)) w :=
  fun w => run_convert_int_string w s t .i32 c (by rw [h1]; rfl) h2
theorem enc_size (c : Int) : (Utf8.encode c).size ≤ 4 := by
  unfold Utf8.encode
  simp only
  repeat' split
  all_goals exact Nat.le_of_ble_eq_true rfl
@[reducible] def aB : ByteArray := ⟨#[97]⟩
def wordB (r : Nat) : Bool := !rightS (aB ++ Utf8.encode (r : Int))
set_option maxHeartbeats 4000000 in
/-- reader.word$1 -/
theorem f89_ok (c : Int) : FnOK Try.prog 89 [] [eRune c] [] (eBool (!rightS (aB ++ Utf8.encode c))) := by
  have hsz := enc_size c
  have ha : aB.size = 1 := rfl
  refine FnOK.startC (rvs := [.tmp 2]) G G_good Try.func89 rfl Try.ntmps89 rfl rfl ?_; delta List.toArray; ((with_reducible conv => whnf); (with_reducible conv => congr <;> reduce); repeat ((first | (with_reducible refine HaltK.mk ?_) | (with_reducible refine StopK.mk ?_)); (with_reducible conv => whnf); (with_reducible conv => congr <;> reduce)))
  refine ConvK.mk _ (i32_run 21 9 c (by kernel_rfl) (by kernel_rfl)) ?_; ((with_reducible conv => whnf); (with_reducible conv => congr <;> reduce); repeat ((first | (with_reducible refine HaltK.mk ?_) | (with_reducible refine StopK.mk ?_)); (with_reducible conv => whnf); (with_reducible conv => congr <;> reduce)))
  refine NeedK.mk (by have := enc_size c; have h1 : (⟨⟨[97]⟩⟩ : ByteArray).size = 1 := rfl; omega) ?_; ((with_reducible conv => whnf); (with_reducible conv => congr <;> reduce); repeat ((first | (with_reducible refine HaltK.mk ?_) | (with_reducible refine StopK.mk ?_)); (with_reducible conv => whnf); (with_reducible conv => congr <;> reduce)))
  refine CallK.lit [] (f62_ok _) c62 ⟨rfl, trivial⟩ rfl rfl ?_; ((with_reducible conv => whnf); (with_reducible conv => congr <;> reduce); repeat ((first | (with_reducible refine HaltK.mk ?_) | (with_reducible refine StopK.mk ?_)); (with_reducible conv => whnf); (with_reducible conv => congr <;> reduce)))
  refine ⟨⟨rfl, rfl⟩, ?_, ?_⟩ <;> (with_reducible conv => whnf) <;> repeat' (first | (with_reducible exact trivial) | (with_reducible refine And.intro ?_ ?_ <;> with_reducible conv => whnf))
  all_goals first | rfl | trace_state
theorem f85_word (s : ByteArray) : FnOK Try.prog 85 [] [eStr s, .lit (.func (.func 89) #[] #[])] [] (eInt (Lib.idxFunc wordB true s)) :=
  FnOK.of_calls (vs := [.string s, .func (.func 89) #[] #[]]) fun w ht => f85_calls 89 c89 wordB s w ht fun W x ht _ => (f89_ok (x : Int)).below (vs := [.int .i32 (x : Int)]) W ht
set_option maxHeartbeats 4000000 in
/-- Builder.String, of nothing -/
theorem f83_nil : FnOK Try.prog 83 [.live 2 [.agg [.lit (.pointer none), .lit (.slice none 0 0)]] false] [.ptr 0 0 0] [.live 2 [.agg [.lit (.pointer none), .lit (.slice none 0 0)]] false] (eStr ⟨#[]⟩) := by
  refine FnOK.startC (rvs := [.tmp 2]) G G_good Try.func83 rfl Try.ntmps83 rfl rfl ?_; delta List.toArray; ((with_reducible conv => whnf); (with_reducible conv => congr <;> reduce); repeat ((first | (with_reducible refine HaltK.mk ?_) | (with_reducible refine StopK.mk ?_)); (with_reducible conv => whnf); (with_reducible conv => congr <;> reduce)))
  refine ⟨[], .lit (.pointer none), [], EffOK.lits (ρ := fun _ => .slice none 0 0) (r := .pointer none) (by simp) (fun y hy => ?_) (fun w => ?_) (dst_ok rfl), ?_⟩
  · simp [Op.operands, Call.operands] at hy
    subst hy
    rfl
  · kernel_rfl
  ((with_reducible conv => whnf); (with_reducible conv => congr <;> reduce); repeat ((first | (with_reducible refine HaltK.mk ?_) | (with_reducible refine StopK.mk ?_)); (with_reducible conv => whnf); (with_reducible conv => congr <;> reduce)))
  refine ⟨[], .lit (.string ⟨#[]⟩), [], EffOK.lits (ρ := fun y => match y with | .tmp 7 => .pointer none | _ => .int .i64 0) (r := .string ⟨#[]⟩) (by simp) (fun y hy => ?_) (fun w => ?_) (dst_ok rfl), ?_⟩
  · simp [Op.operands, Call.operands] at hy
    rcases hy with rfl | rfl <;> rfl
  · kernel_rfl
  ((with_reducible conv => whnf); (with_reducible conv => congr <;> reduce); repeat ((first | (with_reducible refine HaltK.mk ?_) | (with_reducible refine StopK.mk ?_)); (with_reducible conv => whnf); (with_reducible conv => congr <;> reduce)))
  refine DrawK.mk (by kernel_rfl) (by kernel_rfl) (by kernel_rfl) ?_; ((with_reducible conv => whnf); (with_reducible conv => congr <;> reduce); repeat ((first | (with_reducible refine HaltK.mk ?_) | (with_reducible refine StopK.mk ?_)); (with_reducible conv => whnf); (with_reducible conv => congr <;> reduce)))
  refine ⟨⟨rfl, rfl⟩, ?_, ?_⟩ <;> (with_reducible conv => whnf) <;> repeat' (first | (with_reducible exact trivial) | (with_reducible refine And.intro ?_ ?_ <;> with_reducible conv => whnf))
  all_goals first | rfl | exact .inl rfl | exact ⟨rfl, rfl⟩ | trace_state
def orcA : CallT := fun g ins args => match g with
  | 62 => match ins, args with
    | [], [.lit (.string s)] => some ([], eBool (rightS s))
    | _, _ => none
  | 45 => match ins, args with
    | [], [.lit (.string s)] => some ([], .tup [eStr (if rightS s then lowS s else ⟨#[]⟩), eInt (if rightS s then 0 else 4)])
    | _, _ => none
  | 85 => match ins, args with
    | [], [.lit (.string s), .lit (.func (.func 89) a b)] => match a.toList, b.toList with
      | [], [] => some ([], eInt (Lib.idxFunc wordB true s))
      | _, _ => none
    | _, _ => none
  | 83 => match ins, args with
    | [.live 2 [.agg [.lit (.pointer none), .lit (.slice none 0 0)]] false], [.ptr 0 0 0] => some ([.live 2 [.agg [.lit (.pointer none), .lit (.slice none 0 0)]] false], eStr ⟨#[]⟩)
    | _, _ => none
  | _ => none
theorem orcA_ok : ∀ g ins args outs res, orcA g ins args = some (outs, res) → FnOK Try.prog g ins args outs res ∧ Callable Try.prog g := by
  intro g ins args outs res h
  unfold orcA at h
  split at h
  · split at h
    · cases h; exact ⟨f62_ok _, c62⟩
    · cases h
  · split at h
    · cases h; exact ⟨f45_ok _, c45⟩
    · cases h
  · split at h
    · split at h
      · rename_i ha hb
        cases h
        rename_i a b _ _
        obtain rfl := (Array.ext' ha : _ = #[])
        obtain rfl := (Array.ext' hb : _ = #[])
        exact ⟨f85_word _, c85⟩
      · cases h
    · cases h
  · split at h
    · cases h; exact ⟨f83_nil, c83⟩
    · cases h
  · cases h
noncomputable def envA : EEnv := ⟨G, mapsT, fnsT, kindsT, orcA⟩
theorem envA_good : envA.Good Try.prog := ⟨G_good, mapsT_ok, fnsT_ok, kindsT_ok, orcA_ok, by kernel_rfl⟩
end Go.Proofs.Able
end
