/- Contracts of functions of the given program (what each computes), conditions as stated in each theorem. By an AI agent. -/
import Derived.Test.YtgfbnphfgeeldaaL9
import Derived.Tactics
namespace Go.Proofs.Line
open Go.Am
set_option linter.unusedSimpArgs false
set_option maxRecDepth 100000
theorem Sm.mono {B C : Nat} {l : LineM} (h : Sm B l) (hB : B ≤ C) : Sm C l := ⟨by have := h.todos; omega, by have := h.stack; omega, by have := h.back; omega, fun x hx => by have := h.todo x hx; omega, fun x hx => by have := h.st x hx; omega⟩
theorem shortL.sm60 {l : LineM} (h : shortL l) : Sm 60 l := ⟨h.1, by have := h.2.1; omega, h.2.2.1, h.2.2.2.1, h.2.2.2.2⟩
theorem mem_set_or {α : Type} {l : List α} {n : Nat} {a x : α} (h : x ∈ l.set n a) : x ∈ l ∨ x = a := List.mem_or_eq_of_mem_set h
theorem getD_mem_or {α : Type} {l : List (List α)} {n : Nat} : l.getD n [] ∈ l ∨ l.getD n [] = [] := by
  rw [List.getD_eq_getElem?_getD]
  cases h : l[n]? with
  | none => right; rfl
  | some x => left; exact List.mem_of_getElem? h
theorem add_sm {B : Nat} {l : LineM} (h : Sm B l) (n : Int) (t : TodoM) : Sm (B + 1) (addL l n t).1 := by
  have ht : ∀ x ∈ l.todos.set n.toNat (l.todos.getD n.toNat [] ++ [t]), x.length ≤ B + 1 := fun x hx => by
    rcases mem_set_or hx with hx | rfl
    · have := h.todo x hx; omega
    · rw [List.length_append]
      rcases getD_mem_or (l := l.todos) (n := n.toNat) with h2 | h2
      · have := h.todo _ h2; simp only [List.length_cons, List.length_nil]; omega
      · rw [h2]; simp
  have hs : ∀ x ∈ l.stack.set (l.stack.length - 1) (l.stack.getD (l.stack.length - 1) [] ++ [n]), x.length ≤ B + 1 := fun x hx => by
    rcases mem_set_or hx with hx | rfl
    · have := h.st x hx; omega
    · rw [List.length_append]
      rcases getD_mem_or (l := l.stack) (n := l.stack.length - 1) with h2 | h2
      · have := h.st _ h2; simp only [List.length_cons, List.length_nil]; omega
      · rw [h2]; simp
  have h1 := h.todos
  have h2 := h.stack
  have h3 := h.back
  unfold addL
  split
  · split
    · exact ⟨by simp; omega, by show l.stack.length ≤ B + 1; omega, by simp; omega, ht, fun x hx => by have := h.st x hx; omega⟩
    · exact ⟨by simp; omega, by simp; omega, by show l.back.length ≤ B + 1; omega, ht, hs⟩
  · exact h.mono (by omega)
theorem open_sm {B : Nat} {l : LineM} (h : Sm B l) : Sm (B + 1) (openL l) := ⟨by have := h.todos; simp only [openL]; omega, by have := h.stack; simp only [openL, List.length_append, List.length_cons, List.length_nil]; omega, by have := h.back; simp only [openL]; omega,
  fun x hx => by have := h.todo x hx; omega, fun x hx => by
    simp only [openL, List.mem_append, List.mem_cons, List.not_mem_nil, or_false] at hx
    rcases hx with hx | rfl
    · have := h.st x hx; omega
    · simp⟩
theorem right_iff {l : LineM} : rightL l = true ↔ (∀ x ∈ l.stack, ∀ n ∈ x, inL l n = true) ∧ ∀ n ∈ l.back, inL l n = true := by
  simp only [rightL, List.all_eq_true, List.mem_append, List.mem_cons, List.not_mem_nil, or_false]
  constructor
  · intro h; exact ⟨fun x hx n hn => h x (.inl hx) n hn, fun n hn => h _ (.inr rfl) n hn⟩
  · rintro ⟨h1, h2⟩ x (hx | rfl) n hn
    · exact h1 x hx n hn
    · exact h2 n hn
theorem right_open {l : LineM} (h : rightL l = true) : rightL (openL l) = true := by
  rw [right_iff] at h ⊢
  refine ⟨fun x hx n hn => ?_, fun n hn => h.2 n hn⟩
  simp only [openL, List.mem_append, List.mem_cons, List.not_mem_nil, or_false] at hx
  rcases hx with hx | rfl
  · exact h.1 x hx n hn
  · simp at hn
theorem add_todos {l : LineM} {k : Nat} (h : rightL l = true) (hk : k < l.todos.length) (t : TodoM) : (addL l k t).1.todos = l.todos.set k (l.todos.getD k [] ++ [t]) ∧ (addL l k t).2.2 = 0 := by
  have hi := inL_of hk
  unfold addL
  rw [if_pos (by simp [h, hi])]
  split <;> simp
theorem add_rest {l : LineM} {k : Nat} (h : rightL l = true) (hk : k < l.todos.length) (t : TodoM) : (addL l k t).1.busy = (if l.stack.length = 0 then true else l.busy) ∧ (addL l k t).1.back.length = (if l.stack.length = 0 then l.back.length + 1 else l.back.length) ∧ (addL l k t).1.stack.length = l.stack.length := by
  have hi := inL_of hk
  unfold addL
  rw [if_pos (by simp [h, hi])]
  split <;> rename_i h0
  · simp [h0]
  · simp [h0]
theorem right_add {l : LineM} {k : Nat} (h : rightL l = true) (hk : k < l.todos.length) (t : TodoM) : rightL (addL l k t).1 = true := by
  have hi := inL_of hk
  have hlen : (addL l k t).1.todos.length = l.todos.length := by rw [(add_todos h hk t).1]; simp
  have h0 := right_iff.1 h
  rw [right_iff]
  have hin : ∀ n, inL (addL l k t).1 n = inL l n := fun n => inL_congr hlen n
  simp only [hin]
  unfold addL
  rw [if_pos (by simp [h, hi])]
  split
  · refine ⟨h0.1, fun n hn => ?_⟩
    simp only [List.mem_append, List.mem_cons, List.not_mem_nil, or_false] at hn
    rcases hn with hn | rfl
    · exact h0.2 n hn
    · exact hi
  · refine ⟨fun x hx n hn => ?_, h0.2⟩
    rcases mem_set_or hx with hx | rfl
    · exact h0.1 x hx n hn
    · simp only [List.mem_append, List.mem_cons, List.not_mem_nil, or_false] at hn
      rcases hn with hn | rfl
      · rcases getD_mem_or (l := l.stack) (n := l.stack.length - 1) with h2 | h2
        · exact h0.1 _ h2 n hn
        · rw [h2] at hn; simp at hn
      · exact hi
theorem set_same {α : Type} {l : List α} {k : Nat} {x : α} (h : l[k]? = some x) : l.set k x = l := by
  apply List.ext_getElem?
  intro j
  rw [List.getElem?_set]
  split
  · rename_i hj; subst hj
    rw [if_pos (List.getElem?_eq_some_iff.1 h).1, h]
  · rfl
theorem back_shape {l : LineM} {k : Nat} {t : TodoM} (hl : shortL l) (h : rightL l = true) (hk : k < l.todos.length) :
    ∃ A B C : LineM, openL l = A ∧ Sm 90000 A ∧ shutL A = (l, [], 0) ∧ addL A k t = (B, false, 0) ∧ Sm 90000 B ∧ shutL B = (C, [(k : Int)], 0) ∧ Sm 90000 C ∧ (l.todos[k]? = some [] → takeL C k = (l, t, true)) := by
  have hi := inL_of hk
  have hA := right_open h
  have hiA : inL (openL l) k = true := hi
  have e2 : addL (openL l) k t = ({ l with todos := l.todos.set k (l.todos.getD k [] ++ [t]), stack := l.stack ++ [[(k : Int)]] }, false, 0) := by
    unfold addL
    rw [if_pos (by simp [hA, hiA])]
    simp [openL]
  have sA := open_sm hl.sm60
  have sB := add_sm sA k t
  have rB := right_add (l := openL l) hA (k := k) hk t
  rw [e2] at sB rB
  have rC : rightL { l with todos := l.todos.set k (l.todos.getD k [] ++ [t]) } = true := by rw [← h]; exact rightL_congr (by simp) rfl rfl
  refine ⟨_, _, { l with todos := l.todos.set k (l.todos.getD k [] ++ [t]) }, rfl, sA.mono (by omega), ?_, e2, sB.mono (by omega), ?_, ?_, fun h0 => ?_⟩
  · simp [shutL, hA]
    simp [openL]
  · unfold shutL
    rw [if_pos rB, if_neg (by simp)]
    simp
  · exact ⟨by have := sB.todos; simp at this ⊢; omega, by have := hl.2.1; show l.stack.length ≤ 90000; omega, by have := hl.2.2.1; show l.back.length ≤ 90000; omega, fun x hx => by have := sB.todo x hx; omega, fun x hx => by have := hl.2.2.2.2 x hx; omega⟩
  · have e3 : l.todos.getD k [] = [] := by rw [List.getD_eq_getElem?_getD, h0]; rfl
    have hiC : inL { l with todos := l.todos.set k (l.todos.getD k [] ++ [t]) } k = true := inL_of (by simpa using hk)
    unfold takeL
    rw [if_pos (by rw [rC, hiC]; rfl)]
    simp only [e3]
    simp [hk, set_same h0]
theorem swap_shape {l : LineM} {k j : Nat} {t u : TodoM} (hl : shortL l) (h : rightL l = true) (hk : k < l.todos.length) (hj : j < l.todos.length) (hkj : k ≠ j) :
    ∃ (A B C D : LineM) (a b c d : Bool), addL l k t = (A, a, 0) ∧ Sm 90000 A ∧ addL A j u = (B, b, 0) ∧ addL l j u = (C, c, 0) ∧ Sm 90000 C ∧ addL C k t = (D, d, 0) ∧
      B.todos = D.todos ∧ B.todos.length = l.todos.length ∧ Sm 90000 B ∧ B.busy = D.busy ∧ B.back.length = D.back.length := by
  have s := hl.sm60
  have hk2 : k < (addL l j u).1.todos.length := by rw [(add_todos h hj u).1]; simpa using hk
  have hj2 : j < (addL l k t).1.todos.length := by rw [(add_todos h hk t).1]; simpa using hj
  have r1 := right_add h hk t
  have r2 := right_add h hj u
  refine ⟨(addL l k t).1, (addL (addL l k t).1 j u).1, (addL l j u).1, (addL (addL l j u).1 k t).1, (addL l k t).2.1, (addL (addL l k t).1 j u).2.1, (addL l j u).2.1, (addL (addL l j u).1 k t).2.1, ?_, (add_sm s _ _).mono (by omega), ?_, ?_, (add_sm s _ _).mono (by omega), ?_, ?_, ?_, (add_sm (add_sm s _ _) _ _).mono (by omega), ?_, ?_⟩
  · exact Prod.ext rfl (Prod.ext rfl (add_todos h hk t).2)
  · exact Prod.ext rfl (Prod.ext rfl (add_todos r1 hj2 u).2)
  · exact Prod.ext rfl (Prod.ext rfl (add_todos h hj u).2)
  · exact Prod.ext rfl (Prod.ext rfl (add_todos r2 hk2 t).2)
  · rw [(add_todos r1 hj2 u).1, (add_todos r2 hk2 t).1, (add_todos h hk t).1, (add_todos h hj u).1]
    simp only [List.getD_eq_getElem?_getD]
    rw [List.getElem?_set_ne hkj, List.getElem?_set_ne (Ne.symm hkj), List.set_comm _ _ hkj]
  · rw [(add_todos r1 hj2 u).1, (add_todos h hk t).1]; simp
  · rw [(add_rest r1 hj2 u).1, (add_rest r2 hk2 t).1, (add_rest h hk t).1, (add_rest h hj u).1, (add_rest h hk t).2.2, (add_rest h hj u).2.2]
  · rw [(add_rest r1 hj2 u).2.1, (add_rest r2 hk2 t).2.1, (add_rest h hk t).2.1, (add_rest h hj u).2.1, (add_rest h hk t).2.2, (add_rest h hj u).2.2]
end Go.Proofs.Line
