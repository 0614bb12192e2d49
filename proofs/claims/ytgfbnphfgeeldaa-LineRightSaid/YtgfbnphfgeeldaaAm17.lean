/- Frozen results. By an AI agent. -/
import Derived.Test.YtgfbnphfgeeldaaAm16
/-! Own text: lemmas for frozen results. -/
namespace Go.Am
open Go
variable {m : Nat → MS} {ρ : Nat → Nat} {D F : Nat → Prop}
theorem CvL.set {a b : List AV} {x y : AV} (h : CvL m ρ D F a b) (hx : Cv m ρ D F x y) (n : Nat) : CvL m ρ D F (a.set n x) (b.set n y) := by
  refine ⟨by simp [h.1], fun q c d h1 h2 => ?_⟩
  rw [List.getElem?_set] at h1 h2
  by_cases hq : n = q
  · subst hq
    simp only [if_true] at h1 h2
    split at h1
    · split at h2
      · cases h1; cases h2; exact hx
      · cases h2
    · cases h1
  · rw [if_neg hq] at h1 h2; exact h.2 q c d h1 h2
/-- A whole object, row by row. -/
theorem Cv.fzL {s wd n : Nat} {rows rows' : List AV} {ro : Bool} (hF : F s) (hm : m s = .live wd rows ro) (hw' : Wide wd rows') (hw : Wide wd rows) (hn : rows'.length = n) (h : CvL m ρ D F rows' rows) : Cv m ρ D F (.sl wd rows') (.own s 0 n) := by
  refine .mk_frz (off := 0) hF hm hw' hw (by have := h.1; omega) ?_
  rw [List.drop_zero, List.take_of_length_le (by have := h.1; omega)]
  exact h
/-- A whole object without references. -/
theorem Cv.fz {s wd n : Nat} {rows : List AV} {ro : Bool} (hF : F s) (hm : m s = .live wd rows ro) (hw : Wide wd rows) (hn : rows.length = n) (h : noRefL rows = true) : Cv m ρ D F (.sl wd rows) (.own s 0 n) :=
  .fzL hF hm hw hw hn (.same h)
/-- A part of an object without references. -/
theorem Cv.fzCut {s wd off n : Nat} {rows rows' : List AV} {ro : Bool} (hF : F s) (hm : m s = .live wd rows ro) (hw : Wide wd rows) (hn : off + n ≤ rows.length) (h : noRefL rows = true) (he : rows' = (rows.drop off).take n) : Cv m ρ D F (.sl wd rows') (.own s off n) := by
  subst he
  have hw' : Wide wd ((rows.drop off).take n) := .of_mem fun r hr => hw.mem (List.mem_of_mem_drop (List.mem_of_mem_take hr))
  have hr : noRefL ((rows.drop off).take n) = true := noRefL_iff.2 fun r hr => noRefL_iff.1 h r (List.mem_of_mem_drop (List.mem_of_mem_take hr))
  exact .mk_frz hF hm hw' hw hn (.same hr)
/-- All are objects in use. -/
def liveAll (m : List (Nat × MS)) : List Nat → Bool
  | [] => true
  | t :: r => (match lookM m t with | .live .. => true | _ => false) && liveAll m r
theorem liveAll_spec {m : List (Nat × MS)} : ∀ {T : List Nat}, liveAll m T = true → ∀ s ∈ T, ∃ wd rows ro, lookM m s = .live wd rows ro
  | [], _, s, h => by simp at h
  | t :: r, h, s, hs => by
    simp only [liveAll, Bool.and_eq_true] at h
    rcases List.mem_cons.1 hs with rfl | hs
    · have := h.1
      split at this
      · rename_i a b c he; exact ⟨a, b, c, he⟩
      · cases this
    · exact liveAll_spec h.2 s hs
theorem RetTo.frozenS {P : Program} {sl : List (Nat × AV)} {m : List (Nat × MS)} {rvs : List ResultVar} (xs : List AV) (T : List Nat) {res : AV} (h : ResL P (St sl m) rvs xs) (hT : liveAll m T = true) (hr : Cv (lookM m) id (fun _ => False) (· ∈ T) res (ret1 xs)) : RetTo P 0 rvs (St sl m) [] res :=
  .frozen xs T h (liveAll_spec hT) hr
theorem refOKL_app {ts : List Nat} {a b : List AV} : refOKL ts (a ++ b) = (refOKL ts a && refOKL ts b) := by
  induction a with
  | nil => simp [refOKL]
  | cons x a ih => simp [refOKL, ih, Bool.and_assoc]
end Go.Am
