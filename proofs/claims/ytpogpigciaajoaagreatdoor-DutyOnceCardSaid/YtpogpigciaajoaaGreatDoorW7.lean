/- Walks of functions by unfolding over abstract states; runs of functions by an evaluator that is proved. By an AI agent. -/
import Derived.Test.YtpogpigciaajoaaGreatDoorW2
set_option linter.unusedSimpArgs false
set_option linter.unusedVariables false
namespace Go.Am
open Go
theorem RowsM.of {R : AV → AV → Prop} : ∀ {a b : List AV}, MFL R a b → RowsM R a b
 | [], [], _ => ⟨rfl, fun i x y h => by simp at h⟩
 | x :: xs, y :: ys, h => by
  obtain ⟨h1, h2⟩ := RowsM.of h.2
  refine ⟨by simp [h1], fun i u v hu hv => ?_⟩
  cases i with
  | zero => cases hu; cases hv; exact h.1
  | succ i => exact h2 i u v hu hv
 | [], _ :: _, h => h.elim
 | _ :: _, [], h => h.elim
def wideB (wd : Nat) (rows : List AV) : Bool := rows.all fun r => (cells r).length == wd
def wideM (m : ML) : Bool := m.all fun p => match p.2 with
 | .live wd rows _ => wideB wd rows
 | _ => true
theorem wideM_ok {m : ML} (h : wideM m = true) : ∀ t wd rows ro, lkM m t = .live wd rows ro → Wide wd rows := by
 induction m with
 | nil => intro t wd rows ro h; cases h
 | cons p r ih =>
  intro t wd rows ro hl
  obtain ⟨a, b⟩ := p
  unfold wideM at h
  rw [List.all_cons, Bool.and_eq_true] at h
  rw [lkM_eq] at hl
  simp only [lookM] at hl
  cases hta : t == a with
  | true =>
   rw [hta] at hl
   change b = _ at hl
   subst hl
   exact Wide.of_mem fun x hx => by simpa using (List.all_eq_true.1 h.1) x hx
  | false =>
   rw [hta] at hl
   exact ih h.2 t wd rows ro (by rw [lkM_eq]; exact hl)
theorem FnOK.frozen {P : Program} {f : FuncId} {args : List AV} {outs : List MS} {res res' : AV} (m : ML) (hm : lookM m = objsOf outs) (hw : wideM m = true) (h : FnOK P f [] args outs res) (hcv : MF [] (fun _ => true) m 12 res' res) : FnOK P f [] args [] res' := by
 intro w W0 L vs hL hs hargs
 refine (h w W0 L vs hL hs hargs).mono ?_
 rintro e w' ⟨v, μ', rfl, hs', hv⟩
 have hLn : ∀ t, L t = none := fun t => hL t (Nat.zero_le _)
 have hW : ∀ b, Wr W0 (fun _ => none) (objsOf []) b → W0 b := by
  rintro b (h | ⟨t, B, wd, rows, _, h, _⟩)
  ·exact h
  ·cases h
 refine ⟨v, fun _ => none, rfl, ?_, ?_⟩
 ·refine ⟨hs'.tsize, hs'.defers, hs'.os, hs'.tape, hs'.output, hs'.hsize, hs'.shp, hs'.keep, hs'.w0lt, fun t B _ h => (by rw [hLn] at h; cases h), fun t => by simp [bare, objsOf], fun _ => .any, fun t wd rows ro h => ?_, fun t t' wd rows wd' rows' ro' B B' _ h => ?_, fun t wd rows ro B h => ?_, hs'.tabs⟩ <;> simp [bare, objsOf] at h
 ·have hc : Cv (lookM m) (renT []) (fun _ => False) (fun t => ∃ wd rows ro, lookM m t = .live wd rows ro) res' res :=
   MF_cv (fun t wd rows ro h _ => wideM_ok hw t wd rows ro h) (fun t u h => by cases h) (fun t wd rows ro h _ => ⟨wd, rows, ro, by rw [← lkM_eq]; exact h⟩) 12 res' res hcv
  rw [hm] at hc
  refine Cv.rep (W := Wr W0 μ' (objsOf outs)) (μ := μ') (fun t wd rows ro h => hs'.objs t wd rows ro h) (fun b _ hb => .inl (hW b hb)) (fun t h => h.elim) ?_ hc hv
  rintro s B ⟨wd, rows, ro, hl⟩ hB hv hb
  exact (hs'.out s wd rows ro B hl hB hv).1 (hW _ hb)
end Go.Am
