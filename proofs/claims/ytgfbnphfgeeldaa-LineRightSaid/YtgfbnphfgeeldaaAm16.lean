/- Loops by an invariant, and small rules on abstract values. By an AI agent. -/
import Derived.Test.YtgfbnphfgeeldaaAm15
namespace Go.Am

/-- Whatever is as σ says is as σ' says. -/
def Sits (nL : Nat) (σ σ' : AState) : Prop :=
  ∀ (N : Nat) (w0 : World) (W0 : Nat → Prop) (L μ : Mu) (a : Act) (w : World), (∀ t, nL ≤ t → L t = none) → Sim N w0 W0 L μ σ a w → ∃ μ', Sim N w0 W0 L μ' σ' a w

theorem Sits.refl {nL : Nat} {σ : AState} : Sits nL σ σ := fun _ _ _ _ μ _ _ _ h => ⟨μ, h⟩
theorem Sits.trans {nL : Nat} {σ σ' σ'' : AState} (h : Sits nL σ σ') (k : Sits nL σ' σ'') : Sits nL σ σ'' := fun N w0 W0 L μ a w hL hs => let ⟨μ', h'⟩ := h N w0 W0 L μ a w hL hs; k N w0 W0 L μ' a w hL h'
theorem Weaker.fits {nL : Nat} {ρ : Nat → Nat} {F : Nat → Prop} {σ σ' : AState} (h : Weaker nL ρ F σ' σ) : Sits nL σ σ' := fun _ _ _ _ _ _ _ hL hs => let ⟨μ', h', _⟩ := h.sim hL hs (.inl ⟨rfl, rfl⟩); ⟨μ', h'⟩
theorem AWp.fits {P : Program} {N nL : Nat} {c : Code} {Q : Exit → AState → Prop} {σ σ' : AState} (h : Sits nL σ σ') (hc : AWp P N nL c Q σ') : AWp P N nL c Q σ := fun w0 W0 L μ a w hL hs => let ⟨μ', h'⟩ := h N w0 W0 L μ a w hL hs; hc w0 W0 L μ' a w hL h'

mutual
/-- Renamed. -/
def renA (ρ : Nat → Nat) : AV → AV
  | .own t o l => .own (ρ t) o l
  | .ptr t i k => .ptr (ρ t) i k
  | .agg cs => .agg (renL ρ cs)
  | .tup cs => .tup (renL ρ cs)
  | x => x
def renL (ρ : Nat → Nat) : List AV → List AV
  | [] => []
  | x :: xs => renA ρ x :: renL ρ xs
end
mutual
/-- It refers to these objects alone. -/
def refOK (ts : List Nat) : AV → Bool
  | .own t _ _ => ts.contains t
  | .ptr t _ _ => ts.contains t
  | .agg cs => refOKL ts cs
  | .tup cs => refOKL ts cs
  | x => noRef x
def refOKL (ts : List Nat) : List AV → Bool
  | [] => true
  | x :: xs => refOK ts x && refOKL ts xs
end
mutual
theorem refOK_of : ∀ (ts : List Nat) (x : AV), noRef x = true → refOK ts x = true
  | ts, .own _ _ _, h => by simp [noRef] at h
  | ts, .ptr _ _ _, h => by simp [noRef] at h
  | ts, .agg cs, h => by simp only [refOK]; exact refOKL_of ts cs (by simpa only [noRef] using h)
  | ts, .tup cs, h => by simp only [refOK]; exact refOKL_of ts cs (by simpa only [noRef] using h)
  | ts, .any, _ => rfl
  | ts, .emp, _ => rfl
  | ts, .guess _ _, _ => rfl
  | ts, .lit _, _ => rfl
  | ts, .sl _ _, h => by simpa only [refOK] using h
  | ts, .fptr _ _, h => by simpa only [refOK] using h
  | ts, .clo _ _ _, h => by simpa only [refOK] using h
theorem refOKL_of : ∀ (ts : List Nat) (xs : List AV), noRefL xs = true → refOKL ts xs = true
  | ts, [], _ => rfl
  | ts, x :: xs, h => by
    simp only [noRefL, Bool.and_eq_true] at h
    simp only [refOKL, Bool.and_eq_true]
    exact ⟨refOK_of ts x h.1, refOKL_of ts xs h.2⟩
end
section
variable {m : Nat → MS} {F D : Nat → Prop} {ρ : Nat → Nat} {ts : List Nat}
mutual
theorem renA_cv (hD : ∀ t, t ∈ ts → D t) : ∀ (x : AV), refOK ts x = true → Cv m ρ D F x (renA ρ x)
  | .own t o l, h => by simp only [refOK, List.contains_iff_mem] at h; simp only [renA]; exact .own (hD t h)
  | .ptr t i k, h => by simp only [refOK, List.contains_iff_mem] at h; simp only [renA]; exact .ptr (hD t h)
  | .agg cs, h => by simp only [refOK] at h; simp only [renA]; exact .mk_agg (renL_cv hD cs h)
  | .tup cs, h => by simp only [refOK] at h; simp only [renA]; exact .mk_tup (renL_cv hD cs h)
  | .any, _ => .any
  | .emp, _ => .same rfl
  | .guess _ _, _ => .same rfl
  | .lit _, _ => .same rfl
  | .sl _ _, h => by simp only [refOK] at h; simp only [renA]; exact .same h
  | .fptr _ _, h => by simp only [refOK] at h; simp only [renA]; exact .same h
  | .clo _ _ _, h => by simp only [refOK] at h; simp only [renA]; exact .same h
theorem renL_cv (hD : ∀ t, t ∈ ts → D t) : ∀ (xs : List AV), refOKL ts xs = true → CvL m ρ D F xs (renL ρ xs)
  | [], _ => .nil
  | x :: xs, h => by
    simp only [refOKL, Bool.and_eq_true] at h
    exact .cons (renA_cv hD x h.1) (renL_cv hD xs h.2)
end
end

theorem renL_noRef (ρ : Nat → Nat) : ∀ (xs : List AV), noRefL xs = true → renL ρ xs = xs := by
  have key : (∀ x : AV, noRef x = true → renA ρ x = x) := by
    intro x
    induction x using AV.rec (motive_2 := fun xs => noRefL xs = true → renL ρ xs = xs) with
    | own => intro h; simp [noRef] at h
    | ptr => intro h; simp [noRef] at h
    | agg cs ih => intro h; simp only [noRef] at h; simp only [renA, ih h]
    | tup cs ih => intro h; simp only [noRef] at h; simp only [renA, ih h]
    | nil => rfl
    | cons x xs ih1 ih2 => rename_i h; simp only [noRefL, Bool.and_eq_true] at h; simp only [renL, ih1 h.1, ih2 h.2]
    | _ => intros; rfl
  intro xs
  induction xs with
  | nil => intro _; rfl
  | cons x xs ih => intro h; simp only [noRefL, Bool.and_eq_true] at h; simp only [renL, key x h.1, ih h.2]

/-- A renamed object. -/
def renMS (ρ : Nat → Nat) : MS → MS
  | .live wd rows ro => .live wd (renL ρ rows) ro
  | s => s
def refMS (ts : List Nat) : MS → Bool
  | .live _ rows _ => refOKL ts rows
  | .dead => true
  | .free => false
def wideMS : MS → Prop
  | .live wd rows _ => Wide wd rows
  | _ => True
def allS (p : Nat → AV → Prop) : List (Nat × AV) → Prop
  | [] => True
  | (d, x) :: r => p d x ∧ allS p r
def allM (p : Nat → MS → Prop) : List (Nat × MS) → Prop
  | [] => True
  | (d, x) :: r => p d x ∧ allM p r
theorem allS_look {p : Nat → AV → Prop} : ∀ {l : List (Nat × AV)}, allS p l → ∀ i, lookS l i = .any ∨ p i (lookS l i)
  | [], _, i => .inl rfl
  | (d, x) :: r, h, i => by
    simp only [lookS]
    by_cases hi : i = d
    · subst hi; simp; exact .inr h.1
    · have h' : (i == d) = false := by simpa using hi
      rw [h']; exact allS_look h.2 i
theorem allM_look {p : Nat → MS → Prop} : ∀ {l : List (Nat × MS)}, allM p l → ∀ i, lookM l i = .free ∨ (p i (lookM l i) ∧ i ∈ l.map (·.1))
  | [], _, i => .inl rfl
  | (d, x) :: r, h, i => by
    simp only [lookM]
    by_cases hi : i = d
    · subst hi; simp; exact .inr h.1
    · have h' : (i == d) = false := by simpa using hi
      rw [h']
      exact (allM_look h.2 i).imp id fun ⟨a, b⟩ => ⟨a, by simp only [List.map_cons, List.mem_cons]; exact .inr b⟩

/-- sl' and m' say no more than sl and m, with objects renamed (ρ: new to old). -/
theorem Sits.ren {sl sl' : List (Nat × AV)} {m m' : List (Nat × MS)} (ρ : Nat → Nat) (hs : allS (fun d x => refOK (m'.map (·.1)) x = true ∧ lookS sl d = renA ρ x) sl')
    (hm : allM (fun t s => refMS (m'.map (·.1)) s = true ∧ lookM m (ρ t) = renMS ρ s ∧ wideMS s ∧ lookM m' t = s) m') (hnd : ((m'.map (·.1)).map ρ).Nodup) : Sits 0 (St sl m) (St sl' m') := by
  have hfree : ∀ t, t ∈ m'.map (·.1) → lookM m' t ≠ .free := by
    have key : ∀ (l : List (Nat × MS)), allM (fun t s => refMS (m'.map (·.1)) s = true ∧ lookM m (ρ t) = renMS ρ s ∧ wideMS s ∧ lookM m' t = s) l → ∀ t, t ∈ l.map (·.1) → lookM m' t ≠ .free := by
      intro l
      induction l with
      | nil => intro _ t h; simp at h
      | cons p r ih =>
        obtain ⟨u, s⟩ := p
        intro h t ht
        simp only [List.map_cons, List.mem_cons] at ht
        rcases ht with rfl | ht
        · rw [h.1.2.2.2]
          intro e
          have := h.1.1
          rw [e] at this; cases this
        · exact ih h.2 t ht
    exact key m' hm
  refine Weaker.fits (ρ := ρ) (F := fun _ => False) ⟨fun i => ?_, fun t => ?_, fun t t' h1 h2 h3 => ?_, fun s h => h.elim, fun t h => absurd h (Nat.not_lt_zero t)⟩
  · rcases allS_look hs i with h | ⟨h1, h2⟩
    · show Cv _ _ _ _ (lookS sl' i) _
      rw [h]; exact .any
    · show Cv _ _ _ _ (lookS sl' i) (lookS sl i)
      rw [h2]; exact renA_cv (fun t ht => hfree t ht) _ h1
  · rcases allM_look hm t with h | ⟨⟨h1, h2, h3, _⟩, _⟩
    · exact .inl h
    · show lookM m' t = .free ∨ _
      cases hs' : lookM m' t with
      | free => exact .inl rfl
      | dead => rw [hs'] at h2; exact .inr (.inl ⟨hs', by show lookM m (ρ t) ≠ .free; rw [h2]; intro h; cases h⟩)
      | live wd rows ro =>
        rw [hs'] at h1 h2 h3
        exact .inr (.inr ⟨wd, rows, renL ρ rows, ro, ro, hs', h2, id, h3, renL_cv (fun t ht => hfree t ht) rows h1⟩)
  · have a1 : t ∈ m'.map (·.1) := ((allM_look hm t).resolve_left h1).2
    have a2 : t' ∈ m'.map (·.1) := ((allM_look hm t').resolve_left h2).2
    obtain ⟨i, hi⟩ := List.getElem?_of_mem a1
    obtain ⟨j, hj⟩ := List.getElem?_of_mem a2
    have hi' : ((m'.map (·.1)).map ρ)[i]? = some (ρ t) := by rw [List.getElem?_map, hi]; rfl
    have hj' : ((m'.map (·.1)).map ρ)[j]? = some (ρ t') := by rw [List.getElem?_map, hj]; rfl
    have : i = j := (List.getElem?_inj (List.getElem?_eq_some_iff.1 hi').1 hnd).1 (by rw [hi', hj', h3])
    subst this
    rw [hi] at hj; cases hj; rfl

/-- Without new names. -/
theorem Sits.pick {sl sl' : List (Nat × AV)} {m m' : List (Nat × MS)} (hs : allS (fun d x => refOK (m'.map (·.1)) x = true ∧ lookS sl d = x) sl')
    (hm : allM (fun t s => refMS (m'.map (·.1)) s = true ∧ lookM m t = s ∧ wideMS s ∧ lookM m' t = s) m') (hnd : (m'.map (·.1)).Nodup) : Sits 0 (St sl m) (St sl' m') := by
  have e1 : (∀ x : AV, renA id x = x) := by
    intro x
    induction x using AV.rec (motive_2 := fun xs => renL id xs = xs) with
    | agg cs ih => simp only [renA, ih]
    | tup cs ih => simp only [renA, ih]
    | nil => rfl
    | cons x xs ih1 ih2 => simp only [renL, ih1, ih2]
    | _ => intros; rfl
  have e2 : ∀ xs : List AV, renL id xs = xs := by
    intro xs
    induction xs with
    | nil => rfl
    | cons x xs ih => simp only [renL, e1, ih]
  have e3 : ∀ s : MS, renMS id s = s := by intro s; cases s <;> simp [renMS, e2]
  exact Sits.ren id (by simpa only [e1] using hs) (by simpa only [e3, id_eq] using hm) (by simpa using hnd)

/-- A loop over states that are told by x. -/
theorem AWp.loopF {P : Program} {N nL : Nat} {c : Code} {Q : Exit → AState → Prop} {σ : AState} {ι : Type} (C : ι → AState) (I : ι → Prop) (μ : ι → Nat) (x0 : ι) (hI : I x0) (h0 : Sits nL σ (C x0))
    (round : ∀ x, I x → AWp P N nL c (thenA (fun σ' => ∃ y, I y ∧ μ y < μ x ∧ Sits nL σ' (C y)) Q) (C x)) : AWp P N nL (.loop c) Q σ := by
  refine AWp.loop (fun n σ => ∃ x, I x ∧ μ x = n ∧ Sits nL σ (C x)) ⟨μ x0, x0, hI, rfl, h0⟩ ?_
  rintro n σ ⟨x, hx, rfl, hf⟩
  refine AWp.fits hf ((round x hx).mono ?_)
  intro e σ' h
  cases e with
  | normal =>
    obtain ⟨y, h1, h2, h3⟩ := h
    exact ⟨μ y, h2, y, h1, rfl, h3⟩
  | _ => exact h
end Go.Am
namespace Go.Am
theorem cl_any  : cells .any = [.any] := rfl
theorem so_any  : AV.solid .any = false := rfl
theorem ag_any  : isAggV .any = false := rfl
theorem on_any  : AV.one .any = false := rfl
theorem cl_emp  : cells .emp = [.emp] := rfl
theorem so_emp  : AV.solid .emp = true := rfl
theorem ag_emp  : isAggV .emp = false := rfl
theorem on_emp  : AV.one .emp = true := rfl
theorem cl_guess (p q : Prop) : cells (.guess p q) = [.guess p q] := rfl
theorem so_guess (p q : Prop) : AV.solid (.guess p q) = true := rfl
theorem ag_guess (p q : Prop) : isAggV (.guess p q) = false := rfl
theorem on_guess (p q : Prop) : AV.one (.guess p q) = true := rfl
theorem cl_sl (w : Nat) (r : List AV) : cells (.sl w r) = [.sl w r] := rfl
theorem so_sl (w : Nat) (r : List AV) : AV.solid (.sl w r) = true := rfl
theorem ag_sl (w : Nat) (r : List AV) : isAggV (.sl w r) = false := rfl
theorem on_sl (w : Nat) (r : List AV) : AV.one (.sl w r) = true := rfl
theorem cl_own (t o l : Nat) : cells (.own t o l) = [.own t o l] := rfl
theorem so_own (t o l : Nat) : AV.solid (.own t o l) = true := rfl
theorem ag_own (t o l : Nat) : isAggV (.own t o l) = false := rfl
theorem on_own (t o l : Nat) : AV.one (.own t o l) = true := rfl
theorem cl_ptr (t i k : Nat) : cells (.ptr t i k) = [.ptr t i k] := rfl
theorem so_ptr (t i k : Nat) : AV.solid (.ptr t i k) = true := rfl
theorem ag_ptr (t i k : Nat) : isAggV (.ptr t i k) = false := rfl
theorem on_ptr (t i k : Nat) : AV.one (.ptr t i k) = true := rfl
theorem cl_fptr (e : AV) (k : Nat) : cells (.fptr e k) = [.fptr e k] := rfl
theorem so_fptr (e : AV) (k : Nat) : AV.solid (.fptr e k) = true := rfl
theorem ag_fptr (e : AV) (k : Nat) : isAggV (.fptr e k) = false := rfl
theorem on_fptr (e : AV) (k : Nat) : AV.one (.fptr e k) = true := rfl
theorem cl_tup (v : List AV) : cells (.tup v) = [.tup v] := rfl
theorem so_tup (v : List AV) : AV.solid (.tup v) = true := rfl
theorem ag_tup (v : List AV) : isAggV (.tup v) = false := rfl
theorem on_tup (v : List AV) : AV.one (.tup v) = false := rfl
theorem cl_clo (f : Fn) (a b : List AV) : cells (.clo f a b) = [.clo f a b] := rfl
theorem so_clo (f : Fn) (a b : List AV) : AV.solid (.clo f a b) = true := rfl
theorem ag_clo (f : Fn) (a b : List AV) : isAggV (.clo f a b) = false := rfl
theorem on_clo (f : Fn) (a b : List AV) : AV.one (.clo f a b) = true := rfl
theorem cl_int (k : IntKind) (n : Int) : cells (.lit (.int k n)) = [.lit (.int k n)] := rfl
theorem so_int (k : IntKind) (n : Int) : AV.solid (.lit (.int k n)) = true := rfl
theorem ag_int (k : IntKind) (n : Int) : isAggV (.lit (.int k n)) = false := rfl
theorem on_int (k : IntKind) (n : Int) : AV.one (.lit (.int k n)) = true := rfl
theorem cl_bool (b : Bool) : cells (.lit (.bool b)) = [.lit (.bool b)] := rfl
theorem so_bool (b : Bool) : AV.solid (.lit (.bool b)) = true := rfl
theorem ag_bool (b : Bool) : isAggV (.lit (.bool b)) = false := rfl
theorem on_bool (b : Bool) : AV.one (.lit (.bool b)) = true := rfl
theorem cl_str (s : ByteArray) : cells (.lit (.string s)) = [.lit (.string s)] := rfl
theorem so_str (s : ByteArray) : AV.solid (.lit (.string s)) = true := rfl
theorem ag_str (s : ByteArray) : isAggV (.lit (.string s)) = false := rfl
theorem on_str (s : ByteArray) : AV.one (.lit (.string s)) = true := rfl
theorem cl_nsl (a : Option Addr) (n c : Nat) : cells (.lit (.slice a n c)) = [.lit (.slice a n c)] := rfl
theorem so_nsl (a : Option Addr) (n c : Nat) : AV.solid (.lit (.slice a n c)) = true := rfl
theorem ag_nsl (a : Option Addr) (n c : Nat) : isAggV (.lit (.slice a n c)) = false := rfl
theorem on_nsl (a : Option Addr) (n c : Nat) : AV.one (.lit (.slice a n c)) = true := rfl
theorem cl_vptr (a : Option Addr) : cells (.lit (.pointer a)) = [.lit (.pointer a)] := rfl
theorem so_vptr (a : Option Addr) : AV.solid (.lit (.pointer a)) = true := rfl
theorem ag_vptr (a : Option Addr) : isAggV (.lit (.pointer a)) = false := rfl
theorem on_vptr (a : Option Addr) : AV.one (.lit (.pointer a)) = true := rfl
theorem cl_map (r : Option Nat) : cells (.lit (.map r)) = [.lit (.map r)] := rfl
theorem so_map (r : Option Nat) : AV.solid (.lit (.map r)) = true := rfl
theorem ag_map (r : Option Nat) : isAggV (.lit (.map r)) = false := rfl
theorem on_map (r : Option Nat) : AV.one (.lit (.map r)) = true := rfl
theorem cl_fun (f : Fn) (a b : Array Value) : cells (.lit (.func f a b)) = [.lit (.func f a b)] := rfl
theorem so_fun (f : Fn) (a b : Array Value) : AV.solid (.lit (.func f a b)) = true := rfl
theorem ag_fun (f : Fn) (a b : Array Value) : isAggV (.lit (.func f a b)) = false := rfl
theorem on_fun (f : Fn) (a b : Array Value) : AV.one (.lit (.func f a b)) = true := rfl
theorem cl_nfun  : cells (.lit .nilFunc) = [.lit .nilFunc] := rfl
theorem so_nfun  : AV.solid (.lit .nilFunc) = true := rfl
theorem ag_nfun  : isAggV (.lit .nilFunc) = false := rfl
theorem on_nfun  : AV.one (.lit .nilFunc) = true := rfl
theorem cl_nif  : cells (.lit .nilIface) = [.lit .nilIface] := rfl
theorem so_nif  : AV.solid (.lit .nilIface) = true := rfl
theorem ag_nif  : isAggV (.lit .nilIface) = false := rfl
theorem on_nif  : AV.one (.lit .nilIface) = true := rfl
theorem cl_agg (cs : List AV) : cells (.agg cs) = cs := rfl
theorem so_agg (cs : List AV) : AV.solid (.agg cs) = true := rfl
theorem ag_agg (cs : List AV) : isAggV (.agg cs) = true := rfl
theorem on_agg (cs : List AV) : AV.one (.agg cs) = false := rfl
end Go.Am
namespace Go.Am
theorem Wide.cons_iff {wd : Nat} {r : AV} {rows : List AV} : Wide wd (r :: rows) ↔ (cells r).length = wd ∧ Wide wd rows := ⟨fun h => h.tail, fun h => .cons h.1 h.2⟩
theorem Wide.nil_iff {wd : Nat} : Wide wd [] ↔ True := ⟨fun _ => trivial, fun _ => .nil wd⟩
end Go.Am
