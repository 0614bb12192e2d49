/- Calls by contract, and the shapes of results. By an AI agent. -/
import Derived.Test.YtgfbnphfgeeldaaAm14
namespace Go.Am

mutual
/-- Objects named anew. -/
def shiftA (b : Nat) : AV → AV
  | .own t o l => .own (b + t) o l
  | .ptr t i k => .ptr (b + t) i k
  | .agg cs => .agg (shiftL b cs)
  | .tup cs => .tup (shiftL b cs)
  | x => x
def shiftL (b : Nat) : List AV → List AV
  | [] => []
  | x :: xs => shiftA b x :: shiftL b xs
end
mutual
def okTok (n : Nat) : AV → Bool
  | .own t _ _ => decide (t < n)
  | .ptr t _ _ => decide (t < n)
  | .agg cs => okTokL n cs
  | .tup cs => okTokL n cs
  | x => noRef x
def okTokL (n : Nat) : List AV → Bool
  | [] => true
  | x :: xs => okTok n x && okTokL n xs
end

section
variable {m : Nat → MS} {F : Nat → Prop} {b n : Nat}
mutual
theorem shiftA_cv : ∀ (x : AV), okTok n x = true → Cv m (· - b) (fun t => b ≤ t ∧ t - b < n) F (shiftA b x) x
  | .own t o l, h => by
    simp only [okTok, decide_eq_true_eq] at h
    have := Cv.own (m := m) (ρ := (· - b)) (D := fun t => b ≤ t ∧ t - b < n) (F := F) (t := b + t) (o := o) (l := l) ⟨by omega, by omega⟩
    simpa [shiftA] using this
  | .ptr t i k, h => by
    simp only [okTok, decide_eq_true_eq] at h
    have := Cv.ptr (m := m) (ρ := (· - b)) (D := fun t => b ≤ t ∧ t - b < n) (F := F) (t := b + t) (i := i) (k := k) ⟨by omega, by omega⟩
    simpa [shiftA] using this
  | .agg cs, h => by simp only [okTok] at h; simp only [shiftA]; exact .mk_agg (shiftL_cv cs h)
  | .tup cs, h => by simp only [okTok] at h; simp only [shiftA]; exact .mk_tup (shiftL_cv cs h)
  | .any, h => .any
  | .emp, h => .same rfl
  | .guess p q, h => .same rfl
  | .lit x, h => .same rfl
  | .sl wd rows, h => by simp only [okTok] at h; simp only [shiftA]; exact .same h
  | .fptr e k, h => by simp only [okTok] at h; simp only [shiftA]; exact .same h
  | .clo f a c, h => by simp only [okTok] at h; simp only [shiftA]; exact .same h
theorem shiftL_cv : ∀ (xs : List AV), okTokL n xs = true → CvL m (· - b) (fun t => b ≤ t ∧ t - b < n) F (shiftL b xs) xs
  | [], _ => .nil
  | x :: xs, h => by
    simp only [okTokL, Bool.and_eq_true] at h
    exact .cons (shiftA_cv x h.1) (shiftL_cv xs h.2)
end
end

/-- New objects whose rows have no reference. -/
def okOuts : List MS → Prop
  | [] => True
  | .live wd rows false :: r => Wide wd rows ∧ noRefL rows = true ∧ okOuts r
  | _ :: _ => False
theorem okOuts_get : ∀ {l : List MS}, okOuts l → ∀ {k : Nat} {s : MS}, l[k]? = some s → ∃ wd rows, s = .live wd rows false ∧ Wide wd rows ∧ noRefL rows = true
  | [], _, k, s, h => by simp at h
  | .live wd rows false :: r, ho, 0, s, h => by simp at h; subst h; exact ⟨wd, rows, rfl, ho.1, ho.2.1⟩
  | .live wd rows false :: r, ho, k + 1, s, h => okOuts_get ho.2.2 (by simpa using h)
  | .live wd rows true :: r, ho, k, s, h => ho.elim
  | .free :: r, ho, k, s, h => ho.elim
  | .dead :: r, ho, k, s, h => ho.elim

theorem Wide.map {α : Type} {wd : Nat} (f : α → AV) (h : ∀ a, (cells (f a)).length = wd) (l : List α) : Wide wd (l.map f) := .of_mem fun r hr => by
  obtain ⟨a, _, rfl⟩ := List.mem_map.1 hr; exact h a

/-- New objects under their names. -/
def namesFrom (b : Nat) : Nat → List MS → List (Nat × MS)
  | _, [] => []
  | k, s :: r => (b + k, s) :: namesFrom b (k + 1) r
theorem namesFrom_eq (b : Nat) : ∀ (l : List MS) (k : Nat), namesFrom b k l = (l.zipIdx k).map fun p => (b + p.2, p.1)
  | [], _ => rfl
  | s :: r, k => by simp [namesFrom, namesFrom_eq b r (k + 1)]
def allFree (m : List (Nat × MS)) (b : Nat) : Nat → Bool
  | 0 => true
  | k + 1 => (match lookM m (b + k) with | .free => true | _ => false) && allFree m b k
theorem allFree_spec {m : List (Nat × MS)} {b : Nat} : ∀ {n : Nat}, allFree m b n = true → ∀ k, k < n → lookM m (b + k) = .free
  | 0, _, k, h => absurd h (Nat.not_lt_zero k)
  | n + 1, h, k, hk => by
    simp only [allFree, Bool.and_eq_true] at h
    by_cases he : k = n
    · subst he
      have := h.1
      split at this
      · assumption
      · cases this
    · exact allFree_spec h.2 k (by omega)

section
variable {P : Program} {N : Nat} {o : Oper} {sl : List (Nat × AV)} {m : List (Nat × MS)} {R : List Nat → AV → List (Nat × MS) → Prop} {f : FuncId} {ys args : List AV} {outs : List MS} {res : AV}

/-- A call, by contract: arguments without references. -/
theorem ByHand.call (b : Nat) (hf : FnOK P f [] args outs res) (hto : CallsTo (St sl m) o f ys) (hc : Callable P f) (hys : ys = args) (hargs : noRefL args = true) (hd : dstok N o.dst = true) (hp : okTok outs.length res = true) (ho : okOuts outs)
    (hfree : allFree m b outs.length = true) (h : R ((List.range outs.length).map (b + ·)) (shiftA b res) (namesFrom b 0 outs)) : ByHand P N o sl m R := by
  subst hys
  refine ⟨_, _, _, ?_, h⟩
  have := EffOK.callN (P := P) (N := N) (o := o) (σ := St sl m) (news := outs) (x := shiftA b res) (base := b) [] hto hc (CvL.same hargs) (by simp) hf (allFree_spec hfree) rfl (fun k s hk => by
    obtain ⟨wd, rows, rfl, h1, h2⟩ := okOuts_get ho hk
    exact ⟨wd, rows, rows, rfl, hk, h1, .same h2⟩) (shiftA_cv res hp) (dstok_spec hd)
  simpa [namesFrom_eq] using this

/-- A call, by contract, whose arguments point into this frame's objects (frozen for the call), and that hands back nothing in memory. -/
theorem ByHand.callF (T : List Nat) (hf : FnOK P f [] args [] res) (hto : CallsTo (St sl m) o f ys) (hc : Callable P f) (hargs : CvL (lookM m) id (fun _ => False) (· ∈ T) args ys) (hd : dstok N o.dst = true) (hp : noMem res = true)
    (h : R T res []) : ByHand P N o sl m R :=
  ⟨T, res, [], .call0 T hto hc hargs hf hp (dstok_spec hd), h⟩
end

/-! ### Results -/
section
variable {P : Program} {σ : AState}

/-- The results one by one. -/
def ResL (P : Program) (σ : AState) : List ResultVar → List AV → Prop
  | [], [] => True
  | rv :: rvs, x :: xs => resOf P σ rv x ∧ ResL P σ rvs xs
  | _, _ => False
theorem ResL.get : ∀ {rvs : List ResultVar} {xs : List AV}, ResL P σ rvs xs → xs.length = rvs.length ∧ ∀ (j : Nat) (rv : ResultVar) (x : AV), rvs[j]? = some rv → xs[j]? = some x → resOf P σ rv x
  | [], [], _ => ⟨rfl, by simp⟩
  | rv :: rvs, x :: xs, h => by
    obtain ⟨h1, h2⟩ := ResL.get h.2
    refine ⟨by simp [h1], fun j r y a b => ?_⟩
    cases j with
    | zero => simp at a b; subst a; subst b; exact h.1
    | succ j => exact h2 j r y (by simpa using a) (by simpa using b)
  | [], _ :: _, h => h.elim
  | _ :: _, [], h => h.elim

/-- Results without references. -/
theorem RetTo.plain {rvs : List ResultVar} (xs : List AV) (h : ResL P σ rvs xs) (hr : noRef (ret1 xs) = true) : RetTo P 0 rvs σ [] (ret1 xs) :=
  ⟨xs, h.get.1, h.get.2, id, fun _ => False,
    ⟨fun _ => .any, fun t => .inl (by simp [bare, objsOf]), fun t t' h => absurd (by simp [bare, objsOf]) h, fun s h => h.elim, fun t h => absurd h (Nat.not_lt_zero t)⟩, .same hr⟩

/-- Results some of which are objects of the frame, frozen (T). -/
theorem RetTo.frozen {rvs : List ResultVar} (xs : List AV) (T : List Nat) {res : AV} (h : ResL P σ rvs xs) (hT : ∀ s ∈ T, ∃ wd rows ro, σ.mem s = .live wd rows ro) (hr : Cv σ.mem id (fun _ => False) (· ∈ T) res (ret1 xs)) : RetTo P 0 rvs σ [] res := by
  refine ⟨xs, h.get.1, h.get.2, id, (· ∈ T), ⟨fun _ => .any, fun t => .inl (by simp [bare, objsOf]), fun t t' h => absurd (by simp [bare, objsOf]) h, fun s hs => ⟨hT s hs, fun t wd rows h => by simp [bare, objsOf] at h⟩, fun t h => absurd h (Nat.not_lt_zero t)⟩, ?_⟩
  refine Cv.weakD ?_ hr
  intro t h; exact h.elim
where
  Cv.weakD {m : Nat → MS} {ρ : Nat → Nat} {D D' F : Nat → Prop} (hD : ∀ t, D t → D' t) {x y : AV} (h : Cv m ρ D F x y) : Cv m ρ D' F x y := by
    induction h with
    | any => exact .any
    | same h => exact .same h
    | own h => exact .own (hD _ h)
    | ptr h => exact .ptr (hD _ h)
    | nil => exact .nil
    | nilE => exact .nilE
    | empS => exact .empS
    | frz a b c d e _ ih => exact .frz a b c d e (fun q c d h1 h2 => ih q c d h1 h2)
    | frzp a b c d _ ih => exact .frzp a b c d (fun q c d h1 h2 => ih q c d h1 h2)
    | agg a _ ih => exact .agg a (fun q c d h1 h2 => ih q c d h1 h2)
    | tup a _ ih => exact .tup a (fun q c d h1 h2 => ih q c d h1 h2)
    | clo a b _ _ ih1 ih2 => exact .clo a b (fun q c d h1 h2 => ih1 q c d h1 h2) (fun q c d h1 h2 => ih2 q c d h1 h2)

/-- Results with new objects: outs' objects are the frame's objects ns (none of the rows has a reference). -/
theorem RetTo.fresh {rvs : List ResultVar} (xs : List AV) (ns : List Nat) {outs : List MS} {res : AV} (h : ResL P σ rvs xs) (hlen : ns.length = outs.length) (hnd : ns.Nodup) (ho : okOuts outs)
    (hm : ∀ (k n : Nat) (s : MS), ns[k]? = some n → outs[k]? = some s → σ.mem n = s)
    (hr : Cv σ.mem (fun t => ns.getD t 0) (fun t => t < outs.length) (fun _ => False) res (ret1 xs)) : RetTo P 0 rvs σ outs res := by
  have hlive : ∀ t, (bare outs).mem t ≠ .free → t < outs.length := fun t ht => by
    rcases Nat.lt_or_ge t outs.length with h | h
    · exact h
    · exact absurd (by simp [bare, objsOf, List.getElem?_eq_none h]) ht
  have hat : ∀ t, t < outs.length → ∃ wd rows, outs[t]? = some (.live wd rows false) ∧ Wide wd rows ∧ noRefL rows = true ∧ σ.mem (ns.getD t 0) = .live wd rows false := fun t ht => by
    have h1 : outs[t]? = some outs[t] := List.getElem?_eq_getElem ht
    obtain ⟨wd, rows, e, h2, h3⟩ := okOuts_get ho h1
    have h4 : ns[t]? = some (ns[t]'(by omega)) := List.getElem?_eq_getElem _
    refine ⟨wd, rows, by rw [h1, e], h2, h3, ?_⟩
    rw [List.getD_eq_getElem?_getD, h4, Option.getD_some, hm t _ _ h4 h1, e]
  refine ⟨xs, h.get.1, h.get.2, fun t => ns.getD t 0, fun _ => False, ⟨fun _ => .any, fun t => ?_, fun t t' h1 h2 h3 => ?_, fun s h => h.elim, fun t h => absurd h (Nat.not_lt_zero t)⟩, ?_⟩
  · rcases Nat.lt_or_ge t outs.length with ht | ht
    · obtain ⟨wd, rows, e1, e2, e3, e4⟩ := hat t ht
      exact .inr (.inr ⟨wd, rows, rows, false, false, by simp [bare, objsOf, e1], e4, fun _ => rfl, e2, .same e3⟩)
    · exact .inl (by simp [bare, objsOf, List.getElem?_eq_none ht])
  · have a1 := hlive t h1
    have a2 := hlive t' h2
    have b1 : ns[t]? = some (ns[t]'(by omega)) := List.getElem?_eq_getElem _
    have b2 : ns[t']? = some (ns[t']'(by omega)) := List.getElem?_eq_getElem _
    simp only [List.getD_eq_getElem?_getD, b1, b2, Option.getD_some] at h3
    exact (List.getElem?_inj (show t < ns.length by omega) hnd).1 (by rw [b1, b2, h3])
  · refine RetTo.frozen.Cv.weakD (fun t ht => ?_) hr
    obtain ⟨wd, rows, e1, _⟩ := hat t ht
    simp [bare, objsOf, e1]
end

/-! ### Weakening of states that are written as lists -/
section
variable {P : Program} {N nL : Nat}

/-- Slots may be forgotten. -/
def KeepsS (keep : List Nat) (sl : List (Nat × AV)) : List (Nat × AV) := keep.map fun d => (d, lookS sl d)
theorem KeepsS_look (sl : List (Nat × AV)) : ∀ (keep : List Nat) (i : Nat), lookS (KeepsS keep sl) i = if i ∈ keep then lookS sl i else .any
  | [], i => by simp [KeepsS, lookS]
  | d :: r, i => by
    simp only [KeepsS, List.map_cons, lookS]
    have ih := KeepsS_look sl r i
    simp only [KeepsS] at ih
    rw [ih]
    by_cases h : i = d
    · subst h; simp
    · have h' : (i == d) = false := by simpa using h
      simp [h', h]
end
end Go.Am
