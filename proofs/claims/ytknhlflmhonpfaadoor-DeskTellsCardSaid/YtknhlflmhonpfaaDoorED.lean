/- Contracts of the functions of desks, part 2. By an AI agent. -/
import Derived.Test.YtknhlflmhonpfaaDoorEC
section
set_option linter.unusedSimpArgs false
set_option linter.unusedVariables false
namespace Go.Proofs.DeskD
open Go.Am Go.RowKit Go.Lib
set_option maxRecDepth 100000
structure ShortD (d : DeskM) : Prop where
  defs : d.defs.length ≤ 40
  waits : d.waits.length ≤ 40
  names : ∀ x ∈ d.defs, x.name.size ≤ 300 ∧ x.locl.size ≤ 300
  wnames : ∀ w ∈ d.waits, w.name.size ≤ 300
theorem ShortD.small {d : DeskM} (h : ShortD d) : SmallD d := ⟨Nat.le_trans h.defs (by omega), Nat.le_trans h.waits (by omega)⟩
theorem ixI_first {α : Type} {p : α → Bool} {l : List α} {k : Nat} {a : α} (ha : l[k]? = some a) (hp : p a = true) (hb : ∀ (j : Nat) (b : α), j < k → l[j]? = some b → p b = false) : ixI p l = k := by
  rcases ixI_cases p l with ⟨_, h⟩ | ⟨j, b, h1, h2, h3, h4⟩
  · rw [h a (List.mem_of_getElem? ha)] at hp; cases hp
  · rcases Nat.lt_trichotomy j k with hj | hj | hj
    · rw [hb j b hj h2] at h3; cases h3
    · rw [h1, hj]
    · rw [h4 k a hj ha] at hp; cases hp
theorem ixI_end {α : Type} {p : α → Bool} {l : List α} (hb : ∀ (j : Nat) (b : α), j < l.length → l[j]? = some b → p b = false) : ixI p l = -1 :=
  ixI_none fun a ha => by
    obtain ⟨j, hj⟩ := List.getElem?_of_mem ha
    exact hb j a (List.getElem?_eq_some_iff.1 hj).1 hj
theorem upto_succ {α : Type} {P : α → Prop} {l : List α} {k : Nat} {a : α} (h : ∀ (j : Nat) (b : α), j < k → l[j]? = some b → P b) (ha : l[k]? = some a) (hp : P a) : ∀ (j : Nat) (b : α), j < k + 1 → l[j]? = some b → P b := fun j b hj hb => by
  by_cases e : j = k
  · subst e; rw [ha] at hb; cases hb; exact hp
  · exact h j b (by omega) hb
/-- ref.Named -/
theorem f16_ok (d : DeskM) (h : SmallD d) (s : ByteArray) : FnOK Tryd.prog 16 [] [eDesk d, eStr s] [] (eInt (posN d.defs s)) := by
  have hl := h.defs
  obtain ⟨l, ws, nx, bz⟩ := d
  simp only at hl
  have hlm : (l.map oDef).length = l.length := List.length_map ..
  refine FnOK.startC (rvs := [.tmp 4]) G G_good Tryd.func16 rfl Tryd.ntmps16 rfl rfl ?_; delta List.toArray; ((with_reducible conv => whnf); (with_reducible conv => congr <;> reduce); repeat ((first | (with_reducible refine HaltK.mk ?_) | (with_reducible refine StopK.mk ?_)); (with_reducible conv => whnf); (with_reducible conv => congr <;> reduce)))
  refine LoopK.use G G_good (fun (k : Nat) => [(1, eStr s), (2, .ptr 20 0 0), (5, eInt k)]) (fun _ => [(20, .live 4 [eDesk ⟨l, ws, nx, bz⟩] false)]) (fun k => k ≤ l.length ∧ ∀ (j : Nat) (b : DefM), j < k → l[j]? = some b → hasN s b = false) (fun k => l.length - k) 0 ⟨Nat.zero_le _, fun j b hj => by omega⟩
    ⟨⟨rfl, rfl⟩, ⟨rfl, ⟨rfl, rfl⟩, rfl, trivial⟩, ⟨⟨rfl, rfl, rfl, rfl, trivial⟩, trivial⟩, trivial⟩ ?_
  intro k ⟨hk, hno⟩
  ((with_reducible conv => whnf); (with_reducible conv => congr <;> reduce); repeat ((first | (with_reducible refine HaltK.mk ?_) | (with_reducible refine StopK.mk ?_)); (with_reducible conv => whnf); (with_reducible conv => congr <;> reduce)))
  refine IfK.mk (fun h1 => ?_) (fun h1 => ?_) <;> (try simp only [castN] at h1) <;> ((with_reducible conv => whnf); (with_reducible conv => congr <;> reduce); repeat ((first | (with_reducible refine HaltK.mk ?_) | (with_reducible refine StopK.mk ?_)); (with_reducible conv => whnf); (with_reducible conv => congr <;> reduce)))
  · simp only [hlm, decide_eq_true_eq] at h1
    have hk' : k < l.length := by omega
    obtain ⟨⟨n, lo, c⟩, hx⟩ : ∃ a, l[k]? = some a := ⟨_, List.getElem?_eq_getElem hk'⟩
    refine IdxK.mk k (eDef ⟨n, lo, c⟩) rfl (def_get hx) ?_; ((with_reducible conv => whnf); (with_reducible conv => congr <;> reduce); repeat ((first | (with_reducible refine HaltK.mk ?_) | (with_reducible refine StopK.mk ?_)); (with_reducible conv => whnf); (with_reducible conv => congr <;> reduce)))
    by_cases e : n = s
    · have hp : posN l s = k := ixI_first hx (decide_eq_true e) hno
      rw [hp]
      repeat' (first
    | (first
    | ((with_reducible show IfK _ _ _ _); first | refine IfK.ff ?_ | refine IfK.tt ?_ | refine IfK.no (by first | rfl | assumption | exact nf (by assumption) | exact nt (by assumption) | ((try simp only [castN]); first | (simp [e]; done) | (simp [e]; omega))) ?_ | refine IfK.yes (by first | rfl | assumption | exact nf (by assumption) | exact nt (by assumption) | ((try simp only [castN]); first | (simp [e]; done) | (simp [e]; omega))) ?_)
    | ((with_reducible show NeedK _ _ _ _); refine NeedK.mk (by (try simp only [castN]); omega) ?_)
    | ((with_reducible show DrawK _ _ _ _); refine DrawK.mk (by kernel_rfl) (by kernel_rfl) (by kernel_rfl) ?_)) <;> ((with_reducible conv => whnf); (with_reducible conv => congr <;> reduce); repeat ((first | (with_reducible refine HaltK.mk ?_) | (with_reducible refine StopK.mk ?_)); (with_reducible conv => whnf); (with_reducible conv => congr <;> reduce)))
    | ((with_reducible show (_ ∧ _) ∧ _ ∧ _); refine ⟨⟨rfl, rfl⟩, ?_, ?_⟩ <;> (with_reducible conv => whnf) <;> repeat' (first | (with_reducible exact trivial) | (with_reducible refine And.intro ?_ ?_ <;> with_reducible conv => whnf))))
    · repeat' (first
    | (first
    | ((with_reducible show IfK _ _ _ _); first | refine IfK.ff ?_ | refine IfK.tt ?_ | refine IfK.no (by first | rfl | assumption | exact nf (by assumption) | exact nt (by assumption) | ((try simp only [castN]); first | (simp [e]; done) | (simp [e]; omega))) ?_ | refine IfK.yes (by first | rfl | assumption | exact nf (by assumption) | exact nt (by assumption) | ((try simp only [castN]); first | (simp [e]; done) | (simp [e]; omega))) ?_)
    | ((with_reducible show NeedK _ _ _ _); refine NeedK.mk (by (try simp only [castN]); omega) ?_)
    | ((with_reducible show DrawK _ _ _ _); refine DrawK.mk (by kernel_rfl) (by kernel_rfl) (by kernel_rfl) ?_)
    | ((with_reducible show NextK _ _); refine NextK.mk (k + 1) ⟨by omega, upto_succ (P := fun b => hasN s b = false) hno hx (decide_eq_false e)⟩ (by omega) ⟨⟨rfl, rfl⟩, ⟨rfl, ⟨rfl, rfl⟩, by show ((k + 1 : Nat) : Int) = (k : Int) + 1; omega, trivial⟩, ⟨⟨rfl, rfl, rfl, rfl, trivial⟩, trivial⟩, trivial⟩)) <;> ((with_reducible conv => whnf); (with_reducible conv => congr <;> reduce); repeat ((first | (with_reducible refine HaltK.mk ?_) | (with_reducible refine StopK.mk ?_)); (with_reducible conv => whnf); (with_reducible conv => congr <;> reduce)))
    | ((with_reducible show (_ ∧ _) ∧ _ ∧ _); refine ⟨⟨rfl, rfl⟩, ?_, ?_⟩ <;> (with_reducible conv => whnf) <;> repeat' (first | (with_reducible exact trivial) | (with_reducible refine And.intro ?_ ?_ <;> with_reducible conv => whnf))))
  · have hkl : k = l.length := by simp only [hlm, decide_eq_false_iff_not] at h1; omega
    subst hkl
    have hp : posN l s = -1 := ixI_end hno
    rw [hp]
    repeat' (first
    | (first
    | ((with_reducible show IfK _ _ _ _); first | refine IfK.ff ?_ | refine IfK.tt ?_ | refine IfK.no (by first | rfl | assumption | exact nf (by assumption) | exact nt (by assumption) | ((try simp only [castN]); first | (simp [hp]; done) | (simp [hp]; omega))) ?_ | refine IfK.yes (by first | rfl | assumption | exact nf (by assumption) | exact nt (by assumption) | ((try simp only [castN]); first | (simp [hp]; done) | (simp [hp]; omega))) ?_)
    | ((with_reducible show NeedK _ _ _ _); refine NeedK.mk (by (try simp only [castN]); omega) ?_)
    | ((with_reducible show DrawK _ _ _ _); refine DrawK.mk (by kernel_rfl) (by kernel_rfl) (by kernel_rfl) ?_)) <;> ((with_reducible conv => whnf); (with_reducible conv => congr <;> reduce); repeat ((first | (with_reducible refine HaltK.mk ?_) | (with_reducible refine StopK.mk ?_)); (with_reducible conv => whnf); (with_reducible conv => congr <;> reduce)))
    | ((with_reducible show (_ ∧ _) ∧ _ ∧ _); refine ⟨⟨rfl, rfl⟩, ?_, ?_⟩ <;> (with_reducible conv => whnf) <;> repeat' (first | (with_reducible exact trivial) | (with_reducible refine And.intro ?_ ?_ <;> with_reducible conv => whnf))))
/-- ref.Classed -/
theorem f17_ok (d : DeskM) (h : SmallD d) (s : Int) : FnOK Tryd.prog 17 [] [eDesk d, eInt s] [] (eInt (posC d.defs s)) := by
  have hl := h.defs
  obtain ⟨l, ws, nx, bz⟩ := d
  simp only at hl
  have hlm : (l.map oDef).length = l.length := List.length_map ..
  refine FnOK.startC (rvs := [.tmp 4]) G G_good Tryd.func17 rfl Tryd.ntmps17 rfl rfl ?_; delta List.toArray; ((with_reducible conv => whnf); (with_reducible conv => congr <;> reduce); repeat ((first | (with_reducible refine HaltK.mk ?_) | (with_reducible refine StopK.mk ?_)); (with_reducible conv => whnf); (with_reducible conv => congr <;> reduce)))
  refine LoopK.use G G_good (fun (k : Nat) => [(1, eInt s), (2, .ptr 20 0 0), (5, eInt k)]) (fun _ => [(20, .live 4 [eDesk ⟨l, ws, nx, bz⟩] false)]) (fun k => k ≤ l.length ∧ ∀ (j : Nat) (b : DefM), j < k → l[j]? = some b → hasC s b = false) (fun k => l.length - k) 0 ⟨Nat.zero_le _, fun j b hj => by omega⟩
    ⟨⟨rfl, rfl⟩, ⟨rfl, ⟨rfl, rfl⟩, rfl, trivial⟩, ⟨⟨rfl, rfl, rfl, rfl, trivial⟩, trivial⟩, trivial⟩ ?_
  intro k ⟨hk, hno⟩
  ((with_reducible conv => whnf); (with_reducible conv => congr <;> reduce); repeat ((first | (with_reducible refine HaltK.mk ?_) | (with_reducible refine StopK.mk ?_)); (with_reducible conv => whnf); (with_reducible conv => congr <;> reduce)))
  refine IfK.mk (fun h1 => ?_) (fun h1 => ?_) <;> (try simp only [castN] at h1) <;> ((with_reducible conv => whnf); (with_reducible conv => congr <;> reduce); repeat ((first | (with_reducible refine HaltK.mk ?_) | (with_reducible refine StopK.mk ?_)); (with_reducible conv => whnf); (with_reducible conv => congr <;> reduce)))
  · simp only [hlm, decide_eq_true_eq] at h1
    have hk' : k < l.length := by omega
    obtain ⟨⟨n, lo, c⟩, hx⟩ : ∃ a, l[k]? = some a := ⟨_, List.getElem?_eq_getElem hk'⟩
    refine IdxK.mk k (eDef ⟨n, lo, c⟩) rfl (def_get hx) ?_; ((with_reducible conv => whnf); (with_reducible conv => congr <;> reduce); repeat ((first | (with_reducible refine HaltK.mk ?_) | (with_reducible refine StopK.mk ?_)); (with_reducible conv => whnf); (with_reducible conv => congr <;> reduce)))
    by_cases e : c = s
    · have hp : posC l s = k := ixI_first hx (decide_eq_true e) hno
      rw [hp]
      repeat' (first
    | (first
    | ((with_reducible show IfK _ _ _ _); first | refine IfK.ff ?_ | refine IfK.tt ?_ | refine IfK.no (by first | rfl | assumption | exact nf (by assumption) | exact nt (by assumption) | ((try simp only [castN]); first | (simp [e]; done) | (simp [e]; omega))) ?_ | refine IfK.yes (by first | rfl | assumption | exact nf (by assumption) | exact nt (by assumption) | ((try simp only [castN]); first | (simp [e]; done) | (simp [e]; omega))) ?_)
    | ((with_reducible show NeedK _ _ _ _); refine NeedK.mk (by (try simp only [castN]); omega) ?_)
    | ((with_reducible show DrawK _ _ _ _); refine DrawK.mk (by kernel_rfl) (by kernel_rfl) (by kernel_rfl) ?_)) <;> ((with_reducible conv => whnf); (with_reducible conv => congr <;> reduce); repeat ((first | (with_reducible refine HaltK.mk ?_) | (with_reducible refine StopK.mk ?_)); (with_reducible conv => whnf); (with_reducible conv => congr <;> reduce)))
    | ((with_reducible show (_ ∧ _) ∧ _ ∧ _); refine ⟨⟨rfl, rfl⟩, ?_, ?_⟩ <;> (with_reducible conv => whnf) <;> repeat' (first | (with_reducible exact trivial) | (with_reducible refine And.intro ?_ ?_ <;> with_reducible conv => whnf))))
    · repeat' (first
    | (first
    | ((with_reducible show IfK _ _ _ _); first | refine IfK.ff ?_ | refine IfK.tt ?_ | refine IfK.no (by first | rfl | assumption | exact nf (by assumption) | exact nt (by assumption) | ((try simp only [castN]); first | (simp [e]; done) | (simp [e]; omega))) ?_ | refine IfK.yes (by first | rfl | assumption | exact nf (by assumption) | exact nt (by assumption) | ((try simp only [castN]); first | (simp [e]; done) | (simp [e]; omega))) ?_)
    | ((with_reducible show NeedK _ _ _ _); refine NeedK.mk (by (try simp only [castN]); omega) ?_)
    | ((with_reducible show DrawK _ _ _ _); refine DrawK.mk (by kernel_rfl) (by kernel_rfl) (by kernel_rfl) ?_)
    | ((with_reducible show NextK _ _); refine NextK.mk (k + 1) ⟨by omega, upto_succ (P := fun b => hasC s b = false) hno hx (decide_eq_false e)⟩ (by omega) ⟨⟨rfl, rfl⟩, ⟨rfl, ⟨rfl, rfl⟩, by show ((k + 1 : Nat) : Int) = (k : Int) + 1; omega, trivial⟩, ⟨⟨rfl, rfl, rfl, rfl, trivial⟩, trivial⟩, trivial⟩)) <;> ((with_reducible conv => whnf); (with_reducible conv => congr <;> reduce); repeat ((first | (with_reducible refine HaltK.mk ?_) | (with_reducible refine StopK.mk ?_)); (with_reducible conv => whnf); (with_reducible conv => congr <;> reduce)))
    | ((with_reducible show (_ ∧ _) ∧ _ ∧ _); refine ⟨⟨rfl, rfl⟩, ?_, ?_⟩ <;> (with_reducible conv => whnf) <;> repeat' (first | (with_reducible exact trivial) | (with_reducible refine And.intro ?_ ?_ <;> with_reducible conv => whnf))))
  · have hkl : k = l.length := by simp only [hlm, decide_eq_false_iff_not] at h1; omega
    subst hkl
    have hp : posC l s = -1 := ixI_end hno
    rw [hp]
    repeat' (first
    | (first
    | ((with_reducible show IfK _ _ _ _); first | refine IfK.ff ?_ | refine IfK.tt ?_ | refine IfK.no (by first | rfl | assumption | exact nf (by assumption) | exact nt (by assumption) | ((try simp only [castN]); first | (simp [hp]; done) | (simp [hp]; omega))) ?_ | refine IfK.yes (by first | rfl | assumption | exact nf (by assumption) | exact nt (by assumption) | ((try simp only [castN]); first | (simp [hp]; done) | (simp [hp]; omega))) ?_)
    | ((with_reducible show NeedK _ _ _ _); refine NeedK.mk (by (try simp only [castN]); omega) ?_)
    | ((with_reducible show DrawK _ _ _ _); refine DrawK.mk (by kernel_rfl) (by kernel_rfl) (by kernel_rfl) ?_)) <;> ((with_reducible conv => whnf); (with_reducible conv => congr <;> reduce); repeat ((first | (with_reducible refine HaltK.mk ?_) | (with_reducible refine StopK.mk ?_)); (with_reducible conv => whnf); (with_reducible conv => congr <;> reduce)))
    | ((with_reducible show (_ ∧ _) ∧ _ ∧ _); refine ⟨⟨rfl, rfl⟩, ?_, ?_⟩ <;> (with_reducible conv => whnf) <;> repeat' (first | (with_reducible exact trivial) | (with_reducible refine And.intro ?_ ?_ <;> with_reducible conv => whnf))))
theorem f16_at {d : DeskM} {s : ByteArray} {i : Int} (h : SmallD d) (hi : posN d.defs s = i) : FnOK Tryd.prog 16 [] [eDesk d, eStr s] [] (eInt i) := by have := f16_ok d h s; rwa [hi] at this
theorem f17_at {d : DeskM} {s i : Int} (h : SmallD d) (hi : posC d.defs s = i) : FnOK Tryd.prog 17 [] [eDesk d, eInt s] [] (eInt i) := by have := f17_ok d h s; rwa [hi] at this
/-- A definition that is as it must be, at its place. -/
def okD (l : List DefM) (k : Nat) (x : DefM) : Prop := goodD x = true ∧ posN l x.name = k ∧ posC l x.cls = k
theorem okD_all {l : List DefM} (h : ∀ (j : Nat) (b : DefM), j < l.length → l[j]? = some b → okD l j b) : defsB l = true :=
  defsB_iff.2 ⟨fun x hx => by
    obtain ⟨j, hj⟩ := List.getElem?_of_mem hx
    exact (h j x (List.getElem?_eq_some_iff.1 hj).1 hj).1,
  nodup_of_ix fun i j a b ha hb e => by
    have h1 := (h i a (List.getElem?_eq_some_iff.1 ha).1 ha).2.1
    have h2 := (h j b (List.getElem?_eq_some_iff.1 hb).1 hb).2.1
    rw [e] at h1; omega,
  nodup_of_ix fun i j a b ha hb e => by
    have h1 := (h i a (List.getElem?_eq_some_iff.1 ha).1 ha).2.2
    have h2 := (h j b (List.getElem?_eq_some_iff.1 hb).1 hb).2.2
    rw [e] at h1; omega⟩
theorem okD_of {l : List DefM} (h : defsB l = true) {k : Nat} {x : DefM} (hx : l[k]? = some x) : okD l k x := by
  obtain ⟨h1, h2, h3⟩ := defsB_iff.1 h
  exact ⟨h1 x (List.mem_of_getElem? hx), posN_at h2 hx, posC_at h3 hx⟩
end Go.Proofs.DeskD
end
section
set_option linter.unusedSimpArgs false
set_option linter.unusedVariables false
namespace Go.Proofs.DeskD
open Go.Am Go.RowKit Go.Lib
set_option maxRecDepth 100000
theorem upto_succ' {α : Type} {P : Nat → α → Prop} {l : List α} {k : Nat} {a : α} (h : ∀ (j : Nat) (b : α), j < k → l[j]? = some b → P j b) (ha : l[k]? = some a) (hp : P k a) : ∀ (j : Nat) (b : α), j < k + 1 → l[j]? = some b → P j b := fun j b hj hb => by
  by_cases e : j = k
  · subst e; rw [ha] at hb; cases hb; exact hp
  · exact h j b (by omega) hb
set_option maxHeartbeats 16000000 in
/-- ref.Right -/
theorem f10_ok (d : DeskM) (h : ShortD d) : FnOK Tryd.prog 10 [] [eDesk d] [] (eBool (rightD d)) := by
  have hsm := h.small
  have hok := @okD_all d.defs
  have hof := @okD_of d.defs
  have hwf := @waitsB_false d.defs d.next
  have hrd := @rightD_iff d
  obtain ⟨r, hr⟩ : ∃ r, rightD d = r := ⟨_, rfl⟩
  rw [hr] at hrd ⊢
  obtain ⟨l, ws, nx, bz⟩ := d
  have hl : l.length ≤ 40 := h.defs
  have hw : ws.length ≤ 40 := h.waits
  have hnm : ∀ x ∈ l, x.name.size ≤ 300 ∧ x.locl.size ≤ 300 := h.names
  have hwn : ∀ w ∈ ws, w.name.size ≤ 300 := h.wnames
  simp only at hok hof hwf hrd
  have hlm : (l.map oDef).length = l.length := List.length_map ..
  have hwm : (ws.map oWait).length = ws.length := List.length_map ..
  refine FnOK.startC (rvs := [.tmp 2]) G G_good Tryd.func10 rfl Tryd.ntmps10 rfl rfl ?_; delta List.toArray; ((with_reducible conv => whnf); (with_reducible conv => congr <;> reduce); repeat ((first | (with_reducible refine HaltK.mk ?_) | (with_reducible refine StopK.mk ?_)); (with_reducible conv => whnf); (with_reducible conv => congr <;> reduce)))
  by_cases n0 : nx < 0
  · have : r = false := by cases r with | false => rfl | true => exact absurd (hrd.1 rfl).2.2.1 (by omega)
    rw [this]; repeat' (first
    | (first
    | ((with_reducible show IfK _ _ _ _); first | refine IfK.ff ?_ | refine IfK.tt ?_ | refine IfK.no (by first | rfl | assumption | exact nf (by assumption) | exact nt (by assumption) | ((try simp only [castN]); first | (simp [n0]; done) | (simp [n0]; omega))) ?_ | refine IfK.yes (by first | rfl | assumption | exact nf (by assumption) | exact nt (by assumption) | ((try simp only [castN]); first | (simp [n0]; done) | (simp [n0]; omega))) ?_)
    | ((with_reducible show NeedK _ _ _ _); refine NeedK.mk (by (try simp only [castN]); omega) ?_)
    | ((with_reducible show DrawK _ _ _ _); refine DrawK.mk (by kernel_rfl) (by kernel_rfl) (by kernel_rfl) ?_)) <;> ((with_reducible conv => whnf); (with_reducible conv => congr <;> reduce); repeat ((first | (with_reducible refine HaltK.mk ?_) | (with_reducible refine StopK.mk ?_)); (with_reducible conv => whnf); (with_reducible conv => congr <;> reduce)))
    | ((with_reducible show (_ ∧ _) ∧ _ ∧ _); refine ⟨⟨rfl, rfl⟩, ?_, ?_⟩ <;> (with_reducible conv => whnf) <;> repeat' (first | (with_reducible exact trivial) | (with_reducible refine And.intro ?_ ?_ <;> with_reducible conv => whnf))))
  by_cases n1 : 100000 < nx
  · have : r = false := by cases r with | false => rfl | true => exact absurd (hrd.1 rfl).2.2.2 (by omega)
    rw [this]; repeat' (first
    | (first
    | ((with_reducible show IfK _ _ _ _); first | refine IfK.ff ?_ | refine IfK.tt ?_ | refine IfK.no (by first | rfl | assumption | exact nf (by assumption) | exact nt (by assumption) | ((try simp only [castN]); first | (simp [n0, n1]; done) | (simp [n0, n1]; omega))) ?_ | refine IfK.yes (by first | rfl | assumption | exact nf (by assumption) | exact nt (by assumption) | ((try simp only [castN]); first | (simp [n0, n1]; done) | (simp [n0, n1]; omega))) ?_)
    | ((with_reducible show NeedK _ _ _ _); refine NeedK.mk (by (try simp only [castN]); omega) ?_)
    | ((with_reducible show DrawK _ _ _ _); refine DrawK.mk (by kernel_rfl) (by kernel_rfl) (by kernel_rfl) ?_)) <;> ((with_reducible conv => whnf); (with_reducible conv => congr <;> reduce); repeat ((first | (with_reducible refine HaltK.mk ?_) | (with_reducible refine StopK.mk ?_)); (with_reducible conv => whnf); (with_reducible conv => congr <;> reduce)))
    | ((with_reducible show (_ ∧ _) ∧ _ ∧ _); refine ⟨⟨rfl, rfl⟩, ?_, ?_⟩ <;> (with_reducible conv => whnf) <;> repeat' (first | (with_reducible exact trivial) | (with_reducible refine And.intro ?_ ?_ <;> with_reducible conv => whnf))))
  repeat' (first
    | (first
    | ((with_reducible show IfK _ _ _ _); first | refine IfK.ff ?_ | refine IfK.tt ?_ | refine IfK.no (by first | rfl | assumption | exact nf (by assumption) | exact nt (by assumption) | ((try simp only [castN]); first | (simp [n0, n1]; done) | (simp [n0, n1]; omega))) ?_ | refine IfK.yes (by first | rfl | assumption | exact nf (by assumption) | exact nt (by assumption) | ((try simp only [castN]); first | (simp [n0, n1]; done) | (simp [n0, n1]; omega))) ?_)
    | ((with_reducible show NeedK _ _ _ _); refine NeedK.mk (by (try simp only [castN]); omega) ?_)
    | ((with_reducible show DrawK _ _ _ _); refine DrawK.mk (by kernel_rfl) (by kernel_rfl) (by kernel_rfl) ?_)) <;> ((with_reducible conv => whnf); (with_reducible conv => congr <;> reduce); repeat ((first | (with_reducible refine HaltK.mk ?_) | (with_reducible refine StopK.mk ?_)); (with_reducible conv => whnf); (with_reducible conv => congr <;> reduce)))
    | ((with_reducible show (_ ∧ _) ∧ _ ∧ _); refine ⟨⟨rfl, rfl⟩, ?_, ?_⟩ <;> (with_reducible conv => whnf) <;> repeat' (first | (with_reducible exact trivial) | (with_reducible refine And.intro ?_ ?_ <;> with_reducible conv => whnf))))
  refine LoopK.use G G_good (fun (k : Nat) => [(1, .ptr 10 0 0), (3, eInt k)]) (fun _ => [(10, .live 4 [eDesk ⟨l, ws, nx, bz⟩] false)]) (fun k => k ≤ l.length ∧ ∀ (j : Nat) (b : DefM), j < k → l[j]? = some b → okD l j b) (fun k => l.length - k) 0 ⟨Nat.zero_le _, fun j b hj => by omega⟩
    ⟨⟨rfl, rfl⟩, ⟨⟨rfl, rfl⟩, rfl, trivial⟩, ⟨⟨rfl, rfl, rfl, rfl, trivial⟩, trivial⟩, trivial⟩ ?_
  intro k ⟨hk, hno⟩
  ((with_reducible conv => whnf); (with_reducible conv => congr <;> reduce); repeat ((first | (with_reducible refine HaltK.mk ?_) | (with_reducible refine StopK.mk ?_)); (with_reducible conv => whnf); (with_reducible conv => congr <;> reduce)))
  refine IfK.mk (fun h1 => ?_) (fun h1 => ?_) <;> (try simp only [castN] at h1) <;> ((with_reducible conv => whnf); (with_reducible conv => congr <;> reduce); repeat ((first | (with_reducible refine HaltK.mk ?_) | (with_reducible refine StopK.mk ?_)); (with_reducible conv => whnf); (with_reducible conv => congr <;> reduce)))
  · simp only [hlm, decide_eq_true_eq] at h1
    have hk' : k < l.length := by omega
    obtain ⟨⟨n, lo, c⟩, hx⟩ : ∃ a, l[k]? = some a := ⟨_, List.getElem?_eq_getElem hk'⟩
    have hns : n.size ≤ 100000 := Nat.le_trans (hnm _ (List.mem_of_getElem? hx)).1 (by omega)
    have hf : (okD l k ⟨n, lo, c⟩ → False) → r = false := fun hn => by
      cases r with
      | false => rfl
      | true => exact absurd (hof (hrd.1 rfl).1 hx) hn
    refine IdxK.mk k (eDef ⟨n, lo, c⟩) rfl (def_get hx) ?_; ((with_reducible conv => whnf); (with_reducible conv => congr <;> reduce); repeat ((first | (with_reducible refine HaltK.mk ?_) | (with_reducible refine StopK.mk ?_)); (with_reducible conv => whnf); (with_reducible conv => congr <;> reduce)))
    cases hc : customS n with
    | false =>
      rw [hf (fun h => by have := (goodD_facts h.1).1; simp only at this; rw [hc] at this; cases this)]
      repeat' (first
    | (first
    | ((with_reducible show IfK _ _ _ _); first | refine IfK.ff ?_ | refine IfK.tt ?_ | refine IfK.no (by first | rfl | assumption | exact nf (by assumption) | exact nt (by assumption) | ((try simp only [castN]); first | (simp [n0]; done) | (simp [n0]; omega))) ?_ | refine IfK.yes (by first | rfl | assumption | exact nf (by assumption) | exact nt (by assumption) | ((try simp only [castN]); first | (simp [n0]; done) | (simp [n0]; omega))) ?_)
    | ((with_reducible show NeedK _ _ _ _); refine NeedK.mk (by (try simp only [castN]); omega) ?_)
    | ((with_reducible show DrawK _ _ _ _); refine DrawK.mk (by kernel_rfl) (by kernel_rfl) (by kernel_rfl) ?_)
    | ((with_reducible show CallK _ _ 27 _ _ _ _); refine CallK.lit [] (f27_at hns hc) c27 ⟨rfl, trivial⟩ rfl rfl ?_)) <;> ((with_reducible conv => whnf); (with_reducible conv => congr <;> reduce); repeat ((first | (with_reducible refine HaltK.mk ?_) | (with_reducible refine StopK.mk ?_)); (with_reducible conv => whnf); (with_reducible conv => congr <;> reduce)))
    | ((with_reducible show (_ ∧ _) ∧ _ ∧ _); refine ⟨⟨rfl, rfl⟩, ?_, ?_⟩ <;> (with_reducible conv => whnf) <;> repeat' (first | (with_reducible exact trivial) | (with_reducible refine And.intro ?_ ?_ <;> with_reducible conv => whnf))))
    | true =>
      by_cases hlo : lo = n ∨ knowS lo = true
      · by_cases g3 : c < 0
        · rw [hf (fun h => by have := (goodD_facts h.1).2.2.1; simp only at this; omega)]
          by_cases e : lo = n
          · repeat' (first
    | (first
    | ((with_reducible show IfK _ _ _ _); first | refine IfK.ff ?_ | refine IfK.tt ?_ | refine IfK.no (by first | rfl | assumption | exact nf (by assumption) | exact nt (by assumption) | ((try simp only [castN]); first | (simp [g3, e]; done) | (simp [g3, e]; omega))) ?_ | refine IfK.yes (by first | rfl | assumption | exact nf (by assumption) | exact nt (by assumption) | ((try simp only [castN]); first | (simp [g3, e]; done) | (simp [g3, e]; omega))) ?_)
    | ((with_reducible show NeedK _ _ _ _); refine NeedK.mk (by (try simp only [castN]); omega) ?_)
    | ((with_reducible show DrawK _ _ _ _); refine DrawK.mk (by kernel_rfl) (by kernel_rfl) (by kernel_rfl) ?_)
    | ((with_reducible show CallK _ _ 27 _ _ _ _); refine CallK.lit [] (f27_at hns hc) c27 ⟨rfl, trivial⟩ rfl rfl ?_)) <;> ((with_reducible conv => whnf); (with_reducible conv => congr <;> reduce); repeat ((first | (with_reducible refine HaltK.mk ?_) | (with_reducible refine StopK.mk ?_)); (with_reducible conv => whnf); (with_reducible conv => congr <;> reduce)))
    | ((with_reducible show (_ ∧ _) ∧ _ ∧ _); refine ⟨⟨rfl, rfl⟩, ?_, ?_⟩ <;> (with_reducible conv => whnf) <;> repeat' (first | (with_reducible exact trivial) | (with_reducible refine And.intro ?_ ?_ <;> with_reducible conv => whnf))))
          · have hkn := hlo.resolve_left e
            repeat' (first
    | (first
    | ((with_reducible show IfK _ _ _ _); first | refine IfK.ff ?_ | refine IfK.tt ?_ | refine IfK.no (by first | rfl | assumption | exact nf (by assumption) | exact nt (by assumption) | ((try simp only [castN]); first | (simp [g3, e]; done) | (simp [g3, e]; omega))) ?_ | refine IfK.yes (by first | rfl | assumption | exact nf (by assumption) | exact nt (by assumption) | ((try simp only [castN]); first | (simp [g3, e]; done) | (simp [g3, e]; omega))) ?_)
    | ((with_reducible show NeedK _ _ _ _); refine NeedK.mk (by (try simp only [castN]); omega) ?_)
    | ((with_reducible show DrawK _ _ _ _); refine DrawK.mk (by kernel_rfl) (by kernel_rfl) (by kernel_rfl) ?_)
    | ((with_reducible show CallK _ _ 27 _ _ _ _); refine CallK.lit [] (f27_at hns hc) c27 ⟨rfl, trivial⟩ rfl rfl ?_)
    | ((with_reducible show CallK _ _ 28 _ _ _ _); refine CallK.lit [] (f28_at hkn) c28 ⟨rfl, trivial⟩ rfl rfl ?_)) <;> ((with_reducible conv => whnf); (with_reducible conv => congr <;> reduce); repeat ((first | (with_reducible refine HaltK.mk ?_) | (with_reducible refine StopK.mk ?_)); (with_reducible conv => whnf); (with_reducible conv => congr <;> reduce)))
    | ((with_reducible show (_ ∧ _) ∧ _ ∧ _); refine ⟨⟨rfl, rfl⟩, ?_, ?_⟩ <;> (with_reducible conv => whnf) <;> repeat' (first | (with_reducible exact trivial) | (with_reducible refine And.intro ?_ ?_ <;> with_reducible conv => whnf))))
        · by_cases g4 : 11 < c
          · rw [hf (fun h => by have := (goodD_facts h.1).2.2.2; simp only at this; omega)]
            by_cases e : lo = n
            · repeat' (first
    | (first
    | ((with_reducible show IfK _ _ _ _); first | refine IfK.ff ?_ | refine IfK.tt ?_ | refine IfK.no (by first | rfl | assumption | exact nf (by assumption) | exact nt (by assumption) | ((try simp only [castN]); first | (simp [g3, g4, e]; done) | (simp [g3, g4, e]; omega))) ?_ | refine IfK.yes (by first | rfl | assumption | exact nf (by assumption) | exact nt (by assumption) | ((try simp only [castN]); first | (simp [g3, g4, e]; done) | (simp [g3, g4, e]; omega))) ?_)
    | ((with_reducible show NeedK _ _ _ _); refine NeedK.mk (by (try simp only [castN]); omega) ?_)
    | ((with_reducible show DrawK _ _ _ _); refine DrawK.mk (by kernel_rfl) (by kernel_rfl) (by kernel_rfl) ?_)
    | ((with_reducible show CallK _ _ 27 _ _ _ _); refine CallK.lit [] (f27_at hns hc) c27 ⟨rfl, trivial⟩ rfl rfl ?_)) <;> ((with_reducible conv => whnf); (with_reducible conv => congr <;> reduce); repeat ((first | (with_reducible refine HaltK.mk ?_) | (with_reducible refine StopK.mk ?_)); (with_reducible conv => whnf); (with_reducible conv => congr <;> reduce)))
    | ((with_reducible show (_ ∧ _) ∧ _ ∧ _); refine ⟨⟨rfl, rfl⟩, ?_, ?_⟩ <;> (with_reducible conv => whnf) <;> repeat' (first | (with_reducible exact trivial) | (with_reducible refine And.intro ?_ ?_ <;> with_reducible conv => whnf))))
            · have hkn := hlo.resolve_left e
              repeat' (first
    | (first
    | ((with_reducible show IfK _ _ _ _); first | refine IfK.ff ?_ | refine IfK.tt ?_ | refine IfK.no (by first | rfl | assumption | exact nf (by assumption) | exact nt (by assumption) | ((try simp only [castN]); first | (simp [g3, g4, e]; done) | (simp [g3, g4, e]; omega))) ?_ | refine IfK.yes (by first | rfl | assumption | exact nf (by assumption) | exact nt (by assumption) | ((try simp only [castN]); first | (simp [g3, g4, e]; done) | (simp [g3, g4, e]; omega))) ?_)
    | ((with_reducible show NeedK _ _ _ _); refine NeedK.mk (by (try simp only [castN]); omega) ?_)
    | ((with_reducible show DrawK _ _ _ _); refine DrawK.mk (by kernel_rfl) (by kernel_rfl) (by kernel_rfl) ?_)
    | ((with_reducible show CallK _ _ 27 _ _ _ _); refine CallK.lit [] (f27_at hns hc) c27 ⟨rfl, trivial⟩ rfl rfl ?_)
    | ((with_reducible show CallK _ _ 28 _ _ _ _); refine CallK.lit [] (f28_at hkn) c28 ⟨rfl, trivial⟩ rfl rfl ?_)) <;> ((with_reducible conv => whnf); (with_reducible conv => congr <;> reduce); repeat ((first | (with_reducible refine HaltK.mk ?_) | (with_reducible refine StopK.mk ?_)); (with_reducible conv => whnf); (with_reducible conv => congr <;> reduce)))
    | ((with_reducible show (_ ∧ _) ∧ _ ∧ _); refine ⟨⟨rfl, rfl⟩, ?_, ?_⟩ <;> (with_reducible conv => whnf) <;> repeat' (first | (with_reducible exact trivial) | (with_reducible refine And.intro ?_ ?_ <;> with_reducible conv => whnf))))
          · obtain ⟨p, hp⟩ : ∃ p, posN l n = p := ⟨_, rfl⟩
            obtain ⟨q, hq⟩ : ∃ q, posC l c = q := ⟨_, rfl⟩
            by_cases g5 : p = k
            · by_cases g6 : q = k
              · have hokk : okD l k ⟨n, lo, c⟩ := by
                  refine ⟨?_, by rw [← g5]; exact hp, by rw [← g6]; exact hq⟩
                  unfold goodD localB
                  simp only [hc, Bool.true_and]
                  rw [show decide (0 ≤ c) = true from decide_eq_true (by omega), show decide (c < 12) = true from decide_eq_true (by omega)]
                  rcases hlo with e | e
                  · rw [decide_eq_true e]; rfl
                  · rw [e]; simp
                by_cases e : lo = n
                · repeat' (first
    | (first
    | ((with_reducible show IfK _ _ _ _); first | refine IfK.ff ?_ | refine IfK.tt ?_ | refine IfK.no (by first | rfl | assumption | exact nf (by assumption) | exact nt (by assumption) | ((try simp only [castN]); first | (simp [g3, g4, g5, g6, e]; done) | (simp [g3, g4, g5, g6, e]; omega))) ?_ | refine IfK.yes (by first | rfl | assumption | exact nf (by assumption) | exact nt (by assumption) | ((try simp only [castN]); first | (simp [g3, g4, g5, g6, e]; done) | (simp [g3, g4, g5, g6, e]; omega))) ?_)
    | ((with_reducible show NeedK _ _ _ _); refine NeedK.mk (by (try simp only [castN]); omega) ?_)
    | ((with_reducible show DrawK _ _ _ _); refine DrawK.mk (by kernel_rfl) (by kernel_rfl) (by kernel_rfl) ?_)
    | ((with_reducible show CallK _ _ 27 _ _ _ _); refine CallK.lit [] (f27_at hns hc) c27 ⟨rfl, trivial⟩ rfl rfl ?_)
    | ((with_reducible show CallK _ _ 16 _ _ _ _); refine CallK.lit [] (f16_at hsm hp) c16 ⟨⟨rfl, rfl, rfl, rfl, trivial⟩, rfl, trivial⟩ rfl rfl ?_)
    | ((with_reducible show CallK _ _ 17 _ _ _ _); refine CallK.lit [] (f17_at hsm hq) c17 ⟨⟨rfl, rfl, rfl, rfl, trivial⟩, rfl, trivial⟩ rfl rfl ?_)
    | ((with_reducible show NextK _ _); refine NextK.mk (k + 1) ⟨by omega, upto_succ' hno hx hokk⟩ (by omega) ⟨⟨rfl, rfl⟩, ⟨⟨rfl, rfl⟩, by show ((k + 1 : Nat) : Int) = (k : Int) + 1; omega, trivial⟩, ⟨⟨rfl, rfl, rfl, rfl, trivial⟩, trivial⟩, trivial⟩)) <;> ((with_reducible conv => whnf); (with_reducible conv => congr <;> reduce); repeat ((first | (with_reducible refine HaltK.mk ?_) | (with_reducible refine StopK.mk ?_)); (with_reducible conv => whnf); (with_reducible conv => congr <;> reduce)))
    | ((with_reducible show (_ ∧ _) ∧ _ ∧ _); refine ⟨⟨rfl, rfl⟩, ?_, ?_⟩ <;> (with_reducible conv => whnf) <;> repeat' (first | (with_reducible exact trivial) | (with_reducible refine And.intro ?_ ?_ <;> with_reducible conv => whnf))))
                · have hkn := hlo.resolve_left e
                  repeat' (first
    | (first
    | ((with_reducible show IfK _ _ _ _); first | refine IfK.ff ?_ | refine IfK.tt ?_ | refine IfK.no (by first | rfl | assumption | exact nf (by assumption) | exact nt (by assumption) | ((try simp only [castN]); first | (simp [g3, g4, g5, g6, e]; done) | (simp [g3, g4, g5, g6, e]; omega))) ?_ | refine IfK.yes (by first | rfl | assumption | exact nf (by assumption) | exact nt (by assumption) | ((try simp only [castN]); first | (simp [g3, g4, g5, g6, e]; done) | (simp [g3, g4, g5, g6, e]; omega))) ?_)
    | ((with_reducible show NeedK _ _ _ _); refine NeedK.mk (by (try simp only [castN]); omega) ?_)
    | ((with_reducible show DrawK _ _ _ _); refine DrawK.mk (by kernel_rfl) (by kernel_rfl) (by kernel_rfl) ?_)
    | ((with_reducible show CallK _ _ 27 _ _ _ _); refine CallK.lit [] (f27_at hns hc) c27 ⟨rfl, trivial⟩ rfl rfl ?_)
    | ((with_reducible show CallK _ _ 28 _ _ _ _); refine CallK.lit [] (f28_at hkn) c28 ⟨rfl, trivial⟩ rfl rfl ?_)
    | ((with_reducible show CallK _ _ 16 _ _ _ _); refine CallK.lit [] (f16_at hsm hp) c16 ⟨⟨rfl, rfl, rfl, rfl, trivial⟩, rfl, trivial⟩ rfl rfl ?_)
    | ((with_reducible show CallK _ _ 17 _ _ _ _); refine CallK.lit [] (f17_at hsm hq) c17 ⟨⟨rfl, rfl, rfl, rfl, trivial⟩, rfl, trivial⟩ rfl rfl ?_)
    | ((with_reducible show NextK _ _); refine NextK.mk (k + 1) ⟨by omega, upto_succ' hno hx hokk⟩ (by omega) ⟨⟨rfl, rfl⟩, ⟨⟨rfl, rfl⟩, by show ((k + 1 : Nat) : Int) = (k : Int) + 1; omega, trivial⟩, ⟨⟨rfl, rfl, rfl, rfl, trivial⟩, trivial⟩, trivial⟩)) <;> ((with_reducible conv => whnf); (with_reducible conv => congr <;> reduce); repeat ((first | (with_reducible refine HaltK.mk ?_) | (with_reducible refine StopK.mk ?_)); (with_reducible conv => whnf); (with_reducible conv => congr <;> reduce)))
    | ((with_reducible show (_ ∧ _) ∧ _ ∧ _); refine ⟨⟨rfl, rfl⟩, ?_, ?_⟩ <;> (with_reducible conv => whnf) <;> repeat' (first | (with_reducible exact trivial) | (with_reducible refine And.intro ?_ ?_ <;> with_reducible conv => whnf))))
              · rw [hf (fun h => g6 (by rw [← hq]; exact h.2.2))]
                by_cases e : lo = n
                · repeat' (first
    | (first
    | ((with_reducible show IfK _ _ _ _); first | refine IfK.ff ?_ | refine IfK.tt ?_ | refine IfK.no (by first | rfl | assumption | exact nf (by assumption) | exact nt (by assumption) | ((try simp only [castN]); first | (simp [g3, g4, g5, g6, e]; done) | (simp [g3, g4, g5, g6, e]; omega))) ?_ | refine IfK.yes (by first | rfl | assumption | exact nf (by assumption) | exact nt (by assumption) | ((try simp only [castN]); first | (simp [g3, g4, g5, g6, e]; done) | (simp [g3, g4, g5, g6, e]; omega))) ?_)
    | ((with_reducible show NeedK _ _ _ _); refine NeedK.mk (by (try simp only [castN]); omega) ?_)
    | ((with_reducible show DrawK _ _ _ _); refine DrawK.mk (by kernel_rfl) (by kernel_rfl) (by kernel_rfl) ?_)
    | ((with_reducible show CallK _ _ 27 _ _ _ _); refine CallK.lit [] (f27_at hns hc) c27 ⟨rfl, trivial⟩ rfl rfl ?_)
    | ((with_reducible show CallK _ _ 16 _ _ _ _); refine CallK.lit [] (f16_at hsm hp) c16 ⟨⟨rfl, rfl, rfl, rfl, trivial⟩, rfl, trivial⟩ rfl rfl ?_)
    | ((with_reducible show CallK _ _ 17 _ _ _ _); refine CallK.lit [] (f17_at hsm hq) c17 ⟨⟨rfl, rfl, rfl, rfl, trivial⟩, rfl, trivial⟩ rfl rfl ?_)) <;> ((with_reducible conv => whnf); (with_reducible conv => congr <;> reduce); repeat ((first | (with_reducible refine HaltK.mk ?_) | (with_reducible refine StopK.mk ?_)); (with_reducible conv => whnf); (with_reducible conv => congr <;> reduce)))
    | ((with_reducible show (_ ∧ _) ∧ _ ∧ _); refine ⟨⟨rfl, rfl⟩, ?_, ?_⟩ <;> (with_reducible conv => whnf) <;> repeat' (first | (with_reducible exact trivial) | (with_reducible refine And.intro ?_ ?_ <;> with_reducible conv => whnf))))
                · have hkn := hlo.resolve_left e
                  repeat' (first
    | (first
    | ((with_reducible show IfK _ _ _ _); first | refine IfK.ff ?_ | refine IfK.tt ?_ | refine IfK.no (by first | rfl | assumption | exact nf (by assumption) | exact nt (by assumption) | ((try simp only [castN]); first | (simp [g3, g4, g5, g6, e]; done) | (simp [g3, g4, g5, g6, e]; omega))) ?_ | refine IfK.yes (by first | rfl | assumption | exact nf (by assumption) | exact nt (by assumption) | ((try simp only [castN]); first | (simp [g3, g4, g5, g6, e]; done) | (simp [g3, g4, g5, g6, e]; omega))) ?_)
    | ((with_reducible show NeedK _ _ _ _); refine NeedK.mk (by (try simp only [castN]); omega) ?_)
    | ((with_reducible show DrawK _ _ _ _); refine DrawK.mk (by kernel_rfl) (by kernel_rfl) (by kernel_rfl) ?_)
    | ((with_reducible show CallK _ _ 27 _ _ _ _); refine CallK.lit [] (f27_at hns hc) c27 ⟨rfl, trivial⟩ rfl rfl ?_)
    | ((with_reducible show CallK _ _ 28 _ _ _ _); refine CallK.lit [] (f28_at hkn) c28 ⟨rfl, trivial⟩ rfl rfl ?_)
    | ((with_reducible show CallK _ _ 16 _ _ _ _); refine CallK.lit [] (f16_at hsm hp) c16 ⟨⟨rfl, rfl, rfl, rfl, trivial⟩, rfl, trivial⟩ rfl rfl ?_)
    | ((with_reducible show CallK _ _ 17 _ _ _ _); refine CallK.lit [] (f17_at hsm hq) c17 ⟨⟨rfl, rfl, rfl, rfl, trivial⟩, rfl, trivial⟩ rfl rfl ?_)) <;> ((with_reducible conv => whnf); (with_reducible conv => congr <;> reduce); repeat ((first | (with_reducible refine HaltK.mk ?_) | (with_reducible refine StopK.mk ?_)); (with_reducible conv => whnf); (with_reducible conv => congr <;> reduce)))
    | ((with_reducible show (_ ∧ _) ∧ _ ∧ _); refine ⟨⟨rfl, rfl⟩, ?_, ?_⟩ <;> (with_reducible conv => whnf) <;> repeat' (first | (with_reducible exact trivial) | (with_reducible refine And.intro ?_ ?_ <;> with_reducible conv => whnf))))
            · rw [hf (fun h => g5 (by rw [← hp]; exact h.2.1))]
              by_cases e : lo = n
              · repeat' (first
    | (first
    | ((with_reducible show IfK _ _ _ _); first | refine IfK.ff ?_ | refine IfK.tt ?_ | refine IfK.no (by first | rfl | assumption | exact nf (by assumption) | exact nt (by assumption) | ((try simp only [castN]); first | (simp [g3, g4, g5, e]; done) | (simp [g3, g4, g5, e]; omega))) ?_ | refine IfK.yes (by first | rfl | assumption | exact nf (by assumption) | exact nt (by assumption) | ((try simp only [castN]); first | (simp [g3, g4, g5, e]; done) | (simp [g3, g4, g5, e]; omega))) ?_)
    | ((with_reducible show NeedK _ _ _ _); refine NeedK.mk (by (try simp only [castN]); omega) ?_)
    | ((with_reducible show DrawK _ _ _ _); refine DrawK.mk (by kernel_rfl) (by kernel_rfl) (by kernel_rfl) ?_)
    | ((with_reducible show CallK _ _ 27 _ _ _ _); refine CallK.lit [] (f27_at hns hc) c27 ⟨rfl, trivial⟩ rfl rfl ?_)
    | ((with_reducible show CallK _ _ 16 _ _ _ _); refine CallK.lit [] (f16_at hsm hp) c16 ⟨⟨rfl, rfl, rfl, rfl, trivial⟩, rfl, trivial⟩ rfl rfl ?_)) <;> ((with_reducible conv => whnf); (with_reducible conv => congr <;> reduce); repeat ((first | (with_reducible refine HaltK.mk ?_) | (with_reducible refine StopK.mk ?_)); (with_reducible conv => whnf); (with_reducible conv => congr <;> reduce)))
    | ((with_reducible show (_ ∧ _) ∧ _ ∧ _); refine ⟨⟨rfl, rfl⟩, ?_, ?_⟩ <;> (with_reducible conv => whnf) <;> repeat' (first | (with_reducible exact trivial) | (with_reducible refine And.intro ?_ ?_ <;> with_reducible conv => whnf))))
              · have hkn := hlo.resolve_left e
                repeat' (first
    | (first
    | ((with_reducible show IfK _ _ _ _); first | refine IfK.ff ?_ | refine IfK.tt ?_ | refine IfK.no (by first | rfl | assumption | exact nf (by assumption) | exact nt (by assumption) | ((try simp only [castN]); first | (simp [g3, g4, g5, e]; done) | (simp [g3, g4, g5, e]; omega))) ?_ | refine IfK.yes (by first | rfl | assumption | exact nf (by assumption) | exact nt (by assumption) | ((try simp only [castN]); first | (simp [g3, g4, g5, e]; done) | (simp [g3, g4, g5, e]; omega))) ?_)
    | ((with_reducible show NeedK _ _ _ _); refine NeedK.mk (by (try simp only [castN]); omega) ?_)
    | ((with_reducible show DrawK _ _ _ _); refine DrawK.mk (by kernel_rfl) (by kernel_rfl) (by kernel_rfl) ?_)
    | ((with_reducible show CallK _ _ 27 _ _ _ _); refine CallK.lit [] (f27_at hns hc) c27 ⟨rfl, trivial⟩ rfl rfl ?_)
    | ((with_reducible show CallK _ _ 28 _ _ _ _); refine CallK.lit [] (f28_at hkn) c28 ⟨rfl, trivial⟩ rfl rfl ?_)
    | ((with_reducible show CallK _ _ 16 _ _ _ _); refine CallK.lit [] (f16_at hsm hp) c16 ⟨⟨rfl, rfl, rfl, rfl, trivial⟩, rfl, trivial⟩ rfl rfl ?_)) <;> ((with_reducible conv => whnf); (with_reducible conv => congr <;> reduce); repeat ((first | (with_reducible refine HaltK.mk ?_) | (with_reducible refine StopK.mk ?_)); (with_reducible conv => whnf); (with_reducible conv => congr <;> reduce)))
    | ((with_reducible show (_ ∧ _) ∧ _ ∧ _); refine ⟨⟨rfl, rfl⟩, ?_, ?_⟩ <;> (with_reducible conv => whnf) <;> repeat' (first | (with_reducible exact trivial) | (with_reducible refine And.intro ?_ ?_ <;> with_reducible conv => whnf))))
      · have e : ¬ lo = n := fun e => hlo (.inl e)
        have hkn : knowS lo = false := by cases h : knowS lo with | false => rfl | true => exact absurd (.inr h) hlo
        rw [hf (fun h => hlo (goodD_facts h.1).2.1)]
        repeat' (first
    | (first
    | ((with_reducible show IfK _ _ _ _); first | refine IfK.ff ?_ | refine IfK.tt ?_ | refine IfK.no (by first | rfl | assumption | exact nf (by assumption) | exact nt (by assumption) | ((try simp only [castN]); first | (simp [e]; done) | (simp [e]; omega))) ?_ | refine IfK.yes (by first | rfl | assumption | exact nf (by assumption) | exact nt (by assumption) | ((try simp only [castN]); first | (simp [e]; done) | (simp [e]; omega))) ?_)
    | ((with_reducible show NeedK _ _ _ _); refine NeedK.mk (by (try simp only [castN]); omega) ?_)
    | ((with_reducible show DrawK _ _ _ _); refine DrawK.mk (by kernel_rfl) (by kernel_rfl) (by kernel_rfl) ?_)
    | ((with_reducible show CallK _ _ 27 _ _ _ _); refine CallK.lit [] (f27_at hns hc) c27 ⟨rfl, trivial⟩ rfl rfl ?_)
    | ((with_reducible show CallK _ _ 28 _ _ _ _); refine CallK.lit [] (f28_at hkn) c28 ⟨rfl, trivial⟩ rfl rfl ?_)) <;> ((with_reducible conv => whnf); (with_reducible conv => congr <;> reduce); repeat ((first | (with_reducible refine HaltK.mk ?_) | (with_reducible refine StopK.mk ?_)); (with_reducible conv => whnf); (with_reducible conv => congr <;> reduce)))
    | ((with_reducible show (_ ∧ _) ∧ _ ∧ _); refine ⟨⟨rfl, rfl⟩, ?_, ?_⟩ <;> (with_reducible conv => whnf) <;> repeat' (first | (with_reducible exact trivial) | (with_reducible refine And.intro ?_ ?_ <;> with_reducible conv => whnf))))
  · have hkl : k = l.length := by simp only [hlm, decide_eq_false_iff_not] at h1; omega
    subst hkl
    have hdefs : defsB l = true := hok hno
    have hrw : r = waitsB l nx (-1) ws := by
      cases hb : waitsB l nx (-1) ws with
      | true => exact hrd.2 ⟨hdefs, hb, by omega, by omega⟩
      | false => cases r with | false => rfl | true => rw [(hrd.1 rfl).2.1] at hb; cases hb
    repeat' (first
    | (first
    | ((with_reducible show IfK _ _ _ _); first | refine IfK.ff ?_ | refine IfK.tt ?_ | refine IfK.no (by first | rfl | assumption | exact nf (by assumption) | exact nt (by assumption) | ((try simp only [castN]); first | (simp [h1]; done) | (simp [h1]; omega))) ?_ | refine IfK.yes (by first | rfl | assumption | exact nf (by assumption) | exact nt (by assumption) | ((try simp only [castN]); first | (simp [h1]; done) | (simp [h1]; omega))) ?_)
    | ((with_reducible show NeedK _ _ _ _); refine NeedK.mk (by (try simp only [castN]); omega) ?_)
    | ((with_reducible show DrawK _ _ _ _); refine DrawK.mk (by kernel_rfl) (by kernel_rfl) (by kernel_rfl) ?_)) <;> ((with_reducible conv => whnf); (with_reducible conv => congr <;> reduce); repeat ((first | (with_reducible refine HaltK.mk ?_) | (with_reducible refine StopK.mk ?_)); (with_reducible conv => whnf); (with_reducible conv => congr <;> reduce)))
    | ((with_reducible show (_ ∧ _) ∧ _ ∧ _); refine ⟨⟨rfl, rfl⟩, ?_, ?_⟩ <;> (with_reducible conv => whnf) <;> repeat' (first | (with_reducible exact trivial) | (with_reducible refine And.intro ?_ ?_ <;> with_reducible conv => whnf))))
    refine LoopK.use G G_good (fun (i : Nat × Int) => [(1, .ptr 10 0 0), (5, eInt i.2), (6, eInt i.1)]) (fun _ => [(10, .live 4 [eDesk ⟨l, ws, nx, bz⟩] false)]) (fun i => i.1 ≤ ws.length ∧ waitsB l nx i.2 (ws.drop i.1) = r) (fun i => ws.length - i.1) (0, -1) ⟨Nat.zero_le _, hrw.symm⟩
      ⟨⟨rfl, rfl⟩, ⟨⟨rfl, rfl⟩, rfl, rfl, trivial⟩, ⟨⟨rfl, rfl, rfl, rfl, trivial⟩, trivial⟩, trivial⟩ ?_
    rintro ⟨k, last⟩ ⟨hk, hI⟩
    simp only at hk hI
    ((with_reducible conv => whnf); (with_reducible conv => congr <;> reduce); repeat ((first | (with_reducible refine HaltK.mk ?_) | (with_reducible refine StopK.mk ?_)); (with_reducible conv => whnf); (with_reducible conv => congr <;> reduce)))
    refine IfK.mk (fun h2 => ?_) (fun h2 => ?_) <;> (try simp only [castN] at h2) <;> ((with_reducible conv => whnf); (with_reducible conv => congr <;> reduce); repeat ((first | (with_reducible refine HaltK.mk ?_) | (with_reducible refine StopK.mk ?_)); (with_reducible conv => whnf); (with_reducible conv => congr <;> reduce)))
    · simp only [hwm, decide_eq_true_eq] at h2
      have hk' : k < ws.length := by omega
      obtain ⟨⟨n, tk⟩, hx⟩ : ∃ a, ws[k]? = some a := ⟨_, List.getElem?_eq_getElem hk'⟩
      have hns : n.size ≤ 100000 := Nat.le_trans (hwn _ (List.mem_of_getElem? hx)) (by omega)
      rw [List.drop_eq_getElem_cons hk', (List.getElem?_eq_some_iff.1 hx).2, waitsB] at hI
      refine IdxK.mk k (eWait ⟨n, tk⟩) rfl (wait_get hx) ?_; ((with_reducible conv => whnf); (with_reducible conv => congr <;> reduce); repeat ((first | (with_reducible refine HaltK.mk ?_) | (with_reducible refine StopK.mk ?_)); (with_reducible conv => whnf); (with_reducible conv => congr <;> reduce)))
      obtain ⟨p, hp⟩ : ∃ p, posN l n = p := ⟨_, rfl⟩
      cases hc : customS n with
      | false =>
        rw [show r = false by rw [← hI]; unfold okW; simp [hc]]
        repeat' (first
    | (first
    | ((with_reducible show IfK _ _ _ _); first | refine IfK.ff ?_ | refine IfK.tt ?_ | refine IfK.no (by first | rfl | assumption | exact nf (by assumption) | exact nt (by assumption) | ((try simp only [castN]); first | (simp [hc]; done) | (simp [hc]; omega))) ?_ | refine IfK.yes (by first | rfl | assumption | exact nf (by assumption) | exact nt (by assumption) | ((try simp only [castN]); first | (simp [hc]; done) | (simp [hc]; omega))) ?_)
    | ((with_reducible show NeedK _ _ _ _); refine NeedK.mk (by (try simp only [castN]); omega) ?_)
    | ((with_reducible show DrawK _ _ _ _); refine DrawK.mk (by kernel_rfl) (by kernel_rfl) (by kernel_rfl) ?_)
    | ((with_reducible show CallK _ _ 27 _ _ _ _); refine CallK.lit [] (f27_at hns hc) c27 ⟨rfl, trivial⟩ rfl rfl ?_)) <;> ((with_reducible conv => whnf); (with_reducible conv => congr <;> reduce); repeat ((first | (with_reducible refine HaltK.mk ?_) | (with_reducible refine StopK.mk ?_)); (with_reducible conv => whnf); (with_reducible conv => congr <;> reduce)))
    | ((with_reducible show (_ ∧ _) ∧ _ ∧ _); refine ⟨⟨rfl, rfl⟩, ?_, ?_⟩ <;> (with_reducible conv => whnf) <;> repeat' (first | (with_reducible exact trivial) | (with_reducible refine And.intro ?_ ?_ <;> with_reducible conv => whnf))))
      | true =>
        by_cases g1 : p = -1
        · by_cases g2 : tk ≤ last
          · rw [show r = false by rw [← hI]; unfold okW; simp [show ¬ last < tk from by omega]]
            repeat' (first
    | (first
    | ((with_reducible show IfK _ _ _ _); first | refine IfK.ff ?_ | refine IfK.tt ?_ | refine IfK.no (by first | rfl | assumption | exact nf (by assumption) | exact nt (by assumption) | ((try simp only [castN]); first | (simp [g1, g2]; done) | (simp [g1, g2]; omega))) ?_ | refine IfK.yes (by first | rfl | assumption | exact nf (by assumption) | exact nt (by assumption) | ((try simp only [castN]); first | (simp [g1, g2]; done) | (simp [g1, g2]; omega))) ?_)
    | ((with_reducible show NeedK _ _ _ _); refine NeedK.mk (by (try simp only [castN]); omega) ?_)
    | ((with_reducible show DrawK _ _ _ _); refine DrawK.mk (by kernel_rfl) (by kernel_rfl) (by kernel_rfl) ?_)
    | ((with_reducible show CallK _ _ 27 _ _ _ _); refine CallK.lit [] (f27_at hns hc) c27 ⟨rfl, trivial⟩ rfl rfl ?_)
    | ((with_reducible show CallK _ _ 16 _ _ _ _); refine CallK.lit [] (f16_at hsm hp) c16 ⟨⟨rfl, rfl, rfl, rfl, trivial⟩, rfl, trivial⟩ rfl rfl ?_)) <;> ((with_reducible conv => whnf); (with_reducible conv => congr <;> reduce); repeat ((first | (with_reducible refine HaltK.mk ?_) | (with_reducible refine StopK.mk ?_)); (with_reducible conv => whnf); (with_reducible conv => congr <;> reduce)))
    | ((with_reducible show (_ ∧ _) ∧ _ ∧ _); refine ⟨⟨rfl, rfl⟩, ?_, ?_⟩ <;> (with_reducible conv => whnf) <;> repeat' (first | (with_reducible exact trivial) | (with_reducible refine And.intro ?_ ?_ <;> with_reducible conv => whnf))))
          · by_cases g3 : nx ≤ tk
            · rw [show r = false by rw [← hI]; unfold okW; simp [show ¬ tk < nx from by omega]]
              repeat' (first
    | (first
    | ((with_reducible show IfK _ _ _ _); first | refine IfK.ff ?_ | refine IfK.tt ?_ | refine IfK.no (by first | rfl | assumption | exact nf (by assumption) | exact nt (by assumption) | ((try simp only [castN]); first | (simp [g1, g2, g3]; done) | (simp [g1, g2, g3]; omega))) ?_ | refine IfK.yes (by first | rfl | assumption | exact nf (by assumption) | exact nt (by assumption) | ((try simp only [castN]); first | (simp [g1, g2, g3]; done) | (simp [g1, g2, g3]; omega))) ?_)
    | ((with_reducible show NeedK _ _ _ _); refine NeedK.mk (by (try simp only [castN]); omega) ?_)
    | ((with_reducible show DrawK _ _ _ _); refine DrawK.mk (by kernel_rfl) (by kernel_rfl) (by kernel_rfl) ?_)
    | ((with_reducible show CallK _ _ 27 _ _ _ _); refine CallK.lit [] (f27_at hns hc) c27 ⟨rfl, trivial⟩ rfl rfl ?_)
    | ((with_reducible show CallK _ _ 16 _ _ _ _); refine CallK.lit [] (f16_at hsm hp) c16 ⟨⟨rfl, rfl, rfl, rfl, trivial⟩, rfl, trivial⟩ rfl rfl ?_)) <;> ((with_reducible conv => whnf); (with_reducible conv => congr <;> reduce); repeat ((first | (with_reducible refine HaltK.mk ?_) | (with_reducible refine StopK.mk ?_)); (with_reducible conv => whnf); (with_reducible conv => congr <;> reduce)))
    | ((with_reducible show (_ ∧ _) ∧ _ ∧ _); refine ⟨⟨rfl, rfl⟩, ?_, ?_⟩ <;> (with_reducible conv => whnf) <;> repeat' (first | (with_reducible exact trivial) | (with_reducible refine And.intro ?_ ?_ <;> with_reducible conv => whnf))))
            · have hnext : waitsB l nx tk (ws.drop (k + 1)) = r := by
                rw [← hI]; unfold okW
                simp [hc, hp, g1, show last < tk from by omega, show tk < nx from by omega]
              repeat' (first
    | (first
    | ((with_reducible show IfK _ _ _ _); first | refine IfK.ff ?_ | refine IfK.tt ?_ | refine IfK.no (by first | rfl | assumption | exact nf (by assumption) | exact nt (by assumption) | ((try simp only [castN]); first | (simp [g1, g2, g3]; done) | (simp [g1, g2, g3]; omega))) ?_ | refine IfK.yes (by first | rfl | assumption | exact nf (by assumption) | exact nt (by assumption) | ((try simp only [castN]); first | (simp [g1, g2, g3]; done) | (simp [g1, g2, g3]; omega))) ?_)
    | ((with_reducible show NeedK _ _ _ _); refine NeedK.mk (by (try simp only [castN]); omega) ?_)
    | ((with_reducible show DrawK _ _ _ _); refine DrawK.mk (by kernel_rfl) (by kernel_rfl) (by kernel_rfl) ?_)
    | ((with_reducible show CallK _ _ 27 _ _ _ _); refine CallK.lit [] (f27_at hns hc) c27 ⟨rfl, trivial⟩ rfl rfl ?_)
    | ((with_reducible show CallK _ _ 16 _ _ _ _); refine CallK.lit [] (f16_at hsm hp) c16 ⟨⟨rfl, rfl, rfl, rfl, trivial⟩, rfl, trivial⟩ rfl rfl ?_)
    | ((with_reducible show NextK _ _); refine NextK.mk (k + 1, tk) ⟨by show k + 1 ≤ _; omega, hnext⟩ (by show ws.length - (k + 1) < ws.length - k; omega) ⟨⟨rfl, rfl⟩, ⟨⟨rfl, rfl⟩, rfl, by show ((k + 1 : Nat) : Int) = (k : Int) + 1; omega, trivial⟩, ⟨⟨rfl, rfl, rfl, rfl, trivial⟩, trivial⟩, trivial⟩)) <;> ((with_reducible conv => whnf); (with_reducible conv => congr <;> reduce); repeat ((first | (with_reducible refine HaltK.mk ?_) | (with_reducible refine StopK.mk ?_)); (with_reducible conv => whnf); (with_reducible conv => congr <;> reduce)))
    | ((with_reducible show (_ ∧ _) ∧ _ ∧ _); refine ⟨⟨rfl, rfl⟩, ?_, ?_⟩ <;> (with_reducible conv => whnf) <;> repeat' (first | (with_reducible exact trivial) | (with_reducible refine And.intro ?_ ?_ <;> with_reducible conv => whnf))))
        · rw [show r = false by rw [← hI]; unfold okW; simp [hp, g1]]
          repeat' (first
    | (first
    | ((with_reducible show IfK _ _ _ _); first | refine IfK.ff ?_ | refine IfK.tt ?_ | refine IfK.no (by first | rfl | assumption | exact nf (by assumption) | exact nt (by assumption) | ((try simp only [castN]); first | (simp [g1]; done) | (simp [g1]; omega))) ?_ | refine IfK.yes (by first | rfl | assumption | exact nf (by assumption) | exact nt (by assumption) | ((try simp only [castN]); first | (simp [g1]; done) | (simp [g1]; omega))) ?_)
    | ((with_reducible show NeedK _ _ _ _); refine NeedK.mk (by (try simp only [castN]); omega) ?_)
    | ((with_reducible show DrawK _ _ _ _); refine DrawK.mk (by kernel_rfl) (by kernel_rfl) (by kernel_rfl) ?_)
    | ((with_reducible show CallK _ _ 27 _ _ _ _); refine CallK.lit [] (f27_at hns hc) c27 ⟨rfl, trivial⟩ rfl rfl ?_)
    | ((with_reducible show CallK _ _ 16 _ _ _ _); refine CallK.lit [] (f16_at hsm hp) c16 ⟨⟨rfl, rfl, rfl, rfl, trivial⟩, rfl, trivial⟩ rfl rfl ?_)) <;> ((with_reducible conv => whnf); (with_reducible conv => congr <;> reduce); repeat ((first | (with_reducible refine HaltK.mk ?_) | (with_reducible refine StopK.mk ?_)); (with_reducible conv => whnf); (with_reducible conv => congr <;> reduce)))
    | ((with_reducible show (_ ∧ _) ∧ _ ∧ _); refine ⟨⟨rfl, rfl⟩, ?_, ?_⟩ <;> (with_reducible conv => whnf) <;> repeat' (first | (with_reducible exact trivial) | (with_reducible refine And.intro ?_ ?_ <;> with_reducible conv => whnf))))
    · have hkl : k = ws.length := by simp only [hwm, decide_eq_false_iff_not] at h2; omega
      subst hkl
      rw [List.drop_length] at hI
      rw [← hI, show waitsB l nx last [] = true from by simp [waitsB]]
      repeat' (first
    | (first
    | ((with_reducible show IfK _ _ _ _); first | refine IfK.ff ?_ | refine IfK.tt ?_ | refine IfK.no (by first | rfl | assumption | exact nf (by assumption) | exact nt (by assumption) | ((try simp only [castN]); first | (simp [h2]; done) | (simp [h2]; omega))) ?_ | refine IfK.yes (by first | rfl | assumption | exact nf (by assumption) | exact nt (by assumption) | ((try simp only [castN]); first | (simp [h2]; done) | (simp [h2]; omega))) ?_)
    | ((with_reducible show NeedK _ _ _ _); refine NeedK.mk (by (try simp only [castN]); omega) ?_)
    | ((with_reducible show DrawK _ _ _ _); refine DrawK.mk (by kernel_rfl) (by kernel_rfl) (by kernel_rfl) ?_)) <;> ((with_reducible conv => whnf); (with_reducible conv => congr <;> reduce); repeat ((first | (with_reducible refine HaltK.mk ?_) | (with_reducible refine StopK.mk ?_)); (with_reducible conv => whnf); (with_reducible conv => congr <;> reduce)))
    | ((with_reducible show (_ ∧ _) ∧ _ ∧ _); refine ⟨⟨rfl, rfl⟩, ?_, ?_⟩ <;> (with_reducible conv => whnf) <;> repeat' (first | (with_reducible exact trivial) | (with_reducible refine And.intro ?_ ?_ <;> with_reducible conv => whnf))))
end Go.Proofs.DeskD
end
section
set_option linter.unusedSimpArgs false
set_option linter.unusedVariables false
namespace Go.Proofs.DeskD
open Go.Am Go.RowKit Go.Lib
set_option maxRecDepth 100000
theorem f10_at {d : DeskM} {b : Bool} (h : ShortD d) (hb : rightD d = b) : FnOK Tryd.prog 10 [] [eDesk d] [] (eBool b) := by have := f10_ok d h; rwa [hb] at this
/-- ref.Find -/
theorem f15_ok (d : DeskM) (h : SmallD d) (a b : ByteArray) : FnOK Tryd.prog 15 [] [eDesk d, eStr a, eStr b] [] (eInt (findR d.defs a b)) := by
  have hl := h.defs
  unfold findR
  obtain ⟨l, ws, nx, bz⟩ := d
  simp only at hl ⊢
  have hlm : (l.map oDef).length = l.length := List.length_map ..
  refine FnOK.startC (rvs := [.tmp 6]) G G_good Tryd.func15 rfl Tryd.ntmps15 rfl rfl ?_; delta List.toArray; ((with_reducible conv => whnf); (with_reducible conv => congr <;> reduce); repeat ((first | (with_reducible refine HaltK.mk ?_) | (with_reducible refine StopK.mk ?_)); (with_reducible conv => whnf); (with_reducible conv => congr <;> reduce)))
  refine LoopK.use G G_good (fun (k : Nat) => [(1, eStr a), (2, eStr b), (3, .ptr 30 0 0), (7, eInt k)]) (fun _ => [(30, .live 4 [eDesk ⟨l, ws, nx, bz⟩] false)]) (fun k => k ≤ l.length ∧ ∀ (j : Nat) (y : DefM), j < k → l[j]? = some y → fitL a a y = false) (fun k => l.length - k) 0 ⟨Nat.zero_le _, fun j b hj => by omega⟩
    ⟨⟨rfl, rfl⟩, ⟨rfl, rfl, ⟨rfl, rfl⟩, rfl, trivial⟩, ⟨⟨rfl, rfl, rfl, rfl, trivial⟩, trivial⟩, trivial⟩ ?_
  intro k ⟨hk, hno⟩
  ((with_reducible conv => whnf); (with_reducible conv => congr <;> reduce); repeat ((first | (with_reducible refine HaltK.mk ?_) | (with_reducible refine StopK.mk ?_)); (with_reducible conv => whnf); (with_reducible conv => congr <;> reduce)))
  refine IfK.mk (fun h1 => ?_) (fun h1 => ?_) <;> (try simp only [castN] at h1) <;> ((with_reducible conv => whnf); (with_reducible conv => congr <;> reduce); repeat ((first | (with_reducible refine HaltK.mk ?_) | (with_reducible refine StopK.mk ?_)); (with_reducible conv => whnf); (with_reducible conv => congr <;> reduce)))
  · simp only [hlm, decide_eq_true_eq] at h1
    have hk' : k < l.length := by omega
    obtain ⟨⟨n, lo, c⟩, hx⟩ : ∃ a, l[k]? = some a := ⟨_, List.getElem?_eq_getElem hk'⟩
    refine IdxK.mk k (eDef ⟨n, lo, c⟩) rfl (def_get hx) ?_; ((with_reducible conv => whnf); (with_reducible conv => congr <;> reduce); repeat ((first | (with_reducible refine HaltK.mk ?_) | (with_reducible refine StopK.mk ?_)); (with_reducible conv => whnf); (with_reducible conv => congr <;> reduce)))
    by_cases e : lo = a
    · by_cases e2 : n = a
      · have hp : ixI (fitL a a) l = k := ixI_first hx (by unfold fitL; simp [e, e2]) hno
        rw [hp, if_pos (by omega)]
        repeat' (first
    | (first
    | ((with_reducible show IfK _ _ _ _); first | refine IfK.ff ?_ | refine IfK.tt ?_ | refine IfK.no (by first | rfl | assumption | exact nf (by assumption) | exact nt (by assumption) | ((try simp only [castN]); first | (simp [e, e2]; done) | (simp [e, e2]; omega))) ?_ | refine IfK.yes (by first | rfl | assumption | exact nf (by assumption) | exact nt (by assumption) | ((try simp only [castN]); first | (simp [e, e2]; done) | (simp [e, e2]; omega))) ?_)
    | ((with_reducible show NeedK _ _ _ _); refine NeedK.mk (by (try simp only [castN]); omega) ?_)
    | ((with_reducible show DrawK _ _ _ _); refine DrawK.mk (by kernel_rfl) (by kernel_rfl) (by kernel_rfl) ?_)
    | ((with_reducible show IdxK _ _ _ _ _); refine IdxK.mk k (eDef ⟨n, lo, c⟩) rfl (def_get hx) ?_)) <;> ((with_reducible conv => whnf); (with_reducible conv => congr <;> reduce); repeat ((first | (with_reducible refine HaltK.mk ?_) | (with_reducible refine StopK.mk ?_)); (with_reducible conv => whnf); (with_reducible conv => congr <;> reduce)))
    | ((with_reducible show (_ ∧ _) ∧ _ ∧ _); refine ⟨⟨rfl, rfl⟩, ?_, ?_⟩ <;> (with_reducible conv => whnf) <;> repeat' (first | (with_reducible exact trivial) | (with_reducible refine And.intro ?_ ?_ <;> with_reducible conv => whnf))))
      · repeat' (first
    | (first
    | ((with_reducible show IfK _ _ _ _); first | refine IfK.ff ?_ | refine IfK.tt ?_ | refine IfK.no (by first | rfl | assumption | exact nf (by assumption) | exact nt (by assumption) | ((try simp only [castN]); first | (simp [e, e2]; done) | (simp [e, e2]; omega))) ?_ | refine IfK.yes (by first | rfl | assumption | exact nf (by assumption) | exact nt (by assumption) | ((try simp only [castN]); first | (simp [e, e2]; done) | (simp [e, e2]; omega))) ?_)
    | ((with_reducible show NeedK _ _ _ _); refine NeedK.mk (by (try simp only [castN]); omega) ?_)
    | ((with_reducible show DrawK _ _ _ _); refine DrawK.mk (by kernel_rfl) (by kernel_rfl) (by kernel_rfl) ?_)
    | ((with_reducible show IdxK _ _ _ _ _); refine IdxK.mk k (eDef ⟨n, lo, c⟩) rfl (def_get hx) ?_)
    | ((with_reducible show NextK _ _); refine NextK.mk (k + 1) ⟨by omega, upto_succ (P := fun y => fitL a a y = false) hno hx (by unfold fitL; simp [e2])⟩ (by omega) ⟨⟨rfl, rfl⟩, ⟨rfl, rfl, ⟨rfl, rfl⟩, by show ((k + 1 : Nat) : Int) = (k : Int) + 1; omega, trivial⟩, ⟨⟨rfl, rfl, rfl, rfl, trivial⟩, trivial⟩, trivial⟩)) <;> ((with_reducible conv => whnf); (with_reducible conv => congr <;> reduce); repeat ((first | (with_reducible refine HaltK.mk ?_) | (with_reducible refine StopK.mk ?_)); (with_reducible conv => whnf); (with_reducible conv => congr <;> reduce)))
    | ((with_reducible show (_ ∧ _) ∧ _ ∧ _); refine ⟨⟨rfl, rfl⟩, ?_, ?_⟩ <;> (with_reducible conv => whnf) <;> repeat' (first | (with_reducible exact trivial) | (with_reducible refine And.intro ?_ ?_ <;> with_reducible conv => whnf))))
    · repeat' (first
    | (first
    | ((with_reducible show IfK _ _ _ _); first | refine IfK.ff ?_ | refine IfK.tt ?_ | refine IfK.no (by first | rfl | assumption | exact nf (by assumption) | exact nt (by assumption) | ((try simp only [castN]); first | (simp [e]; done) | (simp [e]; omega))) ?_ | refine IfK.yes (by first | rfl | assumption | exact nf (by assumption) | exact nt (by assumption) | ((try simp only [castN]); first | (simp [e]; done) | (simp [e]; omega))) ?_)
    | ((with_reducible show NeedK _ _ _ _); refine NeedK.mk (by (try simp only [castN]); omega) ?_)
    | ((with_reducible show DrawK _ _ _ _); refine DrawK.mk (by kernel_rfl) (by kernel_rfl) (by kernel_rfl) ?_)
    | ((with_reducible show NextK _ _); refine NextK.mk (k + 1) ⟨by omega, upto_succ (P := fun y => fitL a a y = false) hno hx (by unfold fitL; simp [e])⟩ (by omega) ⟨⟨rfl, rfl⟩, ⟨rfl, rfl, ⟨rfl, rfl⟩, by show ((k + 1 : Nat) : Int) = (k : Int) + 1; omega, trivial⟩, ⟨⟨rfl, rfl, rfl, rfl, trivial⟩, trivial⟩, trivial⟩)) <;> ((with_reducible conv => whnf); (with_reducible conv => congr <;> reduce); repeat ((first | (with_reducible refine HaltK.mk ?_) | (with_reducible refine StopK.mk ?_)); (with_reducible conv => whnf); (with_reducible conv => congr <;> reduce)))
    | ((with_reducible show (_ ∧ _) ∧ _ ∧ _); refine ⟨⟨rfl, rfl⟩, ?_, ?_⟩ <;> (with_reducible conv => whnf) <;> repeat' (first | (with_reducible exact trivial) | (with_reducible refine And.intro ?_ ?_ <;> with_reducible conv => whnf))))
  · have hkl : k = l.length := by simp only [hlm, decide_eq_false_iff_not] at h1; omega
    subst hkl
    have hp : ixI (fitL a a) l = -1 := ixI_end hno
    rw [hp, if_neg (by omega)]
    repeat' (first
    | (first
    | ((with_reducible show IfK _ _ _ _); first | refine IfK.ff ?_ | refine IfK.tt ?_ | refine IfK.no (by first | rfl | assumption | exact nf (by assumption) | exact nt (by assumption) | ((try simp only [castN]); first | (simp [hlm]; done) | (simp [hlm]; omega))) ?_ | refine IfK.yes (by first | rfl | assumption | exact nf (by assumption) | exact nt (by assumption) | ((try simp only [castN]); first | (simp [hlm]; done) | (simp [hlm]; omega))) ?_)
    | ((with_reducible show NeedK _ _ _ _); refine NeedK.mk (by (try simp only [castN]); omega) ?_)
    | ((with_reducible show DrawK _ _ _ _); refine DrawK.mk (by kernel_rfl) (by kernel_rfl) (by kernel_rfl) ?_)) <;> ((with_reducible conv => whnf); (with_reducible conv => congr <;> reduce); repeat ((first | (with_reducible refine HaltK.mk ?_) | (with_reducible refine StopK.mk ?_)); (with_reducible conv => whnf); (with_reducible conv => congr <;> reduce)))
    | ((with_reducible show (_ ∧ _) ∧ _ ∧ _); refine ⟨⟨rfl, rfl⟩, ?_, ?_⟩ <;> (with_reducible conv => whnf) <;> repeat' (first | (with_reducible exact trivial) | (with_reducible refine And.intro ?_ ?_ <;> with_reducible conv => whnf))))
    refine LoopK.use G G_good (fun (k : Nat) => [(1, eStr a), (2, eStr b), (3, .ptr 30 0 0), (8, eInt k)]) (fun _ => [(30, .live 4 [eDesk ⟨l, ws, nx, bz⟩] false)]) (fun k => k ≤ l.length ∧ ∀ (j : Nat) (y : DefM), j < k → l[j]? = some y → fitL a b y = false) (fun k => l.length - k) 0 ⟨Nat.zero_le _, fun j b hj => by omega⟩
      ⟨⟨rfl, rfl⟩, ⟨rfl, rfl, ⟨rfl, rfl⟩, rfl, trivial⟩, ⟨⟨rfl, rfl, rfl, rfl, trivial⟩, trivial⟩, trivial⟩ ?_
    intro k ⟨hk, hno⟩
    ((with_reducible conv => whnf); (with_reducible conv => congr <;> reduce); repeat ((first | (with_reducible refine HaltK.mk ?_) | (with_reducible refine StopK.mk ?_)); (with_reducible conv => whnf); (with_reducible conv => congr <;> reduce)))
    refine IfK.mk (fun h2 => ?_) (fun h2 => ?_) <;> (try simp only [castN] at h2) <;> ((with_reducible conv => whnf); (with_reducible conv => congr <;> reduce); repeat ((first | (with_reducible refine HaltK.mk ?_) | (with_reducible refine StopK.mk ?_)); (with_reducible conv => whnf); (with_reducible conv => congr <;> reduce)))
    · simp only [hlm, decide_eq_true_eq] at h2
      have hk' : k < l.length := by omega
      obtain ⟨⟨n, lo, c⟩, hx⟩ : ∃ a, l[k]? = some a := ⟨_, List.getElem?_eq_getElem hk'⟩
      refine IdxK.mk k (eDef ⟨n, lo, c⟩) rfl (def_get hx) ?_; ((with_reducible conv => whnf); (with_reducible conv => congr <;> reduce); repeat ((first | (with_reducible refine HaltK.mk ?_) | (with_reducible refine StopK.mk ?_)); (with_reducible conv => whnf); (with_reducible conv => congr <;> reduce)))
      by_cases e : lo = a
      · by_cases e2 : n = b
        · have hp : ixI (fitL a b) l = k := ixI_first hx (by unfold fitL; simp [e, e2]) hno
          rw [hp]
          repeat' (first
    | (first
    | ((with_reducible show IfK _ _ _ _); first | refine IfK.ff ?_ | refine IfK.tt ?_ | refine IfK.no (by first | rfl | assumption | exact nf (by assumption) | exact nt (by assumption) | ((try simp only [castN]); first | (simp [e, e2]; done) | (simp [e, e2]; omega))) ?_ | refine IfK.yes (by first | rfl | assumption | exact nf (by assumption) | exact nt (by assumption) | ((try simp only [castN]); first | (simp [e, e2]; done) | (simp [e, e2]; omega))) ?_)
    | ((with_reducible show NeedK _ _ _ _); refine NeedK.mk (by (try simp only [castN]); omega) ?_)
    | ((with_reducible show DrawK _ _ _ _); refine DrawK.mk (by kernel_rfl) (by kernel_rfl) (by kernel_rfl) ?_)
    | ((with_reducible show IdxK _ _ _ _ _); refine IdxK.mk k (eDef ⟨n, lo, c⟩) rfl (def_get hx) ?_)) <;> ((with_reducible conv => whnf); (with_reducible conv => congr <;> reduce); repeat ((first | (with_reducible refine HaltK.mk ?_) | (with_reducible refine StopK.mk ?_)); (with_reducible conv => whnf); (with_reducible conv => congr <;> reduce)))
    | ((with_reducible show (_ ∧ _) ∧ _ ∧ _); refine ⟨⟨rfl, rfl⟩, ?_, ?_⟩ <;> (with_reducible conv => whnf) <;> repeat' (first | (with_reducible exact trivial) | (with_reducible refine And.intro ?_ ?_ <;> with_reducible conv => whnf))))
        · repeat' (first
    | (first
    | ((with_reducible show IfK _ _ _ _); first | refine IfK.ff ?_ | refine IfK.tt ?_ | refine IfK.no (by first | rfl | assumption | exact nf (by assumption) | exact nt (by assumption) | ((try simp only [castN]); first | (simp [e, e2]; done) | (simp [e, e2]; omega))) ?_ | refine IfK.yes (by first | rfl | assumption | exact nf (by assumption) | exact nt (by assumption) | ((try simp only [castN]); first | (simp [e, e2]; done) | (simp [e, e2]; omega))) ?_)
    | ((with_reducible show NeedK _ _ _ _); refine NeedK.mk (by (try simp only [castN]); omega) ?_)
    | ((with_reducible show DrawK _ _ _ _); refine DrawK.mk (by kernel_rfl) (by kernel_rfl) (by kernel_rfl) ?_)
    | ((with_reducible show IdxK _ _ _ _ _); refine IdxK.mk k (eDef ⟨n, lo, c⟩) rfl (def_get hx) ?_)
    | ((with_reducible show NextK _ _); refine NextK.mk (k + 1) ⟨by omega, upto_succ (P := fun y => fitL a b y = false) hno hx (by unfold fitL; simp [e2])⟩ (by omega) ⟨⟨rfl, rfl⟩, ⟨rfl, rfl, ⟨rfl, rfl⟩, by show ((k + 1 : Nat) : Int) = (k : Int) + 1; omega, trivial⟩, ⟨⟨rfl, rfl, rfl, rfl, trivial⟩, trivial⟩, trivial⟩)) <;> ((with_reducible conv => whnf); (with_reducible conv => congr <;> reduce); repeat ((first | (with_reducible refine HaltK.mk ?_) | (with_reducible refine StopK.mk ?_)); (with_reducible conv => whnf); (with_reducible conv => congr <;> reduce)))
    | ((with_reducible show (_ ∧ _) ∧ _ ∧ _); refine ⟨⟨rfl, rfl⟩, ?_, ?_⟩ <;> (with_reducible conv => whnf) <;> repeat' (first | (with_reducible exact trivial) | (with_reducible refine And.intro ?_ ?_ <;> with_reducible conv => whnf))))
      · repeat' (first
    | (first
    | ((with_reducible show IfK _ _ _ _); first | refine IfK.ff ?_ | refine IfK.tt ?_ | refine IfK.no (by first | rfl | assumption | exact nf (by assumption) | exact nt (by assumption) | ((try simp only [castN]); first | (simp [e]; done) | (simp [e]; omega))) ?_ | refine IfK.yes (by first | rfl | assumption | exact nf (by assumption) | exact nt (by assumption) | ((try simp only [castN]); first | (simp [e]; done) | (simp [e]; omega))) ?_)
    | ((with_reducible show NeedK _ _ _ _); refine NeedK.mk (by (try simp only [castN]); omega) ?_)
    | ((with_reducible show DrawK _ _ _ _); refine DrawK.mk (by kernel_rfl) (by kernel_rfl) (by kernel_rfl) ?_)
    | ((with_reducible show NextK _ _); refine NextK.mk (k + 1) ⟨by omega, upto_succ (P := fun y => fitL a b y = false) hno hx (by unfold fitL; simp [e])⟩ (by omega) ⟨⟨rfl, rfl⟩, ⟨rfl, rfl, ⟨rfl, rfl⟩, by show ((k + 1 : Nat) : Int) = (k : Int) + 1; omega, trivial⟩, ⟨⟨rfl, rfl, rfl, rfl, trivial⟩, trivial⟩, trivial⟩)) <;> ((with_reducible conv => whnf); (with_reducible conv => congr <;> reduce); repeat ((first | (with_reducible refine HaltK.mk ?_) | (with_reducible refine StopK.mk ?_)); (with_reducible conv => whnf); (with_reducible conv => congr <;> reduce)))
    | ((with_reducible show (_ ∧ _) ∧ _ ∧ _); refine ⟨⟨rfl, rfl⟩, ?_, ?_⟩ <;> (with_reducible conv => whnf) <;> repeat' (first | (with_reducible exact trivial) | (with_reducible refine And.intro ?_ ?_ <;> with_reducible conv => whnf))))
    · have hkl : k = l.length := by simp only [hlm, decide_eq_false_iff_not] at h2; omega
      subst hkl
      have hp2 : ixI (fitL a b) l = -1 := ixI_end hno
      rw [hp2]
      repeat' (first
    | (first
    | ((with_reducible show IfK _ _ _ _); first | refine IfK.ff ?_ | refine IfK.tt ?_ | refine IfK.no (by first | rfl | assumption | exact nf (by assumption) | exact nt (by assumption) | ((try simp only [castN]); first | (simp [hlm]; done) | (simp [hlm]; omega))) ?_ | refine IfK.yes (by first | rfl | assumption | exact nf (by assumption) | exact nt (by assumption) | ((try simp only [castN]); first | (simp [hlm]; done) | (simp [hlm]; omega))) ?_)
    | ((with_reducible show NeedK _ _ _ _); refine NeedK.mk (by (try simp only [castN]); omega) ?_)
    | ((with_reducible show DrawK _ _ _ _); refine DrawK.mk (by kernel_rfl) (by kernel_rfl) (by kernel_rfl) ?_)) <;> ((with_reducible conv => whnf); (with_reducible conv => congr <;> reduce); repeat ((first | (with_reducible refine HaltK.mk ?_) | (with_reducible refine StopK.mk ?_)); (with_reducible conv => whnf); (with_reducible conv => congr <;> reduce)))
    | ((with_reducible show (_ ∧ _) ∧ _ ∧ _); refine ⟨⟨rfl, rfl⟩, ?_, ?_⟩ <;> (with_reducible conv => whnf) <;> repeat' (first | (with_reducible exact trivial) | (with_reducible refine And.intro ?_ ?_ <;> with_reducible conv => whnf))))
set_option maxHeartbeats 16000000 in
/-- ref.May -/
theorem f31_ok (d : DeskM) (h : ShortD d) (k : Int) (s base : ByteArray) (c : Int) (hs : s.size ≤ 100000) : FnOK Tryd.prog 31 [] [eDesk d, eInt k, eStr s, eStr base, eInt c] [] (eInt (mayD d k s base c)) := by
  have hsm := h.small
  obtain ⟨r, hr⟩ : ∃ r, rightD d = r := ⟨_, rfl⟩
  obtain ⟨p, hp⟩ : ∃ p, posN d.defs s = p := ⟨_, rfl⟩
  obtain ⟨q, hq⟩ : ∃ q, posC d.defs c = q := ⟨_, rfl⟩
  have hpc : p = -1 ∨ 0 ≤ p := by
    rcases ixI_cases (hasN s) d.defs with ⟨a, _⟩ | ⟨n, _, a, _⟩
    · exact .inl (by rw [← hp]; exact a)
    · exact .inr (by rw [← hp]; unfold posN; omega)
  have hqc : q = -1 ∨ 0 ≤ q := by
    rcases ixI_cases (hasC c) d.defs with ⟨a, _⟩ | ⟨n, _, a, _⟩
    · exact .inl (by rw [← hq]; exact a)
    · exact .inr (by rw [← hq]; unfold posC; omega)
  obtain ⟨l, ws, nx, bz⟩ := d
  refine FnOK.startC (rvs := [.tmp 10]) G G_good Tryd.func31 rfl Tryd.ntmps31 rfl rfl ?_; delta List.toArray; ((with_reducible conv => whnf); (with_reducible conv => congr <;> reduce); repeat ((first | (with_reducible refine HaltK.mk ?_) | (with_reducible refine StopK.mk ?_)); (with_reducible conv => whnf); (with_reducible conv => congr <;> reduce)))
  refine CallK.lit [] (f10_at h hr) c10 ⟨⟨rfl, rfl, rfl, rfl, trivial⟩, trivial⟩ rfl rfl ?_; ((with_reducible conv => whnf); (with_reducible conv => congr <;> reduce); repeat ((first | (with_reducible refine HaltK.mk ?_) | (with_reducible refine StopK.mk ?_)); (with_reducible conv => whnf); (with_reducible conv => congr <;> reduce)))
  cases r with
  | false =>
    rw [may1 (.inl hr)]
    repeat' (first
    | (first
    | ((with_reducible show IfK _ _ _ _); first | refine IfK.ff ?_ | refine IfK.tt ?_ | refine IfK.no (by first | rfl | assumption | exact nf (by assumption) | exact nt (by assumption) | ((try simp only [castN]); first | (simp [hr]; done) | (simp [hr]; omega))) ?_ | refine IfK.yes (by first | rfl | assumption | exact nf (by assumption) | exact nt (by assumption) | ((try simp only [castN]); first | (simp [hr]; done) | (simp [hr]; omega))) ?_)
    | ((with_reducible show NeedK _ _ _ _); refine NeedK.mk (by (try simp only [castN]); omega) ?_)
    | ((with_reducible show DrawK _ _ _ _); refine DrawK.mk (by kernel_rfl) (by kernel_rfl) (by kernel_rfl) ?_)) <;> ((with_reducible conv => whnf); (with_reducible conv => congr <;> reduce); repeat ((first | (with_reducible refine HaltK.mk ?_) | (with_reducible refine StopK.mk ?_)); (with_reducible conv => whnf); (with_reducible conv => congr <;> reduce)))
    | ((with_reducible show (_ ∧ _) ∧ _ ∧ _); refine ⟨⟨rfl, rfl⟩, ?_, ?_⟩ <;> (with_reducible conv => whnf) <;> repeat' (first | (with_reducible exact trivial) | (with_reducible refine And.intro ?_ ?_ <;> with_reducible conv => whnf))))
  | true =>
    by_cases g2 : c < 0
    · rw [may1 (.inr (.inl g2))]
      repeat' (first
    | (first
    | ((with_reducible show IfK _ _ _ _); first | refine IfK.ff ?_ | refine IfK.tt ?_ | refine IfK.no (by first | rfl | assumption | exact nf (by assumption) | exact nt (by assumption) | ((try simp only [castN]); first | (simp [g2]; done) | (simp [g2]; omega))) ?_ | refine IfK.yes (by first | rfl | assumption | exact nf (by assumption) | exact nt (by assumption) | ((try simp only [castN]); first | (simp [g2]; done) | (simp [g2]; omega))) ?_)
    | ((with_reducible show NeedK _ _ _ _); refine NeedK.mk (by (try simp only [castN]); omega) ?_)
    | ((with_reducible show DrawK _ _ _ _); refine DrawK.mk (by kernel_rfl) (by kernel_rfl) (by kernel_rfl) ?_)) <;> ((with_reducible conv => whnf); (with_reducible conv => congr <;> reduce); repeat ((first | (with_reducible refine HaltK.mk ?_) | (with_reducible refine StopK.mk ?_)); (with_reducible conv => whnf); (with_reducible conv => congr <;> reduce)))
    | ((with_reducible show (_ ∧ _) ∧ _ ∧ _); refine ⟨⟨rfl, rfl⟩, ?_, ?_⟩ <;> (with_reducible conv => whnf) <;> repeat' (first | (with_reducible exact trivial) | (with_reducible refine And.intro ?_ ?_ <;> with_reducible conv => whnf))))
    · by_cases g3 : k ≤ c
      · rw [may1 (.inr (.inr (.inl g3)))]
        repeat' (first
    | (first
    | ((with_reducible show IfK _ _ _ _); first | refine IfK.ff ?_ | refine IfK.tt ?_ | refine IfK.no (by first | rfl | assumption | exact nf (by assumption) | exact nt (by assumption) | ((try simp only [castN]); first | (simp [g2, g3]; done) | (simp [g2, g3]; omega))) ?_ | refine IfK.yes (by first | rfl | assumption | exact nf (by assumption) | exact nt (by assumption) | ((try simp only [castN]); first | (simp [g2, g3]; done) | (simp [g2, g3]; omega))) ?_)
    | ((with_reducible show NeedK _ _ _ _); refine NeedK.mk (by (try simp only [castN]); omega) ?_)
    | ((with_reducible show DrawK _ _ _ _); refine DrawK.mk (by kernel_rfl) (by kernel_rfl) (by kernel_rfl) ?_)) <;> ((with_reducible conv => whnf); (with_reducible conv => congr <;> reduce); repeat ((first | (with_reducible refine HaltK.mk ?_) | (with_reducible refine StopK.mk ?_)); (with_reducible conv => whnf); (with_reducible conv => congr <;> reduce)))
    | ((with_reducible show (_ ∧ _) ∧ _ ∧ _); refine ⟨⟨rfl, rfl⟩, ?_, ?_⟩ <;> (with_reducible conv => whnf) <;> repeat' (first | (with_reducible exact trivial) | (with_reducible refine And.intro ?_ ?_ <;> with_reducible conv => whnf))))
      · by_cases g4 : 12 ≤ c
        · rw [may1 (.inr (.inr (.inr g4)))]
          have g4' : 11 < c := by omega
          repeat' (first
    | (first
    | ((with_reducible show IfK _ _ _ _); first | refine IfK.ff ?_ | refine IfK.tt ?_ | refine IfK.no (by first | rfl | assumption | exact nf (by assumption) | exact nt (by assumption) | ((try simp only [castN]); first | (simp [g2, g3, g4']; done) | (simp [g2, g3, g4']; omega))) ?_ | refine IfK.yes (by first | rfl | assumption | exact nf (by assumption) | exact nt (by assumption) | ((try simp only [castN]); first | (simp [g2, g3, g4']; done) | (simp [g2, g3, g4']; omega))) ?_)
    | ((with_reducible show NeedK _ _ _ _); refine NeedK.mk (by (try simp only [castN]); omega) ?_)
    | ((with_reducible show DrawK _ _ _ _); refine DrawK.mk (by kernel_rfl) (by kernel_rfl) (by kernel_rfl) ?_)) <;> ((with_reducible conv => whnf); (with_reducible conv => congr <;> reduce); repeat ((first | (with_reducible refine HaltK.mk ?_) | (with_reducible refine StopK.mk ?_)); (with_reducible conv => whnf); (with_reducible conv => congr <;> reduce)))
    | ((with_reducible show (_ ∧ _) ∧ _ ∧ _); refine ⟨⟨rfl, rfl⟩, ?_, ?_⟩ <;> (with_reducible conv => whnf) <;> repeat' (first | (with_reducible exact trivial) | (with_reducible refine And.intro ?_ ?_ <;> with_reducible conv => whnf))))
        · have g4' : ¬ 11 < c := by omega
          have hR : MayR ⟨l, ws, nx, bz⟩ k c := ⟨hr, by omega, by omega, by omega⟩
          cases hc : customS s with
          | false =>
            rw [may4 hR hc]
            repeat' (first
    | (first
    | ((with_reducible show IfK _ _ _ _); first | refine IfK.ff ?_ | refine IfK.tt ?_ | refine IfK.no (by first | rfl | assumption | exact nf (by assumption) | exact nt (by assumption) | ((try simp only [castN]); first | (simp [g2, g3, g4']; done) | (simp [g2, g3, g4']; omega))) ?_ | refine IfK.yes (by first | rfl | assumption | exact nf (by assumption) | exact nt (by assumption) | ((try simp only [castN]); first | (simp [g2, g3, g4']; done) | (simp [g2, g3, g4']; omega))) ?_)
    | ((with_reducible show NeedK _ _ _ _); refine NeedK.mk (by (try simp only [castN]); omega) ?_)
    | ((with_reducible show DrawK _ _ _ _); refine DrawK.mk (by kernel_rfl) (by kernel_rfl) (by kernel_rfl) ?_)
    | ((with_reducible show CallK _ _ 27 _ _ _ _); refine CallK.lit [] (f27_at hs hc) c27 ⟨rfl, trivial⟩ rfl rfl ?_)) <;> ((with_reducible conv => whnf); (with_reducible conv => congr <;> reduce); repeat ((first | (with_reducible refine HaltK.mk ?_) | (with_reducible refine StopK.mk ?_)); (with_reducible conv => whnf); (with_reducible conv => congr <;> reduce)))
    | ((with_reducible show (_ ∧ _) ∧ _ ∧ _); refine ⟨⟨rfl, rfl⟩, ?_, ?_⟩ <;> (with_reducible conv => whnf) <;> repeat' (first | (with_reducible exact trivial) | (with_reducible refine And.intro ?_ ?_ <;> with_reducible conv => whnf))))
          | true =>
            rcases hpc with rfl | hp0
            · rcases hqc with rfl | hq0
              · by_cases hb : base = emptyS
                · have hm7 := fun hz => may7 (s := s) (base := base) hR hc hp hq (.inl hb) hz
                  have hm0 := fun hz => may0 (s := s) (base := base) hR hc hp hq (.inl hb) hz
                  cases bz with
                  | true =>
                    rw [hm7 rfl]
                    rw [hb]
                    repeat' (first
    | (first
    | ((with_reducible show IfK _ _ _ _); first | refine IfK.ff ?_ | refine IfK.tt ?_ | refine IfK.no (by first | rfl | assumption | exact nf (by assumption) | exact nt (by assumption) | ((try simp only [castN]); first | (simp [g2, g3, g4', e0]; done) | (simp [g2, g3, g4', e0]; omega))) ?_ | refine IfK.yes (by first | rfl | assumption | exact nf (by assumption) | exact nt (by assumption) | ((try simp only [castN]); first | (simp [g2, g3, g4', e0]; done) | (simp [g2, g3, g4', e0]; omega))) ?_)
    | ((with_reducible show NeedK _ _ _ _); refine NeedK.mk (by (try simp only [castN]); omega) ?_)
    | ((with_reducible show DrawK _ _ _ _); refine DrawK.mk (by kernel_rfl) (by kernel_rfl) (by kernel_rfl) ?_)
    | ((with_reducible show CallK _ _ 27 _ _ _ _); refine CallK.lit [] (f27_at hs hc) c27 ⟨rfl, trivial⟩ rfl rfl ?_)
    | ((with_reducible show CallK _ _ 16 _ _ _ _); refine CallK.lit [] (f16_at hsm hp) c16 ⟨⟨rfl, rfl, rfl, rfl, trivial⟩, rfl, trivial⟩ rfl rfl ?_)
    | ((with_reducible show CallK _ _ 17 _ _ _ _); refine CallK.lit [] (f17_at hsm hq) c17 ⟨⟨rfl, rfl, rfl, rfl, trivial⟩, rfl, trivial⟩ rfl rfl ?_)) <;> ((with_reducible conv => whnf); (with_reducible conv => congr <;> reduce); repeat ((first | (with_reducible refine HaltK.mk ?_) | (with_reducible refine StopK.mk ?_)); (with_reducible conv => whnf); (with_reducible conv => congr <;> reduce)))
    | ((with_reducible show (_ ∧ _) ∧ _ ∧ _); refine ⟨⟨rfl, rfl⟩, ?_, ?_⟩ <;> (with_reducible conv => whnf) <;> repeat' (first | (with_reducible exact trivial) | (with_reducible refine And.intro ?_ ?_ <;> with_reducible conv => whnf))))
                  | false =>
                    rw [hm0 rfl]
                    rw [hb]
                    repeat' (first
    | (first
    | ((with_reducible show IfK _ _ _ _); first | refine IfK.ff ?_ | refine IfK.tt ?_ | refine IfK.no (by first | rfl | assumption | exact nf (by assumption) | exact nt (by assumption) | ((try simp only [castN]); first | (simp [g2, g3, g4', e0]; done) | (simp [g2, g3, g4', e0]; omega))) ?_ | refine IfK.yes (by first | rfl | assumption | exact nf (by assumption) | exact nt (by assumption) | ((try simp only [castN]); first | (simp [g2, g3, g4', e0]; done) | (simp [g2, g3, g4', e0]; omega))) ?_)
    | ((with_reducible show NeedK _ _ _ _); refine NeedK.mk (by (try simp only [castN]); omega) ?_)
    | ((with_reducible show DrawK _ _ _ _); refine DrawK.mk (by kernel_rfl) (by kernel_rfl) (by kernel_rfl) ?_)
    | ((with_reducible show CallK _ _ 27 _ _ _ _); refine CallK.lit [] (f27_at hs hc) c27 ⟨rfl, trivial⟩ rfl rfl ?_)
    | ((with_reducible show CallK _ _ 16 _ _ _ _); refine CallK.lit [] (f16_at hsm hp) c16 ⟨⟨rfl, rfl, rfl, rfl, trivial⟩, rfl, trivial⟩ rfl rfl ?_)
    | ((with_reducible show CallK _ _ 17 _ _ _ _); refine CallK.lit [] (f17_at hsm hq) c17 ⟨⟨rfl, rfl, rfl, rfl, trivial⟩, rfl, trivial⟩ rfl rfl ?_)) <;> ((with_reducible conv => whnf); (with_reducible conv => congr <;> reduce); repeat ((first | (with_reducible refine HaltK.mk ?_) | (with_reducible refine StopK.mk ?_)); (with_reducible conv => whnf); (with_reducible conv => congr <;> reduce)))
    | ((with_reducible show (_ ∧ _) ∧ _ ∧ _); refine ⟨⟨rfl, rfl⟩, ?_, ?_⟩ <;> (with_reducible conv => whnf) <;> repeat' (first | (with_reducible exact trivial) | (with_reducible refine And.intro ?_ ?_ <;> with_reducible conv => whnf))))
                · have hb' := empty_ne hb
                  cases hkn : knowS base with
                  | false =>
                    rw [may6 hR hc hp hq hb hkn]
                    repeat' (first
    | (first
    | ((with_reducible show IfK _ _ _ _); first | refine IfK.ff ?_ | refine IfK.tt ?_ | refine IfK.no (by first | rfl | assumption | exact nf (by assumption) | exact nt (by assumption) | ((try simp only [castN]); first | (simp [g2, g3, g4', hb']; done) | (simp [g2, g3, g4', hb']; omega))) ?_ | refine IfK.yes (by first | rfl | assumption | exact nf (by assumption) | exact nt (by assumption) | ((try simp only [castN]); first | (simp [g2, g3, g4', hb']; done) | (simp [g2, g3, g4', hb']; omega))) ?_)
    | ((with_reducible show NeedK _ _ _ _); refine NeedK.mk (by (try simp only [castN]); omega) ?_)
    | ((with_reducible show DrawK _ _ _ _); refine DrawK.mk (by kernel_rfl) (by kernel_rfl) (by kernel_rfl) ?_)
    | ((with_reducible show CallK _ _ 27 _ _ _ _); refine CallK.lit [] (f27_at hs hc) c27 ⟨rfl, trivial⟩ rfl rfl ?_)
    | ((with_reducible show CallK _ _ 28 _ _ _ _); refine CallK.lit [] (f28_at hkn) c28 ⟨rfl, trivial⟩ rfl rfl ?_)
    | ((with_reducible show CallK _ _ 16 _ _ _ _); refine CallK.lit [] (f16_at hsm hp) c16 ⟨⟨rfl, rfl, rfl, rfl, trivial⟩, rfl, trivial⟩ rfl rfl ?_)
    | ((with_reducible show CallK _ _ 17 _ _ _ _); refine CallK.lit [] (f17_at hsm hq) c17 ⟨⟨rfl, rfl, rfl, rfl, trivial⟩, rfl, trivial⟩ rfl rfl ?_)) <;> ((with_reducible conv => whnf); (with_reducible conv => congr <;> reduce); repeat ((first | (with_reducible refine HaltK.mk ?_) | (with_reducible refine StopK.mk ?_)); (with_reducible conv => whnf); (with_reducible conv => congr <;> reduce)))
    | ((with_reducible show (_ ∧ _) ∧ _ ∧ _); refine ⟨⟨rfl, rfl⟩, ?_, ?_⟩ <;> (with_reducible conv => whnf) <;> repeat' (first | (with_reducible exact trivial) | (with_reducible refine And.intro ?_ ?_ <;> with_reducible conv => whnf))))
                  | true =>
                    have hm7 := fun hz => may7 (s := s) (base := base) hR hc hp hq (.inr hkn) hz
                    have hm0 := fun hz => may0 (s := s) (base := base) hR hc hp hq (.inr hkn) hz
                    cases bz with
                    | true =>
                      rw [hm7 rfl]
                      repeat' (first
    | (first
    | ((with_reducible show IfK _ _ _ _); first | refine IfK.ff ?_ | refine IfK.tt ?_ | refine IfK.no (by first | rfl | assumption | exact nf (by assumption) | exact nt (by assumption) | ((try simp only [castN]); first | (simp [g2, g3, g4', hb']; done) | (simp [g2, g3, g4', hb']; omega))) ?_ | refine IfK.yes (by first | rfl | assumption | exact nf (by assumption) | exact nt (by assumption) | ((try simp only [castN]); first | (simp [g2, g3, g4', hb']; done) | (simp [g2, g3, g4', hb']; omega))) ?_)
    | ((with_reducible show NeedK _ _ _ _); refine NeedK.mk (by (try simp only [castN]); omega) ?_)
    | ((with_reducible show DrawK _ _ _ _); refine DrawK.mk (by kernel_rfl) (by kernel_rfl) (by kernel_rfl) ?_)
    | ((with_reducible show CallK _ _ 27 _ _ _ _); refine CallK.lit [] (f27_at hs hc) c27 ⟨rfl, trivial⟩ rfl rfl ?_)
    | ((with_reducible show CallK _ _ 28 _ _ _ _); refine CallK.lit [] (f28_at hkn) c28 ⟨rfl, trivial⟩ rfl rfl ?_)
    | ((with_reducible show CallK _ _ 16 _ _ _ _); refine CallK.lit [] (f16_at hsm hp) c16 ⟨⟨rfl, rfl, rfl, rfl, trivial⟩, rfl, trivial⟩ rfl rfl ?_)
    | ((with_reducible show CallK _ _ 17 _ _ _ _); refine CallK.lit [] (f17_at hsm hq) c17 ⟨⟨rfl, rfl, rfl, rfl, trivial⟩, rfl, trivial⟩ rfl rfl ?_)) <;> ((with_reducible conv => whnf); (with_reducible conv => congr <;> reduce); repeat ((first | (with_reducible refine HaltK.mk ?_) | (with_reducible refine StopK.mk ?_)); (with_reducible conv => whnf); (with_reducible conv => congr <;> reduce)))
    | ((with_reducible show (_ ∧ _) ∧ _ ∧ _); refine ⟨⟨rfl, rfl⟩, ?_, ?_⟩ <;> (with_reducible conv => whnf) <;> repeat' (first | (with_reducible exact trivial) | (with_reducible refine And.intro ?_ ?_ <;> with_reducible conv => whnf))))
                    | false =>
                      rw [hm0 rfl]
                      repeat' (first
    | (first
    | ((with_reducible show IfK _ _ _ _); first | refine IfK.ff ?_ | refine IfK.tt ?_ | refine IfK.no (by first | rfl | assumption | exact nf (by assumption) | exact nt (by assumption) | ((try simp only [castN]); first | (simp [g2, g3, g4', hb']; done) | (simp [g2, g3, g4', hb']; omega))) ?_ | refine IfK.yes (by first | rfl | assumption | exact nf (by assumption) | exact nt (by assumption) | ((try simp only [castN]); first | (simp [g2, g3, g4', hb']; done) | (simp [g2, g3, g4', hb']; omega))) ?_)
    | ((with_reducible show NeedK _ _ _ _); refine NeedK.mk (by (try simp only [castN]); omega) ?_)
    | ((with_reducible show DrawK _ _ _ _); refine DrawK.mk (by kernel_rfl) (by kernel_rfl) (by kernel_rfl) ?_)
    | ((with_reducible show CallK _ _ 27 _ _ _ _); refine CallK.lit [] (f27_at hs hc) c27 ⟨rfl, trivial⟩ rfl rfl ?_)
    | ((with_reducible show CallK _ _ 28 _ _ _ _); refine CallK.lit [] (f28_at hkn) c28 ⟨rfl, trivial⟩ rfl rfl ?_)
    | ((with_reducible show CallK _ _ 16 _ _ _ _); refine CallK.lit [] (f16_at hsm hp) c16 ⟨⟨rfl, rfl, rfl, rfl, trivial⟩, rfl, trivial⟩ rfl rfl ?_)
    | ((with_reducible show CallK _ _ 17 _ _ _ _); refine CallK.lit [] (f17_at hsm hq) c17 ⟨⟨rfl, rfl, rfl, rfl, trivial⟩, rfl, trivial⟩ rfl rfl ?_)) <;> ((with_reducible conv => whnf); (with_reducible conv => congr <;> reduce); repeat ((first | (with_reducible refine HaltK.mk ?_) | (with_reducible refine StopK.mk ?_)); (with_reducible conv => whnf); (with_reducible conv => congr <;> reduce)))
    | ((with_reducible show (_ ∧ _) ∧ _ ∧ _); refine ⟨⟨rfl, rfl⟩, ?_, ?_⟩ <;> (with_reducible conv => whnf) <;> repeat' (first | (with_reducible exact trivial) | (with_reducible refine And.intro ?_ ?_ <;> with_reducible conv => whnf))))
              · rw [may10 hR hc (.inr (by rw [hq]; exact hq0))]
                repeat' (first
    | (first
    | ((with_reducible show IfK _ _ _ _); first | refine IfK.ff ?_ | refine IfK.tt ?_ | refine IfK.no (by first | rfl | assumption | exact nf (by assumption) | exact nt (by assumption) | ((try simp only [castN]); first | (simp [g2, g3, g4', hq0]; done) | (simp [g2, g3, g4', hq0]; omega))) ?_ | refine IfK.yes (by first | rfl | assumption | exact nf (by assumption) | exact nt (by assumption) | ((try simp only [castN]); first | (simp [g2, g3, g4', hq0]; done) | (simp [g2, g3, g4', hq0]; omega))) ?_)
    | ((with_reducible show NeedK _ _ _ _); refine NeedK.mk (by (try simp only [castN]); omega) ?_)
    | ((with_reducible show DrawK _ _ _ _); refine DrawK.mk (by kernel_rfl) (by kernel_rfl) (by kernel_rfl) ?_)
    | ((with_reducible show CallK _ _ 27 _ _ _ _); refine CallK.lit [] (f27_at hs hc) c27 ⟨rfl, trivial⟩ rfl rfl ?_)
    | ((with_reducible show CallK _ _ 16 _ _ _ _); refine CallK.lit [] (f16_at hsm hp) c16 ⟨⟨rfl, rfl, rfl, rfl, trivial⟩, rfl, trivial⟩ rfl rfl ?_)
    | ((with_reducible show CallK _ _ 17 _ _ _ _); refine CallK.lit [] (f17_at hsm hq) c17 ⟨⟨rfl, rfl, rfl, rfl, trivial⟩, rfl, trivial⟩ rfl rfl ?_)) <;> ((with_reducible conv => whnf); (with_reducible conv => congr <;> reduce); repeat ((first | (with_reducible refine HaltK.mk ?_) | (with_reducible refine StopK.mk ?_)); (with_reducible conv => whnf); (with_reducible conv => congr <;> reduce)))
    | ((with_reducible show (_ ∧ _) ∧ _ ∧ _); refine ⟨⟨rfl, rfl⟩, ?_, ?_⟩ <;> (with_reducible conv => whnf) <;> repeat' (first | (with_reducible exact trivial) | (with_reducible refine And.intro ?_ ?_ <;> with_reducible conv => whnf))))
            · rw [may10 hR hc (.inl (by rw [hp]; exact hp0))]
              repeat' (first
    | (first
    | ((with_reducible show IfK _ _ _ _); first | refine IfK.ff ?_ | refine IfK.tt ?_ | refine IfK.no (by first | rfl | assumption | exact nf (by assumption) | exact nt (by assumption) | ((try simp only [castN]); first | (simp [g2, g3, g4', hp0]; done) | (simp [g2, g3, g4', hp0]; omega))) ?_ | refine IfK.yes (by first | rfl | assumption | exact nf (by assumption) | exact nt (by assumption) | ((try simp only [castN]); first | (simp [g2, g3, g4', hp0]; done) | (simp [g2, g3, g4', hp0]; omega))) ?_)
    | ((with_reducible show NeedK _ _ _ _); refine NeedK.mk (by (try simp only [castN]); omega) ?_)
    | ((with_reducible show DrawK _ _ _ _); refine DrawK.mk (by kernel_rfl) (by kernel_rfl) (by kernel_rfl) ?_)
    | ((with_reducible show CallK _ _ 27 _ _ _ _); refine CallK.lit [] (f27_at hs hc) c27 ⟨rfl, trivial⟩ rfl rfl ?_)
    | ((with_reducible show CallK _ _ 16 _ _ _ _); refine CallK.lit [] (f16_at hsm hp) c16 ⟨⟨rfl, rfl, rfl, rfl, trivial⟩, rfl, trivial⟩ rfl rfl ?_)) <;> ((with_reducible conv => whnf); (with_reducible conv => congr <;> reduce); repeat ((first | (with_reducible refine HaltK.mk ?_) | (with_reducible refine StopK.mk ?_)); (with_reducible conv => whnf); (with_reducible conv => congr <;> reduce)))
    | ((with_reducible show (_ ∧ _) ∧ _ ∧ _); refine ⟨⟨rfl, rfl⟩, ?_, ?_⟩ <;> (with_reducible conv => whnf) <;> repeat' (first | (with_reducible exact trivial) | (with_reducible refine And.intro ?_ ?_ <;> with_reducible conv => whnf))))
end Go.Proofs.DeskD
end
section
set_option linter.unusedSimpArgs false
set_option linter.unusedVariables false
namespace Go.Proofs.DeskD
open Go.Am Go.RowKit Go.Lib
set_option maxRecDepth 100000
@[reducible] def rDefs (l : List DefM) : MS := .live 3 (l.map oDef) false
@[reducible] def rWaits (l : List WaitM) : MS := .live 2 (l.map oWait) false
@[reducible] def eInts (l : List Int) : AV := .sl 1 (l.map oInt)
theorem noRef_defs (l : List DefM) : noRefL (l.map oDef) = true := by
  rw [noRefL_iff]; intro x hx
  obtain ⟨a, _, rfl⟩ := List.mem_map.1 hx
  rfl
theorem noRef_waits (l : List WaitM) : noRefL (l.map oWait) = true := by
  rw [noRefL_iff]; intro x hx
  obtain ⟨a, _, rfl⟩ := List.mem_map.1 hx
  rfl
theorem noRef_ints (l : List Int) : noRefL (l.map oInt) = true := by
  rw [noRefL_iff]; intro x hx
  obtain ⟨a, _, rfl⟩ := List.mem_map.1 hx
  rfl
theorem one_defs (l : List DefM) : oneL (flat (l.map oDef)) = true := oneL_map oDef (fun a => rfl) l
theorem one_waits (l : List WaitM) : oneL (flat (l.map oWait)) = true := oneL_map oWait (fun a => rfl) l
theorem frz_defs {m : ML} {fz : Nat → Bool} {tab : List (Nat × Nat)} {n t len : Nat} {ro : Bool} {rows : List AV} {l : List DefM} (h1 : lkM m t = .live 3 rows ro) (h2 : fz t = true) (h3 : rows = l.map oDef) (h4 : len = l.length) : FrzK m fz (MF tab fz m n) (eDefs l) t 0 len := by
  subst h3; subst h4
  have e : (l.map oDef).length = l.length := List.length_map ..
  exact .cut h1 h2 (by omega) (by rw [List.drop_zero, List.take_of_length_le (by omega)]) (noRef_defs l)
theorem frz_waits {m : ML} {fz : Nat → Bool} {tab : List (Nat × Nat)} {n t len : Nat} {ro : Bool} {rows : List AV} {l : List WaitM} (h1 : lkM m t = .live 2 rows ro) (h2 : fz t = true) (h3 : rows = l.map oWait) (h4 : len = l.length) : FrzK m fz (MF tab fz m n) (eWaits l) t 0 len := by
  subst h3; subst h4
  have e : (l.map oWait).length = l.length := List.length_map ..
  exact .cut h1 h2 (by omega) (by rw [List.drop_zero, List.take_of_length_le (by omega)]) (noRef_waits l)
theorem frz_ints {m : ML} {fz : Nat → Bool} {tab : List (Nat × Nat)} {n t len : Nat} {ro : Bool} {rows : List AV} {l : List Int} (h1 : lkM m t = .live 1 rows ro) (h2 : fz t = true) (h3 : rows = l.map oInt) (h4 : len = l.length) : FrzK m fz (MF tab fz m n) (eInts l) t 0 len := by
  subst h3; subst h4
  have e : (l.map oInt).length = l.length := List.length_map ..
  exact .cut h1 h2 (by omega) (by rw [List.drop_zero, List.take_of_length_le (by omega)]) (noRef_ints l)
theorem defs_outs (l : List DefM) : okOuts [rDefs l] := ⟨Wide.of_mem fun r hr => by
  obtain ⟨a, _, rfl⟩ := List.mem_map.1 hr
  rfl, noRef_defs l, trivial⟩
theorem waits_outs (l : List WaitM) : okOuts [rWaits l] := ⟨Wide.of_mem fun r hr => by
  obtain ⟨a, _, rfl⟩ := List.mem_map.1 hr
  rfl, noRef_waits l, trivial⟩
/-- slices.Clone -/
theorem f30_ok (l : List DefM) (hl : l.length ≤ 100000) : FnOK Tryd.prog 30 [] [eDefs l] [rDefs l] (.own 0 0 l.length) := by
  have hlm : (l.map oDef).length = l.length := List.length_map ..
  refine FnOK.startC (rvs := [.tmp 2]) G G_good Tryd.func30 rfl Tryd.ntmps30 rfl rfl ?_; delta List.toArray; ((with_reducible conv => whnf); (with_reducible conv => congr <;> reduce); repeat ((first | (with_reducible refine HaltK.mk ?_) | (with_reducible refine StopK.mk ?_)); (with_reducible conv => whnf); (with_reducible conv => congr <;> reduce)))
  refine GuessK.mk (fun h => ?_) (fun _ => ?_) <;> ((with_reducible conv => whnf); (with_reducible conv => congr <;> reduce); repeat ((first | (with_reducible refine HaltK.mk ?_) | (with_reducible refine StopK.mk ?_)); (with_reducible conv => whnf); (with_reducible conv => congr <;> reduce)))
  · obtain rfl : l = [] := by simpa using h
    refine ⟨⟨rfl, rfl⟩, ?_, ?_⟩ <;> (with_reducible conv => whnf) <;> repeat' (first | (with_reducible exact trivial) | (with_reducible refine And.intro ?_ ?_ <;> with_reducible conv => whnf))
    all_goals first | rfl | trivial
  · refine AppK.mk [] (l.map oDef) ⟨rfl, rfl, rfl⟩ ⟨rfl, rfl, rfl⟩ (one_defs l) (by simp; omega) (by simp; omega) ?_; ((with_reducible conv => whnf); (with_reducible conv => congr <;> reduce); repeat ((first | (with_reducible refine HaltK.mk ?_) | (with_reducible refine StopK.mk ?_)); (with_reducible conv => whnf); (with_reducible conv => congr <;> reduce)))
    refine ⟨⟨rfl, rfl⟩, ?_, ?_⟩ <;> (with_reducible conv => whnf) <;> repeat' (first | (with_reducible exact trivial) | (with_reducible refine And.intro ?_ ?_ <;> with_reducible conv => whnf))
    · exact hlm.symm
    · exact MFL_refl (noRef_defs l)
theorem f33_ok (l : List WaitM) (hl : l.length ≤ 100000) : FnOK Tryd.prog 33 [] [eWaits l] [rWaits l] (.own 0 0 l.length) := by
  have hlm : (l.map oWait).length = l.length := List.length_map ..
  refine FnOK.startC (rvs := [.tmp 2]) G G_good Tryd.func33 rfl Tryd.ntmps33 rfl rfl ?_; delta List.toArray; ((with_reducible conv => whnf); (with_reducible conv => congr <;> reduce); repeat ((first | (with_reducible refine HaltK.mk ?_) | (with_reducible refine StopK.mk ?_)); (with_reducible conv => whnf); (with_reducible conv => congr <;> reduce)))
  refine GuessK.mk (fun h => ?_) (fun _ => ?_) <;> ((with_reducible conv => whnf); (with_reducible conv => congr <;> reduce); repeat ((first | (with_reducible refine HaltK.mk ?_) | (with_reducible refine StopK.mk ?_)); (with_reducible conv => whnf); (with_reducible conv => congr <;> reduce)))
  · obtain rfl : l = [] := by simpa using h
    refine ⟨⟨rfl, rfl⟩, ?_, ?_⟩ <;> (with_reducible conv => whnf) <;> repeat' (first | (with_reducible exact trivial) | (with_reducible refine And.intro ?_ ?_ <;> with_reducible conv => whnf))
    all_goals first | rfl | trivial
  · refine AppK.mk [] (l.map oWait) ⟨rfl, rfl, rfl⟩ ⟨rfl, rfl, rfl⟩ (one_waits l) (by simp; omega) (by simp; omega) ?_; ((with_reducible conv => whnf); (with_reducible conv => congr <;> reduce); repeat ((first | (with_reducible refine HaltK.mk ?_) | (with_reducible refine StopK.mk ?_)); (with_reducible conv => whnf); (with_reducible conv => congr <;> reduce)))
    refine ⟨⟨rfl, rfl⟩, ?_, ?_⟩ <;> (with_reducible conv => whnf) <;> repeat' (first | (with_reducible exact trivial) | (with_reducible refine And.intro ?_ ?_ <;> with_reducible conv => whnf))
    · exact hlm.symm
    · exact MFL_refl (noRef_waits l)
theorem snoc_defs (l : List DefM) (n lo : ByteArray) (c : Int) : l.map oDef ++ [eDef ⟨n, lo, c⟩] = (l ++ [(⟨n, lo, c⟩ : DefM)]).map oDef := by rw [List.map_append]; rfl
theorem snoc_waits (l : List WaitM) (n : ByteArray) (t : Int) : l.map oWait ++ [eWait ⟨n, t⟩] = (l ++ [(⟨n, t⟩ : WaitM)]).map oWait := by rw [List.map_append]; rfl
theorem snoc_ints (l : List Int) (t : Int) : l.map oInt ++ [eInt t] = (l ++ [t]).map oInt := by rw [List.map_append]; rfl
theorem f20_at {d : DeskM} {k c e : Int} {s base : ByteArray} (h : SmallD d) (he : mayD d k s base c = e) : FnOK Tryd.prog 20 [] [eDesk d, eInt k, eStr s, eStr base, eInt c] [] (eInt e) := by have := f20_ok d h k s base c; rwa [he] at this
set_option maxHeartbeats 16000000 in
/-- desk.Add -/
theorem f18_ok (d : DeskM) (h : SmallD d) (k : Int) (s base : ByteArray) (c : Int) : FnOK Tryd.prog 18 [] [eDesk d, eInt k, eStr s, eStr base, eInt c] [] (.tup [eDesk (defineD d k s base c).1, eInt (defineD d k s base c).2.1, eInts (defineD d k s base c).2.2.1, eInt (defineD d k s base c).2.2.2]) := by
  obtain ⟨e, he⟩ : ∃ e, mayD d k s base c = e := ⟨_, rfl⟩
  have h20 := f20_at h he
  unfold defineD
  rw [he]
  have hl := h.defs
  have hw := h.waits
  obtain ⟨l, ws, nx, bz⟩ := d
  simp only at hl hw
  have hlm : (l.map oDef).length = l.length := List.length_map ..
  have hwm : (ws.map oWait).length = ws.length := List.length_map ..
  refine FnOK.startC (rvs := [.cell 10 25, .tmp 11, .tmp 12, .tmp 13]) G G_good Tryd.func18 rfl Tryd.ntmps18 rfl rfl ?_; delta List.toArray; ((with_reducible conv => whnf); (with_reducible conv => congr <;> reduce); repeat ((first | (with_reducible refine HaltK.mk ?_) | (with_reducible refine StopK.mk ?_)); (with_reducible conv => whnf); (with_reducible conv => congr <;> reduce)))
  refine CallK.lit [] h20 c20 ⟨⟨rfl, rfl, rfl, rfl, trivial⟩, rfl, rfl, rfl, rfl, trivial⟩ rfl rfl ?_; ((with_reducible conv => whnf); (with_reducible conv => congr <;> reduce); repeat ((first | (with_reducible refine HaltK.mk ?_) | (with_reducible refine StopK.mk ?_)); (with_reducible conv => whnf); (with_reducible conv => congr <;> reduce)))
  by_cases e1 : e = 0
  · subst e1
    rw [if_pos rfl]
    by_cases hb : base = emptyS
    · have hn : newD s base c = ⟨s, s, c⟩ := by unfold newD; rw [if_pos hb]
      rw [hb]
      rw [← hb]
      refine IfK.ff ?_; ((with_reducible conv => whnf); (with_reducible conv => congr <;> reduce); repeat ((first | (with_reducible refine HaltK.mk ?_) | (with_reducible refine StopK.mk ?_)); (with_reducible conv => whnf); (with_reducible conv => congr <;> reduce)))
      refine IfK.yes (decide_eq_true hb) ?_; ((with_reducible conv => whnf); (with_reducible conv => congr <;> reduce); repeat ((first | (with_reducible refine HaltK.mk ?_) | (with_reducible refine StopK.mk ?_)); (with_reducible conv => whnf); (with_reducible conv => congr <;> reduce)))
      refine CallK.new 401 [] (f30_ok l hl) c30 ⟨rfl, trivial⟩ rfl rfl rfl (defs_outs l) rfl ?_; ((with_reducible conv => whnf); (with_reducible conv => congr <;> reduce); repeat ((first | (with_reducible refine HaltK.mk ?_) | (with_reducible refine StopK.mk ?_)); (with_reducible conv => whnf); (with_reducible conv => congr <;> reduce)))
      refine AppK.mk (l.map oDef) [eDef ⟨s, s, c⟩] ⟨rfl, hlm.symm, rfl⟩ ⟨rfl, rfl, rfl⟩ rfl (by simp; omega) (by simp; omega) ?_; ((with_reducible conv => whnf); (with_reducible conv => congr <;> reduce); repeat ((first | (with_reducible refine HaltK.mk ?_) | (with_reducible refine StopK.mk ?_)); (with_reducible conv => whnf); (with_reducible conv => congr <;> reduce)))
      rw [snoc_defs]
      obtain ⟨L, hL⟩ : ∃ L, l ++ [(⟨s, s, c⟩ : DefM)] = L := ⟨_, rfl⟩
      rw [hL]
      rw [← hn] at hL
      have hLm : (L.map oDef).length = L.length := List.length_map ..
      refine LoopK.ghost 17 171 2 rfl rfl ?_
      refine LoopK.ghost 18 181 1 rfl rfl ?_
      refine LoopK.use G G_good (fun (j : Nat) => [(2, eStr s), (5, .ptr 50 0 0), (10, .ptr 100 0 0), (16, eInt l.length), (17, .own 171 0 (restW (ws.take j) s).length), (18, .own 181 0 (toldW (ws.take j) s).length), (49, eWaits ws), (50, eInt ws.length), (51, eInt j)])
        (fun j => [(50, .live 4 [.agg [.own 461 0 L.length, eWaits ws, eInt nx, eBool bz]] false), (100, .live 4 [.agg [.lit (.slice none 0 0), .lit (.slice none 0 0), eInt 0, eBool false]] false), (461, rDefs L), (171, rWaits (restW (ws.take j) s)), (181, .live 1 ((toldW (ws.take j) s).map oInt) false)])
        (fun j => j ≤ ws.length) (fun j => ws.length - j) 0 (Nat.zero_le _)
        ⟨⟨rfl, rfl⟩, ⟨rfl, ⟨rfl, rfl⟩, ⟨rfl, rfl⟩, by show (l.length : Int) = ((l.map oDef).length : Int); rw [hlm], ⟨rfl, rfl⟩, ⟨rfl, rfl⟩, rfl, by show (ws.length : Int) = ((ws.map oWait).length : Int); rw [hwm], rfl, trivial⟩, ⟨⟨⟨rfl, hLm.symm⟩, rfl, rfl, rfl, trivial⟩, trivial⟩, ⟨⟨.inl rfl, .inl rfl, rfl, rfl, trivial⟩, trivial⟩, ⟨.refl (noRef_defs _), noRef_defs _⟩, ⟨.refl rfl, rfl⟩, ⟨.refl rfl, rfl⟩, trivial⟩ ?_
      intro j hj
      ((with_reducible conv => whnf); (with_reducible conv => congr <;> reduce); repeat ((first | (with_reducible refine HaltK.mk ?_) | (with_reducible refine StopK.mk ?_)); (with_reducible conv => whnf); (with_reducible conv => congr <;> reduce)))
      refine IfK.mk (fun g1 => ?_) (fun g1 => ?_) <;> (try simp only [castN] at g1) <;> ((with_reducible conv => whnf); (with_reducible conv => congr <;> reduce); repeat ((first | (with_reducible refine HaltK.mk ?_) | (with_reducible refine StopK.mk ?_)); (with_reducible conv => whnf); (with_reducible conv => congr <;> reduce)))
      · simp only [decide_eq_true_eq] at g1
        have hj' : j < ws.length := by omega
        obtain ⟨⟨n, tk⟩, hx⟩ : ∃ a, ws[j]? = some a := ⟨_, List.getElem?_eq_getElem hj'⟩
        have hr1 := restW_len ws s j
        have ht1 := toldW_len ws s j
        have hr2 := restW_snoc (s := s) hx
        have ht2 := toldW_snoc (s := s) hx
        have hrm : ((restW (ws.take j) s).map oWait).length = (restW (ws.take j) s).length := List.length_map ..
        have htm : ((toldW (ws.take j) s).map oInt).length = (toldW (ws.take j) s).length := List.length_map ..
        refine IdxK.mk j (eWait ⟨n, tk⟩) rfl (wait_get hx) ?_; ((with_reducible conv => whnf); (with_reducible conv => congr <;> reduce); repeat ((first | (with_reducible refine HaltK.mk ?_) | (with_reducible refine StopK.mk ?_)); (with_reducible conv => whnf); (with_reducible conv => congr <;> reduce)))
        by_cases hns : n = s
        · rw [if_pos hns] at hr2 ht2
          repeat' (first
    | (first
    | ((with_reducible show IfK _ _ _ _); first | refine IfK.ff ?_ | refine IfK.tt ?_ | refine IfK.no (by first | rfl | assumption | exact nf (by assumption) | exact nt (by assumption) | ((try simp only [castN]); first | (simp [hns]; done) | (simp [hns]; omega))) ?_ | refine IfK.yes (by first | rfl | assumption | exact nf (by assumption) | exact nt (by assumption) | ((try simp only [castN]); first | (simp [hns]; done) | (simp [hns]; omega))) ?_)
    | ((with_reducible show NeedK _ _ _ _); refine NeedK.mk (by (try simp only [castN]); omega) ?_)
    | ((with_reducible show DrawK _ _ _ _); refine DrawK.mk (by kernel_rfl) (by kernel_rfl) (by kernel_rfl) ?_)
    | ((with_reducible show AppK _ _ _ _ _ _ _ _ _ _); refine AppK.mk ((toldW (ws.take j) s).map oInt) [eInt tk] ⟨rfl, htm.symm, rfl⟩ ⟨rfl, rfl, rfl⟩ rfl (by simp; omega) (by simp; omega) ?_)
    | ((with_reducible show NextK _ _); refine NextK.mk (j + 1) (by omega) (by omega) ⟨⟨rfl, rfl⟩, ⟨rfl, ⟨rfl, rfl⟩, ⟨rfl, rfl⟩, rfl, ⟨rfl, by rw [hr2]⟩, ⟨rfl, by rw [ht2]; simp⟩, rfl, rfl, by show ((j + 1 : Nat) : Int) = (j : Int) + 1; omega, trivial⟩, ⟨⟨⟨rfl, rfl⟩, rfl, rfl, rfl, trivial⟩, trivial⟩, ⟨⟨.inl rfl, .inl rfl, rfl, rfl, trivial⟩, trivial⟩, ⟨.refl (noRef_defs _), noRef_defs _⟩, ⟨by rw [hr2]; exact .refl (noRef_waits _), noRef_waits _⟩, ⟨by rw [ht2, ← snoc_ints]; exact .refl (by rw [snoc_ints]; exact noRef_ints _), noRef_ints _⟩, trivial⟩)) <;> ((with_reducible conv => whnf); (with_reducible conv => congr <;> reduce); repeat ((first | (with_reducible refine HaltK.mk ?_) | (with_reducible refine StopK.mk ?_)); (with_reducible conv => whnf); (with_reducible conv => congr <;> reduce)))
    | ((with_reducible show (_ ∧ _) ∧ _ ∧ _); refine ⟨⟨rfl, rfl⟩, ?_, ?_⟩ <;> (with_reducible conv => whnf) <;> repeat' (first | (with_reducible exact trivial) | (with_reducible refine And.intro ?_ ?_ <;> with_reducible conv => whnf))))
        · rw [if_neg hns] at hr2 ht2
          repeat' (first
    | (first
    | ((with_reducible show IfK _ _ _ _); first | refine IfK.ff ?_ | refine IfK.tt ?_ | refine IfK.no (by first | rfl | assumption | exact nf (by assumption) | exact nt (by assumption) | ((try simp only [castN]); first | (simp [hns]; done) | (simp [hns]; omega))) ?_ | refine IfK.yes (by first | rfl | assumption | exact nf (by assumption) | exact nt (by assumption) | ((try simp only [castN]); first | (simp [hns]; done) | (simp [hns]; omega))) ?_)
    | ((with_reducible show NeedK _ _ _ _); refine NeedK.mk (by (try simp only [castN]); omega) ?_)
    | ((with_reducible show DrawK _ _ _ _); refine DrawK.mk (by kernel_rfl) (by kernel_rfl) (by kernel_rfl) ?_)
    | ((with_reducible show AppK _ _ _ _ _ _ _ _ _ _); refine AppK.mk ((restW (ws.take j) s).map oWait) [eWait ⟨n, tk⟩] ⟨rfl, hrm.symm, rfl⟩ ⟨rfl, rfl, rfl⟩ rfl (by simp; omega) (by simp; omega) ?_)
    | ((with_reducible show NextK _ _); refine NextK.mk (j + 1) (by omega) (by omega) ⟨⟨rfl, rfl⟩, ⟨rfl, ⟨rfl, rfl⟩, ⟨rfl, rfl⟩, rfl, ⟨rfl, by rw [hr2]; simp⟩, ⟨rfl, by rw [ht2]⟩, rfl, rfl, by show ((j + 1 : Nat) : Int) = (j : Int) + 1; omega, trivial⟩, ⟨⟨⟨rfl, rfl⟩, rfl, rfl, rfl, trivial⟩, trivial⟩, ⟨⟨.inl rfl, .inl rfl, rfl, rfl, trivial⟩, trivial⟩, ⟨.refl (noRef_defs _), noRef_defs _⟩, ⟨by rw [hr2, ← snoc_waits]; exact .refl (by rw [snoc_waits]; exact noRef_waits _), noRef_waits _⟩, ⟨by rw [ht2]; exact .refl (noRef_ints _), noRef_ints _⟩, trivial⟩)) <;> ((with_reducible conv => whnf); (with_reducible conv => congr <;> reduce); repeat ((first | (with_reducible refine HaltK.mk ?_) | (with_reducible refine StopK.mk ?_)); (with_reducible conv => whnf); (with_reducible conv => congr <;> reduce)))
    | ((with_reducible show (_ ∧ _) ∧ _ ∧ _); refine ⟨⟨rfl, rfl⟩, ?_, ?_⟩ <;> (with_reducible conv => whnf) <;> repeat' (first | (with_reducible exact trivial) | (with_reducible refine And.intro ?_ ?_ <;> with_reducible conv => whnf))))
      · have hjl : j = ws.length := by simp only [decide_eq_false_iff_not] at g1; omega
        subst hjl
        rw [List.take_length]
        (repeat' (first
    | (first
    | ((with_reducible show IfK _ _ _ _); first | refine IfK.ff ?_ | refine IfK.tt ?_ | refine IfK.no (by first | rfl | assumption | exact nf (by assumption) | exact nt (by assumption) | ((try simp only [castN]); first | (simp [hL]; done) | (simp [hL]; omega))) ?_ | refine IfK.yes (by first | rfl | assumption | exact nf (by assumption) | exact nt (by assumption) | ((try simp only [castN]); first | (simp [hL]; done) | (simp [hL]; omega))) ?_)
    | ((with_reducible show NeedK _ _ _ _); refine NeedK.mk (by (try simp only [castN]); omega) ?_)
    | ((with_reducible show DrawK _ _ _ _); refine DrawK.mk (by kernel_rfl) (by kernel_rfl) (by kernel_rfl) ?_)) <;> ((with_reducible conv => whnf); (with_reducible conv => congr <;> reduce); repeat ((first | (with_reducible refine HaltK.mk ?_) | (with_reducible refine StopK.mk ?_)); (with_reducible conv => whnf); (with_reducible conv => congr <;> reduce)))
    | ((with_reducible show (_ ∧ _) ∧ _ ∧ _); refine ⟨⟨rfl, rfl⟩, ?_, ?_⟩ <;> (with_reducible conv => whnf) <;> repeat' (first | (with_reducible exact trivial) | (with_reducible refine And.intro ?_ ?_ <;> with_reducible conv => whnf))))) <;> first | exact frz_defs rfl rfl (by show L.map oDef = (l ++ [newD s base c]).map oDef; rw [hL]) (by show L.length = (l ++ [newD s base c]).length; rw [hL]) | exact frz_waits rfl rfl rfl rfl | exact frz_ints rfl rfl rfl rfl | rfl
    · have hn : newD s base c = ⟨s, base, c⟩ := by unfold newD; rw [if_neg hb]
      refine IfK.ff ?_; ((with_reducible conv => whnf); (with_reducible conv => congr <;> reduce); repeat ((first | (with_reducible refine HaltK.mk ?_) | (with_reducible refine StopK.mk ?_)); (with_reducible conv => whnf); (with_reducible conv => congr <;> reduce)))
      refine IfK.no (decide_eq_false hb) ?_; ((with_reducible conv => whnf); (with_reducible conv => congr <;> reduce); repeat ((first | (with_reducible refine HaltK.mk ?_) | (with_reducible refine StopK.mk ?_)); (with_reducible conv => whnf); (with_reducible conv => congr <;> reduce)))
      refine CallK.new 401 [] (f30_ok l hl) c30 ⟨rfl, trivial⟩ rfl rfl rfl (defs_outs l) rfl ?_; ((with_reducible conv => whnf); (with_reducible conv => congr <;> reduce); repeat ((first | (with_reducible refine HaltK.mk ?_) | (with_reducible refine StopK.mk ?_)); (with_reducible conv => whnf); (with_reducible conv => congr <;> reduce)))
      refine AppK.mk (l.map oDef) [eDef ⟨s, base, c⟩] ⟨rfl, hlm.symm, rfl⟩ ⟨rfl, rfl, rfl⟩ rfl (by simp; omega) (by simp; omega) ?_; ((with_reducible conv => whnf); (with_reducible conv => congr <;> reduce); repeat ((first | (with_reducible refine HaltK.mk ?_) | (with_reducible refine StopK.mk ?_)); (with_reducible conv => whnf); (with_reducible conv => congr <;> reduce)))
      rw [snoc_defs]
      obtain ⟨L, hL⟩ : ∃ L, l ++ [(⟨s, base, c⟩ : DefM)] = L := ⟨_, rfl⟩
      rw [hL]
      rw [← hn] at hL
      have hLm : (L.map oDef).length = L.length := List.length_map ..
      refine LoopK.ghost 17 171 2 rfl rfl ?_
      refine LoopK.ghost 18 181 1 rfl rfl ?_
      refine LoopK.use G G_good (fun (j : Nat) => [(2, eStr s), (5, .ptr 50 0 0), (10, .ptr 100 0 0), (16, eInt l.length), (17, .own 171 0 (restW (ws.take j) s).length), (18, .own 181 0 (toldW (ws.take j) s).length), (49, eWaits ws), (50, eInt ws.length), (51, eInt j)])
        (fun j => [(50, .live 4 [.agg [.own 461 0 L.length, eWaits ws, eInt nx, eBool bz]] false), (100, .live 4 [.agg [.lit (.slice none 0 0), .lit (.slice none 0 0), eInt 0, eBool false]] false), (461, rDefs L), (171, rWaits (restW (ws.take j) s)), (181, .live 1 ((toldW (ws.take j) s).map oInt) false)])
        (fun j => j ≤ ws.length) (fun j => ws.length - j) 0 (Nat.zero_le _)
        ⟨⟨rfl, rfl⟩, ⟨rfl, ⟨rfl, rfl⟩, ⟨rfl, rfl⟩, by show (l.length : Int) = ((l.map oDef).length : Int); rw [hlm], ⟨rfl, rfl⟩, ⟨rfl, rfl⟩, rfl, by show (ws.length : Int) = ((ws.map oWait).length : Int); rw [hwm], rfl, trivial⟩, ⟨⟨⟨rfl, hLm.symm⟩, rfl, rfl, rfl, trivial⟩, trivial⟩, ⟨⟨.inl rfl, .inl rfl, rfl, rfl, trivial⟩, trivial⟩, ⟨.refl (noRef_defs _), noRef_defs _⟩, ⟨.refl rfl, rfl⟩, ⟨.refl rfl, rfl⟩, trivial⟩ ?_
      intro j hj
      ((with_reducible conv => whnf); (with_reducible conv => congr <;> reduce); repeat ((first | (with_reducible refine HaltK.mk ?_) | (with_reducible refine StopK.mk ?_)); (with_reducible conv => whnf); (with_reducible conv => congr <;> reduce)))
      refine IfK.mk (fun g1 => ?_) (fun g1 => ?_) <;> (try simp only [castN] at g1) <;> ((with_reducible conv => whnf); (with_reducible conv => congr <;> reduce); repeat ((first | (with_reducible refine HaltK.mk ?_) | (with_reducible refine StopK.mk ?_)); (with_reducible conv => whnf); (with_reducible conv => congr <;> reduce)))
      · simp only [decide_eq_true_eq] at g1
        have hj' : j < ws.length := by omega
        obtain ⟨⟨n, tk⟩, hx⟩ : ∃ a, ws[j]? = some a := ⟨_, List.getElem?_eq_getElem hj'⟩
        have hr1 := restW_len ws s j
        have ht1 := toldW_len ws s j
        have hr2 := restW_snoc (s := s) hx
        have ht2 := toldW_snoc (s := s) hx
        have hrm : ((restW (ws.take j) s).map oWait).length = (restW (ws.take j) s).length := List.length_map ..
        have htm : ((toldW (ws.take j) s).map oInt).length = (toldW (ws.take j) s).length := List.length_map ..
        refine IdxK.mk j (eWait ⟨n, tk⟩) rfl (wait_get hx) ?_; ((with_reducible conv => whnf); (with_reducible conv => congr <;> reduce); repeat ((first | (with_reducible refine HaltK.mk ?_) | (with_reducible refine StopK.mk ?_)); (with_reducible conv => whnf); (with_reducible conv => congr <;> reduce)))
        by_cases hns : n = s
        · rw [if_pos hns] at hr2 ht2
          repeat' (first
    | (first
    | ((with_reducible show IfK _ _ _ _); first | refine IfK.ff ?_ | refine IfK.tt ?_ | refine IfK.no (by first | rfl | assumption | exact nf (by assumption) | exact nt (by assumption) | ((try simp only [castN]); first | (simp [hns]; done) | (simp [hns]; omega))) ?_ | refine IfK.yes (by first | rfl | assumption | exact nf (by assumption) | exact nt (by assumption) | ((try simp only [castN]); first | (simp [hns]; done) | (simp [hns]; omega))) ?_)
    | ((with_reducible show NeedK _ _ _ _); refine NeedK.mk (by (try simp only [castN]); omega) ?_)
    | ((with_reducible show DrawK _ _ _ _); refine DrawK.mk (by kernel_rfl) (by kernel_rfl) (by kernel_rfl) ?_)
    | ((with_reducible show AppK _ _ _ _ _ _ _ _ _ _); refine AppK.mk ((toldW (ws.take j) s).map oInt) [eInt tk] ⟨rfl, htm.symm, rfl⟩ ⟨rfl, rfl, rfl⟩ rfl (by simp; omega) (by simp; omega) ?_)
    | ((with_reducible show NextK _ _); refine NextK.mk (j + 1) (by omega) (by omega) ⟨⟨rfl, rfl⟩, ⟨rfl, ⟨rfl, rfl⟩, ⟨rfl, rfl⟩, rfl, ⟨rfl, by rw [hr2]⟩, ⟨rfl, by rw [ht2]; simp⟩, rfl, rfl, by show ((j + 1 : Nat) : Int) = (j : Int) + 1; omega, trivial⟩, ⟨⟨⟨rfl, rfl⟩, rfl, rfl, rfl, trivial⟩, trivial⟩, ⟨⟨.inl rfl, .inl rfl, rfl, rfl, trivial⟩, trivial⟩, ⟨.refl (noRef_defs _), noRef_defs _⟩, ⟨by rw [hr2]; exact .refl (noRef_waits _), noRef_waits _⟩, ⟨by rw [ht2, ← snoc_ints]; exact .refl (by rw [snoc_ints]; exact noRef_ints _), noRef_ints _⟩, trivial⟩)) <;> ((with_reducible conv => whnf); (with_reducible conv => congr <;> reduce); repeat ((first | (with_reducible refine HaltK.mk ?_) | (with_reducible refine StopK.mk ?_)); (with_reducible conv => whnf); (with_reducible conv => congr <;> reduce)))
    | ((with_reducible show (_ ∧ _) ∧ _ ∧ _); refine ⟨⟨rfl, rfl⟩, ?_, ?_⟩ <;> (with_reducible conv => whnf) <;> repeat' (first | (with_reducible exact trivial) | (with_reducible refine And.intro ?_ ?_ <;> with_reducible conv => whnf))))
        · rw [if_neg hns] at hr2 ht2
          repeat' (first
    | (first
    | ((with_reducible show IfK _ _ _ _); first | refine IfK.ff ?_ | refine IfK.tt ?_ | refine IfK.no (by first | rfl | assumption | exact nf (by assumption) | exact nt (by assumption) | ((try simp only [castN]); first | (simp [hns]; done) | (simp [hns]; omega))) ?_ | refine IfK.yes (by first | rfl | assumption | exact nf (by assumption) | exact nt (by assumption) | ((try simp only [castN]); first | (simp [hns]; done) | (simp [hns]; omega))) ?_)
    | ((with_reducible show NeedK _ _ _ _); refine NeedK.mk (by (try simp only [castN]); omega) ?_)
    | ((with_reducible show DrawK _ _ _ _); refine DrawK.mk (by kernel_rfl) (by kernel_rfl) (by kernel_rfl) ?_)
    | ((with_reducible show AppK _ _ _ _ _ _ _ _ _ _); refine AppK.mk ((restW (ws.take j) s).map oWait) [eWait ⟨n, tk⟩] ⟨rfl, hrm.symm, rfl⟩ ⟨rfl, rfl, rfl⟩ rfl (by simp; omega) (by simp; omega) ?_)
    | ((with_reducible show NextK _ _); refine NextK.mk (j + 1) (by omega) (by omega) ⟨⟨rfl, rfl⟩, ⟨rfl, ⟨rfl, rfl⟩, ⟨rfl, rfl⟩, rfl, ⟨rfl, by rw [hr2]; simp⟩, ⟨rfl, by rw [ht2]⟩, rfl, rfl, by show ((j + 1 : Nat) : Int) = (j : Int) + 1; omega, trivial⟩, ⟨⟨⟨rfl, rfl⟩, rfl, rfl, rfl, trivial⟩, trivial⟩, ⟨⟨.inl rfl, .inl rfl, rfl, rfl, trivial⟩, trivial⟩, ⟨.refl (noRef_defs _), noRef_defs _⟩, ⟨by rw [hr2, ← snoc_waits]; exact .refl (by rw [snoc_waits]; exact noRef_waits _), noRef_waits _⟩, ⟨by rw [ht2]; exact .refl (noRef_ints _), noRef_ints _⟩, trivial⟩)) <;> ((with_reducible conv => whnf); (with_reducible conv => congr <;> reduce); repeat ((first | (with_reducible refine HaltK.mk ?_) | (with_reducible refine StopK.mk ?_)); (with_reducible conv => whnf); (with_reducible conv => congr <;> reduce)))
    | ((with_reducible show (_ ∧ _) ∧ _ ∧ _); refine ⟨⟨rfl, rfl⟩, ?_, ?_⟩ <;> (with_reducible conv => whnf) <;> repeat' (first | (with_reducible exact trivial) | (with_reducible refine And.intro ?_ ?_ <;> with_reducible conv => whnf))))
      · have hjl : j = ws.length := by simp only [decide_eq_false_iff_not] at g1; omega
        subst hjl
        rw [List.take_length]
        (repeat' (first
    | (first
    | ((with_reducible show IfK _ _ _ _); first | refine IfK.ff ?_ | refine IfK.tt ?_ | refine IfK.no (by first | rfl | assumption | exact nf (by assumption) | exact nt (by assumption) | ((try simp only [castN]); first | (simp [hL]; done) | (simp [hL]; omega))) ?_ | refine IfK.yes (by first | rfl | assumption | exact nf (by assumption) | exact nt (by assumption) | ((try simp only [castN]); first | (simp [hL]; done) | (simp [hL]; omega))) ?_)
    | ((with_reducible show NeedK _ _ _ _); refine NeedK.mk (by (try simp only [castN]); omega) ?_)
    | ((with_reducible show DrawK _ _ _ _); refine DrawK.mk (by kernel_rfl) (by kernel_rfl) (by kernel_rfl) ?_)) <;> ((with_reducible conv => whnf); (with_reducible conv => congr <;> reduce); repeat ((first | (with_reducible refine HaltK.mk ?_) | (with_reducible refine StopK.mk ?_)); (with_reducible conv => whnf); (with_reducible conv => congr <;> reduce)))
    | ((with_reducible show (_ ∧ _) ∧ _ ∧ _); refine ⟨⟨rfl, rfl⟩, ?_, ?_⟩ <;> (with_reducible conv => whnf) <;> repeat' (first | (with_reducible exact trivial) | (with_reducible refine And.intro ?_ ?_ <;> with_reducible conv => whnf))))) <;> first | exact frz_defs rfl rfl (by show L.map oDef = (l ++ [newD s base c]).map oDef; rw [hL]) (by show L.length = (l ++ [newD s base c]).length; rw [hL]) | exact frz_waits rfl rfl rfl rfl | exact frz_ints rfl rfl rfl rfl | rfl
  · rw [if_neg e1]
    (repeat' (first
    | (first
    | ((with_reducible show IfK _ _ _ _); first | refine IfK.ff ?_ | refine IfK.tt ?_ | refine IfK.no (by first | rfl | assumption | exact nf (by assumption) | exact nt (by assumption) | ((try simp only [castN]); first | (simp [e1]; done) | (simp [e1]; omega))) ?_ | refine IfK.yes (by first | rfl | assumption | exact nf (by assumption) | exact nt (by assumption) | ((try simp only [castN]); first | (simp [e1]; done) | (simp [e1]; omega))) ?_)
    | ((with_reducible show NeedK _ _ _ _); refine NeedK.mk (by (try simp only [castN]); omega) ?_)
    | ((with_reducible show DrawK _ _ _ _); refine DrawK.mk (by kernel_rfl) (by kernel_rfl) (by kernel_rfl) ?_)) <;> ((with_reducible conv => whnf); (with_reducible conv => congr <;> reduce); repeat ((first | (with_reducible refine HaltK.mk ?_) | (with_reducible refine StopK.mk ?_)); (with_reducible conv => whnf); (with_reducible conv => congr <;> reduce)))
    | ((with_reducible show (_ ∧ _) ∧ _ ∧ _); refine ⟨⟨rfl, rfl⟩, ?_, ?_⟩ <;> (with_reducible conv => whnf) <;> repeat' (first | (with_reducible exact trivial) | (with_reducible refine And.intro ?_ ?_ <;> with_reducible conv => whnf))))) <;> exact .inr (.inr ⟨1, rfl⟩)
end Go.Proofs.DeskD
end
section
set_option linter.unusedSimpArgs false
set_option linter.unusedVariables false
namespace Go.Proofs.DeskD
open Go.Am Go.RowKit Go.Lib
set_option maxRecDepth 100000
section
variable {d : DeskM} {s : ByteArray}
theorem aw1 (h : rightD d = false) : awaitD d s = (d, -1, -1, 1) := by unfold awaitD; rw [if_pos h]
theorem aw4 (h : rightD d = true) (h1 : customS s = false) : awaitD d s = (d, -1, -1, 4) := by unfold awaitD; rw [if_neg (by simp [h]), if_pos h1]
theorem aw3 (h : rightD d = true) (h1 : customS s = true) (h2 : d.next = 100000) : awaitD d s = (d, -1, -1, 3) := by unfold awaitD; rw [if_neg (by simp [h]), if_neg (by simp [h1]), if_pos h2]
theorem awOld (h : rightD d = true) (h1 : customS s = true) (h2 : d.next ≠ 100000) (h3 : 0 ≤ posN d.defs s) : awaitD d s = (⟨d.defs, d.waits, d.next + 1, d.busy⟩, d.next, posN d.defs s, 0) := by unfold awaitD; rw [if_neg (by simp [h]), if_neg (by simp [h1]), if_neg h2, if_pos h3]
theorem awNew (h : rightD d = true) (h1 : customS s = true) (h2 : d.next ≠ 100000) (h3 : posN d.defs s = -1) : awaitD d s = (⟨d.defs, d.waits ++ [⟨s, d.next⟩], d.next + 1, d.busy⟩, d.next, -1, 0) := by unfold awaitD; rw [if_neg (by simp [h]), if_neg (by simp [h1]), if_neg h2, if_neg (by omega)]
end
set_option maxHeartbeats 16000000 in
/-- desk.Await -/
theorem f23_ok (d : DeskM) (h : SmallD d) (s : ByteArray) : FnOK Tryd.prog 23 [] [eDesk d, eStr s] [] (.tup [eDesk (awaitD d s).1, eInt (awaitD d s).2.1, eInt (awaitD d s).2.2.1, eInt (awaitD d s).2.2.2]) := by
  have h29 := f29_ok d h.defs h.waits
  have hrd := @right_defs d
  obtain ⟨r, hr⟩ : ∃ r, rightD d = r := ⟨_, rfl⟩
  rw [hr] at h29 hrd
  have hl := h.defs
  have hw := h.waits
  obtain ⟨l, ws, nx, bz⟩ := d
  simp only at hl hw
  have hwm : (ws.map oWait).length = ws.length := List.length_map ..
  refine FnOK.startC (rvs := [.cell 4 25, .tmp 5, .tmp 6, .tmp 7]) G G_good Tryd.func23 rfl Tryd.ntmps23 rfl rfl ?_; delta List.toArray; ((with_reducible conv => whnf); (with_reducible conv => congr <;> reduce); repeat ((first | (with_reducible refine HaltK.mk ?_) | (with_reducible refine StopK.mk ?_)); (with_reducible conv => whnf); (with_reducible conv => congr <;> reduce)))
  refine CallK.new 151 [] h29 c29 ⟨⟨rfl, rfl, rfl, rfl, trivial⟩, trivial⟩ rfl rfl rfl (outs_read _) rfl ?_; ((with_reducible conv => whnf); (with_reducible conv => congr <;> reduce); repeat ((first | (with_reducible refine HaltK.mk ?_) | (with_reducible refine StopK.mk ?_)); (with_reducible conv => whnf); (with_reducible conv => congr <;> reduce)))
  refine LookK.tab Value.string oInt (ixT kN (procL l)) (k := s) (zv := eInt 0) map62 ⟨_, _, rfl⟩ key_str inj_str rfl rfl (fun x hxx => ?_) (fun hxx => ?_)
  · rw [show oInt x = eInt x from rfl]
    ((with_reducible conv => whnf); (with_reducible conv => congr <;> reduce); repeat ((first | (with_reducible refine HaltK.mk ?_) | (with_reducible refine StopK.mk ?_)); (with_reducible conv => whnf); (with_reducible conv => congr <;> reduce)))
    cases r with
    | false =>
      rw [aw1 hr]
      repeat' (first
    | (first
    | ((with_reducible show IfK _ _ _ _); first | refine IfK.ff ?_ | refine IfK.tt ?_ | refine IfK.no (by first | rfl | assumption | exact nf (by assumption) | exact nt (by assumption) | ((try simp only [castN]); first | (simp [hr]; done) | (simp [hr]; omega))) ?_ | refine IfK.yes (by first | rfl | assumption | exact nf (by assumption) | exact nt (by assumption) | ((try simp only [castN]); first | (simp [hr]; done) | (simp [hr]; omega))) ?_)
    | ((with_reducible show NeedK _ _ _ _); refine NeedK.mk (by (try simp only [castN]); omega) ?_)
    | ((with_reducible show DrawK _ _ _ _); refine DrawK.mk (by kernel_rfl) (by kernel_rfl) (by kernel_rfl) ?_)) <;> ((with_reducible conv => whnf); (with_reducible conv => congr <;> reduce); repeat ((first | (with_reducible refine HaltK.mk ?_) | (with_reducible refine StopK.mk ?_)); (with_reducible conv => whnf); (with_reducible conv => congr <;> reduce)))
    | ((with_reducible show (_ ∧ _) ∧ _ ∧ _); refine ⟨⟨rfl, rfl⟩, ?_, ?_⟩ <;> (with_reducible conv => whnf) <;> repeat' (first | (with_reducible exact trivial) | (with_reducible refine And.intro ?_ ?_ <;> with_reducible conv => whnf))))
    | true =>
      have hd : defsB l = true := hrd rfl
      have hnx : 0 ≤ nx ∧ nx ≤ 100000 := (rightD_iff.1 hr).2.2
      cases hc : customS s with
      | false =>
        rw [aw4 hr hc]
        repeat' (first
    | (first
    | ((with_reducible show IfK _ _ _ _); first | refine IfK.ff ?_ | refine IfK.tt ?_ | refine IfK.no (by first | rfl | assumption | exact nf (by assumption) | exact nt (by assumption) | ((try simp only [castN]); first | (simp [hr]; done) | (simp [hr]; omega))) ?_ | refine IfK.yes (by first | rfl | assumption | exact nf (by assumption) | exact nt (by assumption) | ((try simp only [castN]); first | (simp [hr]; done) | (simp [hr]; omega))) ?_)
    | ((with_reducible show NeedK _ _ _ _); refine NeedK.mk (by (try simp only [castN]); omega) ?_)
    | ((with_reducible show DrawK _ _ _ _); refine DrawK.mk (by kernel_rfl) (by kernel_rfl) (by kernel_rfl) ?_)
    | ((with_reducible show CallK _ _ 25 _ _ _ _); refine CallK.lit [] (f25_at hc) c25 ⟨rfl, trivial⟩ rfl rfl ?_)) <;> ((with_reducible conv => whnf); (with_reducible conv => congr <;> reduce); repeat ((first | (with_reducible refine HaltK.mk ?_) | (with_reducible refine StopK.mk ?_)); (with_reducible conv => whnf); (with_reducible conv => congr <;> reduce)))
    | ((with_reducible show (_ ∧ _) ∧ _ ∧ _); refine ⟨⟨rfl, rfl⟩, ?_, ?_⟩ <;> (with_reducible conv => whnf) <;> repeat' (first | (with_reducible exact trivial) | (with_reducible refine And.intro ?_ ?_ <;> with_reducible conv => whnf))))
      | true =>
        by_cases g1 : nx = 100000
        · rw [aw3 hr hc g1]
          repeat' (first
    | (first
    | ((with_reducible show IfK _ _ _ _); first | refine IfK.ff ?_ | refine IfK.tt ?_ | refine IfK.no (by first | rfl | assumption | exact nf (by assumption) | exact nt (by assumption) | ((try simp only [castN]); first | (simp [g1]; done) | (simp [g1]; omega))) ?_ | refine IfK.yes (by first | rfl | assumption | exact nf (by assumption) | exact nt (by assumption) | ((try simp only [castN]); first | (simp [g1]; done) | (simp [g1]; omega))) ?_)
    | ((with_reducible show NeedK _ _ _ _); refine NeedK.mk (by (try simp only [castN]); omega) ?_)
    | ((with_reducible show DrawK _ _ _ _); refine DrawK.mk (by kernel_rfl) (by kernel_rfl) (by kernel_rfl) ?_)
    | ((with_reducible show CallK _ _ 25 _ _ _ _); refine CallK.lit [] (f25_at hc) c25 ⟨rfl, trivial⟩ rfl rfl ?_)) <;> ((with_reducible conv => whnf); (with_reducible conv => congr <;> reduce); repeat ((first | (with_reducible refine HaltK.mk ?_) | (with_reducible refine StopK.mk ?_)); (with_reducible conv => whnf); (with_reducible conv => congr <;> reduce)))
    | ((with_reducible show (_ ∧ _) ∧ _ ∧ _); refine ⟨⟨rfl, rfl⟩, ?_, ?_⟩ <;> (with_reducible conv => whnf) <;> repeat' (first | (with_reducible exact trivial) | (with_reducible refine And.intro ?_ ?_ <;> with_reducible conv => whnf))))
        · rcases tgetP hd s with ⟨t1, p1⟩ | ⟨j, z, t1, p1, _⟩
          · try (rw [hxx] at t1; cases t1; done)
            all_goals (
              rw [awNew hr hc g1 p1]
              repeat' (first
    | (first
    | ((with_reducible show IfK _ _ _ _); first | refine IfK.ff ?_ | refine IfK.tt ?_ | refine IfK.no (by first | rfl | assumption | exact nf (by assumption) | exact nt (by assumption) | ((try simp only [castN]); first | (simp [g1]; done) | (simp [g1]; omega))) ?_ | refine IfK.yes (by first | rfl | assumption | exact nf (by assumption) | exact nt (by assumption) | ((try simp only [castN]); first | (simp [g1]; done) | (simp [g1]; omega))) ?_)
    | ((with_reducible show NeedK _ _ _ _); refine NeedK.mk (by (try simp only [castN]); omega) ?_)
    | ((with_reducible show DrawK _ _ _ _); refine DrawK.mk (by kernel_rfl) (by kernel_rfl) (by kernel_rfl) ?_)
    | ((with_reducible show CallK _ _ 25 _ _ _ _); refine CallK.lit [] (f25_at hc) c25 ⟨rfl, trivial⟩ rfl rfl ?_)
    | ((with_reducible show CallK _ _ 33 _ _ _ _); refine CallK.new 511 [] (f33_ok ws hw) c33 ⟨rfl, trivial⟩ rfl rfl rfl (waits_outs ws) rfl ?_)
    | ((with_reducible show AppK _ _ _ _ _ _ _ _ _ _); refine AppK.mk (ws.map oWait) [eWait ⟨s, nx⟩] ⟨rfl, hwm.symm, rfl⟩ ⟨rfl, rfl, rfl⟩ rfl (by simp; omega) (by simp; omega) ?_)) <;> ((with_reducible conv => whnf); (with_reducible conv => congr <;> reduce); repeat ((first | (with_reducible refine HaltK.mk ?_) | (with_reducible refine StopK.mk ?_)); (with_reducible conv => whnf); (with_reducible conv => congr <;> reduce)))
    | ((with_reducible show (_ ∧ _) ∧ _ ∧ _); refine ⟨⟨rfl, rfl⟩, ?_, ?_⟩ <;> (with_reducible conv => whnf) <;> repeat' (first | (with_reducible exact trivial) | (with_reducible refine And.intro ?_ ?_ <;> with_reducible conv => whnf))))
              exact frz_waits rfl rfl (snoc_waits ws s nx) (by simp))
          · try (rw [hxx] at t1; cases t1; done)
            all_goals (
              rw [awOld hr hc g1 (by rw [show (DeskM.mk l ws nx bz).defs = l from rfl, p1]; omega)]
              have hj : x = (j : Int) := by rw [hxx] at t1; exact Option.some.inj t1
              subst hj
              (repeat' (first
    | (first
    | ((with_reducible show IfK _ _ _ _); first | refine IfK.ff ?_ | refine IfK.tt ?_ | refine IfK.no (by first | rfl | assumption | exact nf (by assumption) | exact nt (by assumption) | ((try simp only [castN]); first | (simp [g1]; done) | (simp [g1]; omega))) ?_ | refine IfK.yes (by first | rfl | assumption | exact nf (by assumption) | exact nt (by assumption) | ((try simp only [castN]); first | (simp [g1]; done) | (simp [g1]; omega))) ?_)
    | ((with_reducible show NeedK _ _ _ _); refine NeedK.mk (by (try simp only [castN]); omega) ?_)
    | ((with_reducible show DrawK _ _ _ _); refine DrawK.mk (by kernel_rfl) (by kernel_rfl) (by kernel_rfl) ?_)
    | ((with_reducible show CallK _ _ 25 _ _ _ _); refine CallK.lit [] (f25_at hc) c25 ⟨rfl, trivial⟩ rfl rfl ?_)) <;> ((with_reducible conv => whnf); (with_reducible conv => congr <;> reduce); repeat ((first | (with_reducible refine HaltK.mk ?_) | (with_reducible refine StopK.mk ?_)); (with_reducible conv => whnf); (with_reducible conv => congr <;> reduce)))
    | ((with_reducible show (_ ∧ _) ∧ _ ∧ _); refine ⟨⟨rfl, rfl⟩, ?_, ?_⟩ <;> (with_reducible conv => whnf) <;> repeat' (first | (with_reducible exact trivial) | (with_reducible refine And.intro ?_ ?_ <;> with_reducible conv => whnf))))) <;> exact p1)
  · ((with_reducible conv => whnf); (with_reducible conv => congr <;> reduce); repeat ((first | (with_reducible refine HaltK.mk ?_) | (with_reducible refine StopK.mk ?_)); (with_reducible conv => whnf); (with_reducible conv => congr <;> reduce)))
    obtain ⟨x, hx0⟩ : ∃ x : Int, x = 0 := ⟨_, rfl⟩
    cases r with
    | false =>
      rw [aw1 hr]
      repeat' (first
    | (first
    | ((with_reducible show IfK _ _ _ _); first | refine IfK.ff ?_ | refine IfK.tt ?_ | refine IfK.no (by first | rfl | assumption | exact nf (by assumption) | exact nt (by assumption) | ((try simp only [castN]); first | (simp [hr]; done) | (simp [hr]; omega))) ?_ | refine IfK.yes (by first | rfl | assumption | exact nf (by assumption) | exact nt (by assumption) | ((try simp only [castN]); first | (simp [hr]; done) | (simp [hr]; omega))) ?_)
    | ((with_reducible show NeedK _ _ _ _); refine NeedK.mk (by (try simp only [castN]); omega) ?_)
    | ((with_reducible show DrawK _ _ _ _); refine DrawK.mk (by kernel_rfl) (by kernel_rfl) (by kernel_rfl) ?_)) <;> ((with_reducible conv => whnf); (with_reducible conv => congr <;> reduce); repeat ((first | (with_reducible refine HaltK.mk ?_) | (with_reducible refine StopK.mk ?_)); (with_reducible conv => whnf); (with_reducible conv => congr <;> reduce)))
    | ((with_reducible show (_ ∧ _) ∧ _ ∧ _); refine ⟨⟨rfl, rfl⟩, ?_, ?_⟩ <;> (with_reducible conv => whnf) <;> repeat' (first | (with_reducible exact trivial) | (with_reducible refine And.intro ?_ ?_ <;> with_reducible conv => whnf))))
    | true =>
      have hd : defsB l = true := hrd rfl
      have hnx : 0 ≤ nx ∧ nx ≤ 100000 := (rightD_iff.1 hr).2.2
      cases hc : customS s with
      | false =>
        rw [aw4 hr hc]
        repeat' (first
    | (first
    | ((with_reducible show IfK _ _ _ _); first | refine IfK.ff ?_ | refine IfK.tt ?_ | refine IfK.no (by first | rfl | assumption | exact nf (by assumption) | exact nt (by assumption) | ((try simp only [castN]); first | (simp [hr]; done) | (simp [hr]; omega))) ?_ | refine IfK.yes (by first | rfl | assumption | exact nf (by assumption) | exact nt (by assumption) | ((try simp only [castN]); first | (simp [hr]; done) | (simp [hr]; omega))) ?_)
    | ((with_reducible show NeedK _ _ _ _); refine NeedK.mk (by (try simp only [castN]); omega) ?_)
    | ((with_reducible show DrawK _ _ _ _); refine DrawK.mk (by kernel_rfl) (by kernel_rfl) (by kernel_rfl) ?_)
    | ((with_reducible show CallK _ _ 25 _ _ _ _); refine CallK.lit [] (f25_at hc) c25 ⟨rfl, trivial⟩ rfl rfl ?_)) <;> ((with_reducible conv => whnf); (with_reducible conv => congr <;> reduce); repeat ((first | (with_reducible refine HaltK.mk ?_) | (with_reducible refine StopK.mk ?_)); (with_reducible conv => whnf); (with_reducible conv => congr <;> reduce)))
    | ((with_reducible show (_ ∧ _) ∧ _ ∧ _); refine ⟨⟨rfl, rfl⟩, ?_, ?_⟩ <;> (with_reducible conv => whnf) <;> repeat' (first | (with_reducible exact trivial) | (with_reducible refine And.intro ?_ ?_ <;> with_reducible conv => whnf))))
      | true =>
        by_cases g1 : nx = 100000
        · rw [aw3 hr hc g1]
          repeat' (first
    | (first
    | ((with_reducible show IfK _ _ _ _); first | refine IfK.ff ?_ | refine IfK.tt ?_ | refine IfK.no (by first | rfl | assumption | exact nf (by assumption) | exact nt (by assumption) | ((try simp only [castN]); first | (simp [g1]; done) | (simp [g1]; omega))) ?_ | refine IfK.yes (by first | rfl | assumption | exact nf (by assumption) | exact nt (by assumption) | ((try simp only [castN]); first | (simp [g1]; done) | (simp [g1]; omega))) ?_)
    | ((with_reducible show NeedK _ _ _ _); refine NeedK.mk (by (try simp only [castN]); omega) ?_)
    | ((with_reducible show DrawK _ _ _ _); refine DrawK.mk (by kernel_rfl) (by kernel_rfl) (by kernel_rfl) ?_)
    | ((with_reducible show CallK _ _ 25 _ _ _ _); refine CallK.lit [] (f25_at hc) c25 ⟨rfl, trivial⟩ rfl rfl ?_)) <;> ((with_reducible conv => whnf); (with_reducible conv => congr <;> reduce); repeat ((first | (with_reducible refine HaltK.mk ?_) | (with_reducible refine StopK.mk ?_)); (with_reducible conv => whnf); (with_reducible conv => congr <;> reduce)))
    | ((with_reducible show (_ ∧ _) ∧ _ ∧ _); refine ⟨⟨rfl, rfl⟩, ?_, ?_⟩ <;> (with_reducible conv => whnf) <;> repeat' (first | (with_reducible exact trivial) | (with_reducible refine And.intro ?_ ?_ <;> with_reducible conv => whnf))))
        · rcases tgetP hd s with ⟨t1, p1⟩ | ⟨j, z, t1, p1, _⟩
          · try (rw [hxx] at t1; cases t1; done)
            all_goals (
              rw [awNew hr hc g1 p1]
              repeat' (first
    | (first
    | ((with_reducible show IfK _ _ _ _); first | refine IfK.ff ?_ | refine IfK.tt ?_ | refine IfK.no (by first | rfl | assumption | exact nf (by assumption) | exact nt (by assumption) | ((try simp only [castN]); first | (simp [g1]; done) | (simp [g1]; omega))) ?_ | refine IfK.yes (by first | rfl | assumption | exact nf (by assumption) | exact nt (by assumption) | ((try simp only [castN]); first | (simp [g1]; done) | (simp [g1]; omega))) ?_)
    | ((with_reducible show NeedK _ _ _ _); refine NeedK.mk (by (try simp only [castN]); omega) ?_)
    | ((with_reducible show DrawK _ _ _ _); refine DrawK.mk (by kernel_rfl) (by kernel_rfl) (by kernel_rfl) ?_)
    | ((with_reducible show CallK _ _ 25 _ _ _ _); refine CallK.lit [] (f25_at hc) c25 ⟨rfl, trivial⟩ rfl rfl ?_)
    | ((with_reducible show CallK _ _ 33 _ _ _ _); refine CallK.new 511 [] (f33_ok ws hw) c33 ⟨rfl, trivial⟩ rfl rfl rfl (waits_outs ws) rfl ?_)
    | ((with_reducible show AppK _ _ _ _ _ _ _ _ _ _); refine AppK.mk (ws.map oWait) [eWait ⟨s, nx⟩] ⟨rfl, hwm.symm, rfl⟩ ⟨rfl, rfl, rfl⟩ rfl (by simp; omega) (by simp; omega) ?_)) <;> ((with_reducible conv => whnf); (with_reducible conv => congr <;> reduce); repeat ((first | (with_reducible refine HaltK.mk ?_) | (with_reducible refine StopK.mk ?_)); (with_reducible conv => whnf); (with_reducible conv => congr <;> reduce)))
    | ((with_reducible show (_ ∧ _) ∧ _ ∧ _); refine ⟨⟨rfl, rfl⟩, ?_, ?_⟩ <;> (with_reducible conv => whnf) <;> repeat' (first | (with_reducible exact trivial) | (with_reducible refine And.intro ?_ ?_ <;> with_reducible conv => whnf))))
              exact frz_waits rfl rfl (snoc_waits ws s nx) (by simp))
          · try (rw [hxx] at t1; cases t1; done)
            all_goals (
              rw [awOld hr hc g1 (by rw [show (DeskM.mk l ws nx bz).defs = l from rfl, p1]; omega)]
              have hj : x = (j : Int) := by rw [hxx] at t1; exact Option.some.inj t1
              subst hj
              (repeat' (first
    | (first
    | ((with_reducible show IfK _ _ _ _); first | refine IfK.ff ?_ | refine IfK.tt ?_ | refine IfK.no (by first | rfl | assumption | exact nf (by assumption) | exact nt (by assumption) | ((try simp only [castN]); first | (simp [g1]; done) | (simp [g1]; omega))) ?_ | refine IfK.yes (by first | rfl | assumption | exact nf (by assumption) | exact nt (by assumption) | ((try simp only [castN]); first | (simp [g1]; done) | (simp [g1]; omega))) ?_)
    | ((with_reducible show NeedK _ _ _ _); refine NeedK.mk (by (try simp only [castN]); omega) ?_)
    | ((with_reducible show DrawK _ _ _ _); refine DrawK.mk (by kernel_rfl) (by kernel_rfl) (by kernel_rfl) ?_)
    | ((with_reducible show CallK _ _ 25 _ _ _ _); refine CallK.lit [] (f25_at hc) c25 ⟨rfl, trivial⟩ rfl rfl ?_)) <;> ((with_reducible conv => whnf); (with_reducible conv => congr <;> reduce); repeat ((first | (with_reducible refine HaltK.mk ?_) | (with_reducible refine StopK.mk ?_)); (with_reducible conv => whnf); (with_reducible conv => congr <;> reduce)))
    | ((with_reducible show (_ ∧ _) ∧ _ ∧ _); refine ⟨⟨rfl, rfl⟩, ?_, ?_⟩ <;> (with_reducible conv => whnf) <;> repeat' (first | (with_reducible exact trivial) | (with_reducible refine And.intro ?_ ?_ <;> with_reducible conv => whnf))))) <;> exact p1)
end Go.Proofs.DeskD
end
