/- Types as data, and the operations as functions on abstract states, part 1. By an AI agent. -/
import Derived.Test.YtgfbnphfgeeldaaAm10
namespace Go.Am

/-- What is known of a type. sc: one cell. bl: bool. st: a struct: its cells, its fields' places and types. ar: an array. sl: a slice: its element's type, cells, bytes. str: string. -/
inductive TI where
  | sc (z : Value)
  | bl
  | st (n : Nat) (fs : List (Nat × TypeId)) (z : Array Value) (szs : List Nat)
  | ar (n len : Nat) (e : TypeId) (wd : Nat) (z : Array Value)
  | sl (e : TypeId) (wd bytes : Nat)
  | str
  deriving Inhabited

def TI.ok (P : Program) (t : TypeId) : TI → Prop
  | .sc z => TScalar P t ∧ TSize P t 1 ∧ TZero P t z
  | .bl => TScalar P t ∧ TSize P t 1 ∧ TZero P t (.bool false) ∧ P.underlying t = some .bool
  | .st n fs z szs => TAgg P t ∧ TSize P t n ∧ TZero P t (.agg z) ∧ (∀ (f off : Nat) (ft : TypeId), fs[f]? = some (off, ft) → TFieldA P t f off ∧ TFieldV P t f off ft) ∧
      TBuild P t z (fun i => match fs[i]?, szs[i]? with | some (off, _), some sz => some (off, sz) | _, _ => none)
  | .ar n len e wd z => TAgg P t ∧ TSize P t n ∧ TZero P t (.agg z) ∧ TArray P t len e ∧ TSize P e wd
  | .sl e wd bytes => TScalar P t ∧ TSize P t 1 ∧ TZero P t (.slice none 0 0) ∧ TSize P e wd ∧ ∃ i z, TElem P t e wd bytes i z
  | .str => TScalar P t ∧ TSize P t 1 ∧ TZero P t (.string ByteArray.empty) ∧ P.underlying t = some .string

abbrev TEnv := List (Nat × TI)
def lookT : TEnv → Nat → Option TI
  | [], _ => none
  | (d, x) :: r, i => bif i == d then some x else lookT r i
def TEnv.Good (P : Program) (Γ : TEnv) : Prop := ∀ p ∈ Γ, TI.ok P p.1 p.2
theorem lookT_mem {Γ : TEnv} {t : Nat} {x : TI} (h : lookT Γ t = some x) : (t, x) ∈ Γ := by
  induction Γ with
  | nil => cases h
  | cons p r ih =>
    obtain ⟨d, y⟩ := p
    simp only [lookT] at h
    cases hb : t == d with
    | true =>
      have : t = d := by simpa using hb
      subst this
      rw [hb] at h; simp at h; subst h; simp
    | false => rw [hb] at h; exact List.mem_cons_of_mem _ (ih h)
theorem TEnv.Good.look {P : Program} {Γ : TEnv} (h : Γ.Good P) {t : Nat} {x : TI} (hx : lookT Γ t = some x) : TI.ok P t x := h _ (lookT_mem hx)

/-- States as lists. -/
def lookS : List (Nat × AV) → Nat → AV
  | [], _ => .any
  | (d, x) :: r, i => bif i == d then x else lookS r i
def lookM : List (Nat × MS) → Nat → MS
  | [], _ => .free
  | (d, x) :: r, i => bif i == d then x else lookM r i
def St (sl : List (Nat × AV)) (m : List (Nat × MS)) : AState := ⟨lookS sl, lookM m⟩
def pushS (dst : Option Nat) (x : AV) (sl : List (Nat × AV)) : List (Nat × AV) :=
  match dst with
  | none => sl
  | some d => (d, x) :: sl
def evO (sl : List (Nat × AV)) : Operand → AV
  | .tmp t => lookS sl t
  | .const v => .lit v
  | .global g => .lit (.pointer (some ⟨g, 0, none⟩))
  | .func f => .lit (.func (.func f) #[] #[])
theorem St_eval (sl : List (Nat × AV)) (m : List (Nat × MS)) (x : Operand) : (St sl m).eval x = evO sl x := by cases x <;> rfl

theorem St_upd (sl : List (Nat × AV)) (m ups : List (Nat × MS)) (dst : Option Nat) (x : AV) : (St sl m).upd dst x ups = St (pushS dst x sl) (ups ++ m) := by
  unfold St AState.upd
  congr 1
  · cases dst with
    | none => rfl
    | some d =>
      funext i
      simp only [putS, pushS, lookS]
      by_cases h : i = d
      · simp [h]
      · have h' : (i == d) = false := by simpa using h
        rw [if_neg h, h']; rfl
  · induction ups with
    | nil => rfl
    | cons p r ih =>
      obtain ⟨t, s⟩ := p
      funext u
      simp only [updM, List.cons_append, lookM]
      rw [ih]
      by_cases h : u = t
      · simp [h]
      · have h' : (u == t) = false := by simpa using h
        rw [if_neg h, h']; rfl

abbrev Tk := List (List Nat × List Nat)

/-- What a comparison or a sum of known values gives. -/
def binV : BinOp → Value → Value → Option Value
  | .add, .int k a, .int k' b => if k = k' then some (.int k (k.wrap (a + b))) else none
  | .sub, .int k a, .int k' b => if k = k' then some (.int k (k.wrap (a - b))) else none
  | .lss, .int k a, .int k' b => if k = k' then some (.bool (decide (a < b))) else none
  | .leq, .int k a, .int k' b => if k = k' then some (.bool (decide (a ≤ b))) else none
  | .gtr, .int k a, .int k' b => if k = k' then some (.bool (decide (b < a))) else none
  | .geq, .int k a, .int k' b => if k = k' then some (.bool (decide (b ≤ a))) else none
  | .eql, .int k a, .int k' b => if k = k' then some (.bool (a == b)) else none
  | .neq, .int k a, .int k' b => if k = k' then some (.bool (!(a == b))) else none
  | .eql, .string a, .string b => some (.bool (a.toList == b.toList))
  | .neq, .string a, .string b => some (.bool (!(a.toList == b.toList)))
  | _, _, _ => none
def binB : BinOp → Value → Value → Option Value
  | .eql, .bool a, .bool b => some (.bool (a == b))
  | .neq, .bool a, .bool b => some (.bool (!(a == b)))
  | _, _, _ => none

/-- A field, or a whole variable. -/
def loadA (ti : Option TI) (r : AV) (k : Nat) : Option AV :=
  match ti with
  | some (.sc _) => (cells r)[k]?
  | some .bl => (cells r)[k]?
  | some (.sl ..) => (cells r)[k]?
  | some .str => (cells r)[k]?
  | some (.st n ..) => if k = 0 ∧ (cells r).length = n ∧ isAggV r = true then some r else if k + n ≤ (cells r).length then some (.agg (((cells r).drop k).take n)) else none
  | some (.ar n ..) => if k = 0 ∧ (cells r).length = n ∧ isAggV r = true then some r else if k + n ≤ (cells r).length then some (.agg (((cells r).drop k).take n)) else none
  | none => none
def sizeA : Option TI → Option Nat
  | some (.sc _) => some 1
  | some .bl => some 1
  | some (.sl ..) => some 1
  | some .str => some 1
  | some (.st n ..) => some n
  | some (.ar n ..) => some n
  | none => none
def zeroA : Option TI → Option AV
  | some (.sc z) => match z with | .agg _ => none | z => some (.lit z)
  | some .bl => some (.lit (.bool false))
  | some (.sl ..) => some (.lit (.slice none 0 0))
  | some .str => some (.lit (.string ByteArray.empty))
  | some (.st _ _ z _) => some (.agg (z.toList.map .lit))
  | some (.ar _ _ _ _ z) => some (.agg (z.toList.map .lit))
  | none => none
def storeA (ti : Option TI) (r : AV) (k : Nat) (x : AV) : Option AV :=
  match sizeA ti with
  | some n => if (cells x).length = n ∧ oneL (cells x) = true ∧ x.solid = true then
      (if (cells r).length = n ∧ k = 0 then some x else if k + n ≤ (cells r).length then some (.agg (spliceL (cells r) k (cells x))) else none) else none
  | none => none

/-- len. -/
def lenA (Γ : TEnv) (sl : List (Nat × AV)) (c : Call) : Option (List Nat × AV × List (Nat × MS)) :=
  match c.callee, c.args.toList, c.argTypes.toList with
  | .builtin .len, [y], [t] => (match lookT Γ t with
    | some (.sl ..) => match evO sl y with
      | .own _ _ n => some ([], .lit (.int .i64 n), [])
      | .sl _ rows => some ([], .lit (.int .i64 rows.length), [])
      | .lit (.slice _ n _) => some ([], .lit (.int .i64 n), [])
      | _ => none
    | some .str => match evO sl y with
      | .lit (.string s) => some ([], .lit (.int .i64 s.size), [])
      | _ => none
    | _ => none)
  | _, _, _ => none

/-- A slice held against nil. -/
def eqNilA (op : BinOp) (ti : Option TI) (n : Nat) : Option (List Nat × AV × List (Nat × MS)) :=
  match ti, op with
  | some (.sl ..), .eql => some ([], .guess (n = 0) True, [])
  | some (.sl ..), .neq => some ([], .guess True (n = 0), [])
  | _, _ => none

/-- The abstract effect of the plain operations: the objects that are read, the value, what becomes of objects. New objects are named 10 times the slot. -/
def plainA (Γ : TEnv) (sl : List (Nat × AV)) (m : List (Nat × MS)) (dst : Option Nat) (op : Op) : Option (List Nat × AV × List (Nat × MS)) :=
  match op with
  | .move y => some ([], evO sl y, [])
  | .assign y => some ([], evO sl y, [])
  | .pick c y z => match evO sl c with
    | .lit (.bool b) => some ([], if b then evO sl y else evO sl z, [])
    | _ => none
  | .extract y i => match evO sl y with
    | .tup vs => (vs[i]?).map fun x => ([], x, [])
    | _ => none
  | .field t y f => match evO sl y, lookT Γ t with
    | .agg cs, some (.st _ fs _ _) => match fs[f]? with
      | some (off, ft) => (loadA (lookT Γ ft) (.agg cs) off).map fun x => ([], x, [])
      | none => none
    | _, _ => none
  | .load t y => match evO sl y with
    | .ptr tk i k => match lookM m tk with
      | .live _ rows _ => match rows[i]? with
        | some r => (loadA (lookT Γ t) r k).map fun x => ([tk], x, [])
        | none => none
      | _ => none
    | .fptr r k => (loadA (lookT Γ t) r k).map fun x => ([], x, [])
    | _ => none
  | .fieldAddr t y f => match lookT Γ t with
    | some (.st _ fs _ _) => match fs[f]? with
      | some (off, _) => match evO sl y with
        | .ptr tk i k => some ([], .ptr tk i (k + off), [])
        | .fptr r k => some ([], .fptr r (k + off), [])
        | _ => none
      | none => none
    | _ => none
  | .nilCheck y => match evO sl y with
    | .ptr tk i k => some ([], .ptr tk i k, [])
    | .fptr r k => some ([], .fptr r k, [])
    | _ => none
  | .store t y z => match dst with
    | none => match evO sl y with
      | .ptr tk i k => match lookM m tk with
        | .live wd rows false => match rows[i]? with
          | some r => match storeA (lookT Γ t) r k (evO sl z) with
            | some r' => some ([tk], .any, [(tk, .live wd (rows.set i r') false)])
            | none => none
          | none => none
        | _ => none
      | _ => none
    | some _ => none
  | .box _ y => match dst with
    | some d => match lookM m (10 * d) with
      | .free => if (evO sl y).solid then some ([10 * d], .ptr (10 * d) 0 0, [(10 * d, .live (cells (evO sl y)).length [evO sl y] false)]) else none
      | _ => none
    | none => none
  | .alloc t => match dst with
    | some d => match lookM m (10 * d) with
      | .free => match zeroA (lookT Γ t) with
        | some x => some ([10 * d], .ptr (10 * d) 0 0, [(10 * d, .live (cells x).length [x] false)])
        | none => none
      | _ => none
    | none => none
  | .makeFunc fn first cap => some ([], .clo fn (first.toList.map (evO sl)) (cap.toList.map (evO sl)), [])
  | .binOp op t y z _ => match evO sl y, evO sl z with
    | .own _ _ n, .lit (.slice none 0 0) => eqNilA op (lookT Γ t) n
    | .sl _ rows, .lit (.slice none 0 0) => eqNilA op (lookT Γ t) rows.length
    | .lit a, .lit b => match lookT Γ t with
      | some .bl => (binB op a b).map fun r => ([], .lit r, [])
      | _ => (binV op a b).map fun r => ([], .lit r, [])
    | _, _ => none
  | .unOp .not _ y => match evO sl y with
    | .lit (.bool b) => some ([], .lit (.bool (!b)), [])
    | _ => none
  | .build t parts => match lookT Γ t with
    | some (.st _ fs z szs) => (fillA (fun i => match fs[i]?, szs[i]? with | some (off, _), some sz => some (off, sz) | _, _ => none) (z.toList.map .lit) (parts.toList.map fun p => (p.1, evO sl p.2))).map fun cs => ([], .agg cs, [])
    | _ => none
  | .call c => lenA Γ sl c
  | _ => none

section
variable {P : Program} {N : Nat} {Γ : TEnv}

theorem loadA_ok (hΓ : Γ.Good P) {t : TypeId} {r x : AV} {k : Nat} (h : loadA (lookT Γ t) r k = some x) : Loads P t r k x := by
  cases ht : lookT Γ t with
  | none => rw [ht] at h; cases h
  | some ti =>
    have ok := hΓ.look ht
    rw [ht] at h
    cases ti with
    | sc z => exact .scalar ok.1 h
    | bl => exact .scalar ok.1 h
    | sl e wd b => exact .scalar ok.1 h
    | str => exact .scalar ok.1 h
    | st n fs z szs =>
      simp only [loadA] at h
      split at h
      · rename_i hc; cases h; exact .full ok.1 ok.2.1 hc.1 hc.2.1 hc.2.2
      · split at h
        · rename_i hc; cases h; exact .part ok.1 ok.2.1 hc
        · cases h
    | ar n len e wd z =>
      simp only [loadA] at h
      split at h
      · rename_i hc; cases h; exact .full ok.1 ok.2.1 hc.1 hc.2.1 hc.2.2
      · split at h
        · rename_i hc; cases h; exact .part ok.1 ok.2.1 hc
        · cases h
theorem sizeA_ok (hΓ : Γ.Good P) {t : TypeId} {n : Nat} (h : sizeA (lookT Γ t) = some n) : TSize P t n := by
  cases ht : lookT Γ t with
  | none => rw [ht] at h; cases h
  | some ti =>
    have ok := hΓ.look ht
    rw [ht] at h
    cases ti <;> (simp only [sizeA, Option.some.injEq] at h; subst h; exact ok.2.1)
theorem zeroA_ok (hΓ : Γ.Good P) {t : TypeId} {x : AV} (h : zeroA (lookT Γ t) = some x) : ∃ z, TZero P t z ∧ x = ofVal z := by
  cases ht : lookT Γ t with
  | none => rw [ht] at h; cases h
  | some ti =>
    have ok := hΓ.look ht
    rw [ht] at h
    cases ti with
    | sc z =>
      refine ⟨z, ok.2.2, ?_⟩
      cases z <;> simp only [zeroA, Option.some.injEq, reduceCtorEq] at h <;> (subst h; rfl)
    | bl => simp only [zeroA, Option.some.injEq] at h; exact ⟨_, ok.2.2.1, h ▸ rfl⟩
    | sl e wd b => simp only [zeroA, Option.some.injEq] at h; exact ⟨_, ok.2.2.1, h ▸ rfl⟩
    | str => simp only [zeroA, Option.some.injEq] at h; exact ⟨_, ok.2.2.1, h ▸ rfl⟩
    | st n fs z szs => simp only [zeroA, Option.some.injEq] at h; exact ⟨_, ok.2.2.1, h ▸ rfl⟩
    | ar n len e wd z => simp only [zeroA, Option.some.injEq] at h; exact ⟨_, ok.2.2.1, h ▸ rfl⟩
theorem storeA_ok (hΓ : Γ.Good P) {t : TypeId} {r x r' : AV} {k : Nat} (h : storeA (lookT Γ t) r k x = some r') : Stores P t r k x r' ∧ oneL (cells x) = true ∧ x.solid = true := by
  unfold storeA at h
  cases hn : sizeA (lookT Γ t) with
  | none => rw [hn] at h; cases h
  | some n =>
    rw [hn] at h
    simp only at h
    split at h
    · rename_i hc
      refine ⟨?_, hc.2.1, hc.2.2⟩
      split at h
      · rename_i h1; cases h; exact .full (sizeA_ok hΓ hn) hc.1 h1.1 h1.2
      · split at h
        · rename_i h2; cases h; exact .part (sizeA_ok hΓ hn) hc.1 h2
        · cases h
    · cases h

theorem binV_run {op : BinOp} {a b r : Value} (h : binV op a b = some r) (t : TypeId) (y z : Operand) (w : World) : ((do eqGuard op t y z a b; binOp op t a b : Sem Value)).run P w = .ok r w := by
  unfold binV at h
  split at h
  all_goals first
    | (split at h
       · rename_i hk; subst hk; cases h
         simp [eqGuard, binOp, Op.intArith, Op.intCmp, bne]
       · cases h)
    | (cases h; simp [eqGuard, binOp, Op.stringOp]; done)
    | cases h
theorem equal_bool {t : TypeId} (ht : P.underlying t = some .bool) (x y : Bool) (w : World) : (Op.equal t (.bool x) (.bool y)).run P w = .ok (x == y) w := by
  show (Op.equalIn (9999 + 1) t (.bool x) (.bool y)).run P w = _
  rw [Op.equalIn]
  simp [run_underlying ht]
theorem binB_run {op : BinOp} {a b r : Value} {t : TypeId} (ht : P.underlying t = some .bool) (h : binB op a b = some r) (y z : Operand) (w : World) : ((do eqGuard op t y z a b; binOp op t a b : Sem Value)).run P w = .ok r w := by
  unfold binB at h
  split at h
  all_goals first
    | (cases h; simp [eqGuard, binOp, equal_bool ht]; done)
    | cases h
end
end Go.Am
