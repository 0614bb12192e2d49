/- Walks of functions by unfolding over abstract states; runs of functions by an evaluator that is proved. By an AI agent. -/
import Derived.Test.YtkhjcnjicjgfiaaGreatDoorW3
set_option linter.unusedSimpArgs false
set_option linter.unusedVariables false
namespace Go.Am
open Go
inductive Tr (α : Type) where
  | nil
  | node (l : Tr α) (v : Option α) (r : Tr α)
namespace Tr
variable {α : Type}
def get : Tr α → Nat → Option α
  | .nil, _ => none
  | .node l v r, n => match n with
    | 0 => v
    | n + 1 => match Nat.beq (Nat.mod n 2) 0 with
      | true => get l (Nat.div n 2)
      | false => get r (Nat.div n 2)
def lft : Tr α → Tr α
  | .nil => .nil
  | .node l _ _ => l
def rgt : Tr α → Tr α
  | .nil => .nil
  | .node _ _ r => r
def val : Tr α → Option α
  | .nil => none
  | .node _ v _ => v
def putF : Nat → Tr α → Nat → α → Tr α
  | 0, t, _, _ => t
  | f + 1, t, n, x => match n with
    | 0 => .node (lft t) (some x) (rgt t)
    | n + 1 => match Nat.beq (Nat.mod n 2) 0 with
      | true => .node (putF f (lft t) (Nat.div n 2) x) (val t) (rgt t)
      | false => .node (lft t) (val t) (putF f (rgt t) (Nat.div n 2) x)
theorem get_eta (t : Tr α) (k : Nat) : t.get k = (Tr.node (lft t) (val t) (rgt t)).get k := by
  cases t with
  | nil =>
    cases k with
    | zero => rfl
    | succ k => simp only [get, lft, rgt]; cases Nat.beq (Nat.mod k 2) 0 <;> rfl
  | node l v r => rfl
def put (t : Tr α) (n : Nat) (x : α) : Tr α := putF (n + 1) t n x
theorem half_ne {a b : Nat} (h1 : Nat.beq (Nat.mod a 2) 0 = Nat.beq (Nat.mod b 2) 0) (h2 : Nat.div a 2 = Nat.div b 2) : a = b := by
  have e1 : Nat.mod a 2 = a % 2 := rfl
  have e2 : Nat.mod b 2 = b % 2 := rfl
  have e3 : Nat.div a 2 = a / 2 := rfl
  have e4 : Nat.div b 2 = b / 2 := rfl
  rw [e1, e2] at h1
  rw [e3, e4] at h2
  have hb : ∀ c : Nat, Nat.beq (c % 2) 0 = true ∨ Nat.beq (c % 2) 0 = false := fun c => by cases Nat.beq (c % 2) 0 <;> simp
  have ht : ∀ c : Nat, Nat.beq (c % 2) 0 = true → c % 2 = 0 := fun c h => Nat.eq_of_beq_eq_true h
  have hf : ∀ c : Nat, Nat.beq (c % 2) 0 = false → c % 2 ≠ 0 := fun c h e => by rw [e] at h; simp at h
  rcases hb a with ha | ha
  · rw [ha] at h1
    have := ht a ha
    have := ht b h1.symm
    omega
  · rw [ha] at h1
    have := hf a ha
    have := hf b h1.symm
    omega
theorem get_putF : ∀ (f : Nat) (t : Tr α) (n : Nat) (x : α) (k : Nat), n < f → (putF f t n x).get k = if k = n then some x else t.get k
  | 0, _, _, _, _, h => by omega
  | f + 1, t, 0, x, k, _ => by
    rw [get_eta t k]
    cases k with
    | zero => rfl
    | succ k => rw [if_neg (by omega)]; rfl
  | f + 1, t, n + 1, x, k, h => by
    have hlt : Nat.div n 2 < f := by have : n / 2 ≤ n := Nat.div_le_self _ _; show n / 2 < f; omega
    have ihl := fun k => get_putF f (lft t) (Nat.div n 2) x k hlt
    have ihr := fun k => get_putF f (rgt t) (Nat.div n 2) x k hlt
    rw [get_eta t k]
    cases hn : Nat.beq (Nat.mod n 2) 0 with
    | true =>
      have e : putF (f + 1) t (n + 1) x = .node (putF f (lft t) (Nat.div n 2) x) (val t) (rgt t) := by simp only [putF, hn]
      rw [e]
      cases k with
      | zero => rw [if_neg (by omega)]; rfl
      | succ k =>
        simp only [get]
        cases hk : Nat.beq (Nat.mod k 2) 0 with
        | true =>
          simp only [ihl]
          by_cases e : Nat.div k 2 = Nat.div n 2
          · rw [if_pos e, if_pos (by rw [half_ne (by rw [hk, hn]) e])]
          · rw [if_neg e, if_neg (fun h => e (by rw [Nat.succ.inj h]))]
        | false => rw [if_neg (fun h => by rw [Nat.succ.inj h, hn] at hk; cases hk)]
    | false =>
      have e : putF (f + 1) t (n + 1) x = .node (lft t) (val t) (putF f (rgt t) (Nat.div n 2) x) := by simp only [putF, hn]
      rw [e]
      cases k with
      | zero => rw [if_neg (by omega)]; rfl
      | succ k =>
        simp only [get]
        cases hk : Nat.beq (Nat.mod k 2) 0 with
        | false =>
          simp only [ihr]
          by_cases e : Nat.div k 2 = Nat.div n 2
          · rw [if_pos e, if_pos (by rw [half_ne (by rw [hk, hn]) e])]
          · rw [if_neg e, if_neg (fun h => e (by rw [Nat.succ.inj h]))]
        | true => rw [if_neg (fun h => by rw [Nat.succ.inj h, hn] at hk; cases hk)]
theorem get_put (t : Tr α) (n : Nat) (x : α) (k : Nat) : (t.put n x).get k = if k = n then some x else t.get k := get_putF _ _ _ _ _ (Nat.lt_succ_self n)
end Tr
structure ES where
  sl : Tr AV
  m : Tr MS
  nx : Nat
def evE (S : ES) : Operand → AV
  | .tmp t => match S.sl.get t with
    | some x => x
    | none => .any
  | .const v => .lit v
  | .global g => .lit (.pointer (some ⟨g, 0, none⟩))
  | .func f => .lit (.func (.func f) #[] #[])
def mE (S : ES) (t : Nat) : MS := match S.m.get t with
  | some s => s
  | none => .free
def den (S : ES) : AState := ⟨fun i => evE S (.tmp i), mE S⟩
theorem ev_den (S : ES) (y : Operand) : (den S).eval y = evE S y := by cases y <;> rfl
theorem mem_den (S : ES) (t : Nat) : (den S).mem t = mE S t := rfl
def putsE (m : Tr MS) : ML → Tr MS
  | [] => m
  | (k, s) :: r => (putsE m r).put k s
def pushE (sl : Tr AV) (dst : Option Nat) (x : AV) : Tr AV := match dst with
  | none => sl
  | some d => sl.put d x
def applyE (S : ES) (dst : Option Nat) (x : AV) (ups : ML) (nx : Nat) : ES := ⟨pushE S.sl dst x, putsE S.m ups, nx⟩
theorem putsE_get (m : Tr MS) : ∀ (ups : ML) (t : Nat), (match (putsE m ups).get t with | some s => s | none => .free : MS) = updM (fun t => match m.get t with | some s => s | none => .free) ups t
  | [], t => rfl
  | (k, s) :: r, t => by
    simp only [putsE, Tr.get_put, updM]
    by_cases h : t = k
    · simp [h]
    · rw [if_neg h, if_neg h]; exact putsE_get m r t
theorem den_apply (S : ES) (dst : Option Nat) (x : AV) (ups : ML) (nx : Nat) : den (applyE S dst x ups nx) = (den S).upd dst x ups := by
  unfold den AState.upd
  congr 1
  · funext i
    cases dst with
    | none => rfl
    | some d =>
      simp only [applyE, pushE, evE, Tr.get_put, putS]
      by_cases h : i = d
      · simp [h]
      · simp [h]
  · funext t
    exact putsE_get S.m ups t
theorem EffOK.congr {P : Program} {N : Nat} {o : Oper} {σ σ' : AState} {rd : List Nat} {x : AV} {ups : ML} (h : EffOK P N o σ rd x ups) (h1 : ∀ y ∈ o.op.operands, σ'.eval y = σ.eval y) (h2 : ∀ t ∈ rd, σ'.mem t = σ.mem t) : EffOK P N o σ' rd x ups :=
  fun σ2 a b => h σ2 (fun y hy => (a y hy).trans (h1 y hy)) (fun t ht => (b t ht).trans (h2 t ht))
def smallS (S : ES) : List Operand → SL
  | [] => []
  | y :: r => match y with
    | .tmp t => (t, evE S (.tmp t)) :: smallS S r
    | _ => smallS S r
theorem smallS_ev (S : ES) : ∀ (ys : List Operand) (y : Operand), y ∈ ys → evB (smallS S ys) y = evE S y := by
  intro ys y hy
  cases y with
  | tmp t =>
    induction ys with
    | nil => cases hy
    | cons z r ih =>
      have tail : Operand.tmp t ∈ r → evB (smallS S r) (.tmp t) = evE S (.tmp t) := ih
      cases z with
      | tmp u =>
        show lkS ((u, evE S (.tmp u)) :: smallS S r) t = _
        unfold lkS
        cases hb : Nat.beq t u with
        | true => rw [beq_eq hb]
        | false =>
          refine tail ?_
          rcases List.mem_cons.1 hy with h | h
          · cases h; rw [Nat.beq_refl] at hb; cases hb
          · exact h
      | _ =>
        refine tail ?_
        rcases List.mem_cons.1 hy with h | h
        · cases h
        · exact h
  | _ => rfl
def refOf : AV → Option Nat
  | .own t _ _ => some t
  | .ptr t _ _ => some t
  | .mapr t => some t
  | _ => none
def smallM (S : ES) : List Operand → ML
  | [] => []
  | y :: r => match refOf (evE S y) with
    | some t => (t, mE S t) :: smallM S r
    | none => smallM S r
def keyIn (t : Nat) : ML → Bool
  | [] => false
  | (k, _) :: r => match Nat.beq t k with
    | true => true
    | false => keyIn t r
theorem smallM_get (S : ES) : ∀ (ys : List Operand) (t : Nat), keyIn t (smallM S ys) = true → lkM (smallM S ys) t = mE S t
  | [], t, h => by cases h
  | y :: r, t, h => by
    unfold smallM at h ⊢
    cases hr : refOf (evE S y) with
    | none => rw [hr] at h; exact smallM_get S r t h
    | some u =>
      rw [hr] at h
      simp only [keyIn, lkM] at h ⊢
      cases hb : Nat.beq t u with
      | true => rw [beq_eq hb]
      | false => rw [hb] at h; exact smallM_get S r t h
abbrev ER := List Nat × AV × ML × Nat
def opsOf (o : Oper) : List Operand := o.op.operands.toList
def allKeys (m : ML) : List Nat → Bool
  | [] => true
  | t :: r => match keyIn t m with
    | true => allKeys m r
    | false => false
theorem allKeys_ok {m : ML} : ∀ {l : List Nat}, allKeys m l = true → ∀ t ∈ l, keyIn t m = true
  | [], _, t, h => by cases h
  | u :: r, h, t, ht => by
    simp only [allKeys] at h
    split at h
    · rename_i hu
      rcases List.mem_cons.1 ht with h' | h'
      · rw [h']; exact hu
      · exact allKeys_ok h t h'
    · cases h
def plainE (Γ : TEnv) (S : ES) (o : Oper) : Option ER :=
  match plainR Γ (smallS S (opsOf o)) (smallM S (opsOf o)) o.dst o.op with
  | some (rd, x, ups) => match allKeys (smallM S (opsOf o)) rd with
    | true => some (rd, x, ups, S.nx)
    | false => none
  | none => none
section
variable {P : Program} {N : Nat} {Γ : TEnv} {o : Oper} {S : ES}
def EffE (P : Program) (N : Nat) (o : Oper) (S : ES) (q : ER) : Prop := EffOK P N o (den S) q.1 q.2.1 q.2.2.1
theorem plainE_ok (hΓ : Γ.Good P) (hd : dstok N o.dst = true) {q : ER} (h : plainE Γ S o = some q) : EffE P N o S q := by
  unfold plainE at h
  split at h
  · rename_i rd x ups hp
    split at h
    · rename_i hk
      cases h
      have h1 : optK P N o [] (smallS S (opsOf o)) (smallM S (opsOf o)) (fun rd' x' ups' _ _ _ => rd' = rd ∧ x' = x ∧ ups' = ups) (plainR Γ (smallS S (opsOf o)) (smallM S (opsOf o)) o.dst o.op) := by
        rw [hp]; exact ⟨rfl, rfl, rfl⟩
      obtain ⟨rd', x', ups', h2, rfl, rfl, rfl⟩ := optK_ok hΓ hd h1
      refine h2.congr (fun y hy => ?_) (fun t ht => ?_)
      · rw [ev_den, ev_eq, smallS_ev S _ y (by simpa [opsOf] using hy)]
      · rw [mem_den, mem_eq, smallM_get S _ t (allKeys_ok hk t ht)]
    · cases h
  · cases h
end
end Go.Am
namespace Go.Am
open Go Go.RowKit Go.Lib MapKept
def intE : AV → Option Nat
  | .lit (.int _ (.ofNat k)) => some k
  | _ => none
theorem intE_ok {x : AV} {k : Nat} (h : intE x = some k) : ∃ kd, x = .lit (.int kd (k : Int)) := by
  unfold intE at h
  split at h
  · cases h; exact ⟨_, rfl⟩
  · cases h
def boundE (S : ES) (d : Nat) : Option Operand → Option Nat
  | none => some d
  | some z => intE (evE S z)
theorem boundE_ok {S : ES} {d l : Nat} {lo : Option Operand} (h : boundE S d lo = some l) : lo = none ∧ l = d ∨ ∃ z k, lo = some z ∧ (den S).eval z = .lit (.int k (l : Nat)) := by
  cases lo with
  | none => cases h; exact .inl ⟨rfl, rfl⟩
  | some z =>
    obtain ⟨kd, hk⟩ := intE_ok h
    exact .inr ⟨z, kd, rfl, by rw [ev_den]; exact hk⟩
def idxE (Γ : TEnv) (S : ES) (t : TypeId) (y z : Operand) : Option ER :=
  match lkT Γ t, evE S y, intE (evE S z) with
  | some (.sl _ wd _), .own tk off len, some i => match mE S tk with
    | .live wd' _ _ => match Nat.beq wd wd', Nat.ble (i + 1) len with
      | true, true => some ([tk], .ptr tk (off + i) 0, [], S.nx)
      | _, _ => none
    | _ => none
  | some (.sl _ wd _), .sl wd' rows, some i => match Nat.beq wd wd', getR rows i with
    | true, some r => some ([], .fptr r 0, [], S.nx)
    | _, _ => none
  | some (.ar _ len _ wd _), .ptr tk i0 k0, some i => match Nat.ble (i + 1) len with
    | true => some ([], .ptr tk i0 (k0 + i * wd), [], S.nx)
    | false => none
  | _, _, _ => none
def cutE (Γ : TEnv) (S : ES) (t : TypeId) (y : Operand) (lo hi mx : Option Operand) : Option ER :=
  match mx with
  | none => match lkT Γ t, evE S y with
    | some (.sl _ wd _), .own tk off len => match mE S tk, boundE S 0 lo, boundE S len hi with
      | .live wd' _ _, some l, some h => match Nat.beq wd wd', Nat.ble l h, Nat.ble h len with
        | true, true, true => some ([tk], .own tk (off + l) (h - l), [], S.nx)
        | _, _, _ => none
      | _, _, _ => none
    | some (.sl _ wd _), .sl wd' rows => match boundE S 0 lo, boundE S rows.length hi with
      | some l, some h => match Nat.beq wd wd', Nat.ble l h, Nat.ble h rows.length with
        | true, true, true => some ([], .sl wd' ((rows.drop l).take (h - l)), [], S.nx)
        | _, _, _ => none
      | _, _ => none
    | some .str, .lit (.string s) => match boundE S 0 lo, boundE S s.size hi with
      | some l, some h => match Nat.ble l h, Nat.ble h s.size with
        | true, true => some ([], .lit (.string (s.extract l h)), [], S.nx)
        | _, _ => none
      | _, _ => none
    | _, _ => none
  | some mx => match lo, hi with
    | none, some hi => match lkT Γ t, intE (evE S hi), intE (evE S mx) with
      | some (.sl _ _ _), some 0, some 0 => match evE S y with
        | .own _ _ _ => some ([], .emp, [], S.nx)
        | .sl _ _ => some ([], .emp, [], S.nx)
        | .emp => some ([], .emp, [], S.nx)
        | .lit v => match nilV v with
          | true => some ([], .emp, [], S.nx)
          | false => none
        | _ => none
      | _, _, _ => none
    | _, _ => none
def freeE (S : ES) : Bool := match mE S S.nx with
  | .free => true
  | _ => false
theorem freeE_ok {S : ES} (h : freeE S = true) : (den S).mem S.nx = .free := by
  unfold freeE at h
  rw [mem_den]
  split at h
  · assumption
  · cases h
def litE (Γ : TEnv) (S : ES) (t : TypeId) (len : Nat) (parts : List (Nat × Operand)) : Option ER :=
  match lkT Γ t with
  | some (.sl _ wd _) => match freeE S, inOrderB wd 0 (parts.map fun p => (p.1, evE S p.2)), Nat.beq parts.length len, Nat.ble (len * wd) 16777216 with
    | true, true, true, true => some ([S.nx], .own S.nx 0 len, [(S.nx, .live wd (parts.map fun p => evE S p.2) false)], S.nx + 1)
    | _, _, _, _ => none
  | _ => none
def baseE (S : ES) (wd : Nat) : AV → Option (List AV × List Nat)
  | .own t off len => match mE S t with
    | .live wd' rows false => match Nat.beq wd wd', Nat.ble (off + len) rows.length with
      | true, true => some ((rows.drop off).take len, [t])
      | _, _ => none
    | _ => none
  | .emp => some ([], [])
  | .lit v => match nilV v with
    | true => some ([], [])
    | false => none
  | _ => none
def srcE (S : ES) (wd : Nat) : AV → Option (List AV × List Nat)
  | .own t off len => match mE S t with
    | .live wd' rows _ => match Nat.beq wd wd', Nat.ble (off + len) rows.length with
      | true, true => some ((rows.drop off).take len, [t])
      | _, _ => none
    | _ => none
  | .sl wd' rows => match Nat.beq wd wd' with
    | true => some (rows, [])
    | false => none
  | .emp => some ([], [])
  | .lit v => match nilV v with
    | true => some ([], [])
    | false => none
  | _ => none
def appE (Γ : TEnv) (S : ES) (y z : Operand) (t t2 : TypeId) : Option ER :=
  match lkT Γ t, lkT Γ t2 with
  | some (.sl _ wd bytes), some (.sl _ _ _) => match freeE S, baseE S wd (evE S y), srcE S wd (evE S z) with
    | true, some (rows0, k), some (news, rd) => match oneL (flat news), Nat.ble ((rows0.length + news.length) * bytes) 140737488355328, Nat.ble (rows0.length + news.length) 9223372036854775807 with
      | true, true, true => some (S.nx :: (k ++ rd), .own S.nx 0 (rows0 ++ news).length, (S.nx, .live wd (rows0 ++ news) false) :: k.map fun t => (t, .dead), S.nx + 1)
      | _, _, _ => none
    | _, _, _ => none
  | _, _ => none
def allocE (Γ : TEnv) (S : ES) (t : TypeId) : Option ER :=
  match zeroA (lookT Γ t), freeE S with
  | some x, true => some ([S.nx], .ptr S.nx 0 0, [(S.nx, .live (cells x).length [x] false)], S.nx + 1)
  | _, _ => none
def boxE (S : ES) (y : Operand) : Option ER :=
  match (evE S y).solid, freeE S with
  | true, true => some ([S.nx], .ptr S.nx 0 0, [(S.nx, .live (cells (evE S y)).length [evE S y] false)], S.nx + 1)
  | _, _ => none
section
variable {P : Program} {N : Nat} {Γ : TEnv} {o : Oper} {S : ES} {q : ER}
theorem idxE_ok (hΓ : Γ.Good P) (hd : dstok N o.dst = true) {t : TypeId} {y z : Operand} (ho : o.op = .indexAddr t y z) (h : idxE Γ S t y z = some q) : EffE P N o S q := by
  unfold idxE at h
  split at h
  · rename_i e wd b tk off len i ht hy hz
    rw [lkT_eq] at ht
    have ok := hΓ.look ht
    obtain ⟨_, _, te⟩ := ok.2.2.2.2
    obtain ⟨kd, hz'⟩ := intE_ok hz
    split at h
    · rename_i wd' rows ro hm
      split at h
      · rename_i h1 h2
        cases h
        have hw := beq_eq h1
        subst hw
        have := EffOK.index_own (P := P) (N := N) (σ := den S) ho (by rw [ev_den]; exact hy) (by rw [ev_den]; exact hz') te.ty ok.2.2.2.1 (Int.natCast_nonneg i) (by have := ble_le h2; omega) ⟨_, _, by rw [mem_den]; exact hm⟩ (dstok_spec hd)
        unfold EffE; simpa using this
      · cases h
    · cases h
  · rename_i e wd b wd' rows i ht hy hz
    rw [lkT_eq] at ht
    have ok := hΓ.look ht
    obtain ⟨_, _, te⟩ := ok.2.2.2.2
    obtain ⟨kd, hz'⟩ := intE_ok hz
    split at h
    · rename_i r h1 h2
      cases h
      have hw := beq_eq h1
      subst hw
      rw [getR_eq] at h2
      exact EffOK.index_sl (P := P) (N := N) (σ := den S) ho (by rw [ev_den]; exact hy) (by rw [ev_den]; exact hz') te.ty ok.2.2.2.1 (Int.natCast_nonneg i) (by simpa using h2) (dstok_spec hd)
    · cases h
  · rename_i n len e wd z0 tk i0 k0 i ht hy hz
    rw [lkT_eq] at ht
    have ok := hΓ.look ht
    obtain ⟨kd, hz'⟩ := intE_ok hz
    split at h
    · rename_i h1
      cases h
      have := EffOK.index_arr (P := P) (N := N) (σ := den S) ho (by rw [ev_den]; exact hy) (by rw [ev_den]; exact hz') ok.2.2.2.1 ok.2.2.2.2 (Int.natCast_nonneg i) (by have := ble_le h1; omega) (dstok_spec hd)
      unfold EffE; simpa using this
    · cases h
  · cases h
theorem cutE_ok (hΓ : Γ.Good P) (hd : dstok N o.dst = true) {t : TypeId} {y : Operand} {lo hi mx : Option Operand} (ho : o.op = .slice t y lo hi mx) (h : cutE Γ S t y lo hi mx = some q) : EffE P N o S q := by
  cases mx with
  | none =>
    simp only [cutE] at h
    split at h
    · rename_i e wd b tk off len ht hy
      rw [lkT_eq] at ht
      have ok := hΓ.look ht
      obtain ⟨_, _, te⟩ := ok.2.2.2.2
      split at h
      · rename_i wd' rows ro l hh hm hl hhh
        split at h
        · rename_i h1 h2 h3
          cases h
          have hw := beq_eq h1
          subst hw
          exact EffOK.slice_own (P := P) (N := N) (σ := den S) ho (by rw [ev_den]; exact hy) (boundE_ok hl) (boundE_ok hhh) (ble_le h2) (ble_le h3) te.ty ok.2.2.2.1 ⟨_, _, by rw [mem_den]; exact hm⟩ (dstok_spec hd)
        · cases h
      · cases h
    · rename_i e wd b wd' rows ht hy
      rw [lkT_eq] at ht
      have ok := hΓ.look ht
      obtain ⟨_, _, te⟩ := ok.2.2.2.2
      split at h
      · rename_i l hh hl hhh
        split at h
        · rename_i h1 h2 h3
          cases h
          have hw := beq_eq h1
          subst hw
          exact EffOK.slice_sl (P := P) (N := N) (σ := den S) ho (by rw [ev_den]; exact hy) (boundE_ok hl) (boundE_ok hhh) (ble_le h2) (ble_le h3) te.ty ok.2.2.2.1 (dstok_spec hd)
        · cases h
      · cases h
    · rename_i s ht hy
      rw [lkT_eq] at ht
      have ok := hΓ.look ht
      split at h
      · rename_i l hh hl hhh
        split at h
        · rename_i h2 h3
          cases h
          exact EffOK.cutStr (P := P) (N := N) (σ := den S) ho (by rw [ev_den]; exact hy) ok.2.2.2 (boundE_ok hl) (boundE_ok hhh) (ble_le h2) (ble_le h3) (dstok_spec hd)
        · cases h
      · cases h
    · cases h
  | some mx =>
    simp only [cutE] at h
    split at h
    · rename_i hi
      split at h
      · rename_i e wd b ht h1 h2
        rw [lkT_eq] at ht
        have ok := hΓ.look ht
        obtain ⟨_, _, te⟩ := ok.2.2.2.2
        obtain ⟨k1, h1'⟩ := intE_ok h1
        obtain ⟨k2, h2'⟩ := intE_ok h2
        have base : ∀ x, evE S y = x → ((∃ tk off len, x = .own tk off len) ∨ (∃ wd rows, x = .sl wd rows) ∨ x = .emp ∨ x = .lit (.slice none 0 0)) → EffE P N o S ([], .emp, [], S.nx) := fun x hy hx =>
          EffOK.slice3 (P := P) (N := N) (σ := den S) ho (by rw [ev_den]; exact hy) hx (by rw [ev_den]; exact h1') (by rw [ev_den]; exact h2') te.ty ⟨_, ok.2.2.2.1⟩ (dstok_spec hd)
        split at h
        · rename_i hy; cases h; exact base _ hy (.inl ⟨_, _, _, rfl⟩)
        · rename_i hy; cases h; exact base _ hy (.inr (.inl ⟨_, _, rfl⟩))
        · rename_i hy; cases h; exact base _ hy (.inr (.inr (.inl rfl)))
        · rename_i hy
          split at h
          · rename_i hn; cases h; rw [nilV_ok hn] at hy; exact base _ hy (.inr (.inr (.inr rfl)))
          · cases h
        · cases h
      · cases h
    · cases h
theorem litE_ok (hΓ : Γ.Good P) (hd : dstok N o.dst = true) {t : TypeId} {len : Nat} {parts : Array (Nat × Operand)} (ho : o.op = .buildSlice t len parts) (h : litE Γ S t len parts.toList = some q) : EffE P N o S q := by
  unfold litE at h
  split at h
  · rename_i e wd bytes ht
    rw [lkT_eq] at ht
    have ok := hΓ.look ht
    obtain ⟨i, z', te⟩ := ok.2.2.2.2
    split at h
    · rename_i g0 g1 g2 g3
      cases h
      have g1' := inOrderB_ok g1
      have g2' : parts.toList.length = len := beq_eq g2
      have g3' : len * wd ≤ 16777216 := ble_le g3
      have hev : (fun p : Nat × Operand => (p.1, evE S p.2)) = fun p => (p.1, (den S).eval p.2) := by funext p; rw [ev_den]
      rw [hev] at g1'
      have hfi := fill_inOrder _ 0 [] g1' (by simp)
      have hmap : (parts.toList.map fun p => evE S p.2) = (parts.toList.map fun p => (p.1, (den S).eval p.2)).map (·.2) := by
        rw [List.map_map]; apply List.map_congr_left; intro p _; simp [ev_den]
      have := EffOK.buildSlice (P := P) (N := N) (σ := den S) (tk := S.nx) ho te g3' (rows := (parts.toList.map fun p => (p.1, (den S).eval p.2)).map (·.2)) (by simp [← g2']) (inOrder_wide _ 0 g1')
        (by simp only [List.nil_append, List.length_map] at hfi; rw [← g2']; exact hfi) (freeE_ok g0) (dstok_spec hd)
      unfold EffE
      rw [hmap]
      simp only [List.length_map, g2'] at this
      exact this
    · cases h
  · cases h
theorem baseE_ok {wd : Nat} {x : AV} {rows : List AV} {k : List Nat} (h : baseE S wd x = some (rows, k)) : Base (den S) wd x rows k := by
  unfold baseE at h
  split at h
  · split at h
    · rename_i hm
      split at h
      · rename_i h1 h2
        have hw := beq_eq h1
        subst hw
        cases h
        exact .own (by rw [mem_den]; exact hm) (ble_le h2)
      · cases h
    · cases h
  · cases h; exact .emp
  · split at h
    · rename_i hn; cases h; rw [nilV_ok hn]; exact .nil
    · cases h
  · cases h
theorem srcE_ok {wd : Nat} {x : AV} {rows : List AV} {k : List Nat} (h : srcE S wd x = some (rows, k)) : Src (den S) wd x rows k := by
  unfold srcE at h
  split at h
  · split at h
    · rename_i hm
      split at h
      · rename_i h1 h2
        have hw := beq_eq h1
        subst hw
        cases h
        exact .own (by rw [mem_den]; exact hm) (ble_le h2)
      · cases h
    · cases h
  · split at h
    · rename_i h1
      have hw := beq_eq h1
      subst hw
      cases h
      exact .sl
    · cases h
  · cases h; exact .emp
  · split at h
    · rename_i hn; cases h; rw [nilV_ok hn]; exact .nil
    · cases h
  · cases h
theorem appE_ok (hΓ : Γ.Good P) (hd : dstok N o.dst = true) {y z : Operand} {t t2 : TypeId} (ho : o.op = .call { callee := .builtin .append, args := #[y, z], argTypes := #[t, t2] }) (h : appE Γ S y z t t2 = some q) : EffE P N o S q := by
  unfold appE at h
  split at h
  · rename_i e wd bytes e2 wd2 bytes2 ht ht2
    rw [lkT_eq] at ht ht2
    have ok := hΓ.look ht
    obtain ⟨i, z', te⟩ := ok.2.2.2.2
    have ok2 := hΓ.look ht2
    obtain ⟨i2, z2, te2⟩ := ok2.2.2.2.2
    split at h
    · rename_i rows0 k news rd hf hb hx
      split at h
      · rename_i h1 h2 h3
        cases h
        have h2' := ble_le h2
        have h3' := ble_le h3
        exact EffOK.append (P := P) (N := N) (σ := den S) (tn := S.nx) ho te te2.ty (by rw [ev_den]; exact baseE_ok hb) (by rw [ev_den]; exact srcE_ok hx) h1 h2' (by unfold maxLen; omega) (freeE_ok hf) (dstok_spec hd)
      · cases h
    · cases h
  · cases h
theorem allocE_ok (hΓ : Γ.Good P) (hd : dstok N o.dst = true) {t : TypeId} (ho : o.op = .alloc t) (h : allocE Γ S t = some q) : EffE P N o S q := by
  unfold allocE at h
  split at h
  · rename_i x hz hf
    cases h
    obtain ⟨z, hz1, rfl⟩ := zeroA_ok hΓ hz
    exact EffOK.alloc (P := P) (N := N) (σ := den S) ho hz1 (freeE_ok hf) (dstok_spec hd)
  · cases h
theorem boxE_ok (hd : dstok N o.dst = true) {t : TypeId} {y : Operand} (ho : o.op = .box t y) (h : boxE S y = some q) : EffE P N o S q := by
  unfold boxE at h
  split at h
  · rename_i hs hf
    cases h
    exact EffOK.box (P := P) (N := N) (σ := den S) ho (ev_den _ _) hs (freeE_ok hf) (dstok_spec hd)
  · cases h
end
end Go.Am
namespace Go.Am
open Go
mutual
/-- Objects named otherwise; what has no new name is not known. -/
def rnA (f : Nat → Option Nat) : AV → AV
  | .own t o l => match f t with
    | some u => .own u o l
    | none => .any
  | .ptr t i k => match f t with
    | some u => .ptr u i k
    | none => .any
  | .mapr t => match f t with
    | some u => .mapr u
    | none => .any
  | .agg cs => .agg (rnL f cs)
  | .tup cs => .tup (rnL f cs)
  | .clo g a b => .clo g (rnL f a) (rnL f b)
  | .any => .any
  | .emp => .emp
  | .guess p q => .guess p q
  | .lit v => .lit v
  | .sl w r => .sl w r
  | .fptr e k => .fptr e k
  | .fmap r => .fmap r
def rnL (f : Nat → Option Nat) : List AV → List AV
  | [] => []
  | x :: r => rnA f x :: rnL f r
end
theorem rnL_eq (f : Nat → Option Nat) : ∀ l : List AV, rnL f l = l.map (rnA f)
  | [] => rfl
  | x :: r => by rw [rnL, rnL_eq f r]; rfl
section
variable {mm : Nat → MS} {ρ : Nat → Nat} {D F : Nat → Prop} {f : Nat → Option Nat}
mutual
theorem rnA_cv (hf : ∀ t u, f t = some u → D u ∧ ρ u = t) : ∀ x : AV, Cv mm ρ D F (rnA f x) x
  | .own t o l => by
    rw [rnA]
    split
    · rename_i u h
      obtain ⟨h1, h2⟩ := hf t u h
      have := Cv.own (m := mm) (ρ := ρ) (D := D) (F := F) (t := u) (o := o) (l := l) h1
      rwa [h2] at this
    · exact .any
  | .ptr t i k => by
    rw [rnA]
    split
    · rename_i u h
      obtain ⟨h1, h2⟩ := hf t u h
      have := Cv.ptr (m := mm) (ρ := ρ) (D := D) (F := F) (t := u) (i := i) (k := k) h1
      rwa [h2] at this
    · exact .any
  | .mapr t => by
    rw [rnA]
    split
    · rename_i u h
      obtain ⟨h1, h2⟩ := hf t u h
      have := Cv.mapr (m := mm) (ρ := ρ) (D := D) (F := F) (t := u) h1
      rwa [h2] at this
    · exact .any
  | .agg cs => by
    rw [rnA]
    have := rnL_cv hf cs
    exact .agg this.1 this.2
  | .tup cs => by
    rw [rnA]
    have := rnL_cv hf cs
    exact .tup this.1 this.2
  | .clo g a b => by
    rw [rnA]
    have h1 := rnL_cv hf a
    have h2 := rnL_cv hf b
    exact .clo h1.1 h2.1 h1.2 h2.2
  | .any => .any
  | .emp => .same rfl
  | .guess p q => .same rfl
  | .lit v => .same rfl
  | .sl w r => .same rfl
  | .fptr e k => .same rfl
  | .fmap r => .same rfl
theorem rnL_cv (hf : ∀ t u, f t = some u → D u ∧ ρ u = t) : ∀ l : List AV, CvL mm ρ D F (rnL f l) l
  | [] => .nil
  | x :: r => by rw [rnL]; exact .cons (rnA_cv hf x) (rnL_cv hf r)
end
end
theorem rnA_cells (f : Nat → Option Nat) (x : AV) : (cells (rnA f x)).length = (cells x).length := by
  cases x with
  | agg cs => show (rnL f cs).length = cs.length; rw [rnL_eq, List.length_map]
  | own t o l => rw [rnA]; split <;> rfl
  | ptr t i k => rw [rnA]; split <;> rfl
  | mapr t => rw [rnA]; split <;> rfl
  | _ => rfl
theorem rnL_wide {f : Nat → Option Nat} {wd : Nat} {rows : List AV} (h : Wide wd rows) : Wide wd (rnL f rows) := by
  intro i r hr
  rw [rnL_eq, List.getElem?_map] at hr
  cases hx : rows[i]? with
  | none => rw [hx] at hr; cases hr
  | some x =>
    rw [hx] at hr
    cases hr
    rw [rnA_cells]
    exact h i x hx
def idxIn : List Nat → Nat → Nat → Option Nat
  | [], _, _ => none
  | x :: r, i, t => match Nat.beq x t with
    | true => some i
    | false => idxIn r (i + 1) t
theorem idxIn_ok : ∀ {ns : List Nat} {i t u : Nat}, idxIn ns i t = some u → i ≤ u ∧ ns[u - i]? = some t
  | [], _, _, _, h => by cases h
  | x :: r, i, t, u, h => by
    simp only [idxIn] at h
    split at h
    · rename_i hb
      cases h
      exact ⟨Nat.le_refl _, by rw [Nat.sub_self, beq_eq hb]; rfl⟩
    · obtain ⟨h1, h2⟩ := idxIn_ok h
      refine ⟨by omega, ?_⟩
      rw [show u - i = (u - (i + 1)) + 1 by omega]
      exact h2
def addN (S : ES) (t : Nat) (acc : List Nat) : List Nat := match mE S t with
  | .live _ _ false => match memR acc t with
    | true => acc
    | false => acc ++ [t]
  | _ => acc
mutual
def refA (S : ES) : AV → List Nat → List Nat
  | .own t _ _, acc => addN S t acc
  | .ptr t _ _, acc => addN S t acc
  | .mapr t, acc => addN S t acc
  | .agg cs, acc => refL S cs acc
  | .tup cs, acc => refL S cs acc
  | .clo _ a b, acc => refL S b (refL S a acc)
  | .any, acc => acc
  | .emp, acc => acc
  | .guess _ _, acc => acc
  | .lit _, acc => acc
  | .sl _ _, acc => acc
  | .fptr _ _, acc => acc
  | .fmap _, acc => acc
def refL (S : ES) : List AV → List Nat → List Nat
  | [], acc => acc
  | x :: r, acc => refL S r (refA S x acc)
end
def reachE : Nat → ES → Nat → List Nat → List Nat
  | 0, _, _, ns => ns
  | n + 1, S, i, ns => match getR ns i with
    | none => ns
    | some t => match mE S t with
      | .live _ rows false => reachE n S (i + 1) (refL S rows ns)
      | _ => reachE n S (i + 1) ns
abbrev CallT := FuncId → List MS → List AV → Option (List MS × AV)
def insE (S : ES) (f : Nat → Option Nat) : List Nat → Option (List MS)
  | [] => some []
  | t :: r => match mE S t, insE S f r with
    | .live wd rows false, some l => some (.live wd (rnL f rows) false :: l)
    | _, _ => none
def freshN : Nat → Nat → List Nat
  | _, 0 => []
  | n, k + 1 => n :: freshN (n + 1) k
def allFreeE (S : ES) : List Nat → Bool
  | [] => true
  | t :: r => match mE S t with
    | .free => allFreeE S r
    | _ => false
def newsE (f : Nat → Option Nat) : List MS → Option (List MS)
  | [] => some []
  | .live wd rows false :: r => match newsE f r with
    | some l => some (.live wd (rnL f rows) false :: l)
    | none => none
  | .dead :: r => match newsE f r with
    | some l => some (.dead :: l)
    | none => none
  | _ :: _ => none
def callE (callF : CallT) (S : ES) (g : FuncId) (ys : List AV) : Option ER :=
  match reachE 1000 S 0 (refL S ys []) with
  | ns => match insE S (idxIn ns 0) ns with
    | none => none
    | some ins => match callF g ins (rnL (idxIn ns 0) ys) with
      | none => none
      | some (outs, res) => match ns ++ freshN S.nx (outs.length - ns.length) with
        | names => match nodupN names, allFreeE S (freshN S.nx (outs.length - ns.length)), (Nat.ble ns.length outs.length && Nat.ble ns.length 1000000), newsE (fun i => names[i]?) outs with
          | true, true, true, some news => some (names, rnA (fun i => names[i]?) res, names.zip news, S.nx + (outs.length - ns.length))
          | _, _, _, _ => none
section
variable {P : Program} {N : Nat} {o : Oper} {S : ES}
theorem insE_ok {f : Nat → Option Nat} : ∀ {ns : List Nat} {ins : List MS}, insE S f ns = some ins → ins.length = ns.length ∧ ∀ (k : Nat) (s : MS) (t : Nat), ins[k]? = some s → ns[k]? = some t → ∃ wd rows, s = .live wd (rnL f rows) false ∧ mE S t = .live wd rows false
  | [], ins, h => by cases h; exact ⟨rfl, by simp⟩
  | t :: r, ins, h => by
    simp only [insE] at h
    split at h
    · rename_i wd rows l hm hl
      cases h
      obtain ⟨h1, h2⟩ := insE_ok hl
      refine ⟨by simp [h1], fun k s t' hs ht => ?_⟩
      cases k with
      | zero => simp at hs ht; subst hs; subst ht; exact ⟨wd, rows, rfl, hm⟩
      | succ k => exact h2 k s t' (by simpa using hs) (by simpa using ht)
    · cases h
theorem newsE_ok {f : Nat → Option Nat} : ∀ {outs news : List MS}, newsE f outs = some news → news.length = outs.length ∧ ∀ (k : Nat) (s : MS), news[k]? = some s → (∃ wd rows0, s = .live wd (rnL f rows0) false ∧ outs[k]? = some (.live wd rows0 false)) ∨ (s = .dead ∧ outs[k]? = some .dead)
  | [], news, h => by cases h; exact ⟨rfl, by simp⟩
  | s0 :: r, news, h => by
    unfold newsE at h
    split at h
    · cases ‹s0 :: r = []›
    · rename_i wd rows r' he
      cases he
      split at h
      · rename_i l hl
        cases h
        obtain ⟨h1, h2⟩ := newsE_ok hl
        refine ⟨by simp [h1], fun k s hs => ?_⟩
        cases k with
        | zero => simp at hs; subst hs; exact .inl ⟨wd, rows, rfl, rfl⟩
        | succ k => simpa using h2 k s (by simpa using hs)
      · cases h
    · rename_i r' he
      cases he
      split at h
      · rename_i l hl
        cases h
        obtain ⟨h1, h2⟩ := newsE_ok hl
        refine ⟨by simp [h1], fun k s hs => ?_⟩
        cases k with
        | zero => simp at hs; subst hs; exact .inr ⟨rfl, rfl⟩
        | succ k => simpa using h2 k s (by simpa using hs)
      · cases h
    · cases h
theorem freshN_len : ∀ (n k : Nat), (freshN n k).length = k
  | _, 0 => rfl
  | n, k + 1 => by simp [freshN, freshN_len (n + 1) k]
theorem allFreeE_ok : ∀ {l : List Nat}, allFreeE S l = true → ∀ t ∈ l, mE S t = .free
  | [], _, t, h => by cases h
  | u :: r, h, t, ht => by
    simp only [allFreeE] at h
    split at h
    · rename_i hu
      rcases List.mem_cons.1 ht with h' | h'
      · rw [h']; exact hu
      · exact allFreeE_ok h t h'
    · cases h
theorem callE_ok {callF : CallT} (hF : ∀ g ins args outs res, callF g ins args = some (outs, res) → FnOK P g ins args outs res ∧ Callable P g) (hd : dstok N o.dst = true) {g : FuncId} {ys : List AV} (hto : CallsTo (den S) o g ys) {q : ER} (h : callE callF S g ys = some q) : EffE P N o S q := by
  unfold callE at h
  generalize reachE 1000 S 0 (refL S ys []) = ns at h
  simp only at h
  split at h
  · cases h
  · rename_i ins hins
    split at h
    · cases h
    · rename_i outs res hcall
      generalize hnm : ns ++ freshN S.nx (outs.length - ns.length) = names at h
      split at h
      · rename_i news g1 g2 g3 g4
        cases h
        obtain ⟨hfn, hc⟩ := hF _ _ _ _ _ hcall
        obtain ⟨i1, i2⟩ := insE_ok hins
        obtain ⟨n1, n2⟩ := newsE_ok g4
        have hnd := nodupN_ok g1
        rw [Bool.and_eq_true] at g3
        have hle := ble_le g3.1
        have hbg : ns.length ≤ bigT := Nat.le_trans (ble_le g3.2) (by decide)
        have hlen : names.length = outs.length := by rw [← hnm, List.length_append, freshN_len]; omega
        have hget : ∀ k t, ns[k]? = some t → names[k]? = some t := fun k t hk => by
          rw [← hnm, List.getElem?_append_left (List.getElem?_eq_some_iff.1 hk).1]; exact hk
        have hfwd : ∀ t u, idxIn ns 0 t = some u → u < ins.length ∧ names.getD u 0 = t := fun t u hu => by
          obtain ⟨_, h2⟩ := idxIn_ok hu
          rw [Nat.sub_zero] at h2
          refine ⟨by rw [i1]; exact (List.getElem?_eq_some_iff.1 h2).1, ?_⟩
          rw [List.getD_eq_getElem?_getD, hget u t h2]; rfl
        have hbwd : ∀ i u, names[i]? = some u → u ∈ names ∧ names.idxOf u = i := fun i u hu => by
          refine ⟨List.mem_of_getElem? hu, ?_⟩
          obtain ⟨hi, rfl⟩ := List.getElem?_eq_some_iff.1 hu
          exact idx_of hnd (List.getElem?_eq_getElem hi)
        have := EffOK.lend (P := P) (N := N) (o := o) (σ := den S) (news := news) names [] hto hc (rnL_cv hfwd ys) (by simp) (by simp) hnd (by rw [i1]; exact hbg) (by omega) (by omega)
          (fun k s t hs ht => by
            have hk : k < ns.length := by rw [← i1]; exact (List.getElem?_eq_some_iff.1 hs).1
            have ht' : ns[k]? = some t := by
              have := hget k ns[k] (List.getElem?_eq_getElem hk)
              rw [ht] at this
              rw [List.getElem?_eq_getElem hk, this]
            obtain ⟨wd, rows, e1, e2⟩ := i2 k s t hs ht'
            exact ⟨wd, rows, _, e1, by rw [mem_den]; exact e2, rnL_wide, rnL_cv hfwd rows⟩)
          (fun k t hk ht => by
            rw [mem_den]
            refine allFreeE_ok g2 t ?_
            rw [← hnm, List.getElem?_append_right (by omega)] at ht
            exact List.mem_of_getElem? ht)
          hfn (fun k s hs => by
            rcases n2 k s hs with ⟨wd, rows0, e1, e2⟩ | ⟨e1, e2⟩
            · exact .inl ⟨wd, _, rows0, e1, e2, rnL_wide, rnL_cv hbwd rows0⟩
            · exact .inr ⟨e1, e2⟩)
          (rnA_cv hbwd res) (dstok_spec hd)
        simpa [EffE] using this
      · cases h
end
end Go.Am
namespace Go.Am
open Go Go.RowKit Go.Lib MapKept
def eqKey : Value → Value → Bool
  | .int k a, .int k' b => match Nat.beq (kIx k) (kIx k') with
    | true => decide (a = b)
    | false => false
  | .string a, .string b => decide (a = b)
  | _, _ => false
def keyOK : TypeDesc → Value → Bool
  | .int k, .int k' _ => Nat.beq (kIx k') (kIx k)
  | .string, .string _ => true
  | _, _ => false
theorem keyOK_ok {d : TypeDesc} {v : Value} (h : keyOK d v = true) : IsKey d v := by
  unfold keyOK at h
  split at h
  · exact kIx_eq h
  · trivial
  · cases h
def entryOf : AV → Option (Value × AV)
  | .agg [.lit k, .tup [x]] => some (k, x)
  | _ => none
theorem entryOf_ok {r : AV} {k : Value} {x : AV} (h : entryOf r = some (k, x)) : r = entry k x := by
  unfold entryOf at h
  split at h
  · cases h; rfl
  · cases h
def findE (d : TypeDesc) (key : Value) : List AV → Nat → Option (Option (Nat × AV))
  | [], _ => some none
  | r :: rs, i => match entryOf r with
    | some (k, x) => match keyOK d k, findE d key rs (i + 1) with
      | true, some q => match eqKey k key with
        | true => some (some (i, x))
        | false => some q
      | _, _ => none
    | none => none
theorem eqKey_iff {d : TypeDesc} {a b : Value} (ha : IsKey d a) (hb : keyOK d b = true) : eqKey a b = true ↔ a = b := by
  unfold keyOK at hb
  split at hb
  · rename_i k k' n'
    have e := kIx_eq hb
    cases a with
    | int k2 n2 =>
      have e2 : k2 = k := ha
      rw [e, e2]
      simp [eqKey]
    | _ => exact absurd ha (by simp [IsKey])
  · cases a with
    | string s => simp [eqKey]
    | _ => exact absurd ha (by simp [IsKey])
  · cases hb
theorem findE_ok {d : TypeDesc} {key : Value} (hk : keyOK d key = true) : ∀ {rows : List AV} {i : Nat} {q : Option (Nat × AV)}, findE d key rows i = some q → Ents d rows ∧
    match q with
    | some (j, x) => i ≤ j ∧ rows[j - i]? = some (entry key x)
    | none => ∀ r, entry key r ∉ rows
  | [], i, q, h => by cases h; exact ⟨Ents.nil, by simp⟩
  | r :: rs, i, q, h => by
    simp only [findE] at h
    split at h
    · rename_i k x he
      have her := entryOf_ok he
      subst her
      split at h
      · rename_i q' hkey hrest
        obtain ⟨e1, e2⟩ := findE_ok hk hrest
        have hkk := keyOK_ok hkey
        have hE : Ents d (entry k x :: rs) := fun r hr => by
          rcases List.mem_cons.1 hr with h' | h'
          · exact ⟨k, x, h', hkk⟩
          · exact e1 r h'
        split at h
        · rename_i heq
          cases h
          have := (eqKey_iff hkk hk).1 heq
          subst this
          exact ⟨hE, Nat.le_refl _, by simp⟩
        · rename_i hne
          cases h
          refine ⟨hE, ?_⟩
          cases q with
          | some p =>
            obtain ⟨j, y⟩ := p
            obtain ⟨h1, h2⟩ := e2
            refine ⟨by omega, ?_⟩
            rw [show j - i = (j - (i + 1)) + 1 by omega]
            exact h2
          | none =>
            intro r hr
            rcases List.mem_cons.1 hr with h' | h'
            · have := (entry_inj h').1
              rw [(eqKey_iff hkk hk).2 this.symm] at hne
              cases hne
            · exact e2 r h'
      · cases h
    · cases h
abbrev MEnv := List (Nat × TypeDesc × Value)
def MEnv.Good (P : Program) (Δ : MEnv) : Prop := ∀ p ∈ Δ, MapTy P p.1 p.2.1 p.2.2
def lkD : MEnv → Nat → Option (TypeDesc × Value)
  | [], _ => none
  | (k, d) :: r, t => match Nat.beq t k with
    | true => some d
    | false => lkD r t
theorem lkD_ok {P : Program} : ∀ {Δ : MEnv}, Δ.Good P → ∀ {t : Nat} {d : TypeDesc} {z : Value}, lkD Δ t = some (d, z) → MapTy P t d z
  | [], _, t, d, z, h => by cases h
  | (k, d0, z0) :: r, hg, t, d, z, h => by
    simp only [lkD] at h
    split at h
    · rename_i hb
      cases h
      rw [beq_eq hb]
      exact hg _ (List.mem_cons_self ..)
    · exact lkD_ok (fun p hp => hg p (List.mem_cons_of_mem _ hp)) h
def mkMapE (S : ES) : Option ER := match freeE S with
  | true => some ([S.nx], .mapr S.nx, [(S.nx, .live 2 [] false)], S.nx + 1)
  | false => none
def lookE (Δ : MEnv) (S : ES) (t : TypeId) (y x : Operand) (c : Bool) : Option ER :=
  match lkD Δ t, evE S y, evE S x with
  | some (d, z), .mapr tk, .lit key => match mE S tk, keyOK d key with
    | .live _ rows _, true => match findE d key rows 0 with
      | some (some (_, r)) => some ([tk], if c then .tup [r, .lit (.bool true)] else r, [], S.nx)
      | some none => some ([tk], if c then .tup [ofVal z, .lit (.bool false)] else ofVal z, [], S.nx)
      | none => none
    | _, _ => none
  | _, _, _ => none
def setMapE (Δ : MEnv) (S : ES) (t : TypeId) (y x v : Operand) : Option ER :=
  match lkD Δ t, evE S y, evE S x with
  | some (d, _), .mapr tk, .lit key => match mE S tk, keyOK d key with
    | .live wd rows false, true => match findE d key rows 0, Nat.beq wd 2, Nat.ble (rows.length + 2) maxLen with
      | some (some (i, _)), _, _ => some ([tk], .any, [(tk, .live wd (rows.set i (entry key (evE S v))) false)], S.nx)
      | some none, true, true => some ([tk], .any, [(tk, .live wd (rows ++ [entry key (evE S v)]) false)], S.nx)
      | _, _, _ => none
    | _, _ => none
  | _, _, _ => none
def byteE (Γ : TEnv) (S : ES) (t : TypeId) (y z : Operand) : Option ER :=
  match lkT Γ t, evE S y, intE (evE S z) with
  | some .str, .lit (.string s), some k => match getR s.data.toList k with
    | some c => some ([], .lit (.int .u8 c.toNat), [], S.nx)
    | none => none
  | _, _, _ => none
def lenME (Δ : MEnv) (S : ES) (t : TypeId) (y : Operand) : Option ER :=
  match lkD Δ t, evE S y with
  | some _, .mapr tk => match mE S tk with
    | .live _ rows _ => some ([tk], .lit (.int .i64 rows.length), [], S.nx)
    | _ => none
  | _, _ => none
def binE (Γ : TEnv) (S : ES) (o : Oper) (op : BinOp) (t : TypeId) (y z : Operand) : Option ER :=
  match op, evE S y, evE S z with
  | .add, .lit (.string a), .lit (.string b) => match Nat.ble (a.size + b.size) 9223372036854775807 with
    | true => some ([], .lit (.string (a ++ b)), [], S.nx)
    | false => none
  | .eql, .own _ _ (_ + 1), .lit v => match nilV v, lkT Γ t with
    | true, some (.sl ..) => some ([], .lit (.bool false), [], S.nx)
    | _, _ => plainE Γ S o
  | .neq, .own _ _ (_ + 1), .lit v => match nilV v, lkT Γ t with
    | true, some (.sl ..) => some ([], .lit (.bool true), [], S.nx)
    | _, _ => plainE Γ S o
  | .eql, .lit u, .lit v => match nilV u, nilV v, lkT Γ t with
    | true, true, some (.sl ..) => some ([], .lit (.bool true), [], S.nx)
    | _, _, _ => plainE Γ S o
  | .neq, .lit u, .lit v => match nilV u, nilV v, lkT Γ t with
    | true, true, some (.sl ..) => some ([], .lit (.bool false), [], S.nx)
    | _, _, _ => plainE Γ S o
  | _, _, _ => plainE Γ S o
theorem Sim.reslot {P : Program} {N : Nat} {w0 : World} {W0 : Nat → Prop} {L μ : Mu} {σ : AState} {a : Act} {w : World} (hs : Sim P N w0 W0 L μ σ a w) {sl : Nat → AV} (h : ∀ i v, Rep (Wr W0 μ σ.mem) μ w (σ.slots i) v → Rep (Wr W0 μ σ.mem) μ w (sl i) v) : Sim P N w0 W0 L μ ⟨sl, σ.mem⟩ a w where
  tsize := hs.tsize
  defers := hs.defers
  os := hs.os
  tape := hs.tape
  output := hs.output
  hsize := hs.hsize
  shp := hs.shp
  keep := hs.keep
  w0lt := hs.w0lt
  lentμ := hs.lentμ
  free := hs.free
  slots i := h i _ (hs.slots i)
  objs := hs.objs
  inj := hs.inj
  out := hs.out
  tabs := hs.tabs
theorem EffOK.sure {P : Program} {N : Nat} {o : Oper} {σ : AState} {rd : List Nat} {p q : Prop} {b : Bool} {ups : ML} (h : EffOK P N o σ rd (.guess p q) ups) (hb : (b = false ∧ ¬ p) ∨ (b = true ∧ ¬ q)) : EffOK P N o σ rd (.lit (.bool b)) ups := by
  intro σ2 h1 h2 w0 W0 L μ a w K Q hs hK
  refine h σ2 h1 h2 w0 W0 L μ a w K Q hs fun μ' a' w' hs' => ?_
  refine hK μ' a' w' ?_
  have := hs'.reslot (sl := (σ2.upd o.dst (.lit (.bool b)) ups).slots) (fun i v hv => by
    unfold AState.upd at hv ⊢
    cases hd : o.dst with
    | none => rw [hd] at hv; exact hv
    | some d =>
      rw [hd] at hv
      simp only [putS] at hv ⊢
      by_cases hi : i = d
      · rw [if_pos hi] at hv ⊢
        cases hv with
        | guess g1 g2 =>
          rename_i c
          rcases hb with ⟨rfl, hp⟩ | ⟨rfl, hq⟩
          · cases c with
            | true => exact absurd (g1 rfl) hp
            | false => exact .lit
          · cases c with
            | true => exact .lit
            | false => exact absurd (g2 rfl) hq
      · rw [if_neg hi] at hv ⊢; exact hv)
  exact this
section
variable {P : Program} {N : Nat} {Γ : TEnv} {Δ : MEnv} {o : Oper} {S : ES} {q : ER}
theorem mkMapE_ok (hd : dstok N o.dst = true) {t : TypeId} (ho : o.op = .makeMap t none) (h : mkMapE S = some q) : EffE P N o S q := by
  unfold mkMapE at h
  split at h
  · rename_i hf
    cases h
    exact EffOK.makeMap (P := P) (N := N) (σ := den S) ho (freeE_ok hf) (dstok_spec hd)
  · cases h
theorem lookE_ok (hΔ : Δ.Good P) (hd : dstok N o.dst = true) {t : TypeId} {y x : Operand} {c : Bool} (ho : o.op = .lookup t y x c) (h : lookE Δ S t y x c = some q) : EffE P N o S q := by
  unfold lookE at h
  split at h
  · rename_i d z tk key ht hy hx
    have hT := lkD_ok hΔ ht
    split at h
    · rename_i wd rows ro hm hk
      have hsrc : MapSrc (den S) (.mapr tk) rows [tk] := .own (by rw [mem_den]; exact hm)
      split at h
      · rename_i j r hf
        cases h
        obtain ⟨e1, _, e3⟩ := findE_ok hk hf
        exact EffOK.lookup (P := P) (N := N) (σ := den S) ho (by rw [ev_den]; exact hy) hsrc (by rw [ev_den]; exact hx) hT (keyOK_ok hk) e1 e3 (dstok_spec hd)
      · rename_i hf
        cases h
        obtain ⟨e1, e2⟩ := findE_ok hk hf
        exact EffOK.lookupNo (P := P) (N := N) (σ := den S) ho (by rw [ev_den]; exact hy) hsrc (by rw [ev_den]; exact hx) hT (keyOK_ok hk) e1 e2 (dstok_spec hd)
      · cases h
    · cases h
  · cases h
theorem setMapE_ok (hΔ : Δ.Good P) (hd : dstok N o.dst = true) {t : TypeId} {y x v : Operand} (ho : o.op = .mapUpdate t y x v) (h : setMapE Δ S t y x v = some q) : EffE P N o S q := by
  unfold setMapE at h
  split at h
  · rename_i d z tk key ht hy hx
    have hT := lkD_ok hΔ ht
    split at h
    · rename_i wd rows hm hk
      split at h
      · rename_i j r hf
        cases h
        obtain ⟨e1, _, e3⟩ := findE_ok hk hf
        exact EffOK.mapUpdate (P := P) (N := N) (σ := den S) ho (by rw [ev_den]; exact hy) (by rw [mem_den]; exact hm) (by rw [ev_den]; exact hx) (ev_den _ _) hT (keyOK_ok hk) e1 e3 (dstok_spec hd)
      · rename_i hf hw hl
        cases h
        obtain ⟨e1, e2⟩ := findE_ok hk hf
        exact EffOK.mapUpdateNew (P := P) (N := N) (σ := den S) ho (by rw [ev_den]; exact hy) (by rw [mem_den]; exact hm) (by rw [ev_den]; exact hx) (ev_den _ _) hT (keyOK_ok hk) e1 e2 (by have := ble_le hl; omega) (beq_eq hw) (dstok_spec hd)
      · cases h
    · cases h
  · cases h
theorem byteE_ok (hΓ : Γ.Good P) (hd : dstok N o.dst = true) {t : TypeId} {y z : Operand} (ho : o.op = .index t y z) (h : byteE Γ S t y z = some q) : EffE P N o S q := by
  unfold byteE at h
  split at h
  · rename_i s k ht hy hz
    rw [lkT_eq] at ht
    have ok := hΓ.look ht
    obtain ⟨kd, hz'⟩ := intE_ok hz
    split at h
    · rename_i c hc
      cases h
      rw [getR_eq] at hc
      exact EffOK.idxStr (P := P) (N := N) (σ := den S) ho (by rw [ev_den]; exact hy) (by rw [ev_den]; exact hz') ok.2.2.2 hc (dstok_spec hd)
    · cases h
  · cases h
theorem lenME_ok (hΔ : Δ.Good P) (hd : dstok N o.dst = true) {t : TypeId} {y : Operand} (ho : o.op = .call { callee := .builtin .len, args := #[y], argTypes := #[t] }) (h : lenME Δ S t y = some q) : EffE P N o S q := by
  unfold lenME at h
  split at h
  · rename_i d tk ht hy
    obtain ⟨d1, z1⟩ := d
    have hT := lkD_ok hΔ ht
    split at h
    · rename_i wd rows ro hm
      cases h
      exact EffOK.mapLen (P := P) (N := N) (σ := den S) ho (by rw [ev_den]; exact hy) (.own (by rw [mem_den]; exact hm)) hT (dstok_spec hd)
    · cases h
  · cases h
theorem binE_ok (hΓ : Γ.Good P) (hd : dstok N o.dst = true) {op : BinOp} {t yt : TypeId} {y z : Operand} (ho : o.op = .binOp op t y z yt) (h : binE Γ S o op t y z = some q) : EffE P N o S q := by
  unfold binE at h
  split at h
  · rename_i a b hy hz
    split at h
    · rename_i hn
      cases h
      have hn' := ble_le hn
      exact EffOK.binOp (P := P) (N := N) (σ := den S) ho (by rw [ev_den]; exact hy) (by rw [ev_den]; exact hz) (fun w => by simp [eqGuard, binOp, run_string_add_sum w a b hn']) (dstok_spec hd)
    · cases h
  · rename_i tk off n v hy hz
    split at h
    · rename_i hn ht
      cases h
      rw [lkT_eq] at ht
      have ok := hΓ.look ht
      obtain ⟨_, _, te⟩ := ok.2.2.2.2
      rw [nilV_ok hn] at hz
      have := EffOK.eqNil (P := P) (N := N) (σ := den S) ho (.inl rfl) (by rw [ev_den]; exact hy) (by rw [ev_den]; exact hz) te.ty (.inl ⟨_, _, rfl⟩) (dstok_spec hd)
      rw [if_pos rfl] at this
      exact this.sure (.inl ⟨rfl, by omega⟩)
    · exact plainE_ok hΓ hd h
  · rename_i tk off n v hy hz
    split at h
    · rename_i hn ht
      cases h
      rw [lkT_eq] at ht
      have ok := hΓ.look ht
      obtain ⟨_, _, te⟩ := ok.2.2.2.2
      rw [nilV_ok hn] at hz
      have := EffOK.eqNil (P := P) (N := N) (σ := den S) ho (.inr rfl) (by rw [ev_den]; exact hy) (by rw [ev_den]; exact hz) te.ty (.inl ⟨_, _, rfl⟩) (dstok_spec hd)
      rw [if_neg (by decide)] at this
      exact this.sure (.inr ⟨rfl, by omega⟩)
    · exact plainE_ok hΓ hd h
  · rename_i u v hy hz
    split at h
    · rename_i hn hn' ht
      cases h
      rw [lkT_eq] at ht
      have ok := hΓ.look ht
      obtain ⟨_, _, te⟩ := ok.2.2.2.2
      rw [nilV_ok hn] at hy
      rw [nilV_ok hn'] at hz
      refine EffOK.binOp (P := P) (N := N) (σ := den S) ho (by rw [ev_den]; exact hy) (by rw [ev_den]; exact hz) (fun w => ?_) (dstok_spec hd)
      simp only [eqGuard, binOp, Op.equal]
      rw [show Op.maxDepth = 9999 + 1 from rfl]
      unfold Op.equalIn
      simp [run_underlying te.ty]
    · exact plainE_ok hΓ hd h
  · rename_i u v hy hz
    split at h
    · rename_i hn hn' ht
      cases h
      rw [lkT_eq] at ht
      have ok := hΓ.look ht
      obtain ⟨_, _, te⟩ := ok.2.2.2.2
      rw [nilV_ok hn] at hy
      rw [nilV_ok hn'] at hz
      refine EffOK.binOp (P := P) (N := N) (σ := den S) ho (by rw [ev_den]; exact hy) (by rw [ev_den]; exact hz) (fun w => ?_) (dstok_spec hd)
      simp only [eqGuard, binOp, Op.equal]
      rw [show Op.maxDepth = 9999 + 1 from rfl]
      unfold Op.equalIn
      simp [run_underlying te.ty]
    · exact plainE_ok hΓ hd h
  · exact plainE_ok hΓ hd h
end
end Go.Am
section

end
namespace Go.Am
open Go Go.RowKit Go.Lib MapKept
structure EEnv where
  Γ : TEnv
  Δ : MEnv
  fns : List (Nat × Func)
  kinds : List (Nat × IntKind)
  orc : CallT
  ifs : List Nat
def lkF : List (Nat × Func) → Nat → Option Func
  | [], _ => none
  | (k, f) :: r, g => match Nat.beq g k with
    | true => some f
    | false => lkF r g
def lkK : List (Nat × IntKind) → Nat → Option IntKind
  | [], _ => none
  | (k, f) :: r, g => match Nat.beq g k with
    | true => some f
    | false => lkK r g
structure EEnv.Good (P : Program) (E : EEnv) : Prop where
  Γ : E.Γ.Good P
  Δ : E.Δ.Good P
  fns : ∀ p ∈ E.fns, P.funcs[p.1]? = some p.2 ∧ Callable P p.1
  kinds : ∀ p ∈ E.kinds, P.underlying p.1 = some (.int p.2)
  orc : ∀ g ins args outs res, E.orc g ins args = some (outs, res) → FnOK P g ins args outs res ∧ Callable P g
  orders : P.follows .mixedOrders = true
  ifs : ∀ t ∈ E.ifs, ∃ ms, P.underlying t = some (.interface ms)
theorem lkF_mem : ∀ {l : List (Nat × Func)} {g : Nat} {f : Func}, lkF l g = some f → (g, f) ∈ l
  | [], _, _, h => by cases h
  | (k, f0) :: r, g, f, h => by
    simp only [lkF] at h
    split at h
    · rename_i hb; cases h; rw [beq_eq hb]; exact List.mem_cons_self ..
    · exact List.mem_cons_of_mem _ (lkF_mem h)
theorem lkK_mem : ∀ {l : List (Nat × IntKind)} {g : Nat} {f : IntKind}, lkK l g = some f → (g, f) ∈ l
  | [], _, _, h => by cases h
  | (k, f0) :: r, g, f, h => by
    simp only [lkK] at h
    split at h
    · rename_i hb; cases h; rw [beq_eq hb]; exact List.mem_cons_self ..
    · exact List.mem_cons_of_mem _ (lkK_mem h)
def convE (E : EEnv) (S : ES) (src dst : TypeId) (y : Operand) : Option ER :=
  match lkK E.kinds src, lkK E.kinds dst, evE S y with
  | some _, some k', .lit (.int _ n) => match decide (k'.wrap n = n) with
    | true => some ([], .lit (.int k' n), [], S.nx)
    | false => none
  | _, _, _ => none
def memI : List Nat → Nat → Bool
  | [], _ => false
  | x :: r, t => match Nat.beq x t with
    | true => true
    | false => memI r t
theorem memI_ok : ∀ {l : List Nat} {t : Nat}, memI l t = true → t ∈ l
  | [], _, h => by cases h
  | x :: r, t, h => by
    simp only [memI] at h
    split at h
    · rename_i hb; rw [Nat.eq_of_beq_eq_true hb]; exact List.mem_cons_self ..
    · exact List.mem_cons_of_mem _ (memI_ok h)
def nilC : Operand → Bool
  | .const .nilIface => true
  | _ => false
def nilIfB : Value → Bool
  | .nilIface => true
  | _ => false
def nifE (ifs : List Nat) (S : ES) (op : BinOp) (t : TypeId) (y z : Operand) : Option ER :=
  match memI ifs t, evE S y, nilC z with
  | true, .lit v, true => match nilIfB v, op with
    | true, .eql => some ([], .lit (.bool true), [], S.nx)
    | true, .neq => some ([], .lit (.bool false), [], S.nx)
    | _, _ => none
  | _, _, _ => none
def stepE (E : EEnv) (callF : CallT) (S : ES) (o : Oper) : Option ER :=
  match o.op with
  | .indexAddr t y z => idxE E.Γ S t y z
  | .slice t y lo hi mx => cutE E.Γ S t y lo hi mx
  | .buildSlice t len parts => litE E.Γ S t len parts.toList
  | .alloc t => allocE E.Γ S t
  | .box _ y => boxE S y
  | .makeMap _ hint => match hint with
    | none => mkMapE S
    | some _ => none
  | .lookup t y x c => lookE E.Δ S t y x c
  | .mapUpdate t y x v => setMapE E.Δ S t y x v
  | .index t y z => byteE E.Γ S t y z
  | .convert src dst y => convE E S src dst y
  | .binOp op t y z _ => match nifE E.ifs S op t y z with
    | some q => some q
    | none => binE E.Γ S o op t y z
  | .call c => match c.callee with
    | .value f => match f with
      | .func g => callE callF S g (c.args.toList.map (evE S))
      | f => match evE S f with
        | .clo (.func g) first cap => callE callF S g (first ++ c.args.toList.map (evE S) ++ cap)
        | .lit (.func (.func g) a b) => match a.toList, b.toList with
          | [], [] => callE callF S g (c.args.toList.map (evE S))
          | _, _ => none
        | _ => none
    | .builtin .append => match c.args.toList, c.argTypes.toList with
      | [y, z], [t, t2] => appE E.Γ S y z t t2
      | _, _ => none
    | .builtin .len => match c.args.toList, c.argTypes.toList with
      | [y], [t] => match lenME E.Δ S t y with
        | some q => some q
        | none => plainE E.Γ S o
      | _, _ => none
    | _ => plainE E.Γ S o
  | _ => plainE E.Γ S o
def opsE (E : EEnv) (callF : CallT) (N : Nat) (ds : List (Option Nat)) : List Oper → Tk → ES → Option (Tk × ES)
  | [], acc, S => some (acc, S)
  | o :: rest, acc, S => match dstB N o.dst with
    | false => none
    | true => match o.guard with
      | none => match stepE E callF S o with
        | some (rd, x, ups, nx) => opsE E callF N ds rest (acc ++ [(rd, ups.map Prod.fst)]) (applyE S o.dst x ups nx)
        | none => none
      | some (j, b) => match getR ds j with
        | some (some d) => match Nat.ble (d + 1) N, evE S (.tmp d) with
          | true, .lit v => match gv v b with
            | true => match stepE E callF S o with
              | some (rd, x, ups, nx) => opsE E callF N ds rest (acc ++ [(rd, ups.map Prod.fst)]) (applyE S o.dst x ups nx)
              | none => none
            | false => opsE E callF N ds rest (acc ++ [([], [])]) (applyE S o.dst (.lit undef) [] S.nx)
          | _, _ => none
        | _ => none
def codeE (E : EEnv) (callF : CallT) (N : Nat) : Nat → Code → ES → Option (Exit × ES)
  | 0, _, _ => none
  | n + 1, c, S => match c with
    | .skip => some (.normal, S)
    | .region _ ops dr => match opsE E callF N (ops.toList.map Oper.dst) ops.toList [] S with
      | some (acc, S') => match dr with
        | false => some (.normal, S')
        | true => match Region.lexB .any ops, tokOK2 ops acc with
          | true, true => some (.normal, S')
          | _, _ => none
      | none => none
    | .seq a b => match codeE E callF N n a S with
      | some (.normal, S') => codeE E callF N n b S'
      | r => r
    | .cond x a b => match evE S x with
      | .lit (.bool true) => codeE E callF N n a S
      | .lit (.bool false) => codeE E callF N n b S
      | _ => none
    | .block id c => match codeE E callF N n c S with
      | some (.exit j, S') => match Nat.beq j id with
        | true => some (.normal, S')
        | false => some (.exit j, S')
      | r => r
    | .exit i => some (.exit i, S)
    | .ret => some (.ret, S)
    | .label _ => some (.normal, S)
    | .loop c => match codeE E callF N n c S with
      | some (.normal, S') => codeE E callF N n (.loop c) S'
      | r => r
    | _ => none
theorem codeE_loop (E : EEnv) (callF : CallT) (N n : Nat) (c : Code) (S : ES) : codeE E callF N (n + 1) (.loop c) S = match codeE E callF N n c S with
      | some (.normal, S') => codeE E callF N n (.loop c) S'
      | r => r := rfl
def resE1 (Γ : TEnv) (S : ES) : ResultVar → Option AV
  | .tmp t => some (evE S (.tmp t))
  | .cell a t => match evE S (.tmp a) with
    | .ptr tk i k => match mE S tk with
      | .live _ rows _ => match getR rows i with
        | some r => loadB (lkT Γ t) r k
        | none => none
      | _ => none
    | _ => none
def resE (Γ : TEnv) (S : ES) : List ResultVar → Option (List AV)
  | [] => some []
  | rv :: r => match resE1 Γ S rv, resE Γ S r with
    | some x, some xs => some (x :: xs)
    | _, _ => none
def outsE (S : ES) (f : Nat → Option Nat) : List Nat → Option (List MS)
  | [] => some []
  | t :: r => match outsE S f r with
    | none => none
    | some l => match mE S t with
      | .live wd rows false => some (.live wd (rnL f rows) false :: l)
      | .live _ _ true => some (.dead :: l)
      | .dead => some (.dead :: l)
      | .free => none
def headN : Nat → Nat → List Nat → Bool
  | 0, _, _ => true
  | k + 1, i, t :: r => match Nat.beq t i with
    | true => headN k (i + 1) r
    | false => false
  | _ + 1, _, [] => false
def endE (Γ : TEnv) (nL : Nat) (rvs : List ResultVar) (S : ES) : Option (List MS × AV) :=
  match resE Γ S rvs with
  | none => none
  | some xs => match reachE 1000 S 0 (refA S (ret1 xs) (List.range nL)) with
    | ns => match outsE S (idxIn ns 0) ns, nodupN ns, headN nL 0 ns with
      | some outs, true, true => some (outs, rnA (idxIn ns 0) (ret1 xs))
      | _, _, _ => none
def initS : Nat → List AV → Tr AV
  | _, [] => .nil
  | k, x :: r => (initS (k + 1) r).put k x
def initM : Nat → List MS → Tr MS
  | _, [] => .nil
  | k, x :: r => (initM (k + 1) r).put k x
def runF (E : EEnv) (fuel : Nat) : Nat → CallT
  | 0 => fun _ _ _ => none
  | n + 1 => fun g ins args => match E.orc g ins args with
    | some r => some r
    | none => match lkF E.fns g with
      | none => none
      | some fn => match fn.body, Nat.ble args.length fn.ntmps with
        | some c, true => match codeE E (runF E fuel n) fn.ntmps fuel c ⟨initS 0 args, initM 0 ins, ins.length⟩ with
          | some (.normal, S) => endE E.Γ ins.length fn.results.toList S
          | some (.ret, S) => endE E.Γ ins.length fn.results.toList S
          | _ => none
        | _, _ => none
section
variable {P : Program} {E : EEnv} {callF : CallT} {N : Nat}
def GoodCalls (P : Program) (callF : CallT) : Prop := ∀ g ins args outs res, callF g ins args = some (outs, res) → FnOK P g ins args outs res ∧ Callable P g
theorem convE_ok {o : Oper} {S : ES} {q : ER} (hE : E.Good P) (hd : dstok N o.dst = true) {src dst : TypeId} {y : Operand} (ho : o.op = .convert src dst y) (h : convE E S src dst y = some q) : EffE P N o S q := by
  unfold convE at h
  split at h
  · rename_i k0 k' k n h1 h2 hy
    split at h
    · rename_i hn
      cases h
      have hn' := of_decide_eq_true hn
      have hs := hE.kinds _ (lkK_mem h1)
      have hdd := hE.kinds _ (lkK_mem h2)
      refine EffOK.convLit (P := P) (N := N) (σ := den S) ho (by rw [ev_den]; exact hy) (fun w => ?_) (dstok_spec hd)
      have hk : P.intKind dst = k' := by simp [Program.intKind, hdd]
      have := run_convert_int (P := P) w src dst k n (by rw [hs]; rfl) (by rw [hk]; exact hdd)
      rw [hk, hn'] at this
      exact this
    · cases h
  · cases h
theorem nifE_ok {o : Oper} {S : ES} {q : ER} (hE : E.Good P) (hd : dstok N o.dst = true) {op : BinOp} {t yt : TypeId} {y z : Operand} (ho : o.op = .binOp op t y z yt) (h : nifE E.ifs S op t y z = some q) : EffE P N o S q := by
  unfold nifE at h
  split at h
  · rename_i v hm hy hz
    obtain ⟨ms, hi⟩ := hE.ifs t (memI_ok hm)
    have hz' : z = .const .nilIface := by
      unfold nilC at hz
      split at hz
      · rfl
      · cases hz
    subst hz'
    have heq : ∀ (d : Nat) w, (Op.equalIn (d + 1) t .nilIface .nilIface).run P w = .ok true w := fun d w => by simp [Op.equalIn, run_underlying hi]
    have hb : ∀ op' r, op' = BinOp.eql ∧ r = true ∨ op' = BinOp.neq ∧ r = false → ∀ w, ((do eqGuard op' t y (.const .nilIface) .nilIface .nilIface; binOp op' t .nilIface .nilIface : Sem Value)).run P w = .ok (.bool r) w := by
      rintro op' r (⟨rfl, rfl⟩ | ⟨rfl, rfl⟩) w <;> simp only [eqGuard, binOp] <;> simp [Op.equal, Op.maxDepth, heq 9999]
    split at h
    · rename_i hv
      have hv' : v = .nilIface := by
        unfold nilIfB at hv
        split at hv
        · rfl
        · cases hv
      subst hv'
      cases h
      exact EffOK.binOp (P := P) (N := N) (σ := den S) ho (by rw [ev_den]; exact hy) rfl (hb _ _ (.inl ⟨rfl, rfl⟩)) (dstok_spec hd)
    · rename_i hv
      have hv' : v = .nilIface := by
        unfold nilIfB at hv
        split at hv
        · rfl
        · cases hv
      subst hv'
      cases h
      exact EffOK.binOp (P := P) (N := N) (σ := den S) ho (by rw [ev_den]; exact hy) rfl (hb _ _ (.inr ⟨rfl, rfl⟩)) (dstok_spec hd)
    · cases h
  · cases h
theorem args_den (S : ES) (args : Array Operand) : args.toList.map (den S).eval = args.toList.map (evE S) := by
  apply List.map_congr_left; intro y _; exact ev_den S y
theorem stepE_ok {o : Oper} {S : ES} {q : ER} (hE : E.Good P) (hF : GoodCalls P callF) (hd : dstok N o.dst = true) (h : stepE E callF S o = some q) : EffE P N o S q := by
  unfold stepE at h
  split at h
  · rename_i ho; exact idxE_ok hE.Γ hd ho h
  · rename_i ho; exact cutE_ok hE.Γ hd ho h
  · rename_i ho; exact litE_ok hE.Γ hd ho h
  · rename_i ho; exact allocE_ok hE.Γ hd ho h
  · rename_i ho; exact boxE_ok hd ho h
  · rename_i ho
    split at h
    · exact mkMapE_ok hd ho h
    · cases h
  · rename_i ho; exact lookE_ok hE.Δ hd ho h
  · rename_i ho; exact setMapE_ok hE.Δ hd ho h
  · rename_i ho; exact byteE_ok hE.Γ hd ho h
  · rename_i ho; exact convE_ok hE hd ho h
  · rename_i ho
    split at h
    · rename_i hn; cases h; exact nifE_ok hE hd ho hn
    · exact binE_ok hE.Γ hd ho h
  · rename_i c ho
    obtain ⟨callee, args, types⟩ := c
    simp only at h
    split at h
    · split at h
      · rw [← args_den] at h
        exact callE_ok hF hd (.func ho rfl) h
      · split at h
        · rename_i f hne g first cap hy
          rw [← args_den] at h
          exact callE_ok hF hd (.clo ho (by rw [ev_den]; exact hy)) h
        · rename_i f hne g a b hy
          split at h
          · rename_i ha hb
            obtain rfl : a = #[] := Array.ext' ha
            obtain rfl : b = #[] := Array.ext' hb
            rw [← args_den] at h
            exact callE_ok hF hd (.func ho (by rw [ev_den]; exact hy)) h
          · cases h
        · cases h
    · split at h
      · rename_i y z t t2 ea et
        obtain rfl : args = #[y, z] := Array.ext' ea
        obtain rfl : types = #[t, t2] := Array.ext' et
        exact appE_ok hE.Γ hd ho h
      · cases h
    · split at h
      · rename_i y t ea et
        obtain rfl : args = #[y] := Array.ext' ea
        obtain rfl : types = #[t] := Array.ext' et
        split at h
        · rename_i q' hq
          cases h
          exact lenME_ok hE.Δ hd ho hq
        · exact plainE_ok hE.Γ hd h
      · cases h
    · exact plainE_ok hE.Γ hd h
  · exact plainE_ok hE.Γ hd h
theorem opsE_ok (hE : E.Good P) (hF : GoodCalls P callF) {ops : Array Oper} : ∀ (l : List Oper) (acc : Tk) (S : ES) (acc' : Tk) (S' : ES), opsE E callF N (ops.toList.map Oper.dst) l acc S = some (acc', S') → AReg P N ops l (den S) (fun es σ' => σ' = den S' ∧ acc' = acc ++ es.map Eff.toks)
  | [], acc, S, acc', S', h => by
    cases h
    exact ⟨rfl, by simp⟩
  | o :: rest, acc, S, acc', S', h => by
    unfold opsE at h
    split at h
    · cases h
    · rename_i hd0
      have hd := dstB_ok hd0
      have go : Wanted N ops o (den S) true → ∀ {q : ER}, stepE E callF S o = some q → opsE E callF N (ops.toList.map Oper.dst) rest (acc ++ [(q.1, q.2.2.1.map Prod.fst)]) (applyE S o.dst q.2.1 q.2.2.1 q.2.2.2) = some (acc', S') →
          AReg P N ops (o :: rest) (den S) (fun es σ' => σ' = den S' ∧ acc' = acc ++ es.map Eff.toks) := by
        intro hw q hq hr
        refine ⟨⟨o, true, den S, q.1, q.2.1, q.2.2.1⟩, rfl, rfl, ⟨hw, dstok_spec hd, fun _ => stepE_ok hE hF hd hq, fun h => by cases h⟩, ?_⟩
        have := opsE_ok hE hF rest _ _ _ _ hr
        rw [den_apply] at this
        refine AReg.post ?_ this
        rintro es σ' ⟨h1, h2⟩
        exact ⟨h1, by rw [h2]; simp [Eff.toks]⟩
      have skip : Wanted N ops o (den S) false → opsE E callF N (ops.toList.map Oper.dst) rest (acc ++ [([], [])]) (applyE S o.dst (.lit undef) [] S.nx) = some (acc', S') →
          AReg P N ops (o :: rest) (den S) (fun es σ' => σ' = den S' ∧ acc' = acc ++ es.map Eff.toks) := by
        intro hw hr
        refine ⟨⟨o, false, den S, [], .lit undef, []⟩, rfl, rfl, ⟨hw, dstok_spec hd, (fun h => by cases h), fun _ => ⟨rfl, rfl⟩⟩, ?_⟩
        have := opsE_ok hE hF rest _ _ _ _ hr
        rw [den_apply] at this
        refine AReg.post ?_ this
        rintro es σ' ⟨h1, h2⟩
        exact ⟨h1, by rw [h2]; simp [Eff.toks]⟩
      split at h
      · rename_i hg
        split at h
        · rename_i rd x ups nx hq
          exact go (by simp [Wanted, hg]) hq h
        · cases h
      · rename_i j b hg
        split at h
        · rename_i d hj
          rw [getR_eq, List.getElem?_map] at hj
          have hj' : (ops[j]?).bind (·.dst) = some d := by
            rw [← Array.getElem?_toList]
            cases ho : ops.toList[j]? with
            | none => rw [ho] at hj; cases hj
            | some o' => rw [ho] at hj; simpa using hj
          split at h
          · rename_i v hN hv
            have hw : Wanted N ops o (den S) (gv v b) := by
              simp only [Wanted, hg]
              exact ⟨d, v, hj', ble_le hN, hv, rfl⟩
            split at h
            · rename_i hb
              rw [hb] at hw
              split at h
              · rename_i rd x ups nx hq
                exact go hw hq h
              · cases h
            · rename_i hb
              rw [hb] at hw
              exact skip hw h
          · cases h
        · cases h
def AtE (e : Exit) (S : ES) : Exit → AState → Prop := fun e' σ => e' = e ∧ σ = den S
theorem codeE_ok (hE : E.Good P) (hF : GoodCalls P callF) {nL : Nat} : ∀ (n : Nat) (c : Code) (S : ES) (e : Exit) (S' : ES), codeE E callF N n c S = some (e, S') → AWp P N nL c (AtE e S') (den S) := by
  intro n
  induction n using Nat.strongRecOn with
  | _ n ih =>
    intro c S e S' h
    cases n with
    | zero => cases h
    | succ n =>
      have ihn := ih n (Nat.lt_succ_self n)
      unfold codeE at h
      split at h
      · cases h; exact AWp.skip ⟨rfl, rfl⟩
      · rename_i id ops dr
        split at h
        · rename_i acc S1 hops
          have h1 := opsE_ok hE hF (ops := ops) ops.toList [] S acc S1 hops
          obtain ⟨l⟩ := ops
          split at h
          · cases h
            refine AWp.region (AReg.post ?_ h1)
            rintro es σ' ⟨h2, _⟩
            exact ⟨rfl, h2⟩
          · split at h
            · rename_i g1 g2
              cases h
              refine AWp.draws2 hE.orders g1 (AReg.post ?_ h1)
              rintro es σ' ⟨h2, h3⟩
              refine ⟨?_, rfl, h2⟩
              simp only [List.nil_append] at h3
              rw [← h3]; exact g2
            · cases h
        · cases h
      · rename_i a b
        refine AWp.seq ?_
        split at h
        · rename_i S1 h1
          refine (ihn a S _ _ h1).mono ?_
          rintro e' σ ⟨rfl, rfl⟩
          exact ihn b S1 _ _ h
        · rename_i hne
          cases hr : codeE E callF N n a S with
          | none => rw [hr] at h; cases h
          | some p =>
            obtain ⟨e1, S1⟩ := p
            rw [hr] at h
            cases h
            refine (ihn a S _ _ hr).mono ?_
            rintro e' σ ⟨rfl, rfl⟩
            cases e' with
            | normal => exact absurd hr (hne _)
            | _ => exact ⟨rfl, rfl⟩
      · rename_i x a b
        split at h
        · rename_i hx
          exact AWp.cond (by rw [ev_den]; exact hx) (fun _ => ihn a S _ _ h) (fun hb => by cases hb)
        · rename_i hx
          exact AWp.cond (by rw [ev_den]; exact hx) (fun hb => by cases hb) (fun _ => ihn b S _ _ h)
        · cases h
      · rename_i id c
        refine AWp.block ?_
        split at h
        · rename_i j S1 h1
          refine (ihn c S _ _ h1).mono ?_
          rintro e' σ ⟨rfl, rfl⟩
          simp only [inBlockA]
          split at h
          · rename_i hj; cases h; rw [if_pos (beq_eq hj)]; exact ⟨rfl, rfl⟩
          · rename_i hj
            cases h
            rw [if_neg (fun e => by rw [e, Nat.beq_refl] at hj; cases hj)]
            exact ⟨rfl, rfl⟩
        · rename_i hne
          cases hr : codeE E callF N n c S with
          | none => rw [hr] at h; cases h
          | some p =>
            obtain ⟨e1, S1⟩ := p
            rw [hr] at h
            cases h
            refine (ihn c S _ _ hr).mono ?_
            rintro e' σ ⟨rfl, rfl⟩
            cases e' with
            | exit j => exact absurd hr (hne j _)
            | _ => exact ⟨rfl, rfl⟩
      · cases h; exact AWp.exit ⟨rfl, rfl⟩
      · cases h; exact AWp.ret ⟨rfl, rfl⟩
      · cases h; exact AWp.label ⟨rfl, rfl⟩
      · rename_i c
        have h' : codeE E callF N (n + 1) (.loop c) S = some (e, S') := by unfold codeE; exact h
        refine AWp.loop (I := fun k σ => k ≤ n + 1 ∧ ∃ S1, σ = den S1 ∧ codeE E callF N k (.loop c) S1 = some (e, S')) ⟨n + 1, Nat.le_refl _, S, rfl, h'⟩ ?_
        rintro k σ ⟨hk, S1, rfl, hk1⟩
        cases k with
        | zero => cases hk1
        | succ k =>
          rw [codeE_loop] at hk1
          have ihk := ih k (by omega)
          split at hk1
          · rename_i S2 h2
            refine (ihk c S1 _ _ h2).mono ?_
            rintro e' σ ⟨rfl, rfl⟩
            exact ⟨k, Nat.lt_succ_self k, by omega, S2, rfl, hk1⟩
          · rename_i hne
            cases hr : codeE E callF N k c S1 with
            | none => rw [hr] at hk1; cases hk1
            | some p =>
              obtain ⟨e1, S2⟩ := p
              rw [hr] at hk1
              cases hk1
              refine (ihk c S1 _ _ hr).mono ?_
              rintro e' σ ⟨rfl, rfl⟩
              cases e' with
              | normal => exact absurd hr (hne _)
              | _ => exact ⟨rfl, rfl⟩
      · cases h
end
section
variable {P : Program} {E : EEnv} {N : Nat}
theorem initS_get : ∀ (l : List AV) (k i : Nat), (initS k l).get i = if k ≤ i then l[i - k]? else none
  | [], k, i => by simp [initS, Tr.get]
  | x :: r, k, i => by
    simp only [initS, Tr.get_put, initS_get r (k + 1) i]
    by_cases h : i = k
    · subst h; simp
    · rw [if_neg h]
      by_cases h2 : k ≤ i
      · rw [if_pos h2, if_pos (by omega), show i - k = (i - (k + 1)) + 1 by omega]; rfl
      · rw [if_neg h2, if_neg (by omega)]
theorem initM_get : ∀ (l : List MS) (k i : Nat), (initM k l).get i = if k ≤ i then l[i - k]? else none
  | [], k, i => by simp [initM, Tr.get]
  | x :: r, k, i => by
    simp only [initM, Tr.get_put, initM_get r (k + 1) i]
    by_cases h : i = k
    · subst h; simp
    · rw [if_neg h]
      by_cases h2 : k ≤ i
      · rw [if_pos h2, if_pos (by omega), show i - k = (i - (k + 1)) + 1 by omega]; rfl
      · rw [if_neg h2, if_neg (by omega)]
theorem den_init (args : List AV) (ins : List MS) (nx : Nat) : den ⟨initS 0 args, initM 0 ins, nx⟩ = ⟨fun i => args.getD i .any, objsOf ins⟩ := by
  unfold den
  congr 1
  · funext i
    simp only [evE, initS_get, Nat.zero_le, if_true, Nat.sub_zero, List.getD_eq_getElem?_getD]
    cases args[i]? <;> rfl
  · funext t
    simp only [mE, initM_get, Nat.zero_le, if_true, Nat.sub_zero, objsOf]
    cases ins[t]? <;> rfl
theorem resE_ok (hΓ : E.Γ.Good P) {S : ES} : ∀ {rvs : List ResultVar} {xs : List AV}, resE E.Γ S rvs = some xs → ResL P (den S) rvs xs
  | [], xs, h => by cases h; trivial
  | rv :: rvs, xs, h => by
    simp only [resE] at h
    split at h
    · rename_i x ys h1 h2
      cases h
      refine ⟨?_, resE_ok hΓ h2⟩
      cases rv with
      | tmp t =>
        simp only [resE1, Option.some.injEq] at h1
        exact h1
      | cell a t =>
        simp only [resE1] at h1
        split at h1
        · rename_i tk i k ha
          split at h1
          · rename_i wd rows ro hm
            split at h1
            · rename_i r hr
              rw [getR_eq] at hr
              exact ⟨tk, i, k, wd, rows, ro, r, ha, hm, hr, loadA_ok hΓ (by rw [← lkT_eq, ← loadB_eq]; exact h1)⟩
            · cases h1
          · cases h1
        · cases h1
    · cases h
theorem outsE_ok {S : ES} {f : Nat → Option Nat} : ∀ {ns : List Nat} {outs : List MS}, outsE S f ns = some outs → outs.length = ns.length ∧ ∀ (k : Nat) (s : MS) (t : Nat), outs[k]? = some s → ns[k]? = some t →
    (∃ wd rows, s = .live wd (rnL f rows) false ∧ mE S t = .live wd rows false) ∨ (s = .dead ∧ mE S t ≠ .free)
  | [], outs, h => by cases h; exact ⟨rfl, by simp⟩
  | t :: r, outs, h => by
    simp only [outsE] at h
    split at h
    · cases h
    · rename_i l hl
      obtain ⟨h1, h2⟩ := outsE_ok hl
      have cons : ∀ s0, ((∃ wd rows, s0 = .live wd (rnL f rows) false ∧ mE S t = .live wd rows false) ∨ (s0 = .dead ∧ mE S t ≠ .free)) → (s0 :: l).length = (t :: r).length ∧ ∀ (k : Nat) (s : MS) (u : Nat), (s0 :: l)[k]? = some s → (t :: r)[k]? = some u →
          (∃ wd rows, s = .live wd (rnL f rows) false ∧ mE S u = .live wd rows false) ∨ (s = .dead ∧ mE S u ≠ .free) := by
        intro s0 h0
        refine ⟨by simp [h1], fun k s u hs hu => ?_⟩
        cases k with
        | zero => simp at hs hu; subst hs; subst hu; exact h0
        | succ k => exact h2 k s u (by simpa using hs) (by simpa using hu)
      split at h
      · rename_i wd rows hm; cases h; exact cons _ (.inl ⟨wd, rows, rfl, hm⟩)
      · rename_i wd rows hm; cases h; exact cons _ (.inr ⟨rfl, by rw [hm]; simp⟩)
      · rename_i hm; cases h; exact cons _ (.inr ⟨rfl, by rw [hm]; simp⟩)
      · cases h
theorem headN_ok : ∀ {k i : Nat} {ns : List Nat}, headN k i ns = true → ∀ j, j < k → ns[j]? = some (i + j)
  | 0, _, _, _, j, hj => by omega
  | k + 1, i, [], h, _, _ => by cases h
  | k + 1, i, t :: r, h, j, hj => by
    simp only [headN] at h
    split at h
    · rename_i hb
      have := beq_eq hb
      subst this
      cases j with
      | zero => rfl
      | succ j =>
        have := headN_ok h j (by omega)
        rw [show t + (j + 1) = t + 1 + j by omega]
        exact this
    · cases h
theorem endE_ok (hΓ : E.Γ.Good P) {S : ES} {nL : Nat} {fn : Func} {outs : List MS} {res : AV} (h : endE E.Γ nL fn.results.toList S = some (outs, res)) {w0 : World} {W0 : Nat → Prop} {L μ : Mu} {a : Act} {w : World} (hL : ∀ t, nL ≤ t → t < bigT → L t = none) (hs : Sim P N w0 W0 L μ (den S) a w) :
    ∃ v, (results fn a.tmps).run P w = .ok v w ∧ ∃ μ', Sim P 0 w0 W0 L μ' (bare outs) noAct w ∧ Rep (Wr W0 μ' (objsOf outs)) μ' w res v := by
  unfold endE at h
  split at h
  · cases h
  · rename_i xs hxs
    generalize reachE 1000 S 0 (refA S (ret1 xs) (List.range nL)) = ns at h
    simp only at h
    split at h
    · rename_i outs' g1 g2 g3
      cases h
      have hres := (resE_ok hΓ hxs).get
      obtain ⟨v, v1, v2⟩ := results_run hs hres.1 hres.2
      refine ⟨v, v1, ?_⟩
      obtain ⟨o1, o2⟩ := outsE_ok g1
      have hnd := nodupN_ok g2
      have hhd : ∀ j, j < nL → ns[j]? = some j := fun j hj => by have := headN_ok g3 j hj; simpa using this
      have hlive : ∀ t, objsOf outs t ≠ .free → ∃ u, ns[t]? = some u := fun t ht => by
        unfold objsOf at ht
        cases ho : outs[t]? with
        | none => rw [ho] at ht; exact absurd rfl ht
        | some s =>
          have : t < ns.length := by rw [← o1]; exact (List.getElem?_eq_some_iff.1 ho).1
          exact ⟨_, List.getElem?_eq_getElem this⟩
      have hget : ∀ t u, ns[t]? = some u → ns.getD t 0 = u := fun t u h => by rw [List.getD_eq_getElem?_getD, h]; rfl
      have hnf : ∀ t u, ns[t]? = some u → objsOf outs t ≠ .free := fun t u hu => by
        have hlt : t < outs.length := by rw [o1]; exact (List.getElem?_eq_some_iff.1 hu).1
        unfold objsOf
        rw [List.getElem?_eq_getElem hlt]
        rcases o2 t _ u (List.getElem?_eq_getElem hlt) hu with ⟨wd, rows, e, _⟩ | ⟨e, _⟩
        · rw [e]; simp
        · rw [e]; simp
      have hf : ∀ t u, idxIn ns 0 t = some u → objsOf outs u ≠ .free ∧ ns.getD u 0 = t := fun t u hu => by
        obtain ⟨_, h2⟩ := idxIn_ok hu
        rw [Nat.sub_zero] at h2
        exact ⟨hnf u t h2, hget u t h2⟩
      have hw : Weaker nL (fun t => ns.getD t 0) (fun _ => False) (bare outs) (den S) := by
        refine ⟨fun i => .any, fun t => ?_, fun t t' wd rows wd' rows' ro' g1 g2 he => ?_, fun s h => h.elim, fun t ht hne => ?_⟩
        · by_cases hfr : objsOf outs t = .free
          · exact .inl hfr
          · right
            obtain ⟨u, hu⟩ := hlive t hfr
            have hlt : t < outs.length := by rw [o1]; exact (List.getElem?_eq_some_iff.1 hu).1
            have hmem : (bare outs).mem t = outs[t] := by show objsOf outs t = _; unfold objsOf; rw [List.getElem?_eq_getElem hlt]; rfl
            have hden : (den S).mem (ns.getD t 0) = mE S u := by rw [hget t u hu]; rfl
            rcases o2 t _ u (List.getElem?_eq_getElem hlt) hu with ⟨wd, rows, e1, e2⟩ | ⟨e1, e2⟩
            · right
              refine ⟨wd, rnL (idxIn ns 0) rows, rows, false, false, by rw [hmem]; exact e1, by rw [hden]; exact e2, id, ?_, rnL_cv hf rows⟩
              obtain ⟨B, _, hB⟩ := hs.objs u wd rows false e2
              exact rnL_wide hB.wide
            · left
              exact ⟨by rw [hmem]; exact e1, by rw [hden]; exact e2⟩
        · obtain ⟨u, hu⟩ := hlive t (fun e => by rw [show objsOf outs t = .live wd rows false from g1] at e; cases e)
          obtain ⟨u', hu'⟩ := hlive t' (fun e => by rw [show objsOf outs t' = .live wd' rows' ro' from g2] at e; cases e)
          have he' : u = u' := by
            have h3 := hget t u hu
            have h4 := hget t' u' hu'
            rw [← h3, ← h4]
            exact he
          subst he'
          have e1 := idx_of hnd hu
          have e2 := idx_of hnd hu'
          rw [← e1, e2]
        · have h1 := hhd t ht
          exact ⟨hget t t h1, hnf t t h1⟩
      obtain ⟨μ', hs', hrep⟩ := hw.sim hL hs (N' := 0) (a' := noAct) (.inr ⟨fun _ => rfl, rfl, rfl⟩)
      exact ⟨μ', hs', hrep _ _ _ (rnA_cv hf _) v2⟩
    · cases h
theorem runF_ok (hE : E.Good P) (fuel : Nat) : ∀ n, GoodCalls P (runF E fuel n)
  | 0 => fun g ins args outs res h => by cases h
  | n + 1 => fun g ins args outs res h => by
    unfold runF at h
    split at h
    · rename_i r ho
      cases h
      exact hE.orc _ _ _ _ _ ho
    · split at h
      · cases h
      · rename_i fn hfn
        obtain ⟨hf, hc⟩ := hE.fns _ (lkF_mem hfn)
        refine ⟨?_, hc⟩
        split at h
        · rename_i c hb hlen0
          have hlen := ble_le hlen0
          have run : ∀ e S, codeE E (runF E fuel n) fn.ntmps fuel c ⟨initS 0 args, initM 0 ins, ins.length⟩ = some (e, S) → (e = .normal ∨ e = .ret) → endE E.Γ ins.length fn.results.toList S = some (outs, res) → FnOK P g ins args outs res := by
            intro e S hcode he hend
            intro w W0 L vs hL hs hr
            have h1 := codeE_ok (nL := ins.length) hE (runF_ok hE fuel n) _ _ _ _ _ hcode
            rw [den_init] at h1
            have hsim : Sim P fn.ntmps w W0 L L ⟨fun i => args.getD i .any, objsOf ins⟩ { tmps := vs.toArray ++ Array.replicate (fn.ntmps - vs.toArray.size) undef, defers := [] } w := by
              refine ⟨?_, .nil, hs.os, hs.tape, hs.output, hs.hsize, hs.shp, hs.keep, hs.w0lt, hs.lentμ, hs.free, fun i => ?_, hs.objs, hs.inj, hs.out, hs.tabs⟩
              · simp [hr.1]; omega
              · by_cases hi : i < args.length
                · have h1 : args[i]? = some args[i] := List.getElem?_eq_getElem hi
                  have h2 : vs[i]? = some (vs[i]'(by rw [hr.1]; exact hi)) := List.getElem?_eq_getElem _
                  have := hr.2 i _ _ h1 h2
                  have hv : (vs.toArray ++ Array.replicate (fn.ntmps - vs.toArray.size) undef).getD i undef = vs[i]'(by rw [hr.1]; exact hi) := by
                    rw [Array.getD_eq_getD_getElem?, Array.getElem?_append_left (by simp; rw [hr.1]; exact hi)]
                    simp [h2]
                  simp only [hv, List.getD_eq_getElem?_getD, h1, Option.getD_some]
                  exact this
                · simp only [List.getD_eq_getElem?_getD, List.getElem?_eq_none (Nat.le_of_not_lt hi), Option.getD_none]
                  exact .any
            refine calls_of_awp hf hb h1 (fun t ht => hL t (by omega)) hsim (fun e' σ' ⟨he', _⟩ => he' ▸ he) ?_
            rintro e' σ' μ' a' w' ⟨rfl, rfl⟩ hs' hd
            obtain ⟨v, v1, μ'', h3, h4⟩ := endE_ok hE.Γ hend (fun t ht _ => hL t ht) hs'
            exact ⟨v, v1, v, μ'', rfl, h3, h4⟩
          split at h
          · rename_i S hcode; exact run _ _ hcode (.inl rfl) h
          · rename_i S hcode; exact run _ _ hcode (.inr rfl) h
          · cases h
        · cases h
theorem FnOK.run (hE : E.Good P) (fuel n : Nat) {g : FuncId} {ins outs : List MS} {args : List AV} {res : AV} (h : runF E fuel n g ins args = some (outs, res)) : FnOK P g ins args outs res := (runF_ok hE fuel n _ _ _ _ _ h).1
end
end Go.Am
namespace Go.Am
open Go
def eqNs : List Nat → List Nat → Bool
  | [], [] => true
  | x :: xs, y :: ys => match Nat.beq x y with
    | true => eqNs xs ys
    | false => false
  | _, _ => false
theorem eqNs_ok : ∀ {a b : List Nat}, eqNs a b = true → a = b
  | [], [], _ => rfl
  | x :: xs, y :: ys, h => by
    simp only [eqNs] at h
    split at h
    · rename_i hb; rw [Nat.eq_of_beq_eq_true hb, eqNs_ok h]
    · cases h
  | [], _ :: _, h => by cases h
  | _ :: _, [], h => by cases h
def eqV : Value → Value → Bool
  | .bool a, .bool b => match a, b with
    | true, true => true
    | false, false => true
    | _, _ => false
  | .int k a, .int l b => match decide (k = l) with
    | true => decide (a = b)
    | false => false
  | .string a, .string b => eqNs (a.data.toList.map UInt8.toNat) (b.data.toList.map UInt8.toNat)
  | .pointer none, .pointer none => true
  | .slice none a b, .slice none c d => match Nat.beq a c with
    | true => Nat.beq b d
    | false => false
  | .map none, .map none => true
  | .nilFunc, .nilFunc => true
  | .nilIface, .nilIface => true
  | _, _ => false
theorem eqV_ok : ∀ {a b : Value}, eqV a b = true → a = b := by
  intro a b h
  unfold eqV at h
  split at h
  · rename_i a b; cases a <;> cases b <;> first | rfl | cases h
  · split at h
    · rename_i hk; rw [of_decide_eq_true hk, of_decide_eq_true h]
    · cases h
  · rename_i a b
    have h1 := eqNs_ok h
    have h2 : a.data.toList = b.data.toList := List.map_inj_right (fun x y => UInt8.toNat_inj.1) |>.1 h1
    have h3 : a.data = b.data := Array.ext' h2
    cases a; cases b; simp only at h3; rw [h3]
  · rfl
  · split at h
    · rename_i hk; rw [Nat.eq_of_beq_eq_true hk, Nat.eq_of_beq_eq_true h]
    · cases h
  · rfl
  · rfl
  · rfl
  · cases h
mutual
def eqA : AV → AV → Bool
  | .lit a, y => match y with
    | .lit b => eqV a b
    | _ => false
  | .ptr a b c, y => match y with
    | .ptr d e f => eqNs [a, b, c] [d, e, f]
    | _ => false
  | .own a b c, y => match y with
    | .own d e f => eqNs [a, b, c] [d, e, f]
    | _ => false
  | .mapr a, y => match y with
    | .mapr b => Nat.beq a b
    | _ => false
  | .agg a, y => match y with
    | .agg b => eqAs a b
    | _ => false
  | .tup a, y => match y with
    | .tup b => eqAs a b
    | _ => false
  | _, _ => false
def eqAs : List AV → List AV → Bool
  | [], y => match y with
    | [] => true
    | _ => false
  | x :: xs, y => match y with
    | y :: ys => match eqA x y with
      | true => eqAs xs ys
      | false => false
    | _ => false
end
mutual
theorem eqA_ok : ∀ (a b : AV), eqA a b = true → a = b
  | .lit a, b, h => by
    unfold eqA at h
    split at h
    · rw [eqV_ok h]
    · cases h
  | .ptr a b c, y, h => by
    unfold eqA at h
    split at h
    · have := eqNs_ok h; simp at this; rw [this.1, this.2.1, this.2.2]
    · cases h
  | .own a b c, y, h => by
    unfold eqA at h
    split at h
    · have := eqNs_ok h; simp at this; rw [this.1, this.2.1, this.2.2]
    · cases h
  | .mapr a, y, h => by
    unfold eqA at h
    split at h
    · rw [Nat.eq_of_beq_eq_true h]
    · cases h
  | .agg a, y, h => by
    unfold eqA at h
    split at h
    · rw [eqAs_ok _ _ h]
    · cases h
  | .tup a, y, h => by
    unfold eqA at h
    split at h
    · rw [eqAs_ok _ _ h]
    · cases h
  | .any, _, h => by simp [eqA] at h
  | .emp, _, h => by simp [eqA] at h
  | .guess _ _, _, h => by simp [eqA] at h
  | .sl _ _, _, h => by simp [eqA] at h
  | .fptr _ _, _, h => by simp [eqA] at h
  | .clo _ _ _, _, h => by simp [eqA] at h
  | .fmap _, _, h => by simp [eqA] at h
theorem eqAs_ok : ∀ (a b : List AV), eqAs a b = true → a = b
  | [], y, h => by
    unfold eqAs at h
    split at h
    · rfl
    · cases h
  | x :: xs, y, h => by
    unfold eqAs at h
    split at h
    · split at h
      · rename_i hx; rw [eqA_ok _ _ hx, eqAs_ok _ _ h]
      · cases h
    · cases h
end
def eqM : MS → MS → Bool
  | .free, .free => true
  | .dead, .dead => true
  | .live a r x, .live b s y => match Nat.beq a b with
    | true => match x, y with
      | true, true => eqAs r s
      | false, false => eqAs r s
      | _, _ => false
    | false => false
  | _, _ => false
theorem eqM_ok {a b : MS} (h : eqM a b = true) : a = b := by
  unfold eqM at h
  split at h
  · rfl
  · rfl
  · split at h
    · rename_i hb
      have := Nat.eq_of_beq_eq_true hb
      split at h
      · rw [this, eqAs_ok _ _ h]
      · rw [this, eqAs_ok _ _ h]
      · cases h
    · cases h
  · cases h
def eqMs : List MS → List MS → Bool
  | [], [] => true
  | x :: xs, y :: ys => match eqM x y with
    | true => eqMs xs ys
    | false => false
  | _, _ => false
theorem eqMs_ok : ∀ {a b : List MS}, eqMs a b = true → a = b
  | [], [], _ => rfl
  | x :: xs, y :: ys, h => by
    simp only [eqMs] at h
    split at h
    · rename_i hb; rw [eqM_ok hb, eqMs_ok h]
    · cases h
  | [], _ :: _, h => by cases h
  | _ :: _, [], h => by cases h
structure Ans where
  g : FuncId
  ins : List MS
  args : List AV
  outs : List MS
  res : AV
def tblF (orc : CallT) : List Ans → CallT
  | [] => orc
  | r :: rest => fun g ins args => match Nat.beq r.g g with
    | true => match eqMs r.ins ins with
      | true => match eqAs r.args args with
        | true => some (r.outs, r.res)
        | false => tblF orc rest g ins args
      | false => tblF orc rest g ins args
    | false => tblF orc rest g ins args
def Ans.OK (P : Program) (r : Ans) : Prop := FnOK P r.g r.ins r.args r.outs r.res ∧ Callable P r.g
theorem tblF_ok {P : Program} {orc : CallT} (ho : GoodCalls P orc) : ∀ {l : List Ans}, (∀ r ∈ l, r.OK P) → GoodCalls P (tblF orc l)
  | [], _ => ho
  | r :: rest, h => by
    intro g ins args outs res hq
    have ih := tblF_ok ho (l := rest) (fun x hx => h x (List.mem_cons_of_mem _ hx))
    simp only [tblF] at hq
    split at hq
    · rename_i h1
      split at hq
      · rename_i h2
        split at hq
        · rename_i h3
          cases hq
          have h0 := h r (List.mem_cons_self ..)
          unfold Ans.OK at h0
          rw [Nat.eq_of_beq_eq_true h1, eqMs_ok h2, eqAs_ok _ _ h3] at h0
          exact h0
        · exact ih _ _ _ _ _ hq
      · exact ih _ _ _ _ _ hq
    · exact ih _ _ _ _ _ hq
def EEnv.more (E : EEnv) (l : List Ans) : EEnv := ⟨E.Γ, E.Δ, E.fns, E.kinds, tblF E.orc l, E.ifs⟩
theorem EEnv.more_good {P : Program} {E : EEnv} (hE : E.Good P) {l : List Ans} (h : ∀ r ∈ l, r.OK P) : (E.more l).Good P := ⟨hE.Γ, hE.Δ, hE.fns, hE.kinds, tblF_ok (fun _ _ _ _ _ h => hE.orc _ _ _ _ _ h) h, hE.orders, hE.ifs⟩
theorem Ans.of {P : Program} {E : EEnv} (hE : E.Good P) {fuel n : Nat} {r : Ans} (h : runF E fuel n r.g r.ins r.args = some (r.outs, r.res)) : r.OK P := runF_ok hE fuel n _ _ _ _ _ h
theorem Ans.cons {P : Program} {r : Ans} {l : List Ans} (h : r.OK P) (hl : ∀ r ∈ l, r.OK P) : ∀ x ∈ r :: l, x.OK P := List.forall_mem_cons.2 ⟨h, hl⟩
end Go.Am
