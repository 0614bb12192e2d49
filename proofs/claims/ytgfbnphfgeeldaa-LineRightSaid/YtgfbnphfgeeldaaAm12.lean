/- The operations as functions on abstract states, part 2. By an AI agent. -/
import Derived.Test.YtgfbnphfgeeldaaAm11
namespace Go.Am

/-- A bound of a slice expression. -/
def boundA (sl : List (Nat × AV)) (d : Int) : Option Operand → Option Int
  | none => some d
  | some z => match evO sl z with
    | .lit (.int _ n) => some n
    | _ => none

/-- Parts 0, 1, 2 .. in order, each of wd cells. -/
def inOrder (wd : Nat) : Nat → List (Nat × AV) → Bool
  | _, [] => true
  | k, (i, x) :: r => i == k && (cells x).length == wd && x.solid && inOrder wd (k + 1) r

/-- What is appended, and to what: rows, and the objects that are read. -/
def srcA (m : List (Nat × MS)) (wd : Nat) : AV → Option (Prop × List AV × List Nat)
  | .own t off len => match lookM m t with
    | .live wd' rows _ => if wd' = wd then (if off = 0 ∧ len = rows.length then some (True, rows, [t]) else some (off + len ≤ rows.length, (rows.drop off).take len, [t])) else none
    | _ => none
  | .sl wd' rows => if wd' = wd then some (True, rows, []) else none
  | .emp => some (True, [], [])
  | .lit (.slice none 0 0) => some (True, [], [])
  | _ => none
def baseA (m : List (Nat × MS)) (wd : Nat) : AV → Option (Prop × List AV × List Nat)
  | .own t off len => match lookM m t with
    | .live wd' rows false => if wd' = wd then (if off = 0 ∧ len = rows.length then some (True, rows, [t]) else some (off + len ≤ rows.length, (rows.drop off).take len, [t])) else none
    | _ => none
  | .emp => some (True, [], [])
  | .lit (.slice none 0 0) => some (True, [], [])
  | _ => none

/-- append. -/
def appA (Γ : TEnv) (sl : List (Nat × AV)) (m : List (Nat × MS)) (dst : Option Nat) (c : Call) : Option (Prop × List Nat × AV × List (Nat × MS)) :=
  match c.callee, c.args.toList, c.argTypes.toList with
  | .builtin .append, [y, z], [t, t2] => (match dst, lookT Γ t, lookT Γ t2 with
    | some d, some (.sl _ wd bytes), some (.sl _ _ _) => match lookM m (10 * d) with
      | .free => match baseA m wd (evO sl y), srcA m wd (evO sl z) with
        | some (c1, rows0, k), some (c2, news, rd) => some (c1 ∧ c2 ∧ oneL (flat news) = true ∧ (rows0.length + news.length) * bytes ≤ 140737488355328 ∧ rows0.length + news.length ≤ 9223372036854775807,
            10 * d :: (k ++ rd), .own (10 * d) 0 (rows0 ++ news).length, (10 * d, .live wd (rows0 ++ news) false) :: k.map fun t => (t, .dead))
        | _, _ => none
      | _ => none
    | _, _, _ => none)
  | _, _, _ => none

/-- The effect of operations under a condition. -/
def condA (Γ : TEnv) (sl : List (Nat × AV)) (m : List (Nat × MS)) (dst : Option Nat) (op : Op) : Option (Prop × List Nat × AV × List (Nat × MS)) :=
  match op with
  | .indexAddr t y z => match evO sl z with
    | .lit (.int _ i) => match lookT Γ t, evO sl y with
      | some (.sl _ wd _), .own tk off len => match lookM m tk with
        | .live wd' _ _ => if wd' = wd then some (0 ≤ i ∧ i < len, [tk], .ptr tk (off + i.toNat) 0, []) else none
        | _ => none
      | some (.sl _ wd _), .sl wd' rows => if wd' = wd then (match rows[i.toNat]? with
        | some r => some (0 ≤ i, [], .fptr r 0, [])
        | none => none) else none
      | some (.ar _ len _ wd _), .ptr tk i0 k0 => some (0 ≤ i ∧ i < len, [], .ptr tk i0 (k0 + i.toNat * wd), [])
      | _, _ => none
    | _ => none
  | .slice t y lo hi none => match lookT Γ t with
    | some (.sl _ wd _) => match evO sl y with
      | .own tk off len => match boundA sl 0 lo, boundA sl len hi, lookM m tk with
        | some l, some h, .live wd' _ _ => if wd' = wd then some (0 ≤ l ∧ l ≤ h ∧ h ≤ len, [tk], .own tk (off + l.toNat) (h.toNat - l.toNat), []) else none
        | _, _, _ => none
      | .sl wd' rows => match boundA sl 0 lo, boundA sl rows.length hi with
        | some l, some h => if wd' = wd then some (0 ≤ l ∧ l ≤ h ∧ h ≤ rows.length, [], .sl wd ((rows.drop l.toNat).take (h.toNat - l.toNat)), []) else none
        | _, _ => none
      | _ => none
    | _ => none
  | .slice t y none (some hi) (some mx) => match lookT Γ t, evO sl hi, evO sl mx with
    | some (.sl _ _ _), .lit (.int _ 0), .lit (.int _ 0) => match evO sl y with
      | .own _ _ _ => some (True, [], .emp, [])
      | .sl _ _ => some (True, [], .emp, [])
      | .emp => some (True, [], .emp, [])
      | .lit (.slice none 0 0) => some (True, [], .emp, [])
      | _ => none
    | _, _, _ => none
  | .buildSlice t len parts => match dst, lookT Γ t with
    | some d, some (.sl _ wd _) => match lookM m (10 * d) with
      | .free => if inOrder wd 0 (parts.toList.map fun p => (p.1, evO sl p.2)) = true ∧ parts.toList.length = len ∧ len * wd ≤ 16777216 then
          some (True, [10 * d], .own (10 * d) 0 len, [(10 * d, .live wd (parts.toList.map fun p => evO sl p.2) false)]) else none
      | _ => none
    | _, _ => none
  | .call c => appA Γ sl m dst c
  | _ => none

section
variable {P : Program} {N : Nat} {Γ : TEnv} {σ : AState} {o : Oper}

theorem EffOK.slice_sl {y : Operand} {lo hi : Option Operand} {t e : TypeId} {rows : List AV} {l h wd : Nat} (ho : o.op = .slice t y lo hi none) (he : σ.eval y = .sl wd rows)
    (hl : lo = none ∧ l = 0 ∨ ∃ z k, lo = some z ∧ σ.eval z = .lit (.int k l)) (hh : hi = none ∧ h = rows.length ∨ ∃ z k, hi = some z ∧ σ.eval z = .lit (.int k h)) (h1 : l ≤ h) (h2 : h ≤ rows.length)
    (ht : TSlice P t e) (hsz : TSize P e wd) (hd : ∀ d, o.dst = some d → d < N) : EffOK P N o σ [] (.sl wd ((rows.drop l).take (h - l))) [] :=
  .val (fun σ2 he2 hrd w0 W0 L μ a w hs => by
    have k1 := hs.eval y
    rw [he2 y (by simp [ho, Op.operands]), he] at k1
    have hl' : lo.map a.eval = none ∧ l = 0 ∨ ∃ k, lo.map a.eval = some (.int k l) := by
      rcases hl with ⟨rfl, rfl⟩ | ⟨z, k, rfl, hz⟩
      · exact .inl ⟨rfl, rfl⟩
      · have := hs.eval z
        rw [he2 z (by simp [ho, Op.operands]), hz] at this
        exact .inr ⟨k, by simp [this.val]⟩
    have hh' : hi.map a.eval = none ∧ h = rows.length ∨ ∃ k, hi.map a.eval = some (.int k h) := by
      rcases hh with ⟨rfl, rfl⟩ | ⟨z, k, rfl, hz⟩
      · exact .inl ⟨rfl, rfl⟩
      · have := hs.eval z
        rw [he2 z (by simp [ho, Op.operands]), hz] at this
        exact .inr ⟨k, by simp [this.val]⟩
    have hnone : (none : Option Operand).map a.eval = none := rfl
    have hll : ((rows.drop l).take (h - l)).length = h - l := by rw [List.length_take, List.length_drop]; omega
    generalize hv : a.eval y = v at k1
    cases k1 with
    | @slNil _ a' cap =>
      have hl0 : l = 0 := by simp at h2; omega
      have hh0 : h = 0 := by simpa using h2
      subst hl0; subst hh0
      have hbr := bounds_run (P := P) (len := 0) (cap := cap) hl' hh' h1 (Nat.zero_le _) w
      refine ⟨.slice (if cap = 0 then a' else a'.map fun x => x.add (0 * wd)) 0 (cap - 0), ?_, ?_⟩
      · simp only [execOp, ho, hv, Instr.sliceAt, Instr.slice, Sem.run_bind, run_underlying ht, Result.andThen_ok, hnone, hbr, hsz w, Sem.run_pure, Nat.sub_self]
      · simpa using Rep.slNil
    | @sl _ _ b q0 cap n f a1 a2 a3 a4 a5 a6 a7 =>
      subst a3
      have hbr := bounds_run (P := P) hl' hh' h1 (Nat.le_trans h2 a4) w
      refine ⟨.slice (if cap = l then some ⟨b, q0, none⟩ else some ⟨b, q0 + l * wd, none⟩) (h - l) (cap - l), ?_, ?_⟩
      · simp only [execOp, ho, hv, Instr.sliceAt, Instr.slice, Sem.run_bind, run_underlying ht, Result.andThen_ok, hnone, hbr, hsz w, Sem.run_pure, Option.map_some, Addr.add_lit]
      · by_cases hc : cap = l
        · have h0 : h - l = 0 := by omega
          have hnil : (rows.drop l).take (h - l) = [] := List.eq_nil_of_length_eq_zero (by rw [hll, h0])
          rw [hnil, h0]
          exact .slNil
        · rw [if_neg hc]
          exact .sl (f := fun q => f (l * wd + q)) a1 a2 hll.symm (by omega) (Wide.sub a5 fun r hr => List.mem_of_mem_drop (List.mem_of_mem_take hr))
            (fun q c hq => by rw [Nat.add_assoc]; exact a6 _ c (flat_cut a5 hq)) (fun q c hq => a7 _ c (flat_cut a5 hq))) hd

theorem EffOK.slice3 {y hi mx : Operand} {t e : TypeId} {kh km : IntKind} {x : AV} (ho : o.op = .slice t y none (some hi) (some mx)) (he : σ.eval y = x) (hx : (∃ tk off len, x = .own tk off len) ∨ (∃ wd rows, x = .sl wd rows) ∨ x = .emp ∨ x = .lit (.slice none 0 0))
    (hh : σ.eval hi = .lit (.int kh 0)) (hm : σ.eval mx = .lit (.int km 0)) (ht : TSlice P t e) (hsz : ∃ wd, TSize P e wd) (hd : ∀ d, o.dst = some d → d < N) : EffOK P N o σ [] .emp [] :=
  .val (fun σ2 he2 hrd w0 W0 L μ a w hs => by
    have k1 := hs.eval y
    have k2 := hs.eval hi
    have k3 := hs.eval mx
    rw [he2 y (by simp [ho, Op.operands]), he] at k1
    rw [he2 hi (by simp [ho, Op.operands]), hh] at k2
    rw [he2 mx (by simp [ho, Op.operands]), hm] at k3
    obtain ⟨wd, hsz⟩ := hsz
    have hv : ∃ ad n c, a.eval y = .slice ad n c := by
      generalize a.eval y = v at k1
      rcases hx with ⟨tk, off, len, rfl⟩ | ⟨wd, rows, rfl⟩ | rfl | rfl
      · cases k1 <;> exact ⟨_, _, _, rfl⟩
      · cases k1 <;> exact ⟨_, _, _, rfl⟩
      · cases k1; exact ⟨_, _, _, rfl⟩
      · cases k1; exact ⟨_, _, _, rfl⟩
    obtain ⟨ad, n, c, hv⟩ := hv
    have hbd : ∀ (k : IntKind) (y : Nat) (cd : BoundsCode), (Instr.sliceBound (.int k 0) y cd).run P w = .ok 0 w := fun k y cd => by
      rw [run_sliceBound w k 0 y cd (by omega) (by omega)]; simp
    refine ⟨.slice ad 0 0, ?_, .emp⟩
    simp [execOp, ho, hv, k2.val, k3.val, Instr.sliceAt, Instr.slice, run_underlying ht, hsz w, Instr.sliceBounds, hbd]) hd

theorem fill_inOrder {wd : Nat} : ∀ (ps : List (Nat × AV)) (k : Nat) (pre : List AV), inOrder wd k ps = true → pre.length = k * wd →
    fillA (fun i => some (i * wd, wd)) (pre ++ List.replicate (ps.length * wd) .any) ps = some (pre ++ flat (ps.map (·.2)))
  | [], k, pre, _, _ => by simp [fillA, flat]
  | (i, x) :: ps, k, pre, h, hl => by
    simp only [inOrder, Bool.and_eq_true, beq_iff_eq] at h
    obtain ⟨⟨⟨rfl, h2⟩, h3⟩, h4⟩ := h
    have hlen : (pre ++ List.replicate (((i, x) :: ps).length * wd) AV.any).length = (i + 1 + ps.length) * wd := by
      simp [hl, ← Nat.add_mul]; congr 1; omega
    simp only [fillA]
    rw [if_pos ⟨h2, by rw [hlen, h2, Nat.add_mul, Nat.add_mul]; omega, h3⟩]
    have hsp : spliceL (pre ++ List.replicate (((i, x) :: ps).length * wd) AV.any) (i * wd) (cells x) = (pre ++ cells x) ++ List.replicate (ps.length * wd) AV.any := by
      unfold spliceL
      rw [← hl, List.take_left, List.drop_append, List.drop_eq_nil_of_le (by omega), List.nil_append, List.append_assoc, List.append_assoc]
      congr 2
      rw [List.drop_replicate]
      congr 1
      rw [List.length_cons, Nat.add_mul, h2]; omega
    rw [hsp, fill_inOrder ps (i + 1) (pre ++ cells x) h4 (by rw [List.length_append, hl, h2, Nat.add_mul, Nat.one_mul])]
    simp [flat_cons]
theorem inOrder_wide {wd : Nat} : ∀ (ps : List (Nat × AV)) (k : Nat), inOrder wd k ps = true → Wide wd (ps.map (·.2))
  | [], _, _ => .nil _
  | (i, x) :: ps, k, h => by
    simp only [inOrder, Bool.and_eq_true, beq_iff_eq] at h
    exact .cons h.1.1.2 (inOrder_wide ps _ h.2)

theorem srcA_ok {m : List (Nat × MS)} {sl : List (Nat × AV)} {wd : Nat} {x : AV} {c : Prop} {rows : List AV} {rd : List Nat} (h : srcA m wd x = some (c, rows, rd)) (hc : c) : Src (St sl m) wd x rows rd := by
  unfold srcA at h
  split at h
  · split at h
    · rename_i hm
      split at h
      · rename_i hw; subst hw
        split at h
        · rename_i h0
          cases h
          obtain ⟨rfl, h0⟩ := h0
          exact .full hm h0
        · cases h; exact .own hm hc
      · cases h
    · cases h
  · split at h
    · rename_i hw; subst hw; cases h; exact .sl
    · cases h
  · cases h; exact .emp
  · cases h; exact .nil
  · cases h
theorem baseA_ok {m : List (Nat × MS)} {sl : List (Nat × AV)} {wd : Nat} {x : AV} {c : Prop} {rows : List AV} {rd : List Nat} (h : baseA m wd x = some (c, rows, rd)) (hc : c) : Base (St sl m) wd x rows rd := by
  unfold baseA at h
  split at h
  · split at h
    · rename_i hm
      split at h
      · rename_i hw; subst hw
        split at h
        · rename_i h0
          cases h
          obtain ⟨rfl, h0⟩ := h0
          exact .full hm h0
        · cases h; exact .own hm hc
      · cases h
    · cases h
  · cases h; exact .emp
  · cases h; exact .nil
  · cases h
end
end Go.Am
