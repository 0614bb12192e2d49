/- Effects of single operations, part 2. By an AI agent. -/
import Derived.Test.YtgfbnphfgeeldaaAm6
namespace Go.Am

def spliceL (cs : List AV) (k : Nat) (xs : List AV) : List AV := cs.take k ++ xs ++ cs.drop (k + xs.length)
theorem spliceL_length {cs xs : List AV} {k : Nat} (h : k + xs.length ≤ cs.length) : (spliceL cs k xs).length = cs.length := by
  simp [spliceL, List.length_take, List.length_drop]; omega
theorem spliceL_get {cs xs : List AV} {k j : Nat} (h : k + xs.length ≤ cs.length) : (spliceL cs k xs)[j]? = if k ≤ j ∧ j < k + xs.length then xs[j - k]? else cs[j]? := by
  unfold spliceL
  rw [List.append_assoc, List.getElem?_append, List.length_take, Nat.min_eq_left (by omega)]
  split
  · rename_i h1; rw [if_neg (by omega), List.getElem?_take, if_pos h1]
  · rename_i h1
    rw [List.getElem?_append]
    split
    · rename_i h2; rw [if_pos (by omega)]
    · rename_i h2; rw [if_neg (by omega), List.getElem?_drop]; congr 1; omega

/-- Storing x (of type t) at cell k of row r leaves this row. -/
inductive Stores (P : Program) (t : TypeId) (r : AV) (k : Nat) (x : AV) : AV → Prop
  | full {n : Nat} : TSize P t n → (cells x).length = n → (cells r).length = n → k = 0 → Stores P t r k x x
  | part {n : Nat} : TSize P t n → (cells x).length = n → k + n ≤ (cells r).length → Stores P t r k x (.agg (spliceL (cells r) k (cells x)))

theorem Stores.cells {P : Program} {t : TypeId} {r x r' : AV} {k : Nat} (h : Stores P t r k x r') : TSize P t (Am.cells x).length ∧ k + (Am.cells x).length ≤ (Am.cells r).length ∧ Am.cells r' = spliceL (Am.cells r) k (Am.cells x) := by
  cases h with
  | full h1 h2 h3 h4 =>
    subst h4
    refine ⟨by rw [h2]; exact h1, by omega, ?_⟩
    simp only [spliceL, List.take_zero, List.nil_append, Nat.zero_add]
    rw [List.drop_eq_nil_of_le (by omega), List.append_nil]
  | part h1 h2 h3 => exact ⟨by rw [h2]; exact h1, by omega, rfl⟩

def oneL (cs : List AV) : Bool := cs.all AV.one
theorem RepL.one {W : Nat → Prop} {μ : Mu} {w : World} {cs : List AV} {vs : List Value} (h : RepL W μ w cs vs) (ho : oneL cs = true) : ∀ v ∈ vs, v.oneCell' = true := by
  intro v hv
  obtain ⟨j, hj⟩ := List.getElem?_of_mem hv
  have hlt := (List.getElem?_eq_some_iff.1 hj).1
  have hjc : j < cs.length := by rw [← h.1]; exact hlt
  have hc : cs[j]? = some cs[j] := List.getElem?_eq_getElem hjc
  exact (h.2 j _ v hc hj).one (List.all_eq_true.1 ho _ (List.mem_of_getElem? hc))

theorem Wide.set {wd : Nat} {rows : List AV} (h : Wide wd rows) {i : Nat} {r : AV} (hr : (cells r).length = wd) : Wide wd (rows.set i r) := by
  intro j s hs
  rw [List.getElem?_set] at hs
  split at hs
  · split at hs
    · cases hs; exact hr
    · cases hs
  · exact h j s hs

section
variable {P : Program} {N : Nat} {σ : AState} {o : Oper}

theorem updM_nil_put {σ : AState} {dst : Option Tmp} {x : AV} : σ.upd dst x [] = ⟨putS σ.slots dst x, σ.mem⟩ := rfl

theorem Sim.put_upd {w0 : World} {W0 : Nat → Prop} {L μ : Mu} {a : Act} {w : World} {ups : List (Nat × MS)} (h : Sim N w0 W0 L μ ⟨σ.slots, updM σ.mem ups⟩ a w) {dst : Option Tmp} {x : AV} {v : Value}
    (hx : Rep (Wr W0 μ (updM σ.mem ups)) μ w x v) (hd : ∀ d, dst = some d → d < N) : Sim N w0 W0 L μ (σ.upd dst x ups) (a.put dst v) w := h.put hx hd

theorem EffOK.store {y z : Operand} {t : TypeId} {tk i k wd : Nat} {rows : List AV} {r r' x : AV} (ho : o.op = .store t y z) (he : σ.eval y = .ptr tk i k) (hz : σ.eval z = x) (hm : σ.mem tk = .live wd rows false)
    (hr : rows[i]? = some r) (hx : Stores P t r k x r') (hone : oneL (cells x) = true) (hsol : x.solid = true) (hd : o.dst = none) : EffOK P N o σ [tk] .any [(tk, .live wd (rows.set i r') false)] := by
  intro σ2 he2 hrd w0 W0 L μ a w K Q hs hK
  have h1 := hs.eval y
  have h2 := hs.eval z
  rw [he2 y (by simp [ho, Op.operands]), he] at h1
  rw [he2 z (by simp [ho, Op.operands]), hz] at h2
  have hm2 : σ2.mem tk = .live wd rows false := by rw [hrd tk (by simp)]; exact hm
  obtain ⟨B, hB, hobj⟩ := hs.objs tk wd rows false hm2
  have hvirt := hobj.real hr
  obtain ⟨C, e, fz, c1, c2, c3⟩ := hobj.blk hvirt
  rw [c2 rfl] at c1
  obtain ⟨s1, s2, s3⟩ := hx.cells
  have hrow := hobj.wide i r hr
  have hilt := (List.getElem?_eq_some_iff.1 hr).1
  have hcx := h2.cells hsol
  have hrun : ∃ C', (execOp a.eval o).run P w = .ok .skip (w.setRow B.b C') ∧ C'.size = C.size ∧
      ∀ q, C'[q]? = if B.o + (i * wd + k) ≤ q ∧ q < B.o + (i * wd + k) + (cells x).length then (a.eval z).cells.toList[q - (B.o + (i * wd + k))]? else C[q]? := by
    generalize hv : a.eval y = v at h1
    cases h1 with
    | ptr a1 =>
      rw [hB] at a1; cases a1
      have hle : B.o + (i * wd + k) + 0 + (a.eval z).cells.toList.length ≤ C.size := by
        rw [hcx.1]
        have : (i + 1) * wd ≤ rows.length * wd := Nat.mul_le_mul_right _ hilt
        rw [Nat.add_mul] at this
        omega
      have hst := run_storeCells_at (P := P) B.b (B.o + (i * wd + k)) e (a.eval z).cells.toList 0 C w c1 hle (hcx.one hone)
      have hsz : (a.eval z).cells.size = (cells x).length := by rw [← hcx.1]; simp
      simp only [Nat.add_zero] at hst
      refine ⟨(C.toList.take (B.o + (i * wd + k)) ++ (a.eval z).cells.toList ++ C.toList.drop (B.o + (i * wd + k) + (a.eval z).cells.toList.length)).toArray, ?_, ?_, ?_⟩
      · simp only [execOp, ho, hv, Instr.storeAt, Instr.sureAddr, storeVar, Sem.run_bind, Sem.run_pure, Result.andThen_ok, s1 w, hobj.width, hsz, ne_eq, not_true, if_false]
        rw [hst]; rfl
      · simp only [Nat.add_zero] at hle
        simp only [List.size_toArray, List.length_append, List.length_take, List.length_drop, Array.length_toList]
        simp only [Array.length_toList] at hle
        omega
      · intro q
        simp only [Nat.add_zero] at hle
        have hl2 : (a.eval z).cells.toList.length = (cells x).length := hcx.1
        simp only [List.getElem?_toArray]
        rw [List.append_assoc, List.getElem?_append, List.length_take, Nat.min_eq_left (by simp only [Array.length_toList] at hle ⊢; omega)]
        split
        · rename_i hq; rw [if_neg (by omega), List.getElem?_take, if_pos hq]; simp
        · rename_i hq
          rw [List.getElem?_append]
          split
          · rename_i hq2; rw [if_pos (by omega)]
          · rename_i hq2; rw [if_neg (by omega), List.getElem?_drop]
            simp only [Array.getElem?_toList]
            congr 1; omega
  obtain ⟨C', k1, k2, k3⟩ := hrun
  have hr'w : (cells r').length = wd := by rw [s3, spliceL_length s2]; exact hrow
  have hs' := hs.setObj (rows' := rows.set i r') hm2 hB hvirt c1 k2 (by simp) (hobj.wide.set hr'w) (fun q c hq => by
    obtain ⟨i', j, s, q1, q2, q3, q4⟩ := flat_at (hobj.wide.set hr'w) hq
    subst q1
    rw [List.getElem?_set] at q2
    by_cases hii : i = i'
    · subst hii
      rw [if_pos rfl, if_pos hilt] at q2; cases q2
      rw [s3, spliceL_get s2] at q3
      split at q3
      · rename_i hj
        have hv : (a.eval z).cells.toList[j - k]? = some ((a.eval z).cells.toList[j - k]'(by rw [hcx.1]; omega)) := List.getElem?_eq_getElem _
        refine ⟨_, ?_, hcx.2 _ _ _ q3 hv⟩
        rw [k3, if_pos (by omega), ← hv]; congr 1; omega
      · rename_i hj
        obtain ⟨v, v1, v2⟩ := hobj.cell _ c (flat_get hobj.wide hr q3)
        refine ⟨v, ?_, v2⟩
        rw [k3, if_neg (by omega)]
        simpa [World.cell?, c1] using v1
    · rw [if_neg hii] at q2
      obtain ⟨v, v1, v2⟩ := hobj.cell _ c (flat_get hobj.wide q2 q3)
      refine ⟨v, ?_, v2⟩
      have hne : ¬ (B.o + (i * wd + k) ≤ B.o + (i' * wd + j) ∧ B.o + (i' * wd + j) < B.o + (i * wd + k) + (cells x).length) := by
        rintro ⟨n1, n2⟩
        rcases Nat.lt_or_gt_of_ne hii with h | h
        · have : (i + 1) * wd ≤ i' * wd := Nat.mul_le_mul_right _ h
          rw [Nat.add_mul] at this
          omega
        · have : (i' + 1) * wd ≤ i * wd := Nat.mul_le_mul_right _ h
          rw [Nat.add_mul] at this
          omega
      rw [k3, if_neg hne]
      simpa [World.cell?, c1] using v1)
  unfold Oper.wp
  rw [k1]
  refine hK μ _ _ ?_
  rw [hd]
  exact hs'

/-- A new object: what the operation does is one block, and a value over it. -/
theorem EffOK.new {tk wd : Nat} {rows : List AV} {x : AV} (hf : σ.mem tk = .free) (hw : Wide wd rows)
    (h : ∀ (σ2 : AState), (∀ y ∈ o.op.operands, σ2.eval y = σ.eval y) → ∀ (w0 : World) (W0 : Nat → Prop) (L μ : Mu) (a : Act) (w : World), Sim N w0 W0 L μ σ2 a w →
      ∃ (C : Array Value) (e : TypeId) (v : Value) (n : Nat), (execOp a.eval o).run P w = .ok (.value v) ({ w with drawn := n }.alloc (.cells C e)) ∧ rows.length * wd ≤ C.size ∧
        (∀ (q : Nat) (c : AV), (flat rows)[q]? = some c → ∃ v, C[q]? = some v ∧ Rep (Wr W0 μ σ2.mem) μ w c v) ∧
        (x = .ptr tk 0 0 ∧ v = .pointer (some ⟨w.heap.size, 0, none⟩) ∨ ∃ cap, x = .own tk 0 rows.length ∧ v = .slice (some ⟨w.heap.size, 0, none⟩) rows.length cap ∧ rows.length ≤ cap ∧ cap * wd ≤ C.size))
    (hd : ∀ d, o.dst = some d → d < N) : EffOK P N o σ [tk] x [(tk, .live wd rows false)] := by
  intro σ2 he2 hrd w0 W0 L μ a w K Q hs hK
  obtain ⟨C, e, v, n, h1, h2, h3, h4⟩ := h σ2 he2 w0 W0 L μ a w hs
  have hs1 := hs.drawn n
  have hf2 : σ2.mem tk = .free := by rw [hrd tk (by simp)]; exact hf
  have g : Grow (Wr W0 μ σ2.mem) μ w (Wr W0 μ σ2.mem) μ { w with drawn := n } := ⟨Nat.le_refl _, fun _ _ _ => rfl, fun _ _ _ h => h, fun _ _ h => h, fun _ _ h => h⟩
  have hs2 := hs1.alloc (e := e) hf2 hw h2 (fun q c hq => let ⟨v, a1, a2⟩ := h3 q c hq; ⟨v, a1, a2.grow g⟩)
  unfold Oper.wp
  rw [h1]
  refine hK _ _ _ (Sim.put_upd hs2 ?_ hd)
  rcases h4 with ⟨rfl, rfl⟩ | ⟨cap, rfl, rfl, h5, h6⟩
  · have := Rep.ptr (W := Wr W0 (setMu μ tk ⟨w.heap.size, 0, wd, false⟩) (updM σ2.mem [(tk, MS.live wd rows false)])) (μ := setMu μ tk ⟨w.heap.size, 0, wd, false⟩) (w := World.alloc { w with drawn := n } (.cells C e)) (t := tk) (i := 0) (k := 0) (B := ⟨w.heap.size, 0, wd, false⟩) (by simp [setMu])
    simpa using this
  · have := Rep.own (W := Wr W0 (setMu μ tk ⟨w.heap.size, 0, wd, false⟩) (updM σ2.mem [(tk, MS.live wd rows false)])) (μ := setMu μ tk ⟨w.heap.size, 0, wd, false⟩) (w := World.alloc { w with drawn := n } (.cells C e)) (t := tk) (off := 0) (len := rows.length) (cap := cap) (e := e) (n := C.size) (B := ⟨w.heap.size, 0, wd, false⟩)
      (by simp [setMu]) rfl h5 (by simp only [World.shape?]; rw [show w.heap.size = ({ w with drawn := n } : World).heap.size from rfl, heap_alloc_new]) (by simpa using h6)
    simpa using this

theorem EffOK.box {y : Operand} {t : TypeId} {tk : Nat} {x : AV} (ho : o.op = .box t y) (he : σ.eval y = x) (hsol : x.solid = true) (hf : σ.mem tk = .free) (hd : ∀ d, o.dst = some d → d < N) :
    EffOK P N o σ [tk] (.ptr tk 0 0) [(tk, .live (cells x).length [x] false)] :=
  .new hf (.cons rfl (.nil _)) (fun σ2 he2 w0 W0 L μ a w hs => by
    have h1 := hs.eval y
    rw [he2 y (by simp [ho, Op.operands]), he] at h1
    have hc := h1.cells hsol
    refine ⟨(a.eval y).cells, t, .pointer (some ⟨w.heap.size, 0, none⟩), w.drawn, ?_, ?_, fun q c hq => ?_, .inl ⟨rfl, rfl⟩⟩
    · simp [execOp, ho, Instr.box, newVar, newRow]
    · have := hc.1; simp at this; simp [this]
    · simp [flat] at hq
      have hq' := (List.getElem?_eq_some_iff.1 hq).1
      have hv : (a.eval y).cells.toList[q]? = some ((a.eval y).cells.toList[q]'(by rw [hc.1]; exact hq')) := List.getElem?_eq_getElem _
      exact ⟨_, by rw [← Array.getElem?_toList]; exact hv, hc.2 q c _ hq hv⟩) hd

def ofVal : Value → AV
  | .agg xs => .agg (xs.toList.map .lit)
  | x => .lit x
theorem ofVal_rep {W : Nat → Prop} {μ : Mu} {w : World} (x : Value) : Rep W μ w (ofVal x) x := by
  cases x with
  | agg xs =>
    have := RepL.lits (W := W) (μ := μ) (w := w) xs.toList
    have h : Rep W μ w (.agg (xs.toList.map .lit)) (.agg xs.toList.toArray) := .agg this.1 this.2
    simpa [ofVal] using h
  | _ => exact .lit
theorem ofVal_solid (x : Value) : (ofVal x).solid = true := by cases x <;> rfl

def TZero (P : Program) (t : TypeId) (z : Value) : Prop := ∀ w, (zeroValue t).run P w = .ok z w

theorem EffOK.alloc {t : TypeId} {tk : Nat} {z : Value} (ho : o.op = .alloc t) (hz : TZero P t z) (hf : σ.mem tk = .free) (hd : ∀ d, o.dst = some d → d < N) :
    EffOK P N o σ [tk] (.ptr tk 0 0) [(tk, .live (cells (ofVal z)).length [ofVal z] false)] :=
  .new hf (.cons rfl (.nil _)) (fun σ2 he2 w0 W0 L μ a w hs => by
    have hc := (ofVal_rep (W := Wr W0 μ σ2.mem) (μ := μ) (w := w) z).cells (ofVal_solid z)
    refine ⟨z.cells, t, .pointer (some ⟨w.heap.size, 0, none⟩), w.drawn, ?_, ?_, fun q c hq => ?_, .inl ⟨rfl, rfl⟩⟩
    · simp [execOp, ho, Instr.alloc, hz w, newVar, newRow]
    · have := hc.1; simp at this; simp [this]
    · simp [flat] at hq
      have hq' := (List.getElem?_eq_some_iff.1 hq).1
      have hv : z.cells.toList[q]? = some (z.cells.toList[q]'(by rw [hc.1]; exact hq')) := List.getElem?_eq_getElem _
      exact ⟨_, by rw [← Array.getElem?_toList]; exact hv, hc.2 q c _ hq hv⟩) hd
end
end Go.Am
