/- Effects of single operations, part 1. By an AI agent. -/
import Derived.Test.YtgfbnphfgeeldaaAm5
namespace Go.Am

def TScalar (P : Program) (t : TypeId) : Prop := ∀ w, (isAgg t).run P w = .ok false w
def TAgg (P : Program) (t : TypeId) : Prop := ∀ w, (isAgg t).run P w = .ok true w
def TSize (P : Program) (t : TypeId) (n : Nat) : Prop := ∀ w, (sizeOf t).run P w = .ok n w
def TFieldV (P : Program) (t : TypeId) (f off : Nat) (ft : TypeId) : Prop := ∀ cs w, (Instr.field t (.agg cs) f).run P w = (part ft cs off).run P w
def TFieldA (P : Program) (t : TypeId) (f off : Nat) : Prop := ∀ (ad : Addr) w, (Instr.fieldAt t (.pointer (some ad)) f).run P w = .ok (.pointer (some (ad.add off))) w
def TSlice (P : Program) (t e : TypeId) : Prop := P.underlying t = some (.slice e)
def TArray (P : Program) (t : TypeId) (n : Nat) (e : TypeId) : Prop := P.underlying t = some (.array n e)

def isAggV : AV → Bool
  | .agg _ => true
  | .lit (.agg _) => true
  | _ => false

/-- Loading type t at cell k of row r gives this. -/
inductive Loads (P : Program) (t : TypeId) (r : AV) (k : Nat) : AV → Prop
  | scalar {c : AV} : TScalar P t → (cells r)[k]? = some c → Loads P t r k c
  | full {n : Nat} : TAgg P t → TSize P t n → k = 0 → (cells r).length = n → isAggV r = true → Loads P t r k r
  | part {n : Nat} : TAgg P t → TSize P t n → k + n ≤ (cells r).length → Loads P t r k (.agg (((cells r).drop k).take n))

section
variable {P : Program} {N : Nat} {σ : AState} {o : Oper}

theorem Loads.run {t : TypeId} {r x : AV} {k b q0 : Nat} {W : Nat → Prop} {μ : Mu} {w : World} (h : Loads P t r k x)
    (hc : ∀ (q : Nat) (c : AV), (cells r)[q]? = some c → ∃ v, w.cell? ⟨b, q0 + q, none⟩ = some v ∧ Rep W μ w c v) :
    ∃ v, (loadVar t ⟨b, q0 + k, none⟩).run P w = .ok v w ∧ Rep W μ w x v := by
  have agg : ∀ n, TAgg P t → TSize P t n → k + n ≤ (cells r).length → ∃ vs : List Value, (loadVar t ⟨b, q0 + k, none⟩).run P w = .ok (.agg vs.toArray) w ∧ RepL W μ w (((cells r).drop k).take n) vs := by
    intro n h1 h2 h3
    have key : ∀ j, ∃ v, j < n → ∃ c, (cells r)[k + j]? = some c ∧ w.cell? ⟨b, q0 + (k + j), none⟩ = some v ∧ Rep W μ w c v := fun j => by
      by_cases hj : j < n
      · obtain ⟨c, hcj⟩ : ∃ c, (cells r)[k + j]? = some c := ⟨_, List.getElem?_eq_getElem (by omega)⟩
        obtain ⟨v, h4, h5⟩ := hc _ c hcj
        exact ⟨v, fun _ => ⟨c, hcj, h4, h5⟩⟩
      · exact ⟨undef, fun h => absurd h hj⟩
    obtain ⟨f, hf⟩ := Classical.skolem.1 key
    refine ⟨(List.range n).map f, ?_, ?_⟩
    · simp only [loadVar, Sem.run_bind, h1 w, h2 w, Result.andThen_ok, if_true]
      rw [run_loadCells w ⟨b, q0 + k, none⟩ n f (fun j hj => by
        obtain ⟨c, _, h5, _⟩ := hf j hj
        rw [Addr.add_lit, Nat.add_assoc]; exact h5)]
      rfl
    · refine ⟨by simp [List.length_take, List.length_drop]; omega, fun j c v h4 h5 => ?_⟩
      rw [List.getElem?_take] at h4
      split at h4
      · rename_i hj
        rw [List.getElem?_drop] at h4
        obtain ⟨c', h6, _, h7⟩ := hf j hj
        rw [h4] at h6; cases h6
        simp [hj] at h5
        rw [← h5]; exact h7
      · cases h4
  cases h with
  | scalar h1 h2 =>
    obtain ⟨v, h3, h4⟩ := hc k x h2
    refine ⟨v, ?_, h4⟩
    simp [loadVar, h1 w, h3]
  | full h1 h2 h3 h4 h5 =>
    subst h3
    obtain ⟨vs, k1, k2⟩ := agg _ h1 h2 (by omega)
    refine ⟨_, k1, ?_⟩
    have hd : ((cells r).drop 0).take (cells r).length = cells r := by simp
    rw [← h4, hd] at k2
    cases r with
    | agg cs => exact .agg k2.1 k2.2
    | lit z =>
      cases z with
      | agg xs =>
        have := k2.of_lits
        rw [this]; exact .lit
      | _ => simp [isAggV] at h5
    | _ => simp [isAggV] at h5
  | part h1 h2 h3 =>
    obtain ⟨vs, k1, k2⟩ := agg _ h1 h2 h3
    exact ⟨_, k1, .agg k2.1 k2.2⟩

/-- A value, and nothing else. -/
theorem EffOK.val {rd : List Nat} {x : AV}
    (h : ∀ (σ2 : AState), (∀ y ∈ o.op.operands, σ2.eval y = σ.eval y) → (∀ t ∈ rd, σ2.mem t = σ.mem t) → ∀ (w0 : World) (W0 : Nat → Prop) (L μ : Mu) (a : Act) (w : World), Sim N w0 W0 L μ σ2 a w →
      ∃ v, (execOp a.eval o).run P w = .ok (.value v) w ∧ Rep (Wr W0 μ σ2.mem) μ w x v) (hd : ∀ d, o.dst = some d → d < N) : EffOK P N o σ rd x [] := by
  intro σ2 he hr w0 W0 L μ a w K Q hs hK
  obtain ⟨v, h1, h2⟩ := h σ2 he hr w0 W0 L μ a w hs
  unfold Oper.wp
  rw [h1]
  exact hK μ _ _ (hs.put h2 hd)

theorem EffOK.move {y : Operand} (ho : o.op = .move y) (hd : ∀ d, o.dst = some d → d < N) : EffOK P N o σ [] (σ.eval y) [] :=
  .val (fun σ2 he _ w0 W0 L μ a w hs => ⟨a.eval y, by simp [execOp, ho], by rw [← he y (by simp [ho, Op.operands])]; exact hs.eval y⟩) hd
theorem EffOK.assign {y : Operand} (ho : o.op = .assign y) (hd : ∀ d, o.dst = some d → d < N) : EffOK P N o σ [] (σ.eval y) [] :=
  .val (fun σ2 he _ w0 W0 L μ a w hs => ⟨a.eval y, by simp [execOp, ho], by rw [← he y (by simp [ho, Op.operands])]; exact hs.eval y⟩) hd

/-- The value that an abstract value surely is. -/
def AV.val? : AV → Option Value
  | .lit x => some x
  | _ => none
theorem Rep.val {W : Nat → Prop} {μ : Mu} {w : World} {x v : Value} (h : Rep W μ w (.lit x) v) : v = x := by cases h; rfl

/-- An operation over known values that is computed alike in every world. -/
theorem EffOK.lits {ρ : Operand → Value} {r : Value} (hs : ∀ cs b, o.op ≠ .select cs b) (hρ : ∀ y ∈ o.op.operands, σ.eval y = .lit (ρ y)) (hr : ∀ w, (execOp ρ o).run P w = .ok (.value r) w)
    (hd : ∀ d, o.dst = some d → d < N) : EffOK P N o σ [] (.lit r) [] :=
  .val (fun σ2 he _ w0 W0 L μ a w h => ⟨r, by
    rw [execOp_congr (ρ' := ρ) o hs (fun y hy => ?_)]
    · exact hr w
    · have := h.eval y
      rw [he y hy, hρ y hy] at this
      exact this.val, .lit⟩) hd

theorem EffOK.un1 {y : Operand} {x r : Value} {f : Value → Sem Value} (hx : ∀ ρ : Operand → Value, execOp ρ o = do pure (.value (← f (ρ y)))) (hy : o.op.operands = #[y]) (he : σ.eval y = .lit x)
    (hr : ∀ w, (f x).run P w = .ok r w) (hd : ∀ d, o.dst = some d → d < N) : EffOK P N o σ [] (.lit r) [] :=
  .val (fun σ2 he2 _ w0 W0 L μ a w h => ⟨r, by
    have := h.eval y
    rw [he2 y (by simp [hy]), he] at this
    rw [hx, this.val]; simp [hr w], .lit⟩) hd
theorem EffOK.bin {y z : Operand} {x1 x2 r : Value} {f : Value → Value → Sem Value} (hx : ∀ ρ : Operand → Value, execOp ρ o = do pure (.value (← f (ρ y) (ρ z)))) (hy : o.op.operands = #[y, z])
    (he : σ.eval y = .lit x1) (he' : σ.eval z = .lit x2) (hr : ∀ w, (f x1 x2).run P w = .ok r w) (hd : ∀ d, o.dst = some d → d < N) : EffOK P N o σ [] (.lit r) [] :=
  .val (fun σ2 he2 _ w0 W0 L μ a w h => ⟨r, by
    have h1 := h.eval y
    have h2 := h.eval z
    rw [he2 y (by simp [hy]), he] at h1
    rw [he2 z (by simp [hy]), he'] at h2
    rw [hx, h1.val, h2.val]; simp [hr w], .lit⟩) hd

theorem EffOK.pick {c y z : Operand} {b : Bool} {x : AV} (ho : o.op = .pick c y z) (hc : σ.eval c = .lit (.bool b)) (hx : x = if b then σ.eval y else σ.eval z) (hd : ∀ d, o.dst = some d → d < N) : EffOK P N o σ [] x [] :=
  .val (fun σ2 he _ w0 W0 L μ a w hs => by
    have h1 := hs.eval c
    rw [he c (by simp [ho, Op.operands]), hc] at h1
    refine ⟨if b then a.eval y else a.eval z, by simp [execOp, ho, h1.val, asBool], ?_⟩
    rw [hx]
    cases b
    · simp only [Bool.false_eq_true, if_false]; rw [← he z (by simp [ho, Op.operands])]; exact hs.eval z
    · simp only [if_true]; rw [← he y (by simp [ho, Op.operands])]; exact hs.eval y) hd

theorem EffOK.extract {y : Operand} {i : Nat} {vs : List AV} {x : AV} (ho : o.op = .extract y i) (he : σ.eval y = .tup vs) (hx : vs[i]? = some x) (hd : ∀ d, o.dst = some d → d < N) : EffOK P N o σ [] x [] :=
  .val (fun σ2 he2 _ w0 W0 L μ a w hs => by
    have h1 := hs.eval y
    rw [he2 y (by simp [ho, Op.operands]), he] at h1
    generalize hv : a.eval y = v at h1
    cases h1 with
    | @tup cs us a1 a2 =>
      have hi := (List.getElem?_eq_some_iff.1 hx).1
      have hu : us[i]? = some us[i] := List.getElem?_eq_getElem (by omega)
      refine ⟨us[i], ?_, a2 i x _ hx hu⟩
      simp [execOp, ho, hv, Instr.extract, hu]) hd

theorem EffOK.field {y : Operand} {t ft : TypeId} {f off : Nat} {cs : List AV} {x : AV} (ho : o.op = .field t y f) (he : σ.eval y = .agg cs) (hf : TFieldV P t f off ft)
    (hx : Loads P ft (.agg cs) off x) (hd : ∀ d, o.dst = some d → d < N) : EffOK P N o σ [] x [] :=
  .val (fun σ2 he2 _ w0 W0 L μ a w hs => by
    have h1 := hs.eval y
    rw [he2 y (by simp [ho, Op.operands]), he] at h1
    generalize hv : a.eval y = v at h1
    cases h1 with
    | @agg _ us a1 a2 =>
      have hpart : ∃ v, (part ft us.toArray off).run P w = .ok v w ∧ Rep (Wr W0 μ σ2.mem) μ w x v := by
        cases hx with
        | scalar k1 k2 =>
          have hi := (List.getElem?_eq_some_iff.1 k2).1
          simp only [cells] at hi k2
          have hu : us[off]? = some us[off] := List.getElem?_eq_getElem (by omega)
          exact ⟨us[off], by simp [part, k1 w, hu], a2 off x _ k2 hu⟩
        | full k1 k2 k3 k4 k5 =>
          subst k3
          refine ⟨.agg us.toArray, ?_, .agg a1 a2⟩
          simp only [cells] at k4
          simp [part, k1 w, k2 w, ← k4, ← a1]
        | @part n k1 k2 k3 =>
          refine ⟨.agg ((us.drop off).take n).toArray, ?_, .agg ?_ ?_⟩
          · simp [part, k1 w, k2 w, List.extract_eq_take_drop]
          · simp [cells, a1]
          · intro j c v h4 h5
            simp only [cells] at h4
            rw [List.getElem?_take] at h4 h5
            split at h4
            · rename_i hj
              rw [if_pos hj] at h5
              rw [List.getElem?_drop] at h4 h5
              exact a2 _ _ _ h4 h5
            · cases h4
      obtain ⟨v, p1, p2⟩ := hpart
      refine ⟨v, ?_, p2⟩
      simp [execOp, ho, hv, hf us.toArray w, p1]) hd

theorem EffOK.load_ptr {y : Operand} {t : TypeId} {tk i k wd : Nat} {rows : List AV} {ro : Bool} {r x : AV} (ho : o.op = .load t y) (he : σ.eval y = .ptr tk i k) (hm : σ.mem tk = .live wd rows ro)
    (hr : rows[i]? = some r) (hx : Loads P t r k x) (hd : ∀ d, o.dst = some d → d < N) : EffOK P N o σ [tk] x [] :=
  .val (fun σ2 he2 hrd w0 W0 L μ a w hs => by
    have h1 := hs.eval y
    rw [he2 y (by simp [ho, Op.operands]), he] at h1
    have hm2 : σ2.mem tk = .live wd rows ro := by rw [hrd tk (by simp)]; exact hm
    obtain ⟨B, hB, hobj⟩ := hs.objs tk wd rows ro hm2
    generalize hv : a.eval y = v at h1
    cases h1 with
    | ptr a1 =>
      rw [hB] at a1; cases a1
      have := hx.run (b := B.b) (q0 := B.o + i * B.wd) (w := w) (fun q c hq => by
        obtain ⟨v, h2, h3⟩ := hobj.cell _ c (flat_get hobj.wide hr hq)
        exact ⟨v, by rw [hobj.width, Nat.add_assoc]; exact h2, h3⟩)
      obtain ⟨v, h2, h3⟩ := this
      refine ⟨v, ?_, h3⟩
      rw [← Nat.add_assoc] at hv
      simp [execOp, ho, hv, Instr.loadAt, Instr.sureAddr, h2]) hd

theorem EffOK.load_fptr {y : Operand} {t : TypeId} {k : Nat} {r x : AV} (ho : o.op = .load t y) (he : σ.eval y = .fptr r k) (hx : Loads P t r k x) (hd : ∀ d, o.dst = some d → d < N) : EffOK P N o σ [] x [] :=
  .val (fun σ2 he2 hrd w0 W0 L μ a w hs => by
    have h1 := hs.eval y
    rw [he2 y (by simp [ho, Op.operands]), he] at h1
    generalize hv : a.eval y = v at h1
    cases h1 with
    | @fptr e k b q0 f a1 a2 a3 a4 =>
      obtain ⟨v, h2, h3⟩ := hx.run (b := b) (q0 := q0) (w := w) (fun q c hq => ⟨f q, a3 q c hq, a4 q c hq⟩)
      refine ⟨v, ?_, h3⟩
      simp [execOp, ho, hv, Instr.loadAt, Instr.sureAddr, h2]) hd

theorem EffOK.fieldAddr_ptr {y : Operand} {t : TypeId} {f off tk i k : Nat} (ho : o.op = .fieldAddr t y f) (he : σ.eval y = .ptr tk i k) (hf : TFieldA P t f off)
    (hd : ∀ d, o.dst = some d → d < N) : EffOK P N o σ [] (.ptr tk i (k + off)) [] :=
  .val (fun σ2 he2 hrd w0 W0 L μ a w hs => by
    have h1 := hs.eval y
    rw [he2 y (by simp [ho, Op.operands]), he] at h1
    generalize hv : a.eval y = v at h1
    cases h1 with
    | @ptr _ _ _ B a1 =>
      refine ⟨.pointer (some ⟨B.b, B.o + (i * B.wd + (k + off)), none⟩), ?_, .ptr a1⟩
      simp [execOp, ho, hv, hf ⟨B.b, B.o + (i * B.wd + k), none⟩ w, Addr.add_lit, Nat.add_assoc]) hd
theorem EffOK.fieldAddr_fptr {y : Operand} {t : TypeId} {f off k : Nat} {r : AV} (ho : o.op = .fieldAddr t y f) (he : σ.eval y = .fptr r k) (hf : TFieldA P t f off)
    (hd : ∀ d, o.dst = some d → d < N) : EffOK P N o σ [] (.fptr r (k + off)) [] :=
  .val (fun σ2 he2 hrd w0 W0 L μ a w hs => by
    have h1 := hs.eval y
    rw [he2 y (by simp [ho, Op.operands]), he] at h1
    generalize hv : a.eval y = v at h1
    cases h1 with
    | @fptr e k b q0 g a1 a2 a3 a4 =>
      refine ⟨.pointer (some ⟨b, q0 + (k + off), none⟩), ?_, .fptr a1 a2 a3 a4⟩
      simp [execOp, ho, hv, hf ⟨b, q0 + k, none⟩ w, Addr.add_lit, Nat.add_assoc]) hd
theorem EffOK.nilCheck {y : Operand} {x : AV} (ho : o.op = .nilCheck y) (he : σ.eval y = x) (hx : (∃ t i k, x = .ptr t i k) ∨ (∃ r k, x = .fptr r k)) (hd : ∀ d, o.dst = some d → d < N) : EffOK P N o σ [] x [] :=
  .val (fun σ2 he2 hrd w0 W0 L μ a w hs => by
    have h1 := hs.eval y
    rw [he2 y (by simp [ho, Op.operands]), he] at h1
    refine ⟨a.eval y, ?_, h1⟩
    generalize hv : a.eval y = v at h1
    rcases hx with ⟨t, i, k, rfl⟩ | ⟨r, k, rfl⟩
    · cases h1; simp [execOp, ho, hv]
    · cases h1; simp [execOp, ho, hv]) hd

theorem EffOK.index_own {y z : Operand} {t e : TypeId} {tk off len wd : Nat} {kd : IntKind} {i : Int} (ho : o.op = .indexAddr t y z) (he : σ.eval y = .own tk off len) (hz : σ.eval z = .lit (.int kd i))
    (ht : TSlice P t e) (hsz : TSize P e wd) (h0 : 0 ≤ i) (h1 : i < len) (hwd : ∃ rows ro, σ.mem tk = .live wd rows ro) (hd : ∀ d, o.dst = some d → d < N) : EffOK P N o σ [tk] (.ptr tk (off + i.toNat) 0) [] :=
  .val (fun σ2 he2 hrd w0 W0 L μ a w hs => by
    have k1 := hs.eval y
    have k2 := hs.eval z
    rw [he2 y (by simp [ho, Op.operands]), he] at k1
    rw [he2 z (by simp [ho, Op.operands]), hz] at k2
    obtain ⟨rows, ro, hm⟩ := hwd
    have hm2 : σ2.mem tk = .live wd rows ro := by rw [hrd tk (by simp)]; exact hm
    obtain ⟨B, hB, hobj⟩ := hs.objs tk wd rows ro hm2
    generalize hv : a.eval y = v at k1
    cases k1 with
    | own a1 _ a2 a3 a4 =>
      rw [hB] at a1; cases a1
      refine ⟨.pointer (some ⟨B.b, B.o + ((off + i.toNat) * B.wd + 0), none⟩), ?_, .ptr hB⟩
      simp [execOp, ho, hv, k2.val, Instr.indexAt, asIntOf, run_underlying ht, hsz w, h0, h1, Addr.add_lit, hobj.width, Nat.add_mul, Nat.add_assoc]
    | ownNil a1 => simp at h1; omega) hd
theorem EffOK.index_sl {y z : Operand} {t e : TypeId} {wd : Nat} {rows : List AV} {r : AV} {kd : IntKind} {i : Int} (ho : o.op = .indexAddr t y z) (he : σ.eval y = .sl wd rows) (hz : σ.eval z = .lit (.int kd i))
    (ht : TSlice P t e) (hsz : TSize P e wd) (h0 : 0 ≤ i) (hr : rows[i.toNat]? = some r) (hd : ∀ d, o.dst = some d → d < N) : EffOK P N o σ [] (.fptr r 0) [] :=
  .val (fun σ2 he2 hrd w0 W0 L μ a w hs => by
    have k1 := hs.eval y
    have k2 := hs.eval z
    rw [he2 y (by simp [ho, Op.operands]), he] at k1
    rw [he2 z (by simp [ho, Op.operands]), hz] at k2
    have hlt := (List.getElem?_eq_some_iff.1 hr).1
    have h1 : i < rows.length := by omega
    generalize hv : a.eval y = v at k1
    cases k1 with
    | slNil => simp at hr
    | @sl _ _ b q0 cap n f a1 a2 a3 a4 a5 a6 a7 =>
      refine ⟨.pointer (some ⟨b, q0 + i.toNat * wd + 0, none⟩), ?_, .fptr (f := fun q => f (i.toNat * wd + q)) a1 a2 (fun q c hq => ?_) (fun q c hq => a7 _ c (flat_get a5 hr hq))⟩
      · subst a3
        simp [execOp, ho, hv, k2.val, Instr.indexAt, asIntOf, run_underlying ht, hsz w, h0, h1, Addr.add_lit]
      · rw [Nat.add_assoc]; exact a6 _ c (flat_get a5 hr hq)) hd
theorem EffOK.index_arr {y z : Operand} {t e : TypeId} {tk i0 k0 wd n : Nat} {kd : IntKind} {i : Int} (ho : o.op = .indexAddr t y z) (he : σ.eval y = .ptr tk i0 k0) (hz : σ.eval z = .lit (.int kd i))
    (ht : TArray P t n e) (hsz : TSize P e wd) (h0 : 0 ≤ i) (h1 : i < n) (hd : ∀ d, o.dst = some d → d < N) : EffOK P N o σ [] (.ptr tk i0 (k0 + i.toNat * wd)) [] :=
  .val (fun σ2 he2 hrd w0 W0 L μ a w hs => by
    have k1 := hs.eval y
    have k2 := hs.eval z
    rw [he2 y (by simp [ho, Op.operands]), he] at k1
    rw [he2 z (by simp [ho, Op.operands]), hz] at k2
    generalize hv : a.eval y = v at k1
    cases k1 with
    | @ptr _ _ _ B a1 =>
      refine ⟨.pointer (some ⟨B.b, B.o + (i0 * B.wd + (k0 + i.toNat * wd)), none⟩), ?_, .ptr a1⟩
      simp [execOp, ho, hv, k2.val, Instr.indexAt, asIntOf, run_underlying ht, hsz w, h0, h1, Addr.add_lit, Instr.sureAddr, Nat.add_assoc]) hd

/-- len. -/
theorem EffOK.len {y : Operand} {t : TypeId} {x : AV} {n : Nat} {e : TypeId} (ho : o.op = .call { callee := .builtin .len, args := #[y], argTypes := #[t] }) (he : σ.eval y = x) (ht : TSlice P t e)
    (hx : (∃ tk off, x = .own tk off n) ∨ (∃ wd rows, x = .sl wd rows ∧ n = rows.length) ∨ (∃ a c, x = .lit (.slice a n c))) (hd : ∀ d, o.dst = some d → d < N) : EffOK P N o σ [] (.lit (.int .i64 n)) [] :=
  .val (fun σ2 he2 hrd w0 W0 L μ a w hs => by
    have k1 := hs.eval y
    rw [he2 y (by simp [ho, Op.operands, Call.operands]), he] at k1
    refine ⟨.int .i64 n, ?_, .lit⟩
    have hv : ∃ a' c, a.eval y = .slice a' n c := by
      generalize a.eval y = v at k1
      rcases hx with ⟨tk, off, rfl⟩ | ⟨wd, rows, rfl, rfl⟩ | ⟨a', c, rfl⟩
      · cases k1 <;> exact ⟨_, _, rfl⟩
      · cases k1 with
        | slNil => exact ⟨_, _, rfl⟩
        | sl a1 a2 a3 a4 a5 a6 a7 => subst a3; exact ⟨_, _, rfl⟩
      · cases k1; exact ⟨_, _, rfl⟩
    obtain ⟨a', c, hv⟩ := hv
    simp [execOp, ho, resolve, invoke, builtin, hv, Builtin.len_, run_underlying ht, goInt]) hd
theorem EffOK.len_str {y : Operand} {t : TypeId} {s : ByteArray} (ho : o.op = .call { callee := .builtin .len, args := #[y], argTypes := #[t] }) (he : σ.eval y = .lit (.string s)) (ht : P.underlying t = some .string)
    (hd : ∀ d, o.dst = some d → d < N) : EffOK P N o σ [] (.lit (.int .i64 s.size)) [] :=
  .val (fun σ2 he2 hrd w0 W0 L μ a w hs => by
    have k1 := hs.eval y
    rw [he2 y (by simp [ho, Op.operands, Call.operands]), he] at k1
    refine ⟨.int .i64 s.size, ?_, .lit⟩
    simp [execOp, ho, resolve, invoke, builtin, k1.val, Builtin.len_, run_underlying ht, goInt]) hd
theorem EffOK.makeFunc {fn : Fn} {first cap : Array Operand} (ho : o.op = .makeFunc fn first cap) (hd : ∀ d, o.dst = some d → d < N) : EffOK P N o σ [] (.clo fn (first.toList.map σ.eval) (cap.toList.map σ.eval)) [] :=
  .val (fun σ2 he2 hrd w0 W0 L μ a w hs => by
    refine ⟨.func fn (first.toList.map a.eval).toArray (cap.toList.map a.eval).toArray, by simp [execOp, ho, Instr.makeFunc]; exact ⟨by rw [← Array.toList_map], by rw [← Array.toList_map]⟩, .clo (by simp) (by simp) (fun j c v h1 h2 => ?_) (fun j c v h1 h2 => ?_)⟩
    · simp only [List.getElem?_map, Option.map_eq_some_iff] at h1 h2
      obtain ⟨p, h3, rfl⟩ := h1
      obtain ⟨q, h4, rfl⟩ := h2
      rw [h3] at h4; cases h4
      rw [← he2 p (by simp [ho, Op.operands]; exact .inl (by simpa using List.mem_of_getElem? h3))]
      exact hs.eval p
    · simp only [List.getElem?_map, Option.map_eq_some_iff] at h1 h2
      obtain ⟨p, h3, rfl⟩ := h1
      obtain ⟨q, h4, rfl⟩ := h2
      rw [h3] at h4; cases h4
      rw [← he2 p (by simp [ho, Op.operands]; exact .inr (by simpa using List.mem_of_getElem? h3))]
      exact hs.eval p) hd

/-- A slice of a slice. -/
theorem bounds_run {P : Program} {lo hi : Option Value} {l h len cap : Nat} (hl : lo = none ∧ l = 0 ∨ ∃ k, lo = some (.int k l)) (hh : hi = none ∧ h = len ∨ ∃ k, hi = some (.int k h)) (h1 : l ≤ h) (h2 : h ≤ cap) (w : World) :
    (Instr.sliceBounds true len cap lo hi none).run P w = .ok (l, h, cap) w := by
  have hb : ∀ (k : IntKind) (i y : Nat) (c : BoundsCode), i ≤ y → (Instr.sliceBound (.int k i) y c).run P w = .ok i w := fun k i y c hi => by
    rw [run_sliceBound w k i y c (by omega) (by omega)]; simp
  rcases hl with ⟨rfl, rfl⟩ | ⟨kl, rfl⟩ <;> rcases hh with ⟨rfl, rfl⟩ | ⟨kh, rfl⟩ <;> simp [Instr.sliceBounds, hb, h1, h2]

theorem EffOK.slice_own {y : Operand} {lo hi : Option Operand} {t e : TypeId} {tk off len l h wd : Nat} (ho : o.op = .slice t y lo hi none) (he : σ.eval y = .own tk off len)
    (hl : lo = none ∧ l = 0 ∨ ∃ z k, lo = some z ∧ σ.eval z = .lit (.int k l)) (hh : hi = none ∧ h = len ∨ ∃ z k, hi = some z ∧ σ.eval z = .lit (.int k h)) (h1 : l ≤ h) (h2 : h ≤ len)
    (ht : TSlice P t e) (hsz : TSize P e wd) (hwd : ∃ rows ro, σ.mem tk = .live wd rows ro) (hd : ∀ d, o.dst = some d → d < N) : EffOK P N o σ [tk] (.own tk (off + l) (h - l)) [] :=
  .val (fun σ2 he2 hrd w0 W0 L μ a w hs => by
    have k1 := hs.eval y
    rw [he2 y (by simp [ho, Op.operands]), he] at k1
    obtain ⟨rows, ro, hm⟩ := hwd
    have hm2 : σ2.mem tk = .live wd rows ro := by rw [hrd tk (by simp)]; exact hm
    obtain ⟨B, hB, hobj⟩ := hs.objs tk wd rows ro hm2
    have hl' : lo.map a.eval = none ∧ l = 0 ∨ ∃ k, lo.map a.eval = some (.int k l) := by
      rcases hl with ⟨rfl, rfl⟩ | ⟨z, k, rfl, hz⟩
      · exact .inl ⟨rfl, rfl⟩
      · have := hs.eval z
        rw [he2 z (by simp [ho, Op.operands]), hz] at this
        exact .inr ⟨k, by simp [this.val]⟩
    have hh' : hi.map a.eval = none ∧ h = len ∨ ∃ k, hi.map a.eval = some (.int k h) := by
      rcases hh with ⟨rfl, rfl⟩ | ⟨z, k, rfl, hz⟩
      · exact .inl ⟨rfl, rfl⟩
      · have := hs.eval z
        rw [he2 z (by simp [ho, Op.operands]), hz] at this
        exact .inr ⟨k, by simp [this.val]⟩
    have hnone : (none : Option Operand).map a.eval = none := rfl
    generalize hv : a.eval y = v at k1
    cases k1 with
    | @own _ _ _ cap e' n B' a1 av a2 a3 a4 =>
      rw [hB] at a1; cases a1
      have hbr := bounds_run (P := P) hl' hh' h1 (Nat.le_trans h2 a2) w
      refine ⟨.slice (if cap = l then some ⟨B.b, B.o + off * B.wd, none⟩ else some ⟨B.b, B.o + off * B.wd + l * wd, none⟩) (h - l) (cap - l), ?_, ?_⟩
      · simp only [execOp, ho, hv, Instr.sliceAt, Instr.slice, Sem.run_bind, run_underlying ht, Result.andThen_ok, hnone, hbr, hsz w, Sem.run_pure, Option.map_some, Addr.add_lit]
      · by_cases hc : cap = l
        · subst hc
          have : h - cap = 0 := by omega
          rw [this, if_pos rfl, Nat.sub_self]
          exact .ownNil hB
        · rw [if_neg hc]
          have := Rep.own (W := Wr W0 μ σ2.mem) (off := off + l) (len := h - l) (cap := cap - l) hB av (by omega) a3 (by rw [show off + l + (cap - l) = off + cap from by omega]; exact a4)
          rw [Nat.add_mul, ← Nat.add_assoc, hobj.width] at this
          rw [hobj.width]; exact this
    | @ownNil _ _ a' _ a1 =>
      have hbr := bounds_run (P := P) hl' hh' h1 h2 w
      have hl0 : l = 0 := by omega
      have hh0 : h = 0 := by omega
      subst hl0; subst hh0
      exact ⟨.slice a' 0 0, by simp only [execOp, ho, hv, Instr.sliceAt, Instr.slice, Sem.run_bind, run_underlying ht, Result.andThen_ok, hnone, hbr, hsz w, Sem.run_pure, if_true, Nat.sub_self], .ownNil hB⟩) hd

/-- A slice held against nil. -/
theorem EffOK.eqNil {op : BinOp} {y z : Operand} {t yt e : TypeId} {x : AV} {n : Nat} (ho : o.op = .binOp op t y z yt) (hop : op = .eql ∨ op = .neq) (he : σ.eval y = x) (hz : σ.eval z = .lit (.slice none 0 0)) (ht : TSlice P t e)
    (hx : (∃ tk off, x = .own tk off n) ∨ (∃ wd rows, x = .sl wd rows ∧ n = rows.length)) (hd : ∀ d, o.dst = some d → d < N) :
    EffOK P N o σ [] (if op = .eql then .guess (n = 0) True else .guess True (n = 0)) [] :=
  .val (fun σ2 he2 hrd w0 W0 L μ a w hs => by
    have k1 := hs.eval y
    have k2 := hs.eval z
    rw [he2 y (by simp [ho, Op.operands]), he] at k1
    rw [he2 z (by simp [ho, Op.operands]), hz] at k2
    have hv : ∃ ad c, a.eval y = .slice ad n c ∧ (ad = none → n = 0) := by
      generalize a.eval y = v at k1
      rcases hx with ⟨tk, off, rfl⟩ | ⟨wd, rows, rfl, rfl⟩
      · cases k1 with
        | own => exact ⟨_, _, rfl, fun h => by cases h⟩
        | ownNil => exact ⟨_, _, rfl, fun _ => rfl⟩
      · cases k1 with
        | slNil => exact ⟨_, _, rfl, fun _ => rfl⟩
        | sl a1 a2 a3 a4 a5 a6 a7 => subst a3; exact ⟨_, _, rfl, fun h => by cases h⟩
    obtain ⟨ad, c, hv, hn⟩ := hv
    have heq : (Op.equal t (.slice ad n c) (.slice none 0 0)).run P w = .ok ad.isNone w := by
      show (Op.equalIn (9999 + 1) t (.slice ad n c) (.slice none 0 0)).run P w = _
      rw [Op.equalIn]
      cases ad <;> simp [run_underlying ht]
    rcases hop with rfl | rfl
    · refine ⟨.bool ad.isNone, ?_, ?_⟩
      · simp [execOp, ho, hv, k2.val, eqGuard, Go.binOp, heq]
      · simp only [if_true]
        exact .guess (fun h => hn (by simpa using h)) (fun _ => trivial)
    · refine ⟨.bool (!ad.isNone), ?_, ?_⟩
      · simp [execOp, ho, hv, k2.val, eqGuard, Go.binOp, heq]
      · simp only [reduceCtorEq, if_false]
        exact .guess (fun _ => trivial) (fun h => hn (by simpa using h))) hd
end
end Go.Am
