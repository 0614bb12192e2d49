/- Calls, results, and a function's contract out of its body. By an AI agent. -/
import Derived.Test.YtgfbnphfgeeldaaAm9
namespace Go.Am

mutual
/-- Nothing of it lies in memory. -/
def noMem : AV → Bool
  | .any => true
  | .guess _ _ => true
  | .lit _ => true
  | .agg cs => noMemL cs
  | .tup cs => noMemL cs
  | _ => false
def noMemL : List AV → Bool
  | [] => true
  | x :: xs => noMem x && noMemL xs
end
theorem noMemL_iff {l : List AV} : noMemL l = true ↔ ∀ x ∈ l, noMem x = true := by
  induction l with
  | nil => simp [noMemL]
  | cons x xs ih => simp [noMemL, ih]
theorem Rep.plain {W W' : Nat → Prop} {μ μ' : Mu} {w w' : World} {x : AV} {v : Value} (h : Rep W μ w x v) (hx : noMem x = true) : Rep W' μ' w' x v := by
  induction h with
  | any => exact .any
  | guess h1 h2 => exact .guess h1 h2
  | lit => exact .lit
  | agg a _ ih => exact .agg a (fun j c v h1 h2 => ih j c v h1 h2 (noMemL_iff.1 (by simpa [noMem] using hx) c (List.mem_of_getElem? h1)))
  | tup a _ ih => exact .tup a (fun j c v h1 h2 => ih j c v h1 h2 (noMemL_iff.1 (by simpa [noMem] using hx) c (List.mem_of_getElem? h1)))
  | _ => simp [noMem] at hx

def Callable (P : Program) (f : FuncId) : Prop := ∀ args w, (callFunc f args).run P w = .ok (.enter f args) w

/-- Whom the operation calls, and with what. -/
inductive CallsTo (σ : AState) (o : Oper) (f : FuncId) : List AV → Prop
  | func {c : Operand} {args : Array Operand} {ts : Array TypeId} : o.op = .call { callee := .value c, args := args, argTypes := ts } → σ.eval c = .lit (.func (.func f) #[] #[]) → CallsTo σ o f (args.toList.map σ.eval)
  | clo {c : Operand} {args : Array Operand} {ts : Array TypeId} {first cap : List AV} : o.op = .call { callee := .value c, args := args, argTypes := ts } → σ.eval c = .clo (.func f) first cap → CallsTo σ o f (first ++ args.toList.map σ.eval ++ cap)

section
variable {P : Program} {N : Nat} {σ : AState} {o : Oper}

theorem CallsTo.run {f : FuncId} {ys : List AV} (h : CallsTo σ o f ys) (hc : Callable P f) {σ2 : AState} (he : ∀ x ∈ o.op.operands, σ2.eval x = σ.eval x) {w0 : World} {W0 : Nat → Prop} {L μ : Mu} {a : Act} {w : World}
    (hs : Sim N w0 W0 L μ σ2 a w) : ∃ vs : List Value, RepL (Wr W0 μ σ2.mem) μ w ys vs ∧ (execOp a.eval o).run P w = .ok (.enter f vs.toArray) w := by
  have hargs : ∀ (c : Operand) (args : Array Operand) (ts : Array TypeId), o.op = .call { callee := .value c, args := args, argTypes := ts } → RepL (Wr W0 μ σ2.mem) μ w (args.toList.map σ.eval) (args.toList.map a.eval) := by
    intro c args ts ho
    refine ⟨by simp, fun j x v h1 h2 => ?_⟩
    simp only [List.getElem?_map, Option.map_eq_some_iff] at h1 h2
    obtain ⟨p, h3, rfl⟩ := h1
    obtain ⟨q, h4, rfl⟩ := h2
    rw [h3] at h4; cases h4
    rw [← he p (by simp [ho, Op.operands, Call.operands]; exact .inr (by simpa using List.mem_of_getElem? h3))]
    exact hs.eval p
  cases h with
  | @func c args ts ho hcv =>
    refine ⟨args.toList.map a.eval, hargs c args ts ho, ?_⟩
    have h1 := hs.eval c
    rw [he c (by simp [ho, Op.operands, Call.operands]), hcv] at h1
    have : (args.toList.map a.eval).toArray = args.map a.eval := by rw [← Array.toList_map]
    rw [this]
    simp [execOp, ho, resolve, h1.val, Deferred.ofValue, invoke, hc _ w]
  | @clo c args ts first cap ho hcv =>
    have h1 := hs.eval c
    rw [he c (by simp [ho, Op.operands, Call.operands]), hcv] at h1
    generalize hv : a.eval c = v at h1
    cases h1 with
    | @clo _ _ _ va vb l1 l2 r1 r2 =>
      refine ⟨va ++ args.toList.map a.eval ++ vb, RepL.append (RepL.append ⟨l1, r1⟩ (hargs c args ts ho)) ⟨l2, r2⟩, ?_⟩
      have : (va ++ args.toList.map a.eval ++ vb).toArray = va.toArray ++ args.map a.eval ++ vb.toArray := by
        apply Array.ext'; simp
      rw [this]
      simp [execOp, ho, resolve, hv, Deferred.ofValue, invoke, hc _ w]

/-- The frozen objects' blocks. -/
def Blks (μ : Mu) (T : List Nat) (b : Nat) : Prop := ∃ t ∈ T, ∃ B, μ t = some B ∧ B.b = b ∧ B.virt = false

/-- The world of the callee: what this frame may write, but for what is frozen, is none of its business. -/
theorem callee_sim {w0 : World} {W0 : Nat → Prop} {L μ : Mu} {a : Act} {w : World} (hs : Sim N w0 W0 L μ σ a w) (T : List Nat) :
    Sim 0 w (fun b => Wr W0 μ σ.mem b ∧ ¬ Blks μ T b) (fun _ => none) (fun _ => none) (bare []) noAct w where
  tsize := rfl
  defers := rfl
  os := rfl
  tape := rfl
  output := rfl
  hsize := Nat.le_refl _
  keep _ _ _ := rfl
  w0lt b hb := by
    rcases hb.1 with h | ⟨t, B, wd, rows, h1, h2, rfl, h4⟩
    · exact Nat.lt_of_lt_of_le (hs.w0lt b h) hs.hsize
    · exact hs.live_lt h1 h2 h4
  lentμ t B h := by cases h
  free t := by simp [bare, objsOf]
  slots i := .any
  objs t wd rows ro h := by simp [bare, objsOf] at h
  inj t t' wd rows wd' rows' ro' B B' _ h := by simp [bare, objsOf] at h
  out t wd rows ro B h := by simp [bare, objsOf] at h

theorem Cv.congr {m m2 : Nat → MS} {ρ : Nat → Nat} {D F : Nat → Prop} (hm : ∀ t, F t → m2 t = m t) {x y : AV} (h : Cv m ρ D F x y) : Cv m2 ρ D F x y := by
  induction h with
  | any => exact .any
  | same h => exact .same h
  | own h => exact .own h
  | ptr h => exact .ptr h
  | nil => exact .nil
  | nilE => exact .nilE
  | empS => exact .empS
  | frz a b c d e _ ih => exact .frz a (by rw [hm _ a]; exact b) c d e (fun q c d h1 h2 => ih q c d h1 h2)
  | frzp a b c d _ ih => exact .frzp a (by rw [hm _ a]; exact b) c d (fun q c d h1 h2 => ih q c d h1 h2)
  | agg a _ ih => exact .agg a (fun q c d h1 h2 => ih q c d h1 h2)
  | tup a _ ih => exact .tup a (fun q c d h1 h2 => ih q c d h1 h2)
  | clo a b _ _ ih1 ih2 => exact .clo a b (fun q c d h1 h2 => ih1 q c d h1 h2) (fun q c d h1 h2 => ih2 q c d h1 h2)

theorem callee_args {w0 : World} {W0 : Nat → Prop} {L μ : Mu} {a : Act} {w : World} (hs : Sim N w0 W0 L μ σ a w) {T : List Nat} {args ys : List AV} {vs : List Value}
    (hargs : CvL σ.mem id (fun _ => False) (· ∈ T) args ys) (hr : RepL (Wr W0 μ σ.mem) μ w ys vs) :
    RepL (Wr (fun b => Wr W0 μ σ.mem b ∧ ¬ Blks μ T b) (fun _ => none) (objsOf [])) (fun _ => none) w args vs := by
  refine ⟨by rw [hr.1, hargs.1], fun j c v h1 h2 => ?_⟩
  have hj := (List.getElem?_eq_some_iff.1 h1).1
  have hy : ys[j]? = some (ys[j]'(by rw [← hargs.1]; exact hj)) := List.getElem?_eq_getElem _
  refine (hargs.2 j c _ h1 hy).rep hs.objs (fun b _ hb => ?_) (fun t h => h.elim) (fun s B hF hB hv hb => ?_) (hr.2 j _ v hy h2)
  · rcases hb with h | ⟨t, B, wd, rows, h1, _⟩
    · exact h.1
    · simp [objsOf] at h1
  · rcases hb with h | ⟨t, B, wd, rows, h1, _⟩
    · exact h.2 ⟨s, hF, B, hB, rfl, hv⟩
    · simp [objsOf] at h1

/-- A call that hands back nothing that lies in memory. -/
theorem EffOK.call0 {f : FuncId} {ys args : List AV} {res : AV} (T : List Nat) (hto : CallsTo σ o f ys) (hc : Callable P f) (hargs : CvL σ.mem id (fun _ => False) (· ∈ T) args ys) (hf : FnOK P f [] args [] res)
    (hp : noMem res = true) (hd : ∀ d, o.dst = some d → d < N) : EffOK P N o σ T res [] := by
  intro σ2 he2 hrd w0 W0 L μ a w K Q hs hK
  obtain ⟨vs, h1, h2⟩ := hto.run hc he2 hs
  have hargs2 : CvL σ2.mem id (fun _ => False) (· ∈ T) args ys := ⟨hargs.1, fun q c d a b => (hargs.2 q c d a b).congr (fun t ht => hrd t ht)⟩
  have hcall := hf w _ (fun _ => none) vs (fun _ _ => rfl) (callee_sim hs T) (callee_args hs hargs2 h1)
  unfold Oper.wp
  rw [h2]
  simp only [Oper.upon]
  refine Calls.mono hcall ?_
  rintro e w' ⟨v, μ', rfl, hs', hv⟩
  refine hK μ _ _ ?_
  have chg : ∀ b, b < w.heap.size → w'.heap[b]? = w.heap[b]? := fun b hb => hs'.keep b hb (by rintro ⟨t, B, h, _⟩; cases h)
  have shape : ∀ b e n, w.shape? b = some (e, n) → w'.shape? b = some (e, n) := fun b e n h => by
    have hb : b < w.heap.size := by
      rcases Nat.lt_or_ge b w.heap.size with h' | h'
      · exact h'
      · simp [World.shape?, Array.getElem?_eq_none h'] at h
    simpa [World.shape?, chg b hb] using h
  have old : ∀ t wd rows ro B, σ2.mem t = .live wd rows ro → μ t = some B → B.virt = false → w.heap.size ≤ B.b ∨ ∃ t1 wd1 rows1 ro1 B1, σ2.mem t1 = .live wd1 rows1 ro1 ∧ μ t1 = some B1 ∧ B1.b = B.b ∧ B1.virt = false ∧ (ro = false → ro1 = false) :=
    fun t wd rows ro B h1 h2 h3 => .inr ⟨t, wd, rows, ro, B, h1, h2, rfl, h3, id⟩
  have g := hs.grow (m' := σ2.mem) (μ' := μ) hs'.hsize (fun b hb _ => chg b hb) shape (fun _ _ h => h) (mine_old old)
  have := hs.step (m' := σ2.mem) (μ' := μ) hs'.hsize hs'.os hs'.tape hs'.output (fun b hb _ => chg b hb) shape (fun _ _ h => h) old hs.free
    (fun t wd rows ro h => let ⟨B, h1, h2⟩ := hs.objs t wd rows ro h; ⟨B, h1, h2.grow g fun hv => chg _ (hs.live_lt h h1 hv)⟩) hs.inj
  exact this.put (hv.plain hp) hd

def roOf : MS → MS
  | .live wd rows _ => .live wd rows true
  | s => s

theorem updM_ro {m m0 : Nat → MS} {T : List Nat} {t : Nat} : updM m (T.map fun t => (t, roOf (m0 t))) t = if t ∈ T then roOf (m0 t) else m t := by
  induction T with
  | nil => simp [updM]
  | cons x r ih => simp only [List.map_cons, updM, ih, List.mem_cons]; by_cases h : t = x <;> simp [h]

theorem updM_news {m : Nat → MS} {base : Nat} : ∀ {news : List MS} {t : Nat}, updM m (news.zipIdx.map fun p => (base + p.2, p.1)) t = if base ≤ t then (news[t - base]?).getD (m t) else m t := by
  have key : ∀ (news : List MS) (n : Nat) (t : Nat), updM m ((news.zipIdx n).map fun p => (base + p.2, p.1)) t = if base + n ≤ t then (news[t - (base + n)]?).getD (m t) else m t := by
    intro news
    induction news with
    | nil => intro n t; simp [updM]
    | cons s r ih =>
      intro n t
      simp only [List.zipIdx_cons, List.map_cons, updM, ih]
      by_cases h1 : t = base + n
      · subst h1; simp
      · rw [if_neg h1]
        by_cases h2 : base + (n + 1) ≤ t
        · rw [if_pos h2, if_pos (show base + n ≤ t by omega), show t - (base + n) = (t - (base + (n + 1))) + 1 from by omega, List.getElem?_cons_succ]
        · rw [if_neg h2, if_neg (show ¬ base + n ≤ t by omega)]
  intro news t
  have := key news 0 t
  simpa using this

/-- A call that hands back a value, and new objects. The frozen ones are frozen for good. -/
theorem EffOK.callN {f : FuncId} {ys args : List AV} {outs news : List MS} {res x : AV} {base : Nat} (T : List Nat) (hto : CallsTo σ o f ys) (hc : Callable P f) (hargs : CvL σ.mem id (fun _ => False) (· ∈ T) args ys)
    (hT : ∀ t ∈ T, ∃ wd rows ro, σ.mem t = .live wd rows ro) (hf : FnOK P f [] args outs res) (hfree : ∀ k, k < outs.length → σ.mem (base + k) = .free) (hlen : news.length = outs.length)
    (hnews : ∀ (k : Nat) (s : MS), news[k]? = some s → ∃ wd rows rows0, s = .live wd rows false ∧ outs[k]? = some (.live wd rows0 false) ∧ Wide wd rows ∧ CvL (objsOf outs) (· - base) (fun t => base ≤ t ∧ t - base < outs.length) (fun _ => False) rows rows0)
    (hx : Cv (objsOf outs) (· - base) (fun t => base ≤ t ∧ t - base < outs.length) (fun _ => False) x res) (hd : ∀ d, o.dst = some d → d < N) :
    EffOK P N o σ (T ++ (List.range outs.length).map (base + ·)) x ((news.zipIdx.map fun p => (base + p.2, p.1)) ++ T.map fun t => (t, roOf (σ.mem t))) := by
  intro σ2 he2 hrd w0 W0 L μ a w K Q hs hK
  obtain ⟨vs, h1, h2⟩ := hto.run hc he2 hs
  have hrdT : ∀ t ∈ T, σ2.mem t = σ.mem t := fun t ht => hrd t (by simp [ht])
  have hfree2 : ∀ k, k < outs.length → σ2.mem (base + k) = .free := fun k hk => by
    rw [hrd (base + k) (by simp [hk])]; exact hfree k hk
  have hargs2 : CvL σ2.mem id (fun _ => False) (· ∈ T) args ys := ⟨hargs.1, fun q c d a b => (hargs.2 q c d a b).congr hrdT⟩
  have hcall := hf w _ (fun _ => none) vs (fun _ _ => rfl) (callee_sim hs T) (callee_args hs hargs2 h1)
  unfold Oper.wp
  rw [h2]
  simp only [Oper.upon]
  refine Calls.mono hcall ?_
  rintro e w' ⟨v, μ', rfl, hs', hv⟩
  -- the state behind the call
  have hro : (T.map fun t => (t, roOf (σ.mem t))) = T.map fun t => (t, roOf (σ2.mem t)) := List.map_congr_left fun t ht => by rw [hrdT t ht]
  rw [hro] at hK
  generalize hm2 : updM σ2.mem ((news.zipIdx.map fun p => (base + p.2, p.1)) ++ T.map fun t => (t, roOf (σ2.mem t))) = m2 at *
  have isNew : ∀ t, (base ≤ t ∧ t - base < outs.length) ∨ ¬ (base ≤ t ∧ t - base < outs.length) := fun t => Classical.em _
  have m2new : ∀ t, base ≤ t ∧ t - base < outs.length → ∃ wd rows rows0, m2 t = .live wd rows false ∧ objsOf outs (t - base) = .live wd rows0 false ∧ Wide wd rows ∧ CvL (objsOf outs) (· - base) (fun t => base ≤ t ∧ t - base < outs.length) (fun _ => False) rows rows0 := by
    intro t ⟨ht1, ht2⟩
    have hk : news[t - base]? = some (news[t - base]'(by rw [hlen]; exact ht2)) := List.getElem?_eq_getElem _
    obtain ⟨wd, rows, rows0, e1, e2, e3, e4⟩ := hnews _ _ hk
    refine ⟨wd, rows, rows0, ?_, by simp [objsOf, e2], e3, e4⟩
    rw [← hm2, updM_append, updM_news, if_pos ht1, hk, Option.getD_some, e1]
  have m2old : ∀ t, ¬ (base ≤ t ∧ t - base < outs.length) → m2 t = if t ∈ T then roOf (σ2.mem t) else σ2.mem t := by
    intro t ht
    rw [← hm2, updM_append, updM_news, updM_ro]
    by_cases hb : base ≤ t
    · rw [if_pos hb, List.getElem?_eq_none (by rw [hlen]; exact Nat.le_of_not_lt fun h => ht ⟨hb, h⟩)]; rfl
    · rw [if_neg hb]
  have freeNew : ∀ t, base ≤ t ∧ t - base < outs.length → σ2.mem t = .free := fun t ht => by
    have := hfree2 (t - base) ht.2
    rwa [show base + (t - base) = t from by omega] at this
  classical
  let μ2 : Mu := fun t => if base ≤ t ∧ t - base < outs.length then μ' (t - base) else μ t
  have μnew : ∀ t, base ≤ t ∧ t - base < outs.length → μ2 t = μ' (t - base) := fun t h => if_pos h
  have μold : ∀ t, ¬ (base ≤ t ∧ t - base < outs.length) → μ2 t = μ t := fun t h => if_neg h
  have noLent : ∀ b, ¬ Lent (fun _ => none) b := by rintro b ⟨t, B, h, _⟩; cases h
  have chg : ∀ b, b < w.heap.size → w'.heap[b]? = w.heap[b]? := fun b hb => hs'.keep b hb (noLent b)
  have shape : ∀ b e n, w.shape? b = some (e, n) → w'.shape? b = some (e, n) := fun b e n h => by
    have hb : b < w.heap.size := by
      rcases Nat.lt_or_ge b w.heap.size with h' | h'
      · exact h'
      · simp [World.shape?, Array.getElem?_eq_none h'] at h
    simpa [World.shape?, chg b hb] using h
  have mu : ∀ t B, μ t = some B → μ2 t = some B := fun t B h => by
    rcases isNew t with hn | hn
    · have := (hs.free t).1 (freeNew t hn)
      rw [this] at h; cases h
    · rw [μold t hn]; exact h
  have oldlive : ∀ t wd rows ro, ¬ (base ≤ t ∧ t - base < outs.length) → m2 t = .live wd rows ro → ∃ ro', σ2.mem t = .live wd rows ro' ∧ (ro = false → ro' = false ∧ t ∉ T) := by
    intro t wd rows ro hn h
    rw [m2old t hn] at h
    split at h
    · rename_i hT'
      cases hmt : σ2.mem t with
      | live wd' rows' ro' =>
        rw [hmt] at h; simp only [roOf] at h; cases h
        exact ⟨ro', rfl, fun h => by cases h⟩
      | free => rw [hmt] at h; cases h
      | dead => rw [hmt] at h; cases h
    · rename_i hT'; exact ⟨ro, h, fun h' => ⟨h', hT'⟩⟩
  have newge : ∀ t B wd rows, objsOf outs (t - base) = .live wd rows false → μ' (t - base) = some B → B.virt = false → w.heap.size ≤ B.b := by
    intro t B wd rows h3 h4 h5
    rcases (hs'.out _ _ _ _ B h3 h4 h5).2 rfl with h | h
    · exact h
    · exact absurd h (noLent _)
  have old : ∀ t wd rows ro B, m2 t = .live wd rows ro → μ2 t = some B → B.virt = false → w.heap.size ≤ B.b ∨ ∃ t1 wd1 rows1 ro1 B1, σ2.mem t1 = .live wd1 rows1 ro1 ∧ μ t1 = some B1 ∧ B1.b = B.b ∧ B1.virt = false ∧ (ro = false → ro1 = false) := by
    intro t wd rows ro B h3 h4 h5
    rcases isNew t with hn | hn
    · obtain ⟨wd', rows', rows0, e1, e2, _⟩ := m2new t hn
      rw [μnew t hn] at h4
      exact .inl (newge t B _ _ e2 h4 h5)
    · obtain ⟨ro', e1, e2⟩ := oldlive t wd rows ro hn h3
      rw [μold t hn] at h4
      exact .inr ⟨t, wd, rows, ro', B, e1, h4, rfl, h5, fun h => (e2 h).1⟩
  have g := hs.grow (m' := m2) (μ' := μ2) hs'.hsize (fun b hb _ => chg b hb) shape mu (mine_old old)
  -- what the callee says, in this frame's words
  have hW : ∀ b, b < w'.heap.size → Wr W0 μ2 m2 b → Wr (fun b => Wr W0 μ σ2.mem b ∧ ¬ Blks μ T b) μ' (objsOf outs) b := by
    rintro b hb (h | ⟨t, B, wd, rows, h3, h4, rfl, h5⟩)
    · refine .inl ⟨.inl h, ?_⟩
      rintro ⟨s, hs1, B, hB, rfl, hv'⟩
      obtain ⟨wd, rows, ro, hl⟩ := hT s hs1
      exact (hs.out s wd rows ro B (by rw [hrdT s hs1]; exact hl) hB hv').1 h
    · rcases isNew t with hn | hn
      · obtain ⟨wd', rows', rows0, e1, e2, _⟩ := m2new t hn
        rw [μnew t hn] at h4
        exact .inr ⟨t - base, B, wd', rows0, e2, h4, rfl, h5⟩
      · obtain ⟨ro', e1, e2⟩ := oldlive t wd rows false hn h3
        obtain ⟨rfl, hnT⟩ := e2 rfl
        rw [μold t hn] at h4
        refine .inl ⟨.inr ⟨t, B, wd, rows, e1, h4, rfl, h5⟩, ?_⟩
        rintro ⟨s, hs1, B', hB, hbe, hv'⟩
        obtain ⟨wd', rows', ro, hl⟩ := hT s hs1
        exact hs.inj t s wd rows wd' rows' ro B B' (fun e => hnT (e ▸ hs1)) e1 (by rw [hrdT s hs1]; exact hl) h4 hB h5 hv' hbe.symm
  have hrep : ∀ x y v, Cv (objsOf outs) (· - base) (fun t => base ≤ t ∧ t - base < outs.length) (fun _ => False) x y → Rep (Wr (fun b => Wr W0 μ σ2.mem b ∧ ¬ Blks μ T b) μ' (objsOf outs)) μ' w' y v → Rep (Wr W0 μ2 m2) μ2 w' x v :=
    fun x y v hcv hy => hcv.rep hs'.objs hW (fun t ht => μnew t ht) (fun s B h => h.elim) hy
  have hstep := hs.step (m' := m2) (μ' := μ2) hs'.hsize hs'.os hs'.tape hs'.output (fun b hb _ => chg b hb) shape mu old (fun t => by
      rcases isNew t with hn | hn
      · obtain ⟨wd, rows, rows0, e1, e2, _⟩ := m2new t hn
        rw [μnew t hn, e1]
        have := (hs'.free (t - base))
        simp only [bare, e2] at this
        constructor
        · intro h; cases h
        · intro h; exact absurd (this.2 h) (by intro h; cases h)
      · rw [μold t hn, m2old t hn, ← hs.free t]
        split
        · cases hmt : σ2.mem t <;> simp [roOf]
        · rfl)
    (fun t wd rows ro h3 => by
      rcases isNew t with hn | hn
      · obtain ⟨wd', rows', rows0, e1, e2, e3, e4⟩ := m2new t hn
        rw [e1] at h3; cases h3
        obtain ⟨B, hB, hobj⟩ := hs'.objs (t - base) _ _ _ e2
        refine ⟨B, by rw [μnew t hn]; exact hB, hobj.width, e3, fun hv' => ?_, fun hv' => ?_, fun q c hq => ?_⟩
        · obtain ⟨C, e, fz, c1, c2, c3⟩ := hobj.blk hv'
          exact ⟨C, e, fz, c1, c2, by rw [e4.1]; exact c3⟩
        · have := e4.1
          rw [hobj.virt hv'] at this
          exact List.eq_nil_of_length_eq_zero this
        · have hfl := e4.flat e3 hobj.wide
          obtain ⟨d, hd'⟩ : ∃ d, (flat rows0)[q]? = some d := ⟨_, List.getElem?_eq_getElem (by rw [← hfl.1]; exact (List.getElem?_eq_some_iff.1 hq).1)⟩
          obtain ⟨v', v1, v2⟩ := hobj.cell q d hd'
          exact ⟨v', v1, hrep c d v' (hfl.2 q c d hq hd') v2⟩
      · obtain ⟨ro', e1, e2⟩ := oldlive t wd rows ro hn h3
        obtain ⟨B, hB, hobj⟩ := hs.objs t wd rows ro' e1
        refine ⟨B, by rw [μold t hn]; exact hB, ?_⟩
        have := hobj.grow g fun hv' => chg _ (hs.live_lt e1 hB hv')
        cases ro with
        | true => exact this.ro
        | false => rw [(e2 rfl).1] at this; exact this)
    (by
      intro t t' wd rows wd' rows' ro' B B' hne h3 h4 h5 h6 v1 v2
      rcases isNew t with hn | hn <;> rcases isNew t' with hn' | hn'
      · obtain ⟨_, _, _, e1, e2, _⟩ := m2new t hn
        obtain ⟨_, _, _, f1, f2, _⟩ := m2new t' hn'
        rw [μnew t hn] at h5; rw [μnew t' hn'] at h6
        exact hs'.inj (t - base) (t' - base) _ _ _ _ _ B B' (fun e => hne (by have := hn.1; have := hn'.1; omega)) e2 f2 h5 h6 v1 v2
      · obtain ⟨_, _, _, e1, e2, _⟩ := m2new t hn
        obtain ⟨_, f1, _⟩ := oldlive t' _ _ _ hn' h4
        rw [μnew t hn] at h5; rw [μold t' hn'] at h6
        have := newge t B _ _ e2 h5 v1
        have := hs.live_lt f1 h6 v2
        omega
      · obtain ⟨_, e1, e2⟩ := oldlive t _ _ _ hn h3
        obtain ⟨_, _, _, f1, f2, _⟩ := m2new t' hn'
        rw [μold t hn] at h5; rw [μnew t' hn'] at h6
        have := newge t' B' _ _ f2 h6 v2
        have := hs.live_lt e1 h5 v1
        omega
      · obtain ⟨_, e1, e2⟩ := oldlive t _ _ _ hn h3
        obtain ⟨_, f1, _⟩ := oldlive t' _ _ _ hn' h4
        rw [μold t hn] at h5; rw [μold t' hn'] at h6
        rw [(e2 rfl).1] at e1
        exact hs.inj t t' _ _ _ _ _ B B' hne e1 f1 h5 h6 v1 v2)
  refine hK μ2 _ _ ?_
  have := hstep.put (hrep x res v hx hv) hd
  unfold AState.upd
  rw [hm2]
  exact this

/-- A nil slice is as good as an object without rows. -/
theorem AWp.ghost {nL : Nat} {c : Code} {Q : Exit → AState → Prop} {d t : Nat} (wd : Nat) (hd : σ.slots d = .lit (.slice none 0 0) ∨ σ.slots d = .emp) (ht : σ.mem t = .free) (h : AWp P N nL c Q (σ.upd (some d) (.own t 0 0) [(t, .live wd [] false)])) : AWp P N nL c Q σ := by
  intro w0 W0 L μ a w hL hs
  have h1 := hs.allocVirt (t := t) (wd := wd) ht
  have hv : ∃ ad, a.tmps.getD d undef = .slice ad 0 0 := by
    have := hs.slots d
    generalize a.tmps.getD d undef = v at this
    rcases hd with hd | hd <;> (rw [hd] at this; cases this; exact ⟨_, rfl⟩)
  obtain ⟨ad, hv⟩ := hv
  refine h w0 W0 L _ a w hL { h1 with slots := fun i => ?_ }
  simp only [AState.upd, putS]
  by_cases hi : i = d
  · subst hi
    rw [if_pos rfl, hv]
    exact .ownNil (B := ⟨0, 0, wd, true⟩) (by simp [setMu])
  · rw [if_neg hi]; exact h1.slots i

/-! ### Bodies -/

/-- What a result variable holds. -/
def resOf (P : Program) (σ : AState) : ResultVar → AV → Prop
  | .tmp t, x => σ.slots t = x
  | .cell a t, x => ∃ tk i k wd rows ro r, σ.slots a = .ptr tk i k ∧ σ.mem tk = .live wd rows ro ∧ rows[i]? = some r ∧ Loads P t r k x

def ret1 : List AV → AV
  | [x] => x
  | xs => .tup xs

/-- The results at a function's end, and the objects that it hands over. -/
def RetTo (P : Program) (nL : Nat) (rvs : List ResultVar) (σ : AState) (outs : List MS) (res : AV) : Prop :=
  ∃ xs : List AV, xs.length = rvs.length ∧ (∀ (j : Nat) (rv : ResultVar) (x : AV), rvs[j]? = some rv → xs[j]? = some x → resOf P σ rv x) ∧
    ∃ ρ F, Weaker nL ρ F (bare outs) σ ∧ Cv σ.mem ρ (fun t => (bare outs).mem t ≠ .free) F res (ret1 xs)

theorem resOf.run {w0 : World} {W0 : Nat → Prop} {L μ : Mu} {a : Act} {w : World} (hs : Sim N w0 W0 L μ σ a w) {rv : ResultVar} {x : AV} (h : resOf P σ rv x) :
    ∃ v, (match rv with | .tmp t => (pure (a.tmps.getD t undef) : Sem Value) | .cell c t => do loadVar t (← asAddr (a.tmps.getD c undef))).run P w = .ok v w ∧ Rep (Wr W0 μ σ.mem) μ w x v := by
  cases rv with
  | tmp t => simp only [resOf] at h; exact ⟨_, rfl, by rw [← h]; exact hs.slots t⟩
  | cell c t =>
    obtain ⟨tk, i, k, wd, rows, ro, r, h1, h2, h3, h4⟩ := h
    have hc := hs.slots c
    rw [h1] at hc
    obtain ⟨B, hB, hobj⟩ := hs.objs tk wd rows ro h2
    generalize hv : a.tmps.getD c undef = v at hc
    cases hc with
    | ptr a1 =>
      rw [hB] at a1; cases a1
      obtain ⟨v, k1, k2⟩ := h4.run (b := B.b) (q0 := B.o + i * B.wd) (w := w) (fun q c hq => by
        obtain ⟨v, v1, v2⟩ := hobj.cell _ c (flat_get hobj.wide h3 hq)
        exact ⟨v, by rw [hobj.width, Nat.add_assoc]; exact v1, v2⟩)
      refine ⟨v, ?_, k2⟩
      rw [Nat.add_assoc] at k1
      simp only [Sem.run_bind, hv, asAddr, Sem.run_pure, Result.andThen_ok, k1]

theorem results_run {w0 : World} {W0 : Nat → Prop} {L μ : Mu} {a : Act} {w : World} (hs : Sim N w0 W0 L μ σ a w) {fn : Func} {xs : List AV} (hl : xs.length = fn.results.toList.length)
    (h : ∀ (j : Nat) (rv : ResultVar) (x : AV), fn.results.toList[j]? = some rv → xs[j]? = some x → resOf P σ rv x) : ∃ v, (results fn a.tmps).run P w = .ok v w ∧ Rep (Wr W0 μ σ.mem) μ w (ret1 xs) v := by
  have key : ∀ (rvs : List ResultVar) (xs : List AV), xs.length = rvs.length → (∀ (j : Nat) (rv : ResultVar) (x : AV), rvs[j]? = some rv → xs[j]? = some x → resOf P σ rv x) →
      ∃ vs, (rvs.mapM (m := Sem) fun | .tmp t => pure (a.tmps.getD t undef) | .cell c t => do loadVar t (← asAddr (a.tmps.getD c undef))).run P w = .ok vs w ∧ RepL (Wr W0 μ σ.mem) μ w xs vs := by
    intro rvs
    induction rvs with
    | nil =>
      intro xs hl _
      have : xs = [] := List.eq_nil_of_length_eq_zero hl
      subst this
      exact ⟨[], rfl, .nil⟩
    | cons rv rvs ih =>
      intro xs hl h
      cases xs with
      | nil => simp at hl
      | cons x xs =>
        obtain ⟨v, h1, h2⟩ := resOf.run hs (h 0 rv x rfl rfl)
        obtain ⟨vs, h3, h4⟩ := ih xs (by simpa using hl) (fun j rv x a b => h (j + 1) rv x (by simpa using a) (by simpa using b))
        refine ⟨v :: vs, ?_, .cons h2 h4⟩
        simp only [List.mapM_cons, Sem.run_bind, h1, Result.andThen_ok, h3, Sem.run_pure]
  obtain ⟨vs, h1, h2⟩ := key fn.results.toList xs hl h
  have hm : (fn.results.mapM (m := Sem) fun | .tmp t => pure (a.tmps.getD t undef) | .cell c t => do loadVar t (← asAddr (a.tmps.getD c undef))).run P w = .ok vs.toArray w := by
    have := Array.mapM_eq_mapM_toList (m := Sem) (f := fun | ResultVar.tmp t => pure (a.tmps.getD t undef) | .cell c t => do loadVar t (← asAddr (a.tmps.getD c undef))) (xs := fn.results)
    rw [this]
    simp only [Sem.run_map, h1, Result.andThen_ok]
  have hres : results fn a.tmps = (do
      let vs ← fn.results.mapM (m := Sem) (fun | .tmp t => pure (a.tmps.getD t undef) | .cell c t => (do loadVar t (← asAddr (a.tmps.getD c undef))))
      pure (if h : vs.size = 1 then vs[0] else .tuple vs)) := rfl
  rw [hres]
  simp only [Sem.run_bind, hm, Result.andThen_ok, Sem.run_pure]
  refine ⟨_, rfl, ?_⟩
  cases vs with
  | nil =>
    have : xs = [] := List.eq_nil_of_length_eq_zero (by rw [← h2.1]; rfl)
    subst this
    exact .tup rfl h2.2
  | cons v vs =>
    cases vs with
    | nil =>
      cases xs with
      | nil => simp [RepL] at h2
      | cons x xs =>
        have : xs = [] := List.eq_nil_of_length_eq_zero (by have := h2.1; simp only [List.length_cons, List.length_nil] at this; omega)
        subst this
        simpa [ret1] using h2.2 0 x v rfl rfl
    | cons v' vs =>
      cases xs with
      | nil => simp [RepL] at h2
      | cons x xs =>
        cases xs with
        | nil => simp [RepL] at h2
        | cons x' xs => simpa [ret1] using Rep.tup h2.1 h2.2

/-- The contract of a function out of its body's. -/
theorem FnOK.of_body {f : FuncId} {fn : Func} {c : Code} {ins outs : List MS} {args : List AV} {res : AV} (hf : P.funcs[f]? = some fn) (hb : fn.body = some c) (hN : args.length ≤ fn.ntmps)
    (h : AWp P fn.ntmps ins.length c (fun e σ' => (e = .normal ∨ e = .ret) ∧ RetTo P ins.length fn.results.toList σ' outs res) ⟨fun i => args.getD i .any, objsOf ins⟩) : FnOK P f ins args outs res := by
  intro w W0 L vs hL hs hr
  refine calls_of_wp hf hb ?_
  have hsim : Sim fn.ntmps w W0 L L ⟨fun i => args.getD i .any, objsOf ins⟩ { tmps := vs.toArray ++ Array.replicate (fn.ntmps - vs.toArray.size) undef, defers := [] } w := by
    refine ⟨?_, rfl, hs.os, hs.tape, hs.output, hs.hsize, hs.keep, hs.w0lt, hs.lentμ, hs.free, fun i => ?_, hs.objs, hs.inj, hs.out⟩
    · simp [hr.1]; omega
    · by_cases hi : i < args.length
      · have h1 : args[i]? = some args[i] := List.getElem?_eq_getElem hi
        have h2 : vs[i]? = some (vs[i]'(by rw [hr.1]; exact hi)) := List.getElem?_eq_getElem _
        have := hr.2 i _ _ h1 h2
        have hv : (vs.toArray ++ Array.replicate (fn.ntmps - vs.toArray.size) undef).getD i undef = vs[i]'(by rw [hr.1]; exact hi) := by
          rw [Array.getD_eq_getD_getElem?, Array.getElem?_append_left (by simp; rw [hr.1]; exact hi)]
          simp [h2]
        simp only [hv, List.getD_eq_getElem?_getD, h1, Option.getD_some]
        exact this
      · simp only [List.getD_eq_getElem?_getD, List.getElem?_eq_none (Nat.le_of_not_lt hi), Option.getD_none]
        exact .any
  refine wp_mono (h w W0 L L _ w hL hsim) ?_
  rintro e a' w' ⟨μ', σ', ⟨he, xs, x1, x2, ρ, F, hw, hcv⟩, hs'⟩
  obtain ⟨v, v1, v2⟩ := results_run hs' x1 x2
  obtain ⟨μ'', hs'', hrep⟩ := hw.sim hL hs' (N' := 0) (a' := noAct) (.inr ⟨fun _ => rfl, rfl, rfl⟩)
  have hR : a'.defers = [] ∧ ∃ v, (results fn a'.tmps).run P w' = .ok v w' ∧ ∃ v_1 μ', Ending.returned v = .returned v_1 ∧ Sim 0 w W0 L μ' (bare outs) noAct w' ∧ Rep (Wr W0 μ' (objsOf outs)) μ' w' res v_1 :=
    ⟨hs'.defers, v, v1, v, μ'', rfl, hs'', hrep _ _ _ hcv v2⟩
  rcases he with rfl | rfl <;> exact hR
end
end Go.Am
