/- The state of a frame, and that allocation, stores and drops keep its description. By an AI agent. -/
import Derived.Test.YtgfbnphfgeeldaaAm1
namespace Go.Am

inductive MS where
  | free
  | dead
  | live (wd : Nat) (rows : List AV) (ro : Bool)
  deriving Inhabited

structure AState where
  slots : Nat → AV
  mem : Nat → MS

def AState.eval (σ : AState) : Operand → AV
  | .tmp t => σ.slots t
  | .const v => .lit v
  | .global g => .lit (.pointer (some ⟨g, 0, none⟩))
  | .func f => .lit (.func (.func f) #[] #[])

def putS (s : Nat → AV) : Option Tmp → AV → Nat → AV
  | none, _ => s
  | some d, x => fun i => if i = d then x else s i

def updM (m : Nat → MS) : List (Nat × MS) → Nat → MS
  | [] => m
  | (t, s) :: r => fun u => if u = t then s else updM m r u

def AState.upd (σ : AState) (dst : Option Tmp) (x : AV) (ups : List (Nat × MS)) : AState := ⟨putS σ.slots dst x, updM σ.mem ups⟩

/-- The blocks that this frame may write, and those that it must keep away from. -/
def Mine (μ : Mu) (m : Nat → MS) (b : Nat) : Prop := ∃ t B wd rows, m t = .live wd rows false ∧ μ t = some B ∧ B.b = b ∧ B.virt = false
def Wr (W0 : Nat → Prop) (μ : Mu) (m : Nat → MS) (b : Nat) : Prop := W0 b ∨ Mine μ m b

structure ObjAt (W : Nat → Prop) (μ : Mu) (w : World) (B : Blk) (wd : Nat) (rows : List AV) (ro : Bool) : Prop where
  width : B.wd = wd
  wide : Wide wd rows
  blk : B.virt = false → ∃ C e fz, w.heap[B.b]? = some (.cells C e fz) ∧ (ro = false → fz = (0, 0)) ∧ B.o + rows.length * wd ≤ C.size
  virt : B.virt = true → rows = []
  cell : ∀ (q : Nat) (c : AV), (flat rows)[q]? = some c → ∃ v, w.cell? ⟨B.b, B.o + q, none⟩ = some v ∧ Rep W μ w c v

theorem ObjAt.grow {W W' : Nat → Prop} {μ μ' : Mu} {w w' : World} {B : Blk} {wd : Nat} {rows : List AV} {ro : Bool} (g : Grow W μ w W' μ' w') (hb : B.virt = false → w'.heap[B.b]? = w.heap[B.b]?)
    (h : ObjAt W μ w B wd rows ro) : ObjAt W' μ' w' B wd rows ro where
  width := h.width
  wide := h.wide
  blk hv := by rw [hb hv]; exact h.blk hv
  virt := h.virt
  cell q c hq := by
    obtain ⟨v, h1, h2⟩ := h.cell q c hq
    have hv : B.virt = false := by
      cases hv : B.virt with
      | false => rfl
      | true => rw [h.virt hv] at hq; simp [flat] at hq
    exact ⟨v, by rw [World.cell?_of_block (w := w) (hb hv)]; exact h1, h2.grow g⟩
theorem ObjAt.real {W : Nat → Prop} {μ : Mu} {w : World} {B : Blk} {wd : Nat} {rows : List AV} {ro : Bool} (h : ObjAt W μ w B wd rows ro) {i : Nat} {r : AV} (hr : rows[i]? = some r) : B.virt = false := by
  cases hv : B.virt with
  | false => rfl
  | true => rw [h.virt hv] at hr; simp at hr

theorem ObjAt.ro {W : Nat → Prop} {μ : Mu} {w : World} {B : Blk} {wd : Nat} {rows : List AV} {ro : Bool} (h : ObjAt W μ w B wd rows ro) : ObjAt W μ w B wd rows true :=
  ⟨h.width, h.wide, fun hv => let ⟨C, e, fz, a, _, c⟩ := h.blk hv; ⟨C, e, fz, a, (fun h => nomatch h), c⟩, h.virt, h.cell⟩

/-- The old blocks that this call may write: where the lent objects lie. -/
def Lent (L : Mu) (b : Nat) : Prop := ∃ t B, L t = some B ∧ B.b = b

/-- The frame and the world are as the abstract state says. w0: the world when the call began; W0: blocks that the caller may write later; L: the lent objects. -/
structure Sim (N : Nat) (w0 : World) (W0 : Nat → Prop) (L μ : Mu) (σ : AState) (a : Act) (w : World) : Prop where
  tsize : a.tmps.size = N
  defers : a.defers = []
  os : w.os = w0.os
  tape : w.tape = w0.tape
  output : w.output = w0.output
  hsize : w0.heap.size ≤ w.heap.size
  keep : ∀ b, b < w0.heap.size → ¬ Lent L b → w.heap[b]? = w0.heap[b]?
  w0lt : ∀ b, W0 b → b < w0.heap.size
  lentμ : ∀ t B, L t = some B → μ t = some B
  free : ∀ t, σ.mem t = .free ↔ μ t = none
  slots : ∀ i, Rep (Wr W0 μ σ.mem) μ w (σ.slots i) (a.tmps.getD i undef)
  objs : ∀ t wd rows ro, σ.mem t = .live wd rows ro → ∃ B, μ t = some B ∧ ObjAt (Wr W0 μ σ.mem) μ w B wd rows ro
  inj : ∀ t t' wd rows wd' rows' ro' B B', t ≠ t' → σ.mem t = .live wd rows false → σ.mem t' = .live wd' rows' ro' → μ t = some B → μ t' = some B' → B.virt = false → B'.virt = false → B.b ≠ B'.b
  out : ∀ t wd rows ro B, σ.mem t = .live wd rows ro → μ t = some B → B.virt = false → ¬ W0 B.b ∧ (ro = false → w0.heap.size ≤ B.b ∨ Lent L B.b)

section
variable {N : Nat} {w0 : World} {W0 : Nat → Prop} {L μ : Mu} {σ : AState} {a : Act} {w : World}

theorem Sim.eval (h : Sim N w0 W0 L μ σ a w) (x : Operand) : Rep (Wr W0 μ σ.mem) μ w (σ.eval x) (a.eval x) := by
  cases x with
  | tmp t => exact h.slots t
  | _ => exact .lit

theorem Sim.put (h : Sim N w0 W0 L μ σ a w) {dst : Option Tmp} {x : AV} {v : Value} (hx : Rep (Wr W0 μ σ.mem) μ w x v) (hd : ∀ d, dst = some d → d < N) :
    Sim N w0 W0 L μ ⟨putS σ.slots dst x, σ.mem⟩ (a.put dst v) w := by
  cases dst with
  | none => exact { h with }
  | some d =>
    have hd := hd d rfl
    refine { h with tsize := by simp [Act.put, h.tsize], slots := fun i => ?_ }
    simp only [putS, Act.put]
    by_cases hi : i = d
    · subst hi
      simp [Array.getD_eq_getD_getElem?, h.tsize, hd, hx]
    · simp only [if_neg hi]
      have := h.slots i
      simpa [Array.getD_eq_getD_getElem?, Array.getElem?_setIfInBounds_ne (Ne.symm hi)] using this

/-- A step in memory. -/
theorem Sim.grow (_h : Sim N w0 W0 L μ σ a w) {m' : Nat → MS} {μ' : Mu} {w' : World} (size : w.heap.size ≤ w'.heap.size)
    (chg : ∀ b, b < w.heap.size → ¬ Mine μ σ.mem b → w'.heap[b]? = w.heap[b]?) (shape : ∀ b e n, w.shape? b = some (e, n) → w'.shape? b = some (e, n))
    (mu : ∀ t B, μ t = some B → μ' t = some B) (wr : ∀ b, b < w.heap.size → Mine μ' m' b → Mine μ σ.mem b) :
    Grow (Wr W0 μ σ.mem) μ w (Wr W0 μ' m') μ' w' where
  size := size
  blk b hb hl := chg b hl (fun hm => hb (.inr hm))
  shape := shape
  wr b hl hw := hw.imp id (wr b hl)
  mu := mu

theorem mine_old {m' : Nat → MS} {μ' : Mu} (old : ∀ t wd rows ro B, m' t = .live wd rows ro → μ' t = some B → B.virt = false → w.heap.size ≤ B.b ∨ ∃ t1 wd1 rows1 ro1 B1, σ.mem t1 = .live wd1 rows1 ro1 ∧ μ t1 = some B1 ∧ B1.b = B.b ∧ B1.virt = false ∧ (ro = false → ro1 = false)) :
    ∀ b, b < w.heap.size → Mine μ' m' b → Mine μ σ.mem b := by
  rintro b hb ⟨t, B, wd, rows, h1, h2, rfl, hv⟩
  rcases old t wd rows false B h1 h2 hv with h | ⟨t', wd', rows', ro', B', k1, k2, k3, kv, k4⟩
  · omega
  · rw [k4 rfl] at k1; exact ⟨t', B', wd', rows', k1, k2, k3, kv⟩

theorem Sim.step (h : Sim N w0 W0 L μ σ a w) {m' : Nat → MS} {μ' : Mu} {w' : World} (size : w.heap.size ≤ w'.heap.size)
    (hos : w'.os = w.os) (htape : w'.tape = w.tape) (hout : w'.output = w.output)
    (chg : ∀ b, b < w.heap.size → ¬ Mine μ σ.mem b → w'.heap[b]? = w.heap[b]?) (shape : ∀ b e n, w.shape? b = some (e, n) → w'.shape? b = some (e, n))
    (mu : ∀ t B, μ t = some B → μ' t = some B)
    (old : ∀ t wd rows ro B, m' t = .live wd rows ro → μ' t = some B → B.virt = false → w.heap.size ≤ B.b ∨ ∃ t1 wd1 rows1 ro1 B1, σ.mem t1 = .live wd1 rows1 ro1 ∧ μ t1 = some B1 ∧ B1.b = B.b ∧ B1.virt = false ∧ (ro = false → ro1 = false))
    (free : ∀ t, m' t = .free ↔ μ' t = none)
    (objs : ∀ t wd rows ro, m' t = .live wd rows ro → ∃ B, μ' t = some B ∧ ObjAt (Wr W0 μ' m') μ' w' B wd rows ro)
    (inj : ∀ t t' wd rows wd' rows' ro' B B', t ≠ t' → m' t = .live wd rows false → m' t' = .live wd' rows' ro' → μ' t = some B → μ' t' = some B' → B.virt = false → B'.virt = false → B.b ≠ B'.b) :
    Sim N w0 W0 L μ' ⟨σ.slots, m'⟩ a w' where
  tsize := h.tsize
  defers := h.defers
  os := hos.trans h.os
  tape := htape.trans h.tape
  output := hout.trans h.output
  hsize := Nat.le_trans h.hsize size
  keep b hb hl := by
    rw [chg b (Nat.lt_of_lt_of_le hb h.hsize), h.keep b hb hl]
    rintro ⟨t, B, wd, rows, h1, h2, rfl, hv⟩
    have := (h.out t wd rows false B h1 h2 hv).2 rfl
    rcases this with h' | h'
    · omega
    · exact hl h'
  w0lt := h.w0lt
  lentμ t B h1 := mu t B (h.lentμ t B h1)
  free := free
  slots i := (h.slots i).grow (h.grow size chg shape mu (mine_old old))
  objs := objs
  inj := inj
  out t wd rows ro B h1 h2 hv := by
    rcases old t wd rows ro B h1 h2 hv with hb | ⟨t', wd', rows', ro', B', k1, k2, k3, kv, k4⟩
    · refine ⟨fun hw => ?_, fun _ => .inl ?_⟩
      · have := h.w0lt _ hw; have := h.hsize; omega
      · have := h.hsize; omega
    · rw [← k3]
      have := h.out t' wd' rows' ro' B' k1 k2 kv
      exact ⟨this.1, fun hr => this.2 (k4 hr)⟩

/-- Only the count of draws has moved. -/
theorem Sim.drawn (h : Sim N w0 W0 L μ σ a w) (n : Nat) : Sim N w0 W0 L μ σ a { w with drawn := n } := by
  have g : Grow (Wr W0 μ σ.mem) μ w (Wr W0 μ σ.mem) μ { w with drawn := n } := ⟨Nat.le_refl _, fun _ _ _ => rfl, fun _ _ _ h => h, fun _ _ h => h, fun _ _ h => h⟩
  exact { h with slots := fun i => (h.slots i).grow g, objs := fun t wd rows ro ht => let ⟨B, h1, h2⟩ := h.objs t wd rows ro ht; ⟨B, h1, h2.grow g fun _ => rfl⟩ }

theorem Sim.live_lt (h : Sim N w0 W0 L μ σ a w) {t wd : Nat} {rows : List AV} {ro : Bool} {B : Blk} (ht : σ.mem t = .live wd rows ro) (hB : μ t = some B) (hv : B.virt = false) : B.b < w.heap.size := by
  obtain ⟨B', h1, h2⟩ := h.objs t wd rows ro ht
  rw [hB] at h1; cases h1
  obtain ⟨C, e, fz, h3, _⟩ := h2.blk hv
  exact (Array.getElem?_eq_some_iff.1 h3).1

def setMu (μ : Mu) (t : Nat) (B : Blk) : Mu := fun u => if u = t then some B else μ u

theorem shape_alloc {w : World} {o : Obj} {b : Nat} {e : TypeId} {n : Nat} (h : w.shape? b = some (e, n)) : (w.alloc o).shape? b = some (e, n) := by
  have hb : b < w.heap.size := by
    rcases Nat.lt_or_ge b w.heap.size with h' | h'
    · exact h'
    · simp [World.shape?, Array.getElem?_eq_none h'] at h
  simpa only [World.shape?, heap_alloc_old w o hb] using h

/-- A new object. -/
theorem Sim.alloc (h : Sim N w0 W0 L μ σ a w) {t wd : Nat} {rows : List AV} {C : Array Value} {e : TypeId} (ht : σ.mem t = .free) (hw : Wide wd rows) (hs : rows.length * wd ≤ C.size)
    (hc : ∀ (q : Nat) (c : AV), (flat rows)[q]? = some c → ∃ v, C[q]? = some v ∧ Rep (Wr W0 μ σ.mem) μ w c v) :
    Sim N w0 W0 L (setMu μ t ⟨w.heap.size, 0, wd, false⟩) ⟨σ.slots, updM σ.mem [(t, .live wd rows false)]⟩ a (w.alloc (.cells C e)) := by
  have hmt : μ t = none := (h.free t).1 ht
  have size : w.heap.size ≤ (w.alloc (.cells C e)).heap.size := by simp
  have chg : ∀ b, b < w.heap.size → ¬ Mine μ σ.mem b → (w.alloc (.cells C e)).heap[b]? = w.heap[b]? := fun b hb _ => heap_alloc_old w _ hb
  have mu : ∀ u B, μ u = some B → setMu μ t ⟨w.heap.size, 0, wd, false⟩ u = some B := fun u B hu => by
    have : u ≠ t := fun e => by rw [e, hmt] at hu; cases hu
    simp [setMu, this, hu]
  have old : ∀ u wd' rows' ro B, updM σ.mem [(t, .live wd rows false)] u = .live wd' rows' ro → setMu μ t ⟨w.heap.size, 0, wd, false⟩ u = some B → B.virt = false → w.heap.size ≤ B.b ∨
      ∃ t1 wd1 rows1 ro1 B1, σ.mem t1 = .live wd1 rows1 ro1 ∧ μ t1 = some B1 ∧ B1.b = B.b ∧ B1.virt = false ∧ (ro = false → ro1 = false) := by
    intro u wd' rows' ro B h1 h2 hv
    by_cases hu : u = t
    · subst hu; simp [setMu] at h2; subst h2; exact .inl (Nat.le_refl _)
    · simp [updM, hu] at h1; simp [setMu, hu] at h2
      exact .inr ⟨u, wd', rows', ro, B, h1, h2, rfl, hv, id⟩
  have g := h.grow size chg (fun b e n => shape_alloc) mu (mine_old old)
  refine h.step size rfl rfl rfl chg (fun b e n => shape_alloc) mu old (fun u => ?_) (fun u wd' rows' ro hu => ?_) ?_
  · by_cases hu : u = t
    · subst hu; simp [updM, setMu]
    · simp [updM, setMu, hu, h.free u]
  · by_cases hut : u = t
    · subst hut
      simp [updM] at hu
      obtain ⟨rfl, rfl, rfl⟩ := hu
      refine ⟨⟨w.heap.size, 0, wd, false⟩, by simp [setMu], rfl, hw, fun _ => ⟨C, e, (0, 0), heap_alloc_new w _, fun _ => rfl, by simpa using hs⟩, (fun h => nomatch h), fun q c hq => ?_⟩
      obtain ⟨v, h1, h2⟩ := hc q c hq
      exact ⟨v, by simp [World.cell?_alloc_new, h1], h2.grow g⟩
    · simp [updM, hut] at hu
      obtain ⟨B, h1, h2⟩ := h.objs u wd' rows' ro hu
      exact ⟨B, mu u B h1, h2.grow g fun hv => heap_alloc_old w _ (h.live_lt hu h1 hv)⟩
  · intro u u' wd1 r1 wd2 r2 ro2 B B' hne h1 h2 h3 h4 v1 v2
    by_cases hu : u = t
    · subst hu
      simp [setMu] at h3; subst h3
      have hu' : u' ≠ u := fun e => hne e.symm
      simp [updM, hu'] at h2; simp [setMu, hu'] at h4
      have := h.live_lt h2 h4 v2
      simp; omega
    · simp [updM, hu] at h1; simp [setMu, hu] at h3
      by_cases hu' : u' = t
      · subst hu'
        simp [setMu] at h4; subst h4
        have := h.live_lt h1 h3 v1
        simp; omega
      · simp [updM, hu'] at h2; simp [setMu, hu'] at h4
        exact h.inj u u' wd1 r1 wd2 r2 ro2 B B' hne h1 h2 h3 h4 v1 v2

/-- An object's rows turn (in place). -/
theorem Sim.setObj (h : Sim N w0 W0 L μ σ a w) {t wd : Nat} {rows rows' : List AV} {B : Blk} {C C' : Array Value} {e : TypeId} (ht : σ.mem t = .live wd rows false) (hB : μ t = some B) (hv : B.virt = false)
    (hC : w.heap[B.b]? = some (.cells C e (0, 0))) (hsz : C'.size = C.size) (hl : rows'.length = rows.length) (hw : Wide wd rows')
    (hc : ∀ (q : Nat) (c : AV), (flat rows')[q]? = some c → ∃ v, C'[B.o + q]? = some v ∧ Rep (Wr W0 μ σ.mem) μ w c v) :
    Sim N w0 W0 L μ ⟨σ.slots, updM σ.mem [(t, .live wd rows' false)]⟩ a (w.setRow B.b C') := by
  have hheap : (w.setRow B.b C').heap[B.b]? = some (.cells C' e (0, 0)) := setRow_heap w B.b C C' e (0, 0) hC
  have size : w.heap.size ≤ (w.setRow B.b C').heap.size := by simp
  have chg : ∀ b, b < w.heap.size → ¬ Mine μ σ.mem b → (w.setRow B.b C').heap[b]? = w.heap[b]? := fun b _ hm => by
    refine setRow_other w B.b b C' fun e => hm ⟨t, B, wd, rows, ht, hB, e.symm, hv⟩
  have shape : ∀ b e n, w.shape? b = some (e, n) → (w.setRow B.b C').shape? b = some (e, n) := fun b e' n hs => by
    by_cases hb : b = B.b
    · subst hb; simp [World.shape?, hC] at hs; simp [World.shape?, hheap, hsz, hs]
    · simpa [World.shape?, setRow_other w B.b b C' hb] using hs
  have old : ∀ u wd' rows'' ro B', updM σ.mem [(t, .live wd rows' false)] u = .live wd' rows'' ro → μ u = some B' → B'.virt = false → w.heap.size ≤ B'.b ∨
      ∃ t1 wd1 rows1 ro1 B1, σ.mem t1 = .live wd1 rows1 ro1 ∧ μ t1 = some B1 ∧ B1.b = B'.b ∧ B1.virt = false ∧ (ro = false → ro1 = false) := by
    intro u wd' rows'' ro B' h1 h2 hv'
    by_cases hu : u = t
    · subst hu; rw [hB] at h2; cases h2; exact .inr ⟨u, wd, rows, false, B, ht, hB, rfl, hv, fun _ => rfl⟩
    · simp [updM, hu] at h1; exact .inr ⟨u, wd', rows'', ro, B', h1, h2, rfl, hv', id⟩
  have g := h.grow size chg shape (fun _ _ h => h) (mine_old old)
  obtain ⟨B0, hB0, hobj⟩ := h.objs t wd rows false ht
  rw [hB] at hB0; cases hB0
  refine h.step size rfl rfl rfl chg shape (fun _ _ h => h) old (fun u => ?_) (fun u wd' rows'' ro hu => ?_) ?_
  · by_cases hu : u = t
    · subst hu; simp [updM, hB]
    · simp [updM, hu, h.free u]
  · by_cases hut : u = t
    · subst hut
      simp [updM] at hu
      obtain ⟨rfl, rfl, rfl⟩ := hu
      obtain ⟨C0, e0, fz, k1, k2, k3⟩ := hobj.blk hv
      rw [hC] at k1; cases k1
      refine ⟨B, hB, hobj.width, hw, fun _ => ⟨C', e, (0, 0), hheap, fun _ => rfl, by rw [hl, hsz]; exact k3⟩, (fun h => by rw [hv] at h; cases h), fun q c hq => ?_⟩
      obtain ⟨v, h1, h2⟩ := hc q c hq
      exact ⟨v, by simp [World.cell?, hheap, h1], h2.grow g⟩
    · simp [updM, hut] at hu
      obtain ⟨B', h1, h2⟩ := h.objs u wd' rows'' ro hu
      exact ⟨B', h1, h2.grow g fun hv' => (setRow_other w B.b B'.b C' (fun e => h.inj t u wd rows wd' rows'' ro B B' (fun e => hut e.symm) ht hu hB h1 hv hv' e.symm))⟩
  · intro u u' wd1 r1 wd2 r2 ro2 B1 B2 hne h1 h2 h3 h4 v1 v2
    have f1 : ∃ wd r, σ.mem u = .live wd r false := by
      by_cases hu : u = t
      · subst hu; exact ⟨_, _, ht⟩
      · simp [updM, hu] at h1; exact ⟨_, _, h1⟩
    have f2 : ∃ wd r ro, σ.mem u' = .live wd r ro := by
      by_cases hu : u' = t
      · subst hu; exact ⟨_, _, _, ht⟩
      · simp [updM, hu] at h2; exact ⟨_, _, _, h2⟩
    obtain ⟨x1, y1, f1⟩ := f1
    obtain ⟨x2, y2, z2, f2⟩ := f2
    exact h.inj u u' _ _ _ _ _ B1 B2 hne f1 f2 h3 h4 v1 v2

/-- Objects may come to be read-only, or dead. -/
theorem Sim.drop (h : Sim N w0 W0 L μ σ a w) {m' : Nat → MS}
    (hm : ∀ t, m' t = σ.mem t ∨ (m' t = .dead ∧ σ.mem t ≠ .free) ∨ ∃ wd rows ro, σ.mem t = .live wd rows ro ∧ m' t = .live wd rows true) :
    Sim N w0 W0 L μ ⟨σ.slots, m'⟩ a w := by
  have old : ∀ t wd rows ro, m' t = .live wd rows ro → ∃ ro', σ.mem t = .live wd rows ro' ∧ (ro = false → ro' = false) := by
    intro t wd rows ro ht
    rcases hm t with h1 | ⟨h1, _⟩ | ⟨wd', rows', ro', h1, h2⟩
    · exact ⟨ro, by rw [← h1]; exact ht, id⟩
    · rw [h1] at ht; cases ht
    · rw [h2] at ht; cases ht; exact ⟨ro', h1, fun h => by cases h⟩
  have old' : ∀ t wd rows ro B, m' t = .live wd rows ro → μ t = some B → B.virt = false → w.heap.size ≤ B.b ∨ ∃ t1 wd1 rows1 ro1 B1, σ.mem t1 = .live wd1 rows1 ro1 ∧ μ t1 = some B1 ∧ B1.b = B.b ∧ B1.virt = false ∧ (ro = false → ro1 = false) := by
    intro t wd rows ro B h1 h2 hv
    obtain ⟨ro', k1, k2⟩ := old t wd rows ro h1
    exact .inr ⟨t, wd, rows, ro', B, k1, h2, rfl, hv, k2⟩
  have g := h.grow (w' := w) (Nat.le_refl _) (fun _ _ _ => rfl) (fun _ _ _ h => h) (fun _ _ h => h) (mine_old old')
  refine h.step (Nat.le_refl _) rfl rfl rfl (fun _ _ _ => rfl) (fun _ _ _ h => h) (fun _ _ h => h) old' (fun t => ?_) (fun t wd rows ro ht => ?_) ?_
  · rw [← h.free t]
    rcases hm t with h1 | ⟨h1, h2⟩ | ⟨wd', rows', ro', h1, h2⟩
    · rw [h1]
    · simp [h1, h2]
    · simp [h1, h2]
  · obtain ⟨ro', k1, k2⟩ := old t wd rows ro ht
    obtain ⟨B, h1, h2⟩ := h.objs t wd rows ro' k1
    refine ⟨B, h1, ?_⟩
    have h3 := h2.grow g fun _ => rfl
    cases ro with
    | true => exact h3.ro
    | false => rw [k2 rfl] at h3; exact h3
  · intro u u' wd1 r1 wd2 r2 ro2 B1 B2 hne h1 h2 h3 h4 v1 v2
    obtain ⟨x, k1, k2⟩ := old _ _ _ _ h1
    rw [k2 rfl] at k1
    obtain ⟨y, k3, _⟩ := old _ _ _ _ h2
    exact h.inj u u' _ _ _ _ _ B1 B2 hne k1 k3 h3 h4 v1 v2
end
end Go.Am
