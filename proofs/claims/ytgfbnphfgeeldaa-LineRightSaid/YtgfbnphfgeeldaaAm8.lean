/- Effects of single operations, part 3. By an AI agent. -/
import Derived.Test.YtgfbnphfgeeldaaAm7
namespace Go.Am

section
variable {P : Program} {N : Nat} {σ : AState} {o : Oper}

structure TElem (P : Program) (t e : TypeId) (wd bytes : Nat) (i : TypeInfo) (z : Value) : Prop where
  ty : P.underlying t = some (.slice e)
  info : P.info? e = some i
  size : i.size = wd
  bytes : i.bytes = bytes
  zero : i.zero = some z
  zsize : z.cells.size = wd

def storeTo (base : Option Addr) (k : Nat) (news : List Value) : Sem Unit :=
  match base with
  | some a => storeCells (a.add k) news
  | none => pure ()

/-- append, its two parts read as lists of cells in every world that differs by draws alone. -/
theorem append_run {t t2 e e2 ty : TypeId} {wd bytes : Nat} {i : TypeInfo} {z : Value} (ht : TElem P t e wd bytes i z) (ht2 : P.underlying t2 = some (.slice e2)) {w : World} {base ax : Option Addr} {sLen sCap n c : Nat} {olds news : List Value}
    (hold : ∀ d, (Builtin.firstCells wd sLen (.slice base sLen sCap)).run P { w with drawn := d } = .ok olds.toArray { w with drawn := d })
    (hnew : ∀ d, (Builtin.firstCells wd n (.slice ax n c)).run P { w with drawn := d } = .ok news.toArray { w with drawn := d })
    (h63 : sLen + n ≤ maxLen) (hb : (sLen + n) * bytes ≤ 140737488355328) :
    (sLen + n ≤ sCap → (Builtin.append_ #[t, t2] ty #[.slice base sLen sCap, .slice ax n c]).run P w = ((storeTo base (sLen * wd) news).run P w).andThen fun _ w' => .ok (.slice base (sLen + n) sCap) w') ∧
    (sCap < sLen + n → ∃ cap, sLen + n ≤ cap ∧ (Builtin.append_ #[t, t2] ty #[.slice base sLen sCap, .slice ax n c]).run P w =
      .ok (.slice (some ⟨w.heap.size, 0, none⟩) (sLen + n) cap) (w.drew.alloc (.cells (olds.toArray ++ news.toArray ++ Builtin.zeroCells z.cells (cap - (sLen + n))) e))) := by
  obtain ⟨h1, h2, h3, h4, h5, h6⟩ := ht
  subst h3; subst h4
  have hnew0 := hnew w.drawn
  constructor
  · intro hroom
    cases base with
    | none => simp [Builtin.append_, run_underlying h1, run_underlying ht2, sizeOf, typeInfo, h2, Builtin.lenOf, hroom, hnew0, storeTo]
    | some a => simp [Builtin.append_, run_underlying h1, run_underlying ht2, sizeOf, typeInfo, h2, Builtin.lenOf, hroom, hnew0, storeTo]
  · intro hg
    have hn : ¬ (sLen + n ≤ sCap) := by omega
    have hsmall : sLen + n ≤ 9223372036854775807 := by simp only [maxLen] at h63; omega
    have h63' : ¬ (9223372036854775807 < ((sLen : Int) + (n : Int))) := by omega
    have hfit := growslice_fits hg hb
    have h48' : ¬ (281474976710656 < Builtin.nextslicecap (sLen + n) sCap * i.bytes) := by omega
    refine ⟨grownCap w (sLen + n) sCap e, grownCap_ge w _ _ e, ?_⟩
    have ho : (Builtin.firstCells i.size sLen (.slice base sLen sCap)).run P w.drew = .ok olds.toArray w.drew := hold (w.drawn + 1)
    have hnw : (Builtin.firstCells i.size n (.slice ax n c)).run P w.drew = .ok news.toArray w.drew := hnew (w.drawn + 1)
    simp [Builtin.append_, run_underlying h1, run_underlying ht2, sizeOf, typeInfo, zeroValue, h2, h5, Builtin.lenOf, hn, h63', h48', Question.forced, ho, hnw, newRow, grownCap]
    congr 2
    apply Array.ext'
    simp [List.append_assoc]

/-- The rows that are appended: what an abstract slice holds. -/
inductive Src (σ : AState) (wd : Nat) : AV → List AV → List Nat → Prop
  | own {t off len : Nat} {rows : List AV} {ro : Bool} : σ.mem t = .live wd rows ro → off + len ≤ rows.length → Src σ wd (.own t off len) ((rows.drop off).take len) [t]
  | full {t len : Nat} {rows : List AV} {ro : Bool} : σ.mem t = .live wd rows ro → len = rows.length → Src σ wd (.own t 0 len) rows [t]
  | sl {rows : List AV} : Src σ wd (.sl wd rows) rows []
  | emp : Src σ wd .emp [] []
  | nil : Src σ wd (.lit (.slice none 0 0)) [] []

theorem firstCells_zero {wd c : Nat} {ax : Option Addr} {w : World} : (Builtin.firstCells wd 0 (.slice ax 0 c)).run P w = .ok #[] w := by
  cases ax with
  | none => simp [Builtin.firstCells]
  | some a => simp [Builtin.firstCells, loadCells, loadCellsFrom]

/-- What is read of it: its length, and its cells. -/
theorem Src.run {σ2 : AState} {wd : Nat} {x : AV} {rows : List AV} {rd : List Nat} (h : Src σ wd x rows rd) (hrd : ∀ t ∈ rd, σ2.mem t = σ.mem t) {w0 : World} {W0 : Nat → Prop} {L μ : Mu} {a : Act} {w : World}
    (hs : Sim N w0 W0 L μ σ2 a w) {v : Value} (hv : Rep (Wr W0 μ σ2.mem) μ w x v) :
    ∃ ax c vs, v = .slice ax rows.length c ∧ RepL (Wr W0 μ σ2.mem) μ w (flat rows) vs ∧ Wide wd rows ∧
      ∀ d, (Builtin.firstCells wd rows.length (.slice ax rows.length c)).run P { w with drawn := d } = .ok vs.toArray { w with drawn := d } := by
  have key : ∀ (b q0 : Nat) (rows : List AV) (c : Nat), Wide wd rows → (∀ (q : Nat) (x : AV), (flat rows)[q]? = some x → ∃ v, w.cell? ⟨b, q0 + q, none⟩ = some v ∧ Rep (Wr W0 μ σ2.mem) μ w x v) →
      ∃ vs, RepL (Wr W0 μ σ2.mem) μ w (flat rows) vs ∧ ∀ d, (Builtin.firstCells wd rows.length (.slice (some ⟨b, q0, none⟩) rows.length c)).run P { w with drawn := d } = .ok vs.toArray { w with drawn := d } := by
    intro b q0 rows c hw hc
    have key' : ∀ q, ∃ v, ∀ x, (flat rows)[q]? = some x → w.cell? ⟨b, q0 + q, none⟩ = some v ∧ Rep (Wr W0 μ σ2.mem) μ w x v := fun q => by
      cases hq : (flat rows)[q]? with
      | none => exact ⟨undef, by simp⟩
      | some x => obtain ⟨v, hv⟩ := hc q x hq; exact ⟨v, fun x' h' => by cases h'; exact hv⟩
    obtain ⟨f, hf⟩ := Classical.skolem.1 key'
    have hlen := flat_length hw
    refine ⟨(List.range (rows.length * wd)).map f, ⟨by simp [hlen], fun j x v h1 h2 => ?_⟩, fun d => ?_⟩
    · have hj := (List.getElem?_eq_some_iff.1 h1).1
      rw [hlen] at hj
      simp [hj] at h2
      rw [← h2]; exact (hf j x h1).2
    · refine run_firstCells_some (P := P) _ wd rows.length _ rows.length c _ (by simp) (fun j v hj => ?_)
      have hjl := (List.getElem?_eq_some_iff.1 hj).1
      simp at hjl
      simp [hjl] at hj
      rw [← hj, Addr.add_lit]
      exact (hf j _ (List.getElem?_eq_getElem (by rw [hlen]; exact hjl))).1
  have nilc : ∀ (ax : Option Addr) (c : Nat), ∃ ax' c' vs, Value.slice ax 0 c = .slice ax' ([] : List AV).length c' ∧ RepL (Wr W0 μ σ2.mem) μ w (flat []) vs ∧ Wide wd [] ∧
      ∀ d, (Builtin.firstCells wd ([] : List AV).length (.slice ax' ([] : List AV).length c')).run P { w with drawn := d } = .ok vs.toArray { w with drawn := d } :=
    fun ax c => ⟨ax, c, [], rfl, .nil, .nil _, fun d => firstCells_zero⟩
  cases h with
  | @own t off len rows ro hm hl =>
    have hm2 : σ2.mem t = .live wd rows ro := by rw [hrd t (by simp)]; exact hm
    obtain ⟨B, hB, hobj⟩ := hs.objs t wd rows ro hm2
    have hll : ((rows.drop off).take len).length = len := by rw [List.length_take, List.length_drop]; omega
    have hwide : Wide wd ((rows.drop off).take len) := hobj.wide.sub fun r hr => List.mem_of_mem_drop (List.mem_of_mem_take hr)
    cases hv with
    | @own _ _ _ cap e n B' a1 av a2 a3 a4 =>
      rw [hB] at a1; cases a1
      obtain ⟨vs, k1, k2⟩ := key B.b (B.o + off * B.wd) _ cap hwide (fun q x hq => by
        obtain ⟨v, v1, v2⟩ := hobj.cell _ x (flat_cut hobj.wide hq)
        exact ⟨v, by rw [hobj.width, Nat.add_assoc]; exact v1, v2⟩)
      rw [hll] at k2 ⊢
      exact ⟨_, cap, vs, rfl, k1, hwide, k2⟩
    | ownNil a1 =>
      have : (rows.drop off).take 0 = [] := by simp
      rw [this]; exact nilc _ _
  | @full t len rows ro hm hl =>
    have hm2 : σ2.mem t = .live wd rows ro := by rw [hrd t (by simp)]; exact hm
    obtain ⟨B, hB, hobj⟩ := hs.objs t wd rows ro hm2
    subst hl
    generalize hn : rows.length = n at hv
    cases hv with
    | @own _ _ _ cap e n B' a1 av a2 a3 a4 =>
      rw [hB] at a1; cases a1
      obtain ⟨vs, k1, k2⟩ := key B.b (B.o + 0 * B.wd) rows cap hobj.wide (fun q x hq => by
        obtain ⟨v, v1, v2⟩ := hobj.cell _ x hq
        exact ⟨v, by simpa using v1, v2⟩)
      subst hn
      exact ⟨_, cap, vs, rfl, k1, hobj.wide, k2⟩
    | ownNil a1 =>
      have := List.eq_nil_of_length_eq_zero hn
      subst this
      exact nilc _ _
  | sl =>
    cases hv with
    | slNil => exact nilc _ _
    | @sl _ _ b q0 cap n f a1 a2 a3 a4 a5 a6 a7 =>
      obtain ⟨vs, k1, k2⟩ := key b q0 rows cap a5 (fun q x hq => ⟨f q, a6 q x hq, a7 q x hq⟩)
      subst a3
      exact ⟨_, cap, vs, rfl, k1, a5, k2⟩
  | emp => cases hv; exact nilc _ _
  | nil => cases hv; exact nilc _ _

/-- What is appended to: an own slice (which is dead then), or an empty one without room. -/
inductive Base (σ : AState) (wd : Nat) : AV → List AV → List Nat → Prop
  | own {t off len : Nat} {rows : List AV} : σ.mem t = .live wd rows false → off + len ≤ rows.length → Base σ wd (.own t off len) ((rows.drop off).take len) [t]
  | full {t len : Nat} {rows : List AV} : σ.mem t = .live wd rows false → len = rows.length → Base σ wd (.own t 0 len) rows [t]
  | emp : Base σ wd .emp [] []
  | nil : Base σ wd (.lit (.slice none 0 0)) [] []
theorem Base.src {wd : Nat} {x : AV} {rows : List AV} {k : List Nat} (h : Base σ wd x rows k) : Src σ wd x rows k := by
  cases h with
  | own a b => exact .own a b
  | full a b => exact .full a b
  | emp => exact .emp
  | nil => exact .nil
theorem Base.live {wd : Nat} {x : AV} {rows : List AV} {k : List Nat} (h : Base σ wd x rows k) : ∀ t ∈ k, ∃ rows, σ.mem t = .live wd rows false := by
  cases h with
  | own a b => intro t ht; simp at ht; subst ht; exact ⟨_, a⟩
  | full a b => intro t ht; simp at ht; subst ht; exact ⟨_, a⟩
  | emp => simp
  | nil => simp

theorem updM_append {m : Nat → MS} {a b : List (Nat × MS)} : updM m (a ++ b) = updM (updM m b) a := by
  induction a with
  | nil => rfl
  | cons x r ih => obtain ⟨t, s⟩ := x; funext u; simp [updM, ih]

theorem updM_dead {m : Nat → MS} {k : List Nat} {t : Nat} : updM m (k.map fun t => (t, MS.dead)) t = if t ∈ k then .dead else m t := by
  induction k with
  | nil => simp [updM]
  | cons x r ih => simp only [List.map_cons, updM, ih, List.mem_cons]; by_cases h : t = x <;> simp [h]

/-- An object without rows. -/
theorem Sim.allocVirt {w0 : World} {W0 : Nat → Prop} {L μ : Mu} {a : Act} {w : World} (h : Sim N w0 W0 L μ σ a w) {t wd : Nat} (ht : σ.mem t = .free) :
    Sim N w0 W0 L (setMu μ t ⟨0, 0, wd, true⟩) ⟨σ.slots, updM σ.mem [(t, .live wd [] false)]⟩ a w := by
  have hmt : μ t = none := (h.free t).1 ht
  have mu : ∀ u B, μ u = some B → setMu μ t ⟨0, 0, wd, true⟩ u = some B := fun u B hu => by
    have : u ≠ t := fun e => by rw [e, hmt] at hu; cases hu
    simp [setMu, this, hu]
  have old : ∀ u wd' rows' ro B, updM σ.mem [(t, .live wd [] false)] u = .live wd' rows' ro → setMu μ t ⟨0, 0, wd, true⟩ u = some B → B.virt = false → w.heap.size ≤ B.b ∨
      ∃ t1 wd1 rows1 ro1 B1, σ.mem t1 = .live wd1 rows1 ro1 ∧ μ t1 = some B1 ∧ B1.b = B.b ∧ B1.virt = false ∧ (ro = false → ro1 = false) := by
    intro u wd' rows' ro B h1 h2 hv
    by_cases hu : u = t
    · subst hu; simp [setMu] at h2; subst h2; cases hv
    · simp [updM, hu] at h1; simp [setMu, hu] at h2
      exact .inr ⟨u, wd', rows', ro, B, h1, h2, rfl, hv, id⟩
  have g := h.grow (w' := w) (Nat.le_refl _) (fun _ _ _ => rfl) (fun _ _ _ h => h) mu (mine_old old)
  refine h.step (Nat.le_refl _) rfl rfl rfl (fun _ _ _ => rfl) (fun _ _ _ h => h) mu old (fun u => ?_) (fun u wd' rows' ro hu => ?_) ?_
  · by_cases hu : u = t
    · subst hu; simp [updM, setMu]
    · simp [updM, setMu, hu, h.free u]
  · by_cases hut : u = t
    · subst hut
      simp [updM] at hu
      obtain ⟨rfl, rfl, rfl⟩ := hu
      exact ⟨⟨0, 0, wd, true⟩, by simp [setMu], rfl, .nil _, (fun h => nomatch h), fun _ => rfl, fun q c hq => by simp [flat] at hq⟩
    · simp [updM, hut] at hu
      obtain ⟨B, h1, h2⟩ := h.objs u wd' rows' ro hu
      exact ⟨B, mu u B h1, h2.grow g fun _ => rfl⟩
  · intro u u' wd1 r1 wd2 r2 ro2 B B' hne h1 h2 h3 h4 v1 v2
    by_cases hu : u = t
    · subst hu; simp [setMu] at h3; subst h3; cases v1
    · by_cases hu' : u' = t
      · subst hu'; simp [setMu] at h4; subst h4; cases v2
      · simp [updM, hu] at h1; simp [setMu, hu] at h3
        simp [updM, hu'] at h2; simp [setMu, hu'] at h4
        exact h.inj u u' wd1 r1 wd2 r2 ro2 B B' hne h1 h2 h3 h4 v1 v2

/-- An object's block goes on as another object's, from a row on, with other rows. -/
theorem Sim.reuse {w0 : World} {W0 : Nat → Prop} {L μ : Mu} {a : Act} {w : World} (h : Sim N w0 W0 L μ σ a w) {t tn wd off : Nat} {rows rows' : List AV} {B : Blk} {C C' : Array Value} {e : TypeId} (ht : σ.mem t = .live wd rows false)
    (hB : μ t = some B) (hv : B.virt = false) (htn : σ.mem tn = .free) (hC : w.heap[B.b]? = some (.cells C e (0, 0))) (hsz : C'.size = C.size) (hw : Wide wd rows') (hfit : B.o + off * wd + rows'.length * wd ≤ C.size)
    (hc : ∀ (q : Nat) (c : AV), (flat rows')[q]? = some c → ∃ v, C'[B.o + off * wd + q]? = some v ∧ Rep (Wr W0 μ σ.mem) μ w c v) :
    Sim N w0 W0 L (setMu μ tn ⟨B.b, B.o + off * wd, wd, false⟩) ⟨σ.slots, updM σ.mem [(tn, .live wd rows' false), (t, .dead)]⟩ a (w.setRow B.b C') := by
  have hne0 : tn ≠ t := fun e => by rw [e, ht] at htn; cases htn
  have hmt : μ tn = none := (h.free tn).1 htn
  have hheap : (w.setRow B.b C').heap[B.b]? = some (.cells C' e (0, 0)) := setRow_heap w B.b C C' e (0, 0) hC
  have size : w.heap.size ≤ (w.setRow B.b C').heap.size := by simp
  have chg : ∀ b, b < w.heap.size → ¬ Mine μ σ.mem b → (w.setRow B.b C').heap[b]? = w.heap[b]? := fun b _ hm => by
    refine setRow_other w B.b b C' fun e => hm ⟨t, B, wd, rows, ht, hB, e.symm, hv⟩
  have shape : ∀ b e n, w.shape? b = some (e, n) → (w.setRow B.b C').shape? b = some (e, n) := fun b e' n hs => by
    by_cases hb : b = B.b
    · subst hb; simp [World.shape?, hC] at hs; simp [World.shape?, hheap, hsz, hs]
    · simpa [World.shape?, setRow_other w B.b b C' hb] using hs
  have mu : ∀ u B', μ u = some B' → setMu μ tn ⟨B.b, B.o + off * wd, wd, false⟩ u = some B' := fun u B' hu => by
    have : u ≠ tn := fun e => by rw [e, hmt] at hu; cases hu
    simp [setMu, this, hu]
  have m' : ∀ u, u ≠ tn → u ≠ t → updM σ.mem [(tn, MS.live wd rows' false), (t, .dead)] u = σ.mem u := fun u h1 h2 => by simp [updM, h1, h2]
  have mt : updM σ.mem [(tn, MS.live wd rows' false), (t, .dead)] t = .dead := by simp [updM, Ne.symm hne0]
  have old : ∀ u wd' rows'' ro B', updM σ.mem [(tn, MS.live wd rows' false), (t, .dead)] u = .live wd' rows'' ro → setMu μ tn ⟨B.b, B.o + off * wd, wd, false⟩ u = some B' → B'.virt = false → w.heap.size ≤ B'.b ∨
      ∃ t1 wd1 rows1 ro1 B1, σ.mem t1 = .live wd1 rows1 ro1 ∧ μ t1 = some B1 ∧ B1.b = B'.b ∧ B1.virt = false ∧ (ro = false → ro1 = false) := by
    intro u wd' rows'' ro B' h1 h2 hv'
    by_cases hu : u = tn
    · subst hu; simp [setMu] at h2; subst h2; exact .inr ⟨t, wd, rows, false, B, ht, hB, rfl, hv, fun _ => rfl⟩
    · by_cases hut : u = t
      · subst hut; rw [mt] at h1; cases h1
      · rw [m' u hu hut] at h1; simp [setMu, hu] at h2
        exact .inr ⟨u, wd', rows'', ro, B', h1, h2, rfl, hv', id⟩
  have g := h.grow size chg shape mu (mine_old old)
  refine h.step size rfl rfl rfl chg shape mu old (fun u => ?_) (fun u wd' rows'' ro hu => ?_) ?_
  · by_cases hu : u = tn
    · subst hu; simp [updM, setMu]
    · by_cases hut : u = t
      · subst hut; rw [mt]; simp [setMu, hu, hB]
      · rw [m' u hu hut]; simp [setMu, hu, h.free u]
  · by_cases hut : u = tn
    · subst hut
      simp [updM] at hu
      obtain ⟨rfl, rfl, rfl⟩ := hu
      refine ⟨⟨B.b, B.o + off * wd, wd, false⟩, by simp [setMu], rfl, hw, fun _ => ⟨C', e, (0, 0), hheap, fun _ => rfl, by rw [hsz]; exact hfit⟩, (fun h => nomatch h), fun q c hq => ?_⟩
      obtain ⟨v, h1, h2⟩ := hc q c hq
      exact ⟨v, by simp [World.cell?, hheap, h1], h2.grow g⟩
    · by_cases hut2 : u = t
      · subst hut2; rw [mt] at hu; cases hu
      · rw [m' u hut hut2] at hu
        obtain ⟨B', h1, h2⟩ := h.objs u wd' rows'' ro hu
        exact ⟨B', mu u B' h1, h2.grow g fun hv' => (setRow_other w B.b B'.b C' (fun e => h.inj t u wd rows wd' rows'' ro B B' (fun e => hut2 e.symm) ht hu hB h1 hv hv' e.symm))⟩
  · intro u u' wd1 r1 wd2 r2 ro2 B1 B2 hne h1 h2 h3 h4 v1 v2
    have cs : ∀ u wd1 r1 ro B1, updM σ.mem [(tn, MS.live wd rows' false), (t, .dead)] u = .live wd1 r1 ro → setMu μ tn ⟨B.b, B.o + off * wd, wd, false⟩ u = some B1 →
        (u = tn ∧ ro = false ∧ B1.b = B.b) ∨ (u ≠ tn ∧ u ≠ t ∧ σ.mem u = .live wd1 r1 ro ∧ μ u = some B1) := by
      intro u wd1 r1 ro B1 h1 h3
      by_cases hu : u = tn
      · subst hu; simp [setMu] at h3; subst h3; simp [updM] at h1; exact .inl ⟨rfl, by simp [h1], rfl⟩
      · by_cases hut : u = t
        · subst hut; rw [mt] at h1; cases h1
        · rw [m' u hu hut] at h1; simp [setMu, hu] at h3; exact .inr ⟨hu, hut, h1, h3⟩
    rcases cs _ _ _ _ _ h1 h3 with ⟨rfl, _, e1⟩ | ⟨a1, a2, a3, a4⟩
    · rcases cs _ _ _ _ _ h2 h4 with ⟨rfl, _, _⟩ | ⟨b1, b2, b3, b4⟩
      · exact absurd rfl hne
      · rw [e1]; exact h.inj t u' _ _ _ _ _ B B2 (Ne.symm b2) ht b3 hB b4 hv v2
    · rcases cs _ _ _ _ _ h2 h4 with ⟨rfl, _, e2⟩ | ⟨b1, b2, b3, b4⟩
      · rw [e2]; exact fun e => h.inj u t _ _ _ _ _ B1 B a2 a3 ht a4 hB v1 hv e
      · exact h.inj u u' _ _ _ _ _ B1 B2 hne a3 b3 a4 b4 v1 v2
end
end Go.Am
