/- Views of values: renamed or frozen objects describe no more than what is there. By an AI agent. -/
import Derived.Test.YtgfbnphfgeeldaaAm3
namespace Go.Am

mutual
/-- No reference to an object of the frame. -/
def noRef : AV → Bool
  | .any => true
  | .emp => true
  | .guess _ _ => true
  | .lit _ => true
  | .sl _ rows => noRefL rows
  | .own .. => false
  | .ptr .. => false
  | .fptr e _ => noRef e
  | .agg cs => noRefL cs
  | .tup cs => noRefL cs
  | .clo _ a b => noRefL a && noRefL b
def noRefL : List AV → Bool
  | [] => true
  | x :: xs => noRef x && noRefL xs
end

theorem noRefL_iff {l : List AV} : noRefL l = true ↔ ∀ x ∈ l, noRef x = true := by
  induction l with
  | nil => simp [noRefL]
  | cons x xs ih => simp [noRefL, ih]
theorem noRefL_map {α : Type} (f : α → AV) (h : ∀ a, noRef (f a) = true) (l : List α) : noRefL (l.map f) = true := noRefL_iff.2 fun x hx => by
  obtain ⟨a, _, rfl⟩ := List.mem_map.1 hx; exact h a
theorem noRefL_append {a b : List AV} : noRefL (a ++ b) = (noRefL a && noRefL b) := by
  induction a with
  | nil => simp [noRefL]
  | cons x xs ih => simp [noRefL, ih, Bool.and_assoc]

theorem noRef_cells {x c : AV} (h : noRef x = true) (hc : c ∈ cells x) : noRef c = true := by
  cases x with
  | agg cs => simp only [noRef] at h; exact noRefL_iff.1 h c hc
  | lit v =>
    cases v with
    | agg xs =>
      simp only [cells, List.mem_map] at hc
      obtain ⟨a, _, rfl⟩ := hc; rfl
    | _ => simp only [cells, List.mem_singleton] at hc; subst hc; rfl
  | _ => simp only [cells, List.mem_singleton] at hc; subst hc; exact h

theorem noRef_flat {rows : List AV} {c : AV} (h : noRefL rows = true) (hc : c ∈ flat rows) : noRef c = true := by
  simp only [flat, List.mem_flatMap] at hc
  obtain ⟨x, h1, h2⟩ := hc
  exact noRef_cells (noRefL_iff.1 h x h1) h2

/-- What has no reference stands for the same wherever the frame's objects lie. -/
theorem Rep.noRef {W W' : Nat → Prop} {μ μ' : Mu} {w : World} (hW : ∀ b, b < w.heap.size → W' b → W b) {x : AV} {v : Value} (h : Rep W μ w x v) (hx : Am.noRef x = true) : Rep W' μ' w x v := by
  induction h with
  | any => exact .any
  | guess h1 h2 => exact .guess h1 h2
  | emp => exact .emp
  | lit => exact .lit
  | slNil => exact .slNil
  | sl a b c d e f _ ih => exact .sl (fun h => a (hW _ b h)) b c d e f (fun q c hq => ih q c hq (noRef_flat (by simpa [Am.noRef] using hx) (List.mem_of_getElem? hq)))
  | own => simp [Am.noRef] at hx
  | ownNil => simp [Am.noRef] at hx
  | ptr => simp [Am.noRef] at hx
  | fptr a b c _ ih => exact .fptr (fun h => a (hW _ b h)) b c (fun q c hq => ih q c hq (noRef_cells (by simpa [Am.noRef] using hx) (List.mem_of_getElem? hq)))
  | agg a _ ih => exact .agg a (fun j c v h1 h2 => ih j c v h1 h2 (noRefL_iff.1 (by simpa [Am.noRef] using hx) c (List.mem_of_getElem? h1)))
  | tup a _ ih => exact .tup a (fun j c v h1 h2 => ih j c v h1 h2 (noRefL_iff.1 (by simpa [Am.noRef] using hx) c (List.mem_of_getElem? h1)))
  | clo a b _ _ ih1 ih2 =>
    simp [Am.noRef] at hx
    exact .clo a b (fun j c v h1 h2 => ih1 j c v h1 h2 (noRefL_iff.1 hx.1 c (List.mem_of_getElem? h1))) (fun j c v h1 h2 => ih2 j c v h1 h2 (noRefL_iff.1 hx.2 c (List.mem_of_getElem? h1)))

/-- x (with objects named anew: ρ: new name to old name; D: the new names in use) says no more than y; the objects F are frozen. -/
inductive Cv (m : Nat → MS) (ρ : Nat → Nat) (D F : Nat → Prop) : AV → AV → Prop
  | any {y} : Cv m ρ D F .any y
  | same {x} : noRef x = true → Cv m ρ D F x x
  | own {t o l} : D t → Cv m ρ D F (.own t o l) (.own (ρ t) o l)
  | ptr {t i k} : D t → Cv m ρ D F (.ptr t i k) (.ptr (ρ t) i k)
  | nil {wd} : Cv m ρ D F (.sl wd []) (.lit (.slice none 0 0))
  | nilE : Cv m ρ D F .emp (.lit (.slice none 0 0))
  | empS {wd} : Cv m ρ D F (.sl wd []) .emp
  | frz {s off len wd rows rows' ro} : F s → m s = .live wd rows ro → Wide wd rows' → off + len ≤ rows.length → rows'.length = len →
      (∀ (q : Nat) (c d : AV), (flat rows')[q]? = some c → (flat ((rows.drop off).take len))[q]? = some d → Cv m ρ D F c d) → Cv m ρ D F (.sl wd rows') (.own s off len)
  | frzp {s i k wd rows ro r r'} : F s → m s = .live wd rows ro → rows[i]? = some r → (cells r').length = wd →
      (∀ (q : Nat) (c d : AV), (cells r')[q]? = some c → (cells r)[q]? = some d → Cv m ρ D F c d) → Cv m ρ D F (.fptr r' k) (.ptr s i k)
  | agg {cs ds : List AV} : cs.length = ds.length → (∀ (q : Nat) (c d : AV), cs[q]? = some c → ds[q]? = some d → Cv m ρ D F c d) → Cv m ρ D F (.agg cs) (.agg ds)
  | tup {cs ds : List AV} : cs.length = ds.length → (∀ (q : Nat) (c d : AV), cs[q]? = some c → ds[q]? = some d → Cv m ρ D F c d) → Cv m ρ D F (.tup cs) (.tup ds)
  | clo {f : Fn} {as bs cs ds : List AV} : as.length = bs.length → cs.length = ds.length → (∀ (q : Nat) (c d : AV), as[q]? = some c → bs[q]? = some d → Cv m ρ D F c d) →
      (∀ (q : Nat) (c d : AV), cs[q]? = some c → ds[q]? = some d → Cv m ρ D F c d) → Cv m ρ D F (.clo f as cs) (.clo f bs ds)

/-- Pointwise. -/
def CvL (m : Nat → MS) (ρ : Nat → Nat) (D F : Nat → Prop) (cs ds : List AV) : Prop := cs.length = ds.length ∧ ∀ (q : Nat) (c d : AV), cs[q]? = some c → ds[q]? = some d → Cv m ρ D F c d
section
variable {m : Nat → MS} {ρ : Nat → Nat} {D F : Nat → Prop}
theorem CvL.nil : CvL m ρ D F [] [] := ⟨rfl, by simp⟩
theorem CvL.cons {c d : AV} {cs ds : List AV} (h : Cv m ρ D F c d) (hs : CvL m ρ D F cs ds) : CvL m ρ D F (c :: cs) (d :: ds) :=
  ⟨by simp [hs.1], fun q x y h1 h2 => by
    cases q with
    | zero => simp at h1 h2; subst h1; subst h2; exact h
    | succ q => exact hs.2 q x y (by simpa using h1) (by simpa using h2)⟩
theorem CvL.same {cs : List AV} (h : noRefL cs = true) : CvL m ρ D F cs cs :=
  ⟨rfl, fun q x y h1 h2 => by rw [h1] at h2; cases h2; exact .same (noRefL_iff.1 h x (List.mem_of_getElem? h1))⟩
theorem Cv.mk_agg {cs ds : List AV} (h : CvL m ρ D F cs ds) : Cv m ρ D F (.agg cs) (.agg ds) := .agg h.1 h.2
theorem Cv.mk_tup {cs ds : List AV} (h : CvL m ρ D F cs ds) : Cv m ρ D F (.tup cs) (.tup ds) := .tup h.1 h.2
theorem Cv.mk_clo {f : Fn} {as bs cs ds : List AV} (h : CvL m ρ D F as bs) (h' : CvL m ρ D F cs ds) : Cv m ρ D F (.clo f as cs) (.clo f bs ds) := .clo h.1 h'.1 h.2 h'.2

theorem CvL.append {a b c d : List AV} (h : CvL m ρ D F a b) (k : CvL m ρ D F c d) : CvL m ρ D F (a ++ c) (b ++ d) := by
  refine ⟨by simp [h.1, k.1], fun q x y h1 h2 => ?_⟩
  rw [List.getElem?_append] at h1 h2
  rw [← h.1] at h2
  split at h1
  · rename_i hq; rw [if_pos hq] at h2; exact h.2 _ _ _ h1 h2
  · rename_i hq; rw [if_neg hq] at h2; exact k.2 _ _ _ h1 h2

/-- The cells of what is so are so. -/
theorem Cv.cells {x y : AV} (h : Cv m ρ D F x y) (hl : (Am.cells x).length = (Am.cells y).length) : CvL m ρ D F (Am.cells x) (Am.cells y) := by
  cases h with
  | same hx => exact ⟨rfl, fun q c d h1 h2 => by rw [h1] at h2; cases h2; exact .same (noRef_cells hx (List.mem_of_getElem? h1))⟩
  | agg a b => exact ⟨a, b⟩
  | any =>
    refine ⟨hl, fun q c d h1 h2 => ?_⟩
    simp [Am.cells] at h1
    have : q = 0 := by
      rcases q with _ | q
      · rfl
      · simp at h1
    subst this; simp at h1; subst h1; exact .any
  | own a => exact .cons (.own a) .nil
  | ptr a => exact .cons (.ptr a) .nil
  | nil => exact .cons .nil .nil
  | nilE => exact .cons .nilE .nil
  | empS => exact .cons .empS .nil
  | frz a b c d e f => exact .cons (.frz a b c d e f) .nil
  | frzp a b c d e => exact .cons (.frzp a b c d e) .nil
  | tup a b => exact .cons (.tup a b) .nil
  | clo a b c d => exact .cons (.clo a b c d) .nil

theorem CvL.flat {cs ds : List AV} {wd : Nat} (h : CvL m ρ D F cs ds) (h1 : Wide wd cs) (h2 : Wide wd ds) : CvL m ρ D F (Am.flat cs) (Am.flat ds) := by
  induction cs generalizing ds with
  | nil =>
    cases ds with
    | nil => exact .nil
    | cons d ds => simp [CvL] at h
  | cons c cs ih =>
    cases ds with
    | nil => simp [CvL] at h
    | cons d ds =>
      rw [flat_cons, flat_cons]
      exact ((h.2 0 c d rfl rfl).cells (by rw [h1.tail.1, h2.tail.1])).append (ih ⟨by simpa using h.1, fun q x y a b => h.2 (q + 1) x y (by simpa using a) (by simpa using b)⟩ h1.tail.2 h2.tail.2)

/-- An own slice, frozen. -/
theorem Cv.mk_frz {s off len wd : Nat} {rows rows' : List AV} {ro : Bool} (hF : F s) (hm : m s = .live wd rows ro) (hw : Wide wd rows') (hw2 : Wide wd rows) (hl : off + len ≤ rows.length)
    (h : CvL m ρ D F rows' ((rows.drop off).take len)) : Cv m ρ D F (.sl wd rows') (.own s off len) :=
  .frz hF hm hw hl (by rw [h.1, List.length_take, List.length_drop]; omega) ((h.flat hw (hw2.sub fun r hr => List.mem_of_mem_drop (List.mem_of_mem_take hr))).2)
end

theorem flat_drop {wd : Nat} : ∀ {rows : List AV} {off : Nat}, Wide wd rows → flat (rows.drop off) = (flat rows).drop (off * wd)
  | [], off, _ => by simp [flat]
  | r :: rows, 0, _ => by simp
  | r :: rows, off + 1, h => by
    rw [List.drop_succ_cons, flat_drop h.tail.2, flat_cons, Nat.add_mul, Nat.one_mul, List.drop_append, h.tail.1, List.drop_eq_nil_of_le (as := cells r) (by rw [h.tail.1]; omega), List.nil_append]
    congr 1; omega
theorem flat_take {wd : Nat} : ∀ {rows : List AV} {n : Nat}, Wide wd rows → flat (rows.take n) = (flat rows).take (n * wd)
  | [], n, _ => by simp [flat]
  | r :: rows, 0, _ => by simp [flat]
  | r :: rows, n + 1, h => by
    rw [List.take_succ_cons, flat_cons, flat_cons, flat_take h.tail.2, Nat.add_mul, Nat.one_mul, List.take_append, h.tail.1, List.take_of_length_le (l := cells r) (by rw [h.tail.1]; omega)]
    congr 2; omega
theorem flat_cut {wd : Nat} {rows : List AV} (h : Wide wd rows) {off len q : Nat} {c : AV} (hc : (flat ((rows.drop off).take len))[q]? = some c) : (flat rows)[off * wd + q]? = some c := by
  rw [flat_take (wd := wd) (h.sub fun r hr => List.mem_of_mem_drop hr), flat_drop h, List.getElem?_take] at hc
  split at hc
  · simpa using hc
  · cases hc

theorem Cv.rep {W W' : Nat → Prop} {μ μ' : Mu} {w : World} {m : Nat → MS} {ρ : Nat → Nat} {D F : Nat → Prop}
    (objs : ∀ t wd rows ro, m t = .live wd rows ro → ∃ B, μ t = some B ∧ ObjAt W μ w B wd rows ro)
    (hW : ∀ b, b < w.heap.size → W' b → W b) (hD : ∀ t, D t → μ' t = μ (ρ t)) (hF : ∀ s B, F s → μ s = some B → B.virt = false → ¬ W' B.b)
    {x y : AV} (h : Cv m ρ D F x y) : ∀ {v : Value}, Rep W μ w y v → Rep W' μ' w x v := by
  induction h with
  | any => intro v _; exact .any
  | same hx => intro v h; exact h.noRef hW hx
  | own ht =>
    intro v h
    cases h with
    | own a b c d e => exact .own (by rw [hD _ ht]; exact a) b c d e
    | ownNil a => exact .ownNil (by rw [hD _ ht]; exact a)
  | ptr ht =>
    intro v h
    cases h with
    | ptr a => exact .ptr (by rw [hD _ ht]; exact a)
  | nil => intro v h; cases h; exact .slNil
  | nilE => intro v h; cases h; exact .emp
  | empS => intro v h; cases h; exact .slNil
  | @frz s off len wd rows rows' ro hs hm hw hle hl hc ih =>
    intro v h
    obtain ⟨B, hB, hobj⟩ := objs s wd rows ro hm
    have hlen : (flat rows').length = (flat ((rows.drop off).take len)).length := by
      rw [flat_length hw, flat_length (wd := wd) (hobj.wide.sub fun r hr => List.mem_of_mem_drop (List.mem_of_mem_take hr)), hl, List.length_take, List.length_drop]
      congr 1; omega
    have key : ∀ (q : Nat) (c : AV), (flat rows')[q]? = some c → ∃ v, w.cell? ⟨B.b, B.o + off * B.wd + q, none⟩ = some v ∧ Rep W' μ' w c v := by
      intro q c hq
      have hql : q < (flat ((rows.drop off).take len)).length := by rw [← hlen]; exact (List.getElem?_eq_some_iff.1 hq).1
      obtain ⟨d, hd⟩ : ∃ d, (flat ((rows.drop off).take len))[q]? = some d := ⟨_, List.getElem?_eq_getElem hql⟩
      obtain ⟨v, h1, h2⟩ := hobj.cell _ d (flat_cut hobj.wide hd)
      refine ⟨v, ?_, ih q c d hq hd h2⟩
      rw [hobj.width, Nat.add_assoc]; exact h1
    cases h with
    | own a hv b c d =>
      rw [hB] at a; cases a
      have hne := hF s B hs hB hv
      have hlt : B.b < w.heap.size := by
        obtain ⟨C, e, fz, h3, _⟩ := hobj.blk hv
        exact (Array.getElem?_eq_some_iff.1 h3).1
      have key' : ∀ q, ∃ v, ∀ c, (flat rows')[q]? = some c → w.cell? ⟨B.b, B.o + off * B.wd + q, none⟩ = some v ∧ Rep W' μ' w c v := fun q => by
        cases hq : (flat rows')[q]? with
        | none => exact ⟨undef, by simp⟩
        | some c => obtain ⟨v, hv⟩ := key q c hq; exact ⟨v, fun c' h' => by cases h'; exact hv⟩
      obtain ⟨f, hf⟩ := Classical.skolem.1 key'
      exact .sl hne hlt hl.symm b hw (fun q c hq => (hf q c hq).1) (fun q c hq => (hf q c hq).2)
    | ownNil a =>
      have : rows' = [] := List.eq_nil_of_length_eq_zero hl
      subst this; exact .slNil
  | @frzp s i k wd rows ro r r' hs hm hr hw hc ih =>
    intro v h
    obtain ⟨B, hB, hobj⟩ := objs s wd rows ro hm
    have hv := hobj.real hr
    have hne := hF s B hs hB hv
    have hlt : B.b < w.heap.size := by
      obtain ⟨C, e, fz, h3, _⟩ := hobj.blk hv
      exact (Array.getElem?_eq_some_iff.1 h3).1
    have hrw := hobj.wide i r hr
    have key : ∀ (q : Nat) (c : AV), (Am.cells r')[q]? = some c → ∃ v, w.cell? ⟨B.b, B.o + i * B.wd + q, none⟩ = some v ∧ Rep W' μ' w c v := by
      intro q c hq
      have hql : q < (Am.cells r).length := by rw [hrw, ← hw]; exact (List.getElem?_eq_some_iff.1 hq).1
      obtain ⟨d, hd⟩ : ∃ d, (Am.cells r)[q]? = some d := ⟨_, List.getElem?_eq_getElem hql⟩
      obtain ⟨v, h1, h2⟩ := hobj.cell _ d (flat_get hobj.wide hr hd)
      refine ⟨v, ?_, ih q c d hq hd h2⟩
      rw [hobj.width, Nat.add_assoc]; exact h1
    cases h with
    | ptr a =>
      rw [hB] at a; cases a
      have key' : ∀ q, ∃ v, ∀ c, (Am.cells r')[q]? = some c → w.cell? ⟨B.b, B.o + i * B.wd + q, none⟩ = some v ∧ Rep W' μ' w c v := fun q => by
        cases hq : (Am.cells r')[q]? with
        | none => exact ⟨undef, by simp⟩
        | some c => obtain ⟨v, hv⟩ := key q c hq; exact ⟨v, fun c' h' => by cases h'; exact hv⟩
      obtain ⟨f, hf⟩ := Classical.skolem.1 key'
      rw [← Nat.add_assoc]
      exact .fptr hne hlt (fun q c hq => (hf q c hq).1) (fun q c hq => (hf q c hq).2)
  | agg hl hc ih =>
    intro v h
    cases h with
    | agg a b =>
      refine .agg (by rw [a, hl]) (fun j c v h1 h2 => ?_)
      have hj := (List.getElem?_eq_some_iff.1 h1).1
      rw [hl] at hj
      exact ih j c _ h1 (List.getElem?_eq_getElem hj) (b j _ v (List.getElem?_eq_getElem hj) h2)
  | tup hl hc ih =>
    intro v h
    cases h with
    | tup a b =>
      refine .tup (by rw [a, hl]) (fun j c v h1 h2 => ?_)
      have hj := (List.getElem?_eq_some_iff.1 h1).1
      rw [hl] at hj
      exact ih j c _ h1 (List.getElem?_eq_getElem hj) (b j _ v (List.getElem?_eq_getElem hj) h2)
  | clo hl1 hl2 hc1 hc2 ih1 ih2 =>
    intro v h
    cases h with
    | clo a a' b b' =>
      refine .clo (by rw [a, hl1]) (by rw [a', hl2]) (fun j c v h1 h2 => ?_) (fun j c v h1 h2 => ?_)
      · have hj := (List.getElem?_eq_some_iff.1 h1).1
        rw [hl1] at hj
        exact ih1 j c _ h1 (List.getElem?_eq_getElem hj) (b j _ v (List.getElem?_eq_getElem hj) h2)
      · have hj := (List.getElem?_eq_some_iff.1 h1).1
        rw [hl2] at hj
        exact ih2 j c _ h1 (List.getElem?_eq_getElem hj) (b' j _ v (List.getElem?_eq_getElem hj) h2)
end Go.Am
