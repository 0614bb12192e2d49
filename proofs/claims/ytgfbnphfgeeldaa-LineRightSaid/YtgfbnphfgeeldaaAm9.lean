/- Effects of single operations, part 4. By an AI agent. -/
import Derived.Test.YtgfbnphfgeeldaaAm8
namespace Go.Am

section
variable {P : Program} {N : Nat} {σ : AState} {o : Oper}

theorem Grow.drawn {W : Nat → Prop} {μ : Mu} {w : World} (n : Nat) : Grow W μ w W μ { w with drawn := n } := ⟨Nat.le_refl _, fun _ _ _ => rfl, fun _ _ _ h => h, fun _ _ h => h, fun _ _ h => h⟩

theorem EffOK.append {y z : Operand} {t t2 e e2 : TypeId} {wd bytes : Nat} {i : TypeInfo} {zv : Value} {rows0 news : List AV} {k rd : List Nat} {tn : Nat}
    (ho : o.op = .call { callee := .builtin .append, args := #[y, z], argTypes := #[t, t2] }) (ht : TElem P t e wd bytes i zv) (ht2 : P.underlying t2 = some (.slice e2))
    (hb : Base σ wd (σ.eval y) rows0 k) (hx : Src σ wd (σ.eval z) news rd) (hone : oneL (flat news) = true) (hbytes : (rows0.length + news.length) * bytes ≤ 140737488355328) (h63 : rows0.length + news.length ≤ maxLen)
    (htn : σ.mem tn = .free) (hd : ∀ d, o.dst = some d → d < N) :
    EffOK P N o σ (tn :: (k ++ rd)) (.own tn 0 (rows0 ++ news).length) ((tn, .live wd (rows0 ++ news) false) :: k.map fun t => (t, .dead)) := by
  intro σ2 he2 hrd w0 W0 L μ a w K Q hs hK
  have hy := hs.eval y
  have hz := hs.eval z
  rw [he2 y (by simp [ho, Op.operands, Call.operands])] at hy
  rw [he2 z (by simp [ho, Op.operands, Call.operands])] at hz
  have htn2 : σ2.mem tn = .free := by rw [hrd tn (by simp)]; exact htn
  have hk2 : ∀ t ∈ k, σ2.mem t = σ.mem t := fun t h => hrd t (by simp [h])
  obtain ⟨bx, sCap, olds, ey, ry, wy, fy⟩ := hb.src.run (P := P) hk2 hs hy
  obtain ⟨ax, c, vnews, ez, rz, wz, fz⟩ := hx.run (P := P) (fun t h => hrd t (by simp [h])) hs hz
  have hwide : Wide wd (rows0 ++ news) := wy.append wz
  have hlen : (rows0 ++ news).length = rows0.length + news.length := List.length_append
  have hvl : vnews.length = news.length * wd := by rw [rz.1, flat_length wz]
  obtain ⟨run1, run2⟩ := append_run (ty := o.type) ht ht2 (w := w) (base := bx) (ax := ax) (sLen := rows0.length) (sCap := sCap) (n := news.length) (c := c) fy fz h63 hbytes
  have hexec : ∀ v w', (Builtin.append_ #[t, t2] o.type #[.slice bx rows0.length sCap, .slice ax news.length c]).run P w = .ok v w' → (execOp a.eval o).run P w = .ok (.value v) w' := by
    intro v w' h
    simp [execOp, ho, resolve, invoke, builtin, ey, ez, h]
  unfold Oper.wp
  by_cases hg : sCap < rows0.length + news.length
  · obtain ⟨cap, hcap, hrun⟩ := run2 hg
    rw [hexec _ _ hrun]
    have hdead := hs.drop (m' := updM σ2.mem (k.map fun t => (t, .dead))) (fun t => by
      rw [updM_dead]
      split
      · rename_i hm
        obtain ⟨rows, hr⟩ := hb.live t hm
        exact .inr (.inl ⟨rfl, by rw [hk2 t hm, hr]; intro h; cases h⟩)
      · exact .inl rfl)
    have htnk : tn ∉ k := fun h => by
      obtain ⟨rows, hr⟩ := hb.live tn h
      rw [htn] at hr; cases hr
    have hgr : Grow (Wr W0 μ σ2.mem) μ w (Wr W0 μ (updM σ2.mem (k.map fun t => (t, .dead)))) μ w := by
      refine ⟨Nat.le_refl _, fun _ _ _ => rfl, fun _ _ _ h => h, ?_, fun _ _ h => h⟩
      rintro b hb' (h | ⟨t, B, wd', rows, h1, h2, h3, h4⟩)
      · exact .inl h
      · rw [updM_dead] at h1
        split at h1
        · cases h1
        · exact .inr ⟨t, B, wd', rows, h1, h2, h3, h4⟩
    have hdr := hdead.drawn (w.drawn + 1)
    have hal := hdr.alloc (t := tn) (wd := wd) (rows := rows0 ++ news) (C := olds.toArray ++ vnews.toArray ++ Builtin.zeroCells zv.cells (cap - (rows0.length + news.length))) (e := e)
      (by show updM σ2.mem _ tn = .free; rw [updM_dead, if_neg htnk]; exact htn2) hwide
      (by
        have := ry.1
        rw [flat_length wy] at this
        simp only [Array.size_append, List.size_toArray, this, hvl, hlen, Nat.add_mul]
        omega)
      (fun q x hq => by
        rw [flat_append, List.getElem?_append] at hq
        have hcat := ry.append rz
        have hq' : (flat rows0 ++ flat news)[q]? = some x := by rw [List.getElem?_append]; exact hq
        have hlt := (List.getElem?_eq_some_iff.1 hq').1
        have hv : (olds ++ vnews)[q]? = some ((olds ++ vnews)[q]'(by rw [hcat.1]; exact hlt)) := List.getElem?_eq_getElem _
        refine ⟨(olds ++ vnews)[q]'(by rw [hcat.1]; exact hlt), ?_, ((hcat.2 q x _ hq' hv).grow hgr).grow (Grow.drawn _)⟩
        rw [Array.getElem?_append_left (by simp only [Array.size_append, List.size_toArray]; rw [← List.length_append, hcat.1]; exact hlt)]
        simp)
    refine hK _ _ _ (hal.put ?_ hd)
    have := Rep.own (W := Wr W0 (setMu μ tn ⟨w.heap.size, 0, wd, false⟩) (updM (updM σ2.mem (k.map fun t => (t, MS.dead))) [(tn, MS.live wd (rows0 ++ news) false)])) (μ := setMu μ tn ⟨w.heap.size, 0, wd, false⟩)
      (w := w.drew.alloc (.cells (olds.toArray ++ vnews.toArray ++ Builtin.zeroCells zv.cells (cap - (rows0.length + news.length))) e)) (t := tn) (off := 0) (len := (rows0 ++ news).length) (cap := cap) (e := e)
      (n := (olds.toArray ++ vnews.toArray ++ Builtin.zeroCells zv.cells (cap - (rows0.length + news.length))).size) (B := ⟨w.heap.size, 0, wd, false⟩)
      (by simp [setMu]) rfl (by rw [hlen]; exact hcap) (by simp only [World.shape?]; rw [show w.heap.size = w.drew.heap.size from rfl, heap_alloc_new])
      (by
        have h0 := ry.1
        rw [flat_length wy] at h0
        simp only [Array.size_append, List.size_toArray, h0, hvl, size_zeroCells, ht.zsize, ← Nat.add_mul, Nat.zero_add]
        exact Nat.mul_le_mul_right _ (by omega))
    rw [hlen] at this ⊢
    simpa using this
  · have hroom : rows0.length + news.length ≤ sCap := by omega
    have hrun := run1 hroom
    -- the base is an own slice with a block, or nothing is there at all
    have hcases : (∃ tk off rows B, k = [tk] ∧ σ2.mem tk = .live wd rows false ∧ μ tk = some B ∧ B.virt = false ∧ bx = some ⟨B.b, B.o + off * wd, none⟩ ∧ (∃ n e', w.shape? B.b = some (e', n) ∧ B.o + (off + sCap) * wd ≤ n) ∧
          (∀ (q : Nat) (x : AV), (flat rows0)[q]? = some x → (flat rows)[off * wd + q]? = some x) ∧ ObjAt (Wr W0 μ σ2.mem) μ w B wd rows false) ∨ (rows0 = [] ∧ news = [] ∧ sCap = 0) := by
      rw [ey] at hy
      have own : ∀ tk off len rows, σ.mem tk = .live wd rows false → k = [tk] → Rep (Wr W0 μ σ2.mem) μ w (.own tk off len) (.slice bx rows0.length sCap) → (∀ (q : Nat) (x : AV), (flat rows0)[q]? = some x → (flat rows)[off * wd + q]? = some x) →
          rows0.length = len → (∃ tk off rows B, k = [tk] ∧ σ2.mem tk = .live wd rows false ∧ μ tk = some B ∧ B.virt = false ∧ bx = some ⟨B.b, B.o + off * wd, none⟩ ∧ (∃ n e', w.shape? B.b = some (e', n) ∧ B.o + (off + sCap) * wd ≤ n) ∧
          (∀ (q : Nat) (x : AV), (flat rows0)[q]? = some x → (flat rows)[off * wd + q]? = some x) ∧ ObjAt (Wr W0 μ σ2.mem) μ w B wd rows false) ∨ (rows0 = [] ∧ news = [] ∧ sCap = 0) := by
        intro tk off len rows hm hk hr hfl hl
        have hm2 : σ2.mem tk = .live wd rows false := by rw [hk2 tk (by simp [hk])]; exact hm
        obtain ⟨B, hB, hobj⟩ := hs.objs tk wd rows false hm2
        generalize hbx : bx = bx' at hr
        generalize hn0 : rows0.length = n0 at hr hl
        cases hr with
        | own a1 av a2 a3 a4 =>
          rw [hB] at a1; cases a1
          exact .inl ⟨tk, off, rows, B, hk, hm2, hB, av, by rw [hobj.width], ⟨_, _, a3, by rw [← hobj.width]; exact a4⟩, hfl, hobj⟩
        | ownNil a1 =>
          refine .inr ⟨List.eq_nil_of_length_eq_zero hn0, List.eq_nil_of_length_eq_zero ?_, rfl⟩
          omega
      generalize hxv : σ.eval y = xv at hb hy
      cases hb with
      | @own tk off len rows hm hl =>
        have hm2 : σ2.mem tk = .live wd rows false := by rw [hk2 tk (by simp)]; exact hm
        obtain ⟨B, hB, hobj⟩ := hs.objs tk wd rows false hm2
        exact own tk off len rows hm rfl hy (fun q x hq => flat_cut hobj.wide hq) (by rw [List.length_take, List.length_drop]; omega)
      | @full tk len rows hm hl =>
        exact own tk 0 len rows0 hm rfl hy (fun q x hq => by simpa using hq) hl.symm
      | emp =>
        cases hy
        refine .inr ⟨rfl, by simpa using hroom, rfl⟩
      | nil =>
        cases hy
        refine .inr ⟨rfl, by simpa using hroom, rfl⟩
    rcases hcases with ⟨tk, off, rows, B, hk, hm2, hB, hv, hbx, ⟨n, e', hsh, hfit⟩, hfl, hobj⟩ | ⟨h1, h2, h3⟩
    · obtain ⟨C, e1, fz1, c1, c2, c3⟩ := hobj.blk hv
      rw [c2 rfl] at c1
      have hn : C.size = n := by simp [World.shape?, c1] at hsh; exact hsh.2
      have hmul : rows0.length * wd + news.length * wd ≤ sCap * wd := by rw [← Nat.add_mul]; exact Nat.mul_le_mul_right _ hroom
      rw [Nat.add_mul] at hfit
      have hst := run_storeCells_at (P := P) B.b (B.o + off * wd + rows0.length * wd) e1 vnews 0 C w c1 (by omega) (rz.one hone)
      rw [hbx] at hrun
      simp only [storeTo, Addr.add_lit, Nat.add_zero] at hrun hst
      rw [hst] at hrun
      simp only [Result.andThen_ok] at hrun
      rw [hexec _ _ (by rw [hbx]; exact hrun)]
      have hrows0 : ∀ (q : Nat) (x : AV), (flat rows0)[q]? = some x → ∃ v, C[B.o + off * wd + q]? = some v ∧ Rep (Wr W0 μ σ2.mem) μ w x v := fun q x hq => by
        obtain ⟨v, v1, v2⟩ := hobj.cell _ x (hfl q x hq)
        exact ⟨v, by rw [Nat.add_assoc]; simpa [World.cell?, c1] using v1, v2⟩
      have hl0 := flat_length wy
      have hCl : C.toList.length = C.size := Array.length_toList
      have hre := hs.reuse (tn := tn) (off := off) (rows' := rows0 ++ news) (C' := (C.toList.take (B.o + off * wd + rows0.length * wd) ++ vnews ++ C.toList.drop (B.o + off * wd + rows0.length * wd + vnews.length)).toArray) hm2 hB hv htn2 c1
        (by simp only [List.size_toArray, List.length_append, List.length_take, List.length_drop, hCl]; omega) hwide (by rw [hlen, Nat.add_mul]; omega)
        (fun q x hq => by
          rw [flat_append, List.getElem?_append] at hq
          split at hq
          · rename_i hql
            obtain ⟨v, v1, v2⟩ := hrows0 q x hq
            refine ⟨v, ?_, v2⟩
            simp only [List.getElem?_toArray]
            rw [List.append_assoc, List.getElem?_append_left (by rw [List.length_take, hCl]; omega), List.getElem?_take, if_pos (by omega)]
            simpa using v1
          · rename_i hql
            have hlt := (List.getElem?_eq_some_iff.1 hq).1
            have hv' : vnews[q - (flat rows0).length]? = some (vnews[q - (flat rows0).length]'(by rw [rz.1]; exact hlt)) := List.getElem?_eq_getElem _
            refine ⟨_, ?_, rz.2 _ x _ hq hv'⟩
            simp only [List.getElem?_toArray]
            rw [List.append_assoc, List.getElem?_append_right (by rw [List.length_take, hCl]; omega), List.length_take, hCl, Nat.min_eq_left (by omega), List.getElem?_append_left (by
              rw [rz.1]; omega), ← hv']
            congr 1; omega)
      subst hk
      refine hK _ _ _ (hre.put ?_ hd)
      have := Rep.own (W := Wr W0 (setMu μ tn ⟨B.b, B.o + off * wd, wd, false⟩) (updM σ2.mem [(tn, MS.live wd (rows0 ++ news) false), (tk, .dead)])) (μ := setMu μ tn ⟨B.b, B.o + off * wd, wd, false⟩)
        (w := w.setRow B.b (C.toList.take (B.o + off * wd + rows0.length * wd) ++ vnews ++ C.toList.drop (B.o + off * wd + rows0.length * wd + vnews.length)).toArray) (t := tn) (off := 0) (len := (rows0 ++ news).length) (cap := sCap) (e := e1)
        (n := C.size) (B := ⟨B.b, B.o + off * wd, wd, false⟩) (by simp [setMu]) rfl (by rw [hlen]; exact hroom)
        (by
          simp only [World.shape?, setRow_heap w B.b C _ e1 (0, 0) c1, Option.some.injEq, Prod.mk.injEq, true_and]
          simp only [List.size_toArray, List.length_append, List.length_take, List.length_drop, hCl]; omega) (by simp only [Nat.zero_add]; omega)
      rw [hlen] at this ⊢
      simpa using this
    · subst h1; subst h2; subst h3
      have hv0 : vnews = [] := List.eq_nil_of_length_eq_zero (by simpa using hvl)
      subst hv0
      have hrun' : (Builtin.append_ #[t, t2] o.type #[.slice bx 0 0, .slice ax 0 c]).run P w = .ok (.slice bx 0 0) w := by
        cases bx with
        | none => simpa [storeTo] using hrun
        | some ad => simpa [storeTo, storeCells] using hrun
      rw [hexec _ _ hrun']
      have hdead := hs.drop (m' := updM σ2.mem (k.map fun t => (t, .dead))) (fun t => by
        rw [updM_dead]
        split
        · rename_i hm
          obtain ⟨rows, hr⟩ := hb.live t hm
          exact .inr (.inl ⟨rfl, by rw [hk2 t hm, hr]; intro h; cases h⟩)
        · exact .inl rfl)
      have htnk : tn ∉ k := fun h => by
        obtain ⟨rows, hr⟩ := hb.live tn h
        rw [htn] at hr; cases hr
      have hal := hdead.allocVirt (t := tn) (wd := wd) (by show updM σ2.mem _ tn = .free; rw [updM_dead, if_neg htnk]; exact htn2)
      refine hK _ _ _ (hal.put (.ownNil (B := ⟨0, 0, wd, true⟩) (by simp [setMu])) hd)

/-- Literals: parts laid into cells. -/
def fillA (place : Nat → Option (Nat × Nat)) (cs : List AV) : List (Nat × AV) → Option (List AV)
  | [] => some cs
  | (i, x) :: rest =>
    match place i with
    | none => none
    | some (off, size) => if (cells x).length = size ∧ off + (cells x).length ≤ cs.length ∧ x.solid = true then fillA place (spliceL cs off (cells x)) rest else none

theorem fold_get {off : Nat} : ∀ (l : List Value) (n : Nat) (C : Array Value), off + n + l.length ≤ C.size →
    ((l.zipIdx n).foldl (fun cs (p : Value × Nat) => cs.setIfInBounds (off + p.2) p.1) C).toList = C.toList.take (off + n) ++ l ++ C.toList.drop (off + n + l.length)
  | [], n, C, h => by simp
  | v :: l, n, C, h => by
    simp only [List.zipIdx_cons, List.foldl_cons]
    simp only [List.length_cons] at h
    rw [fold_get l (n + 1) _ (by simp; omega)]
    have hlt : off + n < C.toList.length := by simp; omega
    apply List.ext_getElem?
    intro j
    simp only [Array.toList_setIfInBounds, List.length_cons, List.getElem?_append, List.length_append, List.length_take, List.length_set, List.getElem?_take, List.getElem?_drop, List.getElem?_set, List.getElem?_cons]
    rcases Nat.lt_trichotomy j (off + n) with hj | hj | hj
    · repeat' split
      all_goals first | rfl | omega | (congr 1; omega)
    · subst hj
      repeat' split
      all_goals first | rfl | omega | (congr 1; omega) | skip
    · repeat' split
      all_goals first | rfl | omega | (congr 1; omega) | skip

theorem fillA_run {W : Nat → Prop} {μ : Mu} {w : World} {place : Nat → Option (Nat × Nat)} : ∀ {ps : List (Nat × AV)} {vs : List (Nat × Value)} {cs cs' : List AV} {C : Array Value}, fillA place cs ps = some cs' → RepL W μ w cs C.toList →
    vs.length = ps.length → (∀ (j : Nat) (i : Nat) (x : AV), ps[j]? = some (i, x) → ∃ v, vs[j]? = some (i, v) ∧ Rep W μ w x v) → ∃ C', Instr.fill place C vs = some C' ∧ RepL W μ w cs' C'.toList
  | [], [], cs, cs', C, h, hc, _, _ => by simp [fillA] at h; subst h; exact ⟨C, rfl, hc⟩
  | [], v :: vs, _, _, _, _, _, hl, _ => by simp at hl
  | p :: ps, [], _, _, _, _, _, hl, _ => by simp at hl
  | (i, x) :: ps, (i', v) :: vs, cs, cs', C, h, hc, hl, hv => by
    obtain ⟨v0, h1, h2⟩ := hv 0 i x rfl
    simp at h1
    obtain ⟨rfl, rfl⟩ := h1
    simp only [fillA] at h
    simp only [Instr.fill]
    cases hp : place i' with
    | none => rw [hp] at h; cases h
    | some os =>
      obtain ⟨off, size⟩ := os
      rw [hp] at h
      simp only at h ⊢
      split at h
      · rename_i hcond
        obtain ⟨c1, c2, c3⟩ := hcond
        have hx := h2.cells c3
        have hsz : v.cells.size = (cells x).length := by rw [← hx.1]; simp
        have hC : C.size = cs.length := by rw [← hc.1]; simp
        have hnot : (decide (v.cells.size ≠ size) || decide (off + v.cells.size > C.size)) = false := by
          simp; constructor <;> omega
        rw [show (v.cells.size ≠ size || off + v.cells.size > C.size) = false from hnot]
        simp only [Bool.false_eq_true, if_false]
        refine fillA_run h ?_ (by simpa using hl) (fun j k y hj => by have := hv (j + 1) k y (by simpa using hj); simpa using this)
        have hfold : (v.cells.zipIdx.foldl (fun cs (p : Value × Nat) => cs.setIfInBounds (off + p.2) p.1) C).toList = C.toList.take off ++ v.cells.toList ++ C.toList.drop (off + v.cells.toList.length) := by
          rw [← Array.foldl_toList, Array.toList_zipIdx]
          exact fold_get (off := off) v.cells.toList 0 C (by simp; omega)
        show RepL W μ w (spliceL cs off (cells x)) (v.cells.zipIdx.foldl (fun cs (p : Value × Nat) => cs.setIfInBounds (off + p.2) p.1) C).toList
        rw [hfold]
        unfold spliceL
        have htake : RepL W μ w (cs.take off) (C.toList.take off) := ⟨by simp [hC], fun j c u a b => by
          rw [List.getElem?_take] at a b
          split at a
          · rename_i hj; rw [if_pos hj] at b; exact hc.2 j c u a b
          · cases a⟩
        have hdrop : RepL W μ w (cs.drop (off + (cells x).length)) (C.toList.drop (off + v.cells.toList.length)) := ⟨by simp [hC, hsz], fun j c u a b => by
          rw [List.getElem?_drop] at a b
          rw [hx.1] at b
          exact hc.2 _ c u a b⟩
        exact (htake.append hx).append hdrop
      · cases h

theorem RepL.anys {W : Nat → Prop} {μ : Mu} {w : World} {vs : List Value} {n : Nat} (h : vs.length = n) : RepL W μ w (List.replicate n .any) vs :=
  ⟨by simp [h], fun j c v a _ => by
    rw [List.getElem?_replicate] at a
    split at a
    · cases a; exact .any
    · cases a⟩

theorem parts_rep {W : Nat → Prop} {μ : Mu} {w : World} {σ2 : AState} {a : Act} {parts : Array (Nat × Operand)} (hev : ∀ x ∈ parts.toList.map (·.2), Rep W μ w (σ2.eval x) (a.eval x)) :
    ∀ (j : Nat) (i : Nat) (x : AV), (parts.toList.map fun p => (p.1, σ2.eval p.2))[j]? = some (i, x) → ∃ v, (parts.toList.map fun p => (p.1, a.eval p.2))[j]? = some (i, v) ∧ Rep W μ w x v := by
  intro j i x h
  rw [List.getElem?_map, Option.map_eq_some_iff] at h
  obtain ⟨p, h1, h2⟩ := h
  simp at h2
  obtain ⟨rfl, rfl⟩ := h2
  exact ⟨a.eval p.2, by rw [List.getElem?_map, h1]; rfl, hev _ (List.mem_map.2 ⟨p, List.mem_of_getElem? h1, rfl⟩)⟩

/-- A literal of a slice. -/
theorem EffOK.buildSlice {t e : TypeId} {len wd bytes : Nat} {i : TypeInfo} {zv : Value} {parts : Array (Nat × Operand)} {rows : List AV} {tk : Nat} (ho : o.op = .buildSlice t len parts) (ht : TElem P t e wd bytes i zv)
    (hsm : len * wd ≤ 2 ^ 24) (hr : rows.length = len) (hw : Wide wd rows) (hf : fillA (fun i => some (i * wd, wd)) (List.replicate (len * wd) .any) (parts.toList.map fun p => (p.1, σ.eval p.2)) = some (flat rows))
    (hfree : σ.mem tk = .free) (hd : ∀ d, o.dst = some d → d < N) : EffOK P N o σ [tk] (.own tk 0 rows.length) [(tk, .live wd rows false)] :=
  .new hfree hw (fun σ2 he2 w0 W0 L μ a w hs => by
    obtain ⟨h1, h2, h3, h4, h5, h6⟩ := ht
    have hops : o.op.operands = (parts.toList.map (·.2)).toArray := by rw [ho]; rfl
    have hmap : (parts.toList.map fun p => (p.1, σ.eval p.2)) = parts.toList.map fun p => (p.1, σ2.eval p.2) := List.map_congr_left fun p hp => by
      rw [he2 p.2 (by rw [hops]; simp; exact ⟨p.1, by simpa using hp⟩)]
    rw [hmap] at hf
    let Z : Array Value := if len * wd = 0 then #[] else zv.cells
    obtain ⟨C', f1, f2⟩ := fillA_run (W := Wr W0 μ σ2.mem) (μ := μ) (w := w) (C := (Array.range (len * wd)).map (Z[· % Z.size]!)) (vs := parts.toList.map fun p => (p.1, a.eval p.2)) hf (.anys (by simp)) (by simp) (parts_rep fun x _ => hs.eval x)
    have hC' : C'.size = rows.length * wd := by have := f2.1; rw [flat_length hw] at this; simpa using this
    refine ⟨C', e, .slice (some ⟨w.heap.size, 0, none⟩) rows.length len, w.drawn, ?_, by omega, fun q c hq => ?_, .inr ⟨len, rfl, rfl, by omega, by rw [hC', hr]; exact Nat.le_refl _⟩⟩
    · have hsize : (sizeOf e).run P w = .ok wd w := by simp [sizeOf, typeInfo, h2, h3]
      have hpm : (parts.map fun (i, x) => (i, a.eval x)).toList = parts.toList.map fun p => (p.1, a.eval p.2) := by simp
      simp only [execOp, ho, Instr.buildSlice, Sem.run_bind, run_underlying h1, Result.andThen_ok, hsize]
      rw [if_neg (by omega)]
      by_cases hz0 : len * wd = 0
      · have hZ : Z = #[] := if_pos hz0
        rw [hZ] at f1
        simp only [hz0, Array.range_zero', Array.map_empty] at f1
        simp only [hz0, if_true, Array.range_zero', Array.map_empty, pure_bind, hpm, f1]
        simp [newRow, hr]
      · have hZ : Z = zv.cells := if_neg hz0
        rw [hZ] at f1
        simp only [hz0, if_false, Sem.run_bind, zeroValue, typeInfo, run_program, Result.andThen_ok, h2, h5, Sem.run_pure, hpm, f1]
        simp [newRow, hr]
    · have hlt := (List.getElem?_eq_some_iff.1 hq).1
      have hv : C'.toList[q]? = some (C'.toList[q]'(by rw [f2.1]; exact hlt)) := List.getElem?_eq_getElem _
      exact ⟨_, by rw [← Array.getElem?_toList]; exact hv, f2.2 q c _ hq hv⟩) hd

/-- A literal of a struct or an array. -/
def TBuild (P : Program) (t : TypeId) (zero : Array Value) (place : Nat → Option (Nat × Nat)) : Prop :=
  ∀ parts w, (Instr.build t parts).run P w = match Instr.fill place zero parts.toList with
    | some cells => .ok (.agg cells) w
    | none => (Instr.build t parts).run P w
theorem EffOK.build {t : TypeId} {zero : Array Value} {place : Nat → Option (Nat × Nat)} {parts : Array (Nat × Operand)} {cs : List AV} (ho : o.op = .build t parts) (ht : TBuild P t zero place)
    (hf : fillA place (zero.toList.map .lit) (parts.toList.map fun p => (p.1, σ.eval p.2)) = some cs) (hd : ∀ d, o.dst = some d → d < N) : EffOK P N o σ [] (.agg cs) [] :=
  .val (fun σ2 he2 hrd w0 W0 L μ a w hs => by
    have hops : o.op.operands = (parts.toList.map (·.2)).toArray := by rw [ho]; rfl
    have hmap : (parts.toList.map fun p => (p.1, σ.eval p.2)) = parts.toList.map fun p => (p.1, σ2.eval p.2) := List.map_congr_left fun p hp => by
      rw [he2 p.2 (by rw [hops]; simp; exact ⟨p.1, by simpa using hp⟩)]
    rw [hmap] at hf
    obtain ⟨C', f1, f2⟩ := fillA_run (W := Wr W0 μ σ2.mem) (μ := μ) (w := w) (C := zero) (vs := parts.toList.map fun p => (p.1, a.eval p.2)) hf (.lits _) (by simp) (parts_rep fun x _ => hs.eval x)
    have hpm : (parts.map fun (i, x) => (i, a.eval x)).toList = parts.toList.map fun p => (p.1, a.eval p.2) := by simp
    have := ht (parts.map fun (i, x) => (i, a.eval x)) w
    rw [hpm, f1] at this
    refine ⟨.agg C', by simp only [execOp, ho, Sem.run_bind, this, Result.andThen_ok, Sem.run_pure], ?_⟩
    have := Rep.agg (W := Wr W0 μ σ2.mem) (μ := μ) (w := w) f2.1 f2.2
    simpa using this) hd
end
end Go.Am
