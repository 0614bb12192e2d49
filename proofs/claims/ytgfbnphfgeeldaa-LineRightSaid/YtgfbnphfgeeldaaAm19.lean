/- From the reading of arguments as data to abstract values, and the end of a law. By an AI agent. -/
import Derived.Test.YtgfbnphfgeeldaaAm18
import Derived.ChangeArms
import Derived.ChangeSlices
import Derived.WideShapes
import Derived.WideKeyArgs
import Derived.ChangeSame
import Derived.WalkKit
import Derived.ProofKit
import Derived.OpenShut
namespace Go.Am
open Go Go.ChangeShapes Go.WideShapes

/-- Type t, of n cells, reads as some E a. -/
def Reads (P : Program) (t : TypeId) (n : Nat) {α : Type} (E : α → AV) (ok : α → Prop) : Prop :=
  P.cellsOf t = n ∧ (∀ a, (cells (E a)).length = n) ∧
  ∀ {H : Type} {enc : TypeId × Value → H} {w : World} {base : Nat} {sp : Nat → Bool} {held : Bool} {fuel : Nat} {cs : List Value} {x : DataW H × List MemPlace},
    DataW.trod enc P w base sp held fuel t cs = some x → cs.length = n ∧ ∃ a, ok a ∧ ∀ (W : Nat → Prop) (μ : Mu), (∀ b, ¬ W b) → ∀ (q : Nat) (c : AV) (v : Value), (cells (E a))[q]? = some c → cs[q]? = some v → Rep W μ w c v

section
variable {P : Program} {t e : TypeId} {n : Nat} {α β γ : Type} {E : α → AV} {ok : α → Prop}

theorem rep_one {W : Nat → Prop} {μ : Mu} {w : World} {x : AV} {u : Value} (hx : cells x = [x]) (h : Rep W μ w x u) : ∀ (q : Nat) (c : AV) (v : Value), (cells x)[q]? = some c → [u][q]? = some v → Rep W μ w c v := by
  intro q c v h1 h2
  rw [hx] at h1
  cases q with
  | zero => simp at h1 h2; subst h1; subst h2; exact h
  | succ q => simp at h1
theorem Reads.int {k : IntKind} (ht : P.underlying t = some (.int k)) (hc : P.cellsOf t = 1) : Reads P t 1 (fun n : Int => .lit (.int k n)) (fun n => (Lit.int k n).wf = true) :=
  ⟨hc, fun _ => rfl, fun h => by
    obtain ⟨n, rfl, rfl, hw⟩ := DataW.trod_int ht h
    exact ⟨rfl, n, hw, fun W μ _ => rep_one rfl .lit⟩⟩
theorem Reads.bool (ht : P.underlying t = some .bool) (hc : P.cellsOf t = 1) : Reads P t 1 (fun b : Bool => .lit (.bool b)) (fun _ => True) :=
  ⟨hc, fun _ => rfl, fun h => by
    obtain ⟨b, rfl, rfl⟩ := DataW.trod_bool ht h
    exact ⟨rfl, b, trivial, fun W μ _ => rep_one rfl .lit⟩⟩
theorem Reads.str (ht : P.underlying t = some .string) (hc : P.cellsOf t = 1) : Reads P t 1 (fun s : ByteArray => .lit (.string s)) (fun s => s.size ≤ maxLen) :=
  ⟨hc, fun _ => rfl, fun h => by
    obtain ⟨s, rfl, rfl, hw⟩ := DataW.trod_string ht h
    exact ⟨rfl, s, hw, fun W μ _ => rep_one rfl .lit⟩⟩

theorem cells?_get {w : World} {base : Nat} {a : Addr} {n : Nat} {cs : List Value} (h : w.cells? base a n = some cs) {j : Nat} {v : Value} (hj : cs[j]? = some v) : w.cell? (a.add j) = some v := by
  unfold World.cells? at h
  split at h
  · have hl : cs.length = n := by simpa using mapM_length h
    have hjn : j < n := by have := (List.getElem?_eq_some_iff.1 hj).1; omega
    have := mapM_get h (i := j) (x := j) (by simp [hjn])
    rw [this, hj]
  · cases h
where
  mapM_length {α β : Type} {f : α → Option β} : ∀ {l : List α} {r : List β}, l.mapM f = some r → r.length = l.length
    | [], r, h => by simp at h; subst h; rfl
    | x :: l, r, h => by
      rw [List.mapM_cons] at h
      simp only [bind, Option.bind_eq_some_iff, pure, Option.some.injEq] at h
      obtain ⟨y, _, ys, h2, rfl⟩ := h
      simp [mapM_length h2]
  mapM_get {α β : Type} {f : α → Option β} : ∀ {l : List α} {r : List β}, l.mapM f = some r → ∀ {i : Nat} {x : α}, l[i]? = some x → f x = r[i]?
    | [], r, h, i, x, hx => by simp at hx
    | y :: l, r, h, i, x, hx => by
      rw [List.mapM_cons] at h
      simp only [bind, Option.bind_eq_some_iff, pure, Option.some.injEq] at h
      obtain ⟨z, h1, ys, h2, rfl⟩ := h
      cases i with
      | zero => simp at hx; subst hx; simpa using h1
      | succ i => simpa using mapM_get h2 (by simpa using hx)

theorem Reads.slice (ht : P.underlying t = some (.slice e)) (hc : P.cellsOf t = 1) (he : Reads P e n E ok) (hn : 0 < n) :
    Reads P t 1 (fun l : List α => .sl n (l.map E)) (fun l => l.length ≤ maxLen ∧ ∀ x ∈ l, ok x) :=
  ⟨hc, fun _ => rfl, fun {H enc w base sp held fuel cs x} h => by
    rcases DataW.trod_slice ht h with ⟨rfl, rfl⟩ | ⟨a, len, cap, elems, rest, m, rfl, rfl, rfl, hb, hl, hm, hlen, hel, hsp, hns⟩
    · exact ⟨rfl, [], ⟨Nat.zero_le _, by simp⟩, fun W μ _ => rep_one rfl .slNil⟩
    · obtain ⟨ec, ew, er⟩ := he
      have each : ∀ i : Fin len, ∃ y : α × List Value, w.cells? base (a.add (i.1 * n)) n = some y.2 ∧ y.2.length = n ∧ ok y.1 ∧ ∀ (W : Nat → Prop) (μ : Mu), (∀ b, ¬ W b) → ∀ (q : Nat) (c : AV) (v : Value), (cells (E y.1))[q]? = some c → y.2[q]? = some v → Rep W μ w c v := by
        intro i
        have h1 := hel i.1 i.2
        rw [ec, List.getElem?_eq_getElem (by omega), Option.bind_eq_some_iff] at h1
        obtain ⟨cs', h2, h3⟩ := h1
        obtain ⟨h4, a', h5, h6⟩ := er h3
        exact ⟨(a', cs'), h2, h4, h5, h6⟩
      obtain ⟨f, hf⟩ := Classical.axiomOfChoice each
      refine ⟨rfl, List.ofFn fun i => (f i).1, ⟨by simp; omega, fun x hx => ?_⟩, fun W μ hW => rep_one rfl ?_⟩
      · obtain ⟨i, rfl⟩ := List.mem_ofFn.1 hx
        exact (hf i).2.2.1
      · cases len with
        | zero => simpa using Rep.slNil
        | succ len =>
          have hspot : a = ⟨a.block, a.off, none⟩ := by
            obtain ⟨h1, h2, _⟩ := hf ⟨0, Nat.succ_pos _⟩
            obtain ⟨v0, h3⟩ : ∃ v0, (f ⟨0, Nat.succ_pos _⟩).2[0]? = some v0 := ⟨_, List.getElem?_eq_getElem (by rw [h2]; exact hn)⟩
            have h4 := cells?_get h1 h3
            simp only [Nat.zero_mul] at h4
            have e1 : (a.add 0).add 0 = a := by simp [Addr.add]
            rw [e1] at h4
            unfold World.cell? at h4
            split at h4
            · split at h4
              · cases h4
              · rename_i hs
                cases a with
                | mk b o s =>
                  cases s with
                  | none => rfl
                  | some s => simp at hs
            · cases h4
          have hcell : ∀ (i : Fin (len + 1)) (j : Nat) (v : Value), (f i).2[j]? = some v → w.cell? ⟨a.block, a.off + (i.1 * n + j), none⟩ = some v := by
            intro i j v hv
            have := cells?_get (hf i).1 hv
            rw [hspot] at this
            have e2 : ((⟨a.block, a.off, none⟩ : Addr).add (i.1 * n)).add j = ⟨a.block, a.off + (i.1 * n + j), none⟩ := by
              have add_mk : ∀ (b o k : Nat), (⟨b, o, none⟩ : Addr).add k = ⟨b, o + k, none⟩ := fun b o k => by
                unfold Addr.add
                split
                · rename_i h0; rw [h0]; rfl
                · rfl
              rw [add_mk, add_mk, Nat.add_assoc]
            rw [e2] at this
            exact this
          rw [hspot]
          have wide : Wide n ((List.ofFn fun i => (f i).1).map E) := by
            refine .of_mem fun r hr => ?_
            obtain ⟨y, _, rfl⟩ := List.mem_map.1 hr
            exact ew y
          have key : ∀ (q : Nat) (c : AV), (flat ((List.ofFn fun i => (f i).1).map E))[q]? = some c → ∃ v, w.cell? ⟨a.block, a.off + q, none⟩ = some v ∧ Rep W μ w c v := by
            intro q c hq
            obtain ⟨i, k, r, rfl, h1, h2, h3⟩ := flat_at wide hq
            rw [List.getElem?_map] at h1
            cases h4 : (List.ofFn fun i => (f i).1)[i]? with
            | none => rw [h4] at h1; simp at h1
            | some y =>
              rw [h4] at h1
              simp only [Option.map_some, Option.some.injEq] at h1
              subst h1
              have hi : i < len + 1 := by simpa using (List.getElem?_eq_some_iff.1 h4).1
              have h5 : y = (f ⟨i, hi⟩).1 := by
                rw [List.getElem?_ofFn, dif_pos hi] at h4
                simpa using h4.symm
              subst h5
              obtain ⟨v6, h6⟩ : ∃ v6, (f ⟨i, hi⟩).2[k]? = some v6 := ⟨_, List.getElem?_eq_getElem (by rw [(hf ⟨i, hi⟩).2.1]; exact h3)⟩
              exact ⟨_, hcell ⟨i, hi⟩ k _ h6, (hf ⟨i, hi⟩).2.2.2 W μ hW k c _ h2 h6⟩
          have hblk : a.block < w.heap.size := by
            obtain ⟨h1, h2, _⟩ := hf ⟨0, Nat.succ_pos _⟩
            obtain ⟨v0, h3⟩ : ∃ v0, (f ⟨0, Nat.succ_pos _⟩).2[0]? = some v0 := ⟨_, List.getElem?_eq_getElem (by rw [h2]; exact hn)⟩
            have h4 := hcell ⟨0, Nat.succ_pos _⟩ 0 _ h3
            unfold World.cell? at h4
            split at h4
            · rename_i h5; exact (Array.getElem?_eq_some_iff.1 h5).1
            · cases h4
          refine .sl (f := fun q => (w.cell? ⟨a.block, a.off + q, none⟩).getD undef) (hW _) hblk (by simp) hl wide (fun q c hq => ?_) (fun q c hq => ?_)
          · obtain ⟨v, h1, _⟩ := key q c hq
            rw [h1]; rfl
          · obtain ⟨v, h1, h2⟩ := key q c hq
            rw [h1]; exact h2⟩

/-- Fields from cell k on. -/
def ReadsF (P : Program) (fs : List (Nat × TypeId)) (k n : Nat) {α : Type} (F : α → List AV) (ok : α → Prop) : Prop :=
  (∀ a, (F a).length = n) ∧
  ∀ {H : Type} {enc : TypeId × Value → H} {w : World} {base : Nat} {sp : Nat → Bool} {held : Bool} {fuel : Nat} {cs : List Value},
    (∀ f ∈ fs, ∃ x, DataW.trod enc P w base sp held fuel f.2 ((cs.drop f.1).take (P.cellsOf f.2)) = some x) →
      ∃ a, ok a ∧ ∀ (W : Nat → Prop) (μ : Mu), (∀ b, ¬ W b) → ∀ (q : Nat) (c : AV) (v : Value), (F a)[q]? = some c → cs[k + q]? = some v → Rep W μ w c v
theorem ReadsF.nil {k : Nat} : ReadsF P [] k 0 (fun _ : Unit => []) (fun _ => True) := ⟨fun _ => rfl, fun _ => ⟨(), trivial, fun W μ _ q c v h => by simp at h⟩⟩
theorem ReadsF.cons {fs : List (Nat × TypeId)} {k m : Nat} {F : β → List AV} {okF : β → Prop} (h : Reads P t n E ok) (hs : ReadsF P fs (k + n) m F okF) :
    ReadsF P ((k, t) :: fs) k (n + m) (fun p : α × β => cells (E p.1) ++ F p.2) (fun p => ok p.1 ∧ okF p.2) := by
  refine ⟨fun p => by simp [h.2.1, hs.1], fun {H enc w base sp held fuel cs} hf => ?_⟩
  obtain ⟨x, hx⟩ := hf (k, t) (by simp)
  rw [h.1] at hx
  obtain ⟨hl, a, h1, h2⟩ := h.2.2 hx
  obtain ⟨b, h3, h4⟩ := hs.2 (fun f hf' => hf f (by simp [hf']))
  refine ⟨(a, b), ⟨h1, h3⟩, fun W μ hW q c v hc hv => ?_⟩
  rw [List.getElem?_append] at hc
  rw [h.2.1] at hc
  split at hc
  · rename_i hq
    refine h2 W μ hW q c v hc ?_
    rw [List.getElem?_take, if_pos hq, List.getElem?_drop]
    exact hv
  · rename_i hq
    refine h4 W μ hW (q - n) c v hc ?_
    rw [← hv]
    congr 1
    omega
theorem Reads.struct {fs : Array Field} {l : List (Nat × TypeId)} {F : α → List AV} (ht : P.underlying t = some (.struct fs)) (hc : P.cellsOf t = n) (hf : fs.toList.map (fun f => (f.offset, f.type)) = l) (h : ReadsF P l 0 n F ok) : Reads P t n (fun a => .agg (F a)) ok := by
  refine ⟨hc, h.1, fun {H enc w base sp held fuel cs x} hx => ?_⟩
  obtain ⟨xs, m, rfl, rfl, hl, hxl, hall⟩ := DataW.trod_struct ht hx
  obtain ⟨a, h1, h2⟩ := h.2 (enc := enc) (w := w) (base := base) (sp := sp) (held := held) (fuel := m) (cs := cs) (fun f hfm => by
    rw [← hf] at hfm
    obtain ⟨g, hg, rfl⟩ := List.mem_map.1 hfm
    obtain ⟨i, hi⟩ := List.getElem?_of_mem hg
    have hi' : fs[i]? = some g := by simpa using hi
    have := hall i g hi'
    refine ⟨xs[i]'(by have := (Array.getElem?_eq_some_iff.1 hi').1; omega), ?_⟩
    rw [this, List.getElem?_eq_getElem])
  exact ⟨by rw [hl, hc], a, h1, fun W μ hW q c v hc' hv => h2 W μ hW q c v hc' (by simpa using hv)⟩
theorem Reads.conv {E' : β → AV} {ok' : β → Prop} (h : Reads P t n E ok) (g : α → β) (g' : β → α) (hE : ∀ a, E' (g a) = E a) (hg : ∀ b, E' b = E (g' b)) (hok : ∀ a, ok a → ok' (g a)) : Reads P t n E' ok' := by
  refine ⟨h.1, fun b => by rw [hg]; exact h.2.1 _, fun hx => ?_⟩
  obtain ⟨hl, a, h1, h2⟩ := h.2.2 hx
  exact ⟨hl, g a, hok a h1, by rw [hE]; exact h2⟩

/-- A parameter: of a struct type. -/
theorem Reads.topAgg {H : Type} {enc : TypeId × Value → H} {w : World} {base b0 : Nat} {r : Reach} {sp : Nat → Bool} {held : Bool} {v : Value} {d : DataW H} {ps : List MemPlace} {fs : Array Field} {F : α → List AV} (h : Reads P t n E ok) (hE : ∀ a, E a = .agg (F a))
    (ht : P.underlying t = some (.struct fs)) (hval : Value.okWide P w r b0 t v) (hd : DataW.Trod enc P w base sp held t v d ps) : ∃ a, ok a ∧ ∀ (W : Nat → Prop) (μ : Mu), (∀ b, ¬ W b) → Rep W μ w (E a) v := by
  obtain ⟨cs, rfl, hs⟩ := okWide_struct ht hval
  obtain ⟨fuel, hf⟩ := hd
  obtain ⟨hl, a, h1, h2⟩ := h.2.2 hf
  refine ⟨a, h1, fun W μ hW => ?_⟩
  have h3 := h2 W μ hW
  have hw := h.2.1 a
  rw [hE] at h3 hw ⊢
  have : Value.agg cs = .agg cs.toList.toArray := by simp
  rw [this]
  exact .agg (by simp only [cells] at hw; rw [hw]; exact hl) h3
/-- A parameter of one cell. -/
theorem Reads.topOne {H : Type} {enc : TypeId × Value → H} {w : World} {base : Nat} {sp : Nat → Bool} {held : Bool} {v : Value} {d : DataW H} {ps : List MemPlace} (h : Reads P t 1 E ok) (hE : ∀ a, cells (E a) = [E a])
    (hv : v.cells.toList = [v]) (hd : DataW.Trod enc P w base sp held t v d ps) : ∃ a, ok a ∧ ∀ (W : Nat → Prop) (μ : Mu), (∀ b, ¬ W b) → Rep W μ w (E a) v := by
  obtain ⟨fuel, hf⟩ := hd
  obtain ⟨hl, a, h1, h2⟩ := h.2.2 hf
  refine ⟨a, h1, fun W μ hW => h2 W μ hW 0 _ _ (by rw [hE]; rfl) (by rw [hv]; rfl)⟩

/-- What was there is as it was. -/
def Kept (w w' : World) : Prop := w'.os = w.os ∧ w'.output = w.output ∧ w.heap.size ≤ w'.heap.size ∧ ∀ b, b < w.heap.size → w'.heap[b]? = w.heap[b]?

theorem FnOK.law {f : FuncId} {args : List AV} {vs : List Value} {w : World} (h : FnOK P f [] args [] (.lit (.bool true))) (hr : ∀ (W : Nat → Prop) (μ : Mu), (∀ b, ¬ W b) → RepL W μ w args vs) :
    Calls P f vs.toArray w fun e w' => e = .returned (.bool true) ∧ Kept w w' := by
  have hW : ∀ b, ¬ Wr (fun _ => False) (fun _ => none) (objsOf []) b := by
    rintro b (h | ⟨t, B, wd, rows, _, h, _⟩)
    · exact h
    · cases h
  have hs : Sim 0 w (fun _ => False) (fun _ => none) (fun _ => none) (bare []) noAct w := by
    refine ⟨rfl, rfl, rfl, rfl, rfl, Nat.le_refl _, fun _ _ _ => rfl, fun _ h => h.elim, fun _ _ h => h, fun t => by simp [bare, objsOf], fun _ => .any, fun t wd rows ro h => ?_, fun t t' wd rows wd' rows' ro' B B' _ h => ?_, fun t wd rows ro B h => ?_⟩ <;> simp [bare, objsOf] at h
  refine (h w (fun _ => False) (fun _ => none) vs (fun _ _ => rfl) hs (hr _ _ hW)).mono ?_
  rintro e w' ⟨v, μ', rfl, hs', hv⟩
  cases hv
  refine ⟨rfl, hs'.os, hs'.output, hs'.hsize, fun b hb => hs'.keep b hb ?_⟩
  rintro ⟨t, B, h, _⟩
  cases h

theorem Kept.keptBut {w w' : World} (h : Kept w w') (may : MemPlace → Prop) : w.keptBut w' may := by
  refine ⟨h.1, h.2.1, fun i hi => ?_⟩
  rw [h.2.2.2 i hi]
  cases w.heap[i]? with
  | none => rfl
  | some o => cases o <;> simp
end
end Go.Am
