/- The walk of the law DeskTells. By an AI agent. -/
import Derived.Test.YtknhlflmhonpfaaDoorEI
section
set_option linter.unusedSimpArgs false
set_option linter.unusedVariables false
namespace Go.Proofs.DeskD
open Go.Am Go.RowKit Go.Lib
set_option maxRecDepth 100000
structure TellM where
  kind : UInt8
  name : UInt8
  cls : UInt8
@[reducible] def eTell (d : TellM) : AV := .agg [.lit (.int .u8 (d.kind.toNat : Int)), .lit (.int .u8 (d.name.toNat : Int)), .lit (.int .u8 (d.cls.toNat : Int))]
def oTell (d : TellM) : AV := eTell d
@[reducible] def eTells (l : List TellM) : AV := .sl 3 (l.map oTell)
theorem tell_get {l : List TellM} {k : Nat} {d : TellM} (h : l[k]? = some d) : (l.map oTell)[k]? = some (eTell d) := by rw [List.getElem?_map, h]; rfl
def oBool (b : Bool) : AV := .lit (.bool b)
def defR (l : List DefM) : List AV := (List.range 6).map fun j => oBool (decide (0 ≤ posN l (xk j)))
def useR (l : List DefM) : List AV := (List.range 12).map fun (j : Nat) => oBool (decide (0 ≤ posC l (j : Int)))
theorem range_get {n k : Nat} (h : k < n) : (List.range n)[k]? = some k := by rw [List.getElem?_range h]
theorem defR_get {l : List DefM} {k : Nat} (h : k < 6) : (defR l)[k]? = some (eBool (decide (0 ≤ posN l (xk k)))) := by unfold defR; rw [List.getElem?_map, range_get h]; rfl
theorem useR_get {l : List DefM} {k : Nat} (h : k < 12) : (useR l)[k]? = some (eBool (decide (0 ≤ posC l (k : Int)))) := by unfold useR; rw [List.getElem?_map, range_get h]; rfl
theorem set_rangeN {n : Nat} {g g' : Nat → AV} {k : Nat} {x : AV} (hk : g' k = x) (h : ∀ j, j < n → j ≠ k → g' j = g j) : ((List.range n).map g).set k x = (List.range n).map g' := by
  apply List.ext_getElem?
  intro j
  by_cases hj : j = k
  · subst hj
    by_cases hl : j < n
    · simp [hl, hk]
    · simp [hl]
  · rw [List.getElem?_set_ne (by omega), List.getElem?_map, List.getElem?_map]
    by_cases hl : j < n
    · rw [range_get hl]; simp [h j hl hj]
    · simp [hl]
theorem defR_set {l : List DefM} {k : Nat} {base : ByteArray} {c : Int} (hk : k < 6) : (defR l).set k (eBool true) = defR (l ++ [newD (xk k) base c]) :=
  set_rangeN (g' := fun j => oBool (decide (0 ≤ posN (l ++ [newD (xk k) base c]) (xk j)))) (by
    have : 0 ≤ posN (l ++ [newD (xk k) base c]) (xk k) := posN_pos (x := newD (xk k) base c) (by simp)
    rw [decide_eq_true this]; rfl) fun j hj hn => by
    rw [posN_snoc _ _ _ (fun e => hn (xk_inj k hk j hj e).symm)]
theorem useR_set {l : List DefM} {k : Nat} {s base : ByteArray} : (useR l).set k (eBool true) = useR (l ++ [newD s base (k : Int)]) :=
  set_rangeN (g' := fun (j : Nat) => oBool (decide (0 ≤ posC (l ++ [newD s base (k : Int)]) (j : Int)))) (by
    have : 0 ≤ posC (l ++ [newD s base (k : Int)]) (k : Int) := posC_pos (x := newD s base (k : Int)) (by simp)
    rw [decide_eq_true this]; rfl) fun j hj hn => by
    rw [posC_snoc _ _ _ (fun e => hn (by have : (k : Int) = (j : Int) := e; omega))]
theorem noRef_mapB {α : Type} {g : α → AV} (h : ∀ a, noRef (g a) = true) (l : List α) : noRefL (l.map g) = true := by
  rw [noRefL_iff]; intro x hx
  obtain ⟨a, _, rfl⟩ := List.mem_map.1 hx
  exact h a
theorem noRef_def (l : List DefM) : noRefL (defR l) = true := noRef_mapB (fun _ => rfl) _
theorem noRef_use (l : List DefM) : noRefL (useR l) = true := noRef_mapB (fun _ => rfl) _
theorem defR_nil : defR [] = [.lit (.bool false), .lit (.bool false), .lit (.bool false), .lit (.bool false), .lit (.bool false), .lit (.bool false)] := rfl
theorem useR_nil : useR [] = [.lit (.bool false), .lit (.bool false), .lit (.bool false), .lit (.bool false), .lit (.bool false), .lit (.bool false), .lit (.bool false), .lit (.bool false), .lit (.bool false), .lit (.bool false), .lit (.bool false), .lit (.bool false)] := rfl
theorem byte_x {k : Nat} (hk : k < 6) : IntKind.u8.wrap (97 + (k : Int)) = ((UInt8.ofNat (97 + k)).toNat : Int) := by
  rw [wrap8 (by omega)]; simp; omega
theorem bytes_tri {x y z : UInt8} {c : Int} (h : c = (z.toNat : Int)) : ∀ (i : Nat) (e : UInt8), [x, y, z][i]? = some e → (flat [AV.lit (Value.int IntKind.u8 (x.toNat : Int)), AV.lit (Value.int IntKind.u8 (y.toNat : Int)), AV.lit (Value.int IntKind.u8 c)])[0 + i]? = some (.lit (.int .u8 e.toNat)) := by
  intro i e hc
  match i with
  | 0 => cases hc; rfl
  | 1 => cases hc; rfl
  | 2 => cases hc; rw [h]; rfl
  | i + 3 => simp at hc
theorem refl_of {rows rows' : List AV} {tab : List (Nat × Nat)} {fz : Nat → Bool} {m : ML} {n : Nat} (h : rows' = rows) (hr : noRefL rows' = true) : ObjK (MF tab fz m n) rows' rows := by subst h; exact ⟨.refl hr, hr⟩
theorem LoopK.ghostTo {P : Program} {N nL : Nat} {sl : SL} {m m' : ML} {c : Code} {Q : Exit → SL → ML → Prop} (d0 tb t wdt i j : Nat) (r r' : AV) {i0 k0 wd : Nat} {rows : List AV} {ro : Bool} (hp : lkS sl d0 = .ptr tb i0 k0) (hm : lkM m tb = .live wd rows ro) (hr : rows[i]? = some r) (hj : (cells r)[j]? = some (.lit (.slice none 0 0)))
    (hcell : cells r' = (cells r).set j (.own t 0 0)) (ht : lkM m t = .free) (he : putMB tb (.live wd (rows.set i r') ro) (putMB t (.live wdt [] false) m) = m') (hc : LoopK P N nL sl m' (c := c) (Q := Q)) : LoopK P N nL sl m (c := c) (Q := Q) := by
  subst he; exact LoopK.ghostRow d0 tb t wdt i j r r' hp hm hr hj hcell ht hc
theorem NextG.ghostTo {P : Program} {ι : Type} {sl : SL} {m m' : ML} {nL : Nat} {S : ι → SL} {M : ι → ML} {I : ι → Prop} {μ : ι → Nat} {x : ι} (d0 tb t wdt i j : Nat) (r r' : AV) {i0 k0 wd : Nat} {rows : List AV} {ro : Bool} (hp : lkS sl d0 = .ptr tb i0 k0) (hm : lkM m tb = .live wd rows ro) (hr : rows[i]? = some r) (hj : (cells r)[j]? = some (.lit (.slice none 0 0)))
    (hcell : cells r' = (cells r).set j (.own t 0 0)) (ht : lkM m t = .free) (he : putMB tb (.live wd (rows.set i r') ro) (putMB t (.live wdt [] false) m) = m') (hc : NextG P sl m' (nL := nL) (S := S) (M := M) (I := I) (μ := μ) (i := x)) : NextG P sl m (nL := nL) (S := S) (M := M) (I := I) (μ := μ) (i := x) := by
  subst he; exact NextG.ghostRow d0 tb t wdt i j r r' hp hm hr hj hcell ht hc
theorem Fit.byTab {nL : Nat} {sl sl' : SL} {m m' : ML} (tab : List (Nat × Nat)) (h : tabOf (pairS m' m sl sl') m' = tab) (h1 : nodupR tab = true ∧ lentB m tab nL = true) (h2 : FitS tab (notIn tab) m sl sl') (h3 : FitM tab (notIn tab) m m') : Fit nL sl m sl' m' := by
  subst h; exact ⟨h1, h2, h3⟩
theorem nodup_leI : ∀ (n : Nat) (o : List Int), o.Nodup → (∀ k ∈ o, 0 ≤ k ∧ k < n) → o.length ≤ n
  | 0, o, _, h => by
    cases o with
    | nil => simp
    | cons x r => have := h x (by simp); omega
  | n + 1, o, hn, h => by
    have h1 := nodup_leI n (o.erase (n : Int)) (hn.erase _) fun k hk => by
      have := (hn.mem_erase_iff).1 hk
      have := h k this.2
      omega
    have h2 : o.length ≤ (o.erase (n : Int)).length + 1 := by rw [List.length_erase]; split <;> omega
    omega
theorem tell_len {d : DeskM} {i : Nat} (h : TellInv d i) (hi : i ≤ 60) : d.defs.length ≤ 12 ∧ d.waits.length ≤ 60 := by
  obtain ⟨r1, r2, r3, r4⟩ := rightD_iff.1 h.right
  obtain ⟨g1, g2, g3⟩ := defsB_iff.1 r1
  obtain ⟨w1, w2⟩ := (waitsB_iff _ _ _ _).1 r2
  refine ⟨?_, ?_⟩
  · have := nodup_leI 12 (d.defs.map DefM.cls) g3 (fun c hc => by
      obtain ⟨x, hx, rfl⟩ := List.mem_map.1 hc
      obtain ⟨_, _, a, b⟩ := goodD_facts (g1 x hx)
      exact ⟨a, by omega⟩)
    simpa using this
  · have hn := tickets_nodup h.right
    have := nodup_leI 60 (d.waits.map WaitM.ticket) hn (fun c hc => by
      obtain ⟨x, hx, rfl⟩ := List.mem_map.1 hc
      obtain ⟨_, _, a, b⟩ := w1 x hx
      have := h.next
      exact ⟨by omega, by omega⟩)
    simpa using this
theorem sumT_small (ws : List WaitM) : ∀ (k : Nat), (∀ j, (toldW ws (xk j)).length ≤ 60) → k ≤ 6 → sumT ws k ≤ k * 60
  | 0, _, _ => by simp [sumT]
  | k + 1, h, hk => by
    have := sumT_small ws k h (by omega)
    have := h k
    simp only [sumT]
    omega
set_option maxHeartbeats 64000000 in
/-- DeskTells -/
theorem f6_ok (L : List TellM) : FnOK Tryd.prog 6 [] [eTells L] [] (eBool true) := by
  have hlm : (L.map oTell).length = L.length := List.length_map ..
  refine FnOK.startC (rvs := [.tmp 2]) G G_good Tryd.func6 rfl Tryd.ntmps6 rfl rfl ?_; delta List.toArray; ((with_reducible conv => whnf); (with_reducible conv => congr <;> reduce); repeat ((first | (with_reducible refine HaltK.mk ?_) | (with_reducible refine StopK.mk ?_)); (with_reducible conv => whnf); (with_reducible conv => congr <;> reduce)))
  refine CallK.lit [] f8_ok c8 trivial rfl rfl ?_; ((with_reducible conv => whnf); (with_reducible conv => congr <;> reduce); repeat ((first | (with_reducible refine HaltK.mk ?_) | (with_reducible refine StopK.mk ?_)); (with_reducible conv => whnf); (with_reducible conv => congr <;> reduce)))
  refine IfK.ff ?_; ((with_reducible conv => whnf); (with_reducible conv => congr <;> reduce); repeat ((first | (with_reducible refine HaltK.mk ?_) | (with_reducible refine StopK.mk ?_)); (with_reducible conv => whnf); (with_reducible conv => congr <;> reduce)))
  refine LoopK.ghostRow 4 40 901 1 0 0 (.agg [.lit (.slice none 0 0), .lit (.slice none 0 0), .lit (.slice none 0 0), .lit (.slice none 0 0), .lit (.slice none 0 0), .lit (.slice none 0 0)]) (.agg [.own 901 0 0, .lit (.slice none 0 0), .lit (.slice none 0 0), .lit (.slice none 0 0), .lit (.slice none 0 0), .lit (.slice none 0 0)]) rfl rfl rfl rfl rfl rfl ?_
  refine LoopK.ghostRow 4 40 902 1 0 1 (.agg [.own 901 0 0, .lit (.slice none 0 0), .lit (.slice none 0 0), .lit (.slice none 0 0), .lit (.slice none 0 0), .lit (.slice none 0 0)]) (.agg [.own 901 0 0, .own 902 0 0, .lit (.slice none 0 0), .lit (.slice none 0 0), .lit (.slice none 0 0), .lit (.slice none 0 0)]) rfl rfl rfl rfl rfl rfl ?_
  refine LoopK.ghostRow 4 40 903 1 0 2 (.agg [.own 901 0 0, .own 902 0 0, .lit (.slice none 0 0), .lit (.slice none 0 0), .lit (.slice none 0 0), .lit (.slice none 0 0)]) (.agg [.own 901 0 0, .own 902 0 0, .own 903 0 0, .lit (.slice none 0 0), .lit (.slice none 0 0), .lit (.slice none 0 0)]) rfl rfl rfl rfl rfl rfl ?_
  refine LoopK.ghostRow 4 40 904 1 0 3 (.agg [.own 901 0 0, .own 902 0 0, .own 903 0 0, .lit (.slice none 0 0), .lit (.slice none 0 0), .lit (.slice none 0 0)]) (.agg [.own 901 0 0, .own 902 0 0, .own 903 0 0, .own 904 0 0, .lit (.slice none 0 0), .lit (.slice none 0 0)]) rfl rfl rfl rfl rfl rfl ?_
  refine LoopK.ghostRow 4 40 905 1 0 4 (.agg [.own 901 0 0, .own 902 0 0, .own 903 0 0, .own 904 0 0, .lit (.slice none 0 0), .lit (.slice none 0 0)]) (.agg [.own 901 0 0, .own 902 0 0, .own 903 0 0, .own 904 0 0, .own 905 0 0, .lit (.slice none 0 0)]) rfl rfl rfl rfl rfl rfl ?_
  refine LoopK.ghostRow 4 40 906 1 0 5 (.agg [.own 901 0 0, .own 902 0 0, .own 903 0 0, .own 904 0 0, .own 905 0 0, .lit (.slice none 0 0)]) (.agg [.own 901 0 0, .own 902 0 0, .own 903 0 0, .own 904 0 0, .own 905 0 0, .own 906 0 0]) rfl rfl rfl rfl rfl rfl ?_
  simp only [List.set_cons_zero]; ((with_reducible conv => whnf); (with_reducible conv => congr <;> reduce); repeat ((first | (with_reducible refine HaltK.mk ?_) | (with_reducible refine StopK.mk ?_)); (with_reducible conv => whnf); (with_reducible conv => congr <;> reduce)))
  refine LoopK.useG G G_good (fun (i : Nat × DeskM) => [(0, eTells L), (3, .ptr 30 0 0), (4, .ptr 40 0 0), (5, .ptr 51 0 0), (6, .ptr 61 0 0), (7, eInt i.2.next), (8, eInt i.1)]) (fun i => [(30, .live 4 [eDesk i.2] false), (40, .live 6 [.agg [.own 901 0 (toldW i.2.waits (xk 0)).length, .own 902 0 (toldW i.2.waits (xk 1)).length, .own 903 0 (toldW i.2.waits (xk 2)).length, .own 904 0 (toldW i.2.waits (xk 3)).length, .own 905 0 (toldW i.2.waits (xk 4)).length, .own 906 0 (toldW i.2.waits (xk 5)).length]] false), (51, .live 1 (defR i.2.defs) false), (61, .live 1 (useR i.2.defs) false), (901, .live 1 ((toldW i.2.waits (xk 0)).map oInt) false), (902, .live 1 ((toldW i.2.waits (xk 1)).map oInt) false), (903, .live 1 ((toldW i.2.waits (xk 2)).map oInt) false), (904, .live 1 ((toldW i.2.waits (xk 3)).map oInt) false), (905, .live 1 ((toldW i.2.waits (xk 4)).map oInt) false), (906, .live 1 ((toldW i.2.waits (xk 5)).map oInt) false)]) (fun i => i.1 ≤ L.length ∧ i.1 ≤ 60 ∧ TellInv i.2 i.1) (fun i => L.length - i.1) (0, ⟨[], [], 0, false⟩) ⟨Nat.zero_le _, Nat.zero_le _, .first⟩
    ⟨⟨rfl, rfl⟩, ⟨rfl, ⟨rfl, rfl⟩, ⟨rfl, rfl⟩, ⟨rfl, rfl⟩, ⟨rfl, rfl⟩, rfl, rfl, trivial⟩, ⟨⟨.inr (.inr ⟨3, rfl⟩), .inr (.inr ⟨2, rfl⟩), rfl, rfl, trivial⟩, trivial⟩, ⟨⟨⟨rfl, rfl⟩, ⟨rfl, rfl⟩, ⟨rfl, rfl⟩, ⟨rfl, rfl⟩, ⟨rfl, rfl⟩, ⟨rfl, rfl⟩, trivial⟩, trivial⟩, refl_of defR_nil (noRef_def _), refl_of useR_nil (noRef_use _), ⟨.refl rfl, rfl⟩, ⟨.refl rfl, rfl⟩, ⟨.refl rfl, rfl⟩, ⟨.refl rfl, rfl⟩, ⟨.refl rfl, rfl⟩, ⟨.refl rfl, rfl⟩, trivial⟩ ?_
  rintro ⟨i, ⟨l, ws, nx, bz⟩⟩ ⟨hi, hi60, hT⟩
  simp only at hi hi60
  obtain ⟨hl12, hw60⟩ := tell_len hT hi60
  simp only at hl12 hw60
  have hM : SmallD ⟨l, ws, nx, bz⟩ := ⟨by show l.length ≤ 100000; omega, by show ws.length ≤ 100000; omega⟩
  have hR := hT.right
  have hnx : 0 ≤ nx ∧ nx ≤ 100000 := (rightD_iff.1 hR).2.2
  have hlen : ∀ j, (toldW ws (xk j)).length ≤ 60 := fun j => Nat.le_trans (told_le ws (xk j)) hw60
  ((with_reducible conv => whnf); (with_reducible conv => congr <;> reduce); repeat ((first | (with_reducible refine HaltK.mk ?_) | (with_reducible refine StopK.mk ?_)); (with_reducible conv => whnf); (with_reducible conv => congr <;> reduce)))
  refine IfK.mk (fun h1 => ?_) (fun h1 => ?_) <;> (try simp only [castN] at h1) <;> ((with_reducible conv => whnf); (with_reducible conv => congr <;> reduce); repeat ((first | (with_reducible refine HaltK.mk ?_) | (with_reducible refine StopK.mk ?_)); (with_reducible conv => whnf); (with_reducible conv => congr <;> reduce)))
  · simp only [hlm, decide_eq_true_eq] at h1
    have hi' : i < L.length := by omega
    refine IfK.mk (fun h2 => ?_) (fun h2 => ?_) <;> (try simp only [castN] at h2) <;> ((with_reducible conv => whnf); (with_reducible conv => congr <;> reduce); repeat ((first | (with_reducible refine HaltK.mk ?_) | (with_reducible refine StopK.mk ?_)); (with_reducible conv => whnf); (with_reducible conv => congr <;> reduce)))
    · simp only [decide_eq_true_eq] at h2
      have hi59 : i < 60 := by omega
      obtain ⟨⟨dk, dn, dc⟩, hd⟩ : ∃ d, L[i]? = some d := ⟨_, List.getElem?_eq_getElem hi'⟩
      have bk := UInt8.toNat_lt dk
      have bn := UInt8.toNat_lt dn
      have bc := UInt8.toNat_lt dc
      have hbn : 0 ≤ (dn.toNat : Int) ∧ (dn.toNat : Int) < 256 := by omega
      have hbk : 0 ≤ (dk.toNat : Int) ∧ (dk.toNat : Int) < 256 := by omega
      have hbc : 0 ≤ (dc.toNat : Int) ∧ (dc.toNat : Int) < 256 := by omega
      refine IdxK.mk i (eTell ⟨dk, dn, dc⟩) rfl (tell_get hd) ?_; ((with_reducible conv => whnf); (with_reducible conv => congr <;> reduce); repeat ((first | (with_reducible refine HaltK.mk ?_) | (with_reducible refine StopK.mk ?_)); (with_reducible conv => whnf); (with_reducible conv => congr <;> reduce)))
      refine ConvK.int (by kernel_rfl) (by kernel_rfl) (wrap_u8 hbn) ?_; ((with_reducible conv => whnf); (with_reducible conv => congr <;> reduce); repeat ((first | (with_reducible refine HaltK.mk ?_) | (with_reducible refine StopK.mk ?_)); (with_reducible conv => whnf); (with_reducible conv => congr <;> reduce)))
      refine HandK.rem hbn.1 (by decide) rfl rfl rfl rfl ?_; ((with_reducible conv => whnf); (with_reducible conv => congr <;> reduce); repeat ((first | (with_reducible refine HaltK.mk ?_) | (with_reducible refine StopK.mk ?_)); (with_reducible conv => whnf); (with_reducible conv => congr <;> reduce)))
      obtain ⟨k, hk0, hk⟩ : ∃ k : Nat, (dn.toNat : Int) % 6 = (k : Int) ∧ k < 6 := ⟨dn.toNat % 6, by omega, by omega⟩
      rw [hk0]
      have hk8 : 0 ≤ (k : Int) ∧ (k : Int) < 256 := by omega
      refine ConvK.int (by kernel_rfl) (by kernel_rfl) (wrap8 hk8) ?_; ((with_reducible conv => whnf); (with_reducible conv => congr <;> reduce); repeat ((first | (with_reducible refine HaltK.mk ?_) | (with_reducible refine StopK.mk ?_)); (with_reducible conv => whnf); (with_reducible conv => congr <;> reduce)))
      refine BytesK.mk (e := 5) [120, 45, UInt8.ofNat (97 + k)] (by kernel_rfl) (by kernel_rfl) (by kernel_rfl) rfl (by simp) (bytes_tri (x := 120) (y := 45) (byte_x hk)) ?_; ((with_reducible conv => whnf); (with_reducible conv => congr <;> reduce); repeat ((first | (with_reducible refine HaltK.mk ?_) | (with_reducible refine StopK.mk ?_)); (with_reducible conv => whnf); (with_reducible conv => congr <;> reduce)))
      rw [show ByteArray.mk [120, 45, UInt8.ofNat (97 + k)].toArray = xk k from rfl]
      refine IdxK.mk i (eTell ⟨dk, dn, dc⟩) rfl (tell_get hd) ?_; ((with_reducible conv => whnf); (with_reducible conv => congr <;> reduce); repeat ((first | (with_reducible refine HaltK.mk ?_) | (with_reducible refine StopK.mk ?_)); (with_reducible conv => whnf); (with_reducible conv => congr <;> reduce)))
      refine HandK.rem hbk.1 (by decide) rfl rfl rfl rfl ?_; ((with_reducible conv => whnf); (with_reducible conv => congr <;> reduce); repeat ((first | (with_reducible refine HaltK.mk ?_) | (with_reducible refine StopK.mk ?_)); (with_reducible conv => whnf); (with_reducible conv => congr <;> reduce)))
      obtain ⟨q, hq0, hq⟩ : ∃ q : Nat, (dk.toNat : Int) % 2 = (q : Int) ∧ q < 2 := ⟨dk.toNat % 2, by omega, by omega⟩
      rw [hq0]
      have hdg := defR_get (l := l) hk
      by_cases hq1 : q = 0
      · subst hq1
        refine IfK.yes (by decide) ?_; ((with_reducible conv => whnf); (with_reducible conv => congr <;> reduce); repeat ((first | (with_reducible refine HaltK.mk ?_) | (with_reducible refine StopK.mk ?_)); (with_reducible conv => whnf); (with_reducible conv => congr <;> reduce)))
        obtain ⟨⟨l', ws', nx', bz'⟩, hA, hT', hl', hn', hW⟩ := tell_await hT hk hi59
        simp only at hA hl' hn' hW
        subst l'
        subst nx'
        have hq := namedD_right hR (xk k)
        simp only at hq
        have hpc : posN l (xk k) = -1 ∨ 0 ≤ posN l (xk k) := by
          rcases ixI_cases (hasN (xk k)) l with ⟨a, _⟩ | ⟨n, _, a, _⟩
          · exact .inl a
          · exact .inr (by unfold posN; omega)
        obtain ⟨P, hP⟩ : ∃ P, posN l (xk k) = P := ⟨_, rfl⟩
        rw [hP] at hA hW hq hdg hpc
        refine CallK.val [] (f23_at hM hA) c23 ⟨⟨rfl, rfl, rfl, rfl, trivial⟩, rfl, trivial⟩ rfl rfl rfl ?_; ((with_reducible conv => whnf); (with_reducible conv => congr <;> reduce); repeat ((first | (with_reducible refine HaltK.mk ?_) | (with_reducible refine StopK.mk ?_)); (with_reducible conv => whnf); (with_reducible conv => congr <;> reduce)))
        rcases hpc with hp | hp
        · subst hp
          rw [show decide ((0 : Int) ≤ -1) = false from rfl] at hdg
          have hcase : k = 0 ∨ k = 1 ∨ k = 2 ∨ k = 3 ∨ k = 4 ∨ k = 5 := by omega
          rcases hcase with rfl | rfl | rfl | rfl | rfl | rfl
          · have t0 := hW 0 (by omega)
            rw [if_pos ⟨rfl, rfl⟩] at t0
            have t1 := hW 1 (by omega)
            rw [if_neg (by omega)] at t1
            have t2 := hW 2 (by omega)
            rw [if_neg (by omega)] at t2
            have t3 := hW 3 (by omega)
            rw [if_neg (by omega)] at t3
            have t4 := hW 4 (by omega)
            rw [if_neg (by omega)] at t4
            have t5 := hW 5 (by omega)
            rw [if_neg (by omega)] at t5
            have hll := hlen 0
            have htm : ((toldW ws (xk 0)).map oInt).length = (toldW ws (xk 0)).length := List.length_map ..
            repeat' (first
    | (first
    | ((with_reducible show IfK _ _ _ _); first | refine IfK.ff ?_ | refine IfK.tt ?_ | refine IfK.no (by first | rfl | assumption | exact nf (by assumption) | exact nt (by assumption) | ((try simp only [castN]); first | (simp [hnx]; done) | (simp [hnx]; omega))) ?_ | refine IfK.yes (by first | rfl | assumption | exact nf (by assumption) | exact nt (by assumption) | ((try simp only [castN]); first | (simp [hnx]; done) | (simp [hnx]; omega))) ?_)
    | ((with_reducible show NeedK _ _ _ _); refine NeedK.mk (by (try simp only [castN]); omega) ?_)
    | ((with_reducible show DrawK _ _ _ _); refine DrawK.mk (by kernel_rfl) (by kernel_rfl) (by kernel_rfl) ?_)
    | ((with_reducible show CallK _ _ 12 _ _ _ _); refine CallK.lit [] (f12_at hM hq) c12 ⟨⟨rfl, rfl, rfl, rfl, trivial⟩, rfl, trivial⟩ rfl rfl ?_)
    | ((with_reducible show ElemK _ _ _ _ _); refine ElemK.mk (eBool false) hdg ?_)
    | ((with_reducible show LtK _ _ _ _ _); refine LtK.mk 0 rfl hk ?_)
    | ((with_reducible show AppK _ _ _ _ _ _ _ _ _ _); refine AppK.mk ((toldW ws (xk 0)).map oInt) [eInt nx] ⟨rfl, htm.symm, rfl⟩ ⟨rfl, rfl, rfl⟩ rfl (by simp; omega) (by simp; omega) ?_)
    | ((with_reducible show NextG _ _ _); refine NextG.mk (i + 1, ⟨l, ws', nx + 1, bz'⟩) ⟨by show i + 1 ≤ _; omega, by show i + 1 ≤ 60; omega, hT'⟩ (by show L.length - (i + 1) < L.length - i; omega) (Fit.byTab [(30, 30), (40, 40), (51, 51), (61, 61), (901, 951), (902, 902), (903, 903), (904, 904), (905, 905), (906, 906)] rfl ⟨rfl, rfl⟩ ⟨rfl, ⟨rfl, rfl⟩, ⟨rfl, rfl⟩, ⟨rfl, rfl⟩, ⟨rfl, rfl⟩, rfl, by show ((i + 1 : Nat) : Int) = (i : Int) + 1; omega, trivial⟩ ⟨⟨⟨rfl, rfl, rfl, rfl, trivial⟩, trivial⟩, ⟨⟨⟨rfl, by rw [t0]; simp⟩, ⟨rfl, by rw [t1]⟩, ⟨rfl, by rw [t2]⟩, ⟨rfl, by rw [t3]⟩, ⟨rfl, by rw [t4]⟩, ⟨rfl, by rw [t5]⟩, trivial⟩, trivial⟩, ⟨.refl (noRef_def _), noRef_def _⟩, ⟨.refl (noRef_use _), noRef_use _⟩, refl_of (by rw [t0, ← snoc_ints]) (noRef_ints _), refl_of (by rw [t1]) (noRef_ints _), refl_of (by rw [t2]) (noRef_ints _), refl_of (by rw [t3]) (noRef_ints _), refl_of (by rw [t4]) (noRef_ints _), refl_of (by rw [t5]) (noRef_ints _), trivial⟩))) <;> ((with_reducible conv => whnf); (with_reducible conv => congr <;> reduce); repeat ((first | (with_reducible refine HaltK.mk ?_) | (with_reducible refine StopK.mk ?_)); (with_reducible conv => whnf); (with_reducible conv => congr <;> reduce)))
    | ((with_reducible show (_ ∧ _) ∧ _ ∧ _); refine ⟨⟨rfl, rfl⟩, ?_, ?_⟩ <;> (with_reducible conv => whnf) <;> repeat' (first | (with_reducible exact trivial) | (with_reducible refine And.intro ?_ ?_ <;> with_reducible conv => whnf))))
          · have t0 := hW 0 (by omega)
            rw [if_neg (by omega)] at t0
            have t1 := hW 1 (by omega)
            rw [if_pos ⟨rfl, rfl⟩] at t1
            have t2 := hW 2 (by omega)
            rw [if_neg (by omega)] at t2
            have t3 := hW 3 (by omega)
            rw [if_neg (by omega)] at t3
            have t4 := hW 4 (by omega)
            rw [if_neg (by omega)] at t4
            have t5 := hW 5 (by omega)
            rw [if_neg (by omega)] at t5
            have hll := hlen 1
            have htm : ((toldW ws (xk 1)).map oInt).length = (toldW ws (xk 1)).length := List.length_map ..
            repeat' (first
    | (first
    | ((with_reducible show IfK _ _ _ _); first | refine IfK.ff ?_ | refine IfK.tt ?_ | refine IfK.no (by first | rfl | assumption | exact nf (by assumption) | exact nt (by assumption) | ((try simp only [castN]); first | (simp [hnx]; done) | (simp [hnx]; omega))) ?_ | refine IfK.yes (by first | rfl | assumption | exact nf (by assumption) | exact nt (by assumption) | ((try simp only [castN]); first | (simp [hnx]; done) | (simp [hnx]; omega))) ?_)
    | ((with_reducible show NeedK _ _ _ _); refine NeedK.mk (by (try simp only [castN]); omega) ?_)
    | ((with_reducible show DrawK _ _ _ _); refine DrawK.mk (by kernel_rfl) (by kernel_rfl) (by kernel_rfl) ?_)
    | ((with_reducible show CallK _ _ 12 _ _ _ _); refine CallK.lit [] (f12_at hM hq) c12 ⟨⟨rfl, rfl, rfl, rfl, trivial⟩, rfl, trivial⟩ rfl rfl ?_)
    | ((with_reducible show ElemK _ _ _ _ _); refine ElemK.mk (eBool false) hdg ?_)
    | ((with_reducible show LtK _ _ _ _ _); refine LtK.mk 1 rfl hk ?_)
    | ((with_reducible show AppK _ _ _ _ _ _ _ _ _ _); refine AppK.mk ((toldW ws (xk 1)).map oInt) [eInt nx] ⟨rfl, htm.symm, rfl⟩ ⟨rfl, rfl, rfl⟩ rfl (by simp; omega) (by simp; omega) ?_)
    | ((with_reducible show NextG _ _ _); refine NextG.mk (i + 1, ⟨l, ws', nx + 1, bz'⟩) ⟨by show i + 1 ≤ _; omega, by show i + 1 ≤ 60; omega, hT'⟩ (by show L.length - (i + 1) < L.length - i; omega) (Fit.byTab [(30, 30), (40, 40), (51, 51), (61, 61), (901, 901), (902, 951), (903, 903), (904, 904), (905, 905), (906, 906)] rfl ⟨rfl, rfl⟩ ⟨rfl, ⟨rfl, rfl⟩, ⟨rfl, rfl⟩, ⟨rfl, rfl⟩, ⟨rfl, rfl⟩, rfl, by show ((i + 1 : Nat) : Int) = (i : Int) + 1; omega, trivial⟩ ⟨⟨⟨rfl, rfl, rfl, rfl, trivial⟩, trivial⟩, ⟨⟨⟨rfl, by rw [t0]⟩, ⟨rfl, by rw [t1]; simp⟩, ⟨rfl, by rw [t2]⟩, ⟨rfl, by rw [t3]⟩, ⟨rfl, by rw [t4]⟩, ⟨rfl, by rw [t5]⟩, trivial⟩, trivial⟩, ⟨.refl (noRef_def _), noRef_def _⟩, ⟨.refl (noRef_use _), noRef_use _⟩, refl_of (by rw [t0]) (noRef_ints _), refl_of (by rw [t1, ← snoc_ints]) (noRef_ints _), refl_of (by rw [t2]) (noRef_ints _), refl_of (by rw [t3]) (noRef_ints _), refl_of (by rw [t4]) (noRef_ints _), refl_of (by rw [t5]) (noRef_ints _), trivial⟩))) <;> ((with_reducible conv => whnf); (with_reducible conv => congr <;> reduce); repeat ((first | (with_reducible refine HaltK.mk ?_) | (with_reducible refine StopK.mk ?_)); (with_reducible conv => whnf); (with_reducible conv => congr <;> reduce)))
    | ((with_reducible show (_ ∧ _) ∧ _ ∧ _); refine ⟨⟨rfl, rfl⟩, ?_, ?_⟩ <;> (with_reducible conv => whnf) <;> repeat' (first | (with_reducible exact trivial) | (with_reducible refine And.intro ?_ ?_ <;> with_reducible conv => whnf))))
          · have t0 := hW 0 (by omega)
            rw [if_neg (by omega)] at t0
            have t1 := hW 1 (by omega)
            rw [if_neg (by omega)] at t1
            have t2 := hW 2 (by omega)
            rw [if_pos ⟨rfl, rfl⟩] at t2
            have t3 := hW 3 (by omega)
            rw [if_neg (by omega)] at t3
            have t4 := hW 4 (by omega)
            rw [if_neg (by omega)] at t4
            have t5 := hW 5 (by omega)
            rw [if_neg (by omega)] at t5
            have hll := hlen 2
            have htm : ((toldW ws (xk 2)).map oInt).length = (toldW ws (xk 2)).length := List.length_map ..
            repeat' (first
    | (first
    | ((with_reducible show IfK _ _ _ _); first | refine IfK.ff ?_ | refine IfK.tt ?_ | refine IfK.no (by first | rfl | assumption | exact nf (by assumption) | exact nt (by assumption) | ((try simp only [castN]); first | (simp [hnx]; done) | (simp [hnx]; omega))) ?_ | refine IfK.yes (by first | rfl | assumption | exact nf (by assumption) | exact nt (by assumption) | ((try simp only [castN]); first | (simp [hnx]; done) | (simp [hnx]; omega))) ?_)
    | ((with_reducible show NeedK _ _ _ _); refine NeedK.mk (by (try simp only [castN]); omega) ?_)
    | ((with_reducible show DrawK _ _ _ _); refine DrawK.mk (by kernel_rfl) (by kernel_rfl) (by kernel_rfl) ?_)
    | ((with_reducible show CallK _ _ 12 _ _ _ _); refine CallK.lit [] (f12_at hM hq) c12 ⟨⟨rfl, rfl, rfl, rfl, trivial⟩, rfl, trivial⟩ rfl rfl ?_)
    | ((with_reducible show ElemK _ _ _ _ _); refine ElemK.mk (eBool false) hdg ?_)
    | ((with_reducible show LtK _ _ _ _ _); refine LtK.mk 2 rfl hk ?_)
    | ((with_reducible show AppK _ _ _ _ _ _ _ _ _ _); refine AppK.mk ((toldW ws (xk 2)).map oInt) [eInt nx] ⟨rfl, htm.symm, rfl⟩ ⟨rfl, rfl, rfl⟩ rfl (by simp; omega) (by simp; omega) ?_)
    | ((with_reducible show NextG _ _ _); refine NextG.mk (i + 1, ⟨l, ws', nx + 1, bz'⟩) ⟨by show i + 1 ≤ _; omega, by show i + 1 ≤ 60; omega, hT'⟩ (by show L.length - (i + 1) < L.length - i; omega) (Fit.byTab [(30, 30), (40, 40), (51, 51), (61, 61), (901, 901), (902, 902), (903, 951), (904, 904), (905, 905), (906, 906)] rfl ⟨rfl, rfl⟩ ⟨rfl, ⟨rfl, rfl⟩, ⟨rfl, rfl⟩, ⟨rfl, rfl⟩, ⟨rfl, rfl⟩, rfl, by show ((i + 1 : Nat) : Int) = (i : Int) + 1; omega, trivial⟩ ⟨⟨⟨rfl, rfl, rfl, rfl, trivial⟩, trivial⟩, ⟨⟨⟨rfl, by rw [t0]⟩, ⟨rfl, by rw [t1]⟩, ⟨rfl, by rw [t2]; simp⟩, ⟨rfl, by rw [t3]⟩, ⟨rfl, by rw [t4]⟩, ⟨rfl, by rw [t5]⟩, trivial⟩, trivial⟩, ⟨.refl (noRef_def _), noRef_def _⟩, ⟨.refl (noRef_use _), noRef_use _⟩, refl_of (by rw [t0]) (noRef_ints _), refl_of (by rw [t1]) (noRef_ints _), refl_of (by rw [t2, ← snoc_ints]) (noRef_ints _), refl_of (by rw [t3]) (noRef_ints _), refl_of (by rw [t4]) (noRef_ints _), refl_of (by rw [t5]) (noRef_ints _), trivial⟩))) <;> ((with_reducible conv => whnf); (with_reducible conv => congr <;> reduce); repeat ((first | (with_reducible refine HaltK.mk ?_) | (with_reducible refine StopK.mk ?_)); (with_reducible conv => whnf); (with_reducible conv => congr <;> reduce)))
    | ((with_reducible show (_ ∧ _) ∧ _ ∧ _); refine ⟨⟨rfl, rfl⟩, ?_, ?_⟩ <;> (with_reducible conv => whnf) <;> repeat' (first | (with_reducible exact trivial) | (with_reducible refine And.intro ?_ ?_ <;> with_reducible conv => whnf))))
          · have t0 := hW 0 (by omega)
            rw [if_neg (by omega)] at t0
            have t1 := hW 1 (by omega)
            rw [if_neg (by omega)] at t1
            have t2 := hW 2 (by omega)
            rw [if_neg (by omega)] at t2
            have t3 := hW 3 (by omega)
            rw [if_pos ⟨rfl, rfl⟩] at t3
            have t4 := hW 4 (by omega)
            rw [if_neg (by omega)] at t4
            have t5 := hW 5 (by omega)
            rw [if_neg (by omega)] at t5
            have hll := hlen 3
            have htm : ((toldW ws (xk 3)).map oInt).length = (toldW ws (xk 3)).length := List.length_map ..
            repeat' (first
    | (first
    | ((with_reducible show IfK _ _ _ _); first | refine IfK.ff ?_ | refine IfK.tt ?_ | refine IfK.no (by first | rfl | assumption | exact nf (by assumption) | exact nt (by assumption) | ((try simp only [castN]); first | (simp [hnx]; done) | (simp [hnx]; omega))) ?_ | refine IfK.yes (by first | rfl | assumption | exact nf (by assumption) | exact nt (by assumption) | ((try simp only [castN]); first | (simp [hnx]; done) | (simp [hnx]; omega))) ?_)
    | ((with_reducible show NeedK _ _ _ _); refine NeedK.mk (by (try simp only [castN]); omega) ?_)
    | ((with_reducible show DrawK _ _ _ _); refine DrawK.mk (by kernel_rfl) (by kernel_rfl) (by kernel_rfl) ?_)
    | ((with_reducible show CallK _ _ 12 _ _ _ _); refine CallK.lit [] (f12_at hM hq) c12 ⟨⟨rfl, rfl, rfl, rfl, trivial⟩, rfl, trivial⟩ rfl rfl ?_)
    | ((with_reducible show ElemK _ _ _ _ _); refine ElemK.mk (eBool false) hdg ?_)
    | ((with_reducible show LtK _ _ _ _ _); refine LtK.mk 3 rfl hk ?_)
    | ((with_reducible show AppK _ _ _ _ _ _ _ _ _ _); refine AppK.mk ((toldW ws (xk 3)).map oInt) [eInt nx] ⟨rfl, htm.symm, rfl⟩ ⟨rfl, rfl, rfl⟩ rfl (by simp; omega) (by simp; omega) ?_)
    | ((with_reducible show NextG _ _ _); refine NextG.mk (i + 1, ⟨l, ws', nx + 1, bz'⟩) ⟨by show i + 1 ≤ _; omega, by show i + 1 ≤ 60; omega, hT'⟩ (by show L.length - (i + 1) < L.length - i; omega) (Fit.byTab [(30, 30), (40, 40), (51, 51), (61, 61), (901, 901), (902, 902), (903, 903), (904, 951), (905, 905), (906, 906)] rfl ⟨rfl, rfl⟩ ⟨rfl, ⟨rfl, rfl⟩, ⟨rfl, rfl⟩, ⟨rfl, rfl⟩, ⟨rfl, rfl⟩, rfl, by show ((i + 1 : Nat) : Int) = (i : Int) + 1; omega, trivial⟩ ⟨⟨⟨rfl, rfl, rfl, rfl, trivial⟩, trivial⟩, ⟨⟨⟨rfl, by rw [t0]⟩, ⟨rfl, by rw [t1]⟩, ⟨rfl, by rw [t2]⟩, ⟨rfl, by rw [t3]; simp⟩, ⟨rfl, by rw [t4]⟩, ⟨rfl, by rw [t5]⟩, trivial⟩, trivial⟩, ⟨.refl (noRef_def _), noRef_def _⟩, ⟨.refl (noRef_use _), noRef_use _⟩, refl_of (by rw [t0]) (noRef_ints _), refl_of (by rw [t1]) (noRef_ints _), refl_of (by rw [t2]) (noRef_ints _), refl_of (by rw [t3, ← snoc_ints]) (noRef_ints _), refl_of (by rw [t4]) (noRef_ints _), refl_of (by rw [t5]) (noRef_ints _), trivial⟩))) <;> ((with_reducible conv => whnf); (with_reducible conv => congr <;> reduce); repeat ((first | (with_reducible refine HaltK.mk ?_) | (with_reducible refine StopK.mk ?_)); (with_reducible conv => whnf); (with_reducible conv => congr <;> reduce)))
    | ((with_reducible show (_ ∧ _) ∧ _ ∧ _); refine ⟨⟨rfl, rfl⟩, ?_, ?_⟩ <;> (with_reducible conv => whnf) <;> repeat' (first | (with_reducible exact trivial) | (with_reducible refine And.intro ?_ ?_ <;> with_reducible conv => whnf))))
          · have t0 := hW 0 (by omega)
            rw [if_neg (by omega)] at t0
            have t1 := hW 1 (by omega)
            rw [if_neg (by omega)] at t1
            have t2 := hW 2 (by omega)
            rw [if_neg (by omega)] at t2
            have t3 := hW 3 (by omega)
            rw [if_neg (by omega)] at t3
            have t4 := hW 4 (by omega)
            rw [if_pos ⟨rfl, rfl⟩] at t4
            have t5 := hW 5 (by omega)
            rw [if_neg (by omega)] at t5
            have hll := hlen 4
            have htm : ((toldW ws (xk 4)).map oInt).length = (toldW ws (xk 4)).length := List.length_map ..
            repeat' (first
    | (first
    | ((with_reducible show IfK _ _ _ _); first | refine IfK.ff ?_ | refine IfK.tt ?_ | refine IfK.no (by first | rfl | assumption | exact nf (by assumption) | exact nt (by assumption) | ((try simp only [castN]); first | (simp [hnx]; done) | (simp [hnx]; omega))) ?_ | refine IfK.yes (by first | rfl | assumption | exact nf (by assumption) | exact nt (by assumption) | ((try simp only [castN]); first | (simp [hnx]; done) | (simp [hnx]; omega))) ?_)
    | ((with_reducible show NeedK _ _ _ _); refine NeedK.mk (by (try simp only [castN]); omega) ?_)
    | ((with_reducible show DrawK _ _ _ _); refine DrawK.mk (by kernel_rfl) (by kernel_rfl) (by kernel_rfl) ?_)
    | ((with_reducible show CallK _ _ 12 _ _ _ _); refine CallK.lit [] (f12_at hM hq) c12 ⟨⟨rfl, rfl, rfl, rfl, trivial⟩, rfl, trivial⟩ rfl rfl ?_)
    | ((with_reducible show ElemK _ _ _ _ _); refine ElemK.mk (eBool false) hdg ?_)
    | ((with_reducible show LtK _ _ _ _ _); refine LtK.mk 4 rfl hk ?_)
    | ((with_reducible show AppK _ _ _ _ _ _ _ _ _ _); refine AppK.mk ((toldW ws (xk 4)).map oInt) [eInt nx] ⟨rfl, htm.symm, rfl⟩ ⟨rfl, rfl, rfl⟩ rfl (by simp; omega) (by simp; omega) ?_)
    | ((with_reducible show NextG _ _ _); refine NextG.mk (i + 1, ⟨l, ws', nx + 1, bz'⟩) ⟨by show i + 1 ≤ _; omega, by show i + 1 ≤ 60; omega, hT'⟩ (by show L.length - (i + 1) < L.length - i; omega) (Fit.byTab [(30, 30), (40, 40), (51, 51), (61, 61), (901, 901), (902, 902), (903, 903), (904, 904), (905, 951), (906, 906)] rfl ⟨rfl, rfl⟩ ⟨rfl, ⟨rfl, rfl⟩, ⟨rfl, rfl⟩, ⟨rfl, rfl⟩, ⟨rfl, rfl⟩, rfl, by show ((i + 1 : Nat) : Int) = (i : Int) + 1; omega, trivial⟩ ⟨⟨⟨rfl, rfl, rfl, rfl, trivial⟩, trivial⟩, ⟨⟨⟨rfl, by rw [t0]⟩, ⟨rfl, by rw [t1]⟩, ⟨rfl, by rw [t2]⟩, ⟨rfl, by rw [t3]⟩, ⟨rfl, by rw [t4]; simp⟩, ⟨rfl, by rw [t5]⟩, trivial⟩, trivial⟩, ⟨.refl (noRef_def _), noRef_def _⟩, ⟨.refl (noRef_use _), noRef_use _⟩, refl_of (by rw [t0]) (noRef_ints _), refl_of (by rw [t1]) (noRef_ints _), refl_of (by rw [t2]) (noRef_ints _), refl_of (by rw [t3]) (noRef_ints _), refl_of (by rw [t4, ← snoc_ints]) (noRef_ints _), refl_of (by rw [t5]) (noRef_ints _), trivial⟩))) <;> ((with_reducible conv => whnf); (with_reducible conv => congr <;> reduce); repeat ((first | (with_reducible refine HaltK.mk ?_) | (with_reducible refine StopK.mk ?_)); (with_reducible conv => whnf); (with_reducible conv => congr <;> reduce)))
    | ((with_reducible show (_ ∧ _) ∧ _ ∧ _); refine ⟨⟨rfl, rfl⟩, ?_, ?_⟩ <;> (with_reducible conv => whnf) <;> repeat' (first | (with_reducible exact trivial) | (with_reducible refine And.intro ?_ ?_ <;> with_reducible conv => whnf))))
          · have t0 := hW 0 (by omega)
            rw [if_neg (by omega)] at t0
            have t1 := hW 1 (by omega)
            rw [if_neg (by omega)] at t1
            have t2 := hW 2 (by omega)
            rw [if_neg (by omega)] at t2
            have t3 := hW 3 (by omega)
            rw [if_neg (by omega)] at t3
            have t4 := hW 4 (by omega)
            rw [if_neg (by omega)] at t4
            have t5 := hW 5 (by omega)
            rw [if_pos ⟨rfl, rfl⟩] at t5
            have hll := hlen 5
            have htm : ((toldW ws (xk 5)).map oInt).length = (toldW ws (xk 5)).length := List.length_map ..
            repeat' (first
    | (first
    | ((with_reducible show IfK _ _ _ _); first | refine IfK.ff ?_ | refine IfK.tt ?_ | refine IfK.no (by first | rfl | assumption | exact nf (by assumption) | exact nt (by assumption) | ((try simp only [castN]); first | (simp [hnx]; done) | (simp [hnx]; omega))) ?_ | refine IfK.yes (by first | rfl | assumption | exact nf (by assumption) | exact nt (by assumption) | ((try simp only [castN]); first | (simp [hnx]; done) | (simp [hnx]; omega))) ?_)
    | ((with_reducible show NeedK _ _ _ _); refine NeedK.mk (by (try simp only [castN]); omega) ?_)
    | ((with_reducible show DrawK _ _ _ _); refine DrawK.mk (by kernel_rfl) (by kernel_rfl) (by kernel_rfl) ?_)
    | ((with_reducible show CallK _ _ 12 _ _ _ _); refine CallK.lit [] (f12_at hM hq) c12 ⟨⟨rfl, rfl, rfl, rfl, trivial⟩, rfl, trivial⟩ rfl rfl ?_)
    | ((with_reducible show ElemK _ _ _ _ _); refine ElemK.mk (eBool false) hdg ?_)
    | ((with_reducible show LtK _ _ _ _ _); refine LtK.mk 5 rfl hk ?_)
    | ((with_reducible show AppK _ _ _ _ _ _ _ _ _ _); refine AppK.mk ((toldW ws (xk 5)).map oInt) [eInt nx] ⟨rfl, htm.symm, rfl⟩ ⟨rfl, rfl, rfl⟩ rfl (by simp; omega) (by simp; omega) ?_)
    | ((with_reducible show NextG _ _ _); refine NextG.mk (i + 1, ⟨l, ws', nx + 1, bz'⟩) ⟨by show i + 1 ≤ _; omega, by show i + 1 ≤ 60; omega, hT'⟩ (by show L.length - (i + 1) < L.length - i; omega) (Fit.byTab [(30, 30), (40, 40), (51, 51), (61, 61), (901, 901), (902, 902), (903, 903), (904, 904), (905, 905), (906, 951)] rfl ⟨rfl, rfl⟩ ⟨rfl, ⟨rfl, rfl⟩, ⟨rfl, rfl⟩, ⟨rfl, rfl⟩, ⟨rfl, rfl⟩, rfl, by show ((i + 1 : Nat) : Int) = (i : Int) + 1; omega, trivial⟩ ⟨⟨⟨rfl, rfl, rfl, rfl, trivial⟩, trivial⟩, ⟨⟨⟨rfl, by rw [t0]⟩, ⟨rfl, by rw [t1]⟩, ⟨rfl, by rw [t2]⟩, ⟨rfl, by rw [t3]⟩, ⟨rfl, by rw [t4]⟩, ⟨rfl, by rw [t5]; simp⟩, trivial⟩, trivial⟩, ⟨.refl (noRef_def _), noRef_def _⟩, ⟨.refl (noRef_use _), noRef_use _⟩, refl_of (by rw [t0]) (noRef_ints _), refl_of (by rw [t1]) (noRef_ints _), refl_of (by rw [t2]) (noRef_ints _), refl_of (by rw [t3]) (noRef_ints _), refl_of (by rw [t4]) (noRef_ints _), refl_of (by rw [t5, ← snoc_ints]) (noRef_ints _), trivial⟩))) <;> ((with_reducible conv => whnf); (with_reducible conv => congr <;> reduce); repeat ((first | (with_reducible refine HaltK.mk ?_) | (with_reducible refine StopK.mk ?_)); (with_reducible conv => whnf); (with_reducible conv => congr <;> reduce)))
    | ((with_reducible show (_ ∧ _) ∧ _ ∧ _); refine ⟨⟨rfl, rfl⟩, ?_, ?_⟩ <;> (with_reducible conv => whnf) <;> repeat' (first | (with_reducible exact trivial) | (with_reducible refine And.intro ?_ ?_ <;> with_reducible conv => whnf))))
        · have hpd : decide (0 ≤ P) = true := decide_eq_true hp
          rw [hpd] at hdg
          have hpn : ¬ P = -1 := by omega
          repeat' (first
    | (first
    | ((with_reducible show IfK _ _ _ _); first | refine IfK.ff ?_ | refine IfK.tt ?_ | refine IfK.no (by first | rfl | assumption | exact nf (by assumption) | exact nt (by assumption) | ((try simp only [castN]); first | (simp [hpn]; done) | (simp [hpn]; omega))) ?_ | refine IfK.yes (by first | rfl | assumption | exact nf (by assumption) | exact nt (by assumption) | ((try simp only [castN]); first | (simp [hpn]; done) | (simp [hpn]; omega))) ?_)
    | ((with_reducible show NeedK _ _ _ _); refine NeedK.mk (by (try simp only [castN]); omega) ?_)
    | ((with_reducible show DrawK _ _ _ _); refine DrawK.mk (by kernel_rfl) (by kernel_rfl) (by kernel_rfl) ?_)
    | ((with_reducible show CallK _ _ 12 _ _ _ _); refine CallK.lit [] (f12_at hM hq) c12 ⟨⟨rfl, rfl, rfl, rfl, trivial⟩, rfl, trivial⟩ rfl rfl ?_)
    | ((with_reducible show LtK _ _ _ _ _); refine LtK.mk k rfl hk ?_)
    | ((with_reducible show ElemK _ _ _ _ _); refine ElemK.mk (eBool true) hdg ?_)) <;> ((with_reducible conv => whnf); (with_reducible conv => congr <;> reduce); repeat ((first | (with_reducible refine HaltK.mk ?_) | (with_reducible refine StopK.mk ?_)); (with_reducible conv => whnf); (with_reducible conv => congr <;> reduce)))
    | ((with_reducible show (_ ∧ _) ∧ _ ∧ _); refine ⟨⟨rfl, rfl⟩, ?_, ?_⟩ <;> (with_reducible conv => whnf) <;> repeat' (first | (with_reducible exact trivial) | (with_reducible refine And.intro ?_ ?_ <;> with_reducible conv => whnf))))
          have t0 := hW 0 (by omega)
          rw [if_neg (by omega)] at t0
          have t1 := hW 1 (by omega)
          rw [if_neg (by omega)] at t1
          have t2 := hW 2 (by omega)
          rw [if_neg (by omega)] at t2
          have t3 := hW 3 (by omega)
          rw [if_neg (by omega)] at t3
          have t4 := hW 4 (by omega)
          rw [if_neg (by omega)] at t4
          have t5 := hW 5 (by omega)
          rw [if_neg (by omega)] at t5
          refine NextG.mk (i + 1, ⟨l, ws', nx + 1, bz'⟩) ⟨by show i + 1 ≤ _; omega, by show i + 1 ≤ 60; omega, hT'⟩ (by show L.length - (i + 1) < L.length - i; omega) (Fit.byTab [(30, 30), (40, 40), (51, 51), (61, 61), (901, 901), (902, 902), (903, 903), (904, 904), (905, 905), (906, 906)] rfl ⟨rfl, rfl⟩ ⟨rfl, ⟨rfl, rfl⟩, ⟨rfl, rfl⟩, ⟨rfl, rfl⟩, ⟨rfl, rfl⟩, rfl, by show ((i + 1 : Nat) : Int) = (i : Int) + 1; omega, trivial⟩ ⟨⟨⟨rfl, rfl, rfl, rfl, trivial⟩, trivial⟩, ⟨⟨⟨rfl, by rw [t0]⟩, ⟨rfl, by rw [t1]⟩, ⟨rfl, by rw [t2]⟩, ⟨rfl, by rw [t3]⟩, ⟨rfl, by rw [t4]⟩, ⟨rfl, by rw [t5]⟩, trivial⟩, trivial⟩, ⟨.refl (noRef_def _), noRef_def _⟩, ⟨.refl (noRef_use _), noRef_use _⟩, refl_of (by rw [t0]) (noRef_ints _), refl_of (by rw [t1]) (noRef_ints _), refl_of (by rw [t2]) (noRef_ints _), refl_of (by rw [t3]) (noRef_ints _), refl_of (by rw [t4]) (noRef_ints _), refl_of (by rw [t5]) (noRef_ints _), trivial⟩)
      · have hq2 : q = 1 := by omega
        subst hq2
        refine IfK.no (by decide) ?_; ((with_reducible conv => whnf); (with_reducible conv => congr <;> reduce); repeat ((first | (with_reducible refine HaltK.mk ?_) | (with_reducible refine StopK.mk ?_)); (with_reducible conv => whnf); (with_reducible conv => congr <;> reduce)))
        refine IdxK.mk i (eTell ⟨dk, dn, dc⟩) rfl (tell_get hd) ?_; ((with_reducible conv => whnf); (with_reducible conv => congr <;> reduce); repeat ((first | (with_reducible refine HaltK.mk ?_) | (with_reducible refine StopK.mk ?_)); (with_reducible conv => whnf); (with_reducible conv => congr <;> reduce)))
        refine ConvK.int (by kernel_rfl) (by kernel_rfl) (wrap_u8 hbc) ?_; ((with_reducible conv => whnf); (with_reducible conv => congr <;> reduce); repeat ((first | (with_reducible refine HaltK.mk ?_) | (with_reducible refine StopK.mk ?_)); (with_reducible conv => whnf); (with_reducible conv => congr <;> reduce)))
        refine HandK.rem hbc.1 (by decide) rfl rfl rfl rfl ?_; ((with_reducible conv => whnf); (with_reducible conv => congr <;> reduce); repeat ((first | (with_reducible refine HaltK.mk ?_) | (with_reducible refine StopK.mk ?_)); (with_reducible conv => whnf); (with_reducible conv => congr <;> reduce)))
        obtain ⟨c, hc0, hc⟩ : ∃ c : Nat, (dc.toNat : Int) % 12 = (c : Int) ∧ c < 12 := ⟨dc.toNat % 12, by omega, by omega⟩
        rw [hc0]
        have hug := useR_get (l := l) hc
        have hmay := tell_may hT hk hc
        simp only at hmay
        obtain ⟨⟨⟨gl, gw, gn, gb⟩, at', tl, e⟩, D⟩ : ∃ x, defineD ⟨l, ws, nx, bz⟩ 12 (xk k) emptyS c = x := ⟨_, rfl⟩
        obtain ⟨b1, b2, b3, hm, hno, hyes⟩ := define_len D
        refine CallK.val [] (f18_at hM D) c18 ⟨⟨rfl, rfl, rfl, rfl, trivial⟩, rfl, rfl, rfl, rfl, trivial⟩ rfl rfl rfl ?_; ((with_reducible conv => whnf); (with_reducible conv => congr <;> reduce); repeat ((first | (with_reducible refine HaltK.mk ?_) | (with_reducible refine StopK.mk ?_)); (with_reducible conv => whnf); (with_reducible conv => congr <;> reduce)))
        rw [hm] at hmay
        by_cases hpn : 0 ≤ posN l (xk k)
        · rw [decide_eq_true hpn] at hdg
          rw [if_pos (.inl hpn)] at hmay
          obtain ⟨_, rfl, rfl⟩ := hno (by omega)
          repeat' (first
    | (first
    | ((with_reducible show IfK _ _ _ _); first | refine IfK.ff ?_ | refine IfK.tt ?_ | refine IfK.no (by first | rfl | assumption | exact nf (by assumption) | exact nt (by assumption) | ((try simp only [castN]); first | (simp [hmay]; done) | (simp [hmay]; omega))) ?_ | refine IfK.yes (by first | rfl | assumption | exact nf (by assumption) | exact nt (by assumption) | ((try simp only [castN]); first | (simp [hmay]; done) | (simp [hmay]; omega))) ?_)
    | ((with_reducible show NeedK _ _ _ _); refine NeedK.mk (by (try simp only [castN]); omega) ?_)
    | ((with_reducible show DrawK _ _ _ _); refine DrawK.mk (by kernel_rfl) (by kernel_rfl) (by kernel_rfl) ?_)
    | ((with_reducible show LtK _ _ _ _ _); first | (refine LtK.mk k rfl hk ?_) | (refine LtK.mk c rfl hc ?_))
    | ((with_reducible show ElemK _ _ _ _ _); first | (refine ElemK.mk _ hdg ?_) | (refine ElemK.mk _ hug ?_))) <;> ((with_reducible conv => whnf); (with_reducible conv => congr <;> reduce); repeat ((first | (with_reducible refine HaltK.mk ?_) | (with_reducible refine StopK.mk ?_)); (with_reducible conv => whnf); (with_reducible conv => congr <;> reduce)))
    | ((with_reducible show (_ ∧ _) ∧ _ ∧ _); refine ⟨⟨rfl, rfl⟩, ?_, ?_⟩ <;> (with_reducible conv => whnf) <;> repeat' (first | (with_reducible exact trivial) | (with_reducible refine And.intro ?_ ?_ <;> with_reducible conv => whnf))))
          refine NextG.mk (i + 1, ⟨l, ws, nx, bz⟩) ⟨by show i + 1 ≤ _; omega, by show i + 1 ≤ 60; omega, ⟨hT.right, hT.busy, hT.names, by have := hT.next; show nx ≤ ((i + 1 : Nat) : Int); simp only at this; omega⟩⟩ (by show L.length - (i + 1) < L.length - i; omega) (Fit.byTab [(30, 30), (40, 40), (51, 51), (61, 61), (901, 901), (902, 902), (903, 903), (904, 904), (905, 905), (906, 906)] rfl ⟨rfl, rfl⟩ ⟨rfl, ⟨rfl, rfl⟩, ⟨rfl, rfl⟩, ⟨rfl, rfl⟩, ⟨rfl, rfl⟩, rfl, by show ((i + 1 : Nat) : Int) = (i : Int) + 1; omega, trivial⟩ ⟨⟨⟨rfl, rfl, rfl, rfl, trivial⟩, trivial⟩, ⟨⟨⟨rfl, rfl⟩, ⟨rfl, rfl⟩, ⟨rfl, rfl⟩, ⟨rfl, rfl⟩, ⟨rfl, rfl⟩, ⟨rfl, rfl⟩, trivial⟩, trivial⟩, ⟨.refl (noRef_def _), noRef_def _⟩, ⟨.refl (noRef_use _), noRef_use _⟩, ⟨.refl (noRef_ints _), noRef_ints _⟩, ⟨.refl (noRef_ints _), noRef_ints _⟩, ⟨.refl (noRef_ints _), noRef_ints _⟩, ⟨.refl (noRef_ints _), noRef_ints _⟩, ⟨.refl (noRef_ints _), noRef_ints _⟩, ⟨.refl (noRef_ints _), noRef_ints _⟩, trivial⟩)
        · rw [decide_eq_false hpn] at hdg
          by_cases hpc : 0 ≤ posC l (c : Int)
          · rw [decide_eq_true hpc] at hug
            rw [if_pos (.inr hpc)] at hmay
            obtain ⟨_, rfl, rfl⟩ := hno (by omega)
            repeat' (first
    | (first
    | ((with_reducible show IfK _ _ _ _); first | refine IfK.ff ?_ | refine IfK.tt ?_ | refine IfK.no (by first | rfl | assumption | exact nf (by assumption) | exact nt (by assumption) | ((try simp only [castN]); first | (simp [hmay]; done) | (simp [hmay]; omega))) ?_ | refine IfK.yes (by first | rfl | assumption | exact nf (by assumption) | exact nt (by assumption) | ((try simp only [castN]); first | (simp [hmay]; done) | (simp [hmay]; omega))) ?_)
    | ((with_reducible show NeedK _ _ _ _); refine NeedK.mk (by (try simp only [castN]); omega) ?_)
    | ((with_reducible show DrawK _ _ _ _); refine DrawK.mk (by kernel_rfl) (by kernel_rfl) (by kernel_rfl) ?_)
    | ((with_reducible show LtK _ _ _ _ _); first | (refine LtK.mk k rfl hk ?_) | (refine LtK.mk c rfl hc ?_))
    | ((with_reducible show ElemK _ _ _ _ _); first | (refine ElemK.mk _ hdg ?_) | (refine ElemK.mk _ hug ?_))) <;> ((with_reducible conv => whnf); (with_reducible conv => congr <;> reduce); repeat ((first | (with_reducible refine HaltK.mk ?_) | (with_reducible refine StopK.mk ?_)); (with_reducible conv => whnf); (with_reducible conv => congr <;> reduce)))
    | ((with_reducible show (_ ∧ _) ∧ _ ∧ _); refine ⟨⟨rfl, rfl⟩, ?_, ?_⟩ <;> (with_reducible conv => whnf) <;> repeat' (first | (with_reducible exact trivial) | (with_reducible refine And.intro ?_ ?_ <;> with_reducible conv => whnf))))
            refine NextG.mk (i + 1, ⟨l, ws, nx, bz⟩) ⟨by show i + 1 ≤ _; omega, by show i + 1 ≤ 60; omega, ⟨hT.right, hT.busy, hT.names, by have := hT.next; show nx ≤ ((i + 1 : Nat) : Int); simp only at this; omega⟩⟩ (by show L.length - (i + 1) < L.length - i; omega) (Fit.byTab [(30, 30), (40, 40), (51, 51), (61, 61), (901, 901), (902, 902), (903, 903), (904, 904), (905, 905), (906, 906)] rfl ⟨rfl, rfl⟩ ⟨rfl, ⟨rfl, rfl⟩, ⟨rfl, rfl⟩, ⟨rfl, rfl⟩, ⟨rfl, rfl⟩, rfl, by show ((i + 1 : Nat) : Int) = (i : Int) + 1; omega, trivial⟩ ⟨⟨⟨rfl, rfl, rfl, rfl, trivial⟩, trivial⟩, ⟨⟨⟨rfl, rfl⟩, ⟨rfl, rfl⟩, ⟨rfl, rfl⟩, ⟨rfl, rfl⟩, ⟨rfl, rfl⟩, ⟨rfl, rfl⟩, trivial⟩, trivial⟩, ⟨.refl (noRef_def _), noRef_def _⟩, ⟨.refl (noRef_use _), noRef_use _⟩, ⟨.refl (noRef_ints _), noRef_ints _⟩, ⟨.refl (noRef_ints _), noRef_ints _⟩, ⟨.refl (noRef_ints _), noRef_ints _⟩, ⟨.refl (noRef_ints _), noRef_ints _⟩, ⟨.refl (noRef_ints _), noRef_ints _⟩, ⟨.refl (noRef_ints _), noRef_ints _⟩, trivial⟩)
          · rw [decide_eq_false hpc] at hug
            rw [if_neg (by rintro (h | h); exact hpn h; exact hpc h)] at hmay
            obtain ⟨y1, y2, y3⟩ := hyes hmay
            obtain ⟨hT', hW⟩ := tell_add hT hk (hm.trans hmay)
            have hgR := hT'.right
            subst y2
            subst y3
            have ya : addD ⟨l, ws, nx, bz⟩ (xk k) emptyS c = ⟨l ++ [newD (xk k) emptyS c], restW ws (xk k), nx, bz⟩ := rfl
            rw [ya] at y1 hT' hW hgR
            simp only [DeskM.mk.injEq] at y1
            obtain ⟨w1, w2, w3, w4⟩ := y1
            subst gl
            subst gw
            subst gn
            subst gb
            simp only at hW
            have hgs : SmallD ⟨l ++ [newD (xk k) emptyS c], restW ws (xk k), nx, bz⟩ := ⟨by show (l ++ [newD (xk k) emptyS c]).length ≤ 100000; simp; omega, by show (restW ws (xk k)).length ≤ 100000; have := rest_le ws (xk k); omega⟩
            have hlast : (l ++ [newD (xk k) emptyS (c : Int)])[l.length]? = some (newD (xk k) emptyS (c : Int)) := by rw [List.getElem?_append_right (Nat.le_refl _)]; simp
            obtain ⟨_, u2, u3⟩ := defsB_iff.1 (right_defs hgR)
            have hnm : namedD ⟨l ++ [newD (xk k) emptyS c], restW ws (xk k), nx, bz⟩ (xk k) = (l.length : Int) := (namedD_right hgR (xk k)).trans (posN_at u2 hlast)
            have hcm : classedD ⟨l ++ [newD (xk k) emptyS c], restW ws (xk k), nx, bz⟩ (c : Int) = (l.length : Int) := (classedD_right hgR (c : Int)).trans (posC_at u3 hlast)
            have hds := defR_set (l := l) (base := emptyS) (c := (c : Int)) hk
            have hus := useR_set (l := l) (k := c) (s := xk k) (base := emptyS)
            obtain ⟨D2, hD2⟩ : ∃ x, l ++ [newD (xk k) emptyS (c : Int)] = x := ⟨_, rfl⟩
            obtain ⟨W2, hW2⟩ : ∃ x, restW ws (xk k) = x := ⟨_, rfl⟩
            rw [hD2] at hnm hcm hds hus hgs hT'
            rw [hW2] at hnm hcm hgs hT' hW
            rw [hD2, hW2]
            obtain ⟨told, htold⟩ : ∃ x, toldW ws (xk k) = x := ⟨_, rfl⟩
            have htl : told.length ≤ 60 := by rw [← htold]; exact hlen k
            rw [htold]
            have hcase : k = 0 ∨ k = 1 ∨ k = 2 ∨ k = 3 ∨ k = 4 ∨ k = 5 := by omega
            rcases hcase with rfl | rfl | rfl | rfl | rfl | rfl
            · have t0 := hW 0 (by omega)
              rw [if_pos rfl] at t0
              have t1 := hW 1 (by omega)
              rw [if_neg (by omega)] at t1
              have t2 := hW 2 (by omega)
              rw [if_neg (by omega)] at t2
              have t3 := hW 3 (by omega)
              rw [if_neg (by omega)] at t3
              have t4 := hW 4 (by omega)
              rw [if_neg (by omega)] at t4
              have t5 := hW 5 (by omega)
              rw [if_neg (by omega)] at t5
              repeat' (first
    | (first
    | ((with_reducible show IfK _ _ _ _); first | refine IfK.ff ?_ | refine IfK.tt ?_ | refine IfK.no (by first | rfl | assumption | exact nf (by assumption) | exact nt (by assumption) | ((try simp only [castN]); first | (simp [hmay]; done) | (simp [hmay]; omega))) ?_ | refine IfK.yes (by first | rfl | assumption | exact nf (by assumption) | exact nt (by assumption) | ((try simp only [castN]); first | (simp [hmay]; done) | (simp [hmay]; omega))) ?_)
    | ((with_reducible show NeedK _ _ _ _); refine NeedK.mk (by (try simp only [castN]); omega) ?_)
    | ((with_reducible show DrawK _ _ _ _); refine DrawK.mk (by kernel_rfl) (by kernel_rfl) (by kernel_rfl) ?_)
    | ((with_reducible show LtK _ _ _ _ _); first | (refine LtK.mk c rfl hc ?_) | (refine LtK.mk 0 rfl hk ?_))
    | ((with_reducible show ElemK _ _ _ _ _); first | (refine ElemK.mk _ hdg ?_) | (refine ElemK.mk _ hug ?_))
    | ((with_reducible show CallK _ _ 21 _ _ _ _); refine CallK.lit [901] (f21_at (a := told) (b := told) (r := true) (by omega) (decide_eq_true rfl)) c21 ⟨rfl, frz_ints rfl rfl (by rw [htold]) (by rw [htold]), trivial⟩ rfl rfl ?_)
    | ((with_reducible show CallK _ _ 12 _ _ _ _); refine CallK.lit [] (f12_at hgs hnm) c12 ⟨⟨rfl, rfl, rfl, rfl, trivial⟩, rfl, trivial⟩ rfl rfl ?_)
    | ((with_reducible show CallK _ _ 13 _ _ _ _); refine CallK.lit [] (f13_at hgs hcm) c13 ⟨⟨rfl, rfl, rfl, rfl, trivial⟩, rfl, trivial⟩ rfl rfl ?_)
    | (rw [hds])
    | (rw [hus])
    | ((with_reducible show NextG _ _ _); refine NextG.ghostRow 4 40 907 1 0 0 (.agg [.lit (.slice none 0 0), .own 902 0 (toldW ws (xk 1)).length, .own 903 0 (toldW ws (xk 2)).length, .own 904 0 (toldW ws (xk 3)).length, .own 905 0 (toldW ws (xk 4)).length, .own 906 0 (toldW ws (xk 5)).length]) (.agg [.own 907 0 0, .own 902 0 (toldW ws (xk 1)).length, .own 903 0 (toldW ws (xk 2)).length, .own 904 0 (toldW ws (xk 3)).length, .own 905 0 (toldW ws (xk 4)).length, .own 906 0 (toldW ws (xk 5)).length]) rfl rfl rfl rfl rfl rfl ?_; simp only [List.set_cons_zero]; ((with_reducible conv => whnf); (with_reducible conv => congr <;> reduce); repeat ((first | (with_reducible refine HaltK.mk ?_) | (with_reducible refine StopK.mk ?_)); (with_reducible conv => whnf); (with_reducible conv => congr <;> reduce))); refine NextG.mk (i + 1, ⟨D2, W2, nx, bz⟩) ⟨by show i + 1 ≤ _; omega, by show i + 1 ≤ 60; omega, hT'⟩ (by show L.length - (i + 1) < L.length - i; omega) (Fit.byTab [(30, 30), (40, 40), (51, 51), (61, 61), (901, 907), (902, 902), (903, 903), (904, 904), (905, 905), (906, 906)] rfl ⟨rfl, rfl⟩ ⟨rfl, ⟨rfl, rfl⟩, ⟨rfl, rfl⟩, ⟨rfl, rfl⟩, ⟨rfl, rfl⟩, rfl, by show ((i + 1 : Nat) : Int) = (i : Int) + 1; omega, trivial⟩ ⟨⟨⟨rfl, rfl, rfl, rfl, trivial⟩, trivial⟩, ⟨⟨⟨rfl, by rw [t0]; rfl⟩, ⟨rfl, by rw [t1]⟩, ⟨rfl, by rw [t2]⟩, ⟨rfl, by rw [t3]⟩, ⟨rfl, by rw [t4]⟩, ⟨rfl, by rw [t5]⟩, trivial⟩, trivial⟩, ⟨.refl (noRef_def _), noRef_def _⟩, ⟨.refl (noRef_use _), noRef_use _⟩, refl_of (by rw [t0]; rfl) (noRef_ints _), refl_of (by rw [t1]) (noRef_ints _), refl_of (by rw [t2]) (noRef_ints _), refl_of (by rw [t3]) (noRef_ints _), refl_of (by rw [t4]) (noRef_ints _), refl_of (by rw [t5]) (noRef_ints _), trivial⟩))) <;> ((with_reducible conv => whnf); (with_reducible conv => congr <;> reduce); repeat ((first | (with_reducible refine HaltK.mk ?_) | (with_reducible refine StopK.mk ?_)); (with_reducible conv => whnf); (with_reducible conv => congr <;> reduce)))
    | ((with_reducible show (_ ∧ _) ∧ _ ∧ _); refine ⟨⟨rfl, rfl⟩, ?_, ?_⟩ <;> (with_reducible conv => whnf) <;> repeat' (first | (with_reducible exact trivial) | (with_reducible refine And.intro ?_ ?_ <;> with_reducible conv => whnf))))
            · have t0 := hW 0 (by omega)
              rw [if_neg (by omega)] at t0
              have t1 := hW 1 (by omega)
              rw [if_pos rfl] at t1
              have t2 := hW 2 (by omega)
              rw [if_neg (by omega)] at t2
              have t3 := hW 3 (by omega)
              rw [if_neg (by omega)] at t3
              have t4 := hW 4 (by omega)
              rw [if_neg (by omega)] at t4
              have t5 := hW 5 (by omega)
              rw [if_neg (by omega)] at t5
              repeat' (first
    | (first
    | ((with_reducible show IfK _ _ _ _); first | refine IfK.ff ?_ | refine IfK.tt ?_ | refine IfK.no (by first | rfl | assumption | exact nf (by assumption) | exact nt (by assumption) | ((try simp only [castN]); first | (simp [hmay]; done) | (simp [hmay]; omega))) ?_ | refine IfK.yes (by first | rfl | assumption | exact nf (by assumption) | exact nt (by assumption) | ((try simp only [castN]); first | (simp [hmay]; done) | (simp [hmay]; omega))) ?_)
    | ((with_reducible show NeedK _ _ _ _); refine NeedK.mk (by (try simp only [castN]); omega) ?_)
    | ((with_reducible show DrawK _ _ _ _); refine DrawK.mk (by kernel_rfl) (by kernel_rfl) (by kernel_rfl) ?_)
    | ((with_reducible show LtK _ _ _ _ _); first | (refine LtK.mk c rfl hc ?_) | (refine LtK.mk 1 rfl hk ?_))
    | ((with_reducible show ElemK _ _ _ _ _); first | (refine ElemK.mk _ hdg ?_) | (refine ElemK.mk _ hug ?_))
    | ((with_reducible show CallK _ _ 21 _ _ _ _); refine CallK.lit [902] (f21_at (a := told) (b := told) (r := true) (by omega) (decide_eq_true rfl)) c21 ⟨rfl, frz_ints rfl rfl (by rw [htold]) (by rw [htold]), trivial⟩ rfl rfl ?_)
    | ((with_reducible show CallK _ _ 12 _ _ _ _); refine CallK.lit [] (f12_at hgs hnm) c12 ⟨⟨rfl, rfl, rfl, rfl, trivial⟩, rfl, trivial⟩ rfl rfl ?_)
    | ((with_reducible show CallK _ _ 13 _ _ _ _); refine CallK.lit [] (f13_at hgs hcm) c13 ⟨⟨rfl, rfl, rfl, rfl, trivial⟩, rfl, trivial⟩ rfl rfl ?_)
    | (rw [hds])
    | (rw [hus])
    | ((with_reducible show NextG _ _ _); refine NextG.ghostRow 4 40 907 1 0 1 (.agg [.own 901 0 (toldW ws (xk 0)).length, .lit (.slice none 0 0), .own 903 0 (toldW ws (xk 2)).length, .own 904 0 (toldW ws (xk 3)).length, .own 905 0 (toldW ws (xk 4)).length, .own 906 0 (toldW ws (xk 5)).length]) (.agg [.own 901 0 (toldW ws (xk 0)).length, .own 907 0 0, .own 903 0 (toldW ws (xk 2)).length, .own 904 0 (toldW ws (xk 3)).length, .own 905 0 (toldW ws (xk 4)).length, .own 906 0 (toldW ws (xk 5)).length]) rfl rfl rfl rfl rfl rfl ?_; simp only [List.set_cons_zero]; ((with_reducible conv => whnf); (with_reducible conv => congr <;> reduce); repeat ((first | (with_reducible refine HaltK.mk ?_) | (with_reducible refine StopK.mk ?_)); (with_reducible conv => whnf); (with_reducible conv => congr <;> reduce))); refine NextG.mk (i + 1, ⟨D2, W2, nx, bz⟩) ⟨by show i + 1 ≤ _; omega, by show i + 1 ≤ 60; omega, hT'⟩ (by show L.length - (i + 1) < L.length - i; omega) (Fit.byTab [(30, 30), (40, 40), (51, 51), (61, 61), (901, 901), (902, 907), (903, 903), (904, 904), (905, 905), (906, 906)] rfl ⟨rfl, rfl⟩ ⟨rfl, ⟨rfl, rfl⟩, ⟨rfl, rfl⟩, ⟨rfl, rfl⟩, ⟨rfl, rfl⟩, rfl, by show ((i + 1 : Nat) : Int) = (i : Int) + 1; omega, trivial⟩ ⟨⟨⟨rfl, rfl, rfl, rfl, trivial⟩, trivial⟩, ⟨⟨⟨rfl, by rw [t0]⟩, ⟨rfl, by rw [t1]; rfl⟩, ⟨rfl, by rw [t2]⟩, ⟨rfl, by rw [t3]⟩, ⟨rfl, by rw [t4]⟩, ⟨rfl, by rw [t5]⟩, trivial⟩, trivial⟩, ⟨.refl (noRef_def _), noRef_def _⟩, ⟨.refl (noRef_use _), noRef_use _⟩, refl_of (by rw [t0]) (noRef_ints _), refl_of (by rw [t1]; rfl) (noRef_ints _), refl_of (by rw [t2]) (noRef_ints _), refl_of (by rw [t3]) (noRef_ints _), refl_of (by rw [t4]) (noRef_ints _), refl_of (by rw [t5]) (noRef_ints _), trivial⟩))) <;> ((with_reducible conv => whnf); (with_reducible conv => congr <;> reduce); repeat ((first | (with_reducible refine HaltK.mk ?_) | (with_reducible refine StopK.mk ?_)); (with_reducible conv => whnf); (with_reducible conv => congr <;> reduce)))
    | ((with_reducible show (_ ∧ _) ∧ _ ∧ _); refine ⟨⟨rfl, rfl⟩, ?_, ?_⟩ <;> (with_reducible conv => whnf) <;> repeat' (first | (with_reducible exact trivial) | (with_reducible refine And.intro ?_ ?_ <;> with_reducible conv => whnf))))
            · have t0 := hW 0 (by omega)
              rw [if_neg (by omega)] at t0
              have t1 := hW 1 (by omega)
              rw [if_neg (by omega)] at t1
              have t2 := hW 2 (by omega)
              rw [if_pos rfl] at t2
              have t3 := hW 3 (by omega)
              rw [if_neg (by omega)] at t3
              have t4 := hW 4 (by omega)
              rw [if_neg (by omega)] at t4
              have t5 := hW 5 (by omega)
              rw [if_neg (by omega)] at t5
              repeat' (first
    | (first
    | ((with_reducible show IfK _ _ _ _); first | refine IfK.ff ?_ | refine IfK.tt ?_ | refine IfK.no (by first | rfl | assumption | exact nf (by assumption) | exact nt (by assumption) | ((try simp only [castN]); first | (simp [hmay]; done) | (simp [hmay]; omega))) ?_ | refine IfK.yes (by first | rfl | assumption | exact nf (by assumption) | exact nt (by assumption) | ((try simp only [castN]); first | (simp [hmay]; done) | (simp [hmay]; omega))) ?_)
    | ((with_reducible show NeedK _ _ _ _); refine NeedK.mk (by (try simp only [castN]); omega) ?_)
    | ((with_reducible show DrawK _ _ _ _); refine DrawK.mk (by kernel_rfl) (by kernel_rfl) (by kernel_rfl) ?_)
    | ((with_reducible show LtK _ _ _ _ _); first | (refine LtK.mk c rfl hc ?_) | (refine LtK.mk 2 rfl hk ?_))
    | ((with_reducible show ElemK _ _ _ _ _); first | (refine ElemK.mk _ hdg ?_) | (refine ElemK.mk _ hug ?_))
    | ((with_reducible show CallK _ _ 21 _ _ _ _); refine CallK.lit [903] (f21_at (a := told) (b := told) (r := true) (by omega) (decide_eq_true rfl)) c21 ⟨rfl, frz_ints rfl rfl (by rw [htold]) (by rw [htold]), trivial⟩ rfl rfl ?_)
    | ((with_reducible show CallK _ _ 12 _ _ _ _); refine CallK.lit [] (f12_at hgs hnm) c12 ⟨⟨rfl, rfl, rfl, rfl, trivial⟩, rfl, trivial⟩ rfl rfl ?_)
    | ((with_reducible show CallK _ _ 13 _ _ _ _); refine CallK.lit [] (f13_at hgs hcm) c13 ⟨⟨rfl, rfl, rfl, rfl, trivial⟩, rfl, trivial⟩ rfl rfl ?_)
    | (rw [hds])
    | (rw [hus])
    | ((with_reducible show NextG _ _ _); refine NextG.ghostRow 4 40 907 1 0 2 (.agg [.own 901 0 (toldW ws (xk 0)).length, .own 902 0 (toldW ws (xk 1)).length, .lit (.slice none 0 0), .own 904 0 (toldW ws (xk 3)).length, .own 905 0 (toldW ws (xk 4)).length, .own 906 0 (toldW ws (xk 5)).length]) (.agg [.own 901 0 (toldW ws (xk 0)).length, .own 902 0 (toldW ws (xk 1)).length, .own 907 0 0, .own 904 0 (toldW ws (xk 3)).length, .own 905 0 (toldW ws (xk 4)).length, .own 906 0 (toldW ws (xk 5)).length]) rfl rfl rfl rfl rfl rfl ?_; simp only [List.set_cons_zero]; ((with_reducible conv => whnf); (with_reducible conv => congr <;> reduce); repeat ((first | (with_reducible refine HaltK.mk ?_) | (with_reducible refine StopK.mk ?_)); (with_reducible conv => whnf); (with_reducible conv => congr <;> reduce))); refine NextG.mk (i + 1, ⟨D2, W2, nx, bz⟩) ⟨by show i + 1 ≤ _; omega, by show i + 1 ≤ 60; omega, hT'⟩ (by show L.length - (i + 1) < L.length - i; omega) (Fit.byTab [(30, 30), (40, 40), (51, 51), (61, 61), (901, 901), (902, 902), (903, 907), (904, 904), (905, 905), (906, 906)] rfl ⟨rfl, rfl⟩ ⟨rfl, ⟨rfl, rfl⟩, ⟨rfl, rfl⟩, ⟨rfl, rfl⟩, ⟨rfl, rfl⟩, rfl, by show ((i + 1 : Nat) : Int) = (i : Int) + 1; omega, trivial⟩ ⟨⟨⟨rfl, rfl, rfl, rfl, trivial⟩, trivial⟩, ⟨⟨⟨rfl, by rw [t0]⟩, ⟨rfl, by rw [t1]⟩, ⟨rfl, by rw [t2]; rfl⟩, ⟨rfl, by rw [t3]⟩, ⟨rfl, by rw [t4]⟩, ⟨rfl, by rw [t5]⟩, trivial⟩, trivial⟩, ⟨.refl (noRef_def _), noRef_def _⟩, ⟨.refl (noRef_use _), noRef_use _⟩, refl_of (by rw [t0]) (noRef_ints _), refl_of (by rw [t1]) (noRef_ints _), refl_of (by rw [t2]; rfl) (noRef_ints _), refl_of (by rw [t3]) (noRef_ints _), refl_of (by rw [t4]) (noRef_ints _), refl_of (by rw [t5]) (noRef_ints _), trivial⟩))) <;> ((with_reducible conv => whnf); (with_reducible conv => congr <;> reduce); repeat ((first | (with_reducible refine HaltK.mk ?_) | (with_reducible refine StopK.mk ?_)); (with_reducible conv => whnf); (with_reducible conv => congr <;> reduce)))
    | ((with_reducible show (_ ∧ _) ∧ _ ∧ _); refine ⟨⟨rfl, rfl⟩, ?_, ?_⟩ <;> (with_reducible conv => whnf) <;> repeat' (first | (with_reducible exact trivial) | (with_reducible refine And.intro ?_ ?_ <;> with_reducible conv => whnf))))
            · have t0 := hW 0 (by omega)
              rw [if_neg (by omega)] at t0
              have t1 := hW 1 (by omega)
              rw [if_neg (by omega)] at t1
              have t2 := hW 2 (by omega)
              rw [if_neg (by omega)] at t2
              have t3 := hW 3 (by omega)
              rw [if_pos rfl] at t3
              have t4 := hW 4 (by omega)
              rw [if_neg (by omega)] at t4
              have t5 := hW 5 (by omega)
              rw [if_neg (by omega)] at t5
              repeat' (first
    | (first
    | ((with_reducible show IfK _ _ _ _); first | refine IfK.ff ?_ | refine IfK.tt ?_ | refine IfK.no (by first | rfl | assumption | exact nf (by assumption) | exact nt (by assumption) | ((try simp only [castN]); first | (simp [hmay]; done) | (simp [hmay]; omega))) ?_ | refine IfK.yes (by first | rfl | assumption | exact nf (by assumption) | exact nt (by assumption) | ((try simp only [castN]); first | (simp [hmay]; done) | (simp [hmay]; omega))) ?_)
    | ((with_reducible show NeedK _ _ _ _); refine NeedK.mk (by (try simp only [castN]); omega) ?_)
    | ((with_reducible show DrawK _ _ _ _); refine DrawK.mk (by kernel_rfl) (by kernel_rfl) (by kernel_rfl) ?_)
    | ((with_reducible show LtK _ _ _ _ _); first | (refine LtK.mk c rfl hc ?_) | (refine LtK.mk 3 rfl hk ?_))
    | ((with_reducible show ElemK _ _ _ _ _); first | (refine ElemK.mk _ hdg ?_) | (refine ElemK.mk _ hug ?_))
    | ((with_reducible show CallK _ _ 21 _ _ _ _); refine CallK.lit [904] (f21_at (a := told) (b := told) (r := true) (by omega) (decide_eq_true rfl)) c21 ⟨rfl, frz_ints rfl rfl (by rw [htold]) (by rw [htold]), trivial⟩ rfl rfl ?_)
    | ((with_reducible show CallK _ _ 12 _ _ _ _); refine CallK.lit [] (f12_at hgs hnm) c12 ⟨⟨rfl, rfl, rfl, rfl, trivial⟩, rfl, trivial⟩ rfl rfl ?_)
    | ((with_reducible show CallK _ _ 13 _ _ _ _); refine CallK.lit [] (f13_at hgs hcm) c13 ⟨⟨rfl, rfl, rfl, rfl, trivial⟩, rfl, trivial⟩ rfl rfl ?_)
    | (rw [hds])
    | (rw [hus])
    | ((with_reducible show NextG _ _ _); refine NextG.ghostRow 4 40 907 1 0 3 (.agg [.own 901 0 (toldW ws (xk 0)).length, .own 902 0 (toldW ws (xk 1)).length, .own 903 0 (toldW ws (xk 2)).length, .lit (.slice none 0 0), .own 905 0 (toldW ws (xk 4)).length, .own 906 0 (toldW ws (xk 5)).length]) (.agg [.own 901 0 (toldW ws (xk 0)).length, .own 902 0 (toldW ws (xk 1)).length, .own 903 0 (toldW ws (xk 2)).length, .own 907 0 0, .own 905 0 (toldW ws (xk 4)).length, .own 906 0 (toldW ws (xk 5)).length]) rfl rfl rfl rfl rfl rfl ?_; simp only [List.set_cons_zero]; ((with_reducible conv => whnf); (with_reducible conv => congr <;> reduce); repeat ((first | (with_reducible refine HaltK.mk ?_) | (with_reducible refine StopK.mk ?_)); (with_reducible conv => whnf); (with_reducible conv => congr <;> reduce))); refine NextG.mk (i + 1, ⟨D2, W2, nx, bz⟩) ⟨by show i + 1 ≤ _; omega, by show i + 1 ≤ 60; omega, hT'⟩ (by show L.length - (i + 1) < L.length - i; omega) (Fit.byTab [(30, 30), (40, 40), (51, 51), (61, 61), (901, 901), (902, 902), (903, 903), (904, 907), (905, 905), (906, 906)] rfl ⟨rfl, rfl⟩ ⟨rfl, ⟨rfl, rfl⟩, ⟨rfl, rfl⟩, ⟨rfl, rfl⟩, ⟨rfl, rfl⟩, rfl, by show ((i + 1 : Nat) : Int) = (i : Int) + 1; omega, trivial⟩ ⟨⟨⟨rfl, rfl, rfl, rfl, trivial⟩, trivial⟩, ⟨⟨⟨rfl, by rw [t0]⟩, ⟨rfl, by rw [t1]⟩, ⟨rfl, by rw [t2]⟩, ⟨rfl, by rw [t3]; rfl⟩, ⟨rfl, by rw [t4]⟩, ⟨rfl, by rw [t5]⟩, trivial⟩, trivial⟩, ⟨.refl (noRef_def _), noRef_def _⟩, ⟨.refl (noRef_use _), noRef_use _⟩, refl_of (by rw [t0]) (noRef_ints _), refl_of (by rw [t1]) (noRef_ints _), refl_of (by rw [t2]) (noRef_ints _), refl_of (by rw [t3]; rfl) (noRef_ints _), refl_of (by rw [t4]) (noRef_ints _), refl_of (by rw [t5]) (noRef_ints _), trivial⟩))) <;> ((with_reducible conv => whnf); (with_reducible conv => congr <;> reduce); repeat ((first | (with_reducible refine HaltK.mk ?_) | (with_reducible refine StopK.mk ?_)); (with_reducible conv => whnf); (with_reducible conv => congr <;> reduce)))
    | ((with_reducible show (_ ∧ _) ∧ _ ∧ _); refine ⟨⟨rfl, rfl⟩, ?_, ?_⟩ <;> (with_reducible conv => whnf) <;> repeat' (first | (with_reducible exact trivial) | (with_reducible refine And.intro ?_ ?_ <;> with_reducible conv => whnf))))
            · have t0 := hW 0 (by omega)
              rw [if_neg (by omega)] at t0
              have t1 := hW 1 (by omega)
              rw [if_neg (by omega)] at t1
              have t2 := hW 2 (by omega)
              rw [if_neg (by omega)] at t2
              have t3 := hW 3 (by omega)
              rw [if_neg (by omega)] at t3
              have t4 := hW 4 (by omega)
              rw [if_pos rfl] at t4
              have t5 := hW 5 (by omega)
              rw [if_neg (by omega)] at t5
              repeat' (first
    | (first
    | ((with_reducible show IfK _ _ _ _); first | refine IfK.ff ?_ | refine IfK.tt ?_ | refine IfK.no (by first | rfl | assumption | exact nf (by assumption) | exact nt (by assumption) | ((try simp only [castN]); first | (simp [hmay]; done) | (simp [hmay]; omega))) ?_ | refine IfK.yes (by first | rfl | assumption | exact nf (by assumption) | exact nt (by assumption) | ((try simp only [castN]); first | (simp [hmay]; done) | (simp [hmay]; omega))) ?_)
    | ((with_reducible show NeedK _ _ _ _); refine NeedK.mk (by (try simp only [castN]); omega) ?_)
    | ((with_reducible show DrawK _ _ _ _); refine DrawK.mk (by kernel_rfl) (by kernel_rfl) (by kernel_rfl) ?_)
    | ((with_reducible show LtK _ _ _ _ _); first | (refine LtK.mk c rfl hc ?_) | (refine LtK.mk 4 rfl hk ?_))
    | ((with_reducible show ElemK _ _ _ _ _); first | (refine ElemK.mk _ hdg ?_) | (refine ElemK.mk _ hug ?_))
    | ((with_reducible show CallK _ _ 21 _ _ _ _); refine CallK.lit [905] (f21_at (a := told) (b := told) (r := true) (by omega) (decide_eq_true rfl)) c21 ⟨rfl, frz_ints rfl rfl (by rw [htold]) (by rw [htold]), trivial⟩ rfl rfl ?_)
    | ((with_reducible show CallK _ _ 12 _ _ _ _); refine CallK.lit [] (f12_at hgs hnm) c12 ⟨⟨rfl, rfl, rfl, rfl, trivial⟩, rfl, trivial⟩ rfl rfl ?_)
    | ((with_reducible show CallK _ _ 13 _ _ _ _); refine CallK.lit [] (f13_at hgs hcm) c13 ⟨⟨rfl, rfl, rfl, rfl, trivial⟩, rfl, trivial⟩ rfl rfl ?_)
    | (rw [hds])
    | (rw [hus])
    | ((with_reducible show NextG _ _ _); refine NextG.ghostRow 4 40 907 1 0 4 (.agg [.own 901 0 (toldW ws (xk 0)).length, .own 902 0 (toldW ws (xk 1)).length, .own 903 0 (toldW ws (xk 2)).length, .own 904 0 (toldW ws (xk 3)).length, .lit (.slice none 0 0), .own 906 0 (toldW ws (xk 5)).length]) (.agg [.own 901 0 (toldW ws (xk 0)).length, .own 902 0 (toldW ws (xk 1)).length, .own 903 0 (toldW ws (xk 2)).length, .own 904 0 (toldW ws (xk 3)).length, .own 907 0 0, .own 906 0 (toldW ws (xk 5)).length]) rfl rfl rfl rfl rfl rfl ?_; simp only [List.set_cons_zero]; ((with_reducible conv => whnf); (with_reducible conv => congr <;> reduce); repeat ((first | (with_reducible refine HaltK.mk ?_) | (with_reducible refine StopK.mk ?_)); (with_reducible conv => whnf); (with_reducible conv => congr <;> reduce))); refine NextG.mk (i + 1, ⟨D2, W2, nx, bz⟩) ⟨by show i + 1 ≤ _; omega, by show i + 1 ≤ 60; omega, hT'⟩ (by show L.length - (i + 1) < L.length - i; omega) (Fit.byTab [(30, 30), (40, 40), (51, 51), (61, 61), (901, 901), (902, 902), (903, 903), (904, 904), (905, 907), (906, 906)] rfl ⟨rfl, rfl⟩ ⟨rfl, ⟨rfl, rfl⟩, ⟨rfl, rfl⟩, ⟨rfl, rfl⟩, ⟨rfl, rfl⟩, rfl, by show ((i + 1 : Nat) : Int) = (i : Int) + 1; omega, trivial⟩ ⟨⟨⟨rfl, rfl, rfl, rfl, trivial⟩, trivial⟩, ⟨⟨⟨rfl, by rw [t0]⟩, ⟨rfl, by rw [t1]⟩, ⟨rfl, by rw [t2]⟩, ⟨rfl, by rw [t3]⟩, ⟨rfl, by rw [t4]; rfl⟩, ⟨rfl, by rw [t5]⟩, trivial⟩, trivial⟩, ⟨.refl (noRef_def _), noRef_def _⟩, ⟨.refl (noRef_use _), noRef_use _⟩, refl_of (by rw [t0]) (noRef_ints _), refl_of (by rw [t1]) (noRef_ints _), refl_of (by rw [t2]) (noRef_ints _), refl_of (by rw [t3]) (noRef_ints _), refl_of (by rw [t4]; rfl) (noRef_ints _), refl_of (by rw [t5]) (noRef_ints _), trivial⟩))) <;> ((with_reducible conv => whnf); (with_reducible conv => congr <;> reduce); repeat ((first | (with_reducible refine HaltK.mk ?_) | (with_reducible refine StopK.mk ?_)); (with_reducible conv => whnf); (with_reducible conv => congr <;> reduce)))
    | ((with_reducible show (_ ∧ _) ∧ _ ∧ _); refine ⟨⟨rfl, rfl⟩, ?_, ?_⟩ <;> (with_reducible conv => whnf) <;> repeat' (first | (with_reducible exact trivial) | (with_reducible refine And.intro ?_ ?_ <;> with_reducible conv => whnf))))
            · have t0 := hW 0 (by omega)
              rw [if_neg (by omega)] at t0
              have t1 := hW 1 (by omega)
              rw [if_neg (by omega)] at t1
              have t2 := hW 2 (by omega)
              rw [if_neg (by omega)] at t2
              have t3 := hW 3 (by omega)
              rw [if_neg (by omega)] at t3
              have t4 := hW 4 (by omega)
              rw [if_neg (by omega)] at t4
              have t5 := hW 5 (by omega)
              rw [if_pos rfl] at t5
              repeat' (first
    | (first
    | ((with_reducible show IfK _ _ _ _); first | refine IfK.ff ?_ | refine IfK.tt ?_ | refine IfK.no (by first | rfl | assumption | exact nf (by assumption) | exact nt (by assumption) | ((try simp only [castN]); first | (simp [hmay]; done) | (simp [hmay]; omega))) ?_ | refine IfK.yes (by first | rfl | assumption | exact nf (by assumption) | exact nt (by assumption) | ((try simp only [castN]); first | (simp [hmay]; done) | (simp [hmay]; omega))) ?_)
    | ((with_reducible show NeedK _ _ _ _); refine NeedK.mk (by (try simp only [castN]); omega) ?_)
    | ((with_reducible show DrawK _ _ _ _); refine DrawK.mk (by kernel_rfl) (by kernel_rfl) (by kernel_rfl) ?_)
    | ((with_reducible show LtK _ _ _ _ _); first | (refine LtK.mk c rfl hc ?_) | (refine LtK.mk 5 rfl hk ?_))
    | ((with_reducible show ElemK _ _ _ _ _); first | (refine ElemK.mk _ hdg ?_) | (refine ElemK.mk _ hug ?_))
    | ((with_reducible show CallK _ _ 21 _ _ _ _); refine CallK.lit [906] (f21_at (a := told) (b := told) (r := true) (by omega) (decide_eq_true rfl)) c21 ⟨rfl, frz_ints rfl rfl (by rw [htold]) (by rw [htold]), trivial⟩ rfl rfl ?_)
    | ((with_reducible show CallK _ _ 12 _ _ _ _); refine CallK.lit [] (f12_at hgs hnm) c12 ⟨⟨rfl, rfl, rfl, rfl, trivial⟩, rfl, trivial⟩ rfl rfl ?_)
    | ((with_reducible show CallK _ _ 13 _ _ _ _); refine CallK.lit [] (f13_at hgs hcm) c13 ⟨⟨rfl, rfl, rfl, rfl, trivial⟩, rfl, trivial⟩ rfl rfl ?_)
    | (rw [hds])
    | (rw [hus])
    | ((with_reducible show NextG _ _ _); refine NextG.ghostRow 4 40 907 1 0 5 (.agg [.own 901 0 (toldW ws (xk 0)).length, .own 902 0 (toldW ws (xk 1)).length, .own 903 0 (toldW ws (xk 2)).length, .own 904 0 (toldW ws (xk 3)).length, .own 905 0 (toldW ws (xk 4)).length, .lit (.slice none 0 0)]) (.agg [.own 901 0 (toldW ws (xk 0)).length, .own 902 0 (toldW ws (xk 1)).length, .own 903 0 (toldW ws (xk 2)).length, .own 904 0 (toldW ws (xk 3)).length, .own 905 0 (toldW ws (xk 4)).length, .own 907 0 0]) rfl rfl rfl rfl rfl rfl ?_; simp only [List.set_cons_zero]; ((with_reducible conv => whnf); (with_reducible conv => congr <;> reduce); repeat ((first | (with_reducible refine HaltK.mk ?_) | (with_reducible refine StopK.mk ?_)); (with_reducible conv => whnf); (with_reducible conv => congr <;> reduce))); refine NextG.mk (i + 1, ⟨D2, W2, nx, bz⟩) ⟨by show i + 1 ≤ _; omega, by show i + 1 ≤ 60; omega, hT'⟩ (by show L.length - (i + 1) < L.length - i; omega) (Fit.byTab [(30, 30), (40, 40), (51, 51), (61, 61), (901, 901), (902, 902), (903, 903), (904, 904), (905, 905), (906, 907)] rfl ⟨rfl, rfl⟩ ⟨rfl, ⟨rfl, rfl⟩, ⟨rfl, rfl⟩, ⟨rfl, rfl⟩, ⟨rfl, rfl⟩, rfl, by show ((i + 1 : Nat) : Int) = (i : Int) + 1; omega, trivial⟩ ⟨⟨⟨rfl, rfl, rfl, rfl, trivial⟩, trivial⟩, ⟨⟨⟨rfl, by rw [t0]⟩, ⟨rfl, by rw [t1]⟩, ⟨rfl, by rw [t2]⟩, ⟨rfl, by rw [t3]⟩, ⟨rfl, by rw [t4]⟩, ⟨rfl, by rw [t5]; rfl⟩, trivial⟩, trivial⟩, ⟨.refl (noRef_def _), noRef_def _⟩, ⟨.refl (noRef_use _), noRef_use _⟩, refl_of (by rw [t0]) (noRef_ints _), refl_of (by rw [t1]) (noRef_ints _), refl_of (by rw [t2]) (noRef_ints _), refl_of (by rw [t3]) (noRef_ints _), refl_of (by rw [t4]) (noRef_ints _), refl_of (by rw [t5]; rfl) (noRef_ints _), trivial⟩))) <;> ((with_reducible conv => whnf); (with_reducible conv => congr <;> reduce); repeat ((first | (with_reducible refine HaltK.mk ?_) | (with_reducible refine StopK.mk ?_)); (with_reducible conv => whnf); (with_reducible conv => congr <;> reduce)))
    | ((with_reducible show (_ ∧ _) ∧ _ ∧ _); refine ⟨⟨rfl, rfl⟩, ?_, ?_⟩ <;> (with_reducible conv => whnf) <;> repeat' (first | (with_reducible exact trivial) | (with_reducible refine And.intro ?_ ?_ <;> with_reducible conv => whnf))))
    · repeat' (first
    | (first
    | ((with_reducible show IfK _ _ _ _); first | refine IfK.ff ?_ | refine IfK.tt ?_ | refine IfK.no (by first | rfl | assumption | exact nf (by assumption) | exact nt (by assumption) | ((try simp only [castN]); first | (simp [h2]; done) | (simp [h2]; omega))) ?_ | refine IfK.yes (by first | rfl | assumption | exact nf (by assumption) | exact nt (by assumption) | ((try simp only [castN]); first | (simp [h2]; done) | (simp [h2]; omega))) ?_)
    | ((with_reducible show NeedK _ _ _ _); refine NeedK.mk (by (try simp only [castN]); omega) ?_)
    | ((with_reducible show DrawK _ _ _ _); refine DrawK.mk (by kernel_rfl) (by kernel_rfl) (by kernel_rfl) ?_)) <;> ((with_reducible conv => whnf); (with_reducible conv => congr <;> reduce); repeat ((first | (with_reducible refine HaltK.mk ?_) | (with_reducible refine StopK.mk ?_)); (with_reducible conv => whnf); (with_reducible conv => congr <;> reduce)))
    | ((with_reducible show (_ ∧ _) ∧ _ ∧ _); refine ⟨⟨rfl, rfl⟩, ?_, ?_⟩ <;> (with_reducible conv => whnf) <;> repeat' (first | (with_reducible exact trivial) | (with_reducible refine And.intro ?_ ?_ <;> with_reducible conv => whnf))))
      refine LoopK.use G G_good (fun (k : Nat) => [(3, .ptr 30 0 0), (4, .ptr 40 0 0), (7, eInt nx), (20, eInt (sumT ws k)), (21, eInt k)]) (fun k => [(30, .live 4 [eDesk ⟨l, ws, nx, bz⟩] false), (40, .live 6 [.agg [.own 901 0 (toldW ws (xk 0)).length, .own 902 0 (toldW ws (xk 1)).length, .own 903 0 (toldW ws (xk 2)).length, .own 904 0 (toldW ws (xk 3)).length, .own 905 0 (toldW ws (xk 4)).length, .own 906 0 (toldW ws (xk 5)).length]] false), (901, .live 1 ((toldW ws (xk 0)).map oInt) false), (902, .live 1 ((toldW ws (xk 1)).map oInt) false), (903, .live 1 ((toldW ws (xk 2)).map oInt) false), (904, .live 1 ((toldW ws (xk 3)).map oInt) false), (905, .live 1 ((toldW ws (xk 4)).map oInt) false), (906, .live 1 ((toldW ws (xk 5)).map oInt) false)]) (fun k => k ≤ 6) (fun k => 6 - k) 0 (Nat.zero_le _)
        (Fit.byTab [(30, 30), (40, 40), (901, 901), (902, 902), (903, 903), (904, 904), (905, 905), (906, 906)] rfl ⟨rfl, rfl⟩ ⟨⟨rfl, rfl⟩, ⟨rfl, rfl⟩, rfl, rfl, rfl, trivial⟩ ⟨⟨⟨rfl, rfl, rfl, rfl, trivial⟩, trivial⟩, ⟨⟨⟨rfl, rfl⟩, ⟨rfl, rfl⟩, ⟨rfl, rfl⟩, ⟨rfl, rfl⟩, ⟨rfl, rfl⟩, ⟨rfl, rfl⟩, trivial⟩, trivial⟩, ⟨.refl (noRef_ints _), noRef_ints _⟩, ⟨.refl (noRef_ints _), noRef_ints _⟩, ⟨.refl (noRef_ints _), noRef_ints _⟩, ⟨.refl (noRef_ints _), noRef_ints _⟩, ⟨.refl (noRef_ints _), noRef_ints _⟩, ⟨.refl (noRef_ints _), noRef_ints _⟩, trivial⟩) ?_
      intro k hk6
      ((with_reducible conv => whnf); (with_reducible conv => congr <;> reduce); repeat ((first | (with_reducible refine HaltK.mk ?_) | (with_reducible refine StopK.mk ?_)); (with_reducible conv => whnf); (with_reducible conv => congr <;> reduce)))
      refine IfK.mk (fun g1 => ?_) (fun g1 => ?_) <;> (try simp only [castN] at g1) <;> ((with_reducible conv => whnf); (with_reducible conv => congr <;> reduce); repeat ((first | (with_reducible refine HaltK.mk ?_) | (with_reducible refine StopK.mk ?_)); (with_reducible conv => whnf); (with_reducible conv => congr <;> reduce)))
      · simp only [decide_eq_true_eq] at g1
        have hcase : k = 0 ∨ k = 1 ∨ k = 2 ∨ k = 3 ∨ k = 4 ∨ k = 5 := by omega
        rcases hcase with rfl | rfl | rfl | rfl | rfl | rfl
        · have hll := hlen 0
          have hs6 := sumT_small ws 0 hlen (by omega)
          repeat' (first
    | (first
    | ((with_reducible show IfK _ _ _ _); first | refine IfK.ff ?_ | refine IfK.tt ?_ | refine IfK.no (by first | rfl | assumption | exact nf (by assumption) | exact nt (by assumption) | ((try simp only [castN]); first | (simp [hll]; done) | (simp [hll]; omega))) ?_ | refine IfK.yes (by first | rfl | assumption | exact nf (by assumption) | exact nt (by assumption) | ((try simp only [castN]); first | (simp [hll]; done) | (simp [hll]; omega))) ?_)
    | ((with_reducible show NeedK _ _ _ _); refine NeedK.mk (by (try simp only [castN]); omega) ?_)
    | ((with_reducible show DrawK _ _ _ _); refine DrawK.mk (by kernel_rfl) (by kernel_rfl) (by kernel_rfl) ?_)
    | ((with_reducible show LtK _ _ _ _ _); refine LtK.mk 0 rfl (show (0 : Nat) < 6 by decide) ?_)
    | ((with_reducible show NextK _ _); refine NextK.mk 1 (by omega) (by omega) (Fit.byTab [(30, 30), (40, 40), (901, 901), (902, 902), (903, 903), (904, 904), (905, 905), (906, 906)] rfl ⟨rfl, rfl⟩ ⟨⟨rfl, rfl⟩, ⟨rfl, rfl⟩, rfl, by show ((sumT ws 0 + (toldW ws (xk 0)).length : Nat) : Int) = _; exact Int.natCast_add _ _, rfl, trivial⟩ ⟨⟨⟨rfl, rfl, rfl, rfl, trivial⟩, trivial⟩, ⟨⟨⟨rfl, rfl⟩, ⟨rfl, rfl⟩, ⟨rfl, rfl⟩, ⟨rfl, rfl⟩, ⟨rfl, rfl⟩, ⟨rfl, rfl⟩, trivial⟩, trivial⟩, ⟨.refl (noRef_ints _), noRef_ints _⟩, ⟨.refl (noRef_ints _), noRef_ints _⟩, ⟨.refl (noRef_ints _), noRef_ints _⟩, ⟨.refl (noRef_ints _), noRef_ints _⟩, ⟨.refl (noRef_ints _), noRef_ints _⟩, ⟨.refl (noRef_ints _), noRef_ints _⟩, trivial⟩))) <;> ((with_reducible conv => whnf); (with_reducible conv => congr <;> reduce); repeat ((first | (with_reducible refine HaltK.mk ?_) | (with_reducible refine StopK.mk ?_)); (with_reducible conv => whnf); (with_reducible conv => congr <;> reduce)))
    | ((with_reducible show (_ ∧ _) ∧ _ ∧ _); refine ⟨⟨rfl, rfl⟩, ?_, ?_⟩ <;> (with_reducible conv => whnf) <;> repeat' (first | (with_reducible exact trivial) | (with_reducible refine And.intro ?_ ?_ <;> with_reducible conv => whnf))))
        · have hll := hlen 1
          have hs6 := sumT_small ws 1 hlen (by omega)
          repeat' (first
    | (first
    | ((with_reducible show IfK _ _ _ _); first | refine IfK.ff ?_ | refine IfK.tt ?_ | refine IfK.no (by first | rfl | assumption | exact nf (by assumption) | exact nt (by assumption) | ((try simp only [castN]); first | (simp [hll]; done) | (simp [hll]; omega))) ?_ | refine IfK.yes (by first | rfl | assumption | exact nf (by assumption) | exact nt (by assumption) | ((try simp only [castN]); first | (simp [hll]; done) | (simp [hll]; omega))) ?_)
    | ((with_reducible show NeedK _ _ _ _); refine NeedK.mk (by (try simp only [castN]); omega) ?_)
    | ((with_reducible show DrawK _ _ _ _); refine DrawK.mk (by kernel_rfl) (by kernel_rfl) (by kernel_rfl) ?_)
    | ((with_reducible show LtK _ _ _ _ _); refine LtK.mk 1 rfl (show (1 : Nat) < 6 by decide) ?_)
    | ((with_reducible show NextK _ _); refine NextK.mk 2 (by omega) (by omega) (Fit.byTab [(30, 30), (40, 40), (901, 901), (902, 902), (903, 903), (904, 904), (905, 905), (906, 906)] rfl ⟨rfl, rfl⟩ ⟨⟨rfl, rfl⟩, ⟨rfl, rfl⟩, rfl, by show ((sumT ws 1 + (toldW ws (xk 1)).length : Nat) : Int) = _; exact Int.natCast_add _ _, rfl, trivial⟩ ⟨⟨⟨rfl, rfl, rfl, rfl, trivial⟩, trivial⟩, ⟨⟨⟨rfl, rfl⟩, ⟨rfl, rfl⟩, ⟨rfl, rfl⟩, ⟨rfl, rfl⟩, ⟨rfl, rfl⟩, ⟨rfl, rfl⟩, trivial⟩, trivial⟩, ⟨.refl (noRef_ints _), noRef_ints _⟩, ⟨.refl (noRef_ints _), noRef_ints _⟩, ⟨.refl (noRef_ints _), noRef_ints _⟩, ⟨.refl (noRef_ints _), noRef_ints _⟩, ⟨.refl (noRef_ints _), noRef_ints _⟩, ⟨.refl (noRef_ints _), noRef_ints _⟩, trivial⟩))) <;> ((with_reducible conv => whnf); (with_reducible conv => congr <;> reduce); repeat ((first | (with_reducible refine HaltK.mk ?_) | (with_reducible refine StopK.mk ?_)); (with_reducible conv => whnf); (with_reducible conv => congr <;> reduce)))
    | ((with_reducible show (_ ∧ _) ∧ _ ∧ _); refine ⟨⟨rfl, rfl⟩, ?_, ?_⟩ <;> (with_reducible conv => whnf) <;> repeat' (first | (with_reducible exact trivial) | (with_reducible refine And.intro ?_ ?_ <;> with_reducible conv => whnf))))
        · have hll := hlen 2
          have hs6 := sumT_small ws 2 hlen (by omega)
          repeat' (first
    | (first
    | ((with_reducible show IfK _ _ _ _); first | refine IfK.ff ?_ | refine IfK.tt ?_ | refine IfK.no (by first | rfl | assumption | exact nf (by assumption) | exact nt (by assumption) | ((try simp only [castN]); first | (simp [hll]; done) | (simp [hll]; omega))) ?_ | refine IfK.yes (by first | rfl | assumption | exact nf (by assumption) | exact nt (by assumption) | ((try simp only [castN]); first | (simp [hll]; done) | (simp [hll]; omega))) ?_)
    | ((with_reducible show NeedK _ _ _ _); refine NeedK.mk (by (try simp only [castN]); omega) ?_)
    | ((with_reducible show DrawK _ _ _ _); refine DrawK.mk (by kernel_rfl) (by kernel_rfl) (by kernel_rfl) ?_)
    | ((with_reducible show LtK _ _ _ _ _); refine LtK.mk 2 rfl (show (2 : Nat) < 6 by decide) ?_)
    | ((with_reducible show NextK _ _); refine NextK.mk 3 (by omega) (by omega) (Fit.byTab [(30, 30), (40, 40), (901, 901), (902, 902), (903, 903), (904, 904), (905, 905), (906, 906)] rfl ⟨rfl, rfl⟩ ⟨⟨rfl, rfl⟩, ⟨rfl, rfl⟩, rfl, by show ((sumT ws 2 + (toldW ws (xk 2)).length : Nat) : Int) = _; exact Int.natCast_add _ _, rfl, trivial⟩ ⟨⟨⟨rfl, rfl, rfl, rfl, trivial⟩, trivial⟩, ⟨⟨⟨rfl, rfl⟩, ⟨rfl, rfl⟩, ⟨rfl, rfl⟩, ⟨rfl, rfl⟩, ⟨rfl, rfl⟩, ⟨rfl, rfl⟩, trivial⟩, trivial⟩, ⟨.refl (noRef_ints _), noRef_ints _⟩, ⟨.refl (noRef_ints _), noRef_ints _⟩, ⟨.refl (noRef_ints _), noRef_ints _⟩, ⟨.refl (noRef_ints _), noRef_ints _⟩, ⟨.refl (noRef_ints _), noRef_ints _⟩, ⟨.refl (noRef_ints _), noRef_ints _⟩, trivial⟩))) <;> ((with_reducible conv => whnf); (with_reducible conv => congr <;> reduce); repeat ((first | (with_reducible refine HaltK.mk ?_) | (with_reducible refine StopK.mk ?_)); (with_reducible conv => whnf); (with_reducible conv => congr <;> reduce)))
    | ((with_reducible show (_ ∧ _) ∧ _ ∧ _); refine ⟨⟨rfl, rfl⟩, ?_, ?_⟩ <;> (with_reducible conv => whnf) <;> repeat' (first | (with_reducible exact trivial) | (with_reducible refine And.intro ?_ ?_ <;> with_reducible conv => whnf))))
        · have hll := hlen 3
          have hs6 := sumT_small ws 3 hlen (by omega)
          repeat' (first
    | (first
    | ((with_reducible show IfK _ _ _ _); first | refine IfK.ff ?_ | refine IfK.tt ?_ | refine IfK.no (by first | rfl | assumption | exact nf (by assumption) | exact nt (by assumption) | ((try simp only [castN]); first | (simp [hll]; done) | (simp [hll]; omega))) ?_ | refine IfK.yes (by first | rfl | assumption | exact nf (by assumption) | exact nt (by assumption) | ((try simp only [castN]); first | (simp [hll]; done) | (simp [hll]; omega))) ?_)
    | ((with_reducible show NeedK _ _ _ _); refine NeedK.mk (by (try simp only [castN]); omega) ?_)
    | ((with_reducible show DrawK _ _ _ _); refine DrawK.mk (by kernel_rfl) (by kernel_rfl) (by kernel_rfl) ?_)
    | ((with_reducible show LtK _ _ _ _ _); refine LtK.mk 3 rfl (show (3 : Nat) < 6 by decide) ?_)
    | ((with_reducible show NextK _ _); refine NextK.mk 4 (by omega) (by omega) (Fit.byTab [(30, 30), (40, 40), (901, 901), (902, 902), (903, 903), (904, 904), (905, 905), (906, 906)] rfl ⟨rfl, rfl⟩ ⟨⟨rfl, rfl⟩, ⟨rfl, rfl⟩, rfl, by show ((sumT ws 3 + (toldW ws (xk 3)).length : Nat) : Int) = _; exact Int.natCast_add _ _, rfl, trivial⟩ ⟨⟨⟨rfl, rfl, rfl, rfl, trivial⟩, trivial⟩, ⟨⟨⟨rfl, rfl⟩, ⟨rfl, rfl⟩, ⟨rfl, rfl⟩, ⟨rfl, rfl⟩, ⟨rfl, rfl⟩, ⟨rfl, rfl⟩, trivial⟩, trivial⟩, ⟨.refl (noRef_ints _), noRef_ints _⟩, ⟨.refl (noRef_ints _), noRef_ints _⟩, ⟨.refl (noRef_ints _), noRef_ints _⟩, ⟨.refl (noRef_ints _), noRef_ints _⟩, ⟨.refl (noRef_ints _), noRef_ints _⟩, ⟨.refl (noRef_ints _), noRef_ints _⟩, trivial⟩))) <;> ((with_reducible conv => whnf); (with_reducible conv => congr <;> reduce); repeat ((first | (with_reducible refine HaltK.mk ?_) | (with_reducible refine StopK.mk ?_)); (with_reducible conv => whnf); (with_reducible conv => congr <;> reduce)))
    | ((with_reducible show (_ ∧ _) ∧ _ ∧ _); refine ⟨⟨rfl, rfl⟩, ?_, ?_⟩ <;> (with_reducible conv => whnf) <;> repeat' (first | (with_reducible exact trivial) | (with_reducible refine And.intro ?_ ?_ <;> with_reducible conv => whnf))))
        · have hll := hlen 4
          have hs6 := sumT_small ws 4 hlen (by omega)
          repeat' (first
    | (first
    | ((with_reducible show IfK _ _ _ _); first | refine IfK.ff ?_ | refine IfK.tt ?_ | refine IfK.no (by first | rfl | assumption | exact nf (by assumption) | exact nt (by assumption) | ((try simp only [castN]); first | (simp [hll]; done) | (simp [hll]; omega))) ?_ | refine IfK.yes (by first | rfl | assumption | exact nf (by assumption) | exact nt (by assumption) | ((try simp only [castN]); first | (simp [hll]; done) | (simp [hll]; omega))) ?_)
    | ((with_reducible show NeedK _ _ _ _); refine NeedK.mk (by (try simp only [castN]); omega) ?_)
    | ((with_reducible show DrawK _ _ _ _); refine DrawK.mk (by kernel_rfl) (by kernel_rfl) (by kernel_rfl) ?_)
    | ((with_reducible show LtK _ _ _ _ _); refine LtK.mk 4 rfl (show (4 : Nat) < 6 by decide) ?_)
    | ((with_reducible show NextK _ _); refine NextK.mk 5 (by omega) (by omega) (Fit.byTab [(30, 30), (40, 40), (901, 901), (902, 902), (903, 903), (904, 904), (905, 905), (906, 906)] rfl ⟨rfl, rfl⟩ ⟨⟨rfl, rfl⟩, ⟨rfl, rfl⟩, rfl, by show ((sumT ws 4 + (toldW ws (xk 4)).length : Nat) : Int) = _; exact Int.natCast_add _ _, rfl, trivial⟩ ⟨⟨⟨rfl, rfl, rfl, rfl, trivial⟩, trivial⟩, ⟨⟨⟨rfl, rfl⟩, ⟨rfl, rfl⟩, ⟨rfl, rfl⟩, ⟨rfl, rfl⟩, ⟨rfl, rfl⟩, ⟨rfl, rfl⟩, trivial⟩, trivial⟩, ⟨.refl (noRef_ints _), noRef_ints _⟩, ⟨.refl (noRef_ints _), noRef_ints _⟩, ⟨.refl (noRef_ints _), noRef_ints _⟩, ⟨.refl (noRef_ints _), noRef_ints _⟩, ⟨.refl (noRef_ints _), noRef_ints _⟩, ⟨.refl (noRef_ints _), noRef_ints _⟩, trivial⟩))) <;> ((with_reducible conv => whnf); (with_reducible conv => congr <;> reduce); repeat ((first | (with_reducible refine HaltK.mk ?_) | (with_reducible refine StopK.mk ?_)); (with_reducible conv => whnf); (with_reducible conv => congr <;> reduce)))
    | ((with_reducible show (_ ∧ _) ∧ _ ∧ _); refine ⟨⟨rfl, rfl⟩, ?_, ?_⟩ <;> (with_reducible conv => whnf) <;> repeat' (first | (with_reducible exact trivial) | (with_reducible refine And.intro ?_ ?_ <;> with_reducible conv => whnf))))
        · have hll := hlen 5
          have hs6 := sumT_small ws 5 hlen (by omega)
          repeat' (first
    | (first
    | ((with_reducible show IfK _ _ _ _); first | refine IfK.ff ?_ | refine IfK.tt ?_ | refine IfK.no (by first | rfl | assumption | exact nf (by assumption) | exact nt (by assumption) | ((try simp only [castN]); first | (simp [hll]; done) | (simp [hll]; omega))) ?_ | refine IfK.yes (by first | rfl | assumption | exact nf (by assumption) | exact nt (by assumption) | ((try simp only [castN]); first | (simp [hll]; done) | (simp [hll]; omega))) ?_)
    | ((with_reducible show NeedK _ _ _ _); refine NeedK.mk (by (try simp only [castN]); omega) ?_)
    | ((with_reducible show DrawK _ _ _ _); refine DrawK.mk (by kernel_rfl) (by kernel_rfl) (by kernel_rfl) ?_)
    | ((with_reducible show LtK _ _ _ _ _); refine LtK.mk 5 rfl (show (5 : Nat) < 6 by decide) ?_)
    | ((with_reducible show NextK _ _); refine NextK.mk 6 (by omega) (by omega) (Fit.byTab [(30, 30), (40, 40), (901, 901), (902, 902), (903, 903), (904, 904), (905, 905), (906, 906)] rfl ⟨rfl, rfl⟩ ⟨⟨rfl, rfl⟩, ⟨rfl, rfl⟩, rfl, by show ((sumT ws 5 + (toldW ws (xk 5)).length : Nat) : Int) = _; exact Int.natCast_add _ _, rfl, trivial⟩ ⟨⟨⟨rfl, rfl, rfl, rfl, trivial⟩, trivial⟩, ⟨⟨⟨rfl, rfl⟩, ⟨rfl, rfl⟩, ⟨rfl, rfl⟩, ⟨rfl, rfl⟩, ⟨rfl, rfl⟩, ⟨rfl, rfl⟩, trivial⟩, trivial⟩, ⟨.refl (noRef_ints _), noRef_ints _⟩, ⟨.refl (noRef_ints _), noRef_ints _⟩, ⟨.refl (noRef_ints _), noRef_ints _⟩, ⟨.refl (noRef_ints _), noRef_ints _⟩, ⟨.refl (noRef_ints _), noRef_ints _⟩, ⟨.refl (noRef_ints _), noRef_ints _⟩, trivial⟩))) <;> ((with_reducible conv => whnf); (with_reducible conv => congr <;> reduce); repeat ((first | (with_reducible refine HaltK.mk ?_) | (with_reducible refine StopK.mk ?_)); (with_reducible conv => whnf); (with_reducible conv => congr <;> reduce)))
    | ((with_reducible show (_ ∧ _) ∧ _ ∧ _); refine ⟨⟨rfl, rfl⟩, ?_, ?_⟩ <;> (with_reducible conv => whnf) <;> repeat' (first | (with_reducible exact trivial) | (with_reducible refine And.intro ?_ ?_ <;> with_reducible conv => whnf))))
      · have hk : k = 6 := by simp only [decide_eq_false_iff_not] at g1; omega
        subst hk
        have hsum : sumT ws 6 = ws.length := sumT_all hT.names
        have hwm : (ws.map oWait).length = ws.length := List.length_map ..
        repeat' (first
    | (first
    | ((with_reducible show IfK _ _ _ _); first | refine IfK.ff ?_ | refine IfK.tt ?_ | refine IfK.no (by first | rfl | assumption | exact nf (by assumption) | exact nt (by assumption) | ((try simp only [castN]); first | (simp [hsum, hwm]; done) | (simp [hsum, hwm]; omega))) ?_ | refine IfK.yes (by first | rfl | assumption | exact nf (by assumption) | exact nt (by assumption) | ((try simp only [castN]); first | (simp [hsum, hwm]; done) | (simp [hsum, hwm]; omega))) ?_)
    | ((with_reducible show NeedK _ _ _ _); refine NeedK.mk (by (try simp only [castN]); omega) ?_)
    | ((with_reducible show DrawK _ _ _ _); refine DrawK.mk (by kernel_rfl) (by kernel_rfl) (by kernel_rfl) ?_)
    | ((with_reducible show CallK _ _ 14 _ _ _ _); refine CallK.lit [] (f14_at hM hR) c14 ⟨⟨rfl, rfl, rfl, rfl, trivial⟩, trivial⟩ rfl rfl ?_)) <;> ((with_reducible conv => whnf); (with_reducible conv => congr <;> reduce); repeat ((first | (with_reducible refine HaltK.mk ?_) | (with_reducible refine StopK.mk ?_)); (with_reducible conv => whnf); (with_reducible conv => congr <;> reduce)))
    | ((with_reducible show (_ ∧ _) ∧ _ ∧ _); refine ⟨⟨rfl, rfl⟩, ?_, ?_⟩ <;> (with_reducible conv => whnf) <;> repeat' (first | (with_reducible exact trivial) | (with_reducible refine And.intro ?_ ?_ <;> with_reducible conv => whnf))))
  · repeat' (first
    | (first
    | ((with_reducible show IfK _ _ _ _); first | refine IfK.ff ?_ | refine IfK.tt ?_ | refine IfK.no (by first | rfl | assumption | exact nf (by assumption) | exact nt (by assumption) | ((try simp only [castN]); first | (simp [h1]; done) | (simp [h1]; omega))) ?_ | refine IfK.yes (by first | rfl | assumption | exact nf (by assumption) | exact nt (by assumption) | ((try simp only [castN]); first | (simp [h1]; done) | (simp [h1]; omega))) ?_)
    | ((with_reducible show NeedK _ _ _ _); refine NeedK.mk (by (try simp only [castN]); omega) ?_)
    | ((with_reducible show DrawK _ _ _ _); refine DrawK.mk (by kernel_rfl) (by kernel_rfl) (by kernel_rfl) ?_)) <;> ((with_reducible conv => whnf); (with_reducible conv => congr <;> reduce); repeat ((first | (with_reducible refine HaltK.mk ?_) | (with_reducible refine StopK.mk ?_)); (with_reducible conv => whnf); (with_reducible conv => congr <;> reduce)))
    | ((with_reducible show (_ ∧ _) ∧ _ ∧ _); refine ⟨⟨rfl, rfl⟩, ?_, ?_⟩ <;> (with_reducible conv => whnf) <;> repeat' (first | (with_reducible exact trivial) | (with_reducible refine And.intro ?_ ?_ <;> with_reducible conv => whnf))))
    refine LoopK.use G G_good (fun (k : Nat) => [(3, .ptr 30 0 0), (4, .ptr 40 0 0), (7, eInt nx), (20, eInt (sumT ws k)), (21, eInt k)]) (fun k => [(30, .live 4 [eDesk ⟨l, ws, nx, bz⟩] false), (40, .live 6 [.agg [.own 901 0 (toldW ws (xk 0)).length, .own 902 0 (toldW ws (xk 1)).length, .own 903 0 (toldW ws (xk 2)).length, .own 904 0 (toldW ws (xk 3)).length, .own 905 0 (toldW ws (xk 4)).length, .own 906 0 (toldW ws (xk 5)).length]] false), (901, .live 1 ((toldW ws (xk 0)).map oInt) false), (902, .live 1 ((toldW ws (xk 1)).map oInt) false), (903, .live 1 ((toldW ws (xk 2)).map oInt) false), (904, .live 1 ((toldW ws (xk 3)).map oInt) false), (905, .live 1 ((toldW ws (xk 4)).map oInt) false), (906, .live 1 ((toldW ws (xk 5)).map oInt) false)]) (fun k => k ≤ 6) (fun k => 6 - k) 0 (Nat.zero_le _)
      (Fit.byTab [(30, 30), (40, 40), (901, 901), (902, 902), (903, 903), (904, 904), (905, 905), (906, 906)] rfl ⟨rfl, rfl⟩ ⟨⟨rfl, rfl⟩, ⟨rfl, rfl⟩, rfl, rfl, rfl, trivial⟩ ⟨⟨⟨rfl, rfl, rfl, rfl, trivial⟩, trivial⟩, ⟨⟨⟨rfl, rfl⟩, ⟨rfl, rfl⟩, ⟨rfl, rfl⟩, ⟨rfl, rfl⟩, ⟨rfl, rfl⟩, ⟨rfl, rfl⟩, trivial⟩, trivial⟩, ⟨.refl (noRef_ints _), noRef_ints _⟩, ⟨.refl (noRef_ints _), noRef_ints _⟩, ⟨.refl (noRef_ints _), noRef_ints _⟩, ⟨.refl (noRef_ints _), noRef_ints _⟩, ⟨.refl (noRef_ints _), noRef_ints _⟩, ⟨.refl (noRef_ints _), noRef_ints _⟩, trivial⟩) ?_
    intro k hk6
    ((with_reducible conv => whnf); (with_reducible conv => congr <;> reduce); repeat ((first | (with_reducible refine HaltK.mk ?_) | (with_reducible refine StopK.mk ?_)); (with_reducible conv => whnf); (with_reducible conv => congr <;> reduce)))
    refine IfK.mk (fun g1 => ?_) (fun g1 => ?_) <;> (try simp only [castN] at g1) <;> ((with_reducible conv => whnf); (with_reducible conv => congr <;> reduce); repeat ((first | (with_reducible refine HaltK.mk ?_) | (with_reducible refine StopK.mk ?_)); (with_reducible conv => whnf); (with_reducible conv => congr <;> reduce)))
    · simp only [decide_eq_true_eq] at g1
      have hcase : k = 0 ∨ k = 1 ∨ k = 2 ∨ k = 3 ∨ k = 4 ∨ k = 5 := by omega
      rcases hcase with rfl | rfl | rfl | rfl | rfl | rfl
      · have hll := hlen 0
        have hs6 := sumT_small ws 0 hlen (by omega)
        repeat' (first
    | (first
    | ((with_reducible show IfK _ _ _ _); first | refine IfK.ff ?_ | refine IfK.tt ?_ | refine IfK.no (by first | rfl | assumption | exact nf (by assumption) | exact nt (by assumption) | ((try simp only [castN]); first | (simp [hll]; done) | (simp [hll]; omega))) ?_ | refine IfK.yes (by first | rfl | assumption | exact nf (by assumption) | exact nt (by assumption) | ((try simp only [castN]); first | (simp [hll]; done) | (simp [hll]; omega))) ?_)
    | ((with_reducible show NeedK _ _ _ _); refine NeedK.mk (by (try simp only [castN]); omega) ?_)
    | ((with_reducible show DrawK _ _ _ _); refine DrawK.mk (by kernel_rfl) (by kernel_rfl) (by kernel_rfl) ?_)
    | ((with_reducible show LtK _ _ _ _ _); refine LtK.mk 0 rfl (show (0 : Nat) < 6 by decide) ?_)
    | ((with_reducible show NextK _ _); refine NextK.mk 1 (by omega) (by omega) (Fit.byTab [(30, 30), (40, 40), (901, 901), (902, 902), (903, 903), (904, 904), (905, 905), (906, 906)] rfl ⟨rfl, rfl⟩ ⟨⟨rfl, rfl⟩, ⟨rfl, rfl⟩, rfl, by show ((sumT ws 0 + (toldW ws (xk 0)).length : Nat) : Int) = _; exact Int.natCast_add _ _, rfl, trivial⟩ ⟨⟨⟨rfl, rfl, rfl, rfl, trivial⟩, trivial⟩, ⟨⟨⟨rfl, rfl⟩, ⟨rfl, rfl⟩, ⟨rfl, rfl⟩, ⟨rfl, rfl⟩, ⟨rfl, rfl⟩, ⟨rfl, rfl⟩, trivial⟩, trivial⟩, ⟨.refl (noRef_ints _), noRef_ints _⟩, ⟨.refl (noRef_ints _), noRef_ints _⟩, ⟨.refl (noRef_ints _), noRef_ints _⟩, ⟨.refl (noRef_ints _), noRef_ints _⟩, ⟨.refl (noRef_ints _), noRef_ints _⟩, ⟨.refl (noRef_ints _), noRef_ints _⟩, trivial⟩))) <;> ((with_reducible conv => whnf); (with_reducible conv => congr <;> reduce); repeat ((first | (with_reducible refine HaltK.mk ?_) | (with_reducible refine StopK.mk ?_)); (with_reducible conv => whnf); (with_reducible conv => congr <;> reduce)))
    | ((with_reducible show (_ ∧ _) ∧ _ ∧ _); refine ⟨⟨rfl, rfl⟩, ?_, ?_⟩ <;> (with_reducible conv => whnf) <;> repeat' (first | (with_reducible exact trivial) | (with_reducible refine And.intro ?_ ?_ <;> with_reducible conv => whnf))))
      · have hll := hlen 1
        have hs6 := sumT_small ws 1 hlen (by omega)
        repeat' (first
    | (first
    | ((with_reducible show IfK _ _ _ _); first | refine IfK.ff ?_ | refine IfK.tt ?_ | refine IfK.no (by first | rfl | assumption | exact nf (by assumption) | exact nt (by assumption) | ((try simp only [castN]); first | (simp [hll]; done) | (simp [hll]; omega))) ?_ | refine IfK.yes (by first | rfl | assumption | exact nf (by assumption) | exact nt (by assumption) | ((try simp only [castN]); first | (simp [hll]; done) | (simp [hll]; omega))) ?_)
    | ((with_reducible show NeedK _ _ _ _); refine NeedK.mk (by (try simp only [castN]); omega) ?_)
    | ((with_reducible show DrawK _ _ _ _); refine DrawK.mk (by kernel_rfl) (by kernel_rfl) (by kernel_rfl) ?_)
    | ((with_reducible show LtK _ _ _ _ _); refine LtK.mk 1 rfl (show (1 : Nat) < 6 by decide) ?_)
    | ((with_reducible show NextK _ _); refine NextK.mk 2 (by omega) (by omega) (Fit.byTab [(30, 30), (40, 40), (901, 901), (902, 902), (903, 903), (904, 904), (905, 905), (906, 906)] rfl ⟨rfl, rfl⟩ ⟨⟨rfl, rfl⟩, ⟨rfl, rfl⟩, rfl, by show ((sumT ws 1 + (toldW ws (xk 1)).length : Nat) : Int) = _; exact Int.natCast_add _ _, rfl, trivial⟩ ⟨⟨⟨rfl, rfl, rfl, rfl, trivial⟩, trivial⟩, ⟨⟨⟨rfl, rfl⟩, ⟨rfl, rfl⟩, ⟨rfl, rfl⟩, ⟨rfl, rfl⟩, ⟨rfl, rfl⟩, ⟨rfl, rfl⟩, trivial⟩, trivial⟩, ⟨.refl (noRef_ints _), noRef_ints _⟩, ⟨.refl (noRef_ints _), noRef_ints _⟩, ⟨.refl (noRef_ints _), noRef_ints _⟩, ⟨.refl (noRef_ints _), noRef_ints _⟩, ⟨.refl (noRef_ints _), noRef_ints _⟩, ⟨.refl (noRef_ints _), noRef_ints _⟩, trivial⟩))) <;> ((with_reducible conv => whnf); (with_reducible conv => congr <;> reduce); repeat ((first | (with_reducible refine HaltK.mk ?_) | (with_reducible refine StopK.mk ?_)); (with_reducible conv => whnf); (with_reducible conv => congr <;> reduce)))
    | ((with_reducible show (_ ∧ _) ∧ _ ∧ _); refine ⟨⟨rfl, rfl⟩, ?_, ?_⟩ <;> (with_reducible conv => whnf) <;> repeat' (first | (with_reducible exact trivial) | (with_reducible refine And.intro ?_ ?_ <;> with_reducible conv => whnf))))
      · have hll := hlen 2
        have hs6 := sumT_small ws 2 hlen (by omega)
        repeat' (first
    | (first
    | ((with_reducible show IfK _ _ _ _); first | refine IfK.ff ?_ | refine IfK.tt ?_ | refine IfK.no (by first | rfl | assumption | exact nf (by assumption) | exact nt (by assumption) | ((try simp only [castN]); first | (simp [hll]; done) | (simp [hll]; omega))) ?_ | refine IfK.yes (by first | rfl | assumption | exact nf (by assumption) | exact nt (by assumption) | ((try simp only [castN]); first | (simp [hll]; done) | (simp [hll]; omega))) ?_)
    | ((with_reducible show NeedK _ _ _ _); refine NeedK.mk (by (try simp only [castN]); omega) ?_)
    | ((with_reducible show DrawK _ _ _ _); refine DrawK.mk (by kernel_rfl) (by kernel_rfl) (by kernel_rfl) ?_)
    | ((with_reducible show LtK _ _ _ _ _); refine LtK.mk 2 rfl (show (2 : Nat) < 6 by decide) ?_)
    | ((with_reducible show NextK _ _); refine NextK.mk 3 (by omega) (by omega) (Fit.byTab [(30, 30), (40, 40), (901, 901), (902, 902), (903, 903), (904, 904), (905, 905), (906, 906)] rfl ⟨rfl, rfl⟩ ⟨⟨rfl, rfl⟩, ⟨rfl, rfl⟩, rfl, by show ((sumT ws 2 + (toldW ws (xk 2)).length : Nat) : Int) = _; exact Int.natCast_add _ _, rfl, trivial⟩ ⟨⟨⟨rfl, rfl, rfl, rfl, trivial⟩, trivial⟩, ⟨⟨⟨rfl, rfl⟩, ⟨rfl, rfl⟩, ⟨rfl, rfl⟩, ⟨rfl, rfl⟩, ⟨rfl, rfl⟩, ⟨rfl, rfl⟩, trivial⟩, trivial⟩, ⟨.refl (noRef_ints _), noRef_ints _⟩, ⟨.refl (noRef_ints _), noRef_ints _⟩, ⟨.refl (noRef_ints _), noRef_ints _⟩, ⟨.refl (noRef_ints _), noRef_ints _⟩, ⟨.refl (noRef_ints _), noRef_ints _⟩, ⟨.refl (noRef_ints _), noRef_ints _⟩, trivial⟩))) <;> ((with_reducible conv => whnf); (with_reducible conv => congr <;> reduce); repeat ((first | (with_reducible refine HaltK.mk ?_) | (with_reducible refine StopK.mk ?_)); (with_reducible conv => whnf); (with_reducible conv => congr <;> reduce)))
    | ((with_reducible show (_ ∧ _) ∧ _ ∧ _); refine ⟨⟨rfl, rfl⟩, ?_, ?_⟩ <;> (with_reducible conv => whnf) <;> repeat' (first | (with_reducible exact trivial) | (with_reducible refine And.intro ?_ ?_ <;> with_reducible conv => whnf))))
      · have hll := hlen 3
        have hs6 := sumT_small ws 3 hlen (by omega)
        repeat' (first
    | (first
    | ((with_reducible show IfK _ _ _ _); first | refine IfK.ff ?_ | refine IfK.tt ?_ | refine IfK.no (by first | rfl | assumption | exact nf (by assumption) | exact nt (by assumption) | ((try simp only [castN]); first | (simp [hll]; done) | (simp [hll]; omega))) ?_ | refine IfK.yes (by first | rfl | assumption | exact nf (by assumption) | exact nt (by assumption) | ((try simp only [castN]); first | (simp [hll]; done) | (simp [hll]; omega))) ?_)
    | ((with_reducible show NeedK _ _ _ _); refine NeedK.mk (by (try simp only [castN]); omega) ?_)
    | ((with_reducible show DrawK _ _ _ _); refine DrawK.mk (by kernel_rfl) (by kernel_rfl) (by kernel_rfl) ?_)
    | ((with_reducible show LtK _ _ _ _ _); refine LtK.mk 3 rfl (show (3 : Nat) < 6 by decide) ?_)
    | ((with_reducible show NextK _ _); refine NextK.mk 4 (by omega) (by omega) (Fit.byTab [(30, 30), (40, 40), (901, 901), (902, 902), (903, 903), (904, 904), (905, 905), (906, 906)] rfl ⟨rfl, rfl⟩ ⟨⟨rfl, rfl⟩, ⟨rfl, rfl⟩, rfl, by show ((sumT ws 3 + (toldW ws (xk 3)).length : Nat) : Int) = _; exact Int.natCast_add _ _, rfl, trivial⟩ ⟨⟨⟨rfl, rfl, rfl, rfl, trivial⟩, trivial⟩, ⟨⟨⟨rfl, rfl⟩, ⟨rfl, rfl⟩, ⟨rfl, rfl⟩, ⟨rfl, rfl⟩, ⟨rfl, rfl⟩, ⟨rfl, rfl⟩, trivial⟩, trivial⟩, ⟨.refl (noRef_ints _), noRef_ints _⟩, ⟨.refl (noRef_ints _), noRef_ints _⟩, ⟨.refl (noRef_ints _), noRef_ints _⟩, ⟨.refl (noRef_ints _), noRef_ints _⟩, ⟨.refl (noRef_ints _), noRef_ints _⟩, ⟨.refl (noRef_ints _), noRef_ints _⟩, trivial⟩))) <;> ((with_reducible conv => whnf); (with_reducible conv => congr <;> reduce); repeat ((first | (with_reducible refine HaltK.mk ?_) | (with_reducible refine StopK.mk ?_)); (with_reducible conv => whnf); (with_reducible conv => congr <;> reduce)))
    | ((with_reducible show (_ ∧ _) ∧ _ ∧ _); refine ⟨⟨rfl, rfl⟩, ?_, ?_⟩ <;> (with_reducible conv => whnf) <;> repeat' (first | (with_reducible exact trivial) | (with_reducible refine And.intro ?_ ?_ <;> with_reducible conv => whnf))))
      · have hll := hlen 4
        have hs6 := sumT_small ws 4 hlen (by omega)
        repeat' (first
    | (first
    | ((with_reducible show IfK _ _ _ _); first | refine IfK.ff ?_ | refine IfK.tt ?_ | refine IfK.no (by first | rfl | assumption | exact nf (by assumption) | exact nt (by assumption) | ((try simp only [castN]); first | (simp [hll]; done) | (simp [hll]; omega))) ?_ | refine IfK.yes (by first | rfl | assumption | exact nf (by assumption) | exact nt (by assumption) | ((try simp only [castN]); first | (simp [hll]; done) | (simp [hll]; omega))) ?_)
    | ((with_reducible show NeedK _ _ _ _); refine NeedK.mk (by (try simp only [castN]); omega) ?_)
    | ((with_reducible show DrawK _ _ _ _); refine DrawK.mk (by kernel_rfl) (by kernel_rfl) (by kernel_rfl) ?_)
    | ((with_reducible show LtK _ _ _ _ _); refine LtK.mk 4 rfl (show (4 : Nat) < 6 by decide) ?_)
    | ((with_reducible show NextK _ _); refine NextK.mk 5 (by omega) (by omega) (Fit.byTab [(30, 30), (40, 40), (901, 901), (902, 902), (903, 903), (904, 904), (905, 905), (906, 906)] rfl ⟨rfl, rfl⟩ ⟨⟨rfl, rfl⟩, ⟨rfl, rfl⟩, rfl, by show ((sumT ws 4 + (toldW ws (xk 4)).length : Nat) : Int) = _; exact Int.natCast_add _ _, rfl, trivial⟩ ⟨⟨⟨rfl, rfl, rfl, rfl, trivial⟩, trivial⟩, ⟨⟨⟨rfl, rfl⟩, ⟨rfl, rfl⟩, ⟨rfl, rfl⟩, ⟨rfl, rfl⟩, ⟨rfl, rfl⟩, ⟨rfl, rfl⟩, trivial⟩, trivial⟩, ⟨.refl (noRef_ints _), noRef_ints _⟩, ⟨.refl (noRef_ints _), noRef_ints _⟩, ⟨.refl (noRef_ints _), noRef_ints _⟩, ⟨.refl (noRef_ints _), noRef_ints _⟩, ⟨.refl (noRef_ints _), noRef_ints _⟩, ⟨.refl (noRef_ints _), noRef_ints _⟩, trivial⟩))) <;> ((with_reducible conv => whnf); (with_reducible conv => congr <;> reduce); repeat ((first | (with_reducible refine HaltK.mk ?_) | (with_reducible refine StopK.mk ?_)); (with_reducible conv => whnf); (with_reducible conv => congr <;> reduce)))
    | ((with_reducible show (_ ∧ _) ∧ _ ∧ _); refine ⟨⟨rfl, rfl⟩, ?_, ?_⟩ <;> (with_reducible conv => whnf) <;> repeat' (first | (with_reducible exact trivial) | (with_reducible refine And.intro ?_ ?_ <;> with_reducible conv => whnf))))
      · have hll := hlen 5
        have hs6 := sumT_small ws 5 hlen (by omega)
        repeat' (first
    | (first
    | ((with_reducible show IfK _ _ _ _); first | refine IfK.ff ?_ | refine IfK.tt ?_ | refine IfK.no (by first | rfl | assumption | exact nf (by assumption) | exact nt (by assumption) | ((try simp only [castN]); first | (simp [hll]; done) | (simp [hll]; omega))) ?_ | refine IfK.yes (by first | rfl | assumption | exact nf (by assumption) | exact nt (by assumption) | ((try simp only [castN]); first | (simp [hll]; done) | (simp [hll]; omega))) ?_)
    | ((with_reducible show NeedK _ _ _ _); refine NeedK.mk (by (try simp only [castN]); omega) ?_)
    | ((with_reducible show DrawK _ _ _ _); refine DrawK.mk (by kernel_rfl) (by kernel_rfl) (by kernel_rfl) ?_)
    | ((with_reducible show LtK _ _ _ _ _); refine LtK.mk 5 rfl (show (5 : Nat) < 6 by decide) ?_)
    | ((with_reducible show NextK _ _); refine NextK.mk 6 (by omega) (by omega) (Fit.byTab [(30, 30), (40, 40), (901, 901), (902, 902), (903, 903), (904, 904), (905, 905), (906, 906)] rfl ⟨rfl, rfl⟩ ⟨⟨rfl, rfl⟩, ⟨rfl, rfl⟩, rfl, by show ((sumT ws 5 + (toldW ws (xk 5)).length : Nat) : Int) = _; exact Int.natCast_add _ _, rfl, trivial⟩ ⟨⟨⟨rfl, rfl, rfl, rfl, trivial⟩, trivial⟩, ⟨⟨⟨rfl, rfl⟩, ⟨rfl, rfl⟩, ⟨rfl, rfl⟩, ⟨rfl, rfl⟩, ⟨rfl, rfl⟩, ⟨rfl, rfl⟩, trivial⟩, trivial⟩, ⟨.refl (noRef_ints _), noRef_ints _⟩, ⟨.refl (noRef_ints _), noRef_ints _⟩, ⟨.refl (noRef_ints _), noRef_ints _⟩, ⟨.refl (noRef_ints _), noRef_ints _⟩, ⟨.refl (noRef_ints _), noRef_ints _⟩, ⟨.refl (noRef_ints _), noRef_ints _⟩, trivial⟩))) <;> ((with_reducible conv => whnf); (with_reducible conv => congr <;> reduce); repeat ((first | (with_reducible refine HaltK.mk ?_) | (with_reducible refine StopK.mk ?_)); (with_reducible conv => whnf); (with_reducible conv => congr <;> reduce)))
    | ((with_reducible show (_ ∧ _) ∧ _ ∧ _); refine ⟨⟨rfl, rfl⟩, ?_, ?_⟩ <;> (with_reducible conv => whnf) <;> repeat' (first | (with_reducible exact trivial) | (with_reducible refine And.intro ?_ ?_ <;> with_reducible conv => whnf))))
    · have hk : k = 6 := by simp only [decide_eq_false_iff_not] at g1; omega
      subst hk
      have hsum : sumT ws 6 = ws.length := sumT_all hT.names
      have hwm : (ws.map oWait).length = ws.length := List.length_map ..
      repeat' (first
    | (first
    | ((with_reducible show IfK _ _ _ _); first | refine IfK.ff ?_ | refine IfK.tt ?_ | refine IfK.no (by first | rfl | assumption | exact nf (by assumption) | exact nt (by assumption) | ((try simp only [castN]); first | (simp [hsum, hwm]; done) | (simp [hsum, hwm]; omega))) ?_ | refine IfK.yes (by first | rfl | assumption | exact nf (by assumption) | exact nt (by assumption) | ((try simp only [castN]); first | (simp [hsum, hwm]; done) | (simp [hsum, hwm]; omega))) ?_)
    | ((with_reducible show NeedK _ _ _ _); refine NeedK.mk (by (try simp only [castN]); omega) ?_)
    | ((with_reducible show DrawK _ _ _ _); refine DrawK.mk (by kernel_rfl) (by kernel_rfl) (by kernel_rfl) ?_)
    | ((with_reducible show CallK _ _ 14 _ _ _ _); refine CallK.lit [] (f14_at hM hR) c14 ⟨⟨rfl, rfl, rfl, rfl, trivial⟩, trivial⟩ rfl rfl ?_)) <;> ((with_reducible conv => whnf); (with_reducible conv => congr <;> reduce); repeat ((first | (with_reducible refine HaltK.mk ?_) | (with_reducible refine StopK.mk ?_)); (with_reducible conv => whnf); (with_reducible conv => congr <;> reduce)))
    | ((with_reducible show (_ ∧ _) ∧ _ ∧ _); refine ⟨⟨rfl, rfl⟩, ?_, ?_⟩ <;> (with_reducible conv => whnf) <;> repeat' (first | (with_reducible exact trivial) | (with_reducible refine And.intro ?_ ?_ <;> with_reducible conv => whnf))))
end Go.Proofs.DeskD
end
