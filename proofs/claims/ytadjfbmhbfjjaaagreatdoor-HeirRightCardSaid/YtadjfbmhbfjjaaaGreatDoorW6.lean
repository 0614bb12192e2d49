/- Models, plain laws and contracts of functions of the given program; conditions as stated in each theorem. By an AI agent. -/
import Derived.Test.YtadjfbmhbfjjaaaGreatDoorW5
import Derived.Test.YtadjfbmhbfjjaaaGreatDoorW4
import Derived.Laws.StructEq
import Derived.Tactics
import Derived.Test.YtadjfbmhbfjjaaaGreatDoorW1
import Derived.Test.YtadjfbmhbfjjaaaGreatDoorRows
import Derived.ProofKit
import Derived.LaidMore
import Derived.OpenShut
import Derived.Stop.Joined
import Derived.Lib.LaidTab
import Derived.MakeChecks
section
set_option linter.unusedSimpArgs false
set_option linter.unusedVariables false
namespace Go.Proofs.Heir
open Go.Am Go.RowKit Go.Lib
def xk (k : Nat) : ByteArray := ⟨#[120, 45, UInt8.ofNat (97 + k)]⟩
structure TellInv (d : DeskM) (i : Nat) : Prop where
  right : rightD d = true
  busy : d.busy = false
  names : ∀ w ∈ d.waits, ∃ k < 6, w.name = xk k
  next : d.next ≤ i
theorem TellInv.first : TellInv ⟨[], [], 0, false⟩ 0 := ⟨by decide, rfl, fun w h => by simp at h, by decide⟩
end Go.Proofs.Heir
end
section
set_option linter.unusedSimpArgs false
set_option linter.unusedVariables false
namespace Go.Proofs.Heir
open Go.Am Go.RowKit Go.Lib
section
variable {K : Type} [DecidableEq K] (key : DefM → K)
def ixFrom (i : Nat) (t : List (K × Int)) : List DefM → List (K × Int)
  | [] => t
  | x :: r => ixFrom (i + 1) (tput (key x) (i : Int) t) r
def ixT (l : List DefM) : List (K × Int) := ixFrom key 0 [] l
theorem ixFrom_snoc (x : DefM) : ∀ (l : List DefM) (i : Nat) (t : List (K × Int)), ixFrom key i t (l ++ [x]) = tput (key x) ((i + l.length : Nat) : Int) (ixFrom key i t l)
  | [], i, t => rfl
  | y :: r, i, t => by
    rw [List.cons_append, ixFrom, ixFrom_snoc x r, ixFrom, List.length_cons]
    congr 2
    omega
theorem ixT_snoc {l : List DefM} {k : Nat} {x : DefM} (h : l[k]? = some x) : ixT key (l.take (k + 1)) = tput (key x) (k : Int) (ixT key (l.take k)) := by
  have hk := (List.getElem?_eq_some_iff.1 h).1
  rw [List.take_succ_eq_append_getElem hk, (List.getElem?_eq_some_iff.1 h).2]
  unfold ixT
  rw [ixFrom_snoc, List.length_take]
  congr 2
  omega
theorem tputI_len (k : K) (x : Int) : ∀ t : List (K × Int), (tput k x t).length = if (tget k t).isSome then t.length else t.length + 1
  | [] => rfl
  | p :: r => by
    simp only [tput, tget]
    split
    · simp
    · rw [List.length_cons, tputI_len k x r]; split <;> simp
theorem ixFrom_len : ∀ (l : List DefM) (i : Nat) (t : List (K × Int)), (ixFrom key i t l).length ≤ t.length + l.length ∧ ((ixFrom key i t l).length = t.length + l.length ↔ (l.map key).Nodup ∧ ∀ a ∈ l, (tget (key a) t).isSome = false)
  | [], i, t => by simp [ixFrom]
  | a :: r, i, t => by
    obtain ⟨h1, h2⟩ := ixFrom_len r (i + 1) (tput (key a) (i : Int) t)
    have hl := tputI_len (key a) (i : Int) t
    show (ixFrom key (i + 1) (tput (key a) (i : Int) t) r).length ≤ _ ∧ ((ixFrom key (i + 1) (tput (key a) (i : Int) t) r).length = _ ↔ _)
    cases hg : (tget (key a) t).isSome with
    | true =>
      rw [hg, if_pos rfl] at hl
      refine ⟨by simp only [List.length_cons]; omega, ⟨fun h => ?_, fun h => ?_⟩⟩
      · simp only [List.length_cons] at h; omega
      · have := h.2 a (by simp); rw [hg] at this; cases this
    | false =>
      rw [hg, if_neg (by simp)] at hl
      refine ⟨by simp only [List.length_cons]; omega, ?_⟩
      rw [show (ixFrom key (i + 1) (tput (key a) (i : Int) t) r).length = t.length + (a :: r).length ↔ (ixFrom key (i + 1) (tput (key a) (i : Int) t) r).length = (tput (key a) (i : Int) t).length + r.length from by rw [hl, List.length_cons]; omega, h2]
      simp only [List.map_cons, List.nodup_cons, List.mem_cons, forall_eq_or_imp]
      constructor
      · rintro ⟨k1, k2⟩
        refine ⟨⟨fun hm => ?_, k1⟩, hg, fun b hb => ?_⟩
        · obtain ⟨b, hb, he⟩ := List.mem_map.1 hm
          have := k2 b hb
          rw [tget_put, he, if_pos rfl] at this; cases this
        · have := k2 b hb
          rw [tget_put] at this
          split at this
          · cases this
          · exact this
      · rintro ⟨⟨k1, k2⟩, _, k3⟩
        refine ⟨k2, fun b hb => ?_⟩
        rw [tget_put, if_neg (fun e => k1 (List.mem_map.2 ⟨b, hb, e.symm⟩))]
        exact k3 b hb
theorem ixT_len (l : List DefM) : (ixT key l).length = l.length ↔ (l.map key).Nodup := by
  have := (ixFrom_len key l 0 []).2
  simp only [List.length_nil, Nat.zero_add] at this
  exact this.trans ⟨fun h => h.1, fun h => ⟨h, fun _ _ => rfl⟩⟩
theorem ixT_le (l : List DefM) : (ixT key l).length ≤ l.length := by
  have := (ixFrom_len key l 0 []).1
  simp only [List.length_nil, Nat.zero_add] at this
  exact this
theorem ixFrom_miss {s : K} : ∀ (l : List DefM) (i : Nat) (t : List (K × Int)), (∀ a ∈ l, key a ≠ s) → tget s (ixFrom key i t l) = tget s t
  | [], i, t, _ => rfl
  | a :: r, i, t, h => by
    rw [ixFrom, ixFrom_miss r (i + 1) _ fun b hb => h b (List.mem_cons_of_mem _ hb), tget_put, if_neg (h a (List.mem_cons_self ..))]
theorem ixFrom_hit {s : K} : ∀ (l : List DefM) (i : Nat) (t : List (K × Int)) (j : Nat) (a : DefM), (l.map key).Nodup → l[j]? = some a → key a = s → tget s (ixFrom key i t l) = some ((i + j : Nat) : Int)
  | [], i, t, j, a, _, h, _ => by simp at h
  | x :: r, i, t, 0, a, hn, h, he => by
    simp at h; subst h
    simp only [List.map_cons, List.nodup_cons] at hn
    rw [ixFrom, ixFrom_miss key r (i + 1) _ fun b hb e => hn.1 (List.mem_map.2 ⟨b, hb, e.trans he.symm⟩), tget_put, if_pos he]
    rfl
  | x :: r, i, t, j + 1, a, hn, h, he => by
    simp only [List.map_cons, List.nodup_cons] at hn
    rw [ixFrom, ixFrom_hit r (i + 1) _ j a hn.2 (by simpa using h) he]
    congr 1; omega
theorem ixT_miss {l : List DefM} {s : K} (h : ∀ a ∈ l, key a ≠ s) : tget s (ixT key l) = none := ixFrom_miss key l 0 [] h
theorem ixT_hit {l : List DefM} {s : K} {j : Nat} {a : DefM} (hn : (l.map key).Nodup) (h : l[j]? = some a) (he : key a = s) : tget s (ixT key l) = some (j : Int) := by
  have := ixFrom_hit key l 0 [] j a hn h he
  simpa [ixT] using this
end
def kN (x : DefM) : ByteArray := x.name
def kC (x : DefM) : Int := x.cls
theorem tgetN {l : List DefM} (h : (l.map DefM.name).Nodup) (s : ByteArray) : (tget s (ixT kN l) = none ∧ posN l s = -1) ∨ ∃ (k : Nat) (x : DefM), tget s (ixT kN l) = some (k : Int) ∧ posN l s = k ∧ l[k]? = some x ∧ x.name = s := by
  rcases ixI_cases (hasN s) l with ⟨h1, h2⟩ | ⟨k, x, h1, h2, h3, _⟩
  · exact .inl ⟨ixT_miss kN fun a ha => of_decide_eq_false (h2 a ha), h1⟩
  · have he : x.name = s := of_decide_eq_true h3
    exact .inr ⟨k, x, ixT_hit kN h h2 he, h1, h2, he⟩
def procL (l : List DefM) : List DefM := l.take ((l.takeWhile goodD).length + 1)
theorem takeW_all {l : List DefM} (h : ∀ x ∈ l, goodD x = true) : l.takeWhile goodD = l := by
  induction l with
  | nil => rfl
  | cons x r ih => rw [List.takeWhile_cons_of_pos (h x (List.mem_cons_self ..)), ih fun y hy => h y (List.mem_cons_of_mem _ hy)]
theorem procL_all {l : List DefM} (h : ∀ x ∈ l, goodD x = true) : procL l = l := by
  unfold procL
  rw [takeW_all h, List.take_of_length_le (by omega)]
theorem procL_bad {l : List DefM} {k : Nat} {x : DefM} (h : ∀ (j : Nat) (y : DefM), j < k → l[j]? = some y → goodD y = true) (hx : l[k]? = some x) (hb : goodD x = false) : procL l = l.take (k + 1) := by
  unfold procL
  have hk := (List.getElem?_eq_some_iff.1 hx).1
  have e : l = l.take k ++ x :: l.drop (k + 1) := by
    rw [← (List.getElem?_eq_some_iff.1 hx).2, List.getElem_cons_drop, List.take_append_drop]
  have hg : ∀ y ∈ l.take k, goodD y = true := fun y hy => by
    obtain ⟨j, hj⟩ := List.getElem?_of_mem hy
    rw [List.getElem?_take] at hj
    split at hj
    · rename_i hjk; exact h j y hjk hj
    · cases hj
  have : (l.takeWhile goodD).length = k := by
    conv => lhs; rw [e]
    rw [List.takeWhile_append_of_pos hg, List.takeWhile_cons_of_neg (by simp [hb])]
    simp; omega
  rw [this]
end Go.Proofs.Heir
end
section
set_option linter.unusedSimpArgs false
set_option linter.unusedVariables false
namespace Go.Proofs.Heir
open Go.Am Go.RowKit Go.Lib
set_option maxRecDepth 100000
set_option maxHeartbeats 8000000
@[reducible] def eDef (x : DefM) : AV := .agg [eStr x.name, eStr x.locl, eInt x.cls]
def oDef (x : DefM) : AV := eDef x
@[reducible] def eDefs (l : List DefM) : AV := .sl 3 (l.map oDef)
@[reducible] def eWait (w : WaitM) : AV := .agg [eStr w.name, eInt w.ticket]
def oWait (w : WaitM) : AV := eWait w
@[reducible] def eWaits (l : List WaitM) : AV := .sl 2 (l.map oWait)
@[reducible] def eDesk (d : DeskM) : AV := .agg [eDefs d.defs, eWaits d.waits, eInt d.next, eBool d.busy]
theorem def_get {l : List DefM} {k : Nat} {x : DefM} (h : l[k]? = some x) : (l.map oDef)[k]? = some (eDef x) := by rw [List.getElem?_map, h]; rfl
theorem wait_get {l : List WaitM} {k : Nat} {x : WaitM} (h : l[k]? = some x) : (l.map oWait)[k]? = some (eWait x) := by rw [List.getElem?_map, h]; rfl
@[reducible] def rN (l : List DefM) : MS := .live 2 (tRows Value.string oInt (ixT kN l)) false
@[reducible] def rC (l : List DefM) : MS := .live 2 (tRows vInt oInt (ixT kC l)) false
theorem noRef_tab {K : Type} (kv : K → Value) (t : List (K × Int)) : noRefL (tRows kv oInt t) = true := by
  rw [noRefL_iff]; intro x hx
  obtain ⟨a, _, rfl⟩ := List.mem_map.1 hx
  rfl
theorem map62 : MapTy Tryz.prog 130 .string (.int .i64 0) := ⟨9, 3, by kernel_rfl, by kernel_rfl, fun w => Tryz.zeroValue3 w⟩
theorem map63 : MapTy Tryz.prog 131 (.int .i64) (.int .i64 0) := ⟨3, 3, by kernel_rfl, by kernel_rfl, fun w => Tryz.zeroValue3 w⟩
theorem f42_at {s : ByteArray} {b : Bool} (h : customS s = b) : FnOK Tryz.prog 42 [] [eStr s] [] (eBool b) := by have := f42_ok s; rwa [h] at this
theorem f43_at {s : ByteArray} {b : Bool} (hs : s.size ≤ 100000) (h : customS s = b) : FnOK Tryz.prog 43 [] [eStr s] [] (eBool b) := by have := f43_ok s hs; rwa [h] at this
theorem f122_at {s : ByteArray} {b : Bool} (h : knowS s = b) : FnOK Tryz.prog 122 [] [eStr s] [] (eBool b) := by have := f122_ok s; unfold knowS at h; rwa [h] at this
theorem f45_at {s : ByteArray} {b : Bool} (h : knowS s = b) : FnOK Tryz.prog 45 [] [eStr s] [] (eBool b) := by have := f45_ok s; unfold knowS at h; rwa [h] at this
theorem f104_ok (d : DeskM) (hl : d.defs.length ≤ 100000) : FnOK Tryz.prog 104 [] [eDesk d] [rN (procL d.defs), rC (procL d.defs)] (.tup [.agg [.mapr 0, .mapr 1], eBool (defsB d.defs)]) := by
  obtain ⟨l, ws, nx, bz⟩ := d
  have hlm : (l.map oDef).length = l.length := List.length_map ..
  refine FnOK.startC (rvs := [.cell 2 133, .tmp 3]) G G_good Tryz.func104 rfl Tryz.ntmps104 rfl rfl ?_; with_reducible refine wD ?_
  have hl' : l.length ≤ 100000 := hl
  refine LoopK.use G G_good (fun (k : Nat) => [(1, .ptr 10 0 0), (2, .ptr 20 0 0), (4, .ptr 40 0 0), (12, eDefs l), (13, eInt l.length), (14, eInt k)])
    (fun k => [(10, .live 4 [eDesk ⟨l, ws, nx, bz⟩] false), (20, .live 2 [.agg [.lit (.map none), .lit (.map none)]] false), (40, .live 2 [.agg [.mapr 81, .mapr 91]] false), (81, rN (l.take k)), (91, rC (l.take k))])
    (fun k => k ≤ l.length ∧ ∀ (j : Nat) (y : DefM), j < k → l[j]? = some y → goodD y = true) (fun k => l.length - k) 0 ⟨Nat.zero_le _, fun j y h => by omega⟩
    ⟨⟨rfl, rfl⟩, ⟨⟨rfl, rfl⟩, ⟨rfl, rfl⟩, ⟨rfl, rfl⟩, rfl, by show (l.length : Int) = ((l.map oDef).length : Int); rw [hlm], rfl, trivial⟩, ⟨⟨rfl, rfl, rfl, rfl, trivial⟩, trivial⟩, ⟨⟨⟨rfl, rfl⟩, ⟨rfl, rfl⟩, trivial⟩, trivial⟩, ⟨⟨trivial, trivial, trivial⟩, trivial⟩, ⟨.refl rfl, rfl⟩, ⟨.refl rfl, rfl⟩, trivial⟩ ?_
  intro k ⟨hk, hok⟩
  with_reducible refine wK ?_
  refine IfK.mk (fun h1 => ?_) (fun h1 => ?_) <;> (try simp only [castN] at h1) <;> with_reducible refine wK ?_
  · simp only [decide_eq_true_eq] at h1
    have hk' : k < l.length := by omega
    obtain ⟨⟨n, lo, c⟩, hx⟩ : ∃ a, l[k]? = some a := ⟨_, List.getElem?_eq_getElem hk'⟩
    refine IdxK.mk k (eDef ⟨n, lo, c⟩) rfl (def_get hx) ?_; with_reducible refine wK ?_
    have hle1 : (ixT kN (l.take k)).length ≤ k := Nat.le_trans (ixT_le _ _) (by simp; omega)
    have hle2 : (ixT kC (l.take k)).length ≤ k := Nat.le_trans (ixT_le _ _) (by simp; omega)
    refine PutK.tab Value.string oInt (ixT kN (l.take k)) (k := n) (k : Int) map62 rfl key_str inj_str (by unfold maxLen; omega) rfl ?_; with_reducible refine wK ?_
    refine PutK.tab vInt oInt (ixT kC (l.take k)) (k := c) (k : Int) map63 rfl key_int inj_int (by unfold maxLen; omega) rfl ?_; with_reducible refine wK ?_
    have e1 : tput n (k : Int) (ixT kN (l.take k)) = ixT kN (l.take (k + 1)) := (ixT_snoc kN hx).symm
    have e2 : tput c (k : Int) (ixT kC (l.take k)) = ixT kC (l.take (k + 1)) := (ixT_snoc kC hx).symm
    rw [e1, e2]
    refine dK ?_; with_reducible refine wK ?_
    cases hg : goodD ⟨n, lo, c⟩ with
    | true =>
      obtain ⟨g1, g2, g3, g4⟩ := goodD_facts hg
      simp only at g1 g2 g3 g4
      have hnext : ∀ (j : Nat) (y : DefM), j < k + 1 → l[j]? = some y → goodD y = true := fun j y hj hy => by
        by_cases e : j = k
        · subst e; rw [hx] at hy; cases hy; exact hg
        · exact hok j y (by omega) hy
      by_cases e : lo = n
      · (have fct := And.intro e (And.intro g1 (And.intro g3 (g4))); (repeat' (first
    | refine gF ?_
    | ((first
      | ((with_reducible show CallK _ _ 42 _ _ _ _); refine CallK.lit [] (f42_at g1) c42 ⟨rfl, trivial⟩ rfl rfl ?_)
      | ((with_reducible show NextK _ _); refine NextK.mk (k + 1) ⟨by omega, hnext⟩ (by omega) ⟨⟨rfl, rfl⟩, ⟨⟨rfl, rfl⟩, ⟨rfl, rfl⟩, ⟨rfl, rfl⟩, rfl, rfl, by show ((k + 1 : Nat) : Int) = (k : Int) + 1; omega, trivial⟩, ⟨⟨rfl, rfl, rfl, rfl, trivial⟩, trivial⟩, ⟨⟨⟨rfl, rfl⟩, ⟨rfl, rfl⟩, trivial⟩, trivial⟩, ⟨⟨trivial, trivial, trivial⟩, trivial⟩, ⟨.refl (noRef_tab _ _), noRef_tab _ _⟩, ⟨.refl (noRef_tab _ _), noRef_tab _ _⟩, trivial⟩)) <;> with_reducible refine wK ?_)
    | ((with_reducible show (_ ∧ _) ∧ _ ∧ _); (refine eK ?_ ?_ <;> with_reducible repeat' (first | exact trivial | (show _ ∧ _; refine aK ?_ ?_)))))); all_goals clear fct)
      · have g2' := g2.resolve_left e
        (have fct := And.intro e (And.intro g1 (And.intro g2' (And.intro g3 (g4)))); (repeat' (first
    | refine gF ?_
    | ((first
      | ((with_reducible show CallK _ _ 42 _ _ _ _); refine CallK.lit [] (f42_at g1) c42 ⟨rfl, trivial⟩ rfl rfl ?_)
      | ((with_reducible show CallK _ _ 122 _ _ _ _); refine CallK.lit [] (f122_at g2') c122 ⟨rfl, trivial⟩ rfl rfl ?_)
      | ((with_reducible show NextK _ _); refine NextK.mk (k + 1) ⟨by omega, hnext⟩ (by omega) ⟨⟨rfl, rfl⟩, ⟨⟨rfl, rfl⟩, ⟨rfl, rfl⟩, ⟨rfl, rfl⟩, rfl, rfl, by show ((k + 1 : Nat) : Int) = (k : Int) + 1; omega, trivial⟩, ⟨⟨rfl, rfl, rfl, rfl, trivial⟩, trivial⟩, ⟨⟨⟨rfl, rfl⟩, ⟨rfl, rfl⟩, trivial⟩, trivial⟩, ⟨⟨trivial, trivial, trivial⟩, trivial⟩, ⟨.refl (noRef_tab _ _), noRef_tab _ _⟩, ⟨.refl (noRef_tab _ _), noRef_tab _ _⟩, trivial⟩)) <;> with_reducible refine wK ?_)
    | ((with_reducible show (_ ∧ _) ∧ _ ∧ _); (refine eK ?_ ?_ <;> with_reducible repeat' (first | exact trivial | (show _ ∧ _; refine aK ?_ ?_)))))); all_goals clear fct)
    | false =>
      have hpr : procL l = l.take (k + 1) := procL_bad hok hx hg
      have hdb : defsB l = false := by
        cases h : defsB l with
        | false => rfl
        | true => rw [(defsB_iff.1 h).1 _ (List.mem_of_getElem? hx)] at hg; cases hg
      have hgood : ∀ {p : Prop}, (customS n = true ∧ (lo = n ∨ knowS lo = true) ∧ 0 ≤ c ∧ c < 12) → p := fun h => by
        exfalso
        have : goodD ⟨n, lo, c⟩ = true := by
          obtain ⟨a1, a2, a3, a4⟩ := h
          unfold goodD localB
          simp only [a1, a3, a4, decide_true, Bool.and_true, Bool.true_and]
          rcases a2 with a2 | a2
          · rw [decide_eq_true a2]; rfl
          · rw [a2]; simp
        rw [hg] at this; cases this
      rw [hpr, hdb]
      by_cases e : lo = n
      · cases hc : customS n with
        | false => ((have fct := e; (repeat' (first
    | refine gF ?_
    | (((with_reducible show CallK _ _ 42 _ _ _ _); refine CallK.lit [] (f42_at hc) c42 ⟨rfl, trivial⟩ rfl rfl ?_) <;> with_reducible refine wK ?_)
    | ((with_reducible show (_ ∧ _) ∧ _ ∧ _); (refine eK ?_ ?_ <;> with_reducible repeat' (first | exact trivial | (show _ ∧ _; refine aK ?_ ?_)))))); all_goals clear fct)) <;> first | exact MFL_refl (noRef_tab _ _) | exact ⟨.refl (noRef_tab _ _), noRef_tab _ _⟩ | rfl
        | true =>
          by_cases h3 : c < 0
          · ((have fct := And.intro e (h3); (repeat' (first
    | refine gF ?_
    | (((with_reducible show CallK _ _ 42 _ _ _ _); refine CallK.lit [] (f42_at hc) c42 ⟨rfl, trivial⟩ rfl rfl ?_) <;> with_reducible refine wK ?_)
    | ((with_reducible show (_ ∧ _) ∧ _ ∧ _); (refine eK ?_ ?_ <;> with_reducible repeat' (first | exact trivial | (show _ ∧ _; refine aK ?_ ?_)))))); all_goals clear fct)) <;> first | exact MFL_refl (noRef_tab _ _) | exact ⟨.refl (noRef_tab _ _), noRef_tab _ _⟩ | rfl
          · by_cases h4 : c < 12
            · exact hgood ⟨hc, .inl e, by omega, h4⟩
            · ((have fct := And.intro e (And.intro h3 (h4)); (repeat' (first
    | refine gF ?_
    | (((with_reducible show CallK _ _ 42 _ _ _ _); refine CallK.lit [] (f42_at hc) c42 ⟨rfl, trivial⟩ rfl rfl ?_) <;> with_reducible refine wK ?_)
    | ((with_reducible show (_ ∧ _) ∧ _ ∧ _); (refine eK ?_ ?_ <;> with_reducible repeat' (first | exact trivial | (show _ ∧ _; refine aK ?_ ?_)))))); all_goals clear fct)) <;> first | exact MFL_refl (noRef_tab _ _) | exact ⟨.refl (noRef_tab _ _), noRef_tab _ _⟩ | rfl
      · cases hkn : knowS lo with
        | false => cases hc : customS n <;> ((have fct := e; (repeat' (first
    | refine gF ?_
    | ((first
      | ((with_reducible show CallK _ _ 42 _ _ _ _); refine CallK.lit [] (f42_at hc) c42 ⟨rfl, trivial⟩ rfl rfl ?_)
      | ((with_reducible show CallK _ _ 122 _ _ _ _); refine CallK.lit [] (f122_at hkn) c122 ⟨rfl, trivial⟩ rfl rfl ?_)) <;> with_reducible refine wK ?_)
    | ((with_reducible show (_ ∧ _) ∧ _ ∧ _); (refine eK ?_ ?_ <;> with_reducible repeat' (first | exact trivial | (show _ ∧ _; refine aK ?_ ?_)))))); all_goals clear fct)) <;> first | exact MFL_refl (noRef_tab _ _) | exact ⟨.refl (noRef_tab _ _), noRef_tab _ _⟩ | rfl
        | true =>
          cases hc : customS n with
          | false => ((have fct := e; (repeat' (first
    | refine gF ?_
    | ((first
      | ((with_reducible show CallK _ _ 42 _ _ _ _); refine CallK.lit [] (f42_at hc) c42 ⟨rfl, trivial⟩ rfl rfl ?_)
      | ((with_reducible show CallK _ _ 122 _ _ _ _); refine CallK.lit [] (f122_at hkn) c122 ⟨rfl, trivial⟩ rfl rfl ?_)) <;> with_reducible refine wK ?_)
    | ((with_reducible show (_ ∧ _) ∧ _ ∧ _); (refine eK ?_ ?_ <;> with_reducible repeat' (first | exact trivial | (show _ ∧ _; refine aK ?_ ?_)))))); all_goals clear fct)) <;> first | exact MFL_refl (noRef_tab _ _) | exact ⟨.refl (noRef_tab _ _), noRef_tab _ _⟩ | rfl
          | true =>
            by_cases h3 : c < 0
            · ((have fct := And.intro e (h3); (repeat' (first
    | refine gF ?_
    | ((first
      | ((with_reducible show CallK _ _ 42 _ _ _ _); refine CallK.lit [] (f42_at hc) c42 ⟨rfl, trivial⟩ rfl rfl ?_)
      | ((with_reducible show CallK _ _ 122 _ _ _ _); refine CallK.lit [] (f122_at hkn) c122 ⟨rfl, trivial⟩ rfl rfl ?_)) <;> with_reducible refine wK ?_)
    | ((with_reducible show (_ ∧ _) ∧ _ ∧ _); (refine eK ?_ ?_ <;> with_reducible repeat' (first | exact trivial | (show _ ∧ _; refine aK ?_ ?_)))))); all_goals clear fct)) <;> first | exact MFL_refl (noRef_tab _ _) | exact ⟨.refl (noRef_tab _ _), noRef_tab _ _⟩ | rfl
            · by_cases h4 : c < 12
              · exact hgood ⟨hc, .inr hkn, by omega, h4⟩
              · ((have fct := And.intro e (And.intro h3 (h4)); (repeat' (first
    | refine gF ?_
    | ((first
      | ((with_reducible show CallK _ _ 42 _ _ _ _); refine CallK.lit [] (f42_at hc) c42 ⟨rfl, trivial⟩ rfl rfl ?_)
      | ((with_reducible show CallK _ _ 122 _ _ _ _); refine CallK.lit [] (f122_at hkn) c122 ⟨rfl, trivial⟩ rfl rfl ?_)) <;> with_reducible refine wK ?_)
    | ((with_reducible show (_ ∧ _) ∧ _ ∧ _); (refine eK ?_ ?_ <;> with_reducible repeat' (first | exact trivial | (show _ ∧ _; refine aK ?_ ?_)))))); all_goals clear fct)) <;> first | exact MFL_refl (noRef_tab _ _) | exact ⟨.refl (noRef_tab _ _), noRef_tab _ _⟩ | rfl
  · have hkl : k = l.length := by simp only [decide_eq_false_iff_not] at h1; omega
    subst hkl
    have hall : ∀ x ∈ l, goodD x = true := fun x hx => by
      obtain ⟨j, hj⟩ := List.getElem?_of_mem hx
      exact hok j x (List.getElem?_eq_some_iff.1 hj).1 hj
    rw [List.take_length, procL_all hall]
    have en : (tRows Value.string oInt (ixT kN l)).length = (ixT kN l).length := List.length_map ..
    have ec : (tRows vInt oInt (ixT kC l)).length = (ixT kC l).length := List.length_map ..
    have hn := ixT_len kN l
    have hc := ixT_len kC l
    have hd : defsB l = (decide ((l.map DefM.name).Nodup) && decide ((l.map DefM.cls).Nodup)) := by
      unfold defsB
      rw [List.all_eq_true.2 hall]; rfl
    rw [hd]
    by_cases h2 : (l.map DefM.name).Nodup
    · have h2' : (ixT kN l).length = l.length := hn.2 h2
      by_cases h3 : (l.map DefM.cls).Nodup
      · have h3' : (ixT kC l).length = l.length := hc.2 h3
        ((have fct := And.intro en (And.intro ec (And.intro h2' (And.intro h3' (hlm)))); (repeat' (first
    | refine gF ?_
    | ((first
      | ((with_reducible show CountK _ _ 130 _ _ _ _); refine CountK.mk map62 ⟨_, _, rfl⟩ rfl ?_)
      | ((with_reducible show CountK _ _ 131 _ _ _ _); refine CountK.mk map63 ⟨_, _, rfl⟩ rfl ?_)) <;> with_reducible refine wK ?_)
    | ((with_reducible show (_ ∧ _) ∧ _ ∧ _); (refine eK ?_ ?_ <;> with_reducible repeat' (first | exact trivial | (show _ ∧ _; refine aK ?_ ?_)))))); all_goals clear fct)) <;> first | exact MFL_refl (noRef_tab _ _) | exact ⟨.refl (noRef_tab _ _), noRef_tab _ _⟩ | rfl | (simp [h2, h3, en, ec, h2', h3']; done) | (simp [h2, h3, en, ec, h2']; simp only [castN]; omega) | (simp [h2, h3, en, ec, h2']; exact fun hh => h3' (Int.ofNat.inj hh))
      · have h3' : (ixT kC l).length ≠ l.length := fun h => h3 (hc.1 h)
        ((have fct := And.intro en (And.intro ec (And.intro h2' (And.intro h3' (hlm)))); (repeat' (first
    | refine gF ?_
    | ((first
      | ((with_reducible show CountK _ _ 130 _ _ _ _); refine CountK.mk map62 ⟨_, _, rfl⟩ rfl ?_)
      | ((with_reducible show CountK _ _ 131 _ _ _ _); refine CountK.mk map63 ⟨_, _, rfl⟩ rfl ?_)) <;> with_reducible refine wK ?_)
    | ((with_reducible show (_ ∧ _) ∧ _ ∧ _); (refine eK ?_ ?_ <;> with_reducible repeat' (first | exact trivial | (show _ ∧ _; refine aK ?_ ?_)))))); all_goals clear fct)) <;> first | exact MFL_refl (noRef_tab _ _) | exact ⟨.refl (noRef_tab _ _), noRef_tab _ _⟩ | rfl | (simp [h2, h3, en, ec, h2', h3']; done) | (simp [h2, h3, en, ec, h2']; simp only [castN]; omega) | (simp [h2, h3, en, ec, h2']; exact fun hh => h3' (Int.ofNat.inj hh))
    · have h2' : (ixT kN l).length ≠ l.length := fun h => h2 (hn.1 h)
      ((have fct := And.intro en (And.intro ec (And.intro h2' (hlm))); (repeat' (first
    | refine gF ?_
    | ((first
      | ((with_reducible show CountK _ _ 130 _ _ _ _); refine CountK.mk map62 ⟨_, _, rfl⟩ rfl ?_)
      | ((with_reducible show CountK _ _ 131 _ _ _ _); refine CountK.mk map63 ⟨_, _, rfl⟩ rfl ?_)) <;> with_reducible refine wK ?_)
    | ((with_reducible show (_ ∧ _) ∧ _ ∧ _); (refine eK ?_ ?_ <;> with_reducible repeat' (first | exact trivial | (show _ ∧ _; refine aK ?_ ?_)))))); all_goals clear fct)) <;> first | exact MFL_refl (noRef_tab _ _) | exact ⟨.refl (noRef_tab _ _), noRef_tab _ _⟩ | rfl | (simp [h2, en, h2']; done)
end Go.Proofs.Heir
end
section
set_option linter.unusedSimpArgs false
set_option linter.unusedVariables false
namespace Go.Proofs.Heir
open Go.Am Go.RowKit Go.Lib
set_option maxRecDepth 100000
set_option maxHeartbeats 8000000
theorem outs_read (l : List DefM) : okOuts [rN l, rC l] := by
  refine ⟨Wide.of_mem fun r hr => ?_, noRef_tab _ _, Wide.of_mem fun r hr => ?_, noRef_tab _ _, trivial⟩
  · obtain ⟨p, _, rfl⟩ := List.mem_map.1 hr
    rfl
  · obtain ⟨p, _, rfl⟩ := List.mem_map.1 hr
    rfl
def openI (d : DeskM) (i : Nat × Bool × Int) : Prop := i.1 ≤ d.waits.length ∧ (i.2.1 && waitsB d.defs d.next i.2.2 (d.waits.drop i.1)) = (defsB d.defs && waitsB d.defs d.next (-1) d.waits)
theorem openI_next {d : DeskM} {k : Nat} {b : Bool} {last : Int} {w : WaitM} (h : openI d (k, b, last)) (hw : d.waits[k]? = some w) : openI d (k + 1, b && okW d.defs d.next w last, w.ticket) := by
  obtain ⟨h1, h2⟩ := h
  have hk := (List.getElem?_eq_some_iff.1 hw).1
  refine ⟨by show k + 1 ≤ _; omega, ?_⟩
  rw [← h2]
  simp only
  rw [List.drop_eq_getElem_cons hk, (List.getElem?_eq_some_iff.1 hw).2, waitsB, Bool.and_assoc]
theorem tgetP {l : List DefM} (h : defsB l = true) (s : ByteArray) : (tget s (ixT kN (procL l)) = none ∧ posN l s = -1) ∨ ∃ (k : Nat) (x : DefM), tget s (ixT kN (procL l)) = some (k : Int) ∧ posN l s = k ∧ l[k]? = some x ∧ x.name = s := by
  obtain ⟨h1, h2, _⟩ := defsB_iff.1 h
  rw [procL_all h1]; exact tgetN h2 s
theorem f85_ok (d : DeskM) (hl : d.defs.length ≤ 100000) (hw : d.waits.length ≤ 100000) : FnOK Tryz.prog 85 [] [eDesk d] [rN (procL d.defs), rC (procL d.defs)] (.tup [.agg [.mapr 0, .mapr 1], eBool (rightD d)]) := by
  have hI0 : openI d (0, defsB d.defs, -1) := ⟨Nat.zero_le _, rfl⟩
  have hI1 := @openI_next d
  have hI2 : ∀ b last, openI d (d.waits.length, b, last) → b = (defsB d.defs && waitsB d.defs d.next (-1) d.waits) := fun b last h => by
    have := h.2
    simp only [List.drop_length] at this
    rw [← this]; simp [waitsB]
  have hI3 : ∀ k b last, openI d (k, b, last) → b = true → defsB d.defs = true ∨ rightD d = false := fun k b last h hb => by
    cases hd : defsB d.defs with
    | true => exact .inl rfl
    | false => right; unfold rightD; rw [hd]; rfl
  have hr44 := f104_ok d hl
  unfold rightD
  obtain ⟨l, ws, nx, bz⟩ := d
  have hlm : (ws.map oWait).length = ws.length := List.length_map ..
  refine FnOK.startC (rvs := [.cell 2 133, .tmp 3]) G G_good Tryz.func85 rfl Tryz.ntmps85 rfl rfl ?_; with_reducible refine wD ?_
  refine CallK.new 131 [] hr44 c104 ⟨⟨rfl, rfl, rfl, rfl, trivial⟩, trivial⟩ rfl rfl rfl (outs_read _) rfl ?_; with_reducible refine wK ?_
  have hwl : ws.length ≤ 100000 := hw
  refine LoopK.use G G_good (fun (i : Nat × Bool × Int) => [(1, .ptr 10 0 0), (2, .ptr 20 0 0), (4, .ptr 40 0 0), (5, eBool i.2.1), (6, eInt i.2.2), (17, eWaits ws), (18, eInt ws.length), (19, eInt i.1)])
    (fun _ => [(10, .live 4 [eDesk ⟨l, ws, nx, bz⟩] false), (20, .live 2 [.agg [.lit (.map none), .lit (.map none)]] false), (40, .live 2 [.agg [.mapr 131, .mapr 132]] false), (131, rN (procL l)), (132, rC (procL l))])
    (fun i => openI ⟨l, ws, nx, bz⟩ i ∧ (i.2.1 = true → defsB l = true)) (fun i => ws.length - i.1) (0, defsB l, -1) ⟨hI0, id⟩
    ⟨⟨rfl, rfl⟩, ⟨⟨rfl, rfl⟩, ⟨rfl, rfl⟩, ⟨rfl, rfl⟩, rfl, rfl, rfl, by show (ws.length : Int) = ((ws.map oWait).length : Int); rw [hlm], rfl, trivial⟩, ⟨⟨rfl, rfl, rfl, rfl, trivial⟩, trivial⟩, ⟨⟨⟨rfl, rfl⟩, ⟨rfl, rfl⟩, trivial⟩, trivial⟩, ⟨⟨trivial, trivial, trivial⟩, trivial⟩, ⟨.refl (noRef_tab _ _), noRef_tab _ _⟩, ⟨.refl (noRef_tab _ _), noRef_tab _ _⟩, trivial⟩ ?_
  rintro ⟨k, b, last⟩ ⟨hI, hbd⟩
  have hkw : k ≤ ws.length := hI.1
  simp only at hbd
  with_reducible refine wK ?_
  refine IfK.mk (fun h1 => ?_) (fun h1 => ?_) <;> (try simp only [castN] at h1) <;> with_reducible refine wK ?_
  · simp only [decide_eq_true_eq] at h1
    have hk' : k < ws.length := by omega
    obtain ⟨⟨n, tk⟩, hx⟩ : ∃ a, ws[k]? = some a := ⟨_, List.getElem?_eq_getElem hk'⟩
    have hst : ∀ v, (b && okW l nx ⟨n, tk⟩ last) = v → openI ⟨l, ws, nx, bz⟩ (k + 1, v, tk) ∧ (v = true → defsB l = true) := fun v hv => by
      have := hI1 hI hx
      refine ⟨by rw [← hv]; exact this, fun h => hbd ?_⟩
      rw [h] at hv
      exact (Bool.and_eq_true_iff.1 hv).1
    refine IdxK.mk k (eWait ⟨n, tk⟩) rfl (wait_get hx) ?_; with_reducible refine wK ?_
    refine LookK.tab Value.string oInt (ixT kN (procL l)) (k := n) (zv := eInt 0) map62 ⟨_, _, rfl⟩ key_str inj_str rfl rfl (fun x hxx => ?_) (fun hxx => ?_)
    · rw [show oInt x = eInt x from rfl]
      with_reducible refine wK ?_
      cases b with
      | false =>
        have hs := hst false rfl
        (have fct := hlm; (repeat' (first
    | refine gF ?_
    | (((with_reducible show NextK _ _); refine NextK.mk (k + 1, false, tk) hs (by show ws.length - (k + 1) < ws.length - k; omega) ⟨⟨rfl, rfl⟩, ⟨⟨rfl, rfl⟩, ⟨rfl, rfl⟩, ⟨rfl, rfl⟩, rfl, rfl, rfl, rfl, by show ((k + 1 : Nat) : Int) = (k : Int) + 1; omega, trivial⟩, ⟨⟨rfl, rfl, rfl, rfl, trivial⟩, trivial⟩, ⟨⟨⟨rfl, rfl⟩, ⟨rfl, rfl⟩, trivial⟩, trivial⟩, ⟨⟨trivial, trivial, trivial⟩, trivial⟩, ⟨.refl (noRef_tab _ _), noRef_tab _ _⟩, ⟨.refl (noRef_tab _ _), noRef_tab _ _⟩, trivial⟩) <;> with_reducible refine wK ?_)
    | ((with_reducible show (_ ∧ _) ∧ _ ∧ _); (refine eK ?_ ?_ <;> with_reducible repeat' (first | exact trivial | (show _ ∧ _; refine aK ?_ ?_)))))); all_goals clear fct)
      | true =>
        have hp : ¬ posN l n = -1 := by
          rcases tgetP (hbd rfl) n with ⟨a1, _⟩ | ⟨j, y, _, a2, _⟩
          · rw [hxx] at a1; cases a1
          · omega
        have hs := hst false (by unfold okW; simp [hp])
        (have fct := hlm; (repeat' (first
    | refine gF ?_
    | (((with_reducible show NextK _ _); refine NextK.mk (k + 1, false, tk) hs (by show ws.length - (k + 1) < ws.length - k; omega) ⟨⟨rfl, rfl⟩, ⟨⟨rfl, rfl⟩, ⟨rfl, rfl⟩, ⟨rfl, rfl⟩, rfl, rfl, rfl, rfl, by show ((k + 1 : Nat) : Int) = (k : Int) + 1; omega, trivial⟩, ⟨⟨rfl, rfl, rfl, rfl, trivial⟩, trivial⟩, ⟨⟨⟨rfl, rfl⟩, ⟨rfl, rfl⟩, trivial⟩, trivial⟩, ⟨⟨trivial, trivial, trivial⟩, trivial⟩, ⟨.refl (noRef_tab _ _), noRef_tab _ _⟩, ⟨.refl (noRef_tab _ _), noRef_tab _ _⟩, trivial⟩) <;> with_reducible refine wK ?_)
    | ((with_reducible show (_ ∧ _) ∧ _ ∧ _); (refine eK ?_ ?_ <;> with_reducible repeat' (first | exact trivial | (show _ ∧ _; refine aK ?_ ?_)))))); all_goals clear fct)
    · with_reducible refine wK ?_
      cases b with
      | false =>
        have hs := hst false rfl
        (have fct := hlm; (repeat' (first
    | refine gF ?_
    | (((with_reducible show NextK _ _); refine NextK.mk (k + 1, false, tk) hs (by show ws.length - (k + 1) < ws.length - k; omega) ⟨⟨rfl, rfl⟩, ⟨⟨rfl, rfl⟩, ⟨rfl, rfl⟩, ⟨rfl, rfl⟩, rfl, rfl, rfl, rfl, by show ((k + 1 : Nat) : Int) = (k : Int) + 1; omega, trivial⟩, ⟨⟨rfl, rfl, rfl, rfl, trivial⟩, trivial⟩, ⟨⟨⟨rfl, rfl⟩, ⟨rfl, rfl⟩, trivial⟩, trivial⟩, ⟨⟨trivial, trivial, trivial⟩, trivial⟩, ⟨.refl (noRef_tab _ _), noRef_tab _ _⟩, ⟨.refl (noRef_tab _ _), noRef_tab _ _⟩, trivial⟩) <;> with_reducible refine wK ?_)
    | ((with_reducible show (_ ∧ _) ∧ _ ∧ _); (refine eK ?_ ?_ <;> with_reducible repeat' (first | exact trivial | (show _ ∧ _; refine aK ?_ ?_)))))); all_goals clear fct)
      | true =>
        have hp : posN l n = -1 := by
          rcases tgetP (hbd rfl) n with ⟨_, a1⟩ | ⟨j, y, a2, _⟩
          · exact a1
          · rw [hxx] at a2; cases a2
        cases hc : customS n with
        | false =>
          have hs := hst false (by unfold okW; simp [hc])
          (have fct := hlm; (repeat' (first
    | refine gF ?_
    | ((first
      | ((with_reducible show CallK _ _ 42 _ _ _ _); refine CallK.lit [] (f42_at hc) c42 ⟨rfl, trivial⟩ rfl rfl ?_)
      | ((with_reducible show NextK _ _); refine NextK.mk (k + 1, false, tk) hs (by show ws.length - (k + 1) < ws.length - k; omega) ⟨⟨rfl, rfl⟩, ⟨⟨rfl, rfl⟩, ⟨rfl, rfl⟩, ⟨rfl, rfl⟩, rfl, rfl, rfl, rfl, by show ((k + 1 : Nat) : Int) = (k : Int) + 1; omega, trivial⟩, ⟨⟨rfl, rfl, rfl, rfl, trivial⟩, trivial⟩, ⟨⟨⟨rfl, rfl⟩, ⟨rfl, rfl⟩, trivial⟩, trivial⟩, ⟨⟨trivial, trivial, trivial⟩, trivial⟩, ⟨.refl (noRef_tab _ _), noRef_tab _ _⟩, ⟨.refl (noRef_tab _ _), noRef_tab _ _⟩, trivial⟩)) <;> with_reducible refine wK ?_)
    | ((with_reducible show (_ ∧ _) ∧ _ ∧ _); (refine eK ?_ ?_ <;> with_reducible repeat' (first | exact trivial | (show _ ∧ _; refine aK ?_ ?_)))))); all_goals clear fct)
        | true =>
          by_cases h3 : last < tk
          · have hs := hst (decide (tk < nx)) (by unfold okW; simp [hc, hp, h3])
            (have fct := And.intro hlm (h3); (repeat' (first
    | refine gF ?_
    | ((first
      | ((with_reducible show CallK _ _ 42 _ _ _ _); refine CallK.lit [] (f42_at hc) c42 ⟨rfl, trivial⟩ rfl rfl ?_)
      | ((with_reducible show NextK _ _); refine NextK.mk (k + 1, decide (tk < nx), tk) hs (by show ws.length - (k + 1) < ws.length - k; omega) ⟨⟨rfl, rfl⟩, ⟨⟨rfl, rfl⟩, ⟨rfl, rfl⟩, ⟨rfl, rfl⟩, rfl, rfl, rfl, rfl, by show ((k + 1 : Nat) : Int) = (k : Int) + 1; omega, trivial⟩, ⟨⟨rfl, rfl, rfl, rfl, trivial⟩, trivial⟩, ⟨⟨⟨rfl, rfl⟩, ⟨rfl, rfl⟩, trivial⟩, trivial⟩, ⟨⟨trivial, trivial, trivial⟩, trivial⟩, ⟨.refl (noRef_tab _ _), noRef_tab _ _⟩, ⟨.refl (noRef_tab _ _), noRef_tab _ _⟩, trivial⟩)) <;> with_reducible refine wK ?_)
    | ((with_reducible show (_ ∧ _) ∧ _ ∧ _); (refine eK ?_ ?_ <;> with_reducible repeat' (first | exact trivial | (show _ ∧ _; refine aK ?_ ?_)))))); all_goals clear fct)
          · have hs := hst false (by unfold okW; simp [hc, hp, h3])
            (have fct := And.intro hlm (h3); (repeat' (first
    | refine gF ?_
    | ((first
      | ((with_reducible show CallK _ _ 42 _ _ _ _); refine CallK.lit [] (f42_at hc) c42 ⟨rfl, trivial⟩ rfl rfl ?_)
      | ((with_reducible show NextK _ _); refine NextK.mk (k + 1, false, tk) hs (by show ws.length - (k + 1) < ws.length - k; omega) ⟨⟨rfl, rfl⟩, ⟨⟨rfl, rfl⟩, ⟨rfl, rfl⟩, ⟨rfl, rfl⟩, rfl, rfl, rfl, rfl, by show ((k + 1 : Nat) : Int) = (k : Int) + 1; omega, trivial⟩, ⟨⟨rfl, rfl, rfl, rfl, trivial⟩, trivial⟩, ⟨⟨⟨rfl, rfl⟩, ⟨rfl, rfl⟩, trivial⟩, trivial⟩, ⟨⟨trivial, trivial, trivial⟩, trivial⟩, ⟨.refl (noRef_tab _ _), noRef_tab _ _⟩, ⟨.refl (noRef_tab _ _), noRef_tab _ _⟩, trivial⟩)) <;> with_reducible refine wK ?_)
    | ((with_reducible show (_ ∧ _) ∧ _ ∧ _); (refine eK ?_ ?_ <;> with_reducible repeat' (first | exact trivial | (show _ ∧ _; refine aK ?_ ?_)))))); all_goals clear fct)
  · have hkl : k = ws.length := by simp only [decide_eq_false_iff_not] at h1; omega
    subst hkl
    have hb := hI2 b last hI
    simp only at hb ⊢
    rw [← hb]
    cases b with
    | false => ((have fct := hlm; (repeat' (first
    | refine gF ?_
    | ((with_reducible show (_ ∧ _) ∧ _ ∧ _); (refine eK ?_ ?_ <;> with_reducible repeat' (first | exact trivial | (show _ ∧ _; refine aK ?_ ?_)))))); all_goals clear fct)) <;> first | exact MFL_refl (noRef_tab _ _) | exact ⟨.refl (noRef_tab _ _), noRef_tab _ _⟩ | rfl
    | true =>
      by_cases h4 : 0 ≤ nx
      · ((have fct := And.intro hlm (h4); (repeat' (first
    | refine gF ?_
    | ((with_reducible show (_ ∧ _) ∧ _ ∧ _); (refine eK ?_ ?_ <;> with_reducible repeat' (first | exact trivial | (show _ ∧ _; refine aK ?_ ?_)))))); all_goals clear fct)) <;> first | exact MFL_refl (noRef_tab _ _) | exact ⟨.refl (noRef_tab _ _), noRef_tab _ _⟩ | simp [h4]
      · ((have fct := And.intro hlm (h4); (repeat' (first
    | refine gF ?_
    | ((with_reducible show (_ ∧ _) ∧ _ ∧ _); (refine eK ?_ ?_ <;> with_reducible repeat' (first | exact trivial | (show _ ∧ _; refine aK ?_ ?_)))))); all_goals clear fct)) <;> first | exact MFL_refl (noRef_tab _ _) | exact ⟨.refl (noRef_tab _ _), noRef_tab _ _⟩ | simp [h4]
end Go.Proofs.Heir
end
section
set_option linter.unusedSimpArgs false
set_option linter.unusedVariables false
namespace Go.Proofs.Heir
open Go.Am Go.RowKit Go.Lib
set_option maxRecDepth 100000
set_option maxHeartbeats 8000000
structure SmallD (d : DeskM) : Prop where
  defs : d.defs.length ≤ 100000
  waits : d.waits.length ≤ 100000
theorem right_defs {d : DeskM} (h : rightD d = true) : defsB d.defs = true := (rightD_iff.1 h).1
theorem findR_none {l : List DefM} {a b : ByteArray} (h : defsB l = true) (ha : ∀ (k : Nat) (x : DefM), l[k]? = some x → x.name = a → x.locl ≠ a) (hb : ∀ (k : Nat) (x : DefM), l[k]? = some x → x.name = b → x.locl ≠ a) : findR l a b = -1 := by
  rcases findR_cases l a b with ⟨h1, _⟩ | ⟨j, y, _, h2, h3⟩
  · exact h1
  · obtain ⟨g1, g2⟩ := fitsB_iff.1 h3
    rcases g2 with g2 | g2
    · exact absurd g1 (ha j y h2 g2)
    · exact absurd g1 (hb j y h2 g2)
theorem only_name {l : List DefM} (h : defsB l = true) {k : Nat} {x : DefM} {s v : ByteArray} (hx : l[k]? = some x) (hn : x.name = s) (hv : x.locl ≠ v) : ∀ (j : Nat) (y : DefM), l[j]? = some y → y.name = s → y.locl ≠ v := fun j y hy he => by
  have := nodup_ix (defsB_iff.1 h).2.1 hx hy (hn.trans he.symm)
  subst this; rw [hx] at hy; cases hy; exact hv
theorem no_name {l : List DefM} {s v : ByteArray} (h : posN l s = -1) : ∀ (j : Nat) (y : DefM), l[j]? = some y → y.name = s → y.locl ≠ v := fun j y hy he => absurd he (posN_no h y (List.mem_of_getElem? hy))
theorem f78_ok (d : DeskM) (h : SmallD d) (a b : ByteArray) : FnOK Tryz.prog 78 [] [eDesk d, eStr a, eStr b] [] (eInt (findD d a b)) := by
  have h29 := f85_ok d h.defs h.waits
  have hrd := @right_defs d
  unfold findD
  obtain ⟨r, hr⟩ : ∃ r, rightD d = r := ⟨_, rfl⟩
  rw [hr] at h29 hrd ⊢
  obtain ⟨l, ws, nx, bz⟩ := d
  refine FnOK.startC (rvs := [.tmp 6]) G G_good Tryz.func78 rfl Tryz.ntmps78 rfl rfl ?_; with_reducible refine wD ?_
  refine CallK.new 151 [] h29 c85 ⟨⟨rfl, rfl, rfl, rfl, trivial⟩, trivial⟩ rfl rfl rfl (outs_read _) rfl ?_; with_reducible refine wK ?_
  cases r with
  | false => ((have fct := hr; (repeat' (first
    | refine gF ?_
    | ((with_reducible show (_ ∧ _) ∧ _ ∧ _); (refine eK ?_ ?_ <;> with_reducible repeat' (first | exact trivial | (show _ ∧ _; refine aK ?_ ?_)))))); all_goals clear fct)) <;> rfl
  | true =>
    have hd := hrd rfl
    rw [if_pos rfl]
    simp only at hd ⊢
    have second : ∀ (k : Nat) (y : DefM), l[k]? = some y → y.name = b → y.locl = a → findR l a b = k := fun k y hy he hl => findR_at hd hy (fitsB_iff.2 ⟨hl, .inr he⟩)
    refine IfK.ff ?_; with_reducible refine wK ?_
    refine LookK.tab Value.string oInt (ixT kN (procL l)) (k := a) (zv := eInt 0) map62 ⟨_, _, rfl⟩ key_str inj_str rfl rfl (fun x hxx => ?_) (fun hxx => ?_)
    · rw [show oInt x = eInt x from rfl]
      with_reducible refine wK ?_
      rcases tgetP hd a with ⟨a1, _⟩ | ⟨j, ⟨yn, yl, yc⟩, a1, a2, a3, a4⟩
      · rw [hxx] at a1; cases a1
      rw [hxx] at a1; cases a1
      simp only at a4
      refine IfK.tt ?_; with_reducible refine wK ?_
      refine IdxK.mk j (eDef ⟨yn, yl, yc⟩) rfl (def_get a3) ?_; with_reducible refine wK ?_
      by_cases hl : yl = a
      · have hf := findR_at (b := b) hd a3 (fitsB_iff.2 ⟨hl, .inl a4⟩)
        rw [hf]
        (have fct := hl; (repeat' (first
    | refine gF ?_
    | ((with_reducible show (_ ∧ _) ∧ _ ∧ _); (refine eK ?_ ?_ <;> with_reducible repeat' (first | exact trivial | (show _ ∧ _; refine aK ?_ ?_)))))); all_goals clear fct)
      · have n1 := only_name hd a3 a4 hl
        refine IfK.no (decide_eq_false hl) ?_; with_reducible refine wK ?_
        refine LookK.tab Value.string oInt (ixT kN (procL l)) (k := b) (zv := eInt 0) map62 ⟨_, _, rfl⟩ key_str inj_str rfl rfl (fun x hxx => ?_) (fun hxx => ?_)
        · rw [show oInt x = eInt x from rfl]
          with_reducible refine wK ?_
          rcases tgetP hd b with ⟨b1, _⟩ | ⟨i, ⟨zn, zl, zc⟩, b1, b2, b3, b4⟩
          · rw [hxx] at b1; cases b1
          rw [hxx] at b1; cases b1
          refine IfK.tt ?_; with_reducible refine wK ?_
          refine IdxK.mk i (eDef ⟨zn, zl, zc⟩) rfl (def_get b3) ?_; with_reducible refine wK ?_
          by_cases hz : zl = a
          · have hf := second i _ b3 b4 hz
            rw [hf]
            (have fct := hz; (repeat' (first
    | refine gF ?_
    | ((with_reducible show (_ ∧ _) ∧ _ ∧ _); (refine eK ?_ ?_ <;> with_reducible repeat' (first | exact trivial | (show _ ∧ _; refine aK ?_ ?_)))))); all_goals clear fct)
          · rw [findR_none hd n1 (only_name hd b3 b4 hz)]
            (have fct := hz; (repeat' (first
    | refine gF ?_
    | ((with_reducible show (_ ∧ _) ∧ _ ∧ _); (refine eK ?_ ?_ <;> with_reducible repeat' (first | exact trivial | (show _ ∧ _; refine aK ?_ ?_)))))); all_goals clear fct)
        · with_reducible refine wK ?_
          rcases tgetP hd b with ⟨_, b1⟩ | ⟨i, y, b1, _⟩
          · rw [findR_none hd n1 (no_name b1)]
            (have fct := b1; (repeat' (first
    | refine gF ?_
    | ((with_reducible show (_ ∧ _) ∧ _ ∧ _); (refine eK ?_ ?_ <;> with_reducible repeat' (first | exact trivial | (show _ ∧ _; refine aK ?_ ?_)))))); all_goals clear fct)
          · rw [hxx] at b1; cases b1
    · with_reducible refine wK ?_
      rcases tgetP hd a with ⟨_, a1⟩ | ⟨j, y, a1, _⟩
      · have n1 : ∀ (k : Nat) (x : DefM), l[k]? = some x → x.name = a → x.locl ≠ a := no_name a1
        refine IfK.ff ?_; with_reducible refine wK ?_
        refine IfK.ff ?_; with_reducible refine wK ?_
        refine LookK.tab Value.string oInt (ixT kN (procL l)) (k := b) (zv := eInt 0) map62 ⟨_, _, rfl⟩ key_str inj_str rfl rfl (fun x hxx => ?_) (fun hxx => ?_)
        · rw [show oInt x = eInt x from rfl]
          with_reducible refine wK ?_
          rcases tgetP hd b with ⟨b1, _⟩ | ⟨i, ⟨zn, zl, zc⟩, b1, b2, b3, b4⟩
          · rw [hxx] at b1; cases b1
          rw [hxx] at b1; cases b1
          refine IfK.tt ?_; with_reducible refine wK ?_
          refine IdxK.mk i (eDef ⟨zn, zl, zc⟩) rfl (def_get b3) ?_; with_reducible refine wK ?_
          by_cases hz : zl = a
          · have hf := second i _ b3 b4 hz
            rw [hf]
            (have fct := hz; (repeat' (first
    | refine gF ?_
    | ((with_reducible show (_ ∧ _) ∧ _ ∧ _); (refine eK ?_ ?_ <;> with_reducible repeat' (first | exact trivial | (show _ ∧ _; refine aK ?_ ?_)))))); all_goals clear fct)
          · rw [findR_none hd n1 (only_name hd b3 b4 hz)]
            (have fct := hz; (repeat' (first
    | refine gF ?_
    | ((with_reducible show (_ ∧ _) ∧ _ ∧ _); (refine eK ?_ ?_ <;> with_reducible repeat' (first | exact trivial | (show _ ∧ _; refine aK ?_ ?_)))))); all_goals clear fct)
        · with_reducible refine wK ?_
          rcases tgetP hd b with ⟨_, b1⟩ | ⟨i, y, b1, _⟩
          · rw [findR_none hd n1 (no_name b1)]
            (have fct := b1; (repeat' (first
    | refine gF ?_
    | ((with_reducible show (_ ∧ _) ∧ _ ∧ _); (refine eK ?_ ?_ <;> with_reducible repeat' (first | exact trivial | (show _ ∧ _; refine aK ?_ ?_)))))); all_goals clear fct)
          · rw [hxx] at b1; cases b1
      · rw [hxx] at a1; cases a1
end Go.Proofs.Heir
end
section
set_option linter.unusedSimpArgs false
set_option linter.unusedVariables false
namespace Go.Proofs.Heir
open Go.Am Go.RowKit Go.Lib
set_option maxRecDepth 100000
set_option maxHeartbeats 8000000
structure ShortD (d : DeskM) : Prop where
  defs : d.defs.length ≤ 40
  waits : d.waits.length ≤ 40
  names : ∀ x ∈ d.defs, x.name.size ≤ 300 ∧ x.locl.size ≤ 300
  wnames : ∀ w ∈ d.waits, w.name.size ≤ 300
theorem ShortD.small {d : DeskM} (h : ShortD d) : SmallD d := ⟨Nat.le_trans h.defs (by omega), Nat.le_trans h.waits (by omega)⟩
theorem ixI_first {α : Type} {p : α → Bool} {l : List α} {k : Nat} {a : α} (ha : l[k]? = some a) (hp : p a = true) (hb : ∀ (j : Nat) (b : α), j < k → l[j]? = some b → p b = false) : ixI p l = k := by
  rcases ixI_cases p l with ⟨_, h⟩ | ⟨j, b, h1, h2, h3, h4⟩
  · rw [h a (List.mem_of_getElem? ha)] at hp; cases hp
  · rcases Nat.lt_trichotomy j k with hj | hj | hj
    · rw [hb j b hj h2] at h3; cases h3
    · rw [h1, hj]
    · rw [h4 k a hj ha] at hp; cases hp
theorem ixI_end {α : Type} {p : α → Bool} {l : List α} (hb : ∀ (j : Nat) (b : α), j < l.length → l[j]? = some b → p b = false) : ixI p l = -1 :=
  ixI_none fun a ha => by
    obtain ⟨j, hj⟩ := List.getElem?_of_mem ha
    exact hb j a (List.getElem?_eq_some_iff.1 hj).1 hj
theorem upto_succ {α : Type} {P : α → Prop} {l : List α} {k : Nat} {a : α} (h : ∀ (j : Nat) (b : α), j < k → l[j]? = some b → P b) (ha : l[k]? = some a) (hp : P a) : ∀ (j : Nat) (b : α), j < k + 1 → l[j]? = some b → P b := fun j b hj hb => by
  by_cases e : j = k
  · subst e; rw [ha] at hb; cases hb; exact hp
  · exact h j b (by omega) hb
theorem f46_ok (d : DeskM) (h : SmallD d) (s : ByteArray) : FnOK Tryz.prog 46 [] [eDesk d, eStr s] [] (eInt (posN d.defs s)) := by
  have hl := h.defs
  obtain ⟨l, ws, nx, bz⟩ := d
  simp only at hl
  have hlm : (l.map oDef).length = l.length := List.length_map ..
  refine FnOK.startC (rvs := [.tmp 4]) G G_good Tryz.func46 rfl Tryz.ntmps46 rfl rfl ?_; with_reducible refine wD ?_
  refine LoopK.use G G_good (fun (k : Nat) => [(1, eStr s), (2, .ptr 20 0 0), (5, eInt k)]) (fun _ => [(20, .live 4 [eDesk ⟨l, ws, nx, bz⟩] false)]) (fun k => k ≤ l.length ∧ ∀ (j : Nat) (b : DefM), j < k → l[j]? = some b → hasN s b = false) (fun k => l.length - k) 0 ⟨Nat.zero_le _, fun j b hj => by omega⟩
    ⟨⟨rfl, rfl⟩, ⟨rfl, ⟨rfl, rfl⟩, rfl, trivial⟩, ⟨⟨rfl, rfl, rfl, rfl, trivial⟩, trivial⟩, trivial⟩ ?_
  intro k ⟨hk, hno⟩
  with_reducible refine wK ?_
  refine IfK.mk (fun h1 => ?_) (fun h1 => ?_) <;> (try simp only [castN] at h1) <;> with_reducible refine wK ?_
  · simp only [hlm, decide_eq_true_eq] at h1
    have hk' : k < l.length := by omega
    obtain ⟨⟨n, lo, c⟩, hx⟩ : ∃ a, l[k]? = some a := ⟨_, List.getElem?_eq_getElem hk'⟩
    refine IdxK.mk k (eDef ⟨n, lo, c⟩) rfl (def_get hx) ?_; with_reducible refine wK ?_
    by_cases e : n = s
    · have hp : posN l s = k := ixI_first hx (decide_eq_true e) hno
      rw [hp]
      (have fct := e; (repeat' (first
    | refine gF ?_
    | ((with_reducible show (_ ∧ _) ∧ _ ∧ _); (refine eK ?_ ?_ <;> with_reducible repeat' (first | exact trivial | (show _ ∧ _; refine aK ?_ ?_)))))); all_goals clear fct)
    · (have fct := e; (repeat' (first
    | refine gF ?_
    | (((with_reducible show NextK _ _); refine NextK.mk (k + 1) ⟨by omega, upto_succ (P := fun b => hasN s b = false) hno hx (decide_eq_false e)⟩ (by omega) ⟨⟨rfl, rfl⟩, ⟨rfl, ⟨rfl, rfl⟩, by show ((k + 1 : Nat) : Int) = (k : Int) + 1; omega, trivial⟩, ⟨⟨rfl, rfl, rfl, rfl, trivial⟩, trivial⟩, trivial⟩) <;> with_reducible refine wK ?_)
    | ((with_reducible show (_ ∧ _) ∧ _ ∧ _); (refine eK ?_ ?_ <;> with_reducible repeat' (first | exact trivial | (show _ ∧ _; refine aK ?_ ?_)))))); all_goals clear fct)
  · have hkl : k = l.length := by simp only [hlm, decide_eq_false_iff_not] at h1; omega
    subst hkl
    have hp : posN l s = -1 := ixI_end hno
    rw [hp]
    (have fct := hp; (repeat' (first
    | refine gF ?_
    | ((with_reducible show (_ ∧ _) ∧ _ ∧ _); (refine eK ?_ ?_ <;> with_reducible repeat' (first | exact trivial | (show _ ∧ _; refine aK ?_ ?_)))))); all_goals clear fct)
theorem f47_ok (d : DeskM) (h : SmallD d) (s : Int) : FnOK Tryz.prog 47 [] [eDesk d, eInt s] [] (eInt (posC d.defs s)) := by
  have hl := h.defs
  obtain ⟨l, ws, nx, bz⟩ := d
  simp only at hl
  have hlm : (l.map oDef).length = l.length := List.length_map ..
  refine FnOK.startC (rvs := [.tmp 4]) G G_good Tryz.func47 rfl Tryz.ntmps47 rfl rfl ?_; with_reducible refine wD ?_
  refine LoopK.use G G_good (fun (k : Nat) => [(1, eInt s), (2, .ptr 20 0 0), (5, eInt k)]) (fun _ => [(20, .live 4 [eDesk ⟨l, ws, nx, bz⟩] false)]) (fun k => k ≤ l.length ∧ ∀ (j : Nat) (b : DefM), j < k → l[j]? = some b → hasC s b = false) (fun k => l.length - k) 0 ⟨Nat.zero_le _, fun j b hj => by omega⟩
    ⟨⟨rfl, rfl⟩, ⟨rfl, ⟨rfl, rfl⟩, rfl, trivial⟩, ⟨⟨rfl, rfl, rfl, rfl, trivial⟩, trivial⟩, trivial⟩ ?_
  intro k ⟨hk, hno⟩
  with_reducible refine wK ?_
  refine IfK.mk (fun h1 => ?_) (fun h1 => ?_) <;> (try simp only [castN] at h1) <;> with_reducible refine wK ?_
  · simp only [hlm, decide_eq_true_eq] at h1
    have hk' : k < l.length := by omega
    obtain ⟨⟨n, lo, c⟩, hx⟩ : ∃ a, l[k]? = some a := ⟨_, List.getElem?_eq_getElem hk'⟩
    refine IdxK.mk k (eDef ⟨n, lo, c⟩) rfl (def_get hx) ?_; with_reducible refine wK ?_
    by_cases e : c = s
    · have hp : posC l s = k := ixI_first hx (decide_eq_true e) hno
      rw [hp]
      (have fct := e; (repeat' (first
    | refine gF ?_
    | ((with_reducible show (_ ∧ _) ∧ _ ∧ _); (refine eK ?_ ?_ <;> with_reducible repeat' (first | exact trivial | (show _ ∧ _; refine aK ?_ ?_)))))); all_goals clear fct)
    · (have fct := e; (repeat' (first
    | refine gF ?_
    | (((with_reducible show NextK _ _); refine NextK.mk (k + 1) ⟨by omega, upto_succ (P := fun b => hasC s b = false) hno hx (decide_eq_false e)⟩ (by omega) ⟨⟨rfl, rfl⟩, ⟨rfl, ⟨rfl, rfl⟩, by show ((k + 1 : Nat) : Int) = (k : Int) + 1; omega, trivial⟩, ⟨⟨rfl, rfl, rfl, rfl, trivial⟩, trivial⟩, trivial⟩) <;> with_reducible refine wK ?_)
    | ((with_reducible show (_ ∧ _) ∧ _ ∧ _); (refine eK ?_ ?_ <;> with_reducible repeat' (first | exact trivial | (show _ ∧ _; refine aK ?_ ?_)))))); all_goals clear fct)
  · have hkl : k = l.length := by simp only [hlm, decide_eq_false_iff_not] at h1; omega
    subst hkl
    have hp : posC l s = -1 := ixI_end hno
    rw [hp]
    (have fct := hp; (repeat' (first
    | refine gF ?_
    | ((with_reducible show (_ ∧ _) ∧ _ ∧ _); (refine eK ?_ ?_ <;> with_reducible repeat' (first | exact trivial | (show _ ∧ _; refine aK ?_ ?_)))))); all_goals clear fct)
theorem f46_at {d : DeskM} {s : ByteArray} {i : Int} (h : SmallD d) (hi : posN d.defs s = i) : FnOK Tryz.prog 46 [] [eDesk d, eStr s] [] (eInt i) := by have := f46_ok d h s; rwa [hi] at this
theorem f47_at {d : DeskM} {s i : Int} (h : SmallD d) (hi : posC d.defs s = i) : FnOK Tryz.prog 47 [] [eDesk d, eInt s] [] (eInt i) := by have := f47_ok d h s; rwa [hi] at this
def okD (l : List DefM) (k : Nat) (x : DefM) : Prop := goodD x = true ∧ posN l x.name = k ∧ posC l x.cls = k
theorem okD_all {l : List DefM} (h : ∀ (j : Nat) (b : DefM), j < l.length → l[j]? = some b → okD l j b) : defsB l = true :=
  defsB_iff.2 ⟨fun x hx => by
    obtain ⟨j, hj⟩ := List.getElem?_of_mem hx
    exact (h j x (List.getElem?_eq_some_iff.1 hj).1 hj).1,
  nodup_of_ix fun i j a b ha hb e => by
    have h1 := (h i a (List.getElem?_eq_some_iff.1 ha).1 ha).2.1
    have h2 := (h j b (List.getElem?_eq_some_iff.1 hb).1 hb).2.1
    rw [e] at h1; omega,
  nodup_of_ix fun i j a b ha hb e => by
    have h1 := (h i a (List.getElem?_eq_some_iff.1 ha).1 ha).2.2
    have h2 := (h j b (List.getElem?_eq_some_iff.1 hb).1 hb).2.2
    rw [e] at h1; omega⟩
theorem okD_of {l : List DefM} (h : defsB l = true) {k : Nat} {x : DefM} (hx : l[k]? = some x) : okD l k x := by
  obtain ⟨h1, h2, h3⟩ := defsB_iff.1 h
  exact ⟨h1 x (List.mem_of_getElem? hx), posN_at h2 hx, posC_at h3 hx⟩
end Go.Proofs.Heir
end
section
set_option linter.unusedSimpArgs false
set_option linter.unusedVariables false
namespace Go.Proofs.Heir
open Go.Am Go.RowKit Go.Lib
set_option maxRecDepth 100000
set_option maxHeartbeats 8000000
theorem upto_succ' {α : Type} {P : Nat → α → Prop} {l : List α} {k : Nat} {a : α} (h : ∀ (j : Nat) (b : α), j < k → l[j]? = some b → P j b) (ha : l[k]? = some a) (hp : P k a) : ∀ (j : Nat) (b : α), j < k + 1 → l[j]? = some b → P j b := fun j b hj hb => by
  by_cases e : j = k
  · subst e; rw [ha] at hb; cases hb; exact hp
  · exact h j b (by omega) hb
theorem f14_ok (d : DeskM) (h : ShortD d) : FnOK Tryz.prog 14 [] [eDesk d] [] (eBool (rightD d)) := by
  have hsm := h.small
  have hok := @okD_all d.defs
  have hof := @okD_of d.defs
  have hwf := @waitsB_false d.defs d.next
  have hrd := @rightD_iff d
  obtain ⟨r, hr⟩ : ∃ r, rightD d = r := ⟨_, rfl⟩
  rw [hr] at hrd ⊢
  obtain ⟨l, ws, nx, bz⟩ := d
  have hl : l.length ≤ 40 := h.defs
  have hw : ws.length ≤ 40 := h.waits
  have hnm : ∀ x ∈ l, x.name.size ≤ 300 ∧ x.locl.size ≤ 300 := h.names
  have hwn : ∀ w ∈ ws, w.name.size ≤ 300 := h.wnames
  simp only at hok hof hwf hrd
  have hlm : (l.map oDef).length = l.length := List.length_map ..
  have hwm : (ws.map oWait).length = ws.length := List.length_map ..
  refine FnOK.startC (rvs := [.tmp 2]) G G_good Tryz.func14 rfl Tryz.ntmps14 rfl rfl ?_; with_reducible refine wD ?_
  by_cases n0 : nx < 0
  · have : r = false := by cases r with | false => rfl | true => exact absurd (hrd.1 rfl).2.2.1 (by omega)
    rw [this]; (have fct := n0; (repeat' (first
    | refine gF ?_
    | ((with_reducible show (_ ∧ _) ∧ _ ∧ _); (refine eK ?_ ?_ <;> with_reducible repeat' (first | exact trivial | (show _ ∧ _; refine aK ?_ ?_)))))); all_goals clear fct)
  by_cases n1 : 100000 < nx
  · have : r = false := by cases r with | false => rfl | true => exact absurd (hrd.1 rfl).2.2.2 (by omega)
    rw [this]; (have fct := And.intro n0 (n1); (repeat' (first
    | refine gF ?_
    | ((with_reducible show (_ ∧ _) ∧ _ ∧ _); (refine eK ?_ ?_ <;> with_reducible repeat' (first | exact trivial | (show _ ∧ _; refine aK ?_ ?_)))))); all_goals clear fct)
  (have fct := And.intro n0 (n1); (repeat' (first
    | refine gF ?_
    | ((with_reducible show (_ ∧ _) ∧ _ ∧ _); (refine eK ?_ ?_ <;> with_reducible repeat' (first | exact trivial | (show _ ∧ _; refine aK ?_ ?_)))))); all_goals clear fct)
  refine LoopK.use G G_good (fun (k : Nat) => [(1, .ptr 10 0 0), (3, eInt k)]) (fun _ => [(10, .live 4 [eDesk ⟨l, ws, nx, bz⟩] false)]) (fun k => k ≤ l.length ∧ ∀ (j : Nat) (b : DefM), j < k → l[j]? = some b → okD l j b) (fun k => l.length - k) 0 ⟨Nat.zero_le _, fun j b hj => by omega⟩
    ⟨⟨rfl, rfl⟩, ⟨⟨rfl, rfl⟩, rfl, trivial⟩, ⟨⟨rfl, rfl, rfl, rfl, trivial⟩, trivial⟩, trivial⟩ ?_
  intro k ⟨hk, hno⟩
  with_reducible refine wK ?_
  refine IfK.mk (fun h1 => ?_) (fun h1 => ?_) <;> (try simp only [castN] at h1) <;> with_reducible refine wK ?_
  · simp only [hlm, decide_eq_true_eq] at h1
    have hk' : k < l.length := by omega
    obtain ⟨⟨n, lo, c⟩, hx⟩ : ∃ a, l[k]? = some a := ⟨_, List.getElem?_eq_getElem hk'⟩
    have hns : n.size ≤ 100000 := Nat.le_trans (hnm _ (List.mem_of_getElem? hx)).1 (by omega)
    have hf : (okD l k ⟨n, lo, c⟩ → False) → r = false := fun hn => by
      cases r with
      | false => rfl
      | true => exact absurd (hof (hrd.1 rfl).1 hx) hn
    refine IdxK.mk k (eDef ⟨n, lo, c⟩) rfl (def_get hx) ?_; with_reducible refine wK ?_
    cases hc : customS n with
    | false =>
      rw [hf (fun h => by have := (goodD_facts h.1).1; simp only at this; rw [hc] at this; cases this)]
      (have fct := n0; (repeat' (first
    | refine gF ?_
    | (((with_reducible show CallK _ _ 43 _ _ _ _); refine CallK.lit [] (f43_at hns hc) c43 ⟨rfl, trivial⟩ rfl rfl ?_) <;> with_reducible refine wK ?_)
    | ((with_reducible show (_ ∧ _) ∧ _ ∧ _); (refine eK ?_ ?_ <;> with_reducible repeat' (first | exact trivial | (show _ ∧ _; refine aK ?_ ?_)))))); all_goals clear fct)
    | true =>
      by_cases hlo : lo = n ∨ knowS lo = true
      · by_cases g3 : c < 0
        · rw [hf (fun h => by have := (goodD_facts h.1).2.2.1; simp only at this; omega)]
          by_cases e : lo = n
          · (have fct := And.intro g3 (e); (repeat' (first
    | refine gF ?_
    | (((with_reducible show CallK _ _ 43 _ _ _ _); refine CallK.lit [] (f43_at hns hc) c43 ⟨rfl, trivial⟩ rfl rfl ?_) <;> with_reducible refine wK ?_)
    | ((with_reducible show (_ ∧ _) ∧ _ ∧ _); (refine eK ?_ ?_ <;> with_reducible repeat' (first | exact trivial | (show _ ∧ _; refine aK ?_ ?_)))))); all_goals clear fct)
          · have hkn := hlo.resolve_left e
            (have fct := And.intro g3 (e); (repeat' (first
    | refine gF ?_
    | ((first
      | ((with_reducible show CallK _ _ 43 _ _ _ _); refine CallK.lit [] (f43_at hns hc) c43 ⟨rfl, trivial⟩ rfl rfl ?_)
      | ((with_reducible show CallK _ _ 45 _ _ _ _); refine CallK.lit [] (f45_at hkn) c45 ⟨rfl, trivial⟩ rfl rfl ?_)) <;> with_reducible refine wK ?_)
    | ((with_reducible show (_ ∧ _) ∧ _ ∧ _); (refine eK ?_ ?_ <;> with_reducible repeat' (first | exact trivial | (show _ ∧ _; refine aK ?_ ?_)))))); all_goals clear fct)
        · by_cases g4 : 11 < c
          · rw [hf (fun h => by have := (goodD_facts h.1).2.2.2; simp only at this; omega)]
            by_cases e : lo = n
            · (have fct := And.intro g3 (And.intro g4 (e)); (repeat' (first
    | refine gF ?_
    | (((with_reducible show CallK _ _ 43 _ _ _ _); refine CallK.lit [] (f43_at hns hc) c43 ⟨rfl, trivial⟩ rfl rfl ?_) <;> with_reducible refine wK ?_)
    | ((with_reducible show (_ ∧ _) ∧ _ ∧ _); (refine eK ?_ ?_ <;> with_reducible repeat' (first | exact trivial | (show _ ∧ _; refine aK ?_ ?_)))))); all_goals clear fct)
            · have hkn := hlo.resolve_left e
              (have fct := And.intro g3 (And.intro g4 (e)); (repeat' (first
    | refine gF ?_
    | ((first
      | ((with_reducible show CallK _ _ 43 _ _ _ _); refine CallK.lit [] (f43_at hns hc) c43 ⟨rfl, trivial⟩ rfl rfl ?_)
      | ((with_reducible show CallK _ _ 45 _ _ _ _); refine CallK.lit [] (f45_at hkn) c45 ⟨rfl, trivial⟩ rfl rfl ?_)) <;> with_reducible refine wK ?_)
    | ((with_reducible show (_ ∧ _) ∧ _ ∧ _); (refine eK ?_ ?_ <;> with_reducible repeat' (first | exact trivial | (show _ ∧ _; refine aK ?_ ?_)))))); all_goals clear fct)
          · obtain ⟨p, hp⟩ : ∃ p, posN l n = p := ⟨_, rfl⟩
            obtain ⟨q, hq⟩ : ∃ q, posC l c = q := ⟨_, rfl⟩
            by_cases g5 : p = k
            · by_cases g6 : q = k
              · have hokk : okD l k ⟨n, lo, c⟩ := by
                  refine ⟨?_, by rw [← g5]; exact hp, by rw [← g6]; exact hq⟩
                  unfold goodD localB
                  simp only [hc, Bool.true_and]
                  rw [show decide (0 ≤ c) = true from decide_eq_true (by omega), show decide (c < 12) = true from decide_eq_true (by omega)]
                  rcases hlo with e | e
                  · rw [decide_eq_true e]; rfl
                  · rw [e]; simp
                by_cases e : lo = n
                · (have fct := And.intro g3 (And.intro g4 (And.intro g5 (And.intro g6 (e)))); (repeat' (first
    | refine gF ?_
    | ((first
      | ((with_reducible show CallK _ _ 43 _ _ _ _); refine CallK.lit [] (f43_at hns hc) c43 ⟨rfl, trivial⟩ rfl rfl ?_)
      | ((with_reducible show CallK _ _ 46 _ _ _ _); refine CallK.lit [] (f46_at hsm hp) c46 ⟨⟨rfl, rfl, rfl, rfl, trivial⟩, rfl, trivial⟩ rfl rfl ?_)
      | ((with_reducible show CallK _ _ 47 _ _ _ _); refine CallK.lit [] (f47_at hsm hq) c47 ⟨⟨rfl, rfl, rfl, rfl, trivial⟩, rfl, trivial⟩ rfl rfl ?_)
      | ((with_reducible show NextK _ _); refine NextK.mk (k + 1) ⟨by omega, upto_succ' hno hx hokk⟩ (by omega) ⟨⟨rfl, rfl⟩, ⟨⟨rfl, rfl⟩, by show ((k + 1 : Nat) : Int) = (k : Int) + 1; omega, trivial⟩, ⟨⟨rfl, rfl, rfl, rfl, trivial⟩, trivial⟩, trivial⟩)) <;> with_reducible refine wK ?_)
    | ((with_reducible show (_ ∧ _) ∧ _ ∧ _); (refine eK ?_ ?_ <;> with_reducible repeat' (first | exact trivial | (show _ ∧ _; refine aK ?_ ?_)))))); all_goals clear fct)
                · have hkn := hlo.resolve_left e
                  (have fct := And.intro g3 (And.intro g4 (And.intro g5 (And.intro g6 (e)))); (repeat' (first
    | refine gF ?_
    | ((first
      | ((with_reducible show CallK _ _ 43 _ _ _ _); refine CallK.lit [] (f43_at hns hc) c43 ⟨rfl, trivial⟩ rfl rfl ?_)
      | ((with_reducible show CallK _ _ 45 _ _ _ _); refine CallK.lit [] (f45_at hkn) c45 ⟨rfl, trivial⟩ rfl rfl ?_)
      | ((with_reducible show CallK _ _ 46 _ _ _ _); refine CallK.lit [] (f46_at hsm hp) c46 ⟨⟨rfl, rfl, rfl, rfl, trivial⟩, rfl, trivial⟩ rfl rfl ?_)
      | ((with_reducible show CallK _ _ 47 _ _ _ _); refine CallK.lit [] (f47_at hsm hq) c47 ⟨⟨rfl, rfl, rfl, rfl, trivial⟩, rfl, trivial⟩ rfl rfl ?_)
      | ((with_reducible show NextK _ _); refine NextK.mk (k + 1) ⟨by omega, upto_succ' hno hx hokk⟩ (by omega) ⟨⟨rfl, rfl⟩, ⟨⟨rfl, rfl⟩, by show ((k + 1 : Nat) : Int) = (k : Int) + 1; omega, trivial⟩, ⟨⟨rfl, rfl, rfl, rfl, trivial⟩, trivial⟩, trivial⟩)) <;> with_reducible refine wK ?_)
    | ((with_reducible show (_ ∧ _) ∧ _ ∧ _); (refine eK ?_ ?_ <;> with_reducible repeat' (first | exact trivial | (show _ ∧ _; refine aK ?_ ?_)))))); all_goals clear fct)
              · rw [hf (fun h => g6 (by rw [← hq]; exact h.2.2))]
                by_cases e : lo = n
                · (have fct := And.intro g3 (And.intro g4 (And.intro g5 (And.intro g6 (e)))); (repeat' (first
    | refine gF ?_
    | ((first
      | ((with_reducible show CallK _ _ 43 _ _ _ _); refine CallK.lit [] (f43_at hns hc) c43 ⟨rfl, trivial⟩ rfl rfl ?_)
      | ((with_reducible show CallK _ _ 46 _ _ _ _); refine CallK.lit [] (f46_at hsm hp) c46 ⟨⟨rfl, rfl, rfl, rfl, trivial⟩, rfl, trivial⟩ rfl rfl ?_)
      | ((with_reducible show CallK _ _ 47 _ _ _ _); refine CallK.lit [] (f47_at hsm hq) c47 ⟨⟨rfl, rfl, rfl, rfl, trivial⟩, rfl, trivial⟩ rfl rfl ?_)) <;> with_reducible refine wK ?_)
    | ((with_reducible show (_ ∧ _) ∧ _ ∧ _); (refine eK ?_ ?_ <;> with_reducible repeat' (first | exact trivial | (show _ ∧ _; refine aK ?_ ?_)))))); all_goals clear fct)
                · have hkn := hlo.resolve_left e
                  (have fct := And.intro g3 (And.intro g4 (And.intro g5 (And.intro g6 (e)))); (repeat' (first
    | refine gF ?_
    | ((first
      | ((with_reducible show CallK _ _ 43 _ _ _ _); refine CallK.lit [] (f43_at hns hc) c43 ⟨rfl, trivial⟩ rfl rfl ?_)
      | ((with_reducible show CallK _ _ 45 _ _ _ _); refine CallK.lit [] (f45_at hkn) c45 ⟨rfl, trivial⟩ rfl rfl ?_)
      | ((with_reducible show CallK _ _ 46 _ _ _ _); refine CallK.lit [] (f46_at hsm hp) c46 ⟨⟨rfl, rfl, rfl, rfl, trivial⟩, rfl, trivial⟩ rfl rfl ?_)
      | ((with_reducible show CallK _ _ 47 _ _ _ _); refine CallK.lit [] (f47_at hsm hq) c47 ⟨⟨rfl, rfl, rfl, rfl, trivial⟩, rfl, trivial⟩ rfl rfl ?_)) <;> with_reducible refine wK ?_)
    | ((with_reducible show (_ ∧ _) ∧ _ ∧ _); (refine eK ?_ ?_ <;> with_reducible repeat' (first | exact trivial | (show _ ∧ _; refine aK ?_ ?_)))))); all_goals clear fct)
            · rw [hf (fun h => g5 (by rw [← hp]; exact h.2.1))]
              by_cases e : lo = n
              · (have fct := And.intro g3 (And.intro g4 (And.intro g5 (e))); (repeat' (first
    | refine gF ?_
    | ((first
      | ((with_reducible show CallK _ _ 43 _ _ _ _); refine CallK.lit [] (f43_at hns hc) c43 ⟨rfl, trivial⟩ rfl rfl ?_)
      | ((with_reducible show CallK _ _ 46 _ _ _ _); refine CallK.lit [] (f46_at hsm hp) c46 ⟨⟨rfl, rfl, rfl, rfl, trivial⟩, rfl, trivial⟩ rfl rfl ?_)) <;> with_reducible refine wK ?_)
    | ((with_reducible show (_ ∧ _) ∧ _ ∧ _); (refine eK ?_ ?_ <;> with_reducible repeat' (first | exact trivial | (show _ ∧ _; refine aK ?_ ?_)))))); all_goals clear fct)
              · have hkn := hlo.resolve_left e
                (have fct := And.intro g3 (And.intro g4 (And.intro g5 (e))); (repeat' (first
    | refine gF ?_
    | ((first
      | ((with_reducible show CallK _ _ 43 _ _ _ _); refine CallK.lit [] (f43_at hns hc) c43 ⟨rfl, trivial⟩ rfl rfl ?_)
      | ((with_reducible show CallK _ _ 45 _ _ _ _); refine CallK.lit [] (f45_at hkn) c45 ⟨rfl, trivial⟩ rfl rfl ?_)
      | ((with_reducible show CallK _ _ 46 _ _ _ _); refine CallK.lit [] (f46_at hsm hp) c46 ⟨⟨rfl, rfl, rfl, rfl, trivial⟩, rfl, trivial⟩ rfl rfl ?_)) <;> with_reducible refine wK ?_)
    | ((with_reducible show (_ ∧ _) ∧ _ ∧ _); (refine eK ?_ ?_ <;> with_reducible repeat' (first | exact trivial | (show _ ∧ _; refine aK ?_ ?_)))))); all_goals clear fct)
      · have e : ¬ lo = n := fun e => hlo (.inl e)
        have hkn : knowS lo = false := by cases h : knowS lo with | false => rfl | true => exact absurd (.inr h) hlo
        rw [hf (fun h => hlo (goodD_facts h.1).2.1)]
        (have fct := e; (repeat' (first
    | refine gF ?_
    | ((first
      | ((with_reducible show CallK _ _ 43 _ _ _ _); refine CallK.lit [] (f43_at hns hc) c43 ⟨rfl, trivial⟩ rfl rfl ?_)
      | ((with_reducible show CallK _ _ 45 _ _ _ _); refine CallK.lit [] (f45_at hkn) c45 ⟨rfl, trivial⟩ rfl rfl ?_)) <;> with_reducible refine wK ?_)
    | ((with_reducible show (_ ∧ _) ∧ _ ∧ _); (refine eK ?_ ?_ <;> with_reducible repeat' (first | exact trivial | (show _ ∧ _; refine aK ?_ ?_)))))); all_goals clear fct)
  · have hkl : k = l.length := by simp only [hlm, decide_eq_false_iff_not] at h1; omega
    subst hkl
    have hdefs : defsB l = true := hok hno
    have hrw : r = waitsB l nx (-1) ws := by
      cases hb : waitsB l nx (-1) ws with
      | true => exact hrd.2 ⟨hdefs, hb, by omega, by omega⟩
      | false => cases r with | false => rfl | true => rw [(hrd.1 rfl).2.1] at hb; cases hb
    (have fct := h1; (repeat' (first
    | refine gF ?_
    | ((with_reducible show (_ ∧ _) ∧ _ ∧ _); (refine eK ?_ ?_ <;> with_reducible repeat' (first | exact trivial | (show _ ∧ _; refine aK ?_ ?_)))))); all_goals clear fct)
    refine LoopK.use G G_good (fun (i : Nat × Int) => [(1, .ptr 10 0 0), (5, eInt i.2), (6, eInt i.1)]) (fun _ => [(10, .live 4 [eDesk ⟨l, ws, nx, bz⟩] false)]) (fun i => i.1 ≤ ws.length ∧ waitsB l nx i.2 (ws.drop i.1) = r) (fun i => ws.length - i.1) (0, -1) ⟨Nat.zero_le _, hrw.symm⟩
      ⟨⟨rfl, rfl⟩, ⟨⟨rfl, rfl⟩, rfl, rfl, trivial⟩, ⟨⟨rfl, rfl, rfl, rfl, trivial⟩, trivial⟩, trivial⟩ ?_
    rintro ⟨k, last⟩ ⟨hk, hI⟩
    simp only at hk hI
    with_reducible refine wK ?_
    refine IfK.mk (fun h2 => ?_) (fun h2 => ?_) <;> (try simp only [castN] at h2) <;> with_reducible refine wK ?_
    · simp only [hwm, decide_eq_true_eq] at h2
      have hk' : k < ws.length := by omega
      obtain ⟨⟨n, tk⟩, hx⟩ : ∃ a, ws[k]? = some a := ⟨_, List.getElem?_eq_getElem hk'⟩
      have hns : n.size ≤ 100000 := Nat.le_trans (hwn _ (List.mem_of_getElem? hx)) (by omega)
      rw [List.drop_eq_getElem_cons hk', (List.getElem?_eq_some_iff.1 hx).2, waitsB] at hI
      refine IdxK.mk k (eWait ⟨n, tk⟩) rfl (wait_get hx) ?_; with_reducible refine wK ?_
      obtain ⟨p, hp⟩ : ∃ p, posN l n = p := ⟨_, rfl⟩
      cases hc : customS n with
      | false =>
        rw [show r = false by rw [← hI]; unfold okW; simp [hc]]
        (have fct := hc; (repeat' (first
    | refine gF ?_
    | (((with_reducible show CallK _ _ 43 _ _ _ _); refine CallK.lit [] (f43_at hns hc) c43 ⟨rfl, trivial⟩ rfl rfl ?_) <;> with_reducible refine wK ?_)
    | ((with_reducible show (_ ∧ _) ∧ _ ∧ _); (refine eK ?_ ?_ <;> with_reducible repeat' (first | exact trivial | (show _ ∧ _; refine aK ?_ ?_)))))); all_goals clear fct)
      | true =>
        by_cases g1 : p = -1
        · by_cases g2 : tk ≤ last
          · rw [show r = false by rw [← hI]; unfold okW; simp [show ¬ last < tk from by omega]]
            (have fct := And.intro g1 (g2); (repeat' (first
    | refine gF ?_
    | ((first
      | ((with_reducible show CallK _ _ 43 _ _ _ _); refine CallK.lit [] (f43_at hns hc) c43 ⟨rfl, trivial⟩ rfl rfl ?_)
      | ((with_reducible show CallK _ _ 46 _ _ _ _); refine CallK.lit [] (f46_at hsm hp) c46 ⟨⟨rfl, rfl, rfl, rfl, trivial⟩, rfl, trivial⟩ rfl rfl ?_)) <;> with_reducible refine wK ?_)
    | ((with_reducible show (_ ∧ _) ∧ _ ∧ _); (refine eK ?_ ?_ <;> with_reducible repeat' (first | exact trivial | (show _ ∧ _; refine aK ?_ ?_)))))); all_goals clear fct)
          · by_cases g3 : nx ≤ tk
            · rw [show r = false by rw [← hI]; unfold okW; simp [show ¬ tk < nx from by omega]]
              (have fct := And.intro g1 (And.intro g2 (g3)); (repeat' (first
    | refine gF ?_
    | ((first
      | ((with_reducible show CallK _ _ 43 _ _ _ _); refine CallK.lit [] (f43_at hns hc) c43 ⟨rfl, trivial⟩ rfl rfl ?_)
      | ((with_reducible show CallK _ _ 46 _ _ _ _); refine CallK.lit [] (f46_at hsm hp) c46 ⟨⟨rfl, rfl, rfl, rfl, trivial⟩, rfl, trivial⟩ rfl rfl ?_)) <;> with_reducible refine wK ?_)
    | ((with_reducible show (_ ∧ _) ∧ _ ∧ _); (refine eK ?_ ?_ <;> with_reducible repeat' (first | exact trivial | (show _ ∧ _; refine aK ?_ ?_)))))); all_goals clear fct)
            · have hnext : waitsB l nx tk (ws.drop (k + 1)) = r := by
                rw [← hI]; unfold okW
                simp [hc, hp, g1, show last < tk from by omega, show tk < nx from by omega]
              (have fct := And.intro g1 (And.intro g2 (g3)); (repeat' (first
    | refine gF ?_
    | ((first
      | ((with_reducible show CallK _ _ 43 _ _ _ _); refine CallK.lit [] (f43_at hns hc) c43 ⟨rfl, trivial⟩ rfl rfl ?_)
      | ((with_reducible show CallK _ _ 46 _ _ _ _); refine CallK.lit [] (f46_at hsm hp) c46 ⟨⟨rfl, rfl, rfl, rfl, trivial⟩, rfl, trivial⟩ rfl rfl ?_)
      | ((with_reducible show NextK _ _); refine NextK.mk (k + 1, tk) ⟨by show k + 1 ≤ _; omega, hnext⟩ (by show ws.length - (k + 1) < ws.length - k; omega) ⟨⟨rfl, rfl⟩, ⟨⟨rfl, rfl⟩, rfl, by show ((k + 1 : Nat) : Int) = (k : Int) + 1; omega, trivial⟩, ⟨⟨rfl, rfl, rfl, rfl, trivial⟩, trivial⟩, trivial⟩)) <;> with_reducible refine wK ?_)
    | ((with_reducible show (_ ∧ _) ∧ _ ∧ _); (refine eK ?_ ?_ <;> with_reducible repeat' (first | exact trivial | (show _ ∧ _; refine aK ?_ ?_)))))); all_goals clear fct)
        · rw [show r = false by rw [← hI]; unfold okW; simp [hp, g1]]
          (have fct := g1; (repeat' (first
    | refine gF ?_
    | ((first
      | ((with_reducible show CallK _ _ 43 _ _ _ _); refine CallK.lit [] (f43_at hns hc) c43 ⟨rfl, trivial⟩ rfl rfl ?_)
      | ((with_reducible show CallK _ _ 46 _ _ _ _); refine CallK.lit [] (f46_at hsm hp) c46 ⟨⟨rfl, rfl, rfl, rfl, trivial⟩, rfl, trivial⟩ rfl rfl ?_)) <;> with_reducible refine wK ?_)
    | ((with_reducible show (_ ∧ _) ∧ _ ∧ _); (refine eK ?_ ?_ <;> with_reducible repeat' (first | exact trivial | (show _ ∧ _; refine aK ?_ ?_)))))); all_goals clear fct)
    · have hkl : k = ws.length := by simp only [hwm, decide_eq_false_iff_not] at h2; omega
      subst hkl
      rw [List.drop_length] at hI
      rw [← hI, show waitsB l nx last [] = true from by simp [waitsB]]
      (have fct := h2; (repeat' (first
    | refine gF ?_
    | ((with_reducible show (_ ∧ _) ∧ _ ∧ _); (refine eK ?_ ?_ <;> with_reducible repeat' (first | exact trivial | (show _ ∧ _; refine aK ?_ ?_)))))); all_goals clear fct)
end Go.Proofs.Heir
end
section
set_option linter.unusedSimpArgs false
set_option linter.unusedVariables false
namespace Go.Proofs.Heir
open Go.Am Go.RowKit Go.Lib
set_option maxRecDepth 100000
set_option maxHeartbeats 8000000
theorem f52_ok (d : DeskM) (h : SmallD d) (a b : ByteArray) : FnOK Tryz.prog 52 [] [eDesk d, eStr a, eStr b] [] (eInt (findR d.defs a b)) := by
  have hl := h.defs
  unfold findR
  obtain ⟨l, ws, nx, bz⟩ := d
  simp only at hl ⊢
  have hlm : (l.map oDef).length = l.length := List.length_map ..
  refine FnOK.startC (rvs := [.tmp 6]) G G_good Tryz.func52 rfl Tryz.ntmps52 rfl rfl ?_; with_reducible refine wD ?_
  refine LoopK.use G G_good (fun (k : Nat) => [(1, eStr a), (2, eStr b), (3, .ptr 30 0 0), (7, eInt k)]) (fun _ => [(30, .live 4 [eDesk ⟨l, ws, nx, bz⟩] false)]) (fun k => k ≤ l.length ∧ ∀ (j : Nat) (y : DefM), j < k → l[j]? = some y → fitL a a y = false) (fun k => l.length - k) 0 ⟨Nat.zero_le _, fun j b hj => by omega⟩
    ⟨⟨rfl, rfl⟩, ⟨rfl, rfl, ⟨rfl, rfl⟩, rfl, trivial⟩, ⟨⟨rfl, rfl, rfl, rfl, trivial⟩, trivial⟩, trivial⟩ ?_
  intro k ⟨hk, hno⟩
  with_reducible refine wK ?_
  refine IfK.mk (fun h1 => ?_) (fun h1 => ?_) <;> (try simp only [castN] at h1) <;> with_reducible refine wK ?_
  · simp only [hlm, decide_eq_true_eq] at h1
    have hk' : k < l.length := by omega
    obtain ⟨⟨n, lo, c⟩, hx⟩ : ∃ a, l[k]? = some a := ⟨_, List.getElem?_eq_getElem hk'⟩
    refine IdxK.mk k (eDef ⟨n, lo, c⟩) rfl (def_get hx) ?_; with_reducible refine wK ?_
    by_cases e : lo = a
    · by_cases e2 : n = a
      · have hp : ixI (fitL a a) l = k := ixI_first hx (by unfold fitL; simp [e, e2]) hno
        rw [hp, if_pos (by omega)]
        (have fct := And.intro e (e2); (repeat' (first
    | refine gF ?_
    | (((with_reducible show IdxK _ _ _ _ _); refine IdxK.mk k (eDef ⟨n, lo, c⟩) rfl (def_get hx) ?_) <;> with_reducible refine wK ?_)
    | ((with_reducible show (_ ∧ _) ∧ _ ∧ _); (refine eK ?_ ?_ <;> with_reducible repeat' (first | exact trivial | (show _ ∧ _; refine aK ?_ ?_)))))); all_goals clear fct)
      · (have fct := And.intro e (e2); (repeat' (first
    | refine gF ?_
    | ((first
      | ((with_reducible show IdxK _ _ _ _ _); refine IdxK.mk k (eDef ⟨n, lo, c⟩) rfl (def_get hx) ?_)
      | ((with_reducible show NextK _ _); refine NextK.mk (k + 1) ⟨by omega, upto_succ (P := fun y => fitL a a y = false) hno hx (by unfold fitL; simp [e2])⟩ (by omega) ⟨⟨rfl, rfl⟩, ⟨rfl, rfl, ⟨rfl, rfl⟩, by show ((k + 1 : Nat) : Int) = (k : Int) + 1; omega, trivial⟩, ⟨⟨rfl, rfl, rfl, rfl, trivial⟩, trivial⟩, trivial⟩)) <;> with_reducible refine wK ?_)
    | ((with_reducible show (_ ∧ _) ∧ _ ∧ _); (refine eK ?_ ?_ <;> with_reducible repeat' (first | exact trivial | (show _ ∧ _; refine aK ?_ ?_)))))); all_goals clear fct)
    · (have fct := e; (repeat' (first
    | refine gF ?_
    | (((with_reducible show NextK _ _); refine NextK.mk (k + 1) ⟨by omega, upto_succ (P := fun y => fitL a a y = false) hno hx (by unfold fitL; simp [e])⟩ (by omega) ⟨⟨rfl, rfl⟩, ⟨rfl, rfl, ⟨rfl, rfl⟩, by show ((k + 1 : Nat) : Int) = (k : Int) + 1; omega, trivial⟩, ⟨⟨rfl, rfl, rfl, rfl, trivial⟩, trivial⟩, trivial⟩) <;> with_reducible refine wK ?_)
    | ((with_reducible show (_ ∧ _) ∧ _ ∧ _); (refine eK ?_ ?_ <;> with_reducible repeat' (first | exact trivial | (show _ ∧ _; refine aK ?_ ?_)))))); all_goals clear fct)
  · have hkl : k = l.length := by simp only [hlm, decide_eq_false_iff_not] at h1; omega
    subst hkl
    have hp : ixI (fitL a a) l = -1 := ixI_end hno
    rw [hp, if_neg (by omega)]
    (have fct := hlm; (repeat' (first
    | refine gF ?_
    | ((with_reducible show (_ ∧ _) ∧ _ ∧ _); (refine eK ?_ ?_ <;> with_reducible repeat' (first | exact trivial | (show _ ∧ _; refine aK ?_ ?_)))))); all_goals clear fct)
    refine LoopK.use G G_good (fun (k : Nat) => [(1, eStr a), (2, eStr b), (3, .ptr 30 0 0), (8, eInt k)]) (fun _ => [(30, .live 4 [eDesk ⟨l, ws, nx, bz⟩] false)]) (fun k => k ≤ l.length ∧ ∀ (j : Nat) (y : DefM), j < k → l[j]? = some y → fitL a b y = false) (fun k => l.length - k) 0 ⟨Nat.zero_le _, fun j b hj => by omega⟩
      ⟨⟨rfl, rfl⟩, ⟨rfl, rfl, ⟨rfl, rfl⟩, rfl, trivial⟩, ⟨⟨rfl, rfl, rfl, rfl, trivial⟩, trivial⟩, trivial⟩ ?_
    intro k ⟨hk, hno⟩
    with_reducible refine wK ?_
    refine IfK.mk (fun h2 => ?_) (fun h2 => ?_) <;> (try simp only [castN] at h2) <;> with_reducible refine wK ?_
    · simp only [hlm, decide_eq_true_eq] at h2
      have hk' : k < l.length := by omega
      obtain ⟨⟨n, lo, c⟩, hx⟩ : ∃ a, l[k]? = some a := ⟨_, List.getElem?_eq_getElem hk'⟩
      refine IdxK.mk k (eDef ⟨n, lo, c⟩) rfl (def_get hx) ?_; with_reducible refine wK ?_
      by_cases e : lo = a
      · by_cases e2 : n = b
        · have hp : ixI (fitL a b) l = k := ixI_first hx (by unfold fitL; simp [e, e2]) hno
          rw [hp]
          (have fct := And.intro e (e2); (repeat' (first
    | refine gF ?_
    | (((with_reducible show IdxK _ _ _ _ _); refine IdxK.mk k (eDef ⟨n, lo, c⟩) rfl (def_get hx) ?_) <;> with_reducible refine wK ?_)
    | ((with_reducible show (_ ∧ _) ∧ _ ∧ _); (refine eK ?_ ?_ <;> with_reducible repeat' (first | exact trivial | (show _ ∧ _; refine aK ?_ ?_)))))); all_goals clear fct)
        · (have fct := And.intro e (e2); (repeat' (first
    | refine gF ?_
    | ((first
      | ((with_reducible show IdxK _ _ _ _ _); refine IdxK.mk k (eDef ⟨n, lo, c⟩) rfl (def_get hx) ?_)
      | ((with_reducible show NextK _ _); refine NextK.mk (k + 1) ⟨by omega, upto_succ (P := fun y => fitL a b y = false) hno hx (by unfold fitL; simp [e2])⟩ (by omega) ⟨⟨rfl, rfl⟩, ⟨rfl, rfl, ⟨rfl, rfl⟩, by show ((k + 1 : Nat) : Int) = (k : Int) + 1; omega, trivial⟩, ⟨⟨rfl, rfl, rfl, rfl, trivial⟩, trivial⟩, trivial⟩)) <;> with_reducible refine wK ?_)
    | ((with_reducible show (_ ∧ _) ∧ _ ∧ _); (refine eK ?_ ?_ <;> with_reducible repeat' (first | exact trivial | (show _ ∧ _; refine aK ?_ ?_)))))); all_goals clear fct)
      · (have fct := e; (repeat' (first
    | refine gF ?_
    | (((with_reducible show NextK _ _); refine NextK.mk (k + 1) ⟨by omega, upto_succ (P := fun y => fitL a b y = false) hno hx (by unfold fitL; simp [e])⟩ (by omega) ⟨⟨rfl, rfl⟩, ⟨rfl, rfl, ⟨rfl, rfl⟩, by show ((k + 1 : Nat) : Int) = (k : Int) + 1; omega, trivial⟩, ⟨⟨rfl, rfl, rfl, rfl, trivial⟩, trivial⟩, trivial⟩) <;> with_reducible refine wK ?_)
    | ((with_reducible show (_ ∧ _) ∧ _ ∧ _); (refine eK ?_ ?_ <;> with_reducible repeat' (first | exact trivial | (show _ ∧ _; refine aK ?_ ?_)))))); all_goals clear fct)
    · have hkl : k = l.length := by simp only [hlm, decide_eq_false_iff_not] at h2; omega
      subst hkl
      have hp2 : ixI (fitL a b) l = -1 := ixI_end hno
      rw [hp2]
      (have fct := hlm; (repeat' (first
    | refine gF ?_
    | ((with_reducible show (_ ∧ _) ∧ _ ∧ _); (refine eK ?_ ?_ <;> with_reducible repeat' (first | exact trivial | (show _ ∧ _; refine aK ?_ ?_)))))); all_goals clear fct)
end Go.Proofs.Heir
end
section
set_option linter.unusedSimpArgs false
set_option linter.unusedVariables false
namespace Go.Proofs.Heir
open Go.Am Go.RowKit Go.Lib
set_option maxRecDepth 100000
theorem list_same {α : Type} {x y : List α} (hl : x.length = y.length) (h : ∀ j, j < x.length → x[j]? = y[j]?) : x = y := by
  refine List.ext_getElem? fun j => ?_
  rcases Nat.lt_or_ge j x.length with h6 | h6
  · exact h j h6
  · rw [List.getElem?_eq_none h6, List.getElem?_eq_none (by omega)]
theorem same_succ {α : Type} {x y : List α} {k : Nat} (h : ∀ j, j < k → x[j]? = y[j]?) (hk : x[k]? = y[k]?) : ∀ j, j < k + 1 → x[j]? = y[j]? := fun j hj => by
  by_cases e : j = k
  · rw [e]; exact hk
  · exact h j (by omega)
set_option maxHeartbeats 8000000
def shortX (x : DefM) : Bool := decide (x.name.size ≤ 300) && decide (x.locl.size ≤ 300)
def shortW (w : WaitM) : Bool := decide (w.name.size ≤ 300)
def shortB (d : DeskM) : Bool := decide (d.defs.length ≤ 40) && decide (d.waits.length ≤ 40) && d.defs.all shortX && d.waits.all shortW
theorem shortB_iff {d : DeskM} : shortB d = true ↔ ShortD d := by
  unfold shortB shortX shortW
  simp only [Bool.and_eq_true, decide_eq_true_eq, List.all_eq_true]
  exact ⟨fun h => ⟨h.1.1.1, h.1.1.2, h.1.2, h.2⟩, fun h => ⟨⟨⟨h.defs, h.waits⟩, h.names⟩, h.wnames⟩⟩
theorem all_upto {α : Type} {p : α → Bool} {l : List α} (h : ∀ (j : Nat) (b : α), j < l.length → l[j]? = some b → p b = true) : l.all p = true := by
  rw [List.all_eq_true]
  intro x hx
  obtain ⟨j, hj⟩ := List.getElem?_of_mem hx
  exact h j x (List.getElem?_eq_some_iff.1 hj).1 hj
theorem all_fails {α : Type} {p : α → Bool} {l : List α} {x : α} (hx : x ∈ l) (h : p x = false) : l.all p = false := by
  cases hh : l.all p with
  | false => rfl
  | true => rw [List.all_eq_true.1 hh x hx] at h; cases h
theorem f10_ok (d : DeskM) : FnOK Tryz.prog 10 [] [eDesk d] [] (eBool (shortB d)) := by
  obtain ⟨r, hr⟩ : ∃ r, shortB d = r := ⟨_, rfl⟩
  rw [hr]
  have hsh := @shortB_iff d
  rw [hr] at hsh
  obtain ⟨l, ws, nx, bz⟩ := d
  unfold shortB at hr
  simp only at hr
  have hlm : (l.map oDef).length = l.length := List.length_map ..
  have hwm : (ws.map oWait).length = ws.length := List.length_map ..
  refine FnOK.startC (rvs := [.tmp 2]) G G_good Tryz.func10 rfl Tryz.ntmps10 rfl rfl ?_; with_reducible refine wD ?_
  by_cases g1 : l.length ≤ 40
  · by_cases g2 : ws.length ≤ 40
    · (have fct := And.intro hlm (And.intro hwm (And.intro g1 (g2))); (repeat' (first
    | refine gF ?_
    | ((with_reducible show (_ ∧ _) ∧ _ ∧ _); (refine eK ?_ ?_ <;> with_reducible repeat' (first | exact trivial | (show _ ∧ _; refine aK ?_ ?_)))))); all_goals clear fct)
      refine LoopK.use G G_good (fun (k : Nat) => [(1, .ptr 10 0 0), (3, eInt k)]) (fun _ => [(10, .live 4 [eDesk ⟨l, ws, nx, bz⟩] false)]) (fun k => k ≤ l.length ∧ ∀ (j : Nat) (b : DefM), j < k → l[j]? = some b → shortX b = true) (fun k => l.length - k) 0 ⟨Nat.zero_le _, fun j b hj => by omega⟩
        ⟨⟨rfl, rfl⟩, ⟨⟨rfl, rfl⟩, rfl, trivial⟩, ⟨⟨rfl, rfl, rfl, rfl, trivial⟩, trivial⟩, trivial⟩ ?_
      intro k ⟨hk, hno⟩
      with_reducible refine wK ?_
      refine IfK.mk (fun h1 => ?_) (fun h1 => ?_) <;> (try simp only [castN] at h1) <;> with_reducible refine wK ?_
      · simp only [hlm, decide_eq_true_eq] at h1
        have hk' : k < l.length := by omega
        obtain ⟨⟨n, lo, c⟩, hx⟩ : ∃ a, l[k]? = some a := ⟨_, List.getElem?_eq_getElem hk'⟩
        have hf : shortX ⟨n, lo, c⟩ = false → r = false := fun h => by rw [← hr, all_fails (List.mem_of_getElem? hx) h]; simp
        refine IdxK.mk k (eDef ⟨n, lo, c⟩) rfl (def_get hx) ?_; with_reducible refine wK ?_
        by_cases e1 : n.size ≤ 300
        · by_cases e2 : lo.size ≤ 300
          · (have fct := And.intro e1 (e2); (repeat' (first
    | refine gF ?_
    | ((first
      | ((with_reducible show IdxK _ _ _ _ _); refine IdxK.mk k (eDef ⟨n, lo, c⟩) rfl (def_get hx) ?_)
      | ((with_reducible show NextK _ _); refine NextK.mk (k + 1) ⟨by omega, upto_succ (P := fun b => shortX b = true) hno hx (by unfold shortX; simp [e1, e2])⟩ (by omega) ⟨⟨rfl, rfl⟩, ⟨⟨rfl, rfl⟩, by show ((k + 1 : Nat) : Int) = (k : Int) + 1; omega, trivial⟩, ⟨⟨rfl, rfl, rfl, rfl, trivial⟩, trivial⟩, trivial⟩)) <;> with_reducible refine wK ?_)
    | ((with_reducible show (_ ∧ _) ∧ _ ∧ _); (refine eK ?_ ?_ <;> with_reducible repeat' (first | exact trivial | (show _ ∧ _; refine aK ?_ ?_)))))); all_goals clear fct)
          · rw [hf (by unfold shortX; simp [e2])]
            (have fct := And.intro e1 (e2); (repeat' (first
    | refine gF ?_
    | (((with_reducible show IdxK _ _ _ _ _); refine IdxK.mk k (eDef ⟨n, lo, c⟩) rfl (def_get hx) ?_) <;> with_reducible refine wK ?_)
    | ((with_reducible show (_ ∧ _) ∧ _ ∧ _); (refine eK ?_ ?_ <;> with_reducible repeat' (first | exact trivial | (show _ ∧ _; refine aK ?_ ?_)))))); all_goals clear fct)
        · rw [hf (by unfold shortX; simp [e1])]
          (have fct := e1; (repeat' (first
    | refine gF ?_
    | ((with_reducible show (_ ∧ _) ∧ _ ∧ _); (refine eK ?_ ?_ <;> with_reducible repeat' (first | exact trivial | (show _ ∧ _; refine aK ?_ ?_)))))); all_goals clear fct)
      · have hkl : k = l.length := by simp only [hlm, decide_eq_false_iff_not] at h1; omega
        subst hkl
        have hall1 := all_upto hno
        (have fct := hlm; (repeat' (first
    | refine gF ?_
    | ((with_reducible show (_ ∧ _) ∧ _ ∧ _); (refine eK ?_ ?_ <;> with_reducible repeat' (first | exact trivial | (show _ ∧ _; refine aK ?_ ?_)))))); all_goals clear fct)
        refine LoopK.use G G_good (fun (k : Nat) => [(1, .ptr 10 0 0), (4, eInt k)]) (fun _ => [(10, .live 4 [eDesk ⟨l, ws, nx, bz⟩] false)]) (fun k => k ≤ ws.length ∧ ∀ (j : Nat) (b : WaitM), j < k → ws[j]? = some b → shortW b = true) (fun k => ws.length - k) 0 ⟨Nat.zero_le _, fun j b hj => by omega⟩
          ⟨⟨rfl, rfl⟩, ⟨⟨rfl, rfl⟩, rfl, trivial⟩, ⟨⟨rfl, rfl, rfl, rfl, trivial⟩, trivial⟩, trivial⟩ ?_
        intro k ⟨hk, hno⟩
        with_reducible refine wK ?_
        refine IfK.mk (fun h2 => ?_) (fun h2 => ?_) <;> (try simp only [castN] at h2) <;> with_reducible refine wK ?_
        · simp only [hwm, decide_eq_true_eq] at h2
          have hk' : k < ws.length := by omega
          obtain ⟨⟨n, t⟩, hx⟩ : ∃ a, ws[k]? = some a := ⟨_, List.getElem?_eq_getElem hk'⟩
          have hf : shortW ⟨n, t⟩ = false → r = false := fun h => by rw [← hr, all_fails (List.mem_of_getElem? hx) h]; simp
          refine IdxK.mk k (eWait ⟨n, t⟩) rfl (wait_get hx) ?_; with_reducible refine wK ?_
          by_cases e1 : n.size ≤ 300
          · (have fct := e1; (repeat' (first
    | refine gF ?_
    | (((with_reducible show NextK _ _); refine NextK.mk (k + 1) ⟨by omega, upto_succ (P := fun b => shortW b = true) hno hx (by unfold shortW; simp [e1])⟩ (by omega) ⟨⟨rfl, rfl⟩, ⟨⟨rfl, rfl⟩, by show ((k + 1 : Nat) : Int) = (k : Int) + 1; omega, trivial⟩, ⟨⟨rfl, rfl, rfl, rfl, trivial⟩, trivial⟩, trivial⟩) <;> with_reducible refine wK ?_)
    | ((with_reducible show (_ ∧ _) ∧ _ ∧ _); (refine eK ?_ ?_ <;> with_reducible repeat' (first | exact trivial | (show _ ∧ _; refine aK ?_ ?_)))))); all_goals clear fct)
          · rw [hf (by unfold shortW; simp [e1])]
            (have fct := e1; (repeat' (first
    | refine gF ?_
    | ((with_reducible show (_ ∧ _) ∧ _ ∧ _); (refine eK ?_ ?_ <;> with_reducible repeat' (first | exact trivial | (show _ ∧ _; refine aK ?_ ?_)))))); all_goals clear fct)
        · have hkl : k = ws.length := by simp only [hwm, decide_eq_false_iff_not] at h2; omega
          subst hkl
          have hall2 := all_upto hno
          rw [show r = true by rw [← hr, hall1, hall2]; simp [g1, g2]]
          (have fct := hwm; (repeat' (first
    | refine gF ?_
    | ((with_reducible show (_ ∧ _) ∧ _ ∧ _); (refine eK ?_ ?_ <;> with_reducible repeat' (first | exact trivial | (show _ ∧ _; refine aK ?_ ?_)))))); all_goals clear fct)
    · rw [show r = false by rw [← hr]; simp [g2]]
      (have fct := And.intro hlm (And.intro hwm (And.intro g1 (g2))); (repeat' (first
    | refine gF ?_
    | ((with_reducible show (_ ∧ _) ∧ _ ∧ _); (refine eK ?_ ?_ <;> with_reducible repeat' (first | exact trivial | (show _ ∧ _; refine aK ?_ ?_)))))); all_goals clear fct)
  · rw [show r = false by rw [← hr]; simp [g1]]
    (have fct := And.intro hlm (g1); (repeat' (first
    | refine gF ?_
    | ((with_reducible show (_ ∧ _) ∧ _ ∧ _); (refine eK ?_ ?_ <;> with_reducible repeat' (first | exact trivial | (show _ ∧ _; refine aK ?_ ?_)))))); all_goals clear fct)
theorem f18_ok (a b : List Int) (ha : a.length ≤ 100000) : FnOK Tryz.prog 18 [] [eInts a, eInts b] [] (eBool (decide (a = b))) := by
  have hlm : (a.map oInt).length = a.length := List.length_map ..
  have hlm' : (b.map oInt).length = b.length := List.length_map ..
  refine FnOK.startC (rvs := [.tmp 4]) G G_good Tryz.func18 rfl Tryz.ntmps18 rfl rfl ?_; with_reducible refine wD ?_
  by_cases g1 : a.length = b.length
  · (have fct := And.intro hlm (And.intro hlm' (g1)); (repeat' (first
    | refine gF ?_
    | ((with_reducible show (_ ∧ _) ∧ _ ∧ _); (refine eK ?_ ?_ <;> with_reducible repeat' (first | exact trivial | (show _ ∧ _; refine aK ?_ ?_)))))); all_goals clear fct)
    refine LoopK.use G G_good (fun (k : Nat) => [(0, eInts a), (1, eInts b), (5, eInt k)]) (fun _ => []) (fun k => k ≤ a.length ∧ ∀ j, j < k → a[j]? = b[j]?) (fun k => a.length - k) 0 ⟨Nat.zero_le _, fun j hj => by omega⟩
      ⟨⟨rfl, rfl⟩, ⟨rfl, rfl, rfl, trivial⟩, trivial⟩ ?_
    intro k ⟨hk, hno⟩
    with_reducible refine wK ?_
    refine IfK.mk (fun h1 => ?_) (fun h1 => ?_) <;> (try simp only [castN] at h1) <;> with_reducible refine wK ?_
    · simp only [hlm, decide_eq_true_eq] at h1
      have hk' : k < a.length := by omega
      obtain ⟨x, hx⟩ : ∃ x, a[k]? = some x := ⟨_, List.getElem?_eq_getElem hk'⟩
      obtain ⟨y, hy⟩ : ∃ y, b[k]? = some y := ⟨_, List.getElem?_eq_getElem (by omega)⟩
      refine IdxK.mk k (eInt x) rfl (int_get hx) ?_; with_reducible refine wK ?_
      refine IdxK.mk k (eInt y) rfl (int_get hy) ?_; with_reducible refine wK ?_
      by_cases e : x = y
      · (have fct := e; (repeat' (first
    | refine gF ?_
    | (((with_reducible show NextK _ _); refine NextK.mk (k + 1) ⟨by omega, same_succ hno (by rw [hx, hy, e])⟩ (by omega) ⟨⟨rfl, rfl⟩, ⟨rfl, rfl, by show ((k + 1 : Nat) : Int) = (k : Int) + 1; omega, trivial⟩, trivial⟩) <;> with_reducible refine wK ?_)
    | ((with_reducible show (_ ∧ _) ∧ _ ∧ _); (refine eK ?_ ?_ <;> with_reducible repeat' (first | exact trivial | (show _ ∧ _; refine aK ?_ ?_)))))); all_goals clear fct)
      · rw [show decide (a = b) = false from decide_eq_false fun h => e (by rw [h] at hx; rw [hx] at hy; exact Option.some.inj hy)]
        (have fct := e; (repeat' (first
    | refine gF ?_
    | ((with_reducible show (_ ∧ _) ∧ _ ∧ _); (refine eK ?_ ?_ <;> with_reducible repeat' (first | exact trivial | (show _ ∧ _; refine aK ?_ ?_)))))); all_goals clear fct)
    · have hkl : k = a.length := by simp only [hlm, decide_eq_false_iff_not] at h1; omega
      subst hkl
      rw [show decide (a = b) = true from decide_eq_true (list_same g1 hno)]
      (have fct := hlm; (repeat' (first
    | refine gF ?_
    | ((with_reducible show (_ ∧ _) ∧ _ ∧ _); (refine eK ?_ ?_ <;> with_reducible repeat' (first | exact trivial | (show _ ∧ _; refine aK ?_ ?_)))))); all_goals clear fct)
  · rw [show decide (a = b) = false from decide_eq_false fun h => g1 (by rw [h])]
    (have fct := And.intro hlm (And.intro hlm' (g1)); (repeat' (first
    | refine gF ?_
    | ((with_reducible show (_ ∧ _) ∧ _ ∧ _); (refine eK ?_ ?_ <;> with_reducible repeat' (first | exact trivial | (show _ ∧ _; refine aK ?_ ?_)))))); all_goals clear fct)
end Go.Proofs.Heir
end
section
set_option linter.unusedSimpArgs false
set_option linter.unusedVariables false
namespace Go.Proofs.Heir
open Go Go.Am Go.RowKit Go.Lib
set_option maxRecDepth 100000
set_option maxHeartbeats 8000000
theorem f50_ok (f : ForM) (n : Int) : FnOK Tryz.prog 50 [] [eFor f, eInt n] [] (.clo (.func 79) [] [.fptr (eFor f) 0, .fptr (eInt n) 0]) := by
  obtain ⟨l, m⟩ := f
  refine FnOK.startC (rvs := [.tmp 4]) G G_good Tryz.func50 rfl Tryz.ntmps50 rfl rfl ?_; with_reducible refine wD ?_
  refine ⟨⟨rfl, rfl⟩, ⟨rfl, trivial, ⟨_, _, _, _, _, rfl, rfl, rfl, rfl, rfl, ⟨rfl, rfl, trivial⟩⟩, ⟨_, _, _, _, _, rfl, rfl, rfl, rfl, rfl, rfl⟩, trivial⟩, ?_⟩
  exact trivial
def bornM (s i : ByteArray) : Int := if (!decide (i = ⟨#[]⟩) || customS s) = true then 1 else 0
theorem size_zero {i : ByteArray} : i.size = 0 ↔ i = ⟨#[]⟩ := by
  constructor
  · intro h
    obtain ⟨⟨l⟩⟩ := i
    have : l.length = 0 := h
    rw [List.eq_nil_of_length_eq_zero this]
  · rintro rfl; rfl
theorem f11_ok (s i : ByteArray) : FnOK Tryz.prog 11 [] [eStr s, eStr i] [] (eInt (bornM s i)) := by
  have h42 := f42_ok s
  unfold bornM
  refine FnOK.startC (rvs := [.tmp 4]) G G_good Tryz.func11 rfl Tryz.ntmps11 rfl rfl ?_; with_reducible refine wD ?_
  cases e : decide (i = ⟨#[]⟩) with
  | true =>
    cases hc : customS s <;> rw [hc] at h42 <;> (have fct := e; (repeat' (first
    | refine gF ?_
    | (((with_reducible show CallK _ _ 42 _ _ _ _); refine CallK.lit [] h42 c42 ⟨rfl, trivial⟩ rfl rfl ?_) <;> with_reducible refine wK ?_)
    | ((with_reducible show (_ ∧ _) ∧ _ ∧ _); (refine eK ?_ ?_ <;> with_reducible repeat' (first | exact trivial | (show _ ∧ _; refine aK ?_ ?_)))))); all_goals clear fct)
    all_goals rfl
  | false =>
    (have fct := e; (repeat' (first
    | refine gF ?_
    | ((with_reducible show (_ ∧ _) ∧ _ ∧ _); (refine eK ?_ ?_ <;> with_reducible repeat' (first | exact trivial | (show _ ∧ _; refine aK ?_ ?_)))))); all_goals clear fct)
    all_goals rfl
theorem f12_ok (s i : ByteArray) : FnOK Tryz.prog 12 [] [eStr s, eStr i] [] (eInt (bornM s i)) := by
  have h43 := f43s_ok s
  unfold bornM
  refine FnOK.startC (rvs := [.tmp 4]) G G_good Tryz.func12 rfl Tryz.ntmps12 rfl rfl ?_; with_reducible refine wD ?_
  refine CallK.lit [] h43 c43 ⟨rfl, trivial⟩ rfl rfl ?_; with_reducible refine wK ?_
  cases hc : customS s with
  | true =>
    rw [Bool.or_true, if_pos rfl]
    repeat' (first
    | refine gK ?_
    | ((with_reducible show (_ ∧ _) ∧ _ ∧ _); (refine eK ?_ ?_ <;> with_reducible repeat' (first | exact trivial | (show _ ∧ _; refine aK ?_ ?_)))))
  | false =>
    rw [Bool.or_false]
    by_cases e : i.size = 0
    · rw [decide_eq_true (size_zero.1 e)]
      (have fct := e; (repeat' (first
    | refine gF ?_
    | ((with_reducible show (_ ∧ _) ∧ _ ∧ _); (refine eK ?_ ?_ <;> with_reducible repeat' (first | exact trivial | (show _ ∧ _; refine aK ?_ ?_)))))); all_goals clear fct)
      all_goals rfl
    · rw [decide_eq_false (fun h => e (size_zero.2 h))]
      (have fct := (show 0 < i.size by omega); (repeat' (first
    | refine gF ?_
    | ((with_reducible show (_ ∧ _) ∧ _ ∧ _); (refine eK ?_ ?_ <;> with_reducible repeat' (first | exact trivial | (show _ ∧ _; refine aK ?_ ?_)))))); all_goals clear fct)
      all_goals rfl
def fateD (x : NodeM) (d : DeskM) : Int := if x.kind = 1 ∧ x.doc = 0 then findD d x.name x.is else -1
theorem f49_ok (x : NodeM) (d : DeskM) (h : SmallD d) : FnOK Tryz.prog 49 [] [eNode x, eDesk d] [] (eInt (fateD x d)) := by
  have h78 := f78_ok d h x.name x.is
  obtain ⟨a1, a2, a3, a4, a5, a6, a7, a8, a9, a10⟩ := x
  obtain ⟨d1, d2, d3, d4⟩ := d
  unfold fateD
  simp only at h78 ⊢
  refine FnOK.startC (rvs := [.tmp 4]) G G_good Tryz.func49 rfl Tryz.ntmps49 rfl rfl ?_; with_reducible refine wD ?_
  by_cases e1 : a1 = 1
  · subst e1
    by_cases e2 : a10 = 0
    · subst e2
      rw [if_pos ⟨rfl, rfl⟩]
      repeat' (first
    | refine gK ?_
    | (((with_reducible show CallK _ _ 78 _ _ _ _); refine CallK.lit [] h78 c78 ⟨⟨rfl, rfl, rfl, rfl, trivial⟩, rfl, rfl, trivial⟩ rfl rfl ?_) <;> with_reducible refine wK ?_)
    | ((with_reducible show (_ ∧ _) ∧ _ ∧ _); (refine eK ?_ ?_ <;> with_reducible repeat' (first | exact trivial | (show _ ∧ _; refine aK ?_ ?_)))))
    · rw [if_neg fun h => e2 h.2]
      (have fct := e2; (repeat' (first
    | refine gF ?_
    | ((with_reducible show (_ ∧ _) ∧ _ ∧ _); (refine eK ?_ ?_ <;> with_reducible repeat' (first | exact trivial | (show _ ∧ _; refine aK ?_ ?_)))))); all_goals clear fct)
  · rw [if_neg fun h => e1 h.1]
    (have fct := e1; (repeat' (first
    | refine gF ?_
    | ((with_reducible show (_ ∧ _) ∧ _ ∧ _); (refine eK ?_ ?_ <;> with_reducible repeat' (first | exact trivial | (show _ ∧ _; refine aK ?_ ?_)))))); all_goals clear fct)
def fateF (f : ForM) (n : Int) (d : DeskM) : Int := if (thereN f.nodes n && rightF f) = true then fateD (nd f.nodes n) d else -1
theorem f15_ok (f : ForM) (hs : SmallN f.nodes) (n : Int) (d : DeskM) (h : SmallD d) : FnOK Tryz.prog 15 [] [eFor f, eInt n, eDesk d] [] (eInt (fateF f n d)) := by
  have h48 := f48_ok f hs
  have h49 := fun x => f49_ok x d h
  obtain ⟨l, m⟩ := f
  obtain ⟨d1, d2, d3, d4⟩ := d
  have hlm : (l.map oNode).length = l.length := List.length_map ..
  unfold fateF
  simp only at h48 h49 ⊢
  refine FnOK.startC (rvs := [.tmp 6]) G G_good Tryz.func15 rfl Tryz.ntmps15 rfl rfl ?_; with_reducible refine wD ?_
  by_cases e1 : n < 0
  · have e : thereN l n = false := by unfold thereN; rw [decide_eq_false (show ¬ 0 ≤ n by omega)]; rfl
    rw [e, Bool.false_and, if_neg (by simp)]
    (have fct := e1; (repeat' (first
    | refine gF ?_
    | ((with_reducible show (_ ∧ _) ∧ _ ∧ _); (refine eK ?_ ?_ <;> with_reducible repeat' (first | exact trivial | (show _ ∧ _; refine aK ?_ ?_)))))); all_goals clear fct)
  by_cases e2 : (l.length : Int) ≤ n
  · have e : thereN l n = false := by unfold thereN; rw [decide_eq_false (show ¬ n < (l.length : Int) by omega)]; simp
    rw [e, Bool.false_and, if_neg (by simp)]
    (have fct := And.intro hlm (And.intro (eq_false e1) (e2)); (repeat' (first
    | refine gF ?_
    | ((with_reducible show (_ ∧ _) ∧ _ ∧ _); (refine eK ?_ ?_ <;> with_reducible repeat' (first | exact trivial | (show _ ∧ _; refine aK ?_ ?_)))))); all_goals clear fct)
  have e : thereN l n = true := by unfold thereN; simp; omega
  rw [e, Bool.true_and]
  cases hr : rightF ⟨l, m⟩ with
  | false =>
    rw [hr] at h48
    rw [if_neg (by simp)]
    (have fct := And.intro hlm (And.intro (eq_false e1) ((eq_false e2))); (repeat' (first
    | refine gF ?_
    | (((with_reducible show CallK _ _ 48 _ _ _ _); refine CallK.lit [] h48 c48 ⟨⟨rfl, rfl, trivial⟩, trivial⟩ rfl rfl ?_) <;> with_reducible refine wK ?_)
    | ((with_reducible show (_ ∧ _) ∧ _ ∧ _); (refine eK ?_ ?_ <;> with_reducible repeat' (first | exact trivial | (show _ ∧ _; refine aK ?_ ?_)))))); all_goals clear fct)
  | true =>
    rw [hr] at h48
    rw [if_pos rfl]
    obtain ⟨k, x, rfl, hx, hnx⟩ := there_iff.1 e
    have h49 := h49 x
    rw [hnx]
    obtain ⟨a1, a2, a3, a4, a5, a6, a7, a8, a9, a10⟩ := x
    (have fct := And.intro hlm (And.intro (eq_false e1) ((eq_false e2))); (repeat' (first
    | refine gF ?_
    | ((first
      | ((with_reducible show CallK _ _ 48 _ _ _ _); refine CallK.lit [] h48 c48 ⟨⟨rfl, rfl, trivial⟩, trivial⟩ rfl rfl ?_)
      | ((with_reducible show IdxK _ _ _ _ _); refine IdxK.mk k (eNode ⟨a1, a2, a3, a4, a5, a6, a7, a8, a9, a10⟩) rfl (node_get hx) ?_)
      | ((with_reducible show CallK _ _ 49 _ _ _ _); refine CallK.lit [] h49 c49 ⟨⟨rfl, rfl, rfl, rfl, rfl, rfl, rfl, rfl, rfl, rfl, trivial⟩, ⟨rfl, rfl, rfl, rfl, trivial⟩, trivial⟩ rfl rfl ?_)) <;> with_reducible refine wK ?_)
    | ((with_reducible show (_ ∧ _) ∧ _ ∧ _); (refine eK ?_ ?_ <;> with_reducible repeat' (first | exact trivial | (show _ ∧ _; refine aK ?_ ?_)))))); all_goals clear fct)
end Go.Proofs.Heir
end
section
set_option linter.unusedSimpArgs false
set_option linter.unusedVariables false
namespace Go.Proofs.Heir
open Go Go.Am Go.RowKit Go.Lib
set_option maxRecDepth 100000
set_option maxHeartbeats 8000000
def isHeir (x : DefM) (y : NodeM) : Bool := decide (y.name = x.locl) && (decide (y.is = x.name) || decide (y.name = x.name))
def heirsU (f : ForM) (x : DefM) : List Int := (elemsU f.nodes (allU f 0)).filter fun c => isHeir x (nd f.nodes c)
theorem allU_there {f : ForM} {n : Int} : ∀ c ∈ allU f n, thereN f.nodes c = true := by
  intro c hc
  unfold allU at hc
  split at hc
  · rename_i h
    obtain ⟨hr, hn⟩ : rightF f = true ∧ thereN f.nodes n = true := by simpa using h
    exact (U.ord_way (U.tree_of hr) _ n hn c hc).1
  · simp at hc
theorem allU_len {f : ForM} {n : Int} : (allU f n).length ≤ f.nodes.length := by
  unfold allU
  split
  · rename_i h
    obtain ⟨hr, hn⟩ : rightF f = true ∧ thereN f.nodes n = true := by simpa using h
    exact U.ord_len (U.tree_of hr) _ hn
  · simp
theorem each_it' (f : ForM) (hs : SmallN f.nodes) (n : Int) : ItOK Tryz.prog 79 [.fptr (eFor f) 0, .fptr (eInt n) 0] (elemsU f.nodes (allU f n)).length (fun k => [oInt (((elemsU f.nodes (allU f n))[k]?).getD 0), eNode (nd f.nodes (((elemsU f.nodes (allU f n))[k]?).getD 0))]) := each_it f n (allU f n) (Nat.le_trans allU_len (by have := hs.len; omega)) allU_there (f80_ok f hs n) c80
theorem f16_ok (f : ForM) (hs : SmallN f.nodes) (x : DefM) : FnOK Tryz.prog 16 [] [eFor f, eDef x] [] (eInts (heirsU f x)) := by
  have h50 := f50_ok f 0
  have hit := each_it' f hs 0
  obtain ⟨es, hes⟩ : ∃ es, es = elemsU f.nodes (allU f 0) := ⟨_, rfl⟩
  rw [← hes] at hit
  unfold heirsU
  rw [← hes]
  have hel : es.length ≤ 60 := by
    rw [hes]; unfold elemsU
    exact Nat.le_trans (List.length_filter_le _ _) (Nat.le_trans allU_len hs.len)
  obtain ⟨l, m⟩ := f
  obtain ⟨x1, x2, x3⟩ := x
  simp only at hit hel ⊢
  refine FnOK.startC (rvs := [.tmp 4]) G G_good Tryz.func16 rfl Tryz.ntmps16 rfl rfl ?_; with_reducible refine wD ?_
  refine CallK.val [] h50 c50 ⟨⟨rfl, rfl, trivial⟩, rfl, trivial⟩ rfl rfl rfl ?_; with_reducible refine wK ?_
  repeat' (first
    | refine gK ?_
    | ((with_reducible show (_ ∧ _) ∧ _ ∧ _); (refine eK ?_ ?_ <;> with_reducible repeat' (first | exact trivial | (show _ ∧ _; refine aK ?_ ?_)))))
  refine LoopK.ghostRow 5 50 57 1 0 0 (.lit (.slice none 0 0)) (.own 57 0 0) rfl rfl rfl rfl rfl rfl ?_
  obtain ⟨ks, hks⟩ : ∃ ks : Nat → List Int, ks = fun k => (es.take k).filter fun c => isHeir ⟨x1, x2, x3⟩ (nd l c) := ⟨_, rfl⟩
  have hkl : ∀ k, (ks k).length ≤ 60 := fun k => by
    rw [hks]; exact Nat.le_trans (List.length_filter_le _ _) (by rw [List.length_take]; omega)
  have hk0 : ks 0 = [] := by rw [hks]; rfl
  have hstep : ∀ (k : Nat) (c : Int), es[k]? = some c → ks (k + 1) = ks k ++ if isHeir ⟨x1, x2, x3⟩ (nd l c) = true then [c] else [] := fun k c hc => by
    rw [hks]; show ((es.take (k + 1)).filter _) = _
    rw [List.take_add_one, hc, List.filter_append]
    congr 1
    show List.filter _ [c] = _
    rw [List.filter_cons]; rfl
  refine LoopK.range G G_good 2 [(3, .ptr 1 0 0), (5, .ptr 0 0 0), (9, .clo (.func 79) [] [.fptr (eFor ⟨l, m⟩) 0, .fptr (eInt 0) 0])]
    (fun k => [(0, .live 1 [.own 57 0 (ks k).length] false), (1, .live 3 [eDef ⟨x1, x2, x3⟩] false), (57, rInts (ks k))])
    hit c79 ?_ rfl ⟨⟨rfl, rfl⟩, rfl⟩ (fun _ _ => rfl) (fun _ _ => rfl) ⟨⟨rfl, rfl⟩, rfl, rfl⟩ ?_ ?_
  · rw [hk0]
    (refine fK ?_; (with_reducible repeat' (first | exact trivial | (show _ ∧ _; refine aK ?_ ?_))); (all_goals try rfl))
    · exact ⟨⟨rfl, rfl⟩, trivial⟩
    · exact ⟨.refl rfl, rfl⟩
    · show ObjK (MF _ _ _ 12) [] []
      exact ⟨.refl rfl, rfl⟩
  · intro k hk
    obtain ⟨c, hc⟩ : ∃ c, es[k]? = some c := ⟨_, List.getElem?_eq_getElem hk⟩
    rw [hc, Option.getD_some, show oInt c = eInt c from rfl]
    generalize hy : nd l c = y
    obtain ⟨a1, a2, a3, a4, a5, a6, a7, a8, a9, a10⟩ := y
    have hst := hstep k c hc
    rw [hy] at hst
    have hkk := hkl k
    have turn0 : isHeir ⟨x1, x2, x3⟩ ⟨a1, a2, a3, a4, a5, a6, a7, a8, a9, a10⟩ = false → ks (k + 1) = ks k := fun h => by rw [hst, h]; simp
    have turn1 : isHeir ⟨x1, x2, x3⟩ ⟨a1, a2, a3, a4, a5, a6, a7, a8, a9, a10⟩ = true → ks (k + 1) = ks k ++ [c] := fun h => by rw [hst, h]; simp
    clear hst hstep hit hy
    with_reducible refine wK ?_
    refine BodyK.mk rfl ?_; with_reducible refine wK ?_
    by_cases e1 : a2 = x2
    · by_cases e2 : a3 = x1
      · have h0 := turn1 (by unfold isHeir; rw [decide_eq_true e1, decide_eq_true e2]; rfl)
        (have fct := And.intro (eq_true e1) ((eq_true e2)); (repeat' (first
    | refine gF ?_
    | ((first
      | ((with_reducible show ElemK _ _ _ _ _); refine ElemK.mk (.agg [eStr x1, eStr x2, eInt x3]) rfl ?_)
      | ((with_reducible show AppK _ _ _ _ _ _ _ _ _ _); refine AppK.mk ((ks k).map oInt) [eInt c] ⟨rfl, (List.length_map ..).symm, rfl⟩ ⟨rfl, rfl, rfl⟩ rfl (by simp; omega) (by simp; omega) ?_)) <;> with_reducible refine wK ?_)
    | ((with_reducible show (_ ∧ _) ∧ _ ∧ _); (refine eK ?_ ?_ <;> with_reducible repeat' (first | exact trivial | (show _ ∧ _; refine aK ?_ ?_)))))); all_goals clear fct)
        refine TurnK.mk ?_
        rw [h0]
        (refine fK ?_; (with_reducible repeat' (first | exact trivial | (show _ ∧ _; refine aK ?_ ?_))); (all_goals try rfl))
        · simp
        · exact ⟨.refl rfl, rfl⟩
        · refine ⟨?_, noRef_ints _⟩
          rw [List.map_append]; exact .refl (by rw [← List.map_append]; exact noRef_ints _)
      · by_cases e3 : a2 = x1
        · have h0 := turn1 (by unfold isHeir; rw [decide_eq_true e1, decide_eq_true e3, Bool.or_true]; rfl)
          (have fct := And.intro (eq_true e1) (And.intro (eq_false e2) ((eq_true e3))); (repeat' (first
    | refine gF ?_
    | ((first
      | ((with_reducible show ElemK _ _ _ _ _); refine ElemK.mk (.agg [eStr x1, eStr x2, eInt x3]) rfl ?_)
      | ((with_reducible show AppK _ _ _ _ _ _ _ _ _ _); refine AppK.mk ((ks k).map oInt) [eInt c] ⟨rfl, (List.length_map ..).symm, rfl⟩ ⟨rfl, rfl, rfl⟩ rfl (by simp; omega) (by simp; omega) ?_)) <;> with_reducible refine wK ?_)
    | ((with_reducible show (_ ∧ _) ∧ _ ∧ _); (refine eK ?_ ?_ <;> with_reducible repeat' (first | exact trivial | (show _ ∧ _; refine aK ?_ ?_)))))); all_goals clear fct)
          refine TurnK.mk ?_
          rw [h0]
          (refine fK ?_; (with_reducible repeat' (first | exact trivial | (show _ ∧ _; refine aK ?_ ?_))); (all_goals try rfl))
          · simp
          · exact ⟨.refl rfl, rfl⟩
          · refine ⟨?_, noRef_ints _⟩
            rw [List.map_append]; exact .refl (by rw [← List.map_append]; exact noRef_ints _)
        · have h0 := turn0 (by unfold isHeir; rw [decide_eq_true e1, decide_eq_false e2, decide_eq_false e3]; rfl)
          (have fct := And.intro (eq_true e1) (And.intro (eq_false e2) ((eq_false e3))); (repeat' (first
    | refine gF ?_
    | (((with_reducible show ElemK _ _ _ _ _); refine ElemK.mk (.agg [eStr x1, eStr x2, eInt x3]) rfl ?_) <;> with_reducible refine wK ?_)
    | ((with_reducible show (_ ∧ _) ∧ _ ∧ _); (refine eK ?_ ?_ <;> with_reducible repeat' (first | exact trivial | (show _ ∧ _; refine aK ?_ ?_)))))); all_goals clear fct)
          refine TurnK.mk ?_
          rw [h0]
          (refine fK ?_; (with_reducible repeat' (first | exact trivial | (show _ ∧ _; refine aK ?_ ?_))); (all_goals try rfl))
          · exact ⟨.refl rfl, rfl⟩
          · exact ⟨.refl (noRef_ints _), noRef_ints _⟩
    · have h0 := turn0 (by unfold isHeir; rw [decide_eq_false e1]; rfl)
      (have fct := (eq_false e1); (repeat' (first
    | refine gF ?_
    | (((with_reducible show ElemK _ _ _ _ _); refine ElemK.mk (.agg [eStr x1, eStr x2, eInt x3]) rfl ?_) <;> with_reducible refine wK ?_)
    | ((with_reducible show (_ ∧ _) ∧ _ ∧ _); (refine eK ?_ ?_ <;> with_reducible repeat' (first | exact trivial | (show _ ∧ _; refine aK ?_ ?_)))))); all_goals clear fct)
      refine TurnK.mk ?_
      rw [h0]
      (refine fK ?_; (with_reducible repeat' (first | exact trivial | (show _ ∧ _; refine aK ?_ ?_))); (all_goals try rfl))
      · exact ⟨.refl rfl, rfl⟩
      · exact ⟨.refl (noRef_ints _), noRef_ints _⟩
  · with_reducible refine wK ?_
    have hke : ks es.length = es.filter fun c => isHeir ⟨x1, x2, x3⟩ (nd l c) := by rw [hks]; show List.filter _ (es.take es.length) = _; rw [List.take_length]
    rw [← hke]
    (refine eK ?_ ?_ <;> with_reducible repeat' (first | exact trivial | (show _ ∧ _; refine aK ?_ ?_)))
    all_goals exact frz_ints rfl rfl rfl rfl
end Go.Proofs.Heir
end
section
set_option linter.unusedSimpArgs false
set_option linter.unusedVariables false
namespace Go.Proofs.Heir
open Go Go.Am Go.RowKit Go.Lib
set_option maxRecDepth 100000
set_option maxHeartbeats 8000000
structure DueM where
  node : Int
  at' : Int
  deriving DecidableEq
@[reducible] def eDue (x : DueM) : AV := .agg [eInt x.node, eInt 9, eInt x.at', eStr ⟨#[]⟩, eBool false, eBool false, eStr ⟨#[]⟩, eStr ⟨#[]⟩, eInt 0, eInt 0, eBool false]
def oDue (x : DueM) : AV := eDue x
@[reducible] def eDues (l : List DueM) : AV := .sl 11 (l.map oDue)
@[reducible] def rDues (l : List DueM) : MS := .live 11 (l.map oDue) false
theorem noRef_dues (l : List DueM) : noRefL (l.map oDue) = true := noRefL_map oDue (fun _ => rfl) l
theorem due_get {l : List DueM} {k : Nat} {x : DueM} (h : l[k]? = some x) : (l.map oDue)[k]? = some (eDue x) := by rw [List.getElem?_map, h]; rfl
theorem frz_dues {m : ML} {fz : Nat → Bool} {tab : List (Nat × Nat)} {n t len : Nat} {ro : Bool} {rows : List AV} {l : List DueM} (h1 : lkM m t = .live 11 rows ro) (h2 : fz t = true) (h3 : rows = l.map oDue) (h4 : len = l.length) : FrzK m fz (MF tab fz m n) (eDues l) t 0 len := by
  subst h3; subst h4
  have e : (l.map oDue).length = l.length := List.length_map ..
  exact .cut h1 h2 (by omega) (by rw [List.drop_zero, List.take_of_length_le (by omega)]) (noRef_dues l)
def dueOf (l : List NodeM) (d : DeskM) (c : Int) : List DueM := if fateD (nd l c) d = -1 then [] else [⟨c, fateD (nd l c) d⟩]
def triesU (f : ForM) (n : Int) (d : DeskM) : List DueM := (elemsU f.nodes (allU f n)).flatMap (dueOf f.nodes d)
theorem dueOf_len (l : List NodeM) (d : DeskM) : ∀ cs : List Int, (cs.flatMap (dueOf l d)).length ≤ cs.length
  | [] => Nat.le_refl _
  | c :: r => by
    have := dueOf_len l d r
    rw [List.flatMap_cons, List.length_append, List.length_cons]
    have h2 : (dueOf l d c).length ≤ 1 := by unfold dueOf; split <;> simp
    omega
theorem f17_ok (f : ForM) (hs : SmallN f.nodes) (n : Int) (d : DeskM) (hd : SmallD d) : FnOK Tryz.prog 17 [] [eFor f, eInt n, eDesk d] [] (eDues (triesU f n d)) := by
  have h50 := f50_ok f n
  have hit := each_it' f hs n
  obtain ⟨es, hes⟩ : ∃ es, es = elemsU f.nodes (allU f n) := ⟨_, rfl⟩
  rw [← hes] at hit
  unfold triesU
  rw [← hes]
  have hel : es.length ≤ 60 := by
    rw [hes]; unfold elemsU
    exact Nat.le_trans (List.length_filter_le _ _) (Nat.le_trans allU_len hs.len)
  obtain ⟨l, m⟩ := f
  simp only at hit hel ⊢
  obtain ⟨ks, hks⟩ : ∃ ks : Nat → List DueM, ks = fun k => (es.take k).flatMap (dueOf l d) := ⟨_, rfl⟩
  have hkl : ∀ k, (ks k).length ≤ 60 := fun k => by
    rw [hks]; exact Nat.le_trans (dueOf_len _ _ _) (by rw [List.length_take]; omega)
  have hk0 : ks 0 = [] := by rw [hks]; rfl
  have hke : ks es.length = es.flatMap (dueOf l d) := by rw [hks]; show List.flatMap _ (es.take es.length) = _; rw [List.take_length]
  have hstep : ∀ (k : Nat) (c : Int), es[k]? = some c → ks (k + 1) = ks k ++ dueOf l d c := fun k c hc => by
    rw [hks]; show ((es.take (k + 1)).flatMap _) = _
    rw [List.take_add_one, hc, List.flatMap_append]
    congr 1
    show List.flatMap _ [c] = _
    rw [List.flatMap_cons]; simp
  rw [← hke]
  have h49 := fun x => f49_ok x d hd
  unfold dueOf at hstep
  obtain ⟨d1, d2, d3, d4⟩ := d
  refine FnOK.startC (rvs := [.tmp 6]) G G_good Tryz.func17 rfl Tryz.ntmps17 rfl rfl ?_; with_reducible refine wD ?_
  refine CallK.val [] h50 c50 ⟨⟨rfl, rfl, trivial⟩, rfl, trivial⟩ rfl rfl rfl ?_; with_reducible refine wK ?_
  repeat' (first
    | refine gK ?_
    | ((with_reducible show (_ ∧ _) ∧ _ ∧ _); (refine eK ?_ ?_ <;> with_reducible repeat' (first | exact trivial | (show _ ∧ _; refine aK ?_ ?_)))))
  refine LoopK.ghostRow 7 70 77 11 0 0 (.lit (.slice none 0 0)) (.own 77 0 0) rfl rfl rfl rfl rfl rfl ?_
  refine LoopK.range G G_good 2 [(5, .ptr 1 0 0), (7, .ptr 0 0 0), (13, .clo (.func 79) [] [.fptr (eFor ⟨l, m⟩) 0, .fptr (eInt n) 0])]
    (fun k => [(0, .live 1 [.own 77 0 (ks k).length] false), (1, .live 4 [eDesk ⟨d1, d2, d3, d4⟩] false), (77, rDues (ks k))])
    hit c79 ?_ rfl ⟨⟨rfl, rfl⟩, rfl⟩ (fun _ _ => rfl) (fun _ _ => rfl) ⟨⟨rfl, rfl⟩, rfl, rfl⟩ ?_ ?_
  · rw [hk0]
    (refine fK ?_; (with_reducible repeat' (first | exact trivial | (show _ ∧ _; refine aK ?_ ?_))); (all_goals try rfl))
    · exact ⟨⟨rfl, rfl⟩, trivial⟩
    · exact ⟨.refl rfl, rfl⟩
    · show ObjK (MF _ _ _ 12) [] []
      exact ⟨.refl rfl, rfl⟩
  · intro k hk
    obtain ⟨c, hc⟩ : ∃ c, es[k]? = some c := ⟨_, List.getElem?_eq_getElem hk⟩
    rw [hc, Option.getD_some, show oInt c = eInt c from rfl]
    generalize hy : nd l c = y
    have hst := hstep k c hc
    rw [hy] at hst
    have hkk := hkl k
    have h49y := h49 y
    obtain ⟨a1, a2, a3, a4, a5, a6, a7, a8, a9, a10⟩ := y
    clear hstep hit hy h49 hes hks hke
    generalize fateD ⟨a1, a2, a3, a4, a5, a6, a7, a8, a9, a10⟩ ⟨d1, d2, d3, d4⟩ = at' at hst h49y
    with_reducible refine wK ?_
    refine BodyK.mk rfl ?_; with_reducible refine wK ?_
    refine ElemK.mk (.agg [.sl 3 (d1.map oDef), .sl 2 (d2.map oWait), eInt d3, eBool d4]) rfl ?_; with_reducible refine wK ?_
    repeat' (first
    | refine gK ?_
    | (((with_reducible show CallK _ _ 49 _ _ _ _); refine CallK.lit [] h49y c49 ⟨⟨rfl, rfl, rfl, rfl, rfl, rfl, rfl, rfl, rfl, rfl, trivial⟩, ⟨rfl, rfl, rfl, rfl, trivial⟩, trivial⟩ rfl rfl ?_) <;> with_reducible refine wK ?_)
    | ((with_reducible show (_ ∧ _) ∧ _ ∧ _); (refine eK ?_ ?_ <;> with_reducible repeat' (first | exact trivial | (show _ ∧ _; refine aK ?_ ?_)))))
    by_cases e : at' = -1
    · rw [if_pos e, List.append_nil] at hst
      (have fct := (eq_true e); (repeat' (first
    | refine gF ?_
    | ((with_reducible show (_ ∧ _) ∧ _ ∧ _); (refine eK ?_ ?_ <;> with_reducible repeat' (first | exact trivial | (show _ ∧ _; refine aK ?_ ?_)))))); all_goals clear fct)
      refine TurnK.mk ?_
      rw [hst]
      (refine fK ?_; (with_reducible repeat' (first | exact trivial | (show _ ∧ _; refine aK ?_ ?_))); (all_goals try rfl))
      · exact ⟨.refl rfl, rfl⟩
      · exact ⟨.refl (noRef_dues _), noRef_dues _⟩
    · rw [if_neg e] at hst
      (have fct := (eq_false e); (repeat' (first
    | refine gF ?_
    | (((with_reducible show AppK _ _ _ _ _ _ _ _ _ _); refine AppK.mk ((ks k).map oDue) [eDue ⟨c, at'⟩] ⟨rfl, (List.length_map ..).symm, rfl⟩ ⟨rfl, rfl, rfl⟩ rfl (by simp; omega) (by simp; omega) ?_) <;> with_reducible refine wK ?_)
    | ((with_reducible show (_ ∧ _) ∧ _ ∧ _); (refine eK ?_ ?_ <;> with_reducible repeat' (first | exact trivial | (show _ ∧ _; refine aK ?_ ?_)))))); all_goals clear fct)
      refine TurnK.mk ?_
      rw [hst]
      (refine fK ?_; (with_reducible repeat' (first | exact trivial | (show _ ∧ _; refine aK ?_ ?_))); (all_goals try rfl))
      · simp
      · exact ⟨.refl rfl, rfl⟩
      · refine ⟨?_, noRef_dues _⟩
        rw [List.map_append]; exact .refl (by rw [← List.map_append]; exact noRef_dues _)
  · with_reducible refine wK ?_
    (refine eK ?_ ?_ <;> with_reducible repeat' (first | exact trivial | (show _ ∧ _; refine aK ?_ ?_)))
    all_goals exact frz_dues rfl rfl rfl rfl
end Go.Proofs.Heir
end
section
set_option linter.unusedSimpArgs false
set_option linter.unusedVariables false
namespace Go.Proofs.Heir
open Go Go.Am Go.RowKit Go.Lib
set_option maxRecDepth 100000
def preU (l : List NodeM) (m : Nat) (P : List Int) (cs : List Int) : List Int := P ++ cs.flatMap (U.ordN l m)
theorem preU_step (l : List NodeM) (m : Nat) (P : List Int) {cs : List Int} {j : Nat} {c : Int} (h : cs[j]? = some c) : preU l m P (cs.take (j + 1)) = preU l m P (cs.take j) ++ U.ordN l m c := by
  unfold preU
  rw [take_snocI h, List.flatMap_append]; simp
theorem preU_len (l : List NodeM) (m : Nat) (P : List Int) (cs : List Int) (j : Nat) : (preU l m P (cs.take j)).length ≤ (preU l m P cs).length := by
  unfold preU
  conv => rhs; rw [← List.take_append_drop j cs]
  rw [List.flatMap_append]; simp
set_option maxHeartbeats 8000000 in
/-- ref.All -/
theorem f81_ok (f : ForM) (hs : SmallN f.nodes) (T : U.Tree f.nodes) : ∀ (m : Nat) (k : Nat) (x : NodeM), f.nodes[k]? = some x → f.nodes.length + 1 ≤ m + (U.wayN f.nodes k).length → FnOK Tryz.prog 81 [] [eFor f, eInt k] [] (eInts (U.ordN f.nodes m k)) := by
  have hl := hs.len
  intro m
  induction m with
  | zero => intro k x hx hm; have := U.way_len (l := f.nodes) k; omega
  | succ m ih =>
    intro k x hx hm
    have htk := there_get hx
    have hnk := nd_get hx
    have h7 := hs.kids x (List.mem_of_getElem? hx)
    have hkid := T.kid k htk
    have hway := fun c => U.way_kid T (n := (k : Int)) (k := c) htk
    have hol := U.ord_len T (m + 1) htk
    rw [hnk] at hkid hway
    have ihc : ∀ c ∈ chU x, FnOK Tryz.prog 81 [] [eFor f, eInt c] [] (eInts (U.ordN f.nodes m c)) := fun c hc => by
      obtain ⟨i, y, rfl, hy, _⟩ := there_iff.1 (hkid c hc).1
      exact ih i y hy (by rw [hway _ hc]; simp; omega)
    obtain ⟨P, hP⟩ : ∃ P, P = (k : Int) :: (if x.under = -1 then [] else U.ordN f.nodes m x.under) := ⟨_, rfl⟩
    have hoe : U.ordN f.nodes (m + 1) k = preU f.nodes m P x.kids := by
      unfold preU; rw [U.ordN, hnk, hP]; unfold chU
      split <;> simp
    rw [hoe] at hol ⊢
    have hpl := fun j => preU_len f.nodes m P x.kids j
    have hps := fun j c => @preU_step f.nodes m P x.kids j c
    have hp0 : preU f.nodes m P (x.kids.take 0) = P := by unfold preU; simp
    have ihk : ∀ c ∈ x.kids, FnOK Tryz.prog 81 [] [eFor f, eInt c] [] (eInts (U.ordN f.nodes m c)) := fun c hc => ihc c (by unfold chU; simp [hc])
    have ihu : x.under ≠ -1 → FnOK Tryz.prog 81 [] [eFor f, eInt x.under] [] (eInts (U.ordN f.nodes m x.under)) := fun h => ihc _ (by unfold chU; rw [if_neg h]; simp)
    have hPl : P.length ≤ 60 := by have := hpl 0; rw [hp0] at this; omega
    clear ih hway hm hkid hnk hoe ihc
    obtain ⟨l, mo⟩ := f
    obtain ⟨a1, a2, a3, a4, a5, a6, a7, a8, a9, a10⟩ := x
    simp only at hl hx h7 hol hpl hps ihk ihu hP hp0 ⊢
    have hlk : (a7.map oInt).length = a7.length := List.length_map ..
    apply CutK (P := Tryz.prog) (N := 51) (nL := 0) (F := True) (sl := [(1, eInt k), (2, .ptr 20 0 0), (5, .own 81 0 P.length), (6, eInt 0)]) (m := [(20, .live 2 [eFor ⟨l, mo⟩] false), (81, rInts P)])
    case main =>
      intro key
      refine FnOK.startC (rvs := [.tmp 4]) G G_good Tryz.func81 rfl Tryz.ntmps81 rfl rfl ?_; delta List.toArray; ((with_reducible conv => whnf); (with_reducible conv => congr <;> reduce); repeat ((first | (with_reducible refine HaltK.mk ?_) | (with_reducible refine StopK.mk ?_)); (with_reducible conv => whnf); (with_reducible conv => congr <;> reduce)))
      refine IdxK.mk k (eNode ⟨a1, a2, a3, a4, a5, a6, a7, a8, a9, a10⟩) rfl (node_get hx) ?_; ((with_reducible conv => whnf); (with_reducible conv => congr <;> reduce); repeat ((first | (with_reducible refine HaltK.mk ?_) | (with_reducible refine StopK.mk ?_)); (with_reducible conv => whnf); (with_reducible conv => congr <;> reduce)))
      by_cases e9 : a9 = -1
      · rw [if_pos e9] at hP
        repeat' (first
    | (first
    | ((with_reducible show IfK _ _ _ _); first | refine IfK.ff ?_ | refine IfK.tt ?_ | refine IfK.no (by first | rfl | assumption | exact nf (by assumption) | exact nt (by assumption) | ((try simp only [castN]); first | (simp [eq_true e9]; done) | (simp [eq_true e9]; omega))) ?_ | refine IfK.yes (by first | rfl | assumption | exact nf (by assumption) | exact nt (by assumption) | ((try simp only [castN]); first | (simp [eq_true e9]; done) | (simp [eq_true e9]; omega))) ?_)
    | ((with_reducible show NeedK _ _ _ _); refine NeedK.mk (by (try simp only [castN]); omega) ?_)
    | ((with_reducible show DrawK _ _ _ _); refine DrawK.mk (by kernel_rfl) (by kernel_rfl) (by kernel_rfl) ?_)) <;> ((with_reducible conv => whnf); (with_reducible conv => congr <;> reduce); repeat ((first | (with_reducible refine HaltK.mk ?_) | (with_reducible refine StopK.mk ?_)); (with_reducible conv => whnf); (with_reducible conv => congr <;> reduce)))
    | ((with_reducible show (_ ∧ _) ∧ _ ∧ _); refine ⟨⟨rfl, rfl⟩, ?_, ?_⟩ <;> (with_reducible conv => whnf) <;> repeat' (first | (with_reducible exact trivial) | (with_reducible refine And.intro ?_ ?_ <;> with_reducible conv => whnf))))
        refine LoopK.fit ?_ (key trivial)
        subst hP
        (refine ⟨⟨rfl, rfl⟩, ?_⟩; (with_reducible conv => whnf); (repeat' (first | (with_reducible exact trivial) | (with_reducible refine And.intro ?_ ?_ <;> with_reducible conv => whnf))); (all_goals try rfl))
        exact ⟨.refl (noRef_ints _), noRef_ints _⟩
      · rw [if_neg e9] at hP
        have ihu := ihu e9
        have hPL : P.length = (U.ordN l m a9).length + 1 := by rw [hP]; rfl
        have hbc : ((U.ordN l m a9).map oInt).length = (U.ordN l m a9).length := List.length_map ..
        repeat' (first
    | (first
    | ((with_reducible show IfK _ _ _ _); first | refine IfK.ff ?_ | refine IfK.tt ?_ | refine IfK.no (by first | rfl | assumption | exact nf (by assumption) | exact nt (by assumption) | ((try simp only [castN]); first | (simp [eq_false e9]; done) | (simp [eq_false e9]; omega))) ?_ | refine IfK.yes (by first | rfl | assumption | exact nf (by assumption) | exact nt (by assumption) | ((try simp only [castN]); first | (simp [eq_false e9]; done) | (simp [eq_false e9]; omega))) ?_)
    | ((with_reducible show NeedK _ _ _ _); refine NeedK.mk (by (try simp only [castN]); omega) ?_)
    | ((with_reducible show DrawK _ _ _ _); refine DrawK.mk (by kernel_rfl) (by kernel_rfl) (by kernel_rfl) ?_)
    | ((with_reducible show IdxK _ _ _ _ _); refine IdxK.mk k (eNode ⟨a1, a2, a3, a4, a5, a6, a7, a8, a9, a10⟩) rfl (node_get hx) ?_)
    | ((with_reducible show CallK _ _ 81 _ _ _ _); refine CallK.val [] ihu c81 ⟨⟨rfl, rfl, trivial⟩, rfl, trivial⟩ rfl rfl rfl ?_)
    | ((with_reducible show AppK _ _ _ _ _ _ _ _ _ _); refine AppK.mk [eInt k] ((U.ordN l m a9).map oInt) ⟨rfl, rfl, rfl⟩ ⟨rfl, rfl, rfl⟩ (one_ints _) (by simp; omega) (by simp; omega) ?_)) <;> ((with_reducible conv => whnf); (with_reducible conv => congr <;> reduce); repeat ((first | (with_reducible refine HaltK.mk ?_) | (with_reducible refine StopK.mk ?_)); (with_reducible conv => whnf); (with_reducible conv => congr <;> reduce)))
    | ((with_reducible show (_ ∧ _) ∧ _ ∧ _); refine ⟨⟨rfl, rfl⟩, ?_, ?_⟩ <;> (with_reducible conv => whnf) <;> repeat' (first | (with_reducible exact trivial) | (with_reducible refine And.intro ?_ ?_ <;> with_reducible conv => whnf))))
        refine LoopK.fit ?_ (key trivial)
        subst hP
        (refine ⟨⟨rfl, rfl⟩, ?_⟩; (with_reducible conv => whnf); (repeat' (first | (with_reducible exact trivial) | (with_reducible refine And.intro ?_ ?_ <;> with_reducible conv => whnf))); (all_goals try rfl))
        · simp
        · exact ⟨.refl (noRef_ints _), noRef_ints _⟩
    case rest =>
      intro _
      clear hP ihu
      refine LoopK.use G G_good (fun (j : Nat) => [(1, eInt k), (2, .ptr 20 0 0), (5, .own 81 0 (preU l m P (a7.take j)).length), (6, eInt j)]) (fun j => [(20, .live 2 [eFor ⟨l, mo⟩] false), (81, rInts (preU l m P (a7.take j)))])
        (fun j => j ≤ a7.length) (fun j => a7.length - j) 0 (Nat.zero_le _)
        (by rw [hp0]; exact ⟨⟨rfl, rfl⟩, ⟨rfl, ⟨rfl, rfl⟩, ⟨rfl, rfl⟩, rfl, trivial⟩, ⟨⟨rfl, rfl, trivial⟩, trivial⟩, ⟨.refl (noRef_ints _), noRef_ints _⟩, trivial⟩) ?_
      intro j hj
      ((with_reducible conv => whnf); (with_reducible conv => congr <;> reduce); repeat ((first | (with_reducible refine HaltK.mk ?_) | (with_reducible refine StopK.mk ?_)); (with_reducible conv => whnf); (with_reducible conv => congr <;> reduce)))
      refine IdxK.mk k (eNode ⟨a1, a2, a3, a4, a5, a6, a7, a8, a9, a10⟩) rfl (node_get hx) ?_; ((with_reducible conv => whnf); (with_reducible conv => congr <;> reduce); repeat ((first | (with_reducible refine HaltK.mk ?_) | (with_reducible refine StopK.mk ?_)); (with_reducible conv => whnf); (with_reducible conv => congr <;> reduce)))
      refine IfK.mk (fun h1 => ?_) (fun h1 => ?_) <;> (try simp only [castN] at h1) <;> ((with_reducible conv => whnf); (with_reducible conv => congr <;> reduce); repeat ((first | (with_reducible refine HaltK.mk ?_) | (with_reducible refine StopK.mk ?_)); (with_reducible conv => whnf); (with_reducible conv => congr <;> reduce)))
      · have hj' : j < a7.length := by simp only [decide_eq_true_eq] at h1; omega
        obtain ⟨c, hc⟩ : ∃ c, a7[j]? = some c := ⟨_, List.getElem?_eq_getElem hj'⟩
        have ihc' := ihk c (List.mem_of_getElem? hc)
        have hst := hps j c hc
        have hl1 := hpl (j + 1)
        have hbl : ((preU l m P (a7.take j)).map oInt).length = (preU l m P (a7.take j)).length := List.length_map ..
        have hbc : ((U.ordN l m c).map oInt).length = (U.ordN l m c).length := List.length_map ..
        have hsum : (preU l m P (a7.take j)).length + (U.ordN l m c).length ≤ 60 := by rw [hst, List.length_append] at hl1; omega
        refine IdxK.mk k (eNode ⟨a1, a2, a3, a4, a5, a6, a7, a8, a9, a10⟩) rfl (node_get hx) ?_; ((with_reducible conv => whnf); (with_reducible conv => congr <;> reduce); repeat ((first | (with_reducible refine HaltK.mk ?_) | (with_reducible refine StopK.mk ?_)); (with_reducible conv => whnf); (with_reducible conv => congr <;> reduce)))
        refine IdxK.mk j (eInt c) rfl (int_get hc) ?_; ((with_reducible conv => whnf); (with_reducible conv => congr <;> reduce); repeat ((first | (with_reducible refine HaltK.mk ?_) | (with_reducible refine StopK.mk ?_)); (with_reducible conv => whnf); (with_reducible conv => congr <;> reduce)))
        refine CallK.val [] ihc' c81 ⟨⟨rfl, rfl, trivial⟩, rfl, trivial⟩ rfl rfl rfl ?_; ((with_reducible conv => whnf); (with_reducible conv => congr <;> reduce); repeat ((first | (with_reducible refine HaltK.mk ?_) | (with_reducible refine StopK.mk ?_)); (with_reducible conv => whnf); (with_reducible conv => congr <;> reduce)))
        refine AppK.mk ((preU l m P (a7.take j)).map oInt) ((U.ordN l m c).map oInt) ⟨rfl, hbl.symm, rfl⟩ ⟨rfl, rfl, rfl⟩ (one_ints _) (by simp; omega) (by simp; omega) ?_; ((with_reducible conv => whnf); (with_reducible conv => congr <;> reduce); repeat ((first | (with_reducible refine HaltK.mk ?_) | (with_reducible refine StopK.mk ?_)); (with_reducible conv => whnf); (with_reducible conv => congr <;> reduce)))
        refine DrawK.mk (by kernel_rfl) (by kernel_rfl) (by kernel_rfl) ?_; ((with_reducible conv => whnf); (with_reducible conv => congr <;> reduce); repeat ((first | (with_reducible refine HaltK.mk ?_) | (with_reducible refine StopK.mk ?_)); (with_reducible conv => whnf); (with_reducible conv => congr <;> reduce)))
        refine NeedK.mk (by (try simp only [castN]); omega) ?_; ((with_reducible conv => whnf); (with_reducible conv => congr <;> reduce); repeat ((first | (with_reducible refine HaltK.mk ?_) | (with_reducible refine StopK.mk ?_)); (with_reducible conv => whnf); (with_reducible conv => congr <;> reduce)))
        refine NextK.mk (j + 1) (by omega) (by omega) ⟨⟨rfl, rfl⟩, ⟨rfl, ⟨rfl, rfl⟩, ⟨rfl, ?_⟩, by show ((j + 1 : Nat) : Int) = (j : Int) + 1; omega, trivial⟩, ⟨⟨rfl, rfl, trivial⟩, trivial⟩, ⟨?_, noRef_ints _⟩, trivial⟩
        · rw [hst]; simp
        · rw [hst, List.map_append]; exact .refl (by rw [← List.map_append]; exact noRef_ints _)
      · refine ⟨⟨rfl, rfl⟩, ?_, ?_⟩ <;> (with_reducible conv => whnf) <;> repeat' (first | (with_reducible exact trivial) | (with_reducible refine And.intro ?_ ?_ <;> with_reducible conv => whnf))
        have hjl : j = a7.length := by simp only [decide_eq_false_iff_not] at h1; omega
        subst hjl
        rw [List.take_length]
        exact frz_ints rfl rfl rfl rfl
end Go.Proofs.Heir
end
section
set_option linter.unusedSimpArgs false
set_option linter.unusedVariables false
namespace Go.Proofs.Heir
open Go Go.Am Go.RowKit Go.Lib
set_option maxRecDepth 100000
set_option maxHeartbeats 8000000
theorem elemsU_len (l : List NodeM) (ms : List Int) : (elemsU l ms).length ≤ ms.length := List.length_filter_le _ _
theorem f51_ok (f : ForM) (hs : SmallN f.nodes) (T : U.Tree f.nodes) (n : Nat) (x : NodeM) (hx : f.nodes[n]? = some x) : FnOK Tryz.prog 51 [] [eFor f, eInt n] [] (eInts (elemsU f.nodes (U.ordN f.nodes f.nodes.length n))) := by
  have htn := there_get hx
  have h81 := f81_ok f hs T f.nodes.length n x hx (U.ord_fuel T htn)
  have hol := U.ord_len T f.nodes.length htn
  have hl := hs.len
  have hth : ∀ c ∈ U.ordN f.nodes f.nodes.length n, thereN f.nodes c = true := fun c hc => (U.ord_way T _ n htn c hc).1
  obtain ⟨l, m⟩ := f
  simp only at h81 hol hl hth ⊢
  generalize U.ordN l l.length n = ms at h81 hol hth ⊢
  have hms : (ms.map oInt).length = ms.length := List.length_map ..
  have hlm : (l.map oNode).length = l.length := List.length_map ..
  refine FnOK.startC (rvs := [.tmp 4]) G G_good Tryz.func51 rfl Tryz.ntmps51 rfl rfl ?_; with_reducible refine wD ?_
  refine CallK.val [] h81 c81 ⟨⟨rfl, rfl, trivial⟩, rfl, trivial⟩ rfl rfl rfl ?_; with_reducible refine wK ?_
  repeat' (first
    | refine gK ?_
    | ((with_reducible show (_ ∧ _) ∧ _ ∧ _); (refine eK ?_ ?_ <;> with_reducible repeat' (first | exact trivial | (show _ ∧ _; refine aK ?_ ?_)))))
  refine LoopK.ghost 5 51 1 rfl rfl ?_
  refine LoopK.use G G_good (fun (j : Nat) => [(2, .ptr 20 0 0), (5, .own 51 0 (elemsU l (ms.take j)).length), (6, eInts ms), (7, eInt j)]) (fun j => [(20, .live 2 [eFor ⟨l, m⟩] false), (51, rInts (elemsU l (ms.take j)))])
    (fun j => j ≤ ms.length) (fun j => ms.length - j) 0 (Nat.zero_le _)
    ⟨⟨rfl, rfl⟩, ⟨⟨rfl, rfl⟩, ⟨rfl, rfl⟩, rfl, rfl, trivial⟩, ⟨⟨rfl, rfl, trivial⟩, trivial⟩, ⟨.refl rfl, noRef_ints _⟩, trivial⟩ ?_
  intro j hj
  with_reducible refine wK ?_
  refine IfK.mk (fun h1 => ?_) (fun h1 => ?_) <;> (try simp only [castN] at h1) <;> with_reducible refine wK ?_
  · have hj' : j < ms.length := by simp only [decide_eq_true_eq] at h1; omega
    obtain ⟨c, hc⟩ : ∃ c, ms[j]? = some c := ⟨_, List.getElem?_eq_getElem hj'⟩
    obtain ⟨i, y, rfl, hy, hny⟩ := there_iff.1 (hth c (List.mem_of_getElem? hc))
    have hst := elemsU_step (l := l) hc
    rw [hny] at hst
    have hle := Nat.le_trans (elemsU_len l (ms.take j)) (by rw [List.length_take]; exact Nat.min_le_left j ms.length)
    obtain ⟨b1, b2, b3, b4, b5, b6, b7, b8, b9, b10⟩ := y
    refine IdxK.mk j (eInt (i : Int)) rfl (int_get hc) ?_; with_reducible refine wK ?_
    refine IdxK.mk i (eNode ⟨b1, b2, b3, b4, b5, b6, b7, b8, b9, b10⟩) rfl (node_get hy) ?_; with_reducible refine wK ?_
    by_cases e : b1 = 1
    · rw [if_pos e] at hst
      (have fct := (eq_true e); (repeat' (first
    | refine gF ?_
    | ((first
      | ((with_reducible show IdxK _ _ _ _ _); refine IdxK.mk j (eInt (i : Int)) rfl (int_get hc) ?_)
      | ((with_reducible show AppK _ _ _ _ _ _ _ _ _ _); refine AppK.mk ((elemsU l (ms.take j)).map oInt) [eInt (i : Int)] ⟨rfl, (List.length_map ..).symm, rfl⟩ ⟨rfl, rfl, rfl⟩ rfl (by simp; omega) (by simp; omega) ?_)) <;> with_reducible refine wK ?_)
    | ((with_reducible show (_ ∧ _) ∧ _ ∧ _); (refine eK ?_ ?_ <;> with_reducible repeat' (first | exact trivial | (show _ ∧ _; refine aK ?_ ?_)))))); all_goals clear fct)
      refine NextK.mk (j + 1) (by omega) (by omega) ⟨⟨rfl, rfl⟩, ⟨⟨rfl, rfl⟩, ⟨rfl, ?_⟩, rfl, by show ((j + 1 : Nat) : Int) = (j : Int) + 1; omega, trivial⟩, ⟨⟨rfl, rfl, trivial⟩, trivial⟩, ⟨?_, noRef_ints _⟩, trivial⟩
      · rw [hst]; simp
      · rw [hst, List.map_append]; exact .refl (by rw [← List.map_append]; exact noRef_ints _)
    · rw [if_neg e, List.append_nil] at hst
      (have fct := (eq_false e); (repeat' (first
    | refine gF ?_
    | ((with_reducible show (_ ∧ _) ∧ _ ∧ _); (refine eK ?_ ?_ <;> with_reducible repeat' (first | exact trivial | (show _ ∧ _; refine aK ?_ ?_)))))); all_goals clear fct)
      refine NextK.mk (j + 1) (by omega) (by omega) ⟨⟨rfl, rfl⟩, ⟨⟨rfl, rfl⟩, ⟨rfl, ?_⟩, rfl, by show ((j + 1 : Nat) : Int) = (j : Int) + 1; omega, trivial⟩, ⟨⟨rfl, rfl, trivial⟩, trivial⟩, ⟨?_, noRef_ints _⟩, trivial⟩
      · rw [hst]
      · rw [hst]; exact .refl (noRef_ints _)
  · (refine eK ?_ ?_ <;> with_reducible repeat' (first | exact trivial | (show _ ∧ _; refine aK ?_ ?_)))
    have hjl : j = ms.length := by simp only [decide_eq_false_iff_not] at h1; omega
    subst hjl
    rw [List.take_length]
    exact frz_ints rfl rfl rfl rfl
theorem f20_ok (f : ForM) (n : Nat) (x : NodeM) (hx : f.nodes[n]? = some x) (d : DeskM) (h : SmallD d) (hr : rightD d = true) : FnOK Tryz.prog 20 [] [eFor f, eInt n, eDesk d] [] (eInt (fateD x d)) := by
  have h52 := f52_ok d h x.name x.is
  obtain ⟨l, m⟩ := f
  obtain ⟨a1, a2, a3, a4, a5, a6, a7, a8, a9, a10⟩ := x
  unfold fateD findD
  rw [if_pos hr]
  obtain ⟨d1, d2, d3, d4⟩ := d
  simp only at h52 hx ⊢
  refine FnOK.startC (rvs := [.tmp 6]) G G_good Tryz.func20 rfl Tryz.ntmps20 rfl rfl ?_; with_reducible refine wD ?_
  refine IdxK.mk n (eNode ⟨a1, a2, a3, a4, a5, a6, a7, a8, a9, a10⟩) rfl (node_get hx) ?_; with_reducible refine wK ?_
  by_cases e1 : a1 = 1
  · subst e1
    by_cases e2 : a10 = 0
    · subst e2
      rw [if_pos ⟨rfl, rfl⟩]
      repeat' (first
    | refine gK ?_
    | (((with_reducible show CallK _ _ 52 _ _ _ _); refine CallK.lit [] h52 c52 ⟨⟨rfl, rfl, rfl, rfl, trivial⟩, rfl, rfl, trivial⟩ rfl rfl ?_) <;> with_reducible refine wK ?_)
    | ((with_reducible show (_ ∧ _) ∧ _ ∧ _); (refine eK ?_ ?_ <;> with_reducible repeat' (first | exact trivial | (show _ ∧ _; refine aK ?_ ?_)))))
    · rw [if_neg fun h => e2 h.2]
      (have fct := e2; (repeat' (first
    | refine gF ?_
    | ((with_reducible show (_ ∧ _) ∧ _ ∧ _); (refine eK ?_ ?_ <;> with_reducible repeat' (first | exact trivial | (show _ ∧ _; refine aK ?_ ?_)))))); all_goals clear fct)
  · rw [if_neg fun h => e1 h.1]
    (have fct := e1; (repeat' (first
    | refine gF ?_
    | ((with_reducible show (_ ∧ _) ∧ _ ∧ _); (refine eK ?_ ?_ <;> with_reducible repeat' (first | exact trivial | (show _ ∧ _; refine aK ?_ ?_)))))); all_goals clear fct)
end Go.Proofs.Heir
end
section
set_option linter.unusedSimpArgs false
set_option linter.unusedVariables false
namespace Go.Proofs.Heir
open Go Go.Am Go.RowKit Go.Lib
set_option maxRecDepth 100000
set_option maxHeartbeats 8000000
@[reducible] def vDue (a : DueM) : Value := .agg #[.int .i64 a.node, .int .i64 9, .int .i64 a.at', .string ⟨#[]⟩, .bool false, .bool false, .string ⟨#[]⟩, .string ⟨#[]⟩, .int .i64 0, .int .i64 0, .bool false]
theorem todo_eq (a b : Int) (w : World) : (Op.equalIn 9999 72 (.agg #[.int .i64 9, .int .i64 a, .string ⟨#[]⟩, .bool false, .bool false, .string ⟨#[]⟩, .string ⟨#[]⟩, .int .i64 0, .int .i64 0, .bool false]) (.agg #[.int .i64 9, .int .i64 b, .string ⟨#[]⟩, .bool false, .bool false, .string ⟨#[]⟩, .string ⟨#[]⟩, .int .i64 0, .int .i64 0, .bool false])).run Tryz.prog w = .ok (decide (a = b)) w := by
  have hS : Tryz.prog.underlying 72 = some (.struct (Tryz.prog.fieldsOf 72)) := by kernel_rfl
  have hp : Tryz.prog.stoodInHeld 72 = false := by kernel_rfl
  have u9 := Tryz.underlying9
  have a9 := Tryz.isAgg9
  have z9 := Tryz.sizeOf9
  have u3 := Tryz.underlying3
  have a3 := Tryz.isAgg3
  have z3 := Tryz.sizeOf3
  have u4 := Tryz.underlying4
  have a4 := Tryz.isAgg4
  have z4 := Tryz.sizeOf4
  rw [show (9999 : Nat) = 9998 + 1 from rfl, run_equalIn_agg w 9998 72 _ _ hS hp]
  simp only [Program.fieldsOf, Tryz.underlying72]
  go_simp
  by_cases h : a = b <;> simp [h]
theorem due_eq (a b : DueM) (w : World) : (Op.equalIn 10000 74 (vDue a) (vDue b)).run Tryz.prog w = .ok (decide (a = b)) w := by
  have hS : Tryz.prog.underlying 74 = some (.struct (Tryz.prog.fieldsOf 74)) := by kernel_rfl
  have hp : Tryz.prog.stoodInHeld 74 = false := by kernel_rfl
  have ht := todo_eq a.at' b.at' w
  have u72 := Tryz.underlying72
  have a72 := Tryz.isAgg72
  have z72 := Tryz.sizeOf72
  have u3 := Tryz.underlying3
  have a3 := Tryz.isAgg3
  have z3 := Tryz.sizeOf3
  rw [show (10000 : Nat) = 9999 + 1 from rfl, run_equalIn_agg w 9999 74 _ _ hS hp]
  simp only [Program.fieldsOf, Tryz.underlying74]
  go_simp
  obtain ⟨a1, a2⟩ := a
  obtain ⟨b1, b2⟩ := b
  simp only [DueM.mk.injEq]
  by_cases h1 : a1 = b1 <;> by_cases h2 : a2 = b2 <;> simp [h1, h2]
theorem due_neq (a b : DueM) (y z : Operand) (w : World) : ((do eqGuard .neq 74 y z (vDue a) (vDue b); binOp .neq 74 (vDue a) (vDue b) : Sem Value)).run Tryz.prog w = .ok (.bool (!decide (a = b))) w := by
  rw [Sem.run_bind, run_eqGuard_agg w .neq 74 y z _ _ (by kernel_rfl), Result.andThen_ok, run_neq_struct, due_eq]; rfl
theorem f21_ok (a b : List DueM) (ha : a.length ≤ 100000) : FnOK Tryz.prog 21 [] [eDues a, eDues b] [] (eBool (decide (a = b))) := by
  have hlm : (a.map oDue).length = a.length := List.length_map ..
  have hlm' : (b.map oDue).length = b.length := List.length_map ..
  refine FnOK.startC (rvs := [.tmp 4]) G G_good Tryz.func21 rfl Tryz.ntmps21 rfl rfl ?_; with_reducible refine wD ?_
  by_cases g1 : a.length = b.length
  · (have fct := And.intro hlm (And.intro hlm' (g1)); (repeat' (first
    | refine gF ?_
    | ((with_reducible show (_ ∧ _) ∧ _ ∧ _); (refine eK ?_ ?_ <;> with_reducible repeat' (first | exact trivial | (show _ ∧ _; refine aK ?_ ?_)))))); all_goals clear fct)
    refine LoopK.use G G_good (fun (k : Nat) => [(0, eDues a), (1, eDues b), (5, eInt k)]) (fun _ => []) (fun k => k ≤ a.length ∧ ∀ j, j < k → a[j]? = b[j]?) (fun k => a.length - k) 0 ⟨Nat.zero_le _, fun j hj => by omega⟩
      ⟨⟨rfl, rfl⟩, ⟨rfl, rfl, rfl, trivial⟩, trivial⟩ ?_
    intro k ⟨hk, hno⟩
    with_reducible refine wK ?_
    refine IfK.mk (fun h1 => ?_) (fun h1 => ?_) <;> (try simp only [castN] at h1) <;> with_reducible refine wK ?_
    · simp only [hlm, decide_eq_true_eq] at h1
      have hk' : k < a.length := by omega
      obtain ⟨⟨x1, x2⟩, hx⟩ : ∃ x, a[k]? = some x := ⟨_, List.getElem?_eq_getElem hk'⟩
      obtain ⟨⟨y1, y2⟩, hy⟩ : ∃ y, b[k]? = some y := ⟨_, List.getElem?_eq_getElem (by omega)⟩
      refine IdxK.mk k (eDue ⟨x1, x2⟩) rfl (due_get hx) ?_; with_reducible refine wK ?_
      refine IdxK.mk k (eDue ⟨y1, y2⟩) rfl (due_get hy) ?_; with_reducible refine wK ?_
      refine EqK.mk _ (fun y z w => due_neq ⟨x1, x2⟩ ⟨y1, y2⟩ y z w) ?_; with_reducible refine wK ?_
      by_cases e : (⟨x1, x2⟩ : DueM) = ⟨y1, y2⟩
      · (have fct := e; (repeat' (first
    | refine gF ?_
    | (((with_reducible show NextK _ _); refine NextK.mk (k + 1) ⟨by omega, same_succ hno (by rw [hx, hy, e])⟩ (by omega) ⟨⟨rfl, rfl⟩, ⟨rfl, rfl, by show ((k + 1 : Nat) : Int) = (k : Int) + 1; omega, trivial⟩, trivial⟩) <;> with_reducible refine wK ?_)
    | ((with_reducible show (_ ∧ _) ∧ _ ∧ _); (refine eK ?_ ?_ <;> with_reducible repeat' (first | exact trivial | (show _ ∧ _; refine aK ?_ ?_)))))); all_goals clear fct)
      · rw [show decide (a = b) = false from decide_eq_false fun h => e (by rw [h] at hx; rw [hx] at hy; exact Option.some.inj hy)]
        (have fct := e; (repeat' (first
    | refine gF ?_
    | ((with_reducible show (_ ∧ _) ∧ _ ∧ _); (refine eK ?_ ?_ <;> with_reducible repeat' (first | exact trivial | (show _ ∧ _; refine aK ?_ ?_)))))); all_goals clear fct)
    · have hkl : k = a.length := by simp only [hlm, decide_eq_false_iff_not] at h1; omega
      subst hkl
      rw [show decide (a = b) = true from decide_eq_true (list_same g1 hno)]
      (have fct := hlm; (repeat' (first
    | refine gF ?_
    | ((with_reducible show (_ ∧ _) ∧ _ ∧ _); (refine eK ?_ ?_ <;> with_reducible repeat' (first | exact trivial | (show _ ∧ _; refine aK ?_ ?_)))))); all_goals clear fct)
  · rw [show decide (a = b) = false from decide_eq_false fun h => g1 (by rw [h])]
    (have fct := And.intro hlm (And.intro hlm' (g1)); (repeat' (first
    | refine gF ?_
    | ((with_reducible show (_ ∧ _) ∧ _ ∧ _); (refine eK ?_ ?_ <;> with_reducible repeat' (first | exact trivial | (show _ ∧ _; refine aK ?_ ?_)))))); all_goals clear fct)
end Go.Proofs.Heir
end
section
set_option linter.unusedSimpArgs false
set_option linter.unusedVariables false
namespace Go.Proofs.Heir
open Go Go.Am Go.RowKit Go.Lib
set_option maxRecDepth 100000
set_option maxHeartbeats 8000000
theorem filter_step {α : Type} (p : α → Bool) {ms : List α} {j : Nat} {c : α} (hc : ms[j]? = some c) : (ms.take (j + 1)).filter p = (ms.take j).filter p ++ if p c = true then [c] else [] := by
  rw [take_snocI hc, List.filter_append]
  congr 1
  rw [List.filter_cons]; rfl
theorem f19_ok (f : ForM) (hs : SmallN f.nodes) (T : U.Tree f.nodes) (h0 : thereN f.nodes 0 = true) (x : DefM) : FnOK Tryz.prog 19 [] [eFor f, eDef x] [] (eInts ((elemsU f.nodes (U.ordN f.nodes f.nodes.length 0)).filter fun c => isHeir x (nd f.nodes c))) := by
  obtain ⟨z, x0, hz, hx0, _⟩ := there_iff.1 h0
  obtain rfl : z = 0 := by omega
  have h51 := f51_ok f hs T 0 x0 hx0
  have hol := Nat.le_trans (elemsU_len f.nodes _) (U.ord_len T f.nodes.length h0)
  have hl := hs.len
  have hth : ∀ c ∈ elemsU f.nodes (U.ordN f.nodes f.nodes.length 0), thereN f.nodes c = true := fun c hc => (U.ord_way T _ 0 h0 c (List.mem_filter.1 (show c ∈ List.filter _ _ from hc)).1).1
  obtain ⟨l, m⟩ := f
  obtain ⟨x1, x2, x3⟩ := x
  simp only [Int.natCast_zero] at h51 hol hl hth ⊢
  change FnOK Tryz.prog 51 [] [eFor ⟨l, m⟩, eInt 0] [] (eInts (elemsU l (U.ordN l l.length 0))) at h51
  generalize elemsU l (U.ordN l l.length 0) = ms at h51 hol hth ⊢
  have hms : (ms.map oInt).length = ms.length := List.length_map ..
  obtain ⟨ks, hks⟩ : ∃ ks : Nat → List Int, ks = fun k => (ms.take k).filter fun c => isHeir ⟨x1, x2, x3⟩ (nd l c) := ⟨_, rfl⟩
  have hkl : ∀ k, (ks k).length ≤ 60 := fun k => by
    rw [hks]; exact Nat.le_trans (List.length_filter_le _ _) (by rw [List.length_take]; omega)
  have hk0 : ks 0 = [] := by rw [hks]; rfl
  have hke : ks ms.length = ms.filter fun c => isHeir ⟨x1, x2, x3⟩ (nd l c) := by rw [hks]; show List.filter _ (ms.take ms.length) = _; rw [List.take_length]
  have hstep : ∀ (k : Nat) (c : Int), ms[k]? = some c → ks (k + 1) = ks k ++ if isHeir ⟨x1, x2, x3⟩ (nd l c) = true then [c] else [] := fun k c hc => by
    rw [hks]; exact filter_step _ hc
  rw [← hke]
  refine FnOK.startC (rvs := [.tmp 4]) G G_good Tryz.func19 rfl Tryz.ntmps19 rfl rfl ?_; with_reducible refine wD ?_
  refine CallK.val [] h51 c51 ⟨⟨rfl, rfl, trivial⟩, rfl, trivial⟩ rfl rfl rfl ?_; with_reducible refine wK ?_
  repeat' (first
    | refine gK ?_
    | ((with_reducible show (_ ∧ _) ∧ _ ∧ _); (refine eK ?_ ?_ <;> with_reducible repeat' (first | exact trivial | (show _ ∧ _; refine aK ?_ ?_)))))
  refine LoopK.ghost 5 51 1 rfl rfl ?_
  refine LoopK.use G G_good (fun (j : Nat) => [(2, .ptr 20 0 0), (3, .ptr 30 0 0), (5, .own 51 0 (ks j).length), (6, eInts ms), (7, eInt j)]) (fun j => [(20, .live 2 [eFor ⟨l, m⟩] false), (30, .live 3 [eDef ⟨x1, x2, x3⟩] false), (51, rInts (ks j))])
    (fun j => j ≤ ms.length) (fun j => ms.length - j) 0 (Nat.zero_le _)
    (by rw [hk0]; exact ⟨⟨rfl, rfl⟩, ⟨⟨rfl, rfl⟩, ⟨rfl, rfl⟩, ⟨rfl, rfl⟩, rfl, rfl, trivial⟩, ⟨⟨rfl, rfl, trivial⟩, trivial⟩, ⟨⟨rfl, rfl, rfl, trivial⟩, trivial⟩, ⟨.refl rfl, noRef_ints _⟩, trivial⟩) ?_
  intro j hj
  with_reducible refine wK ?_
  refine IfK.mk (fun h1 => ?_) (fun h1 => ?_) <;> (try simp only [castN] at h1) <;> with_reducible refine wK ?_
  · have hj' : j < ms.length := by simp only [decide_eq_true_eq] at h1; omega
    obtain ⟨c, hc⟩ : ∃ c, ms[j]? = some c := ⟨_, List.getElem?_eq_getElem hj'⟩
    obtain ⟨i, y, rfl, hy, hny⟩ := there_iff.1 (hth c (List.mem_of_getElem? hc))
    have hst := hstep j _ hc
    rw [hny] at hst
    have hle := hkl j
    obtain ⟨b1, b2, b3, b4, b5, b6, b7, b8, b9, b10⟩ := y
    have turn0 : isHeir ⟨x1, x2, x3⟩ ⟨b1, b2, b3, b4, b5, b6, b7, b8, b9, b10⟩ = false → ks (j + 1) = ks j := fun h => by rw [hst, h]; simp
    have turn1 : isHeir ⟨x1, x2, x3⟩ ⟨b1, b2, b3, b4, b5, b6, b7, b8, b9, b10⟩ = true → ks (j + 1) = ks j ++ [(i : Int)] := fun h => by rw [hst, h]; simp
    clear hst hstep hks hke hny
    refine IdxK.mk j (eInt (i : Int)) rfl (int_get hc) ?_; with_reducible refine wK ?_
    refine IdxK.mk i (eNode ⟨b1, b2, b3, b4, b5, b6, b7, b8, b9, b10⟩) rfl (node_get hy) ?_; with_reducible refine wK ?_
    by_cases e1 : b2 = x2
    · by_cases e3 : b2 = x1
      · have h0 := turn1 (by unfold isHeir; rw [decide_eq_true e1, decide_eq_true e3, Bool.or_true]; rfl)
        (have fct := And.intro (eq_true e1) ((eq_true e3)); (repeat' (first
    | refine gF ?_
    | ((first
      | ((with_reducible show IdxK _ _ _ _ _); refine IdxK.mk j (eInt (i : Int)) rfl (int_get hc) ?_)
      | ((with_reducible show AppK _ _ _ _ _ _ _ _ _ _); refine AppK.mk ((ks j).map oInt) [eInt (i : Int)] ⟨rfl, (List.length_map ..).symm, rfl⟩ ⟨rfl, rfl, rfl⟩ rfl (by simp; omega) (by simp; omega) ?_)) <;> with_reducible refine wK ?_)
    | ((with_reducible show (_ ∧ _) ∧ _ ∧ _); (refine eK ?_ ?_ <;> with_reducible repeat' (first | exact trivial | (show _ ∧ _; refine aK ?_ ?_)))))); all_goals clear fct)
        refine NextK.mk (j + 1) (by omega) (by omega) ⟨⟨rfl, rfl⟩, ⟨⟨rfl, rfl⟩, ⟨rfl, rfl⟩, ⟨rfl, ?_⟩, rfl, by show ((j + 1 : Nat) : Int) = (j : Int) + 1; omega, trivial⟩, ⟨⟨rfl, rfl, trivial⟩, trivial⟩, ⟨⟨rfl, rfl, rfl, trivial⟩, trivial⟩, ⟨?_, noRef_ints _⟩, trivial⟩
        · rw [h0]; simp
        · rw [h0, List.map_append]; exact .refl (by rw [← List.map_append]; exact noRef_ints _)
      · by_cases e2 : b3 = x1
        · have h0 := turn1 (by unfold isHeir; rw [decide_eq_true e1, decide_eq_true e2]; rfl)
          (have fct := And.intro (eq_true e1) (And.intro (eq_false e3) ((eq_true e2))); (repeat' (first
    | refine gF ?_
    | ((first
      | ((with_reducible show IdxK _ _ _ _ _); refine IdxK.mk j (eInt (i : Int)) rfl (int_get hc) ?_)
      | ((with_reducible show AppK _ _ _ _ _ _ _ _ _ _); refine AppK.mk ((ks j).map oInt) [eInt (i : Int)] ⟨rfl, (List.length_map ..).symm, rfl⟩ ⟨rfl, rfl, rfl⟩ rfl (by simp; omega) (by simp; omega) ?_)) <;> with_reducible refine wK ?_)
    | ((with_reducible show (_ ∧ _) ∧ _ ∧ _); (refine eK ?_ ?_ <;> with_reducible repeat' (first | exact trivial | (show _ ∧ _; refine aK ?_ ?_)))))); all_goals clear fct)
          refine NextK.mk (j + 1) (by omega) (by omega) ⟨⟨rfl, rfl⟩, ⟨⟨rfl, rfl⟩, ⟨rfl, rfl⟩, ⟨rfl, ?_⟩, rfl, by show ((j + 1 : Nat) : Int) = (j : Int) + 1; omega, trivial⟩, ⟨⟨rfl, rfl, trivial⟩, trivial⟩, ⟨⟨rfl, rfl, rfl, trivial⟩, trivial⟩, ⟨?_, noRef_ints _⟩, trivial⟩
          · rw [h0]; simp
          · rw [h0, List.map_append]; exact .refl (by rw [← List.map_append]; exact noRef_ints _)
        · have h0 := turn0 (by unfold isHeir; rw [decide_eq_true e1, decide_eq_false e2, decide_eq_false e3]; rfl)
          (have fct := And.intro (eq_true e1) (And.intro (eq_false e3) ((eq_false e2))); (repeat' (first
    | refine gF ?_
    | ((with_reducible show (_ ∧ _) ∧ _ ∧ _); (refine eK ?_ ?_ <;> with_reducible repeat' (first | exact trivial | (show _ ∧ _; refine aK ?_ ?_)))))); all_goals clear fct)
          refine NextK.mk (j + 1) (by omega) (by omega) ⟨⟨rfl, rfl⟩, ⟨⟨rfl, rfl⟩, ⟨rfl, rfl⟩, ⟨rfl, ?_⟩, rfl, by show ((j + 1 : Nat) : Int) = (j : Int) + 1; omega, trivial⟩, ⟨⟨rfl, rfl, trivial⟩, trivial⟩, ⟨⟨rfl, rfl, rfl, trivial⟩, trivial⟩, ⟨?_, noRef_ints _⟩, trivial⟩
          · rw [h0]
          · rw [h0]; exact .refl (noRef_ints _)
    · have h0 := turn0 (by unfold isHeir; rw [decide_eq_false e1]; rfl)
      (have fct := (eq_false e1); (repeat' (first
    | refine gF ?_
    | ((with_reducible show (_ ∧ _) ∧ _ ∧ _); (refine eK ?_ ?_ <;> with_reducible repeat' (first | exact trivial | (show _ ∧ _; refine aK ?_ ?_)))))); all_goals clear fct)
      refine NextK.mk (j + 1) (by omega) (by omega) ⟨⟨rfl, rfl⟩, ⟨⟨rfl, rfl⟩, ⟨rfl, rfl⟩, ⟨rfl, ?_⟩, rfl, by show ((j + 1 : Nat) : Int) = (j : Int) + 1; omega, trivial⟩, ⟨⟨rfl, rfl, trivial⟩, trivial⟩, ⟨⟨rfl, rfl, rfl, trivial⟩, trivial⟩, ⟨?_, noRef_ints _⟩, trivial⟩
      · rw [h0]
      · rw [h0]; exact .refl (noRef_ints _)
  · (refine eK ?_ ?_ <;> with_reducible repeat' (first | exact trivial | (show _ ∧ _; refine aK ?_ ?_)))
    have hjl : j = ms.length := by simp only [decide_eq_false_iff_not] at h1; omega
    subst hjl
    exact frz_ints rfl rfl rfl rfl
end Go.Proofs.Heir
end
section
set_option linter.unusedSimpArgs false
set_option linter.unusedVariables false
namespace Go.Proofs.Heir
open Go Go.Am Go.RowKit Go.Lib
set_option maxRecDepth 100000
set_option maxHeartbeats 8000000
theorem ixI_ge {α : Type} (p : α → Bool) (l : List α) : -1 ≤ ixI p l := by
  unfold ixI
  split <;> omega
theorem fate_ge (x : NodeM) (d : DeskM) : -1 ≤ fateD x d := by
  have hf : -1 ≤ findR d.defs x.name x.is := by
    unfold findR
    split
    · exact ixI_ge _ _
    · exact ixI_ge _ _
  unfold fateD findD
  split
  · split
    · exact hf
    · omega
  · omega
theorem f22_ok (f : ForM) (hs : SmallN f.nodes) (T : U.Tree f.nodes) (n : Nat) (x0 : NodeM) (hx0 : f.nodes[n]? = some x0) (d : DeskM) (hd : SmallD d) (hr : rightD d = true) : FnOK Tryz.prog 22 [] [eFor f, eInt n, eDesk d] [] (eDues ((elemsU f.nodes (U.ordN f.nodes f.nodes.length n)).flatMap (dueOf f.nodes d))) := by
  have h51 := f51_ok f hs T n x0 hx0
  have htn := there_get hx0
  have hol := Nat.le_trans (elemsU_len f.nodes _) (U.ord_len T f.nodes.length htn)
  have hl := hs.len
  have hth : ∀ c ∈ elemsU f.nodes (U.ordN f.nodes f.nodes.length n), thereN f.nodes c = true := fun c hc => (U.ord_way T _ n htn c (List.mem_filter.1 (show c ∈ List.filter _ _ from hc)).1).1
  have h20 := fun i y hy => f20_ok f i y hy d hd hr
  have hge := fun y => fate_ge y d
  obtain ⟨l, m⟩ := f
  simp only at h51 hol hl hth h20 ⊢
  generalize elemsU l (U.ordN l l.length n) = ms at h51 hol hth ⊢
  have hms : (ms.map oInt).length = ms.length := List.length_map ..
  obtain ⟨ks, hks⟩ : ∃ ks : Nat → List DueM, ks = fun k => (ms.take k).flatMap (dueOf l d) := ⟨_, rfl⟩
  have hkl : ∀ k, (ks k).length ≤ 60 := fun k => by
    rw [hks]; exact Nat.le_trans (dueOf_len _ _ _) (by rw [List.length_take]; omega)
  have hk0 : ks 0 = [] := by rw [hks]; rfl
  have hke : ks ms.length = ms.flatMap (dueOf l d) := by rw [hks]; show List.flatMap _ (ms.take ms.length) = _; rw [List.take_length]
  have hstep : ∀ (k : Nat) (c : Int), ms[k]? = some c → ks (k + 1) = ks k ++ dueOf l d c := fun k c hc => by
    rw [hks]; show ((ms.take (k + 1)).flatMap _) = _
    rw [take_snocI hc, List.flatMap_append]
    congr 1
    rw [List.flatMap_cons]; simp
  rw [← hke]
  unfold dueOf at hstep
  obtain ⟨d1, d2, d3, d4⟩ := d
  refine FnOK.startC (rvs := [.tmp 6]) G G_good Tryz.func22 rfl Tryz.ntmps22 rfl rfl ?_; with_reducible refine wD ?_
  refine CallK.val [] h51 c51 ⟨⟨rfl, rfl, trivial⟩, rfl, trivial⟩ rfl rfl rfl ?_; with_reducible refine wK ?_
  repeat' (first
    | refine gK ?_
    | ((with_reducible show (_ ∧ _) ∧ _ ∧ _); (refine eK ?_ ?_ <;> with_reducible repeat' (first | exact trivial | (show _ ∧ _; refine aK ?_ ?_)))))
  refine LoopK.ghost 7 71 11 rfl rfl ?_
  refine LoopK.use G G_good (fun (j : Nat) => [(3, .ptr 30 0 0), (5, .ptr 50 0 0), (7, .own 71 0 (ks j).length), (8, eInts ms), (9, eInt j)]) (fun j => [(30, .live 2 [eFor ⟨l, m⟩] false), (50, .live 4 [eDesk ⟨d1, d2, d3, d4⟩] false), (71, rDues (ks j))])
    (fun j => j ≤ ms.length) (fun j => ms.length - j) 0 (Nat.zero_le _)
    (by rw [hk0]; exact ⟨⟨rfl, rfl⟩, ⟨⟨rfl, rfl⟩, ⟨rfl, rfl⟩, ⟨rfl, rfl⟩, rfl, rfl, trivial⟩, ⟨⟨rfl, rfl, trivial⟩, trivial⟩, ⟨⟨rfl, rfl, rfl, rfl, trivial⟩, trivial⟩, ⟨.refl rfl, noRef_dues _⟩, trivial⟩) ?_
  intro j hj
  with_reducible refine wK ?_
  refine IfK.mk (fun h1 => ?_) (fun h1 => ?_) <;> (try simp only [castN] at h1) <;> with_reducible refine wK ?_
  · have hj' : j < ms.length := by simp only [decide_eq_true_eq] at h1; omega
    obtain ⟨c, hc⟩ : ∃ c, ms[j]? = some c := ⟨_, List.getElem?_eq_getElem hj'⟩
    obtain ⟨i, y, rfl, hy, hny⟩ := there_iff.1 (hth c (List.mem_of_getElem? hc))
    have hst := hstep j _ hc
    rw [hny] at hst
    have hle := hkl j
    have h20y := h20 i y hy
    have hgy := hge y
    clear hstep hks hke hny h20 hge
    generalize fateD y ⟨d1, d2, d3, d4⟩ = at' at hst h20y hgy
    refine IdxK.mk j (eInt (i : Int)) rfl (int_get hc) ?_; with_reducible refine wK ?_
    refine CallK.lit [] h20y c20 ⟨⟨rfl, rfl, trivial⟩, rfl, ⟨rfl, rfl, rfl, rfl, trivial⟩, trivial⟩ rfl rfl ?_; with_reducible refine wK ?_
    by_cases e : at' = -1
    · rw [if_pos e, List.append_nil] at hst
      have e' : ¬ 0 ≤ at' := by omega
      (have fct := (eq_false e'); (repeat' (first
    | refine gF ?_
    | ((with_reducible show (_ ∧ _) ∧ _ ∧ _); (refine eK ?_ ?_ <;> with_reducible repeat' (first | exact trivial | (show _ ∧ _; refine aK ?_ ?_)))))); all_goals clear fct)
      refine NextK.mk (j + 1) (by omega) (by omega) ⟨⟨rfl, rfl⟩, ⟨⟨rfl, rfl⟩, ⟨rfl, rfl⟩, ⟨rfl, ?_⟩, rfl, by show ((j + 1 : Nat) : Int) = (j : Int) + 1; omega, trivial⟩, ⟨⟨rfl, rfl, trivial⟩, trivial⟩, ⟨⟨rfl, rfl, rfl, rfl, trivial⟩, trivial⟩, ⟨?_, noRef_dues _⟩, trivial⟩
      · rw [hst]
      · rw [hst]; exact .refl (noRef_dues _)
    · rw [if_neg e] at hst
      have e' : 0 ≤ at' := by omega
      (have fct := (eq_true e'); (repeat' (first
    | refine gF ?_
    | ((first
      | ((with_reducible show IdxK _ _ _ _ _); refine IdxK.mk j (eInt (i : Int)) rfl (int_get hc) ?_)
      | ((with_reducible show CallK _ _ 20 _ _ _ _); refine CallK.lit [] h20y c20 ⟨⟨rfl, rfl, trivial⟩, rfl, ⟨rfl, rfl, rfl, rfl, trivial⟩, trivial⟩ rfl rfl ?_)
      | ((with_reducible show AppK _ _ _ _ _ _ _ _ _ _); refine AppK.mk ((ks j).map oDue) [eDue ⟨(i : Int), at'⟩] ⟨rfl, (List.length_map ..).symm, rfl⟩ ⟨rfl, rfl, rfl⟩ rfl (by simp; omega) (by simp; omega) ?_)) <;> with_reducible refine wK ?_)
    | ((with_reducible show (_ ∧ _) ∧ _ ∧ _); (refine eK ?_ ?_ <;> with_reducible repeat' (first | exact trivial | (show _ ∧ _; refine aK ?_ ?_)))))); all_goals clear fct)
      refine NextK.mk (j + 1) (by omega) (by omega) ⟨⟨rfl, rfl⟩, ⟨⟨rfl, rfl⟩, ⟨rfl, rfl⟩, ⟨rfl, ?_⟩, rfl, by show ((j + 1 : Nat) : Int) = (j : Int) + 1; omega, trivial⟩, ⟨⟨rfl, rfl, trivial⟩, trivial⟩, ⟨⟨rfl, rfl, rfl, rfl, trivial⟩, trivial⟩, ⟨?_, noRef_dues _⟩, trivial⟩
      · rw [hst]; simp
      · rw [hst, List.map_append]; exact .refl (by rw [← List.map_append]; exact noRef_dues _)
  · (refine eK ?_ ?_ <;> with_reducible repeat' (first | exact trivial | (show _ ∧ _; refine aK ?_ ?_)))
    have hjl : j = ms.length := by simp only [decide_eq_false_iff_not] at h1; omega
    subst hjl
    exact frz_dues rfl rfl rfl rfl
end Go.Proofs.Heir
end
section
set_option linter.unusedSimpArgs false
set_option linter.unusedVariables false
namespace Go.Am
open Go
theorem RowsM.of {R : AV → AV → Prop} : ∀ {a b : List AV}, MFL R a b → RowsM R a b
  | [], [], _ => ⟨rfl, fun i x y h => by simp at h⟩
  | x :: xs, y :: ys, h => by
    obtain ⟨h1, h2⟩ := RowsM.of h.2
    refine ⟨by simp [h1], fun i u v hu hv => ?_⟩
    cases i with
    | zero => cases hu; cases hv; exact h.1
    | succ i => exact h2 i u v hu hv
  | [], _ :: _, h => h.elim
  | _ :: _, [], h => h.elim
def wideB (wd : Nat) (rows : List AV) : Bool := rows.all fun r => (cells r).length == wd
def wideM (m : ML) : Bool := m.all fun p => match p.2 with
  | .live wd rows _ => wideB wd rows
  | _ => true
theorem wideM_ok {m : ML} (h : wideM m = true) : ∀ t wd rows ro, lkM m t = .live wd rows ro → Wide wd rows := by
  induction m with
  | nil => intro t wd rows ro h; cases h
  | cons p r ih =>
    intro t wd rows ro hl
    obtain ⟨a, b⟩ := p
    unfold wideM at h
    rw [List.all_cons, Bool.and_eq_true] at h
    rw [lkM_eq] at hl
    simp only [lookM] at hl
    cases hta : t == a with
    | true =>
      rw [hta] at hl
      change b = _ at hl
      subst hl
      exact Wide.of_mem fun x hx => by simpa using (List.all_eq_true.1 h.1) x hx
    | false =>
      rw [hta] at hl
      exact ih h.2 t wd rows ro (by rw [lkM_eq]; exact hl)
theorem FnOK.frozen {P : Program} {f : FuncId} {args : List AV} {outs : List MS} {res res' : AV} (m : ML) (hm : lookM m = objsOf outs) (hw : wideM m = true) (h : FnOK P f [] args outs res) (hcv : MF [] (fun _ => true) m 12 res' res) : FnOK P f [] args [] res' := by
  intro w W0 L vs hL hs hargs
  refine (h w W0 L vs hL hs hargs).mono ?_
  rintro e w' ⟨v, μ', rfl, hs', hv⟩
  have hLn : ∀ t, L t = none := fun t => hL t (Nat.zero_le _)
  have hW : ∀ b, Wr W0 (fun _ => none) (objsOf []) b → W0 b := by
    rintro b (h | ⟨t, B, wd, rows, _, h, _⟩)
    · exact h
    · cases h
  refine ⟨v, fun _ => none, rfl, ?_, ?_⟩
  · refine ⟨hs'.tsize, hs'.defers, hs'.os, hs'.tape, hs'.output, hs'.hsize, hs'.shp, hs'.keep, hs'.w0lt, fun t B _ h => (by rw [hLn] at h; cases h), fun t => by simp [bare, objsOf], fun _ => .any, fun t wd rows ro h => ?_, fun t t' wd rows wd' rows' ro' B B' _ h => ?_, fun t wd rows ro B h => ?_, hs'.tabs⟩ <;> simp [bare, objsOf] at h
  · have hc : Cv (lookM m) (renT []) (fun _ => False) (fun t => ∃ wd rows ro, lookM m t = .live wd rows ro) res' res :=
      MF_cv (fun t wd rows ro h _ => wideM_ok hw t wd rows ro h) (fun t u h => by cases h) (fun t wd rows ro h _ => ⟨wd, rows, ro, by rw [← lkM_eq]; exact h⟩) 12 res' res hcv
    rw [hm] at hc
    refine Cv.rep (W := Wr W0 μ' (objsOf outs)) (μ := μ') (fun t wd rows ro h => hs'.objs t wd rows ro h) (fun b _ hb => .inl (hW b hb)) (fun t h => h.elim) ?_ hc hv
    rintro s B ⟨wd, rows, ro, hl⟩ hB hv hb
    exact (hs'.out s wd rows ro B hl hB hv).1 (hW _ hb)
end Go.Am
namespace Go.Proofs.Heir
open Go Go.Am Go.RowKit Go.Lib
set_option maxRecDepth 100000
set_option maxHeartbeats 8000000
def awP : ByteArray := ⟨#[112]⟩
def awA : ByteArray := ⟨#[120, 45, 97]⟩
def awB : ByteArray := ⟨#[98]⟩
def awX : ByteArray := ⟨#[120, 45, 98]⟩
def awF : ForM := ⟨[⟨0, ⟨#[]⟩, ⟨#[]⟩, ⟨#[]⟩, [], -1, [], -1, -1, 0⟩, ⟨1, awP, ⟨#[]⟩, ⟨#[]⟩, [], -1, [2, 3, 4], -1, -1, 0⟩, ⟨1, awA, ⟨#[]⟩, ⟨#[]⟩, [], 1, [], -1, -1, 0⟩, ⟨1, awB, awX, ⟨#[]⟩, [], 1, [], -1, -1, 0⟩, ⟨1, awX, ⟨#[]⟩, ⟨#[]⟩, [], 1, [], -1, -1, 0⟩], 9⟩
def awT : ByteArray := ⟨#[60, 112, 62, 60, 120, 45, 97, 62, 60, 47, 120, 45, 97, 62, 60, 98, 33, 120, 45, 98, 62, 60, 47, 98, 62, 60, 120, 45, 98, 62, 60, 47, 120, 45, 98, 62, 60, 47, 112, 62]⟩
theorem fresh_ok : FnOK Tryz.prog 41 [] [eStr awT, eInt 9] [] (.tup [eFor awF, eInt 1, eInt 0]) := by
  have h := r_last
  refine FnOK.frozen (objsR 0 r15.outs) ?_ (by kernel_rfl) h ?_
  · funext t
    match t with
    | 0 => rfl
    | 1 => rfl
    | n + 2 => rfl
  · have nil2 : ∀ wd, NilK (.sl wd []) := fun wd => .inr (.inr ⟨wd, rfl⟩)
    refine ⟨⟨⟨10, _, _, _, rfl, rfl, rfl, by decide, rfl, RowsM.of ⟨?_, ?_, ?_, ?_, ?_, trivial⟩⟩, rfl, trivial⟩, rfl, rfl, trivial⟩
    · exact ⟨rfl, rfl, rfl, rfl, nil2 _, rfl, nil2 _, rfl, rfl, rfl, trivial⟩
    · exact ⟨rfl, rfl, rfl, rfl, nil2 _, rfl, ⟨1, _, _, _, rfl, rfl, rfl, by decide, rfl, RowsM.of ⟨rfl, rfl, rfl, trivial⟩⟩, rfl, rfl, rfl, trivial⟩
    · exact ⟨rfl, rfl, rfl, rfl, nil2 _, rfl, nil2 _, rfl, rfl, rfl, trivial⟩
    · exact ⟨rfl, rfl, rfl, rfl, nil2 _, rfl, nil2 _, rfl, rfl, rfl, trivial⟩
    · exact ⟨rfl, rfl, rfl, rfl, nil2 _, rfl, nil2 _, rfl, rfl, rfl, trivial⟩
end Go.Proofs.Heir
end
section
set_option linter.unusedSimpArgs false
set_option linter.unusedVariables false
namespace Go.Proofs.Heir
open Go Go.Am Go.RowKit Go.Lib
set_option maxRecDepth 100000
set_option maxHeartbeats 8000000
def awD : DeskM := ⟨[⟨awA, awA, 0⟩, ⟨awX, awB, 1⟩], [], 0, false⟩
theorem aw_small : SmallN awF.nodes := ⟨by decide, by decide, by decide, by decide⟩
theorem aw_smallD : SmallD awD := ⟨by decide, by decide⟩
theorem aw17 : FnOK Tryz.prog 17 [] [eFor awF, eInt 1, eDesk awD] [] (eDues [⟨2, 0⟩, ⟨3, 1⟩]) := by
  have h := f17_ok awF aw_small 1 awD aw_smallD
  rwa [show triesU awF 1 awD = [⟨2, 0⟩, ⟨3, 1⟩] from by kernel_rfl] at h
theorem aw16 : FnOK Tryz.prog 16 [] [eFor awF, eDef ⟨awA, awA, 0⟩] [] (eInts []) := by
  have h := f16_ok awF aw_small ⟨awA, awA, 0⟩
  rwa [show heirsU awF ⟨awA, awA, 0⟩ = [] from by kernel_rfl] at h
theorem aw15a : FnOK Tryz.prog 15 [] [eFor awF, eInt 4, eDesk awD] [] (eInt (-1)) := by
  have h := f15_ok awF aw_small 4 awD aw_smallD
  rwa [show fateF awF 4 awD = -1 from by kernel_rfl] at h
theorem aw15b : FnOK Tryz.prog 15 [] [eFor awF, eInt 3, eDesk awD] [] (eInt 1) := by
  have h := f15_ok awF aw_small 3 awD aw_smallD
  rwa [show fateF awF 3 awD = 1 from by kernel_rfl] at h
theorem aw11a : FnOK Tryz.prog 11 [] [eStr awP, eStr ⟨#[]⟩] [] (eInt 0) := by
  have h := f11_ok awP ⟨#[]⟩
  rwa [show bornM awP ⟨#[]⟩ = 0 from by kernel_rfl] at h
theorem aw11b : FnOK Tryz.prog 11 [] [eStr awA, eStr ⟨#[]⟩] [] (eInt 1) := by
  have h := f11_ok awA ⟨#[]⟩
  rwa [show bornM awA ⟨#[]⟩ = 1 from by kernel_rfl] at h
theorem due_eql (a b : DueM) (y z : Operand) (w : World) : ((do eqGuard .eql 74 y z (vDue a) (vDue b); binOp .eql 74 (vDue a) (vDue b) : Sem Value)).run Tryz.prog w = .ok (.bool (decide (a = b))) w := by
  rw [Sem.run_bind, run_eqGuard_agg w .eql 74 y z _ _ (by kernel_rfl), Result.andThen_ok, run_eql_struct, due_eq]
  rfl
theorem f8_ok : FnOK Tryz.prog 8 [] [] [] (eBool true) := by
  refine FnOK.startC (rvs := [.tmp 0]) G G_good Tryz.func8 rfl Tryz.ntmps8 rfl rfl ?_; with_reducible refine wD ?_
  refine CallK.val [] fresh_ok c41 ⟨rfl, rfl, trivial⟩ rfl rfl rfl ?_; with_reducible refine wK ?_
  repeat' (first
    | refine gK ?_
    | ((first
      | ((with_reducible show CallK _ _ 17 _ _ _ _); refine CallK.val [131] aw17 c17 ⟨⟨rfl, rfl, trivial⟩, rfl, ⟨⟨3, _, _, _, rfl, rfl, rfl, by decide, rfl, RowsM.of ⟨⟨rfl, rfl, rfl, trivial⟩, ⟨rfl, rfl, rfl, trivial⟩, trivial⟩⟩, .inr (.inr ⟨_, rfl⟩), rfl, rfl, trivial⟩, trivial⟩ rfl rfl rfl ?_)
      | ((with_reducible show CallK _ _ 15 _ _ _ _); first | refine CallK.lit [131] aw15a c15 ⟨⟨rfl, rfl, trivial⟩, rfl, ⟨⟨3, _, _, _, rfl, rfl, rfl, by decide, rfl, RowsM.of ⟨⟨rfl, rfl, rfl, trivial⟩, ⟨rfl, rfl, rfl, trivial⟩, trivial⟩⟩, .inr (.inr ⟨_, rfl⟩), rfl, rfl, trivial⟩, trivial⟩ rfl rfl ?_ | refine CallK.lit [131] aw15b c15 ⟨⟨rfl, rfl, trivial⟩, rfl, ⟨⟨3, _, _, _, rfl, rfl, rfl, by decide, rfl, RowsM.of ⟨⟨rfl, rfl, rfl, trivial⟩, ⟨rfl, rfl, rfl, trivial⟩, trivial⟩⟩, .inr (.inr ⟨_, rfl⟩), rfl, rfl, trivial⟩, trivial⟩ rfl rfl ?_)
      | ((with_reducible show CallK _ _ 16 _ _ _ _); refine CallK.val [] aw16 c16 ⟨⟨rfl, rfl, trivial⟩, ⟨rfl, rfl, rfl, trivial⟩, trivial⟩ rfl rfl rfl ?_)
      | ((with_reducible show CallK _ _ 11 _ _ _ _); first | refine CallK.lit [] aw11a c11 ⟨rfl, rfl, trivial⟩ rfl rfl ?_ | refine CallK.lit [] aw11b c11 ⟨rfl, rfl, trivial⟩ rfl rfl ?_)
      | ((with_reducible show IdxK _ 0 _ _ _); refine IdxK.mk 0 (eDue ⟨2, 0⟩) rfl rfl ?_)
      | ((with_reducible show IdxK _ 1 _ _ _); refine IdxK.mk 1 (eDue ⟨3, 1⟩) rfl rfl ?_)
      | ((with_reducible show LtK _ _ _ _ _); refine LtK.mk 0 rfl (by decide) ?_)
      | ((with_reducible show ElemK _ _ _ _ _); refine ElemK.mk (eDef ⟨awA, awA, 0⟩) rfl ?_)
      | ((with_reducible show EqK _ _ _ _ _ _ _ _); refine EqK.mk _ (fun y z w => due_eql ⟨3, 1⟩ ⟨3, 1⟩ y z w) ?_)) <;> with_reducible refine wK ?_)
    | ((with_reducible show (_ ∧ _) ∧ _ ∧ _); (refine eK ?_ ?_ <;> with_reducible repeat' (first | exact trivial | (show _ ∧ _; refine aK ?_ ?_)))))
  all_goals rfl
end Go.Proofs.Heir
end
section
set_option linter.unusedSimpArgs false
set_option linter.unusedVariables false
namespace Go.Proofs.Heir
open Go Go.Am Go.RowKit Go.Lib
set_option maxRecDepth 100000
set_option maxHeartbeats 8000000
theorem there0 {f : ForM} (h : rightF f = true) : thereN f.nodes 0 = true := by
  unfold rightF at h
  rw [Bool.and_eq_true] at h
  have h1 := h.1
  obtain ⟨l, m⟩ := f
  cases l with
  | nil => simp [headOK] at h1
  | cons a r => unfold thereN; simp
theorem heirs_none {f : ForM} (x : DefM) (h : rightF f = false) : heirsU f x = [] := by unfold heirsU allU; rw [h]; rfl
theorem heirs_some {f : ForM} (x : DefM) (h : rightF f = true) : heirsU f x = ((elemsU f.nodes (U.ordN f.nodes f.nodes.length 0)).filter fun c => isHeir x (nd f.nodes c)) := by unfold heirsU allU; rw [h, there0 h]; rfl
theorem tries_none {f : ForM} {n : Int} (d : DeskM) (h : (rightF f && thereN f.nodes n) = false) : triesU f n d = [] := by unfold triesU allU; rw [h]; rfl
theorem tries_shut {f : ForM} {n : Int} (d : DeskM) (h : rightD d = false) : triesU f n d = [] := by
  have hf : ∀ x : NodeM, fateD x d = -1 := fun x => by unfold fateD findD; rw [h]; simp
  unfold triesU
  rw [List.flatMap_eq_nil_iff]
  intro c _
  unfold dueOf; rw [hf, if_pos rfl]
theorem fate_shut {f : ForM} {n : Int} (d : DeskM) (h : rightD d = false) : fateF f n d = -1 := by
  have hf : ∀ x : NodeM, fateD x d = -1 := fun x => by unfold fateD findD; rw [h]; simp
  unfold fateF; rw [hf]; simp
theorem tries_some {f : ForM} {n : Int} (d : DeskM) (h : rightF f = true) (hn : thereN f.nodes n = true) : triesU f n d = (elemsU f.nodes (U.ordN f.nodes f.nodes.length n)).flatMap (dueOf f.nodes d) := by unfold triesU allU; rw [h, hn]; rfl
theorem f3_long (f : ForM) (n : Int) (d : DeskM) (x : DefM) (s i : ByteArray) (h : shortF f = false ∨ shortB d = false ∨ ¬ s.size ≤ 300 ∨ ¬ i.size ≤ 300) : FnOK Tryz.prog 3 [] [eFor f, eInt n, eDesk d, eDef x, eStr s, eStr i] [] (eBool true) := by
  have h8 := f8_ok
  have h9 := f9_ok f
  have h10 := f10_ok d
  obtain ⟨q9, hq9⟩ : ∃ q, shortF f = q := ⟨_, rfl⟩
  obtain ⟨q10, hq10⟩ : ∃ q, shortB d = q := ⟨_, rfl⟩
  rw [hq9] at h9 h
  rw [hq10] at h10 h
  clear hq9 hq10
  obtain ⟨l, m⟩ := f
  obtain ⟨d1, d2, d3, d4⟩ := d
  obtain ⟨x1, x2, x3⟩ := x
  refine FnOK.startC (rvs := [.tmp 12]) G G_good Tryz.func3 rfl Tryz.ntmps3 rfl rfl ?_; with_reducible refine wD ?_
  cases q9 with
  | false =>
    repeat' (first
    | refine gK ?_
    | ((first
      | ((with_reducible show CallK _ _ 8 _ _ _ _); refine CallK.lit [] h8 c8 trivial rfl rfl ?_)
      | ((with_reducible show CallK _ _ 9 _ _ _ _); refine CallK.lit [] h9 c9 ⟨⟨rfl, rfl, trivial⟩, trivial⟩ rfl rfl ?_)
      | ((with_reducible show CallK _ _ 10 _ _ _ _); refine CallK.lit [] h10 c10 ⟨⟨rfl, rfl, rfl, rfl, trivial⟩, trivial⟩ rfl rfl ?_)) <;> with_reducible refine wK ?_)
    | ((with_reducible show (_ ∧ _) ∧ _ ∧ _); (refine eK ?_ ?_ <;> with_reducible repeat' (first | exact trivial | (show _ ∧ _; refine aK ?_ ?_)))))
  | true =>
    cases q10 with
    | false =>
      repeat' (first
    | refine gK ?_
    | ((first
      | ((with_reducible show CallK _ _ 8 _ _ _ _); refine CallK.lit [] h8 c8 trivial rfl rfl ?_)
      | ((with_reducible show CallK _ _ 9 _ _ _ _); refine CallK.lit [] h9 c9 ⟨⟨rfl, rfl, trivial⟩, trivial⟩ rfl rfl ?_)
      | ((with_reducible show CallK _ _ 10 _ _ _ _); refine CallK.lit [] h10 c10 ⟨⟨rfl, rfl, rfl, rfl, trivial⟩, trivial⟩ rfl rfl ?_)) <;> with_reducible refine wK ?_)
    | ((with_reducible show (_ ∧ _) ∧ _ ∧ _); (refine eK ?_ ?_ <;> with_reducible repeat' (first | exact trivial | (show _ ∧ _; refine aK ?_ ?_)))))
    | true =>
      by_cases k3 : (300 : Int) < (s.size : Int)
      · (have fct := (eq_true k3); (repeat' (first
    | refine gF ?_
    | ((first
      | ((with_reducible show CallK _ _ 8 _ _ _ _); refine CallK.lit [] h8 c8 trivial rfl rfl ?_)
      | ((with_reducible show CallK _ _ 9 _ _ _ _); refine CallK.lit [] h9 c9 ⟨⟨rfl, rfl, trivial⟩, trivial⟩ rfl rfl ?_)
      | ((with_reducible show CallK _ _ 10 _ _ _ _); refine CallK.lit [] h10 c10 ⟨⟨rfl, rfl, rfl, rfl, trivial⟩, trivial⟩ rfl rfl ?_)) <;> with_reducible refine wK ?_)
    | ((with_reducible show (_ ∧ _) ∧ _ ∧ _); (refine eK ?_ ?_ <;> with_reducible repeat' (first | exact trivial | (show _ ∧ _; refine aK ?_ ?_)))))); all_goals clear fct)
      · have k4 : (300 : Int) < (i.size : Int) := by
          rcases h with h | h | h | h
          · cases h
          · cases h
          · omega
          · omega
        (have fct := And.intro (eq_false k3) ((eq_true k4)); (repeat' (first
    | refine gF ?_
    | ((first
      | ((with_reducible show CallK _ _ 8 _ _ _ _); refine CallK.lit [] h8 c8 trivial rfl rfl ?_)
      | ((with_reducible show CallK _ _ 9 _ _ _ _); refine CallK.lit [] h9 c9 ⟨⟨rfl, rfl, trivial⟩, trivial⟩ rfl rfl ?_)
      | ((with_reducible show CallK _ _ 10 _ _ _ _); refine CallK.lit [] h10 c10 ⟨⟨rfl, rfl, rfl, rfl, trivial⟩, trivial⟩ rfl rfl ?_)) <;> with_reducible refine wK ?_)
    | ((with_reducible show (_ ∧ _) ∧ _ ∧ _); (refine eK ?_ ?_ <;> with_reducible repeat' (first | exact trivial | (show _ ∧ _; refine aK ?_ ?_)))))); all_goals clear fct)
theorem f3_short (f : ForM) (n : Int) (d : DeskM) (x : DefM) (s i : ByteArray) (k1 : shortF f = true) (k2 : shortB d = true) (k3 : s.size ≤ 300) (k4 : i.size ≤ 300) : FnOK Tryz.prog 3 [] [eFor f, eInt n, eDesk d, eDef x, eStr s, eStr i] [] (eBool true) := by
  have h8 := f8_ok
  have h9 := f9_ok f
  have h10 := f10_ok d
  have k3i : ¬ (300 : Int) < (s.size : Int) := by omega
  have k4i : ¬ (300 : Int) < (i.size : Int) := by omega
  rw [k1] at h9
  rw [k2] at h10
  have hs := shortF_iff.1 k1
  have hsd := shortB_iff.1 k2
  have hd := hsd.small
  have h11 := f11_ok s i
  have h12 := f12_ok s i
  have h13 := f13_ok f hs
  rw [right_eq] at h13
  have h14 := f14_ok d hsd
  have h15 := f15_ok f hs n d hd
  have h16 := f16_ok f hs x
  have h17 := f17_ok f hs n d hd
  have hhl : (heirsU f x).length ≤ 60 := by
    unfold heirsU elemsU
    exact Nat.le_trans (List.length_filter_le _ _) (Nat.le_trans (List.length_filter_le _ _) (Nat.le_trans allU_len hs.len))
  have htl : (triesU f n d).length ≤ 60 := by
    unfold triesU
    exact Nat.le_trans (dueOf_len _ _ _) (Nat.le_trans (elemsU_len _ _) (Nat.le_trans allU_len hs.len))
  have h18 := f18_ok (heirsU f x) (heirsU f x) (by omega)
  rw [decide_eq_true rfl] at h18
  have h21 := f21_ok (triesU f n d) (triesU f n d) (by omega)
  rw [decide_eq_true rfl] at h21
  have hlm : (f.nodes.map oNode).length = f.nodes.length := List.length_map ..
  generalize bornM s i = bn at h11 h12
  cases hr : rightF f with
  | false =>
    have e1 : heirsU f x = [] := heirs_none x hr
    have e2 : triesU f n d = [] := tries_none d (by rw [hr]; rfl)
    have e3 : fateF f n d = -1 := by unfold fateF; rw [hr]; simp
    rw [e1] at h16
    rw [e2] at h17
    rw [e3] at h15
    rw [hr] at h13
    clear h18 h21 hhl htl e1 e2 e3
    obtain ⟨l, m⟩ := f
    obtain ⟨d1, d2, d3, d4⟩ := d
    obtain ⟨x1, x2, x3⟩ := x
    refine FnOK.startC (rvs := [.tmp 12]) G G_good Tryz.func3 rfl Tryz.ntmps3 rfl rfl ?_; with_reducible refine wD ?_
    (have fct := And.intro (eq_false k3i) ((eq_false k4i)); (repeat' (first
    | refine gF ?_
    | ((first
      | ((with_reducible show CallK _ _ 8 _ _ _ _); refine CallK.lit [] h8 c8 trivial rfl rfl ?_)
      | ((with_reducible show CallK _ _ 9 _ _ _ _); refine CallK.lit [] h9 c9 ⟨⟨rfl, rfl, trivial⟩, trivial⟩ rfl rfl ?_)
      | ((with_reducible show CallK _ _ 10 _ _ _ _); refine CallK.lit [] h10 c10 ⟨⟨rfl, rfl, rfl, rfl, trivial⟩, trivial⟩ rfl rfl ?_)
      | ((with_reducible show CallK _ _ 11 _ _ _ _); refine CallK.lit [] h11 c11 ⟨rfl, rfl, trivial⟩ rfl rfl ?_)
      | ((with_reducible show CallK _ _ 12 _ _ _ _); refine CallK.lit [] h12 c12 ⟨rfl, rfl, trivial⟩ rfl rfl ?_)
      | ((with_reducible show CallK _ _ 13 _ _ _ _); refine CallK.lit [] h13 c13 ⟨⟨rfl, rfl, trivial⟩, trivial⟩ rfl rfl ?_)
      | ((with_reducible show CallK _ _ 14 _ _ _ _); refine CallK.lit [] h14 c14 ⟨⟨rfl, rfl, rfl, rfl, trivial⟩, trivial⟩ rfl rfl ?_)
      | ((with_reducible show CallK _ _ 15 _ _ _ _); refine CallK.lit [] h15 c15 ⟨⟨rfl, rfl, trivial⟩, rfl, ⟨rfl, rfl, rfl, rfl, trivial⟩, trivial⟩ rfl rfl ?_)
      | ((with_reducible show CallK _ _ 16 _ _ _ _); refine CallK.val [] h16 c16 ⟨⟨rfl, rfl, trivial⟩, ⟨rfl, rfl, rfl, trivial⟩, trivial⟩ rfl rfl rfl ?_)
      | ((with_reducible show CallK _ _ 17 _ _ _ _); refine CallK.val [] h17 c17 ⟨⟨rfl, rfl, trivial⟩, rfl, ⟨rfl, rfl, rfl, rfl, trivial⟩, trivial⟩ rfl rfl rfl ?_)) <;> with_reducible refine wK ?_)
    | ((with_reducible show (_ ∧ _) ∧ _ ∧ _); (refine eK ?_ ?_ <;> with_reducible repeat' (first | exact trivial | (show _ ∧ _; refine aK ?_ ?_)))))); all_goals clear fct)
    all_goals rfl
  | true =>
    have T := U.tree_of hr
    have t0 := there0 hr
    have h19 := f19_ok f hs T t0 x
    rw [← heirs_some x hr] at h19
    rw [hr] at h13
    generalize heirsU f x = hb at h16 h18 h19 hhl
    have hbl : (hb.map oInt).length = hb.length := List.length_map ..
    by_cases hn0 : 0 ≤ n
    · by_cases hn1 : n < (f.nodes.length : Int)
      · have hn : thereN f.nodes n = true := by unfold thereN; rw [decide_eq_true hn0, decide_eq_true hn1]; rfl
        cases ho : rightD d with
        | false =>
          rw [ho] at h14
          rw [tries_shut d ho] at h17
          rw [fate_shut d ho] at h15
          clear h21 htl
          obtain ⟨l, m⟩ := f
          obtain ⟨d1, d2, d3, d4⟩ := d
          obtain ⟨x1, x2, x3⟩ := x
          simp only at hlm
          refine FnOK.startC (rvs := [.tmp 12]) G G_good Tryz.func3 rfl Tryz.ntmps3 rfl rfl ?_; with_reducible refine wD ?_
          simp only at hn1
          (have fct := And.intro (eq_false k3i) (And.intro (eq_false k4i) (And.intro hlm (And.intro (eq_true hn0) ((eq_true hn1))))); (repeat' (first
    | refine gF ?_
    | ((first
      | ((with_reducible show CallK _ _ 8 _ _ _ _); refine CallK.lit [] h8 c8 trivial rfl rfl ?_)
      | ((with_reducible show CallK _ _ 9 _ _ _ _); refine CallK.lit [] h9 c9 ⟨⟨rfl, rfl, trivial⟩, trivial⟩ rfl rfl ?_)
      | ((with_reducible show CallK _ _ 10 _ _ _ _); refine CallK.lit [] h10 c10 ⟨⟨rfl, rfl, rfl, rfl, trivial⟩, trivial⟩ rfl rfl ?_)
      | ((with_reducible show CallK _ _ 11 _ _ _ _); refine CallK.lit [] h11 c11 ⟨rfl, rfl, trivial⟩ rfl rfl ?_)
      | ((with_reducible show CallK _ _ 12 _ _ _ _); refine CallK.lit [] h12 c12 ⟨rfl, rfl, trivial⟩ rfl rfl ?_)
      | ((with_reducible show CallK _ _ 13 _ _ _ _); refine CallK.lit [] h13 c13 ⟨⟨rfl, rfl, trivial⟩, trivial⟩ rfl rfl ?_)
      | ((with_reducible show CallK _ _ 14 _ _ _ _); refine CallK.lit [] h14 c14 ⟨⟨rfl, rfl, rfl, rfl, trivial⟩, trivial⟩ rfl rfl ?_)
      | ((with_reducible show CallK _ _ 15 _ _ _ _); refine CallK.lit [] h15 c15 ⟨⟨rfl, rfl, trivial⟩, rfl, ⟨rfl, rfl, rfl, rfl, trivial⟩, trivial⟩ rfl rfl ?_)
      | ((with_reducible show CallK _ _ 16 _ _ _ _); refine CallK.val [] h16 c16 ⟨⟨rfl, rfl, trivial⟩, ⟨rfl, rfl, rfl, trivial⟩, trivial⟩ rfl rfl rfl ?_)
      | ((with_reducible show CallK _ _ 17 _ _ _ _); refine CallK.val [] h17 c17 ⟨⟨rfl, rfl, trivial⟩, rfl, ⟨rfl, rfl, rfl, rfl, trivial⟩, trivial⟩ rfl rfl rfl ?_)
      | ((with_reducible show CallK _ _ 18 _ _ _ _); refine CallK.lit [] h18 c18 ⟨rfl, rfl, trivial⟩ rfl rfl ?_)
      | ((with_reducible show CallK _ _ 19 _ _ _ _); refine CallK.val [] h19 c19 ⟨⟨rfl, rfl, trivial⟩, ⟨rfl, rfl, rfl, trivial⟩, trivial⟩ rfl rfl rfl ?_)) <;> with_reducible refine wK ?_)
    | ((with_reducible show (_ ∧ _) ∧ _ ∧ _); (refine eK ?_ ?_ <;> with_reducible repeat' (first | exact trivial | (show _ ∧ _; refine aK ?_ ?_)))))); all_goals clear fct)
          all_goals rfl
        | true =>
          rw [ho] at h14
          obtain ⟨k, y, rfl, hy, hny⟩ := there_iff.1 hn
          have h20 := f20_ok f k y hy d hd ho
          have h22 := f22_ok f hs T k y hy d hd ho
          rw [← tries_some d hr hn] at h22
          have hfe : fateF f k d = fateD y d := by unfold fateF; rw [hn, hr, hny]; rfl
          rw [hfe] at h15
          clear hfe
          generalize triesU f (k : Int) d = ts at h17 h21 h22 htl
          generalize fateD y d = at' at h15 h20
          obtain ⟨l, m⟩ := f
          obtain ⟨d1, d2, d3, d4⟩ := d
          obtain ⟨x1, x2, x3⟩ := x
          simp only at hlm
          refine FnOK.startC (rvs := [.tmp 12]) G G_good Tryz.func3 rfl Tryz.ntmps3 rfl rfl ?_; with_reducible refine wD ?_
          simp only at hn1
          (have fct := And.intro (eq_false k3i) (And.intro (eq_false k4i) (And.intro hlm (And.intro (eq_true hn0) ((eq_true hn1))))); (repeat' (first
    | refine gF ?_
    | ((first
      | ((with_reducible show CallK _ _ 8 _ _ _ _); refine CallK.lit [] h8 c8 trivial rfl rfl ?_)
      | ((with_reducible show CallK _ _ 9 _ _ _ _); refine CallK.lit [] h9 c9 ⟨⟨rfl, rfl, trivial⟩, trivial⟩ rfl rfl ?_)
      | ((with_reducible show CallK _ _ 10 _ _ _ _); refine CallK.lit [] h10 c10 ⟨⟨rfl, rfl, rfl, rfl, trivial⟩, trivial⟩ rfl rfl ?_)
      | ((with_reducible show CallK _ _ 11 _ _ _ _); refine CallK.lit [] h11 c11 ⟨rfl, rfl, trivial⟩ rfl rfl ?_)
      | ((with_reducible show CallK _ _ 12 _ _ _ _); refine CallK.lit [] h12 c12 ⟨rfl, rfl, trivial⟩ rfl rfl ?_)
      | ((with_reducible show CallK _ _ 13 _ _ _ _); refine CallK.lit [] h13 c13 ⟨⟨rfl, rfl, trivial⟩, trivial⟩ rfl rfl ?_)
      | ((with_reducible show CallK _ _ 14 _ _ _ _); refine CallK.lit [] h14 c14 ⟨⟨rfl, rfl, rfl, rfl, trivial⟩, trivial⟩ rfl rfl ?_)
      | ((with_reducible show CallK _ _ 15 _ _ _ _); refine CallK.lit [] h15 c15 ⟨⟨rfl, rfl, trivial⟩, rfl, ⟨rfl, rfl, rfl, rfl, trivial⟩, trivial⟩ rfl rfl ?_)
      | ((with_reducible show CallK _ _ 16 _ _ _ _); refine CallK.val [] h16 c16 ⟨⟨rfl, rfl, trivial⟩, ⟨rfl, rfl, rfl, trivial⟩, trivial⟩ rfl rfl rfl ?_)
      | ((with_reducible show CallK _ _ 17 _ _ _ _); refine CallK.val [] h17 c17 ⟨⟨rfl, rfl, trivial⟩, rfl, ⟨rfl, rfl, rfl, rfl, trivial⟩, trivial⟩ rfl rfl rfl ?_)
      | ((with_reducible show CallK _ _ 18 _ _ _ _); refine CallK.lit [] h18 c18 ⟨rfl, rfl, trivial⟩ rfl rfl ?_)
      | ((with_reducible show CallK _ _ 19 _ _ _ _); refine CallK.val [] h19 c19 ⟨⟨rfl, rfl, trivial⟩, ⟨rfl, rfl, rfl, trivial⟩, trivial⟩ rfl rfl rfl ?_)
      | ((with_reducible show CallK _ _ 20 _ _ _ _); refine CallK.lit [] h20 c20 ⟨⟨rfl, rfl, trivial⟩, rfl, ⟨rfl, rfl, rfl, rfl, trivial⟩, trivial⟩ rfl rfl ?_)
      | ((with_reducible show CallK _ _ 21 _ _ _ _); refine CallK.lit [] h21 c21 ⟨rfl, rfl, trivial⟩ rfl rfl ?_)
      | ((with_reducible show CallK _ _ 22 _ _ _ _); refine CallK.val [] h22 c22 ⟨⟨rfl, rfl, trivial⟩, rfl, ⟨rfl, rfl, rfl, rfl, trivial⟩, trivial⟩ rfl rfl rfl ?_)) <;> with_reducible refine wK ?_)
    | ((with_reducible show (_ ∧ _) ∧ _ ∧ _); (refine eK ?_ ?_ <;> with_reducible repeat' (first | exact trivial | (show _ ∧ _; refine aK ?_ ?_)))))); all_goals clear fct)
          all_goals rfl
      · have hn : thereN f.nodes n = false := by unfold thereN; rw [decide_eq_false hn1, Bool.and_false]
        rw [tries_none d (by rw [hn, Bool.and_false])] at h17
        have hfe : fateF f n d = -1 := by unfold fateF; rw [hn]; simp
        rw [hfe] at h15
        clear h21 htl hfe
        obtain ⟨l, m⟩ := f
        obtain ⟨d1, d2, d3, d4⟩ := d
        obtain ⟨x1, x2, x3⟩ := x
        simp only at hlm
        refine FnOK.startC (rvs := [.tmp 12]) G G_good Tryz.func3 rfl Tryz.ntmps3 rfl rfl ?_; with_reducible refine wD ?_
        simp only at hn1
        (have fct := And.intro (eq_false k3i) (And.intro (eq_false k4i) (And.intro hlm (And.intro (eq_true hn0) ((eq_false hn1))))); (repeat' (first
    | refine gF ?_
    | ((first
      | ((with_reducible show CallK _ _ 8 _ _ _ _); refine CallK.lit [] h8 c8 trivial rfl rfl ?_)
      | ((with_reducible show CallK _ _ 9 _ _ _ _); refine CallK.lit [] h9 c9 ⟨⟨rfl, rfl, trivial⟩, trivial⟩ rfl rfl ?_)
      | ((with_reducible show CallK _ _ 10 _ _ _ _); refine CallK.lit [] h10 c10 ⟨⟨rfl, rfl, rfl, rfl, trivial⟩, trivial⟩ rfl rfl ?_)
      | ((with_reducible show CallK _ _ 11 _ _ _ _); refine CallK.lit [] h11 c11 ⟨rfl, rfl, trivial⟩ rfl rfl ?_)
      | ((with_reducible show CallK _ _ 12 _ _ _ _); refine CallK.lit [] h12 c12 ⟨rfl, rfl, trivial⟩ rfl rfl ?_)
      | ((with_reducible show CallK _ _ 13 _ _ _ _); refine CallK.lit [] h13 c13 ⟨⟨rfl, rfl, trivial⟩, trivial⟩ rfl rfl ?_)
      | ((with_reducible show CallK _ _ 14 _ _ _ _); refine CallK.lit [] h14 c14 ⟨⟨rfl, rfl, rfl, rfl, trivial⟩, trivial⟩ rfl rfl ?_)
      | ((with_reducible show CallK _ _ 15 _ _ _ _); refine CallK.lit [] h15 c15 ⟨⟨rfl, rfl, trivial⟩, rfl, ⟨rfl, rfl, rfl, rfl, trivial⟩, trivial⟩ rfl rfl ?_)
      | ((with_reducible show CallK _ _ 16 _ _ _ _); refine CallK.val [] h16 c16 ⟨⟨rfl, rfl, trivial⟩, ⟨rfl, rfl, rfl, trivial⟩, trivial⟩ rfl rfl rfl ?_)
      | ((with_reducible show CallK _ _ 17 _ _ _ _); refine CallK.val [] h17 c17 ⟨⟨rfl, rfl, trivial⟩, rfl, ⟨rfl, rfl, rfl, rfl, trivial⟩, trivial⟩ rfl rfl rfl ?_)
      | ((with_reducible show CallK _ _ 18 _ _ _ _); refine CallK.lit [] h18 c18 ⟨rfl, rfl, trivial⟩ rfl rfl ?_)
      | ((with_reducible show CallK _ _ 19 _ _ _ _); refine CallK.val [] h19 c19 ⟨⟨rfl, rfl, trivial⟩, ⟨rfl, rfl, rfl, trivial⟩, trivial⟩ rfl rfl rfl ?_)) <;> with_reducible refine wK ?_)
    | ((with_reducible show (_ ∧ _) ∧ _ ∧ _); (refine eK ?_ ?_ <;> with_reducible repeat' (first | exact trivial | (show _ ∧ _; refine aK ?_ ?_)))))); all_goals clear fct)
        all_goals rfl
    · have hn : thereN f.nodes n = false := by unfold thereN; rw [decide_eq_false hn0, Bool.false_and]
      rw [tries_none d (by rw [hn, Bool.and_false])] at h17
      have hfe : fateF f n d = -1 := by unfold fateF; rw [hn]; simp
      rw [hfe] at h15
      clear h21 htl hfe
      obtain ⟨l, m⟩ := f
      obtain ⟨d1, d2, d3, d4⟩ := d
      obtain ⟨x1, x2, x3⟩ := x
      simp only at hlm
      refine FnOK.startC (rvs := [.tmp 12]) G G_good Tryz.func3 rfl Tryz.ntmps3 rfl rfl ?_; with_reducible refine wD ?_
      (have fct := And.intro (eq_false k3i) (And.intro (eq_false k4i) (And.intro hlm ((eq_false hn0)))); (repeat' (first
    | refine gF ?_
    | ((first
      | ((with_reducible show CallK _ _ 8 _ _ _ _); refine CallK.lit [] h8 c8 trivial rfl rfl ?_)
      | ((with_reducible show CallK _ _ 9 _ _ _ _); refine CallK.lit [] h9 c9 ⟨⟨rfl, rfl, trivial⟩, trivial⟩ rfl rfl ?_)
      | ((with_reducible show CallK _ _ 10 _ _ _ _); refine CallK.lit [] h10 c10 ⟨⟨rfl, rfl, rfl, rfl, trivial⟩, trivial⟩ rfl rfl ?_)
      | ((with_reducible show CallK _ _ 11 _ _ _ _); refine CallK.lit [] h11 c11 ⟨rfl, rfl, trivial⟩ rfl rfl ?_)
      | ((with_reducible show CallK _ _ 12 _ _ _ _); refine CallK.lit [] h12 c12 ⟨rfl, rfl, trivial⟩ rfl rfl ?_)
      | ((with_reducible show CallK _ _ 13 _ _ _ _); refine CallK.lit [] h13 c13 ⟨⟨rfl, rfl, trivial⟩, trivial⟩ rfl rfl ?_)
      | ((with_reducible show CallK _ _ 14 _ _ _ _); refine CallK.lit [] h14 c14 ⟨⟨rfl, rfl, rfl, rfl, trivial⟩, trivial⟩ rfl rfl ?_)
      | ((with_reducible show CallK _ _ 15 _ _ _ _); refine CallK.lit [] h15 c15 ⟨⟨rfl, rfl, trivial⟩, rfl, ⟨rfl, rfl, rfl, rfl, trivial⟩, trivial⟩ rfl rfl ?_)
      | ((with_reducible show CallK _ _ 16 _ _ _ _); refine CallK.val [] h16 c16 ⟨⟨rfl, rfl, trivial⟩, ⟨rfl, rfl, rfl, trivial⟩, trivial⟩ rfl rfl rfl ?_)
      | ((with_reducible show CallK _ _ 17 _ _ _ _); refine CallK.val [] h17 c17 ⟨⟨rfl, rfl, trivial⟩, rfl, ⟨rfl, rfl, rfl, rfl, trivial⟩, trivial⟩ rfl rfl rfl ?_)
      | ((with_reducible show CallK _ _ 18 _ _ _ _); refine CallK.lit [] h18 c18 ⟨rfl, rfl, trivial⟩ rfl rfl ?_)
      | ((with_reducible show CallK _ _ 19 _ _ _ _); refine CallK.val [] h19 c19 ⟨⟨rfl, rfl, trivial⟩, ⟨rfl, rfl, rfl, trivial⟩, trivial⟩ rfl rfl rfl ?_)) <;> with_reducible refine wK ?_)
    | ((with_reducible show (_ ∧ _) ∧ _ ∧ _); (refine eK ?_ ?_ <;> with_reducible repeat' (first | exact trivial | (show _ ∧ _; refine aK ?_ ?_)))))); all_goals clear fct)
      all_goals rfl
theorem f3_ok (f : ForM) (n : Int) (d : DeskM) (x : DefM) (s i : ByteArray) : FnOK Tryz.prog 3 [] [eFor f, eInt n, eDesk d, eDef x, eStr s, eStr i] [] (eBool true) := by
  by_cases k1 : shortF f = true
  · by_cases k2 : shortB d = true
    · by_cases k3 : s.size ≤ 300
      · by_cases k4 : i.size ≤ 300
        · exact f3_short f n d x s i k1 k2 k3 k4
        · exact f3_long f n d x s i (.inr (.inr (.inr k4)))
      · exact f3_long f n d x s i (.inr (.inr (.inl k3)))
    · exact f3_long f n d x s i (.inr (.inl (by simpa using k2)))
  · exact f3_long f n d x s i (.inl (by simpa using k1))
end Go.Proofs.Heir
end
section
set_option linter.unusedSimpArgs false
set_option linter.unusedVariables false
namespace Go.Proofs.Heir
open Go Go.Am Go.RowKit
theorem rStr : Reads Tryz.prog 9 1 eStr (fun s => s.size ≤ maxLen) := Reads.str Tryz.underlying9 (by kernel_rfl)
theorem rInt : Reads Tryz.prog 3 1 oInt (fun _ => True) := (Reads.int Tryz.underlying3 (by kernel_rfl)).conv id id (fun _ => rfl) (fun _ => rfl) (fun _ _ => trivial)
theorem rBool : Reads Tryz.prog 4 1 (fun b : Bool => .lit (.bool b)) (fun _ => True) := Reads.bool Tryz.underlying4 (by kernel_rfl)
theorem rDef : Reads Tryz.prog 30 3 oDef (fun _ => True) :=
  (Reads.struct (l := [(0, 9), (1, 9), (2, 3)]) Tryz.underlying30 (by kernel_rfl) rfl (.cons rStr (.cons rStr (.cons rInt .nil)))).conv
    (fun (a, b, c, _) => ⟨a, b, c⟩) (fun t => (t.name, t.locl, t.cls, ())) (fun _ => rfl) (fun _ => rfl) (fun _ _ => trivial)
theorem rWait : Reads Tryz.prog 85 2 oWait (fun _ => True) :=
  (Reads.struct (l := [(0, 9), (1, 3)]) Tryz.underlying85 (by kernel_rfl) rfl (.cons rStr (.cons rInt .nil))).conv
    (fun (a, b, _) => ⟨a, b⟩) (fun t => (t.name, t.ticket, ())) (fun _ => rfl) (fun _ => rfl) (fun _ _ => trivial)
theorem rDefs1 : Reads Tryz.prog 25 1 eDefs (fun _ => True) := (Reads.slice Tryz.underlying25 (by kernel_rfl) rDef (by omega)).conv id id (fun _ => rfl) (fun _ => rfl) (fun _ _ => trivial)
theorem rWaits1 : Reads Tryz.prog 26 1 eWaits (fun _ => True) := (Reads.slice Tryz.underlying26 (by kernel_rfl) rWait (by omega)).conv id id (fun _ => rfl) (fun _ => rfl) (fun _ _ => trivial)
theorem rDesk : Reads Tryz.prog 28 4 eDesk (fun _ => True) :=
  (Reads.struct (l := [(0, 25), (1, 26), (2, 3), (3, 4)]) Tryz.underlying28 (by kernel_rfl) rfl (.cons rDefs1 (.cons rWaits1 (.cons rInt (.cons rBool .nil))))).conv
    (fun (a, b, c, e, _) => ⟨a, b, c, e⟩) (fun t => (t.defs, t.waits, t.next, t.busy, ())) (fun _ => rfl) (fun _ => rfl) (fun _ _ => trivial)
theorem rAttr : Reads Tryz.prog 77 2 oAttr (fun _ => True) :=
  (Reads.struct (l := [(0, 9), (1, 9)]) Tryz.underlying77 (by kernel_rfl) rfl (.cons rStr (.cons rStr .nil))).conv
    (fun (a, b, _) => ⟨a, b⟩) (fun t => (t.name, t.value, ())) (fun _ => rfl) (fun _ => rfl) (fun _ _ => trivial)
theorem rAttrs1 : Reads Tryz.prog 64 1 eAttrs (fun _ => True) := (Reads.slice Tryz.underlying64 (by kernel_rfl) rAttr (by omega)).conv id id (fun _ => rfl) (fun _ => rfl) (fun _ _ => trivial)
theorem rInts1 : Reads Tryz.prog 36 1 eInts (fun _ => True) := (Reads.slice Tryz.underlying36 (by kernel_rfl) rInt (by omega)).conv id id (fun _ => rfl) (fun _ => rfl) (fun _ _ => trivial)
theorem rNode : Reads Tryz.prog 66 10 oNode (fun _ => True) :=
  (Reads.struct (l := [(0, 3), (1, 9), (2, 9), (3, 9), (4, 64), (5, 3), (6, 36), (7, 3), (8, 3), (9, 3)]) Tryz.underlying66 (by kernel_rfl) rfl
    (.cons rInt (.cons rStr (.cons rStr (.cons rStr (.cons rAttrs1 (.cons rInt (.cons rInts1 (.cons rInt (.cons rInt (.cons rInt .nil))))))))))).conv
    (fun (a, b, c, d, e, f, g, h, i, j, _) => ⟨a, b, c, d, e, f, g, h, i, j⟩)
    (fun t => (t.kind, t.name, t.is, t.data, t.attrs, t.parent, t.kids, t.host, t.under, t.doc, ())) (fun _ => rfl) (fun _ => rfl) (fun _ _ => trivial)
theorem rNodes1 : Reads Tryz.prog 22 1 eNodes (fun _ => True) := (Reads.slice Tryz.underlying22 (by kernel_rfl) rNode (by omega)).conv id id (fun _ => rfl) (fun _ => rfl) (fun _ _ => trivial)
theorem rFor : Reads Tryz.prog 24 2 eFor (fun _ => True) :=
  (Reads.struct (l := [(0, 22), (1, 3)]) Tryz.underlying24 (by kernel_rfl) rfl (.cons rNodes1 (.cons rInt .nil))).conv
    (fun (a, b, _) => ⟨a, b⟩) (fun t => (t.nodes, t.most, ())) (fun _ => rfl) (fun _ => rfl) (fun _ _ => trivial)
theorem laid : Go.laidOutB Tryz.prog = true := by kernel_rfl
abbrev laidRows : List (String × DataW Unit) := [("unicode.White_Space", Go.Proofs.YtadjfbmhbfjjaaaGreatDoor.Rows.laid_unicode_White_Space), ("strings.asciiSpace", Go.Proofs.YtadjfbmhbfjjaaaGreatDoor.Rows.laid_strings_asciiSpace)]
theorem tab_eq : (Go.Proofs.YtadjfbmhbfjjaaaGreatDoor.Rows.laid_strings_asciiSpace : DataW Unit) = Lib.tabData .u8 Lib.asciiSpaceTab := by kernel_rfl
theorem door_met (os : Os) (args : Array Value) : laidMetH Tryz.prog laidRows ((World.doorLaid Tryz.prog 33 os).forCall (fun _ _ => 0) ⟨#[], args, []⟩).memory :=
  laidMetH_of_parts3 (fuel := 8) (laidMet_of_run' 8 (by kernel_rfl) (by kernel_rfl)) (by kernel_rfl) (by kernel_rfl)
theorem gSp : Tryz.prog.globalNamed "strings.asciiSpace" = some 1 := by kernel_rfl
theorem tySp : (Tryz.prog.globals[1]?).map (·.type) = some 186 := by kernel_rfl
theorem tabs_of_laid {W : World} (h : laidMetH Tryz.prog laidRows W) : Tabs Tryz.prog W fun _ => none := by
  rw [MakeChecks.laidMetH_plain _ _ _ (by kernel_rfl)] at h
  obtain ⟨ps, ⟨g0, t0, cs0, f0, p0, q0, hg0, ht0, hv0, hd0, ⟨g1, t1, cs1, f1, p1, q1, hg1, ht1, hv1, hd1, _, _⟩, _⟩, _⟩ := h
  intro g hg
  obtain rfl := Option.some.inj (hg.symm.trans hg1)
  have e : g = 1 := Option.some.inj (hg.symm.trans gSp)
  have ht : (Tryz.prog.globals[g]?).map (·.type) = some 186 := by rw [e]; exact tySp
  obtain rfl := Option.some.inj (ht.symm.trans ht1)
  rw [tab_eq] at hd1
  have hc := Lib.cells_of_tab Tryz.underlying186 Tryz.underlying5 (by kernel_rfl) (by kernel_rfl) hd1
  have htab : Lib.TabIs Tryz.prog W "strings.asciiSpace" .u8 Lib.asciiSpaceTab := by
    unfold Lib.TabIs
    rw [hv1, ← hc]
  have hcell : ∀ c : Nat, c < 256 → W.cell? ⟨g, c, none⟩ = some (.int .u8 (if Lib.isSp (UInt8.ofNat c) then 1 else 0)) := fun c hc => by
    rw [htab.cell hg c (by rw [Lib.asciiSpaceTab_length]; exact hc), Lib.asciiSpaceTab_at c hc]
  refine ⟨(by rintro ⟨_, _, h, _⟩; cases h), World.block_lt_of_cell? _ _ (hcell 0 (by omega)), hcell⟩
end Go.Proofs.Heir
end
