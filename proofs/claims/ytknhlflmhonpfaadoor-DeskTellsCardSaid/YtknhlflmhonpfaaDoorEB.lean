/- Contracts of the functions of names, part 2, and plain laws of desks. By an AI agent. -/
import Derived.Test.YtknhlflmhonpfaaDoorEA
section
set_option linter.unusedSimpArgs false
set_option linter.unusedVariables false
namespace Go.Proofs.DeskD
open Go.Am Go.RowKit Go.Lib
set_option maxRecDepth 100000
theorem MFL_refl {tab : List (Nat × Nat)} {fz : Nat → Bool} {m : ML} {n : Nat} : ∀ {cs : List AV}, noRefL cs = true → MFL (MF tab fz m n) cs cs
  | [], _ => trivial
  | c :: cs, h => by
    simp only [noRefL, Bool.and_eq_true] at h
    exact ⟨MF_refl n c h.1, MFL_refl h.2⟩
def idxI {α : Type} (p : α → Bool) (l : List α) : Int := match l.findIdx? p with | some i => (i : Int) | none => -1
theorem idxI_hit {α : Type} {p : α → Bool} {l : List α} {k : Nat} {a : α} (h : l[k]? = some a) (hp : p a = true) (hno : ∀ (j : Nat) (x : α), j < k → l[j]? = some x → p x = false) : idxI p l = k := by
  have : l.findIdx? p = some k := by
    rw [List.findIdx?_eq_some_iff_getElem]
    obtain ⟨hk, hx⟩ := List.getElem?_eq_some_iff.1 h
    exact ⟨hk, by rw [hx]; exact hp, fun j hj => by simpa using hno j _ hj (List.getElem?_eq_getElem (by omega))⟩
  rw [idxI, this]
theorem idxI_none {α : Type} {p : α → Bool} {l : List α} (hno : ∀ (j : Nat) (x : α), l[j]? = some x → p x = false) : idxI p l = -1 := by
  have : l.findIdx? p = none := by
    rw [List.findIdx?_eq_none_iff]
    intro x hx
    obtain ⟨j, hj⟩ := List.getElem?_of_mem hx
    exact hno j x hj
  rw [idxI, this]
def oStr (s : ByteArray) : AV := eStr s
@[reducible] def eStrs (l : List ByteArray) : AV := .sl 1 (l.map oStr)
@[reducible] def rStrs (l : List ByteArray) : MS := .live 1 (l.map oStr) false
theorem noRef_strs (l : List ByteArray) : noRefL (l.map oStr) = true := by
  rw [noRefL_iff]; intro x hx
  obtain ⟨a, _, rfl⟩ := List.mem_map.1 hx
  rfl
theorem strs_get {l : List ByteArray} {k : Nat} {a : ByteArray} (h : l[k]? = some a) : (l.map oStr)[k]? = some (eStr a) := by rw [List.getElem?_map, h]; rfl
theorem strs_outs (l : List ByteArray) : okOuts [rStrs l] := ⟨Wide.of_mem fun r hr => by obtain ⟨a, _, rfl⟩ := List.mem_map.1 hr; rfl, noRef_strs l, trivial⟩
theorem frz_strs {m : ML} {fz : Nat → Bool} {tab : List (Nat × Nat)} {n t len : Nat} {ro : Bool} {rows : List AV} {l : List ByteArray} (h1 : lkM m t = .live 1 rows ro) (h2 : fz t = true) (h3 : rows = l.map oStr) (h4 : len = l.length) : FrzK m fz (MF tab fz m n) (eStrs l) t 0 len := by
  subst h3; subst h4
  have e : (l.map oStr).length = l.length := List.length_map ..
  exact .cut h1 h2 (by omega) (by rw [List.drop_zero, List.take_of_length_le (by omega)]) (noRef_strs l)
/-- slices.Index at []string: a place, or -1. -/
theorem f50_ok (l : List ByteArray) (hl : l.length ≤ 100000) (s : ByteArray) : FnOK Tryd.prog 50 [] [eStrs l, eStr s] [] (eInt (idxI (fun x => decide (x = s)) l)) := by
  have hlm : (l.map oStr).length = l.length := List.length_map ..
  refine FnOK.startC (rvs := [.tmp 4]) G G_good Tryd.func50 rfl Tryd.ntmps50 rfl rfl ?_; delta List.toArray; ((with_reducible conv => whnf); (with_reducible conv => congr <;> reduce); repeat ((first | (with_reducible refine HaltK.mk ?_) | (with_reducible refine StopK.mk ?_)); (with_reducible conv => whnf); (with_reducible conv => congr <;> reduce)))
  refine LoopK.use G G_good (fun (k : Nat) => [(0, eStrs l), (1, eStr s), (7, eInt l.length), (8, eInt k)]) (fun _ => []) (fun k => k ≤ l.length ∧ ∀ j x, j < k → l[j]? = some x → decide (x = s) = false) (fun k => l.length - k) 0 ⟨Nat.zero_le _, fun j x h => by omega⟩
    ⟨⟨rfl, rfl⟩, ⟨rfl, rfl, by show (l.length : Int) = ((l.map oStr).length : Int); rw [hlm], rfl, trivial⟩, trivial⟩ ?_
  rintro k ⟨hk, hno⟩
  ((with_reducible conv => whnf); (with_reducible conv => congr <;> reduce); repeat ((first | (with_reducible refine HaltK.mk ?_) | (with_reducible refine StopK.mk ?_)); (with_reducible conv => whnf); (with_reducible conv => congr <;> reduce)))
  refine IfK.mk (fun h1 => ?_) (fun h1 => ?_) <;> (try simp only [castN] at h1) <;> ((with_reducible conv => whnf); (with_reducible conv => congr <;> reduce); repeat ((first | (with_reducible refine HaltK.mk ?_) | (with_reducible refine StopK.mk ?_)); (with_reducible conv => whnf); (with_reducible conv => congr <;> reduce)))
  · simp only [decide_eq_true_eq] at h1
    have hk' : k < l.length := by omega
    obtain ⟨a, ha⟩ : ∃ a, l[k]? = some a := ⟨_, List.getElem?_eq_getElem hk'⟩
    refine IdxK.mk k (eStr a) rfl (strs_get ha) ?_; ((with_reducible conv => whnf); (with_reducible conv => congr <;> reduce); repeat ((first | (with_reducible refine HaltK.mk ?_) | (with_reducible refine StopK.mk ?_)); (with_reducible conv => whnf); (with_reducible conv => congr <;> reduce)))
    refine IfK.mk (fun h2 => ?_) (fun h2 => ?_) <;> (try simp only [castN] at h2) <;> ((with_reducible conv => whnf); (with_reducible conv => congr <;> reduce); repeat ((first | (with_reducible refine HaltK.mk ?_) | (with_reducible refine StopK.mk ?_)); (with_reducible conv => whnf); (with_reducible conv => congr <;> reduce)))
    · refine ⟨⟨rfl, rfl⟩, ?_, ?_⟩ <;> (with_reducible conv => whnf) <;> repeat' (first | (with_reducible exact trivial) | (with_reducible refine And.intro ?_ ?_ <;> with_reducible conv => whnf))
      refine idxI_hit (p := fun x => decide (x = s)) ha ?_ hno
      simp only [decide_eq_true_eq] at h2 ⊢; exact h2.symm
    · refine NeedK.mk (by (try simp only [castN]); omega) ?_; ((with_reducible conv => whnf); (with_reducible conv => congr <;> reduce); repeat ((first | (with_reducible refine HaltK.mk ?_) | (with_reducible refine StopK.mk ?_)); (with_reducible conv => whnf); (with_reducible conv => congr <;> reduce)))
      refine NextK.mk (k + 1) ⟨by omega, fun j x hj hx => ?_⟩ (by omega) ⟨⟨rfl, rfl⟩, ⟨rfl, rfl, rfl, by show ((k + 1 : Nat) : Int) = (k : Int) + 1; omega, trivial⟩, trivial⟩
      rcases Nat.lt_or_ge j k with h3 | h3
      · exact hno j x h3 hx
      · have : j = k := by omega
        subst this
        rw [ha] at hx; cases hx
        simp only [decide_eq_false_iff_not] at h2 ⊢; exact fun e => h2 e.symm
  · refine ⟨⟨rfl, rfl⟩, ?_, ?_⟩ <;> (with_reducible conv => whnf) <;> repeat' (first | (with_reducible exact trivial) | (with_reducible refine And.intro ?_ ?_ <;> with_reducible conv => whnf))
    exact idxI_none fun j x hx => hno j x (by have := (List.getElem?_eq_some_iff.1 hx).1; simp only [decide_eq_false_iff_not] at h1; omega) hx
def hasW (l : List ByteArray) (s : ByteArray) : Bool := l.any fun x => decide (x = s)
theorem hasW_iff {l : List ByteArray} {s : ByteArray} : hasW l s = true ↔ s ∈ l := by
  unfold hasW; rw [List.any_eq_true]
  exact ⟨fun ⟨x, hx, e⟩ => by rw [← of_decide_eq_true e]; exact hx, fun h => ⟨s, h, decide_eq_true rfl⟩⟩
theorem idxI_mem {l : List ByteArray} {s : ByteArray} : decide (0 ≤ idxI (fun x => decide (x = s)) l) = hasW l s := by
  rw [Bool.eq_iff_iff, decide_eq_true_eq, hasW_iff]
  unfold idxI
  cases h : l.findIdx? (fun x => decide (x = s)) with
  | none =>
    rw [List.findIdx?_eq_none_iff] at h
    simp only
    refine ⟨fun h' => by omega, fun hs => ?_⟩
    have := h s hs
    simp at this
  | some k =>
    rw [List.findIdx?_eq_some_iff_getElem] at h
    obtain ⟨hk, h2, _⟩ := h
    simp only
    exact ⟨fun _ => by rw [← of_decide_eq_true h2]; exact List.getElem_mem hk, fun _ => by omega⟩
/-- slices.Contains at []string. -/
theorem f39_ok (l : List ByteArray) (hl : l.length ≤ 100000) (s : ByteArray) : FnOK Tryd.prog 39 [] [eStrs l, eStr s] [] (eBool (hasW l s)) := by
  rw [← idxI_mem]
  refine FnOK.startC (rvs := [.tmp 4]) G G_good Tryd.func39 rfl Tryd.ntmps39 rfl rfl ?_; delta List.toArray; ((with_reducible conv => whnf); (with_reducible conv => congr <;> reduce); repeat ((first | (with_reducible refine HaltK.mk ?_) | (with_reducible refine StopK.mk ?_)); (with_reducible conv => whnf); (with_reducible conv => congr <;> reduce)))
  refine CallK.lit [] (f50_ok l hl s) c50 ⟨rfl, rfl, trivial⟩ rfl rfl ?_; ((with_reducible conv => whnf); (with_reducible conv => congr <;> reduce); repeat ((first | (with_reducible refine HaltK.mk ?_) | (with_reducible refine StopK.mk ?_)); (with_reducible conv => whnf); (with_reducible conv => congr <;> reduce)))
  refine ⟨⟨rfl, rfl⟩, ?_, ?_⟩ <;> (with_reducible conv => whnf) <;> repeat' (first | (with_reducible exact trivial) | (with_reducible refine And.intro ?_ ?_ <;> with_reducible conv => whnf))
def strB (l : List UInt8) : ByteArray := ⟨l.toArray⟩
def resL : List ByteArray := [strB [97, 110, 110, 111, 116, 97, 116, 105, 111, 110, 45, 120, 109, 108], strB [99, 111, 108, 111, 114, 45, 112, 114, 111, 102, 105, 108, 101], strB [102, 111, 110, 116, 45, 102, 97, 99, 101], strB [102, 111, 110, 116, 45, 102, 97, 99, 101, 45, 115, 114, 99],
  strB [102, 111, 110, 116, 45, 102, 97, 99, 101, 45, 117, 114, 105], strB [102, 111, 110, 116, 45, 102, 97, 99, 101, 45, 102, 111, 114, 109, 97, 116], strB [102, 111, 110, 116, 45, 102, 97, 99, 101, 45, 110, 97, 109, 101], strB [109, 105, 115, 115, 105, 110, 103, 45, 103, 108, 121, 112, 104]]
/-- reserved -/
theorem f40_ok : FnOK Tryd.prog 40 [] [] [rStrs resL] (.own 0 0 8) := by
  refine FnOK.startC (rvs := [.tmp 0]) G G_good Tryd.func40 rfl Tryd.ntmps40 rfl rfl ?_; delta List.toArray; ((with_reducible conv => whnf); (with_reducible conv => congr <;> reduce); repeat ((first | (with_reducible refine HaltK.mk ?_) | (with_reducible refine StopK.mk ?_)); (with_reducible conv => whnf); (with_reducible conv => congr <;> reduce)))
  refine ⟨⟨rfl, rfl⟩, ?_, ?_⟩ <;> (with_reducible conv => whnf) <;> repeat' (first | (with_reducible exact trivial) | (with_reducible refine And.intro ?_ ?_ <;> with_reducible conv => whnf))
  all_goals first | rfl | exact MFL_refl (noRef_strs resL)
/-- strings.Contains at "-" -/
theorem f38_ok (s : ByteArray) (c : UInt8) : FnOK Tryd.prog 38 [] [eStr s, eStr ⟨#[c]⟩] [] (eBool (decide (0 ≤ Lib.indexByte s.data.toList c))) :=
  FnOK.of_calls (vs := [.string s, .string ⟨#[c]⟩]) (v := .bool _) fun w _ => (Go.Proofs.Tryd.strings_Contains_one s c w).mono fun e w' ⟨h1, h2⟩ => ⟨h1, by rw [h2]; exact Below.refl _ w⟩
end Go.Proofs.DeskD
end
section
set_option linter.unusedSimpArgs false
set_option linter.unusedVariables false
namespace Go.Proofs.DeskD
open Go.Am Go.RowKit Go.Lib
set_option maxRecDepth 100000
/-- Words with blanks between. -/
def segsGo (cur : List UInt8) : List UInt8 → List (List UInt8)
  | [] => [cur]
  | c :: r => if c = 32 then cur :: segsGo [] r else segsGo (cur ++ [c]) r
def isW (s : ByteArray) (g : List UInt8) : Bool := decide (strOf g = s)
def oneW (s : ByteArray) (ws : List UInt8) : Bool := (segsGo [] ws).any (isW s)
theorem cut_strOf (s : ByteArray) (a b : Nat) : s.extract a b = strOf ((s.data.toList.take b).drop a) := by
  obtain ⟨l, rfl⟩ : ∃ l : List UInt8, s = ⟨l.toArray⟩ := ⟨s.data.toList, by obtain ⟨⟨l⟩⟩ := s; rfl⟩
  rw [ByteArray.extract_mk]
  unfold strOf
  rw [List.drop_take]
theorem seg_next {l : List UInt8} {i : Nat} {c : UInt8} (h : l[i]? = some c) (cur : List UInt8) : segsGo cur (l.drop i) = if c = 32 then cur :: segsGo [] (l.drop (i + 1)) else segsGo (cur ++ [c]) (l.drop (i + 1)) := by
  have hk := (List.getElem?_eq_some_iff.1 h).1
  rw [List.drop_eq_getElem_cons hk, (List.getElem?_eq_some_iff.1 h).2]; rfl
theorem cur_next {l : List UInt8} {i a : Nat} {c : UInt8} (h : l[i]? = some c) (ha : a ≤ i) : (l.take (i + 1)).drop a = (l.take i).drop a ++ [c] := by
  have hk := (List.getElem?_eq_some_iff.1 h).1
  rw [List.take_succ_eq_append_getElem hk, (List.getElem?_eq_some_iff.1 h).2, List.drop_append_of_le_length (by simp; omega)]
structure OneI (s : ByteArray) (l : List UInt8) (i a : Nat) : Prop where
  le : a ≤ i
  hi : i ≤ l.length + 1
  mid : i ≤ l.length → oneW s l = (segsGo ((l.take i).drop a) (l.drop i)).any (isW s)
  fin : l.length < i → oneW s l = false
theorem is_32 {c : UInt8} : decide ((c.toNat : Int) = 32) = decide (c = 32) := by
  rw [decide_eq_decide]
  constructor
  · intro h
    have : c.toNat = (32 : UInt8).toNat := by have : (32 : UInt8).toNat = 32 := rfl
                                              omega
    exact UInt8.toNat_inj.1 this
  · rintro rfl; rfl
/-- One of some words. -/
theorem f43_ok (s w : ByteArray) (hw : w.size ≤ 100000) : FnOK Tryd.prog 43 [] [eStr s, eStr w] [] (eBool (oneW s w.data.toList)) := by
  have hsz : w.size = w.data.toList.length := size_len w
  have hcut := cut_strOf w
  obtain ⟨l, hl⟩ : ∃ l, w.data.toList = l := ⟨_, rfl⟩
  rw [hl] at hsz hcut ⊢
  refine FnOK.startC (rvs := [.tmp 4]) G G_good Tryd.func43 rfl Tryd.ntmps43 rfl rfl ?_; delta List.toArray; ((with_reducible conv => whnf); (with_reducible conv => congr <;> reduce); repeat ((first | (with_reducible refine HaltK.mk ?_) | (with_reducible refine StopK.mk ?_)); (with_reducible conv => whnf); (with_reducible conv => congr <;> reduce)))
  refine LoopK.use G G_good (fun (p : Nat × Nat) => [(0, eStr s), (1, eStr w), (5, eInt p.2), (6, eInt p.1)]) (fun _ => []) (fun p => OneI s l p.1 p.2) (fun p => l.length + 1 - p.1) (0, 0) ⟨Nat.le_refl _, Nat.zero_le _, fun _ => rfl, fun h => by omega⟩
    ⟨⟨rfl, rfl⟩, ⟨rfl, rfl, rfl, rfl, trivial⟩, trivial⟩ ?_
  rintro ⟨i, a⟩ hI
  have h1 := hI.le
  have h2 := hI.hi
  simp only at h1 h2
  ((with_reducible conv => whnf); (with_reducible conv => congr <;> reduce); repeat ((first | (with_reducible refine HaltK.mk ?_) | (with_reducible refine StopK.mk ?_)); (with_reducible conv => whnf); (with_reducible conv => congr <;> reduce)))
  refine IfK.mk (fun g1 => ?_) (fun g1 => ?_) <;> (try simp only [castN] at g1) <;> ((with_reducible conv => whnf); (with_reducible conv => congr <;> reduce); repeat ((first | (with_reducible refine HaltK.mk ?_) | (with_reducible refine StopK.mk ?_)); (with_reducible conv => whnf); (with_reducible conv => congr <;> reduce)))
  · simp only [decide_eq_true_eq] at g1
    have hil : i ≤ l.length := by omega
    have hm := hI.mid hil
    simp only at hm
    refine IfK.mk (fun g2 => ?_) (fun g2 => ?_) <;> (try simp only [castN] at g2) <;> ((with_reducible conv => whnf); (with_reducible conv => congr <;> reduce); repeat ((first | (with_reducible refine HaltK.mk ?_) | (with_reducible refine StopK.mk ?_)); (with_reducible conv => whnf); (with_reducible conv => congr <;> reduce)))
    · simp only [decide_eq_true_eq] at g2
      have hie : i = l.length := by omega
      have hd : l.drop i = [] := by rw [hie]; exact List.drop_length
      rw [hd] at hm
      refine IfK.tt ?_; ((with_reducible conv => whnf); (with_reducible conv => congr <;> reduce); repeat ((first | (with_reducible refine HaltK.mk ?_) | (with_reducible refine StopK.mk ?_)); (with_reducible conv => whnf); (with_reducible conv => congr <;> reduce)))
      refine CutSK.mk a i rfl rfl h1 (by show i ≤ w.size; omega) ?_; ((with_reducible conv => whnf); (with_reducible conv => congr <;> reduce); repeat ((first | (with_reducible refine HaltK.mk ?_) | (with_reducible refine StopK.mk ?_)); (with_reducible conv => whnf); (with_reducible conv => congr <;> reduce)))
      rw [hcut]
      refine IfK.mk (fun g3 => ?_) (fun g3 => ?_) <;> (try simp only [castN] at g3) <;> ((with_reducible conv => whnf); (with_reducible conv => congr <;> reduce); repeat ((first | (with_reducible refine HaltK.mk ?_) | (with_reducible refine StopK.mk ?_)); (with_reducible conv => whnf); (with_reducible conv => congr <;> reduce)))
      · refine ⟨⟨rfl, rfl⟩, ?_, ?_⟩ <;> (with_reducible conv => whnf) <;> repeat' (first | (with_reducible exact trivial) | (with_reducible refine And.intro ?_ ?_ <;> with_reducible conv => whnf))
        rw [hm]
        simp only [segsGo, List.any_cons, List.any_nil, Bool.or_false, isW]
        simpa using g3
      · refine NeedK.mk (by (try simp only [castN]); omega) ?_; ((with_reducible conv => whnf); (with_reducible conv => congr <;> reduce); repeat ((first | (with_reducible refine HaltK.mk ?_) | (with_reducible refine StopK.mk ?_)); (with_reducible conv => whnf); (with_reducible conv => congr <;> reduce)))
        refine NeedK.mk (by (try simp only [castN]); omega) ?_; ((with_reducible conv => whnf); (with_reducible conv => congr <;> reduce); repeat ((first | (with_reducible refine HaltK.mk ?_) | (with_reducible refine StopK.mk ?_)); (with_reducible conv => whnf); (with_reducible conv => congr <;> reduce)))
        refine NextK.mk (i + 1, i + 1) ⟨Nat.le_refl _, by show i + 1 ≤ l.length + 1; omega, fun h => ?_, fun _ => ?_⟩ (by show l.length + 1 - (i + 1) < l.length + 1 - i; omega) ⟨⟨rfl, rfl⟩, ⟨rfl, rfl, by show ((i + 1 : Nat) : Int) = (i : Int) + 1; omega, by show ((i + 1 : Nat) : Int) = (i : Int) + 1; omega, trivial⟩, trivial⟩
        · simp only at h; omega
        · rw [hm]
          simp only [segsGo, List.any_cons, List.any_nil, Bool.or_false, isW]
          simpa using g3
    · have hi2 : i < l.length := by simp only [decide_eq_false_iff_not] at g2; omega
      obtain ⟨c, hc⟩ : ∃ c, l[i]? = some c := ⟨_, List.getElem?_eq_getElem hi2⟩
      refine IdxSK.mk i c rfl (by rw [hl]; exact hc) ?_; ((with_reducible conv => whnf); (with_reducible conv => congr <;> reduce); repeat ((first | (with_reducible refine HaltK.mk ?_) | (with_reducible refine StopK.mk ?_)); (with_reducible conv => whnf); (with_reducible conv => congr <;> reduce)))
      rw [is_32]
      have hsg := seg_next hc ((l.take i).drop a)
      rw [hsg] at hm
      by_cases hb : c = 32
      · rw [if_pos hb] at hm
        refine IfK.yes (by simp [hb]) ?_; ((with_reducible conv => whnf); (with_reducible conv => congr <;> reduce); repeat ((first | (with_reducible refine HaltK.mk ?_) | (with_reducible refine StopK.mk ?_)); (with_reducible conv => whnf); (with_reducible conv => congr <;> reduce)))
        refine CutSK.mk a i rfl rfl h1 (by show i ≤ w.size; omega) ?_; ((with_reducible conv => whnf); (with_reducible conv => congr <;> reduce); repeat ((first | (with_reducible refine HaltK.mk ?_) | (with_reducible refine StopK.mk ?_)); (with_reducible conv => whnf); (with_reducible conv => congr <;> reduce)))
        rw [hcut]
        refine IfK.mk (fun g3 => ?_) (fun g3 => ?_) <;> (try simp only [castN] at g3) <;> ((with_reducible conv => whnf); (with_reducible conv => congr <;> reduce); repeat ((first | (with_reducible refine HaltK.mk ?_) | (with_reducible refine StopK.mk ?_)); (with_reducible conv => whnf); (with_reducible conv => congr <;> reduce)))
        · refine ⟨⟨rfl, rfl⟩, ?_, ?_⟩ <;> (with_reducible conv => whnf) <;> repeat' (first | (with_reducible exact trivial) | (with_reducible refine And.intro ?_ ?_ <;> with_reducible conv => whnf))
          rw [hm]
          simp only [List.any_cons, isW]
          simp at g3
          simp [g3]
        · refine NeedK.mk (by (try simp only [castN]); omega) ?_; ((with_reducible conv => whnf); (with_reducible conv => congr <;> reduce); repeat ((first | (with_reducible refine HaltK.mk ?_) | (with_reducible refine StopK.mk ?_)); (with_reducible conv => whnf); (with_reducible conv => congr <;> reduce)))
          refine NeedK.mk (by (try simp only [castN]); omega) ?_; ((with_reducible conv => whnf); (with_reducible conv => congr <;> reduce); repeat ((first | (with_reducible refine HaltK.mk ?_) | (with_reducible refine StopK.mk ?_)); (with_reducible conv => whnf); (with_reducible conv => congr <;> reduce)))
          refine NextK.mk (i + 1, i + 1) ⟨Nat.le_refl _, by show i + 1 ≤ l.length + 1; omega, fun h => ?_, fun h => ?_⟩ (by show l.length + 1 - (i + 1) < l.length + 1 - i; omega) ⟨⟨rfl, rfl⟩, ⟨rfl, rfl, by show ((i + 1 : Nat) : Int) = (i : Int) + 1; omega, by show ((i + 1 : Nat) : Int) = (i : Int) + 1; omega, trivial⟩, trivial⟩
          · rw [hm]
            simp only [List.any_cons]
            have : isW s ((l.take i).drop a) = false := by unfold isW; simpa using g3
            rw [this, Bool.false_or, show (l.take (i + 1)).drop (i + 1) = [] from List.drop_eq_nil_of_le (by simp; omega)]
          · simp only at h; omega
      · rw [if_neg hb] at hm
        refine IfK.no (by simp [hb]) ?_; ((with_reducible conv => whnf); (with_reducible conv => congr <;> reduce); repeat ((first | (with_reducible refine HaltK.mk ?_) | (with_reducible refine StopK.mk ?_)); (with_reducible conv => whnf); (with_reducible conv => congr <;> reduce)))
        refine NeedK.mk (by (try simp only [castN]); omega) ?_; ((with_reducible conv => whnf); (with_reducible conv => congr <;> reduce); repeat ((first | (with_reducible refine HaltK.mk ?_) | (with_reducible refine StopK.mk ?_)); (with_reducible conv => whnf); (with_reducible conv => congr <;> reduce)))
        refine NextK.mk (i + 1, a) ⟨by show a ≤ i + 1; omega, by show i + 1 ≤ l.length + 1; omega, fun h => ?_, fun h => ?_⟩ (by show l.length + 1 - (i + 1) < l.length + 1 - i; omega) ⟨⟨rfl, rfl⟩, ⟨rfl, rfl, rfl, by show ((i + 1 : Nat) : Int) = (i : Int) + 1; omega, trivial⟩, trivial⟩
        · rw [hm, cur_next hc h1]
        · simp only at h; omega
  · refine ⟨⟨rfl, rfl⟩, ?_, ?_⟩ <;> (with_reducible conv => whnf) <;> repeat' (first | (with_reducible exact trivial) | (with_reducible refine And.intro ?_ ?_ <;> with_reducible conv => whnf))
    exact hI.fin (by simp only [decide_eq_false_iff_not] at g1; show l.length < i; omega)
end Go.Proofs.DeskD
end
section
set_option linter.unusedSimpArgs false
set_option linter.unusedVariables false
namespace Go.Proofs.DeskD
open Go.Am Go.RowKit Go.Lib
set_option maxRecDepth 100000
@[reducible] def knowB : List UInt8 := [97, 32, 98, 32, 98, 117, 116, 116, 111, 110, 32, 100, 105, 118, 32, 102, 105, 101, 108, 100, 115, 101, 116, 32, 102, 111, 114, 109, 32, 105, 32, 105, 110, 112, 117, 116, 32, 108, 97, 98, 101, 108, 32, 108, 101, 103, 101, 110, 100, 32, 108, 105, 32, 111, 112, 116, 105, 111, 110, 32, 111, 117, 116, 112, 117, 116, 32, 112, 32, 115, 101, 108, 101, 99, 116, 32, 115, 112, 97, 110, 32, 116, 101, 109, 112, 108, 97, 116, 101, 32, 116, 101, 120, 116, 97, 114, 101, 97, 32, 117, 108]
def knowL : List ByteArray := (Lib.fields knowB).map strB
theorem knowL_len : (Lib.fields knowB).length = 19 := by decide +kernel
theorem know_ascii : ∀ (j : Nat) b, (ByteArray.mk knowB.toArray).data.toList[j]? = some b → b.toNat < 128 := by
  intro j b h
  have h1 : knowB.all (fun b => decide (b.toNat < 128)) = true := by decide +kernel
  exact of_decide_eq_true (List.all_eq_true.1 h1 b (List.mem_of_getElem? h))
theorem flat_strs (l : List ByteArray) : flat (l.map oStr) = l.map oStr := by
  induction l with
  | nil => rfl
  | cons a r ih => show cells (oStr a) ++ flat (r.map oStr) = _; rw [ih]; rfl
/-- A function of strings and a string, called with strings that lie in memory. -/
theorem FnOK.at_strs {P : Program} {f : FuncId} {l : List ByteArray} {s : ByteArray} {b : Bool} (h : FnOK P f [] [eStrs l, eStr s] [] (eBool b)) {w : World} {blk cap : Nat} {arr : Array Value} {ty : TypeId} {fz : Nat × Nat} (hh : w.heap[blk]? = some (.cells arr ty fz))
    (harr : ∀ (i : Nat) (x : ByteArray), l[i]? = some x → arr[i]? = some (.string x)) (hcap : l.length ≤ cap) (ht : Tabs P w fun _ => none) :
    Calls P f #[.slice (some ⟨blk, 0, none⟩) l.length cap, .string s] w fun e w' => e = .returned (.bool b) ∧ Below w.heap.size w w' := by
  have hW : ∀ b, ¬ Wr (fun _ => False) (fun _ => none) (objsOf []) b := by
    rintro b (h | ⟨t, B, wd, rows, _, h, _⟩)
    · exact h
    · cases h
  have hblk : blk < w.heap.size := (Array.getElem?_eq_some_iff.1 hh).1
  refine (h w (fun _ => False) (fun _ => none) [.slice (some ⟨blk, 0, none⟩) l.length cap, .string s] (fun _ _ => rfl) (sim_start w ht) ⟨rfl, ?_⟩).mono ?_
  · intro j c v h1 h2
    match j with
    | 0 =>
      simp at h1 h2; subst h1; subst h2
      have key : ∀ (q : Nat) (c : AV), (flat (l.map oStr))[q]? = some c → ∃ x, l[q]? = some x ∧ c = eStr x := by
        intro q c hq
        rw [flat_strs, List.getElem?_map] at hq
        cases hx : l[q]? with
        | none => rw [hx] at hq; cases hq
        | some x => rw [hx] at hq; exact ⟨x, rfl, (Option.some.inj hq).symm⟩
      refine .sl (f := fun q => arr.getD q undef) (hW _) hblk (by simp) hcap (fun i r hr => ?_) (fun q c hq => ?_) (fun q c hq => ?_) (fun c hc => ?_)
      · rw [List.getElem?_map] at hr
        cases hx : l[i]? with
        | none => rw [hx] at hr; cases hr
        | some x => rw [hx] at hr; cases hr; rfl
      · obtain ⟨x, hx, rfl⟩ := key q c hq
        have := harr q x hx
        simp [World.cell?, hh, this, Array.getD_eq_getD_getElem?]
      · obtain ⟨x, hx, rfl⟩ := key q c hq
        have := harr q x hx
        simp only [Array.getD_eq_getD_getElem?, this, Option.getD_some]
        exact .lit
      · rw [flat_strs] at hc
        obtain ⟨x, _, rfl⟩ := List.mem_map.1 hc
        rfl
    | 1 => simp at h1 h2; subst h1; subst h2; exact .lit
    | j + 2 => simp at h1
  · rintro e w' ⟨v', μ', rfl, hs, hv⟩
    cases hv
    exact ⟨rfl, hs.os, hs.tape, hs.output, hs.hsize, fun b hb => hs.keep b hb (by rintro ⟨t, B, h, _⟩; cases h)⟩
theorem f45_calls (w : World) (ht : Tabs Tryd.prog w fun _ => none) : Calls Tryd.prog 45 #[] w fun e w' => e = .returned (.slice (some ⟨w.heap.size, 0, none⟩) 19 19) ∧ w' = w.alloc (.cells (knowL.map Value.string).toArray 9) := by
  have hf := Any.strings_Fields_core Go.Proofs.Tryd.lays157 (by kernel_rfl) (ByteArray.mk knowB.toArray) w (by decide) know_ascii (fun c hc => ((ht _ (by kernel_rfl)).2.2 c hc))
  have e1 : (ByteArray.mk knowB.toArray).data.toList = knowB := rfl
  rw [e1, knowL_len, show ((Lib.fields knowB).map fun l => Value.string ⟨l.toArray⟩) = knowL.map Value.string from by unfold knowL; rw [List.map_map]; rfl] at hf
  go_enter Tryd.func45, Tryd.ntmps45
  go_wp2_with (go_at_call 51; refine hf.mono ?_; rintro e w1 ⟨rfl, rfl⟩)
  go_ret
  exact ⟨rfl, rfl⟩
/-- Known -/
theorem f32_ok (s : ByteArray) : FnOK Tryd.prog 32 [] [eStr s] [] (eBool (hasW knowL s)) := by
  refine FnOK.of_calls (vs := [.string s]) (v := .bool (hasW knowL s)) fun w ht => ?_
  have hl : knowL.length = 19 := by unfold knowL; rw [List.length_map, knowL_len]
  have h29 := f45_calls w ht
  have hb : Below w.heap.size w (w.alloc (.cells (knowL.map Value.string).toArray 9)) := (Below.refl _ w).alloc (Nat.le_refl _) _
  have h26 := FnOK.at_strs (f39_ok knowL (by omega) s) (w := w.alloc (.cells (knowL.map Value.string).toArray 9)) (blk := w.heap.size) (cap := 19) (heap_alloc_new w _) (fun i x hx => by simp [hx]) (by omega) (ht.below hb)
  rw [hl] at h26
  go_enter Tryd.func32, Tryd.ntmps32
  go_wp2_with (first
    | (go_at_call 45; refine h29.mono ?_; rintro e w1 ⟨rfl, rfl⟩)
    | (go_at_call 39; refine h26.mono ?_; rintro e w2 ⟨rfl, hb2⟩))
  go_ret
  exact ⟨rfl, hb.trans (hb2.mono hb.size)⟩
end Go.Proofs.DeskD
end
section
set_option linter.unusedSimpArgs false
set_option linter.unusedVariables false
namespace Go.Proofs.DeskD
open Go.Am Go.RowKit Go.Lib
set_option maxRecDepth 100000
@[reducible] def resB : List UInt8 := [97, 110, 110, 111, 116, 97, 116, 105, 111, 110, 45, 120, 109, 108, 32, 99, 111, 108, 111, 114, 45, 112, 114, 111, 102, 105, 108, 101, 32, 102, 111, 110, 116, 45, 102, 97, 99, 101, 32, 102, 111, 110, 116, 45, 102, 97, 99, 101, 45, 115, 114, 99, 32, 102, 111, 110, 116, 45, 102, 97, 99, 101, 45, 117, 114, 105, 32, 102, 111, 110, 116, 45, 102, 97, 99, 101, 45, 102, 111, 114, 109, 97, 116, 32, 102, 111, 110, 116, 45, 102, 97, 99, 101, 45, 110, 97, 109, 101, 32, 109, 105, 115, 115, 105, 110, 103, 45, 103, 108, 121, 112, 104]
def noS' : ByteArray := ⟨#[]⟩
def dashB (l : List UInt8) : Bool := l.any (fun b => decide (b = 45))
def capsB (l : List UInt8) : Bool := l.any (fun b => capC (b.toNat : Int))
def lowFirst : List UInt8 → Bool
  | [] => false
  | b :: _ => smallC (b.toNat : Int)
def customS (s : ByteArray) : Bool := rightS s && (lowFirst s.data.toList && (!capsB s.data.toList && (dashB s.data.toList && !hasW resL s)))
theorem res_words (s : ByteArray) : oneW s resB = hasW resL s := by
  have e : (segsGo [] resB).map strOf = resL := by decide +kernel
  unfold oneW hasW
  rw [← e, List.any_map]
  rfl
theorem know_words (s : ByteArray) : oneW s knowB = hasW knowL s := by
  have e : (segsGo [] knowB).map strOf = knowL := by decide +kernel
  unfold oneW hasW
  rw [← e, List.any_map]
  rfl
theorem dash_index (l : List UInt8) : decide (0 ≤ Lib.indexByte l 45) = dashB l := by
  rw [Bool.eq_iff_iff, decide_eq_true_eq]
  unfold dashB
  rw [List.any_eq_true]
  constructor
  · intro h
    obtain ⟨o, ho⟩ : ∃ o : Nat, Lib.indexByte l 45 = o := ⟨(Lib.indexByte l 45).toNat, by omega⟩
    obtain ⟨h1, _⟩ := Lib.indexByte_some ho
    exact ⟨45, List.mem_of_getElem? h1, rfl⟩
  · rintro ⟨b, hb, e⟩
    have := of_decide_eq_true e; subst this
    rcases Int.lt_or_le (Lib.indexByte l 45) 0 with h | h
    · have : Lib.indexByte l 45 = -1 := by have := Lib.indexByte_ge l 45; omega
      obtain ⟨k, hk⟩ := List.getElem?_of_mem hb
      exact absurd hk (Lib.indexByte_none this k)
    · exact h
/-- Of a text of plain bytes a rune is a byte. -/
theorem idx_plain (p : Nat → Bool) (s : ByteArray) (hs : ∀ b ∈ s.data.toList, b.toNat < 128) : ∀ (f pos : Nat), s.size ≤ pos + f → (0 ≤ idxFuncFrom p true s f pos ↔ ∃ i, pos ≤ i ∧ ∃ b, s.data.toList[i]? = some b ∧ p b.toNat = true)
  | 0, pos, h => by
    have : ¬ (0 : Int) ≤ idxFuncFrom p true s 0 pos := by simp [idxFuncFrom]
    refine ⟨fun h' => absurd h' this, ?_⟩
    rintro ⟨i, h1, b, h2, _⟩
    have := (List.getElem?_eq_some_iff.1 h2).1
    have : i < s.size := this
    omega
  | f + 1, pos, h => by
    by_cases hp : pos < s.size
    · have ih := idx_plain p s hs f
      obtain ⟨b, hb1, hb2⟩ : ∃ b, s.data.toList[pos]? = some b ∧ s.get! pos = b := ⟨_, List.getElem?_eq_getElem hp, by show s.data[pos]! = _; rw [getElem!_pos s.data pos hp]; rfl⟩
      have hb3 := hs b (List.mem_of_getElem? hb1)
      unfold idxFuncFrom
      rw [if_pos hp, decode_at, hb2]
      have hd : ∀ n b1 b2 b3, decodeN n b.toNat b1 b2 b3 = (b.toNat, 1) := fun n b1 b2 b3 => by rw [decodeN, if_pos hb3]
      rw [hd]
      show (0 : Int) ≤ (if p b.toNat = true then (pos : Int) else idxFuncFrom p true s f (pos + 1)) ↔ _
      cases hpb : p b.toNat with
      | true => exact ⟨fun _ => ⟨pos, Nat.le_refl _, b, hb1, hpb⟩, fun _ => by simp⟩
      | false =>
        rw [if_neg (by simp), ih (pos + 1) (by omega)]
        constructor
        · rintro ⟨i, h3, h4⟩; exact ⟨i, by omega, h4⟩
        · rintro ⟨i, h3, b', h4, h5⟩
          rcases Nat.lt_or_ge pos i with h6 | h6
          · exact ⟨i, h6, b', h4, h5⟩
          · have : i = pos := by omega
            subst this
            rw [hb1] at h4; cases h4
            rw [hpb] at h5; cases h5
    · rw [idxFuncFrom_end _ _ _ _ _ hp]
      refine ⟨fun h' => by omega, ?_⟩
      rintro ⟨i, h1, b, h2, _⟩
      have := (List.getElem?_eq_some_iff.1 h2).1
      have : i < s.size := this
      omega
theorem right_plain {s : ByteArray} (h : rightS s = true) : ∀ b ∈ s.data.toList, b.toNat < 128 := by
  intro b hb
  unfold rightS rightL at h
  simp only [Bool.and_eq_true, List.all_eq_true] at h
  have := h.1.2 b hb
  unfold signB signC smallC capC at this
  simp only [Bool.or_eq_true, Bool.and_eq_true, decide_eq_true_eq] at this
  omega
theorem caps_index {s : ByteArray} (h : rightS s = true) : decide (0 ≤ idxFunc (fun r => capC (r : Int)) true s) = capsB s.data.toList := by
  rw [Bool.eq_iff_iff, decide_eq_true_eq]
  unfold capsB
  rw [List.any_eq_true]
  have := idx_plain (fun r => capC (r : Int)) s (right_plain h) s.size 0 (by omega)
  refine Iff.trans this ⟨?_, ?_⟩
  · rintro ⟨i, _, b, h1, h2⟩; exact ⟨b, List.mem_of_getElem? h1, h2⟩
  · rintro ⟨b, h1, h2⟩
    obtain ⟨i, hi⟩ := List.getElem?_of_mem h1
    exact ⟨i, Nat.zero_le _, b, hi, h2⟩
theorem f20c_ok (s : ByteArray) (h : rightS s = true) : FnOK Tryd.prog 36 [] [eStr s, .lit (.func (.func 37) #[] #[])] [] (eBool (capsB s.data.toList)) := by
  rw [← caps_index h]
  exact FnOK.of_calls (vs := [.string s, .func (.func 37) #[] #[]]) fun w ht => f36_calls 37 c37 (fun r => capC (r : Int)) s w ht fun W x ht _ => (f37_ok (x : Int)).below (vs := [.int .i32 (x : Int)]) W ht
theorem right_first {s : ByteArray} (h : rightS s = true) : ∃ b r, s.data.toList = b :: r := by
  unfold rightS rightL at h
  simp only [Bool.and_eq_true, decide_eq_true_eq] at h
  obtain ⟨b, r, e, _⟩ := first_get h.1.1.1
  exact ⟨b, r, e⟩
/-- Custom -/
theorem f25_ok (s : ByteArray) : FnOK Tryd.prog 25 [] [eStr s] [] (eBool (customS s)) := by
  refine FnOK.startC (rvs := [.tmp 2]) G G_good Tryd.func25 rfl Tryd.ntmps25 rfl rfl ?_; delta List.toArray; ((with_reducible conv => whnf); (with_reducible conv => congr <;> reduce); repeat ((first | (with_reducible refine HaltK.mk ?_) | (with_reducible refine StopK.mk ?_)); (with_reducible conv => whnf); (with_reducible conv => congr <;> reduce)))
  refine CallK.lit [] (f34_ok s) c34 ⟨rfl, trivial⟩ rfl rfl ?_; ((with_reducible conv => whnf); (with_reducible conv => congr <;> reduce); repeat ((first | (with_reducible refine HaltK.mk ?_) | (with_reducible refine StopK.mk ?_)); (with_reducible conv => whnf); (with_reducible conv => congr <;> reduce)))
  unfold customS
  cases hr : rightS s with
  | false =>
    repeat' (first
    | ((with_reducible show IfK _ _ _ _); first
      | (refine IfK.yes (by assumption) ?_; ((with_reducible conv => whnf); (with_reducible conv => congr <;> reduce); repeat ((first | (with_reducible refine HaltK.mk ?_) | (with_reducible refine StopK.mk ?_)); (with_reducible conv => whnf); (with_reducible conv => congr <;> reduce))))
      | (refine IfK.no (by assumption) ?_; ((with_reducible conv => whnf); (with_reducible conv => congr <;> reduce); repeat ((first | (with_reducible refine HaltK.mk ?_) | (with_reducible refine StopK.mk ?_)); (with_reducible conv => whnf); (with_reducible conv => congr <;> reduce))))
      | (with_reducible refine IfK.yes Bool.not_false ?_; ((with_reducible conv => whnf); (with_reducible conv => congr <;> reduce); repeat ((first | (with_reducible refine HaltK.mk ?_) | (with_reducible refine StopK.mk ?_)); (with_reducible conv => whnf); (with_reducible conv => congr <;> reduce))))
      | (with_reducible refine IfK.no Bool.not_true ?_; ((with_reducible conv => whnf); (with_reducible conv => congr <;> reduce); repeat ((first | (with_reducible refine HaltK.mk ?_) | (with_reducible refine StopK.mk ?_)); (with_reducible conv => whnf); (with_reducible conv => congr <;> reduce))))
      | (with_reducible refine IfK.yes (nf (by assumption)) ?_; ((with_reducible conv => whnf); (with_reducible conv => congr <;> reduce); repeat ((first | (with_reducible refine HaltK.mk ?_) | (with_reducible refine StopK.mk ?_)); (with_reducible conv => whnf); (with_reducible conv => congr <;> reduce))))
      | (with_reducible refine IfK.no (nt (by assumption)) ?_; ((with_reducible conv => whnf); (with_reducible conv => congr <;> reduce); repeat ((first | (with_reducible refine HaltK.mk ?_) | (with_reducible refine StopK.mk ?_)); (with_reducible conv => whnf); (with_reducible conv => congr <;> reduce))))
      | (with_reducible refine IfK.tt ?_; ((with_reducible conv => whnf); (with_reducible conv => congr <;> reduce); repeat ((first | (with_reducible refine HaltK.mk ?_) | (with_reducible refine StopK.mk ?_)); (with_reducible conv => whnf); (with_reducible conv => congr <;> reduce))))
      | (with_reducible refine IfK.ff ?_; ((with_reducible conv => whnf); (with_reducible conv => congr <;> reduce); repeat ((first | (with_reducible refine HaltK.mk ?_) | (with_reducible refine StopK.mk ?_)); (with_reducible conv => whnf); (with_reducible conv => congr <;> reduce))))
      | (refine IfK.mk (fun _ => ?_) (fun _ => ?_) <;> ((with_reducible conv => whnf); (with_reducible conv => congr <;> reduce); repeat ((first | (with_reducible refine HaltK.mk ?_) | (with_reducible refine StopK.mk ?_)); (with_reducible conv => whnf); (with_reducible conv => congr <;> reduce)))))
    | ((with_reducible show (_ ∧ _) ∧ _ ∧ _); refine ⟨⟨rfl, rfl⟩, ?_, ?_⟩ <;> (with_reducible conv => whnf) <;> repeat' (first | (with_reducible exact trivial) | (with_reducible refine And.intro ?_ ?_ <;> with_reducible conv => whnf))))
    all_goals rfl
  | true =>
    obtain ⟨b, r, hb⟩ := right_first hr
    have hb0 : s.data.toList[0]? = some b := by rw [hb]; rfl
    have hlf : lowFirst s.data.toList = smallC (b.toNat : Int) := by rw [hb]; rfl
    have hda := dash_index s.data.toList
    have f25 := f38_ok s 45
    rw [hda] at f25
    refine IfK.tt ?_; ((with_reducible conv => whnf); (with_reducible conv => congr <;> reduce); repeat ((first | (with_reducible refine HaltK.mk ?_) | (with_reducible refine StopK.mk ?_)); (with_reducible conv => whnf); (with_reducible conv => congr <;> reduce)))
    refine IdxSK.mk 0 b rfl hb0 ?_; ((with_reducible conv => whnf); (with_reducible conv => congr <;> reduce); repeat ((first | (with_reducible refine HaltK.mk ?_) | (with_reducible refine StopK.mk ?_)); (with_reducible conv => whnf); (with_reducible conv => congr <;> reduce)))
    refine ConvK.int (by kernel_rfl) (by kernel_rfl) (u8_i32 _) ?_; ((with_reducible conv => whnf); (with_reducible conv => congr <;> reduce); repeat ((first | (with_reducible refine HaltK.mk ?_) | (with_reducible refine StopK.mk ?_)); (with_reducible conv => whnf); (with_reducible conv => congr <;> reduce)))
    refine CallK.lit [] (f35_ok _) c35 ⟨rfl, trivial⟩ rfl rfl ?_; ((with_reducible conv => whnf); (with_reducible conv => congr <;> reduce); repeat ((first | (with_reducible refine HaltK.mk ?_) | (with_reducible refine StopK.mk ?_)); (with_reducible conv => whnf); (with_reducible conv => congr <;> reduce)))
    repeat' (first
    | ((with_reducible show IfK _ _ _ _); first
      | (refine IfK.yes (by assumption) ?_; ((with_reducible conv => whnf); (with_reducible conv => congr <;> reduce); repeat ((first | (with_reducible refine HaltK.mk ?_) | (with_reducible refine StopK.mk ?_)); (with_reducible conv => whnf); (with_reducible conv => congr <;> reduce))))
      | (refine IfK.no (by assumption) ?_; ((with_reducible conv => whnf); (with_reducible conv => congr <;> reduce); repeat ((first | (with_reducible refine HaltK.mk ?_) | (with_reducible refine StopK.mk ?_)); (with_reducible conv => whnf); (with_reducible conv => congr <;> reduce))))
      | (with_reducible refine IfK.yes Bool.not_false ?_; ((with_reducible conv => whnf); (with_reducible conv => congr <;> reduce); repeat ((first | (with_reducible refine HaltK.mk ?_) | (with_reducible refine StopK.mk ?_)); (with_reducible conv => whnf); (with_reducible conv => congr <;> reduce))))
      | (with_reducible refine IfK.no Bool.not_true ?_; ((with_reducible conv => whnf); (with_reducible conv => congr <;> reduce); repeat ((first | (with_reducible refine HaltK.mk ?_) | (with_reducible refine StopK.mk ?_)); (with_reducible conv => whnf); (with_reducible conv => congr <;> reduce))))
      | (with_reducible refine IfK.yes (nf (by assumption)) ?_; ((with_reducible conv => whnf); (with_reducible conv => congr <;> reduce); repeat ((first | (with_reducible refine HaltK.mk ?_) | (with_reducible refine StopK.mk ?_)); (with_reducible conv => whnf); (with_reducible conv => congr <;> reduce))))
      | (with_reducible refine IfK.no (nt (by assumption)) ?_; ((with_reducible conv => whnf); (with_reducible conv => congr <;> reduce); repeat ((first | (with_reducible refine HaltK.mk ?_) | (with_reducible refine StopK.mk ?_)); (with_reducible conv => whnf); (with_reducible conv => congr <;> reduce))))
      | (with_reducible refine IfK.tt ?_; ((with_reducible conv => whnf); (with_reducible conv => congr <;> reduce); repeat ((first | (with_reducible refine HaltK.mk ?_) | (with_reducible refine StopK.mk ?_)); (with_reducible conv => whnf); (with_reducible conv => congr <;> reduce))))
      | (with_reducible refine IfK.ff ?_; ((with_reducible conv => whnf); (with_reducible conv => congr <;> reduce); repeat ((first | (with_reducible refine HaltK.mk ?_) | (with_reducible refine StopK.mk ?_)); (with_reducible conv => whnf); (with_reducible conv => congr <;> reduce))))
      | (refine IfK.mk (fun _ => ?_) (fun _ => ?_) <;> ((with_reducible conv => whnf); (with_reducible conv => congr <;> reduce); repeat ((first | (with_reducible refine HaltK.mk ?_) | (with_reducible refine StopK.mk ?_)); (with_reducible conv => whnf); (with_reducible conv => congr <;> reduce)))))
    | ((with_reducible show CallK _ _ 36 _ _ _ _); refine CallK.lit [] (f20c_ok s hr) c36 ⟨rfl, ⟨rfl, rfl⟩, trivial⟩ rfl rfl ?_; ((with_reducible conv => whnf); (with_reducible conv => congr <;> reduce); repeat ((first | (with_reducible refine HaltK.mk ?_) | (with_reducible refine StopK.mk ?_)); (with_reducible conv => whnf); (with_reducible conv => congr <;> reduce))))
    | ((with_reducible show CallK _ _ 38 _ _ _ _); refine CallK.lit [] f25 c38 ⟨rfl, rfl, trivial⟩ rfl rfl ?_; ((with_reducible conv => whnf); (with_reducible conv => congr <;> reduce); repeat ((first | (with_reducible refine HaltK.mk ?_) | (with_reducible refine StopK.mk ?_)); (with_reducible conv => whnf); (with_reducible conv => congr <;> reduce))))
    | ((with_reducible show CallK _ _ 40 _ _ _ _); refine CallK.new 211 [] f40_ok c40 trivial rfl rfl rfl (strs_outs resL) rfl ?_; ((with_reducible conv => whnf); (with_reducible conv => congr <;> reduce); repeat ((first | (with_reducible refine HaltK.mk ?_) | (with_reducible refine StopK.mk ?_)); (with_reducible conv => whnf); (with_reducible conv => congr <;> reduce))))
    | ((with_reducible show CallK _ _ 39 _ _ _ _); refine CallK.lit [211] (f39_ok resL (by decide) s) c39 ⟨frz_strs rfl rfl rfl rfl, rfl, trivial⟩ rfl rfl ?_; ((with_reducible conv => whnf); (with_reducible conv => congr <;> reduce); repeat ((first | (with_reducible refine HaltK.mk ?_) | (with_reducible refine StopK.mk ?_)); (with_reducible conv => whnf); (with_reducible conv => congr <;> reduce))))
    | ((with_reducible show (_ ∧ _) ∧ _ ∧ _); refine ⟨⟨rfl, rfl⟩, ?_, ?_⟩ <;> (with_reducible conv => whnf) <;> repeat' (first | (with_reducible exact trivial) | (with_reducible refine And.intro ?_ ?_ <;> with_reducible conv => whnf))))
    all_goals (rw [hlf]; clear hb hb0 hda f25 hlf; rw [show s.data.toList = s.1.1 from rfl]; simp_all)
/-! ### the reference's -/
theorem lowL_id (l : List UInt8) : lowL l = l ↔ capsB l = false := by
  unfold capsB
  induction l with
  | nil => simp [lowL]
  | cons c r ih =>
    have hc : lowB c = c ↔ capC (c.toNat : Int) = false := by
      unfold lowB
      cases h : capC (c.toNat : Int) with
      | false => simp
      | true =>
        simp only [if_true, Bool.true_eq_false, iff_false]
        intro e
        have : (c + 32).toNat = c.toNat := by rw [e]
        rw [UInt8.toNat_add] at this
        have h3 := UInt8.toNat_lt c
        have : (32 : UInt8).toNat = 32 := rfl
        omega
    simp only [lowL, List.map_cons, List.cons.injEq, List.any_cons, Bool.or_eq_false_iff]
    rw [hc]
    exact and_congr_right fun _ => ih
theorem lowS_id (s : ByteArray) : lowS s = s ↔ capsB s.data.toList = false := by
  rw [← lowL_id]
  constructor
  · intro h
    have : (lowS s).data.toList = s.data.toList := by rw [h]
    exact this
  · intro h
    unfold lowS
    rw [h]
theorem first_kind {s : ByteArray} {b : UInt8} {r : List UInt8} (hr : rightS s = true) (hb : s.data.toList = b :: r) (hc : capsB s.data.toList = false) : smallC (b.toNat : Int) = !decide (b = 95) := by
  unfold rightS rightL at hr
  rw [hb] at hr hc
  unfold capsB at hc
  simp only [List.any_cons, Bool.or_eq_false_iff] at hc
  simp only [Bool.and_eq_true, firstB, hc.1, Bool.or_false, Bool.or_eq_true, decide_eq_true_eq] at hr
  rcases hr.2 with h | h
  · rw [h]
    symm
    rw [Bool.not_eq_true', decide_eq_false_iff_not]
    rintro rfl
    revert h; decide
  · have : b = 95 := by
      have e : b.toNat = (95 : UInt8).toNat := by
        have : (95 : UInt8).toNat = 95 := rfl
        omega
      exact UInt8.toNat_inj.1 e
    subst this; decide
theorem is_n {c d : UInt8} : decide ((c.toNat : Int) = (d.toNat : Int)) = decide (c = d) := by
  rw [decide_eq_decide]
  exact ⟨fun h => UInt8.toNat_inj.1 (by omega), fun h => by rw [h]⟩
theorem f28r_ok (s : ByteArray) : FnOK Tryd.prog 43 [] [eStr s, eStr ⟨resB.toArray⟩] [] (eBool (hasW resL s)) := by
  rw [← res_words]; exact f43_ok s ⟨resB.toArray⟩ (by decide)
theorem f28k_ok (s : ByteArray) : FnOK Tryd.prog 43 [] [eStr s, eStr ⟨knowB.toArray⟩] [] (eBool (hasW knowL s)) := by
  rw [← know_words]; exact f43_ok s ⟨knowB.toArray⟩ (by decide)
theorem f27_ok (s : ByteArray) (hs : s.size ≤ 100000) : FnOK Tryd.prog 27 [] [eStr s] [] (eBool (customS s)) := by
  have hsz : s.size = s.data.toList.length := size_len s
  refine FnOK.startC (rvs := [.tmp 2]) G G_good Tryd.func27 rfl Tryd.ntmps27 rfl rfl ?_; delta List.toArray; ((with_reducible conv => whnf); (with_reducible conv => congr <;> reduce); repeat ((first | (with_reducible refine HaltK.mk ?_) | (with_reducible refine StopK.mk ?_)); (with_reducible conv => whnf); (with_reducible conv => congr <;> reduce)))
  refine CallK.lit [] (f41_ok s) c41 ⟨rfl, trivial⟩ rfl rfl ?_; ((with_reducible conv => whnf); (with_reducible conv => congr <;> reduce); repeat ((first | (with_reducible refine HaltK.mk ?_) | (with_reducible refine StopK.mk ?_)); (with_reducible conv => whnf); (with_reducible conv => congr <;> reduce)))
  cases hr : rightS s with
  | false =>
    have e : customS s = false := by unfold customS; rw [hr]; rfl
    rw [e]
    repeat' (first
    | ((with_reducible show IfK _ _ _ _); first
      | (refine IfK.yes (by assumption) ?_; ((with_reducible conv => whnf); (with_reducible conv => congr <;> reduce); repeat ((first | (with_reducible refine HaltK.mk ?_) | (with_reducible refine StopK.mk ?_)); (with_reducible conv => whnf); (with_reducible conv => congr <;> reduce))))
      | (refine IfK.no (by assumption) ?_; ((with_reducible conv => whnf); (with_reducible conv => congr <;> reduce); repeat ((first | (with_reducible refine HaltK.mk ?_) | (with_reducible refine StopK.mk ?_)); (with_reducible conv => whnf); (with_reducible conv => congr <;> reduce))))
      | (with_reducible refine IfK.yes Bool.not_false ?_; ((with_reducible conv => whnf); (with_reducible conv => congr <;> reduce); repeat ((first | (with_reducible refine HaltK.mk ?_) | (with_reducible refine StopK.mk ?_)); (with_reducible conv => whnf); (with_reducible conv => congr <;> reduce))))
      | (with_reducible refine IfK.no Bool.not_true ?_; ((with_reducible conv => whnf); (with_reducible conv => congr <;> reduce); repeat ((first | (with_reducible refine HaltK.mk ?_) | (with_reducible refine StopK.mk ?_)); (with_reducible conv => whnf); (with_reducible conv => congr <;> reduce))))
      | (with_reducible refine IfK.yes (nf (by assumption)) ?_; ((with_reducible conv => whnf); (with_reducible conv => congr <;> reduce); repeat ((first | (with_reducible refine HaltK.mk ?_) | (with_reducible refine StopK.mk ?_)); (with_reducible conv => whnf); (with_reducible conv => congr <;> reduce))))
      | (with_reducible refine IfK.no (nt (by assumption)) ?_; ((with_reducible conv => whnf); (with_reducible conv => congr <;> reduce); repeat ((first | (with_reducible refine HaltK.mk ?_) | (with_reducible refine StopK.mk ?_)); (with_reducible conv => whnf); (with_reducible conv => congr <;> reduce))))
      | (with_reducible refine IfK.tt ?_; ((with_reducible conv => whnf); (with_reducible conv => congr <;> reduce); repeat ((first | (with_reducible refine HaltK.mk ?_) | (with_reducible refine StopK.mk ?_)); (with_reducible conv => whnf); (with_reducible conv => congr <;> reduce))))
      | (with_reducible refine IfK.ff ?_; ((with_reducible conv => whnf); (with_reducible conv => congr <;> reduce); repeat ((first | (with_reducible refine HaltK.mk ?_) | (with_reducible refine StopK.mk ?_)); (with_reducible conv => whnf); (with_reducible conv => congr <;> reduce))))
      | (refine IfK.mk (fun _ => ?_) (fun _ => ?_) <;> ((with_reducible conv => whnf); (with_reducible conv => congr <;> reduce); repeat ((first | (with_reducible refine HaltK.mk ?_) | (with_reducible refine StopK.mk ?_)); (with_reducible conv => whnf); (with_reducible conv => congr <;> reduce)))))
    | ((with_reducible show (_ ∧ _) ∧ _ ∧ _); refine ⟨⟨rfl, rfl⟩, ?_, ?_⟩ <;> (with_reducible conv => whnf) <;> repeat' (first | (with_reducible exact trivial) | (with_reducible refine And.intro ?_ ?_ <;> with_reducible conv => whnf))))
  | true =>
    obtain ⟨b, r, hb⟩ := right_first hr
    have hb0 : s.data.toList[0]? = some b := by rw [hb]; rfl
    refine IfK.ff ?_; ((with_reducible conv => whnf); (with_reducible conv => congr <;> reduce); repeat ((first | (with_reducible refine HaltK.mk ?_) | (with_reducible refine StopK.mk ?_)); (with_reducible conv => whnf); (with_reducible conv => congr <;> reduce)))
    refine CallK.lit [] (f42_ok s hs) c42 ⟨rfl, trivial⟩ rfl rfl ?_; ((with_reducible conv => whnf); (with_reducible conv => congr <;> reduce); repeat ((first | (with_reducible refine HaltK.mk ?_) | (with_reducible refine StopK.mk ?_)); (with_reducible conv => whnf); (with_reducible conv => congr <;> reduce)))
    have hlf : lowFirst s.data.toList = smallC (b.toNat : Int) := by rw [hb]; rfl
    cases hc : capsB s.data.toList with
    | true =>
      have e : customS s = false := by unfold customS; rw [hc]; simp
      have hne : ¬ s = lowS s := fun h => by rw [(lowS_id s).1 h.symm] at hc; cases hc
      rw [e]
      refine IfK.yes (by simp [hne]) ?_; ((with_reducible conv => whnf); (with_reducible conv => congr <;> reduce); repeat ((first | (with_reducible refine HaltK.mk ?_) | (with_reducible refine StopK.mk ?_)); (with_reducible conv => whnf); (with_reducible conv => congr <;> reduce)))
      repeat' (first
    | ((with_reducible show IfK _ _ _ _); first
      | (refine IfK.yes (by assumption) ?_; ((with_reducible conv => whnf); (with_reducible conv => congr <;> reduce); repeat ((first | (with_reducible refine HaltK.mk ?_) | (with_reducible refine StopK.mk ?_)); (with_reducible conv => whnf); (with_reducible conv => congr <;> reduce))))
      | (refine IfK.no (by assumption) ?_; ((with_reducible conv => whnf); (with_reducible conv => congr <;> reduce); repeat ((first | (with_reducible refine HaltK.mk ?_) | (with_reducible refine StopK.mk ?_)); (with_reducible conv => whnf); (with_reducible conv => congr <;> reduce))))
      | (with_reducible refine IfK.yes Bool.not_false ?_; ((with_reducible conv => whnf); (with_reducible conv => congr <;> reduce); repeat ((first | (with_reducible refine HaltK.mk ?_) | (with_reducible refine StopK.mk ?_)); (with_reducible conv => whnf); (with_reducible conv => congr <;> reduce))))
      | (with_reducible refine IfK.no Bool.not_true ?_; ((with_reducible conv => whnf); (with_reducible conv => congr <;> reduce); repeat ((first | (with_reducible refine HaltK.mk ?_) | (with_reducible refine StopK.mk ?_)); (with_reducible conv => whnf); (with_reducible conv => congr <;> reduce))))
      | (with_reducible refine IfK.yes (nf (by assumption)) ?_; ((with_reducible conv => whnf); (with_reducible conv => congr <;> reduce); repeat ((first | (with_reducible refine HaltK.mk ?_) | (with_reducible refine StopK.mk ?_)); (with_reducible conv => whnf); (with_reducible conv => congr <;> reduce))))
      | (with_reducible refine IfK.no (nt (by assumption)) ?_; ((with_reducible conv => whnf); (with_reducible conv => congr <;> reduce); repeat ((first | (with_reducible refine HaltK.mk ?_) | (with_reducible refine StopK.mk ?_)); (with_reducible conv => whnf); (with_reducible conv => congr <;> reduce))))
      | (with_reducible refine IfK.tt ?_; ((with_reducible conv => whnf); (with_reducible conv => congr <;> reduce); repeat ((first | (with_reducible refine HaltK.mk ?_) | (with_reducible refine StopK.mk ?_)); (with_reducible conv => whnf); (with_reducible conv => congr <;> reduce))))
      | (with_reducible refine IfK.ff ?_; ((with_reducible conv => whnf); (with_reducible conv => congr <;> reduce); repeat ((first | (with_reducible refine HaltK.mk ?_) | (with_reducible refine StopK.mk ?_)); (with_reducible conv => whnf); (with_reducible conv => congr <;> reduce))))
      | (refine IfK.mk (fun _ => ?_) (fun _ => ?_) <;> ((with_reducible conv => whnf); (with_reducible conv => congr <;> reduce); repeat ((first | (with_reducible refine HaltK.mk ?_) | (with_reducible refine StopK.mk ?_)); (with_reducible conv => whnf); (with_reducible conv => congr <;> reduce)))))
    | ((with_reducible show (_ ∧ _) ∧ _ ∧ _); refine ⟨⟨rfl, rfl⟩, ?_, ?_⟩ <;> (with_reducible conv => whnf) <;> repeat' (first | (with_reducible exact trivial) | (with_reducible refine And.intro ?_ ?_ <;> with_reducible conv => whnf))))
    | false =>
      have hfk := first_kind hr hb hc
      have heq : s = lowS s := ((lowS_id s).2 hc).symm
      refine IfK.no (by simp [← heq]) ?_; ((with_reducible conv => whnf); (with_reducible conv => congr <;> reduce); repeat ((first | (with_reducible refine HaltK.mk ?_) | (with_reducible refine StopK.mk ?_)); (with_reducible conv => whnf); (with_reducible conv => congr <;> reduce)))
      refine IdxSK.mk 0 b rfl hb0 ?_; ((with_reducible conv => whnf); (with_reducible conv => congr <;> reduce); repeat ((first | (with_reducible refine HaltK.mk ?_) | (with_reducible refine StopK.mk ?_)); (with_reducible conv => whnf); (with_reducible conv => congr <;> reduce)))
      rw [show decide ((b.toNat : Int) = 95) = decide (b = 95) from is_n (d := 95)]
      cases h9 : decide (b = 95) with
      | true =>
        have e : customS s = false := by unfold customS; rw [hlf, hfk, h9]; simp
        rw [e]
        repeat' (first
    | ((with_reducible show IfK _ _ _ _); first
      | (refine IfK.yes (by assumption) ?_; ((with_reducible conv => whnf); (with_reducible conv => congr <;> reduce); repeat ((first | (with_reducible refine HaltK.mk ?_) | (with_reducible refine StopK.mk ?_)); (with_reducible conv => whnf); (with_reducible conv => congr <;> reduce))))
      | (refine IfK.no (by assumption) ?_; ((with_reducible conv => whnf); (with_reducible conv => congr <;> reduce); repeat ((first | (with_reducible refine HaltK.mk ?_) | (with_reducible refine StopK.mk ?_)); (with_reducible conv => whnf); (with_reducible conv => congr <;> reduce))))
      | (with_reducible refine IfK.yes Bool.not_false ?_; ((with_reducible conv => whnf); (with_reducible conv => congr <;> reduce); repeat ((first | (with_reducible refine HaltK.mk ?_) | (with_reducible refine StopK.mk ?_)); (with_reducible conv => whnf); (with_reducible conv => congr <;> reduce))))
      | (with_reducible refine IfK.no Bool.not_true ?_; ((with_reducible conv => whnf); (with_reducible conv => congr <;> reduce); repeat ((first | (with_reducible refine HaltK.mk ?_) | (with_reducible refine StopK.mk ?_)); (with_reducible conv => whnf); (with_reducible conv => congr <;> reduce))))
      | (with_reducible refine IfK.yes (nf (by assumption)) ?_; ((with_reducible conv => whnf); (with_reducible conv => congr <;> reduce); repeat ((first | (with_reducible refine HaltK.mk ?_) | (with_reducible refine StopK.mk ?_)); (with_reducible conv => whnf); (with_reducible conv => congr <;> reduce))))
      | (with_reducible refine IfK.no (nt (by assumption)) ?_; ((with_reducible conv => whnf); (with_reducible conv => congr <;> reduce); repeat ((first | (with_reducible refine HaltK.mk ?_) | (with_reducible refine StopK.mk ?_)); (with_reducible conv => whnf); (with_reducible conv => congr <;> reduce))))
      | (with_reducible refine IfK.tt ?_; ((with_reducible conv => whnf); (with_reducible conv => congr <;> reduce); repeat ((first | (with_reducible refine HaltK.mk ?_) | (with_reducible refine StopK.mk ?_)); (with_reducible conv => whnf); (with_reducible conv => congr <;> reduce))))
      | (with_reducible refine IfK.ff ?_; ((with_reducible conv => whnf); (with_reducible conv => congr <;> reduce); repeat ((first | (with_reducible refine HaltK.mk ?_) | (with_reducible refine StopK.mk ?_)); (with_reducible conv => whnf); (with_reducible conv => congr <;> reduce))))
      | (refine IfK.mk (fun _ => ?_) (fun _ => ?_) <;> ((with_reducible conv => whnf); (with_reducible conv => congr <;> reduce); repeat ((first | (with_reducible refine HaltK.mk ?_) | (with_reducible refine StopK.mk ?_)); (with_reducible conv => whnf); (with_reducible conv => congr <;> reduce)))))
    | ((with_reducible show (_ ∧ _) ∧ _ ∧ _); refine ⟨⟨rfl, rfl⟩, ?_, ?_⟩ <;> (with_reducible conv => whnf) <;> repeat' (first | (with_reducible exact trivial) | (with_reducible refine And.intro ?_ ?_ <;> with_reducible conv => whnf))))
      | false =>
        refine IfK.ff ?_; ((with_reducible conv => whnf); (with_reducible conv => congr <;> reduce); repeat ((first | (with_reducible refine HaltK.mk ?_) | (with_reducible refine StopK.mk ?_)); (with_reducible conv => whnf); (with_reducible conv => congr <;> reduce)))
        refine CallK.lit [] (f28r_ok s) c43 ⟨rfl, rfl, trivial⟩ rfl rfl ?_; ((with_reducible conv => whnf); (with_reducible conv => congr <;> reduce); repeat ((first | (with_reducible refine HaltK.mk ?_) | (with_reducible refine StopK.mk ?_)); (with_reducible conv => whnf); (with_reducible conv => congr <;> reduce)))
        cases hw : hasW resL s with
        | true =>
          have e : customS s = false := by unfold customS; rw [hw]; simp
          rw [e]
          repeat' (first
    | ((with_reducible show IfK _ _ _ _); first
      | (refine IfK.yes (by assumption) ?_; ((with_reducible conv => whnf); (with_reducible conv => congr <;> reduce); repeat ((first | (with_reducible refine HaltK.mk ?_) | (with_reducible refine StopK.mk ?_)); (with_reducible conv => whnf); (with_reducible conv => congr <;> reduce))))
      | (refine IfK.no (by assumption) ?_; ((with_reducible conv => whnf); (with_reducible conv => congr <;> reduce); repeat ((first | (with_reducible refine HaltK.mk ?_) | (with_reducible refine StopK.mk ?_)); (with_reducible conv => whnf); (with_reducible conv => congr <;> reduce))))
      | (with_reducible refine IfK.yes Bool.not_false ?_; ((with_reducible conv => whnf); (with_reducible conv => congr <;> reduce); repeat ((first | (with_reducible refine HaltK.mk ?_) | (with_reducible refine StopK.mk ?_)); (with_reducible conv => whnf); (with_reducible conv => congr <;> reduce))))
      | (with_reducible refine IfK.no Bool.not_true ?_; ((with_reducible conv => whnf); (with_reducible conv => congr <;> reduce); repeat ((first | (with_reducible refine HaltK.mk ?_) | (with_reducible refine StopK.mk ?_)); (with_reducible conv => whnf); (with_reducible conv => congr <;> reduce))))
      | (with_reducible refine IfK.yes (nf (by assumption)) ?_; ((with_reducible conv => whnf); (with_reducible conv => congr <;> reduce); repeat ((first | (with_reducible refine HaltK.mk ?_) | (with_reducible refine StopK.mk ?_)); (with_reducible conv => whnf); (with_reducible conv => congr <;> reduce))))
      | (with_reducible refine IfK.no (nt (by assumption)) ?_; ((with_reducible conv => whnf); (with_reducible conv => congr <;> reduce); repeat ((first | (with_reducible refine HaltK.mk ?_) | (with_reducible refine StopK.mk ?_)); (with_reducible conv => whnf); (with_reducible conv => congr <;> reduce))))
      | (with_reducible refine IfK.tt ?_; ((with_reducible conv => whnf); (with_reducible conv => congr <;> reduce); repeat ((first | (with_reducible refine HaltK.mk ?_) | (with_reducible refine StopK.mk ?_)); (with_reducible conv => whnf); (with_reducible conv => congr <;> reduce))))
      | (with_reducible refine IfK.ff ?_; ((with_reducible conv => whnf); (with_reducible conv => congr <;> reduce); repeat ((first | (with_reducible refine HaltK.mk ?_) | (with_reducible refine StopK.mk ?_)); (with_reducible conv => whnf); (with_reducible conv => congr <;> reduce))))
      | (refine IfK.mk (fun _ => ?_) (fun _ => ?_) <;> ((with_reducible conv => whnf); (with_reducible conv => congr <;> reduce); repeat ((first | (with_reducible refine HaltK.mk ?_) | (with_reducible refine StopK.mk ?_)); (with_reducible conv => whnf); (with_reducible conv => congr <;> reduce)))))
    | ((with_reducible show (_ ∧ _) ∧ _ ∧ _); refine ⟨⟨rfl, rfl⟩, ?_, ?_⟩ <;> (with_reducible conv => whnf) <;> repeat' (first | (with_reducible exact trivial) | (with_reducible refine And.intro ?_ ?_ <;> with_reducible conv => whnf))))
        | false =>
          have e : customS s = dashB s.data.toList := by unfold customS; rw [hw, hr, hlf, hfk, h9, hc]; simp
          rw [e]
          obtain ⟨l, hl⟩ : ∃ l, s.data.toList = l := ⟨_, rfl⟩
          rw [hl] at hsz ⊢
          refine IfK.ff ?_; ((with_reducible conv => whnf); (with_reducible conv => congr <;> reduce); repeat ((first | (with_reducible refine HaltK.mk ?_) | (with_reducible refine StopK.mk ?_)); (with_reducible conv => whnf); (with_reducible conv => congr <;> reduce)))
          refine LoopK.use G G_good (fun (k : Nat) => [(0, eStr s), (3, eInt k)]) (fun _ => []) (fun k => k ≤ l.length ∧ ∀ j x, j < k → l[j]? = some x → decide (x = 45) = false) (fun k => l.length - k) 0 ⟨Nat.zero_le _, fun j x h => by omega⟩
            ⟨⟨rfl, rfl⟩, ⟨rfl, rfl, trivial⟩, trivial⟩ ?_
          rintro k ⟨hk, hno⟩
          ((with_reducible conv => whnf); (with_reducible conv => congr <;> reduce); repeat ((first | (with_reducible refine HaltK.mk ?_) | (with_reducible refine StopK.mk ?_)); (with_reducible conv => whnf); (with_reducible conv => congr <;> reduce)))
          refine IfK.mk (fun g1 => ?_) (fun g1 => ?_) <;> (try simp only [castN] at g1) <;> ((with_reducible conv => whnf); (with_reducible conv => congr <;> reduce); repeat ((first | (with_reducible refine HaltK.mk ?_) | (with_reducible refine StopK.mk ?_)); (with_reducible conv => whnf); (with_reducible conv => congr <;> reduce)))
          · simp only [decide_eq_true_eq] at g1
            have hk' : k < l.length := by omega
            obtain ⟨c, hcc⟩ : ∃ c, l[k]? = some c := ⟨_, List.getElem?_eq_getElem hk'⟩
            refine IdxSK.mk k c rfl (by rw [hl]; exact hcc) ?_; ((with_reducible conv => whnf); (with_reducible conv => congr <;> reduce); repeat ((first | (with_reducible refine HaltK.mk ?_) | (with_reducible refine StopK.mk ?_)); (with_reducible conv => whnf); (with_reducible conv => congr <;> reduce)))
            rw [show decide ((c.toNat : Int) = 45) = decide (c = 45) from is_n (d := 45)]
            cases h4 : decide (c = 45) with
            | true =>
              refine IfK.tt ?_; ((with_reducible conv => whnf); (with_reducible conv => congr <;> reduce); repeat ((first | (with_reducible refine HaltK.mk ?_) | (with_reducible refine StopK.mk ?_)); (with_reducible conv => whnf); (with_reducible conv => congr <;> reduce)))
              refine ⟨⟨rfl, rfl⟩, ?_, ?_⟩ <;> (with_reducible conv => whnf) <;> repeat' (first | (with_reducible exact trivial) | (with_reducible refine And.intro ?_ ?_ <;> with_reducible conv => whnf))
              unfold dashB
              rw [List.any_eq_true]
              exact ⟨c, List.mem_of_getElem? hcc, h4⟩
            | false =>
              refine IfK.ff ?_; ((with_reducible conv => whnf); (with_reducible conv => congr <;> reduce); repeat ((first | (with_reducible refine HaltK.mk ?_) | (with_reducible refine StopK.mk ?_)); (with_reducible conv => whnf); (with_reducible conv => congr <;> reduce)))
              refine NeedK.mk (by (try simp only [castN]); omega) ?_; ((with_reducible conv => whnf); (with_reducible conv => congr <;> reduce); repeat ((first | (with_reducible refine HaltK.mk ?_) | (with_reducible refine StopK.mk ?_)); (with_reducible conv => whnf); (with_reducible conv => congr <;> reduce)))
              refine NextK.mk (k + 1) ⟨by omega, fun j x hj hx => ?_⟩ (by omega) ⟨⟨rfl, rfl⟩, ⟨rfl, by show ((k + 1 : Nat) : Int) = (k : Int) + 1; omega, trivial⟩, trivial⟩
              rcases Nat.lt_or_ge j k with h3 | h3
              · exact hno j x h3 hx
              · have : j = k := by omega
                subst this
                rw [hcc] at hx; cases hx; exact h4
          · refine ⟨⟨rfl, rfl⟩, ?_, ?_⟩ <;> (with_reducible conv => whnf) <;> repeat' (first | (with_reducible exact trivial) | (with_reducible refine And.intro ?_ ?_ <;> with_reducible conv => whnf))
            unfold dashB
            rw [List.any_eq_false]
            intro x hx
            obtain ⟨j, hj⟩ := List.getElem?_of_mem hx
            have := hno j x (by have := (List.getElem?_eq_some_iff.1 hj).1; simp only [decide_eq_false_iff_not] at g1; omega) hj
            simp [this]
theorem f28_ok (s : ByteArray) : FnOK Tryd.prog 28 [] [eStr s] [] (eBool (hasW knowL s)) := by
  have hne : s = noS' → hasW knowL s = false := by
    rintro rfl; decide +kernel
  refine FnOK.startC (rvs := [.tmp 2]) G G_good Tryd.func28 rfl Tryd.ntmps28 rfl rfl ?_; delta List.toArray; ((with_reducible conv => whnf); (with_reducible conv => congr <;> reduce); repeat ((first | (with_reducible refine HaltK.mk ?_) | (with_reducible refine StopK.mk ?_)); (with_reducible conv => whnf); (with_reducible conv => congr <;> reduce)))
  by_cases h : s = noS'
  · have e := hne h
    refine IfK.no (by rw [show (!decide (s = ({ data := { toList := [] } } : ByteArray))) = !decide (s = noS') from rfl, decide_eq_true h]; rfl) ?_; ((with_reducible conv => whnf); (with_reducible conv => congr <;> reduce); repeat ((first | (with_reducible refine HaltK.mk ?_) | (with_reducible refine StopK.mk ?_)); (with_reducible conv => whnf); (with_reducible conv => congr <;> reduce)))
    refine ⟨⟨rfl, rfl⟩, ?_, ?_⟩ <;> (with_reducible conv => whnf) <;> repeat' (first | (with_reducible exact trivial) | (with_reducible refine And.intro ?_ ?_ <;> with_reducible conv => whnf))
    rw [e]
  · refine IfK.yes (by rw [show (!decide (s = ({ data := { toList := [] } } : ByteArray))) = !decide (s = noS') from rfl, decide_eq_false h]; rfl) ?_; ((with_reducible conv => whnf); (with_reducible conv => congr <;> reduce); repeat ((first | (with_reducible refine HaltK.mk ?_) | (with_reducible refine StopK.mk ?_)); (with_reducible conv => whnf); (with_reducible conv => congr <;> reduce)))
    refine CallK.lit [] (f28k_ok s) c43 ⟨rfl, rfl, trivial⟩ rfl rfl ?_; ((with_reducible conv => whnf); (with_reducible conv => congr <;> reduce); repeat ((first | (with_reducible refine HaltK.mk ?_) | (with_reducible refine StopK.mk ?_)); (with_reducible conv => whnf); (with_reducible conv => congr <;> reduce)))
    refine ⟨⟨rfl, rfl⟩, ?_, ?_⟩ <;> (with_reducible conv => whnf) <;> repeat' (first | (with_reducible exact trivial) | (with_reducible refine And.intro ?_ ?_ <;> with_reducible conv => whnf))
def kindS (s : ByteArray) : Int := if rightS s then (if customS s then 1 else if hasW knowL s then 2 else 3) else 0
end Go.Proofs.DeskD
end
section
set_option linter.unusedSimpArgs false
set_option linter.unusedVariables false
namespace Go.Proofs.DeskD
open Go.Am Go.RowKit Go.Lib
/-! ### plain laws of names -/
theorem byte_all (p : UInt8 → Bool) (h : (List.range 256).all (fun n => p (UInt8.ofNat n)) = true) (c : UInt8) : p c = true := by
  have := List.all_eq_true.1 h c.toNat (List.mem_range.2 (UInt8.toNat_lt c))
  simpa using this
theorem lowB_low (c : UInt8) : lowB (lowB c) = lowB c := by
  have := byte_all (fun c => decide (lowB (lowB c) = lowB c)) (by decide +kernel) c
  simpa using this
theorem signB_low (c : UInt8) : signB (lowB c) = signB c := by
  have := byte_all (fun c => decide (signB (lowB c) = signB c)) (by decide +kernel) c
  simpa using this
theorem lowS_low (s : ByteArray) : lowS (lowS s) = lowS s := by
  unfold lowS lowL
  simp only [List.map_map]
  congr 2
  apply List.map_congr_left
  intro c _
  exact lowB_low c
theorem firstB_low (l : List UInt8) : firstB (lowL l) = firstB l := by
  cases l with
  | nil => rfl
  | cons c r =>
    have := byte_all (fun c => decide (firstB [lowB c] = firstB [c])) (by decide +kernel) c
    exact of_decide_eq_true this
theorem rightS_low (s : ByteArray) : rightS (lowS s) = rightS s := by
  unfold rightS rightL
  have h1 : (lowS s).data.toList = lowL s.data.toList := rfl
  rw [h1, firstB_low]
  have h2 : (lowL s.data.toList).length = s.data.toList.length := by unfold lowL; simp
  have h3 : (lowL s.data.toList).all signB = s.data.toList.all signB := by
    unfold lowL
    rw [List.all_map]
    congr 1
    funext c
    exact signB_low c
  rw [h2, h3]
theorem lowS_size (s : ByteArray) : (lowS s).size = s.size := by
  rw [size_len, size_len]
  show (lowL s.data.toList).length = _
  exact lowL_len _
theorem custom_facts {s : ByteArray} (h : customS s = true) : rightS s = true ∧ lowFirst s.data.toList = true ∧ capsB s.data.toList = false ∧ dashB s.data.toList = true ∧ hasW resL s = false := by
  unfold customS at h
  simp only [Bool.and_eq_true, Bool.not_eq_true'] at h
  exact ⟨h.1, h.2.1, h.2.2.1, h.2.2.2.1, h.2.2.2.2⟩
theorem know_facts {s : ByteArray} (h : hasW knowL s = true) : rightS s = true ∧ dashB s.data.toList = false ∧ capsB s.data.toList = false := by
  have hs := hasW_iff.1 h
  have key : knowL.all (fun x => rightS x && (!dashB x.data.toList && !capsB x.data.toList)) = true := by decide +kernel
  have := List.all_eq_true.1 key s hs
  simp only [Bool.and_eq_true, Bool.not_eq_true'] at this
  exact this
theorem dash_unknown {s : ByteArray} (h : dashB s.data.toList = true) : hasW knowL s = false := by
  cases hk : hasW knowL s with
  | false => rfl
  | true => rw [(know_facts hk).2.1] at h; cases h
theorem caps_unknown {s : ByteArray} (h : capsB s.data.toList = true) : hasW knowL s = false := by
  cases hk : hasW knowL s with
  | false => rfl
  | true => rw [(know_facts hk).2.2] at h; cases h
theorem know_uncustom {s : ByteArray} (h : hasW knowL s = true) : customS s = false := by
  unfold customS; rw [(know_facts h).2.1]; simp
theorem kind_custom {s : ByteArray} (h : customS s = true) : kindS s = 1 := by unfold kindS; rw [if_pos (custom_facts h).1, if_pos h]
theorem kind_known {s : ByteArray} (h : hasW knowL s = true) : kindS s = 2 := by unfold kindS; rw [if_pos (know_facts h).1, know_uncustom h, if_neg (by simp), if_pos h]
theorem kind_other {s : ByteArray} (h1 : rightS s = true) (h2 : customS s = false) (h3 : hasW knowL s = false) : kindS s = 3 := by unfold kindS; rw [if_pos h1, h2, if_neg (by simp), h3, if_neg (by simp)]
theorem kind_none {s : ByteArray} (h : rightS s = false) : kindS s = 0 := by unfold kindS; rw [h]; rfl
theorem res_long {s : ByteArray} (h : hasW resL s = true) : 9 ≤ s.size := by
  have hs := hasW_iff.1 h
  have key : resL.all (fun x => decide (9 ≤ x.size)) = true := by decide +kernel
  exact of_decide_eq_true (List.all_eq_true.1 key s hs)
end Go.Proofs.DeskD
end
section
set_option linter.unusedSimpArgs false
set_option linter.unusedVariables false
namespace Go.Proofs.DeskD
open Go.Am Go.RowKit Go.Lib
/-! ### the desk's model -/
structure DefM where
  name : ByteArray
  locl : ByteArray
  cls : Int
  deriving DecidableEq
structure WaitM where
  name : ByteArray
  ticket : Int
  deriving DecidableEq
structure DeskM where
  defs : List DefM
  waits : List WaitM
  next : Int
  busy : Bool
  deriving DecidableEq
def knowS (s : ByteArray) : Bool := hasW knowL s
def localB (x : DefM) : Bool := decide (x.locl = x.name) || knowS x.locl
def goodD (x : DefM) : Bool := customS x.name && localB x && decide (0 ≤ x.cls) && decide (x.cls < 12)
def hasN (s : ByteArray) (x : DefM) : Bool := decide (x.name = s)
def hasC (c : Int) (x : DefM) : Bool := decide (x.cls = c)
def ixI {α : Type} (p : α → Bool) (l : List α) : Int := match l.findIdx? p with
  | some k => (k : Int)
  | none => -1
def posN (l : List DefM) (s : ByteArray) : Int := ixI (hasN s) l
def posC (l : List DefM) (c : Int) : Int := ixI (hasC c) l
def okW (l : List DefM) (next : Int) (w : WaitM) (last : Int) : Bool := customS w.name && decide (posN l w.name = -1) && decide (last < w.ticket) && decide (w.ticket < next)
def waitsB (l : List DefM) (next : Int) : Int → List WaitM → Bool
  | _, [] => true
  | last, w :: r => okW l next w last && waitsB l next w.ticket r
def defsB (l : List DefM) : Bool := l.all goodD && decide ((l.map DefM.name).Nodup) && decide ((l.map DefM.cls).Nodup)
def rightD (d : DeskM) : Bool := defsB d.defs && waitsB d.defs d.next (-1) d.waits && decide (0 ≤ d.next) && decide (d.next ≤ 100000)
theorem ixI_cases {α : Type} (p : α → Bool) (l : List α) : (ixI p l = -1 ∧ ∀ a ∈ l, p a = false) ∨ ∃ (k : Nat) (a : α), ixI p l = k ∧ l[k]? = some a ∧ p a = true ∧ ∀ (j : Nat) (b : α), j < k → l[j]? = some b → p b = false := by
  unfold ixI
  cases h : l.findIdx? p with
  | none => exact .inl ⟨rfl, by simpa using h⟩
  | some k =>
    rw [List.findIdx?_eq_some_iff_getElem] at h
    obtain ⟨hk, h1, h2⟩ := h
    refine .inr ⟨k, l[k], rfl, List.getElem?_eq_getElem hk, h1, fun j b hj hb => ?_⟩
    obtain ⟨hjl, rfl⟩ := List.getElem?_eq_some_iff.1 hb
    simpa using h2 j hj
theorem ixI_at {α : Type} {p : α → Bool} {l : List α} {k : Nat} {a : α} (ha : l[k]? = some a) (hp : p a = true) (hu : ∀ (j : Nat) (b : α), l[j]? = some b → p b = true → j = k) : ixI p l = k := by
  rcases ixI_cases p l with ⟨_, h⟩ | ⟨j, b, h1, h2, h3, _⟩
  · rw [h a (List.mem_of_getElem? ha)] at hp; cases hp
  · rw [h1, hu j b h2 h3]
theorem ixI_none {α : Type} {p : α → Bool} {l : List α} (h : ∀ a ∈ l, p a = false) : ixI p l = -1 := by
  rcases ixI_cases p l with ⟨h1, _⟩ | ⟨j, b, _, h2, h3, _⟩
  · exact h1
  · rw [h b (List.mem_of_getElem? h2)] at h3; cases h3
theorem ixI_neg {α : Type} {p : α → Bool} {l : List α} (h : ixI p l = -1) : ∀ a ∈ l, p a = false := by
  rcases ixI_cases p l with ⟨_, h1⟩ | ⟨j, b, h1, _⟩
  · exact h1
  · omega
theorem nodup_ix {α β : Type} [DecidableEq β] {f : α → β} {l : List α} (h : (l.map f).Nodup) {i j : Nat} {a b : α} (ha : l[i]? = some a) (hb : l[j]? = some b) (e : f a = f b) : i = j := by
  have h1 : (l.map f)[i]? = some (f a) := by rw [List.getElem?_map, ha]; rfl
  have h2 : (l.map f)[j]? = some (f b) := by rw [List.getElem?_map, hb]; rfl
  exact (List.getElem?_inj (List.getElem?_eq_some_iff.1 h1).1 h).1 (by rw [h1, h2, e])
theorem nodup_of_ix {α β : Type} {f : α → β} : ∀ {l : List α}, (∀ (i j : Nat) (a b : α), l[i]? = some a → l[j]? = some b → f a = f b → i = j) → (l.map f).Nodup
  | [], _ => List.nodup_nil
  | x :: r, h => by
    rw [List.map_cons, List.nodup_cons]
    refine ⟨fun hm => ?_, nodup_of_ix fun i j a b ha hb e => ?_⟩
    · obtain ⟨y, hy, he⟩ := List.mem_map.1 hm
      obtain ⟨j, hj⟩ := List.getElem?_of_mem hy
      have := h 0 (j + 1) x y rfl (by simpa using hj) he.symm
      omega
    · have := h (i + 1) (j + 1) a b (by simpa using ha) (by simpa using hb) e
      omega
theorem posN_at {l : List DefM} (h : (l.map DefM.name).Nodup) {k : Nat} {x : DefM} (hx : l[k]? = some x) : posN l x.name = k :=
  ixI_at hx (by simp [hasN]) fun j b hb hp => nodup_ix h hb hx (by simpa [hasN] using hp)
theorem posC_at {l : List DefM} (h : (l.map DefM.cls).Nodup) {k : Nat} {x : DefM} (hx : l[k]? = some x) : posC l x.cls = k :=
  ixI_at hx (by simp [hasC]) fun j b hb hp => nodup_ix h hb hx (by simpa [hasC] using hp)
theorem defsB_iff {l : List DefM} : defsB l = true ↔ (∀ x ∈ l, goodD x = true) ∧ (l.map DefM.name).Nodup ∧ (l.map DefM.cls).Nodup := by
  unfold defsB; simp [List.all_eq_true, and_assoc]
theorem waitsB_iff (l : List DefM) (next : Int) : ∀ (ws : List WaitM) (last : Int), waitsB l next last ws = true ↔ (∀ w ∈ ws, customS w.name = true ∧ posN l w.name = -1 ∧ last < w.ticket ∧ w.ticket < next) ∧ ws.Pairwise (fun a b => a.ticket < b.ticket)
  | [], last => by simp [waitsB]
  | w :: r, last => by
    rw [waitsB, Bool.and_eq_true, waitsB_iff l next r w.ticket, List.pairwise_cons]
    unfold okW
    simp only [Bool.and_eq_true, decide_eq_true_eq, List.mem_cons]
    constructor
    · rintro ⟨⟨⟨⟨a1, a2⟩, a3⟩, a4⟩, b1, b2⟩
      refine ⟨fun v hv => ?_, fun v hv => (b1 v hv).2.2.1, b2⟩
      rcases hv with rfl | hv
      · exact ⟨a1, a2, a3, a4⟩
      · obtain ⟨c1, c2, c3, c4⟩ := b1 v hv
        exact ⟨c1, c2, by omega, c4⟩
    · rintro ⟨h1, h2, h3⟩
      obtain ⟨a1, a2, a3, a4⟩ := h1 w (.inl rfl)
      refine ⟨⟨⟨⟨a1, a2⟩, a3⟩, a4⟩, fun v hv => ?_, h3⟩
      obtain ⟨c1, c2, _, c4⟩ := h1 v (.inr hv)
      exact ⟨c1, c2, h2 v hv, c4⟩
theorem waitsB_false (l : List DefM) (next : Int) {ws : List WaitM} {last : Int} {w : WaitM} (hw : w ∈ ws) (h : ∀ t, okW l next w t = false) : waitsB l next last ws = false := by
  induction ws generalizing last with
  | nil => simp at hw
  | cons v r ih =>
    rw [waitsB]
    rcases List.mem_cons.1 hw with rfl | hw
    · rw [h]; rfl
    · rw [ih hw]; simp
def fitL (a b : ByteArray) (x : DefM) : Bool := decide (x.locl = a) && decide (x.name = b)
/-- Of a desk that is right. -/
def findR (l : List DefM) (a b : ByteArray) : Int := if 0 ≤ ixI (fitL a a) l then ixI (fitL a a) l else ixI (fitL a b) l
def findD (d : DeskM) (a b : ByteArray) : Int := if rightD d then findR d.defs a b else -1
def namedD (d : DeskM) (s : ByteArray) : Int := if rightD d then posN d.defs s else -1
def classedD (d : DeskM) (c : Int) : Int := if rightD d then posC d.defs c else -1
def emptyS : ByteArray := ⟨#[]⟩
def mayD (d : DeskM) (classes : Int) (s base : ByteArray) (c : Int) : Int :=
  if (rightD d && decide (0 ≤ c) && decide (c < classes) && decide (c < 12)) = false then 1
  else if customS s = false then 4
  else if 0 ≤ posN d.defs s ∨ 0 ≤ posC d.defs c then 10
  else if base ≠ emptyS ∧ knowS base = false then 6
  else if d.busy then 7 else 0
def toldW (ws : List WaitM) (s : ByteArray) : List Int := (ws.filter fun w => decide (w.name = s)).map WaitM.ticket
def restW (ws : List WaitM) (s : ByteArray) : List WaitM := ws.filter fun w => !decide (w.name = s)
def newD (s base : ByteArray) (c : Int) : DefM := ⟨s, if base = emptyS then s else base, c⟩
def addD (d : DeskM) (s base : ByteArray) (c : Int) : DeskM := ⟨d.defs ++ [newD s base c], restW d.waits s, d.next, d.busy⟩
/-- What comes of defining: the desk, the place, who is told. -/
def defineD (d : DeskM) (classes : Int) (s base : ByteArray) (c : Int) : DeskM × Int × List Int × Int :=
  if mayD d classes s base c = 0 then (addD d s base c, d.defs.length, toldW d.waits s, 0) else (d, -1, [], mayD d classes s base c)
/-- What comes of waiting. -/
def awaitD (d : DeskM) (s : ByteArray) : DeskM × Int × Int × Int :=
  if rightD d = false then (d, -1, -1, 1) else if customS s = false then (d, -1, -1, 4) else if d.next = 100000 then (d, -1, -1, 3)
  else if 0 ≤ posN d.defs s then (⟨d.defs, d.waits, d.next + 1, d.busy⟩, d.next, posN d.defs s, 0)
  else (⟨d.defs, d.waits ++ [⟨s, d.next⟩], d.next + 1, d.busy⟩, d.next, -1, 0)
end Go.Proofs.DeskD
end
section
set_option linter.unusedSimpArgs false
set_option linter.unusedVariables false
namespace Go.Proofs.DeskD
open Go.Am Go.RowKit Go.Lib
/-! ### plain laws of desks -/
theorem rightD_iff {d : DeskM} : rightD d = true ↔ defsB d.defs = true ∧ waitsB d.defs d.next (-1) d.waits = true ∧ 0 ≤ d.next ∧ d.next ≤ 100000 := by
  unfold rightD; simp [and_assoc]
def fitsB (a b : ByteArray) (x : DefM) : Bool := decide (x.locl = a) && (decide (x.name = a) || decide (x.name = b))
theorem fitsB_iff {a b : ByteArray} {x : DefM} : fitsB a b x = true ↔ x.locl = a ∧ (x.name = a ∨ x.name = b) := by unfold fitsB; simp
theorem goodD_facts {x : DefM} (h : goodD x = true) : customS x.name = true ∧ (x.locl = x.name ∨ knowS x.locl = true) ∧ 0 ≤ x.cls ∧ x.cls < 12 := by
  unfold goodD localB at h; simp only [Bool.and_eq_true, Bool.or_eq_true, decide_eq_true_eq] at h
  exact ⟨h.1.1.1, h.1.1.2, h.1.2, h.2⟩
theorem know_no {s : ByteArray} (h : customS s = true) : knowS s = false := by
  cases hk : knowS s with
  | false => rfl
  | true => rw [know_uncustom hk] at h; cases h
theorem fit_uniq {l : List DefM} (h : defsB l = true) {i j : Nat} {x y : DefM} {a b : ByteArray} (hx : l[i]? = some x) (hy : l[j]? = some y) (fx : fitsB a b x = true) (fy : fitsB a b y = true) : i = j := by
  obtain ⟨h1, h2, h3⟩ := defsB_iff.1 h
  obtain ⟨x1, x2, _⟩ := goodD_facts (h1 x (List.mem_of_getElem? hx))
  obtain ⟨y1, y2, _⟩ := goodD_facts (h1 y (List.mem_of_getElem? hy))
  obtain ⟨p1, p2⟩ := fitsB_iff.1 fx
  obtain ⟨q1, q2⟩ := fitsB_iff.1 fy
  by_cases e : x.name = y.name
  · exact nodup_ix h2 hx hy e
  · exfalso
    have ka : knowS a = true := by
      rcases x2 with x2 | x2
      · rcases y2 with y2 | y2
        · exact absurd (by rw [← x2, ← y2, p1, q1]) e
        · rwa [q1] at y2
      · rwa [p1] at x2
    rcases p2 with p2 | p2
    · rw [p2] at x1; rw [know_no x1] at ka; cases ka
    · rcases q2 with q2 | q2
      · rw [q2] at y1; rw [know_no y1] at ka; cases ka
      · exact e (by rw [p2, q2])
theorem findR_cases (l : List DefM) (a b : ByteArray) : (findR l a b = -1 ∧ ∀ x ∈ l, fitsB a b x = false) ∨ ∃ (k : Nat) (x : DefM), findR l a b = k ∧ l[k]? = some x ∧ fitsB a b x = true := by
  unfold findR
  rcases ixI_cases (fitL a a) l with ⟨h1, h2⟩ | ⟨k, x, h1, h2, h3, _⟩
  · rw [h1, if_neg (by omega)]
    rcases ixI_cases (fitL a b) l with ⟨g1, g2⟩ | ⟨k, x, g1, g2, g3, _⟩
    · refine .inl ⟨g1, fun x hx => ?_⟩
      have u1 := h2 x hx
      have u2 := g2 x hx
      unfold fitL at u1 u2
      unfold fitsB
      cases e : decide (x.locl = a) with
      | false => rfl
      | true => rw [e] at u1 u2; simp only [Bool.true_and] at u1 u2; rw [u1, u2]; rfl
    · refine .inr ⟨k, x, g1, g2, ?_⟩
      unfold fitL at g3; unfold fitsB
      simp only [Bool.and_eq_true] at g3 ⊢
      exact ⟨g3.1, by rw [g3.2]; simp⟩
  · rw [h1, if_pos (by omega)]
    refine .inr ⟨k, x, rfl, h2, ?_⟩
    unfold fitL at h3; unfold fitsB
    simp only [Bool.and_eq_true] at h3 ⊢
    exact ⟨h3.1, by rw [h3.2]; rfl⟩
theorem findR_at {l : List DefM} (h : defsB l = true) {k : Nat} {x : DefM} {a b : ByteArray} (hx : l[k]? = some x) (hf : fitsB a b x = true) : findR l a b = k := by
  rcases findR_cases l a b with ⟨_, h2⟩ | ⟨j, y, h1, h2, h3⟩
  · rw [h2 x (List.mem_of_getElem? hx)] at hf; cases hf
  · rw [h1, fit_uniq h h2 hx h3 hf]
theorem findR_iff {l : List DefM} (h : defsB l = true) {k : Nat} {x : DefM} {a b : ByteArray} (hx : l[k]? = some x) : findR l a b = (k : Int) ↔ fitsB a b x = true := by
  refine ⟨fun he => ?_, findR_at h hx⟩
  rcases findR_cases l a b with ⟨h1, _⟩ | ⟨j, y, h1, h2, h3⟩
  · omega
  · have : j = k := by omega
    subst this
    rw [hx] at h2; cases h2; exact h3
/-- The number of definitions that fit. -/
theorem fit_count {l : List DefM} (h : defsB l = true) (a b : ByteArray) : (l.filter (fitsB a b)).length = if findR l a b = -1 then 0 else 1 := by
  rcases findR_cases l a b with ⟨h1, h2⟩ | ⟨k, x, h1, h2, h3⟩
  · rw [h1, if_pos rfl, List.length_eq_zero_iff, List.filter_eq_nil_iff]
    intro x hx; rw [h2 x hx]; simp
  · rw [h1, if_neg (by omega)]
    have hn : (l.filter (fitsB a b)).length ≤ 1 := by
      by_cases hc : (l.filter (fitsB a b)).length ≤ 1
      · exact hc
      · exfalso
        match hm : l.filter (fitsB a b) with
        | [] => rw [hm] at hc; simp at hc
        | [_] => rw [hm] at hc; simp at hc
        | p :: q :: r =>
          have hs : (p :: q :: r).Sublist l := by rw [← hm]; exact List.filter_sublist
          have hp : fitsB a b p = true := (List.mem_filter.1 (by rw [hm]; simp)).2
          have hq : fitsB a b q = true := (List.mem_filter.1 (by rw [hm]; simp)).2
          have hnd := (defsB_iff.1 h).2.1.sublist (hs.map DefM.name)
          simp only [List.map_cons, List.nodup_cons, List.mem_cons, not_or] at hnd
          obtain ⟨i, hi⟩ := List.getElem?_of_mem (hs.subset (List.mem_cons_self ..))
          obtain ⟨j, hj⟩ := List.getElem?_of_mem (hs.subset (List.mem_cons_of_mem _ (List.mem_cons_self ..)))
          have := fit_uniq h hi hj hp hq
          subst this
          rw [hi] at hj; cases hj
          exact hnd.1.1 rfl
    have : x ∈ l.filter (fitsB a b) := List.mem_filter.2 ⟨List.mem_of_getElem? h2, h3⟩
    have := List.length_pos_of_mem this
    omega
theorem mayD_zero {d : DeskM} {classes c : Int} {s base : ByteArray} (h : mayD d classes s base c = 0) :
    rightD d = true ∧ 0 ≤ c ∧ c < classes ∧ c < 12 ∧ customS s = true ∧ posN d.defs s = -1 ∧ posC d.defs c = -1 ∧ (base = emptyS ∨ knowS base = true) ∧ d.busy = false := by
  unfold mayD at h
  split at h
  · omega
  rename_i h1
  split at h
  · omega
  rename_i h2
  split at h
  · omega
  rename_i h3
  split at h
  · omega
  rename_i h4
  split at h
  · omega
  rename_i h5
  simp only [Bool.not_eq_false, Bool.and_eq_true, decide_eq_true_eq] at h1 h2
  simp only [Bool.not_eq_true] at h5
  have h6 := fun (x : Int) (hx : x = -1 ∨ ∃ k : Nat, x = k) (hn : ¬ 0 ≤ x) => (show x = -1 by rcases hx with hx | ⟨k, hx⟩ <;> omega)
  have hp : posN d.defs s = -1 ∨ ∃ k : Nat, posN d.defs s = k := by
    rcases ixI_cases (hasN s) d.defs with ⟨a, _⟩ | ⟨k, _, a, _⟩
    · exact .inl a
    · exact .inr ⟨k, a⟩
  have hq : posC d.defs c = -1 ∨ ∃ k : Nat, posC d.defs c = k := by
    rcases ixI_cases (hasC c) d.defs with ⟨a, _⟩ | ⟨k, _, a, _⟩
    · exact .inl a
    · exact .inr ⟨k, a⟩
  refine ⟨h1.1.1.1, h1.1.1.2, h1.1.2, h1.2, h2, h6 _ hp fun a => h3 (.inl a), h6 _ hq fun a => h3 (.inr a), ?_, h5⟩
  by_cases e : base = emptyS
  · exact .inl e
  · exact .inr (by cases hk : knowS base with | true => rfl | false => exact absurd ⟨e, hk⟩ h4)
theorem posN_snoc (l : List DefM) (x : DefM) (s : ByteArray) (h : x.name ≠ s) : posN (l ++ [x]) s = posN l s := by
  unfold posN ixI
  rw [List.findIdx?_append]
  have : hasN s x = false := by unfold hasN; exact decide_eq_false h
  cases hh : l.findIdx? (hasN s) <;> simp [List.findIdx?_cons, this]
theorem posC_snoc (l : List DefM) (x : DefM) (c : Int) (h : x.cls ≠ c) : posC (l ++ [x]) c = posC l c := by
  unfold posC ixI
  rw [List.findIdx?_append]
  have : hasC c x = false := by unfold hasC; exact decide_eq_false h
  cases hh : l.findIdx? (hasC c) <;> simp [List.findIdx?_cons, this]
theorem posN_no {l : List DefM} {s : ByteArray} (h : posN l s = -1) : ∀ x ∈ l, x.name ≠ s := fun x hx => by
  have := ixI_neg h x hx
  unfold hasN at this
  exact of_decide_eq_false this
theorem posC_no {l : List DefM} {c : Int} (h : posC l c = -1) : ∀ x ∈ l, x.cls ≠ c := fun x hx => by
  have := ixI_neg h x hx
  unfold hasC at this
  exact of_decide_eq_false this
theorem posN_none {l : List DefM} {s : ByteArray} (h : ∀ x ∈ l, x.name ≠ s) : posN l s = -1 := ixI_none fun x hx => decide_eq_false (h x hx)
theorem posN_pos {l : List DefM} {x : DefM} (h : x ∈ l) : 0 ≤ posN l x.name := by
  rcases ixI_cases (hasN x.name) l with ⟨_, h2⟩ | ⟨k, _, h1, _⟩
  · have := h2 x h; simp [hasN] at this
  · unfold posN; omega
theorem posC_pos {l : List DefM} {x : DefM} (h : x ∈ l) : 0 ≤ posC l x.cls := by
  rcases ixI_cases (hasC x.cls) l with ⟨_, h2⟩ | ⟨k, _, h1, _⟩
  · have := h2 x h; simp [hasC] at this
  · unfold posC; omega
theorem nodup_snoc {α β : Type} {f : α → β} {l : List α} {x : α} (h : (l.map f).Nodup) (hx : ∀ y ∈ l, f y ≠ f x) : ((l ++ [x]).map f).Nodup := by
  rw [List.map_append, List.nodup_append]
  refine ⟨h, by simp, fun a ha b hb => ?_⟩
  obtain ⟨y, hy, rfl⟩ := List.mem_map.1 ha
  simp at hb; subst hb
  exact hx y hy
theorem right_add {d : DeskM} {classes c : Int} {s base : ByteArray} (h : mayD d classes s base c = 0) : rightD (addD d s base c) = true := by
  obtain ⟨h1, h2, h3, h4, h5, h6, h7, h8, h9⟩ := mayD_zero h
  obtain ⟨r1, r2, r3, r4⟩ := rightD_iff.1 h1
  obtain ⟨g1, g2, g3⟩ := defsB_iff.1 r1
  obtain ⟨w1, w2⟩ := (waitsB_iff _ _ _ _).1 r2
  refine rightD_iff.2 ⟨defsB_iff.2 ⟨fun x hx => ?_, nodup_snoc g2 (posN_no h6), nodup_snoc g3 (posC_no h7)⟩, (waitsB_iff _ _ _ _).2 ⟨fun w hw => ?_, w2.sublist List.filter_sublist⟩, r3, r4⟩
  · rcases List.mem_append.1 hx with hx | hx
    · exact g1 x hx
    · simp at hx; subst hx
      unfold goodD localB newD
      simp only [h5, h2, h4, decide_true, Bool.and_true, Bool.true_and]
      by_cases e : base = emptyS
      · simp [e]
      · rw [if_neg e, h8.resolve_left e]; simp
  · obtain ⟨hw1, hw2⟩ := List.mem_filter.1 hw
    have hne : w.name ≠ s := by simpa using hw2
    obtain ⟨a1, a2, a3, a4⟩ := w1 w hw1
    refine ⟨a1, ?_, a3, a4⟩
    show posN (d.defs ++ [newD s base c]) w.name = -1
    rw [posN_snoc _ _ _ (fun e => hne e.symm)]; exact a2
theorem may_add {d : DeskM} {classes a b : Int} {s t base other : ByteArray} (h : mayD d classes t other b = 0) (hs : s ≠ t) (ha : a ≠ b) (k : Int) : mayD (addD d t other b) k s base a = mayD d k s base a := by
  have hr := right_add h
  obtain ⟨h1, _⟩ := mayD_zero h
  unfold mayD
  rw [hr, h1, show (addD d t other b).defs = d.defs ++ [newD t other b] from rfl, posN_snoc _ _ _ (fun e => hs e.symm), posC_snoc _ _ _ (fun e => ha e.symm)]
  rfl
end Go.Proofs.DeskD
end
section
set_option linter.unusedSimpArgs false
set_option linter.unusedVariables false
namespace Go.Proofs.DeskD
open Go.Am Go.RowKit Go.Lib
/-! ### plain laws of DeskAdds -/
def countI (l : List Int) (n : Int) : Int := (l.count n : Nat)
theorem tickets_nodup {d : DeskM} (h : rightD d = true) : (d.waits.map WaitM.ticket).Nodup := by
  obtain ⟨_, r2, _⟩ := rightD_iff.1 h
  have w2 := ((waitsB_iff _ _ _ _).1 r2).2
  unfold List.Nodup
  rw [List.pairwise_map]
  exact w2.imp fun h e => by omega
theorem told_one {d : DeskM} (h : rightD d = true) {w : WaitM} (hw : w ∈ d.waits) : countI (toldW d.waits w.name) w.ticket = 1 := by
  have hn : (toldW d.waits w.name).Nodup := (tickets_nodup h).sublist (List.filter_sublist.map _)
  have hm : w.ticket ∈ toldW d.waits w.name := List.mem_map.2 ⟨w, List.mem_filter.2 ⟨hw, by simp⟩, rfl⟩
  unfold countI
  rw [hn.count, if_pos hm]; rfl
theorem restW_snoc {l : List WaitM} {s : ByteArray} {k : Nat} {w : WaitM} (h : l[k]? = some w) : restW (l.take (k + 1)) s = if w.name = s then restW (l.take k) s else restW (l.take k) s ++ [w] := by
  have hk := (List.getElem?_eq_some_iff.1 h).1
  rw [List.take_succ_eq_append_getElem hk, (List.getElem?_eq_some_iff.1 h).2]
  unfold restW
  rw [List.filter_append]
  by_cases e : w.name = s <;> simp [e]
theorem toldW_snoc {l : List WaitM} {s : ByteArray} {k : Nat} {w : WaitM} (h : l[k]? = some w) : toldW (l.take (k + 1)) s = if w.name = s then toldW (l.take k) s ++ [w.ticket] else toldW (l.take k) s := by
  have hk := (List.getElem?_eq_some_iff.1 h).1
  rw [List.take_succ_eq_append_getElem hk, (List.getElem?_eq_some_iff.1 h).2]
  unfold toldW
  rw [List.filter_append]
  by_cases e : w.name = s <;> simp [e]
theorem restW_len (l : List WaitM) (s : ByteArray) (k : Nat) : (restW (l.take k) s).length ≤ k := by
  unfold restW
  refine Nat.le_trans (List.length_filter_le ..) ?_
  simp; omega
theorem toldW_len (l : List WaitM) (s : ByteArray) (k : Nat) : (toldW (l.take k) s).length ≤ k := by
  unfold toldW
  rw [List.length_map]
  refine Nat.le_trans (List.length_filter_le ..) ?_
  simp; omega
theorem restW_at {l : List WaitM} {s : ByteArray} {k : Nat} {w : WaitM} (h : l[k]? = some w) (hn : w.name ≠ s) : (restW l s)[(restW (l.take k) s).length]? = some w := by
  have h1 : restW l s = restW (l.take (k + 1)) s ++ restW (l.drop (k + 1)) s := by
    unfold restW; rw [← List.filter_append, List.take_append_drop]
  rw [h1, restW_snoc h, if_neg hn, List.append_assoc, List.getElem?_append_right (by omega)]
  simp
theorem told_rest (l : List WaitM) (s : ByteArray) : (toldW l s).length + (restW l s).length = l.length := by
  unfold toldW restW
  rw [List.length_map]
  induction l with
  | nil => rfl
  | cons w r ih => by_cases e : w.name = s <;> simp [e] <;> omega
/-! ### plain laws of DeskOrder -/
theorem toldW_rest {l : List WaitM} {s t : ByteArray} (h : s ≠ t) : toldW (restW l t) s = toldW l s := by
  unfold toldW restW
  rw [List.filter_filter]
  congr 1
  apply List.filter_congr
  intro w _
  by_cases e : w.name = s
  · simp [e, h]
  · simp [e]
theorem order_same {l : List DefM} {x y : DefM} {a b : ByteArray} (h : defsB (l ++ [x, y]) = true) (g : defsB (l ++ [y, x]) = true) :
    (findR (l ++ [x, y]) a b = -1 ∧ findR (l ++ [y, x]) a b = -1) ∨ ∃ (i j : Nat) (z : DefM), findR (l ++ [x, y]) a b = i ∧ findR (l ++ [y, x]) a b = j ∧ (l ++ [x, y])[i]? = some z ∧ (l ++ [y, x])[j]? = some z := by
  have hmem : ∀ z, z ∈ l ++ [x, y] ↔ z ∈ l ++ [y, x] := fun z => by simp; constructor <;> (rintro (h | h | h) <;> simp [h])
  rcases findR_cases (l ++ [x, y]) a b with ⟨h1, h2⟩ | ⟨i, z, h1, h2, h3⟩
  · rcases findR_cases (l ++ [y, x]) a b with ⟨g1, g2⟩ | ⟨j, z, g1, g2, g3⟩
    · exact .inl ⟨h1, g1⟩
    · rw [h2 z ((hmem z).2 (List.mem_of_getElem? g2))] at g3; cases g3
  · obtain ⟨j, hj⟩ := List.getElem?_of_mem ((hmem z).1 (List.mem_of_getElem? h2))
    exact .inr ⟨i, j, z, h1, findR_at g hj h3, h2, hj⟩
/-! ### plain laws of DeskTells -/
def xk (k : Nat) : ByteArray := ⟨#[120, 45, UInt8.ofNat (97 + k)]⟩
theorem xk_custom : ∀ k < 6, customS (xk k) = true := by decide +kernel
theorem xk_inj : ∀ i < 6, ∀ j < 6, xk i = xk j → i = j := by decide +kernel
structure TellInv (d : DeskM) (i : Nat) : Prop where
  right : rightD d = true
  busy : d.busy = false
  names : ∀ w ∈ d.waits, ∃ k < 6, w.name = xk k
  next : d.next ≤ i
theorem TellInv.first : TellInv ⟨[], [], 0, false⟩ 0 := ⟨by decide, rfl, fun w h => by simp at h, by decide⟩
theorem tell_await {d : DeskM} {i k : Nat} (h : TellInv d i) (hk : k < 6) (hi : i < 60) : ∃ d', awaitD d (xk k) = (d', d.next, posN d.defs (xk k), 0) ∧ TellInv d' (i + 1) ∧ d'.defs = d.defs ∧ d'.next = d.next + 1 ∧
    ∀ j < 6, toldW d'.waits (xk j) = if j = k ∧ posN d.defs (xk k) = -1 then toldW d.waits (xk j) ++ [d.next] else toldW d.waits (xk j) := by
  obtain ⟨r1, r2, r3, r4⟩ := rightD_iff.1 h.right
  have hx := h.next
  unfold awaitD
  rw [h.right, xk_custom k hk, if_neg (by simp), if_neg (by simp), if_neg (by omega)]
  have hp : posN d.defs (xk k) = -1 ∨ 0 ≤ posN d.defs (xk k) := by
    rcases ixI_cases (hasN (xk k)) d.defs with ⟨a, _⟩ | ⟨n, _, a, _⟩
    · exact .inl a
    · exact .inr (by unfold posN; omega)
  obtain ⟨w1, w2⟩ := (waitsB_iff _ _ _ _).1 r2
  rcases hp with hp | hp
  · rw [if_neg (by omega), hp]
    refine ⟨_, rfl, ⟨rightD_iff.2 ⟨r1, (waitsB_iff _ _ _ _).2 ⟨fun w hw => ?_, ?_⟩, by show 0 ≤ d.next + 1; omega, by show d.next + 1 ≤ _; omega⟩, h.busy, fun w hw => ?_, by show d.next + 1 ≤ _; omega⟩, rfl, rfl, fun j hj => ?_⟩
    · rcases List.mem_append.1 hw with hw | hw
      · obtain ⟨a1, a2, a3, a4⟩ := w1 w hw
        exact ⟨a1, a2, a3, by show _ < d.next + 1; omega⟩
      · simp at hw; subst hw
        exact ⟨xk_custom k hk, hp, by show -1 < d.next; omega, by show d.next < d.next + 1; omega⟩
    · rw [List.pairwise_append]
      refine ⟨w2, by simp, fun a ha b hb => ?_⟩
      simp at hb; subst hb
      exact (w1 a ha).2.2.2
    · rcases List.mem_append.1 hw with hw | hw
      · exact h.names w hw
      · simp at hw; subst hw; exact ⟨k, hk, rfl⟩
    · show toldW (d.waits ++ [⟨xk k, d.next⟩]) (xk j) = _
      by_cases e : j = k
      · subst e
        rw [if_pos ⟨rfl, rfl⟩]
        unfold toldW; simp
      · rw [if_neg (by simp [e])]
        have : xk k ≠ xk j := fun he => e (xk_inj k hk j hj he).symm
        unfold toldW; simp [this]
  · rw [if_pos hp]
    refine ⟨_, rfl, ⟨rightD_iff.2 ⟨r1, (waitsB_iff _ _ _ _).2 ⟨fun w hw => ?_, w2⟩, by show 0 ≤ d.next + 1; omega, by show d.next + 1 ≤ _; omega⟩, h.busy, h.names, by show d.next + 1 ≤ _; omega⟩, rfl, rfl, fun j hj => ?_⟩
    · obtain ⟨a1, a2, a3, a4⟩ := w1 w hw
      exact ⟨a1, a2, a3, by show _ < d.next + 1; omega⟩
    · rw [if_neg (by omega)]
theorem tell_may {d : DeskM} {i k c : Nat} (h : TellInv d i) (hk : k < 6) (hc : c < 12) : mayD d 12 (xk k) emptyS c = if 0 ≤ posN d.defs (xk k) ∨ 0 ≤ posC d.defs c then 10 else 0 := by
  unfold mayD
  rw [h.right, xk_custom k hk, h.busy]
  have h1 : decide ((0 : Int) ≤ (c : Int)) = true := by simp
  have h2 : decide ((c : Int) < 12) = true := by simp; omega
  rw [h1, h2, if_neg (by simp), if_neg (by simp)]
  split
  · rfl
  · simp
theorem tell_add {d : DeskM} {i k c : Nat} (h : TellInv d i) (hk : k < 6) (hm : mayD d 12 (xk k) emptyS c = 0) : TellInv (addD d (xk k) emptyS c) (i + 1) ∧ ∀ j < 6, toldW (addD d (xk k) emptyS c).waits (xk j) = if j = k then [] else toldW d.waits (xk j) := by
  refine ⟨⟨right_add hm, h.busy, fun w hw => h.names w (List.mem_filter.1 hw).1, by have := h.next; show d.next ≤ _; omega⟩, fun j hj => ?_⟩
  show toldW (restW d.waits (xk k)) (xk j) = _
  by_cases e : j = k
  · subst e
    rw [if_pos rfl]
    unfold toldW restW
    rw [List.filter_filter]
    simp
  · rw [if_neg e]
    exact toldW_rest fun he => e (xk_inj j hj k hk he)
def sumT (l : List WaitM) : Nat → Nat
  | 0 => 0
  | k + 1 => sumT l k + (toldW l (xk k)).length
theorem sumT_all {l : List WaitM} (h : ∀ w ∈ l, ∃ k < 6, w.name = xk k) : sumT l 6 = l.length := by
  induction l with
  | nil => rfl
  | cons w r ih =>
    have ih := ih fun v hv => h v (List.mem_cons_of_mem _ hv)
    obtain ⟨k, hk, he⟩ := h w (List.mem_cons_self ..)
    have step : ∀ j < 6, (toldW (w :: r) (xk j)).length = (toldW r (xk j)).length + if j = k then 1 else 0 := fun j hj => by
      unfold toldW
      by_cases e : j = k
      · subst e; simp [he]
      · have : ¬ xk k = xk j := fun h' => e (xk_inj k hk j hj h').symm
        simp [he, this, e]
    simp only [sumT, List.length_cons] at ih ⊢
    rw [step 0 (by omega), step 1 (by omega), step 2 (by omega), step 3 (by omega), step 4 (by omega), step 5 (by omega)]
    have : k = 0 ∨ k = 1 ∨ k = 2 ∨ k = 3 ∨ k = 4 ∨ k = 5 := by omega
    rcases this with rfl | rfl | rfl | rfl | rfl | rfl <;> simp <;> omega
end Go.Proofs.DeskD
end
section
set_option linter.unusedSimpArgs false
set_option linter.unusedVariables false
namespace Go.Proofs.DeskD
open Go.Am Go.RowKit Go.Lib
/-! ### tables of places -/
section
variable {K : Type} [DecidableEq K] (key : DefM → K)
def ixFrom (i : Nat) (t : List (K × Int)) : List DefM → List (K × Int)
  | [] => t
  | x :: r => ixFrom (i + 1) (tput (key x) (i : Int) t) r
def ixT (l : List DefM) : List (K × Int) := ixFrom key 0 [] l
theorem ixFrom_snoc (x : DefM) : ∀ (l : List DefM) (i : Nat) (t : List (K × Int)), ixFrom key i t (l ++ [x]) = tput (key x) ((i + l.length : Nat) : Int) (ixFrom key i t l)
  | [], i, t => rfl
  | y :: r, i, t => by
    rw [List.cons_append, ixFrom, ixFrom_snoc x r, ixFrom, List.length_cons]
    congr 2
    omega
theorem ixT_snoc {l : List DefM} {k : Nat} {x : DefM} (h : l[k]? = some x) : ixT key (l.take (k + 1)) = tput (key x) (k : Int) (ixT key (l.take k)) := by
  have hk := (List.getElem?_eq_some_iff.1 h).1
  rw [List.take_succ_eq_append_getElem hk, (List.getElem?_eq_some_iff.1 h).2]
  unfold ixT
  rw [ixFrom_snoc, List.length_take]
  congr 2
  omega
theorem tputI_len (k : K) (x : Int) : ∀ t : List (K × Int), (tput k x t).length = if (tget k t).isSome then t.length else t.length + 1
  | [] => rfl
  | p :: r => by
    simp only [tput, tget]
    split
    · simp
    · rw [List.length_cons, tputI_len k x r]; split <;> simp
theorem ixFrom_len : ∀ (l : List DefM) (i : Nat) (t : List (K × Int)), (ixFrom key i t l).length ≤ t.length + l.length ∧ ((ixFrom key i t l).length = t.length + l.length ↔ (l.map key).Nodup ∧ ∀ a ∈ l, (tget (key a) t).isSome = false)
  | [], i, t => by simp [ixFrom]
  | a :: r, i, t => by
    obtain ⟨h1, h2⟩ := ixFrom_len r (i + 1) (tput (key a) (i : Int) t)
    have hl := tputI_len (key a) (i : Int) t
    show (ixFrom key (i + 1) (tput (key a) (i : Int) t) r).length ≤ _ ∧ ((ixFrom key (i + 1) (tput (key a) (i : Int) t) r).length = _ ↔ _)
    cases hg : (tget (key a) t).isSome with
    | true =>
      rw [hg, if_pos rfl] at hl
      refine ⟨by simp only [List.length_cons]; omega, ⟨fun h => ?_, fun h => ?_⟩⟩
      · simp only [List.length_cons] at h; omega
      · have := h.2 a (by simp); rw [hg] at this; cases this
    | false =>
      rw [hg, if_neg (by simp)] at hl
      refine ⟨by simp only [List.length_cons]; omega, ?_⟩
      rw [show (ixFrom key (i + 1) (tput (key a) (i : Int) t) r).length = t.length + (a :: r).length ↔ (ixFrom key (i + 1) (tput (key a) (i : Int) t) r).length = (tput (key a) (i : Int) t).length + r.length from by rw [hl, List.length_cons]; omega, h2]
      simp only [List.map_cons, List.nodup_cons, List.mem_cons, forall_eq_or_imp]
      constructor
      · rintro ⟨k1, k2⟩
        refine ⟨⟨fun hm => ?_, k1⟩, hg, fun b hb => ?_⟩
        · obtain ⟨b, hb, he⟩ := List.mem_map.1 hm
          have := k2 b hb
          rw [tget_put, he, if_pos rfl] at this; cases this
        · have := k2 b hb
          rw [tget_put] at this
          split at this
          · cases this
          · exact this
      · rintro ⟨⟨k1, k2⟩, _, k3⟩
        refine ⟨k2, fun b hb => ?_⟩
        rw [tget_put, if_neg (fun e => k1 (List.mem_map.2 ⟨b, hb, e.symm⟩))]
        exact k3 b hb
theorem ixT_len (l : List DefM) : (ixT key l).length = l.length ↔ (l.map key).Nodup := by
  have := (ixFrom_len key l 0 []).2
  simp only [List.length_nil, Nat.zero_add] at this
  exact this.trans ⟨fun h => h.1, fun h => ⟨h, fun _ _ => rfl⟩⟩
theorem ixT_le (l : List DefM) : (ixT key l).length ≤ l.length := by
  have := (ixFrom_len key l 0 []).1
  simp only [List.length_nil, Nat.zero_add] at this
  exact this
theorem ixFrom_miss {s : K} : ∀ (l : List DefM) (i : Nat) (t : List (K × Int)), (∀ a ∈ l, key a ≠ s) → tget s (ixFrom key i t l) = tget s t
  | [], i, t, _ => rfl
  | a :: r, i, t, h => by
    rw [ixFrom, ixFrom_miss r (i + 1) _ fun b hb => h b (List.mem_cons_of_mem _ hb), tget_put, if_neg (h a (List.mem_cons_self ..))]
theorem ixFrom_hit {s : K} : ∀ (l : List DefM) (i : Nat) (t : List (K × Int)) (j : Nat) (a : DefM), (l.map key).Nodup → l[j]? = some a → key a = s → tget s (ixFrom key i t l) = some ((i + j : Nat) : Int)
  | [], i, t, j, a, _, h, _ => by simp at h
  | x :: r, i, t, 0, a, hn, h, he => by
    simp at h; subst h
    simp only [List.map_cons, List.nodup_cons] at hn
    rw [ixFrom, ixFrom_miss key r (i + 1) _ fun b hb e => hn.1 (List.mem_map.2 ⟨b, hb, e.trans he.symm⟩), tget_put, if_pos he]
    rfl
  | x :: r, i, t, j + 1, a, hn, h, he => by
    simp only [List.map_cons, List.nodup_cons] at hn
    rw [ixFrom, ixFrom_hit r (i + 1) _ j a hn.2 (by simpa using h) he]
    congr 1; omega
theorem ixT_miss {l : List DefM} {s : K} (h : ∀ a ∈ l, key a ≠ s) : tget s (ixT key l) = none := ixFrom_miss key l 0 [] h
theorem ixT_hit {l : List DefM} {s : K} {j : Nat} {a : DefM} (hn : (l.map key).Nodup) (h : l[j]? = some a) (he : key a = s) : tget s (ixT key l) = some (j : Int) := by
  have := ixFrom_hit key l 0 [] j a hn h he
  simpa [ixT] using this
end
def kN (x : DefM) : ByteArray := x.name
def kC (x : DefM) : Int := x.cls
theorem tgetN {l : List DefM} (h : (l.map DefM.name).Nodup) (s : ByteArray) : (tget s (ixT kN l) = none ∧ posN l s = -1) ∨ ∃ (k : Nat) (x : DefM), tget s (ixT kN l) = some (k : Int) ∧ posN l s = k ∧ l[k]? = some x ∧ x.name = s := by
  rcases ixI_cases (hasN s) l with ⟨h1, h2⟩ | ⟨k, x, h1, h2, h3, _⟩
  · exact .inl ⟨ixT_miss kN fun a ha => of_decide_eq_false (h2 a ha), h1⟩
  · have he : x.name = s := of_decide_eq_true h3
    exact .inr ⟨k, x, ixT_hit kN h h2 he, h1, h2, he⟩
theorem tgetC {l : List DefM} (h : (l.map DefM.cls).Nodup) (s : Int) : (tget s (ixT kC l) = none ∧ posC l s = -1) ∨ ∃ (k : Nat) (x : DefM), tget s (ixT kC l) = some (k : Int) ∧ posC l s = k ∧ l[k]? = some x ∧ x.cls = s := by
  rcases ixI_cases (hasC s) l with ⟨h1, h2⟩ | ⟨k, x, h1, h2, h3, _⟩
  · exact .inl ⟨ixT_miss kC fun a ha => of_decide_eq_false (h2 a ha), h1⟩
  · have he : x.cls = s := of_decide_eq_true h3
    exact .inr ⟨k, x, ixT_hit kC h h2 he, h1, h2, he⟩
/-- What the program reads of a list of definitions: up to the first that may not be. -/
def procL (l : List DefM) : List DefM := l.take ((l.takeWhile goodD).length + 1)
theorem takeW_all {l : List DefM} (h : ∀ x ∈ l, goodD x = true) : l.takeWhile goodD = l := by
  induction l with
  | nil => rfl
  | cons x r ih => rw [List.takeWhile_cons_of_pos (h x (List.mem_cons_self ..)), ih fun y hy => h y (List.mem_cons_of_mem _ hy)]
theorem procL_all {l : List DefM} (h : ∀ x ∈ l, goodD x = true) : procL l = l := by
  unfold procL
  rw [takeW_all h, List.take_of_length_le (by omega)]
theorem procL_bad {l : List DefM} {k : Nat} {x : DefM} (h : ∀ (j : Nat) (y : DefM), j < k → l[j]? = some y → goodD y = true) (hx : l[k]? = some x) (hb : goodD x = false) : procL l = l.take (k + 1) := by
  unfold procL
  have hk := (List.getElem?_eq_some_iff.1 hx).1
  have e : l = l.take k ++ x :: l.drop (k + 1) := by
    rw [← (List.getElem?_eq_some_iff.1 hx).2, List.getElem_cons_drop, List.take_append_drop]
  have hg : ∀ y ∈ l.take k, goodD y = true := fun y hy => by
    obtain ⟨j, hj⟩ := List.getElem?_of_mem hy
    rw [List.getElem?_take] at hj
    split at hj
    · rename_i hjk; exact h j y hjk hj
    · cases hj
  have : (l.takeWhile goodD).length = k := by
    conv => lhs; rw [e]
    rw [List.takeWhile_append_of_pos hg, List.takeWhile_cons_of_neg (by simp [hb])]
    simp; omega
  rw [this]
end Go.Proofs.DeskD
end
