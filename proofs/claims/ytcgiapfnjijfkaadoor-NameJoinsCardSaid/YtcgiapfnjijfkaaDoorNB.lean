/- Contracts of the functions of names, part 2. By an AI agent. -/
import Derived.Test.YtcgiapfnjijfkaaDoorNA
section
namespace Go.Proofs.NameD
open Go.Am Go.RowKit Go.Lib
set_option maxRecDepth 100000
theorem MFL_refl {tab : List (Nat × Nat)} {fz : Nat → Bool} {m : ML} {n : Nat} : ∀ {cs : List AV}, noRefL cs = true → MFL (MF tab fz m n) cs cs
  | [], _ => trivial
  | c :: cs, h => by
    simp only [noRefL, Bool.and_eq_true] at h
    exact ⟨MF_refl n c h.1, MFL_refl h.2⟩
def idxI {α : Type} (p : α → Bool) (l : List α) : Int := match l.findIdx? p with | some i => (i : Int) | none => -1
theorem idxI_hit {α : Type} {p : α → Bool} {l : List α} {k : Nat} {a : α} (h : l[k]? = some a) (hp : p a = true) (hno : ∀ (j : Nat) (x : α), j < k → l[j]? = some x → p x = false) : idxI p l = k := by
  have : l.findIdx? p = some k := by
    rw [List.findIdx?_eq_some_iff_getElem]
    obtain ⟨hk, hx⟩ := List.getElem?_eq_some_iff.1 h
    exact ⟨hk, by rw [hx]; exact hp, fun j hj => by simpa using hno j _ hj (List.getElem?_eq_getElem (by omega))⟩
  rw [idxI, this]
theorem idxI_none {α : Type} {p : α → Bool} {l : List α} (hno : ∀ (j : Nat) (x : α), l[j]? = some x → p x = false) : idxI p l = -1 := by
  have : l.findIdx? p = none := by
    rw [List.findIdx?_eq_none_iff]
    intro x hx
    obtain ⟨j, hj⟩ := List.getElem?_of_mem hx
    exact hno j x hj
  rw [idxI, this]
def oStr (s : ByteArray) : AV := eStr s
@[reducible] def eStrs (l : List ByteArray) : AV := .sl 1 (l.map oStr)
@[reducible] def rStrs (l : List ByteArray) : MS := .live 1 (l.map oStr) false
theorem noRef_strs (l : List ByteArray) : noRefL (l.map oStr) = true := by
  rw [noRefL_iff]; intro x hx
  obtain ⟨a, _, rfl⟩ := List.mem_map.1 hx
  rfl
theorem strs_get {l : List ByteArray} {k : Nat} {a : ByteArray} (h : l[k]? = some a) : (l.map oStr)[k]? = some (eStr a) := by rw [List.getElem?_map, h]; rfl
theorem strs_outs (l : List ByteArray) : okOuts [rStrs l] := ⟨Wide.of_mem fun r hr => by obtain ⟨a, _, rfl⟩ := List.mem_map.1 hr; rfl, noRef_strs l, trivial⟩
theorem frz_strs {m : ML} {fz : Nat → Bool} {tab : List (Nat × Nat)} {n t len : Nat} {ro : Bool} {rows : List AV} {l : List ByteArray} (h1 : lkM m t = .live 1 rows ro) (h2 : fz t = true) (h3 : rows = l.map oStr) (h4 : len = l.length) : FrzK m fz (MF tab fz m n) (eStrs l) t 0 len := by
  subst h3; subst h4
  have e : (l.map oStr).length = l.length := List.length_map ..
  exact .cut h1 h2 (by omega) (by rw [List.drop_zero, List.take_of_length_le (by omega)]) (noRef_strs l)
/-- slices.Index at []string: a place, or -1. -/
theorem f32_ok (l : List ByteArray) (hl : l.length ≤ 100000) (s : ByteArray) : FnOK Tryd.prog 32 [] [eStrs l, eStr s] [] (eInt (idxI (fun x => decide (x = s)) l)) := by
  have hlm : (l.map oStr).length = l.length := List.length_map ..
  refine FnOK.startC (rvs := [.tmp 4]) G G_good Tryd.func32 rfl Tryd.ntmps32 rfl rfl ?_; delta List.toArray; ((with_reducible conv => whnf); (with_reducible conv => congr <;> reduce); repeat ((first | (with_reducible refine HaltK.mk ?_) | (with_reducible refine StopK.mk ?_)); (with_reducible conv => whnf); (with_reducible conv => congr <;> reduce)))
  refine LoopK.use G G_good (fun (k : Nat) => [(0, eStrs l), (1, eStr s), (7, eInt l.length), (8, eInt k)]) (fun _ => []) (fun k => k ≤ l.length ∧ ∀ j x, j < k → l[j]? = some x → decide (x = s) = false) (fun k => l.length - k) 0 ⟨Nat.zero_le _, fun j x h => by omega⟩
    ⟨⟨rfl, rfl⟩, ⟨rfl, rfl, by show (l.length : Int) = ((l.map oStr).length : Int); rw [hlm], rfl, trivial⟩, trivial⟩ ?_
  rintro k ⟨hk, hno⟩
  ((with_reducible conv => whnf); (with_reducible conv => congr <;> reduce); repeat ((first | (with_reducible refine HaltK.mk ?_) | (with_reducible refine StopK.mk ?_)); (with_reducible conv => whnf); (with_reducible conv => congr <;> reduce)))
  refine IfK.mk (fun h1 => ?_) (fun h1 => ?_) <;> (try simp only [castN] at h1) <;> ((with_reducible conv => whnf); (with_reducible conv => congr <;> reduce); repeat ((first | (with_reducible refine HaltK.mk ?_) | (with_reducible refine StopK.mk ?_)); (with_reducible conv => whnf); (with_reducible conv => congr <;> reduce)))
  · simp only [decide_eq_true_eq] at h1
    have hk' : k < l.length := by omega
    obtain ⟨a, ha⟩ : ∃ a, l[k]? = some a := ⟨_, List.getElem?_eq_getElem hk'⟩
    refine IdxK.mk k (eStr a) rfl (strs_get ha) ?_; ((with_reducible conv => whnf); (with_reducible conv => congr <;> reduce); repeat ((first | (with_reducible refine HaltK.mk ?_) | (with_reducible refine StopK.mk ?_)); (with_reducible conv => whnf); (with_reducible conv => congr <;> reduce)))
    refine IfK.mk (fun h2 => ?_) (fun h2 => ?_) <;> (try simp only [castN] at h2) <;> ((with_reducible conv => whnf); (with_reducible conv => congr <;> reduce); repeat ((first | (with_reducible refine HaltK.mk ?_) | (with_reducible refine StopK.mk ?_)); (with_reducible conv => whnf); (with_reducible conv => congr <;> reduce)))
    · refine ⟨⟨rfl, rfl⟩, ?_, ?_⟩ <;> (with_reducible conv => whnf) <;> repeat' (first | (with_reducible exact trivial) | (with_reducible refine And.intro ?_ ?_ <;> with_reducible conv => whnf))
      refine idxI_hit (p := fun x => decide (x = s)) ha ?_ hno
      simp only [decide_eq_true_eq] at h2 ⊢; exact h2.symm
    · refine NeedK.mk (by (try simp only [castN]); omega) ?_; ((with_reducible conv => whnf); (with_reducible conv => congr <;> reduce); repeat ((first | (with_reducible refine HaltK.mk ?_) | (with_reducible refine StopK.mk ?_)); (with_reducible conv => whnf); (with_reducible conv => congr <;> reduce)))
      refine NextK.mk (k + 1) ⟨by omega, fun j x hj hx => ?_⟩ (by omega) ⟨⟨rfl, rfl⟩, ⟨rfl, rfl, rfl, by show ((k + 1 : Nat) : Int) = (k : Int) + 1; omega, trivial⟩, trivial⟩
      rcases Nat.lt_or_ge j k with h3 | h3
      · exact hno j x h3 hx
      · have : j = k := by omega
        subst this
        rw [ha] at hx; cases hx
        simp only [decide_eq_false_iff_not] at h2 ⊢; exact fun e => h2 e.symm
  · refine ⟨⟨rfl, rfl⟩, ?_, ?_⟩ <;> (with_reducible conv => whnf) <;> repeat' (first | (with_reducible exact trivial) | (with_reducible refine And.intro ?_ ?_ <;> with_reducible conv => whnf))
    exact idxI_none fun j x hx => hno j x (by have := (List.getElem?_eq_some_iff.1 hx).1; simp only [decide_eq_false_iff_not] at h1; omega) hx
def hasW (l : List ByteArray) (s : ByteArray) : Bool := l.any fun x => decide (x = s)
theorem hasW_iff {l : List ByteArray} {s : ByteArray} : hasW l s = true ↔ s ∈ l := by
  unfold hasW; rw [List.any_eq_true]
  exact ⟨fun ⟨x, hx, e⟩ => by rw [← of_decide_eq_true e]; exact hx, fun h => ⟨s, h, decide_eq_true rfl⟩⟩
theorem idxI_mem {l : List ByteArray} {s : ByteArray} : decide (0 ≤ idxI (fun x => decide (x = s)) l) = hasW l s := by
  rw [Bool.eq_iff_iff, decide_eq_true_eq, hasW_iff]
  unfold idxI
  cases h : l.findIdx? (fun x => decide (x = s)) with
  | none =>
    rw [List.findIdx?_eq_none_iff] at h
    simp only
    refine ⟨fun h' => by omega, fun hs => ?_⟩
    have := h s hs
    simp at this
  | some k =>
    rw [List.findIdx?_eq_some_iff_getElem] at h
    obtain ⟨hk, h2, _⟩ := h
    simp only
    exact ⟨fun _ => by rw [← of_decide_eq_true h2]; exact List.getElem_mem hk, fun _ => by omega⟩
/-- slices.Contains at []string. -/
theorem f26_ok (l : List ByteArray) (hl : l.length ≤ 100000) (s : ByteArray) : FnOK Tryd.prog 26 [] [eStrs l, eStr s] [] (eBool (hasW l s)) := by
  rw [← idxI_mem]
  refine FnOK.startC (rvs := [.tmp 4]) G G_good Tryd.func26 rfl Tryd.ntmps26 rfl rfl ?_; delta List.toArray; ((with_reducible conv => whnf); (with_reducible conv => congr <;> reduce); repeat ((first | (with_reducible refine HaltK.mk ?_) | (with_reducible refine StopK.mk ?_)); (with_reducible conv => whnf); (with_reducible conv => congr <;> reduce)))
  refine CallK.lit [] (f32_ok l hl s) c32 ⟨rfl, rfl, trivial⟩ rfl rfl ?_; ((with_reducible conv => whnf); (with_reducible conv => congr <;> reduce); repeat ((first | (with_reducible refine HaltK.mk ?_) | (with_reducible refine StopK.mk ?_)); (with_reducible conv => whnf); (with_reducible conv => congr <;> reduce)))
  refine ⟨⟨rfl, rfl⟩, ?_, ?_⟩ <;> (with_reducible conv => whnf) <;> repeat' (first | (with_reducible exact trivial) | (with_reducible refine And.intro ?_ ?_ <;> with_reducible conv => whnf))
def strB (l : List UInt8) : ByteArray := ⟨l.toArray⟩
def resL : List ByteArray := [strB [97, 110, 110, 111, 116, 97, 116, 105, 111, 110, 45, 120, 109, 108], strB [99, 111, 108, 111, 114, 45, 112, 114, 111, 102, 105, 108, 101], strB [102, 111, 110, 116, 45, 102, 97, 99, 101], strB [102, 111, 110, 116, 45, 102, 97, 99, 101, 45, 115, 114, 99],
  strB [102, 111, 110, 116, 45, 102, 97, 99, 101, 45, 117, 114, 105], strB [102, 111, 110, 116, 45, 102, 97, 99, 101, 45, 102, 111, 114, 109, 97, 116], strB [102, 111, 110, 116, 45, 102, 97, 99, 101, 45, 110, 97, 109, 101], strB [109, 105, 115, 115, 105, 110, 103, 45, 103, 108, 121, 112, 104]]
/-- reserved -/
theorem f27_ok : FnOK Tryd.prog 27 [] [] [rStrs resL] (.own 0 0 8) := by
  refine FnOK.startC (rvs := [.tmp 0]) G G_good Tryd.func27 rfl Tryd.ntmps27 rfl rfl ?_; delta List.toArray; ((with_reducible conv => whnf); (with_reducible conv => congr <;> reduce); repeat ((first | (with_reducible refine HaltK.mk ?_) | (with_reducible refine StopK.mk ?_)); (with_reducible conv => whnf); (with_reducible conv => congr <;> reduce)))
  refine ⟨⟨rfl, rfl⟩, ?_, ?_⟩ <;> (with_reducible conv => whnf) <;> repeat' (first | (with_reducible exact trivial) | (with_reducible refine And.intro ?_ ?_ <;> with_reducible conv => whnf))
  all_goals first | rfl | exact MFL_refl (noRef_strs resL)
/-- strings.Contains at "-" -/
theorem f25_ok (s : ByteArray) (c : UInt8) : FnOK Tryd.prog 25 [] [eStr s, eStr ⟨#[c]⟩] [] (eBool (decide (0 ≤ Lib.indexByte s.data.toList c))) :=
  FnOK.of_calls (vs := [.string s, .string ⟨#[c]⟩]) (v := .bool _) fun w _ => (Go.Proofs.Tryd.strings_Contains_one s c w).mono fun e w' ⟨h1, h2⟩ => ⟨h1, by rw [h2]; exact Below.refl _ w⟩
end Go.Proofs.NameD
end
section
namespace Go.Proofs.NameD
open Go.Am Go.RowKit Go.Lib
set_option maxRecDepth 100000
/-- Words with blanks between. -/
def segsGo (cur : List UInt8) : List UInt8 → List (List UInt8)
  | [] => [cur]
  | c :: r => if c = 32 then cur :: segsGo [] r else segsGo (cur ++ [c]) r
def isW (s : ByteArray) (g : List UInt8) : Bool := decide (strOf g = s)
def oneW (s : ByteArray) (ws : List UInt8) : Bool := (segsGo [] ws).any (isW s)
theorem cut_strOf (s : ByteArray) (a b : Nat) : s.extract a b = strOf ((s.data.toList.take b).drop a) := by
  obtain ⟨l, rfl⟩ : ∃ l : List UInt8, s = ⟨l.toArray⟩ := ⟨s.data.toList, by obtain ⟨⟨l⟩⟩ := s; rfl⟩
  rw [ByteArray.extract_mk]
  unfold strOf
  rw [List.drop_take]
theorem seg_next {l : List UInt8} {i : Nat} {c : UInt8} (h : l[i]? = some c) (cur : List UInt8) : segsGo cur (l.drop i) = if c = 32 then cur :: segsGo [] (l.drop (i + 1)) else segsGo (cur ++ [c]) (l.drop (i + 1)) := by
  have hk := (List.getElem?_eq_some_iff.1 h).1
  rw [List.drop_eq_getElem_cons hk, (List.getElem?_eq_some_iff.1 h).2]; rfl
theorem cur_next {l : List UInt8} {i a : Nat} {c : UInt8} (h : l[i]? = some c) (ha : a ≤ i) : (l.take (i + 1)).drop a = (l.take i).drop a ++ [c] := by
  have hk := (List.getElem?_eq_some_iff.1 h).1
  rw [List.take_succ_eq_append_getElem hk, (List.getElem?_eq_some_iff.1 h).2, List.drop_append_of_le_length (by simp; omega)]
structure OneI (s : ByteArray) (l : List UInt8) (i a : Nat) : Prop where
  le : a ≤ i
  hi : i ≤ l.length + 1
  mid : i ≤ l.length → oneW s l = (segsGo ((l.take i).drop a) (l.drop i)).any (isW s)
  fin : l.length < i → oneW s l = false
theorem is_32 {c : UInt8} : decide ((c.toNat : Int) = 32) = decide (c = 32) := by
  rw [decide_eq_decide]
  constructor
  · intro h
    have : c.toNat = (32 : UInt8).toNat := by have : (32 : UInt8).toNat = 32 := rfl
                                              omega
    exact UInt8.toNat_inj.1 this
  · rintro rfl; rfl
/-- One of some words. -/
theorem f28_ok (s w : ByteArray) (hw : w.size ≤ 100000) : FnOK Tryd.prog 28 [] [eStr s, eStr w] [] (eBool (oneW s w.data.toList)) := by
  have hsz : w.size = w.data.toList.length := size_len w
  have hcut := cut_strOf w
  obtain ⟨l, hl⟩ : ∃ l, w.data.toList = l := ⟨_, rfl⟩
  rw [hl] at hsz hcut ⊢
  refine FnOK.startC (rvs := [.tmp 4]) G G_good Tryd.func28 rfl Tryd.ntmps28 rfl rfl ?_; delta List.toArray; ((with_reducible conv => whnf); (with_reducible conv => congr <;> reduce); repeat ((first | (with_reducible refine HaltK.mk ?_) | (with_reducible refine StopK.mk ?_)); (with_reducible conv => whnf); (with_reducible conv => congr <;> reduce)))
  refine LoopK.use G G_good (fun (p : Nat × Nat) => [(0, eStr s), (1, eStr w), (5, eInt p.2), (6, eInt p.1)]) (fun _ => []) (fun p => OneI s l p.1 p.2) (fun p => l.length + 1 - p.1) (0, 0) ⟨Nat.le_refl _, Nat.zero_le _, fun _ => rfl, fun h => by omega⟩
    ⟨⟨rfl, rfl⟩, ⟨rfl, rfl, rfl, rfl, trivial⟩, trivial⟩ ?_
  rintro ⟨i, a⟩ hI
  have h1 := hI.le
  have h2 := hI.hi
  simp only at h1 h2
  ((with_reducible conv => whnf); (with_reducible conv => congr <;> reduce); repeat ((first | (with_reducible refine HaltK.mk ?_) | (with_reducible refine StopK.mk ?_)); (with_reducible conv => whnf); (with_reducible conv => congr <;> reduce)))
  refine IfK.mk (fun g1 => ?_) (fun g1 => ?_) <;> (try simp only [castN] at g1) <;> ((with_reducible conv => whnf); (with_reducible conv => congr <;> reduce); repeat ((first | (with_reducible refine HaltK.mk ?_) | (with_reducible refine StopK.mk ?_)); (with_reducible conv => whnf); (with_reducible conv => congr <;> reduce)))
  · simp only [decide_eq_true_eq] at g1
    have hil : i ≤ l.length := by omega
    have hm := hI.mid hil
    simp only at hm
    refine IfK.mk (fun g2 => ?_) (fun g2 => ?_) <;> (try simp only [castN] at g2) <;> ((with_reducible conv => whnf); (with_reducible conv => congr <;> reduce); repeat ((first | (with_reducible refine HaltK.mk ?_) | (with_reducible refine StopK.mk ?_)); (with_reducible conv => whnf); (with_reducible conv => congr <;> reduce)))
    · simp only [decide_eq_true_eq] at g2
      have hie : i = l.length := by omega
      have hd : l.drop i = [] := by rw [hie]; exact List.drop_length
      rw [hd] at hm
      refine IfK.tt ?_; ((with_reducible conv => whnf); (with_reducible conv => congr <;> reduce); repeat ((first | (with_reducible refine HaltK.mk ?_) | (with_reducible refine StopK.mk ?_)); (with_reducible conv => whnf); (with_reducible conv => congr <;> reduce)))
      refine CutSK.mk a i rfl rfl h1 (by show i ≤ w.size; omega) ?_; ((with_reducible conv => whnf); (with_reducible conv => congr <;> reduce); repeat ((first | (with_reducible refine HaltK.mk ?_) | (with_reducible refine StopK.mk ?_)); (with_reducible conv => whnf); (with_reducible conv => congr <;> reduce)))
      rw [hcut]
      refine IfK.mk (fun g3 => ?_) (fun g3 => ?_) <;> (try simp only [castN] at g3) <;> ((with_reducible conv => whnf); (with_reducible conv => congr <;> reduce); repeat ((first | (with_reducible refine HaltK.mk ?_) | (with_reducible refine StopK.mk ?_)); (with_reducible conv => whnf); (with_reducible conv => congr <;> reduce)))
      · refine ⟨⟨rfl, rfl⟩, ?_, ?_⟩ <;> (with_reducible conv => whnf) <;> repeat' (first | (with_reducible exact trivial) | (with_reducible refine And.intro ?_ ?_ <;> with_reducible conv => whnf))
        rw [hm]
        simp only [segsGo, List.any_cons, List.any_nil, Bool.or_false, isW]
        simpa using g3
      · refine NeedK.mk (by (try simp only [castN]); omega) ?_; ((with_reducible conv => whnf); (with_reducible conv => congr <;> reduce); repeat ((first | (with_reducible refine HaltK.mk ?_) | (with_reducible refine StopK.mk ?_)); (with_reducible conv => whnf); (with_reducible conv => congr <;> reduce)))
        refine NeedK.mk (by (try simp only [castN]); omega) ?_; ((with_reducible conv => whnf); (with_reducible conv => congr <;> reduce); repeat ((first | (with_reducible refine HaltK.mk ?_) | (with_reducible refine StopK.mk ?_)); (with_reducible conv => whnf); (with_reducible conv => congr <;> reduce)))
        refine NextK.mk (i + 1, i + 1) ⟨Nat.le_refl _, by show i + 1 ≤ l.length + 1; omega, fun h => ?_, fun _ => ?_⟩ (by show l.length + 1 - (i + 1) < l.length + 1 - i; omega) ⟨⟨rfl, rfl⟩, ⟨rfl, rfl, by show ((i + 1 : Nat) : Int) = (i : Int) + 1; omega, by show ((i + 1 : Nat) : Int) = (i : Int) + 1; omega, trivial⟩, trivial⟩
        · simp only at h; omega
        · rw [hm]
          simp only [segsGo, List.any_cons, List.any_nil, Bool.or_false, isW]
          simpa using g3
    · have hi2 : i < l.length := by simp only [decide_eq_false_iff_not] at g2; omega
      obtain ⟨c, hc⟩ : ∃ c, l[i]? = some c := ⟨_, List.getElem?_eq_getElem hi2⟩
      refine IdxSK.mk i c rfl (by rw [hl]; exact hc) ?_; ((with_reducible conv => whnf); (with_reducible conv => congr <;> reduce); repeat ((first | (with_reducible refine HaltK.mk ?_) | (with_reducible refine StopK.mk ?_)); (with_reducible conv => whnf); (with_reducible conv => congr <;> reduce)))
      rw [is_32]
      have hsg := seg_next hc ((l.take i).drop a)
      rw [hsg] at hm
      by_cases hb : c = 32
      · rw [if_pos hb] at hm
        refine IfK.yes (by simp [hb]) ?_; ((with_reducible conv => whnf); (with_reducible conv => congr <;> reduce); repeat ((first | (with_reducible refine HaltK.mk ?_) | (with_reducible refine StopK.mk ?_)); (with_reducible conv => whnf); (with_reducible conv => congr <;> reduce)))
        refine CutSK.mk a i rfl rfl h1 (by show i ≤ w.size; omega) ?_; ((with_reducible conv => whnf); (with_reducible conv => congr <;> reduce); repeat ((first | (with_reducible refine HaltK.mk ?_) | (with_reducible refine StopK.mk ?_)); (with_reducible conv => whnf); (with_reducible conv => congr <;> reduce)))
        rw [hcut]
        refine IfK.mk (fun g3 => ?_) (fun g3 => ?_) <;> (try simp only [castN] at g3) <;> ((with_reducible conv => whnf); (with_reducible conv => congr <;> reduce); repeat ((first | (with_reducible refine HaltK.mk ?_) | (with_reducible refine StopK.mk ?_)); (with_reducible conv => whnf); (with_reducible conv => congr <;> reduce)))
        · refine ⟨⟨rfl, rfl⟩, ?_, ?_⟩ <;> (with_reducible conv => whnf) <;> repeat' (first | (with_reducible exact trivial) | (with_reducible refine And.intro ?_ ?_ <;> with_reducible conv => whnf))
          rw [hm]
          simp only [List.any_cons, isW]
          simp at g3
          simp [g3]
        · refine NeedK.mk (by (try simp only [castN]); omega) ?_; ((with_reducible conv => whnf); (with_reducible conv => congr <;> reduce); repeat ((first | (with_reducible refine HaltK.mk ?_) | (with_reducible refine StopK.mk ?_)); (with_reducible conv => whnf); (with_reducible conv => congr <;> reduce)))
          refine NeedK.mk (by (try simp only [castN]); omega) ?_; ((with_reducible conv => whnf); (with_reducible conv => congr <;> reduce); repeat ((first | (with_reducible refine HaltK.mk ?_) | (with_reducible refine StopK.mk ?_)); (with_reducible conv => whnf); (with_reducible conv => congr <;> reduce)))
          refine NextK.mk (i + 1, i + 1) ⟨Nat.le_refl _, by show i + 1 ≤ l.length + 1; omega, fun h => ?_, fun h => ?_⟩ (by show l.length + 1 - (i + 1) < l.length + 1 - i; omega) ⟨⟨rfl, rfl⟩, ⟨rfl, rfl, by show ((i + 1 : Nat) : Int) = (i : Int) + 1; omega, by show ((i + 1 : Nat) : Int) = (i : Int) + 1; omega, trivial⟩, trivial⟩
          · rw [hm]
            simp only [List.any_cons]
            have : isW s ((l.take i).drop a) = false := by unfold isW; simpa using g3
            rw [this, Bool.false_or, show (l.take (i + 1)).drop (i + 1) = [] from List.drop_eq_nil_of_le (by simp; omega)]
          · simp only at h; omega
      · rw [if_neg hb] at hm
        refine IfK.no (by simp [hb]) ?_; ((with_reducible conv => whnf); (with_reducible conv => congr <;> reduce); repeat ((first | (with_reducible refine HaltK.mk ?_) | (with_reducible refine StopK.mk ?_)); (with_reducible conv => whnf); (with_reducible conv => congr <;> reduce)))
        refine NeedK.mk (by (try simp only [castN]); omega) ?_; ((with_reducible conv => whnf); (with_reducible conv => congr <;> reduce); repeat ((first | (with_reducible refine HaltK.mk ?_) | (with_reducible refine StopK.mk ?_)); (with_reducible conv => whnf); (with_reducible conv => congr <;> reduce)))
        refine NextK.mk (i + 1, a) ⟨by show a ≤ i + 1; omega, by show i + 1 ≤ l.length + 1; omega, fun h => ?_, fun h => ?_⟩ (by show l.length + 1 - (i + 1) < l.length + 1 - i; omega) ⟨⟨rfl, rfl⟩, ⟨rfl, rfl, rfl, by show ((i + 1 : Nat) : Int) = (i : Int) + 1; omega, trivial⟩, trivial⟩
        · rw [hm, cur_next hc h1]
        · simp only at h; omega
  · refine ⟨⟨rfl, rfl⟩, ?_, ?_⟩ <;> (with_reducible conv => whnf) <;> repeat' (first | (with_reducible exact trivial) | (with_reducible refine And.intro ?_ ?_ <;> with_reducible conv => whnf))
    exact hI.fin (by simp only [decide_eq_false_iff_not] at g1; show l.length < i; omega)
end Go.Proofs.NameD
end
section
namespace Go.Proofs.NameD
open Go.Am Go.RowKit Go.Lib
set_option maxRecDepth 100000
@[reducible] def knowB : List UInt8 := [97, 32, 98, 32, 98, 117, 116, 116, 111, 110, 32, 100, 105, 118, 32, 102, 105, 101, 108, 100, 115, 101, 116, 32, 102, 111, 114, 109, 32, 105, 32, 105, 110, 112, 117, 116, 32, 108, 97, 98, 101, 108, 32, 108, 101, 103, 101, 110, 100, 32, 108, 105, 32, 111, 112, 116, 105, 111, 110, 32, 111, 117, 116, 112, 117, 116, 32, 112, 32, 115, 101, 108, 101, 99, 116, 32, 115, 112, 97, 110, 32, 116, 101, 109, 112, 108, 97, 116, 101, 32, 116, 101, 120, 116, 97, 114, 101, 97, 32, 117, 108]
def knowL : List ByteArray := (Lib.fields knowB).map strB
theorem knowL_len : (Lib.fields knowB).length = 19 := by decide +kernel
theorem know_ascii : ∀ (j : Nat) b, (ByteArray.mk knowB.toArray).data.toList[j]? = some b → b.toNat < 128 := by
  intro j b h
  have h1 : knowB.all (fun b => decide (b.toNat < 128)) = true := by decide +kernel
  exact of_decide_eq_true (List.all_eq_true.1 h1 b (List.mem_of_getElem? h))
theorem flat_strs (l : List ByteArray) : flat (l.map oStr) = l.map oStr := by
  induction l with
  | nil => rfl
  | cons a r ih => show cells (oStr a) ++ flat (r.map oStr) = _; rw [ih]; rfl
/-- A function of strings and a string, called with strings that lie in memory. -/
theorem FnOK.at_strs {P : Program} {f : FuncId} {l : List ByteArray} {s : ByteArray} {b : Bool} (h : FnOK P f [] [eStrs l, eStr s] [] (eBool b)) {w : World} {blk cap : Nat} {arr : Array Value} {ty : TypeId} {fz : Nat × Nat} (hh : w.heap[blk]? = some (.cells arr ty fz))
    (harr : ∀ (i : Nat) (x : ByteArray), l[i]? = some x → arr[i]? = some (.string x)) (hcap : l.length ≤ cap) (ht : Tabs P w fun _ => none) :
    Calls P f #[.slice (some ⟨blk, 0, none⟩) l.length cap, .string s] w fun e w' => e = .returned (.bool b) ∧ Below w.heap.size w w' := by
  have hW : ∀ b, ¬ Wr (fun _ => False) (fun _ => none) (objsOf []) b := by
    rintro b (h | ⟨t, B, wd, rows, _, h, _⟩)
    · exact h
    · cases h
  have hblk : blk < w.heap.size := (Array.getElem?_eq_some_iff.1 hh).1
  refine (h w (fun _ => False) (fun _ => none) [.slice (some ⟨blk, 0, none⟩) l.length cap, .string s] (fun _ _ => rfl) (sim_start w ht) ⟨rfl, ?_⟩).mono ?_
  · intro j c v h1 h2
    match j with
    | 0 =>
      simp at h1 h2; subst h1; subst h2
      have key : ∀ (q : Nat) (c : AV), (flat (l.map oStr))[q]? = some c → ∃ x, l[q]? = some x ∧ c = eStr x := by
        intro q c hq
        rw [flat_strs, List.getElem?_map] at hq
        cases hx : l[q]? with
        | none => rw [hx] at hq; cases hq
        | some x => rw [hx] at hq; exact ⟨x, rfl, (Option.some.inj hq).symm⟩
      refine .sl (f := fun q => arr.getD q undef) (hW _) hblk (by simp) hcap (fun i r hr => ?_) (fun q c hq => ?_) (fun q c hq => ?_) (fun c hc => ?_)
      · rw [List.getElem?_map] at hr
        cases hx : l[i]? with
        | none => rw [hx] at hr; cases hr
        | some x => rw [hx] at hr; cases hr; rfl
      · obtain ⟨x, hx, rfl⟩ := key q c hq
        have := harr q x hx
        simp [World.cell?, hh, this, Array.getD_eq_getD_getElem?]
      · obtain ⟨x, hx, rfl⟩ := key q c hq
        have := harr q x hx
        simp only [Array.getD_eq_getD_getElem?, this, Option.getD_some]
        exact .lit
      · rw [flat_strs] at hc
        obtain ⟨x, _, rfl⟩ := List.mem_map.1 hc
        rfl
    | 1 => simp at h1 h2; subst h1; subst h2; exact .lit
    | j + 2 => simp at h1
  · rintro e w' ⟨v', μ', rfl, hs, hv⟩
    cases hv
    exact ⟨rfl, hs.os, hs.tape, hs.output, hs.hsize, fun b hb => hs.keep b hb (by rintro ⟨t, B, h, _⟩; cases h)⟩
theorem f29_calls (w : World) (ht : Tabs Tryd.prog w fun _ => none) : Calls Tryd.prog 29 #[] w fun e w' => e = .returned (.slice (some ⟨w.heap.size, 0, none⟩) 19 19) ∧ w' = w.alloc (.cells (knowL.map Value.string).toArray 9) := by
  have hf := Any.strings_Fields_core Go.Proofs.Tryd.lays157 (by kernel_rfl) (ByteArray.mk knowB.toArray) w (by decide) know_ascii (fun c hc => ((ht _ (by kernel_rfl)).2.2 c hc))
  have e1 : (ByteArray.mk knowB.toArray).data.toList = knowB := rfl
  rw [e1, knowL_len, show ((Lib.fields knowB).map fun l => Value.string ⟨l.toArray⟩) = knowL.map Value.string from by unfold knowL; rw [List.map_map]; rfl] at hf
  go_enter Tryd.func29, Tryd.ntmps29
  go_wp2_with (go_at_call 33; refine hf.mono ?_; rintro e w1 ⟨rfl, rfl⟩)
  go_ret
  exact ⟨rfl, rfl⟩
/-- Known -/
theorem f15_ok (s : ByteArray) : FnOK Tryd.prog 15 [] [eStr s] [] (eBool (hasW knowL s)) := by
  refine FnOK.of_calls (vs := [.string s]) (v := .bool (hasW knowL s)) fun w ht => ?_
  have hl : knowL.length = 19 := by unfold knowL; rw [List.length_map, knowL_len]
  have h29 := f29_calls w ht
  have hb : Below w.heap.size w (w.alloc (.cells (knowL.map Value.string).toArray 9)) := (Below.refl _ w).alloc (Nat.le_refl _) _
  have h26 := FnOK.at_strs (f26_ok knowL (by omega) s) (w := w.alloc (.cells (knowL.map Value.string).toArray 9)) (blk := w.heap.size) (cap := 19) (heap_alloc_new w _) (fun i x hx => by simp [hx]) (by omega) (ht.below hb)
  rw [hl] at h26
  go_enter Tryd.func15, Tryd.ntmps15
  go_wp2_with (first
    | (go_at_call 29; refine h29.mono ?_; rintro e w1 ⟨rfl, rfl⟩)
    | (go_at_call 26; refine h26.mono ?_; rintro e w2 ⟨rfl, hb2⟩))
  go_ret
  exact ⟨rfl, hb.trans (hb2.mono hb.size)⟩
end Go.Proofs.NameD
end
section
namespace Go.Proofs.NameD
open Go.Am Go.RowKit Go.Lib
set_option maxRecDepth 100000
@[reducible] def resB : List UInt8 := [97, 110, 110, 111, 116, 97, 116, 105, 111, 110, 45, 120, 109, 108, 32, 99, 111, 108, 111, 114, 45, 112, 114, 111, 102, 105, 108, 101, 32, 102, 111, 110, 116, 45, 102, 97, 99, 101, 32, 102, 111, 110, 116, 45, 102, 97, 99, 101, 45, 115, 114, 99, 32, 102, 111, 110, 116, 45, 102, 97, 99, 101, 45, 117, 114, 105, 32, 102, 111, 110, 116, 45, 102, 97, 99, 101, 45, 102, 111, 114, 109, 97, 116, 32, 102, 111, 110, 116, 45, 102, 97, 99, 101, 45, 110, 97, 109, 101, 32, 109, 105, 115, 115, 105, 110, 103, 45, 103, 108, 121, 112, 104]
def noS' : ByteArray := ⟨#[]⟩
def dashB (l : List UInt8) : Bool := l.any (fun b => decide (b = 45))
def capsB (l : List UInt8) : Bool := l.any (fun b => capC (b.toNat : Int))
def lowFirst : List UInt8 → Bool
  | [] => false
  | b :: _ => smallC (b.toNat : Int)
def customS (s : ByteArray) : Bool := rightS s && (lowFirst s.data.toList && (!capsB s.data.toList && (dashB s.data.toList && !hasW resL s)))
theorem res_words (s : ByteArray) : oneW s resB = hasW resL s := by
  have e : (segsGo [] resB).map strOf = resL := by decide +kernel
  unfold oneW hasW
  rw [← e, List.any_map]
  rfl
theorem know_words (s : ByteArray) : oneW s knowB = hasW knowL s := by
  have e : (segsGo [] knowB).map strOf = knowL := by decide +kernel
  unfold oneW hasW
  rw [← e, List.any_map]
  rfl
theorem dash_index (l : List UInt8) : decide (0 ≤ Lib.indexByte l 45) = dashB l := by
  rw [Bool.eq_iff_iff, decide_eq_true_eq]
  unfold dashB
  rw [List.any_eq_true]
  constructor
  · intro h
    obtain ⟨o, ho⟩ : ∃ o : Nat, Lib.indexByte l 45 = o := ⟨(Lib.indexByte l 45).toNat, by omega⟩
    obtain ⟨h1, _⟩ := Lib.indexByte_some ho
    exact ⟨45, List.mem_of_getElem? h1, rfl⟩
  · rintro ⟨b, hb, e⟩
    have := of_decide_eq_true e; subst this
    rcases Int.lt_or_le (Lib.indexByte l 45) 0 with h | h
    · have : Lib.indexByte l 45 = -1 := by have := Lib.indexByte_ge l 45; omega
      obtain ⟨k, hk⟩ := List.getElem?_of_mem hb
      exact absurd hk (Lib.indexByte_none this k)
    · exact h
/-- Of a text of plain bytes a rune is a byte. -/
theorem idx_plain (p : Nat → Bool) (s : ByteArray) (hs : ∀ b ∈ s.data.toList, b.toNat < 128) : ∀ (f pos : Nat), s.size ≤ pos + f → (0 ≤ idxFuncFrom p true s f pos ↔ ∃ i, pos ≤ i ∧ ∃ b, s.data.toList[i]? = some b ∧ p b.toNat = true)
  | 0, pos, h => by
    have : ¬ (0 : Int) ≤ idxFuncFrom p true s 0 pos := by simp [idxFuncFrom]
    refine ⟨fun h' => absurd h' this, ?_⟩
    rintro ⟨i, h1, b, h2, _⟩
    have := (List.getElem?_eq_some_iff.1 h2).1
    have : i < s.size := this
    omega
  | f + 1, pos, h => by
    by_cases hp : pos < s.size
    · have ih := idx_plain p s hs f
      obtain ⟨b, hb1, hb2⟩ : ∃ b, s.data.toList[pos]? = some b ∧ s.get! pos = b := ⟨_, List.getElem?_eq_getElem hp, by show s.data[pos]! = _; rw [getElem!_pos s.data pos hp]; rfl⟩
      have hb3 := hs b (List.mem_of_getElem? hb1)
      unfold idxFuncFrom
      rw [if_pos hp, decode_at, hb2]
      have hd : ∀ n b1 b2 b3, decodeN n b.toNat b1 b2 b3 = (b.toNat, 1) := fun n b1 b2 b3 => by rw [decodeN, if_pos hb3]
      rw [hd]
      show (0 : Int) ≤ (if p b.toNat = true then (pos : Int) else idxFuncFrom p true s f (pos + 1)) ↔ _
      cases hpb : p b.toNat with
      | true => exact ⟨fun _ => ⟨pos, Nat.le_refl _, b, hb1, hpb⟩, fun _ => by simp⟩
      | false =>
        rw [if_neg (by simp), ih (pos + 1) (by omega)]
        constructor
        · rintro ⟨i, h3, h4⟩; exact ⟨i, by omega, h4⟩
        · rintro ⟨i, h3, b', h4, h5⟩
          rcases Nat.lt_or_ge pos i with h6 | h6
          · exact ⟨i, h6, b', h4, h5⟩
          · have : i = pos := by omega
            subst this
            rw [hb1] at h4; cases h4
            rw [hpb] at h5; cases h5
    · rw [idxFuncFrom_end _ _ _ _ _ hp]
      refine ⟨fun h' => by omega, ?_⟩
      rintro ⟨i, h1, b, h2, _⟩
      have := (List.getElem?_eq_some_iff.1 h2).1
      have : i < s.size := this
      omega
theorem right_plain {s : ByteArray} (h : rightS s = true) : ∀ b ∈ s.data.toList, b.toNat < 128 := by
  intro b hb
  unfold rightS rightL at h
  simp only [Bool.and_eq_true, List.all_eq_true] at h
  have := h.1.2 b hb
  unfold signB signC smallC capC at this
  simp only [Bool.or_eq_true, Bool.and_eq_true, decide_eq_true_eq] at this
  omega
theorem caps_index {s : ByteArray} (h : rightS s = true) : decide (0 ≤ idxFunc (fun r => capC (r : Int)) true s) = capsB s.data.toList := by
  rw [Bool.eq_iff_iff, decide_eq_true_eq]
  unfold capsB
  rw [List.any_eq_true]
  have := idx_plain (fun r => capC (r : Int)) s (right_plain h) s.size 0 (by omega)
  refine Iff.trans this ⟨?_, ?_⟩
  · rintro ⟨i, _, b, h1, h2⟩; exact ⟨b, List.mem_of_getElem? h1, h2⟩
  · rintro ⟨b, h1, h2⟩
    obtain ⟨i, hi⟩ := List.getElem?_of_mem h1
    exact ⟨i, Nat.zero_le _, b, hi, h2⟩
theorem f20c_ok (s : ByteArray) (h : rightS s = true) : FnOK Tryd.prog 20 [] [eStr s, .lit (.func (.func 24) #[] #[])] [] (eBool (capsB s.data.toList)) := by
  rw [← caps_index h]
  exact FnOK.of_calls (vs := [.string s, .func (.func 24) #[] #[]]) fun w ht => f20_calls 24 c24 (fun r => capC (r : Int)) s w ht fun W x ht _ => (f24_ok (x : Int)).below (vs := [.int .i32 (x : Int)]) W ht
theorem right_first {s : ByteArray} (h : rightS s = true) : ∃ b r, s.data.toList = b :: r := by
  unfold rightS rightL at h
  simp only [Bool.and_eq_true, decide_eq_true_eq] at h
  obtain ⟨b, r, e, _⟩ := first_get h.1.1.1
  exact ⟨b, r, e⟩
/-- Custom -/
theorem f13_ok (s : ByteArray) : FnOK Tryd.prog 13 [] [eStr s] [] (eBool (customS s)) := by
  refine FnOK.startC (rvs := [.tmp 2]) G G_good Tryd.func13 rfl Tryd.ntmps13 rfl rfl ?_; delta List.toArray; ((with_reducible conv => whnf); (with_reducible conv => congr <;> reduce); repeat ((first | (with_reducible refine HaltK.mk ?_) | (with_reducible refine StopK.mk ?_)); (with_reducible conv => whnf); (with_reducible conv => congr <;> reduce)))
  refine CallK.lit [] (f12_ok s) c12 ⟨rfl, trivial⟩ rfl rfl ?_; ((with_reducible conv => whnf); (with_reducible conv => congr <;> reduce); repeat ((first | (with_reducible refine HaltK.mk ?_) | (with_reducible refine StopK.mk ?_)); (with_reducible conv => whnf); (with_reducible conv => congr <;> reduce)))
  unfold customS
  cases hr : rightS s with
  | false =>
    repeat' (first
    | ((with_reducible show IfK _ _ _ _); first
      | (refine IfK.yes (by assumption) ?_; ((with_reducible conv => whnf); (with_reducible conv => congr <;> reduce); repeat ((first | (with_reducible refine HaltK.mk ?_) | (with_reducible refine StopK.mk ?_)); (with_reducible conv => whnf); (with_reducible conv => congr <;> reduce))))
      | (refine IfK.no (by assumption) ?_; ((with_reducible conv => whnf); (with_reducible conv => congr <;> reduce); repeat ((first | (with_reducible refine HaltK.mk ?_) | (with_reducible refine StopK.mk ?_)); (with_reducible conv => whnf); (with_reducible conv => congr <;> reduce))))
      | (with_reducible refine IfK.yes Bool.not_false ?_; ((with_reducible conv => whnf); (with_reducible conv => congr <;> reduce); repeat ((first | (with_reducible refine HaltK.mk ?_) | (with_reducible refine StopK.mk ?_)); (with_reducible conv => whnf); (with_reducible conv => congr <;> reduce))))
      | (with_reducible refine IfK.no Bool.not_true ?_; ((with_reducible conv => whnf); (with_reducible conv => congr <;> reduce); repeat ((first | (with_reducible refine HaltK.mk ?_) | (with_reducible refine StopK.mk ?_)); (with_reducible conv => whnf); (with_reducible conv => congr <;> reduce))))
      | (with_reducible refine IfK.yes (nf (by assumption)) ?_; ((with_reducible conv => whnf); (with_reducible conv => congr <;> reduce); repeat ((first | (with_reducible refine HaltK.mk ?_) | (with_reducible refine StopK.mk ?_)); (with_reducible conv => whnf); (with_reducible conv => congr <;> reduce))))
      | (with_reducible refine IfK.no (nt (by assumption)) ?_; ((with_reducible conv => whnf); (with_reducible conv => congr <;> reduce); repeat ((first | (with_reducible refine HaltK.mk ?_) | (with_reducible refine StopK.mk ?_)); (with_reducible conv => whnf); (with_reducible conv => congr <;> reduce))))
      | (with_reducible refine IfK.tt ?_; ((with_reducible conv => whnf); (with_reducible conv => congr <;> reduce); repeat ((first | (with_reducible refine HaltK.mk ?_) | (with_reducible refine StopK.mk ?_)); (with_reducible conv => whnf); (with_reducible conv => congr <;> reduce))))
      | (with_reducible refine IfK.ff ?_; ((with_reducible conv => whnf); (with_reducible conv => congr <;> reduce); repeat ((first | (with_reducible refine HaltK.mk ?_) | (with_reducible refine StopK.mk ?_)); (with_reducible conv => whnf); (with_reducible conv => congr <;> reduce))))
      | (refine IfK.mk (fun _ => ?_) (fun _ => ?_) <;> ((with_reducible conv => whnf); (with_reducible conv => congr <;> reduce); repeat ((first | (with_reducible refine HaltK.mk ?_) | (with_reducible refine StopK.mk ?_)); (with_reducible conv => whnf); (with_reducible conv => congr <;> reduce)))))
    | ((with_reducible show (_ ∧ _) ∧ _ ∧ _); refine ⟨⟨rfl, rfl⟩, ?_, ?_⟩ <;> (with_reducible conv => whnf) <;> repeat' (first | (with_reducible exact trivial) | (with_reducible refine And.intro ?_ ?_ <;> with_reducible conv => whnf))))
    all_goals rfl
  | true =>
    obtain ⟨b, r, hb⟩ := right_first hr
    have hb0 : s.data.toList[0]? = some b := by rw [hb]; rfl
    have hlf : lowFirst s.data.toList = smallC (b.toNat : Int) := by rw [hb]; rfl
    have hda := dash_index s.data.toList
    have f25 := f25_ok s 45
    rw [hda] at f25
    refine IfK.tt ?_; ((with_reducible conv => whnf); (with_reducible conv => congr <;> reduce); repeat ((first | (with_reducible refine HaltK.mk ?_) | (with_reducible refine StopK.mk ?_)); (with_reducible conv => whnf); (with_reducible conv => congr <;> reduce)))
    refine IdxSK.mk 0 b rfl hb0 ?_; ((with_reducible conv => whnf); (with_reducible conv => congr <;> reduce); repeat ((first | (with_reducible refine HaltK.mk ?_) | (with_reducible refine StopK.mk ?_)); (with_reducible conv => whnf); (with_reducible conv => congr <;> reduce)))
    refine ConvK.int (by kernel_rfl) (by kernel_rfl) (u8_i32 _) ?_; ((with_reducible conv => whnf); (with_reducible conv => congr <;> reduce); repeat ((first | (with_reducible refine HaltK.mk ?_) | (with_reducible refine StopK.mk ?_)); (with_reducible conv => whnf); (with_reducible conv => congr <;> reduce)))
    refine CallK.lit [] (f23_ok _) c23 ⟨rfl, trivial⟩ rfl rfl ?_; ((with_reducible conv => whnf); (with_reducible conv => congr <;> reduce); repeat ((first | (with_reducible refine HaltK.mk ?_) | (with_reducible refine StopK.mk ?_)); (with_reducible conv => whnf); (with_reducible conv => congr <;> reduce)))
    repeat' (first
    | ((with_reducible show IfK _ _ _ _); first
      | (refine IfK.yes (by assumption) ?_; ((with_reducible conv => whnf); (with_reducible conv => congr <;> reduce); repeat ((first | (with_reducible refine HaltK.mk ?_) | (with_reducible refine StopK.mk ?_)); (with_reducible conv => whnf); (with_reducible conv => congr <;> reduce))))
      | (refine IfK.no (by assumption) ?_; ((with_reducible conv => whnf); (with_reducible conv => congr <;> reduce); repeat ((first | (with_reducible refine HaltK.mk ?_) | (with_reducible refine StopK.mk ?_)); (with_reducible conv => whnf); (with_reducible conv => congr <;> reduce))))
      | (with_reducible refine IfK.yes Bool.not_false ?_; ((with_reducible conv => whnf); (with_reducible conv => congr <;> reduce); repeat ((first | (with_reducible refine HaltK.mk ?_) | (with_reducible refine StopK.mk ?_)); (with_reducible conv => whnf); (with_reducible conv => congr <;> reduce))))
      | (with_reducible refine IfK.no Bool.not_true ?_; ((with_reducible conv => whnf); (with_reducible conv => congr <;> reduce); repeat ((first | (with_reducible refine HaltK.mk ?_) | (with_reducible refine StopK.mk ?_)); (with_reducible conv => whnf); (with_reducible conv => congr <;> reduce))))
      | (with_reducible refine IfK.yes (nf (by assumption)) ?_; ((with_reducible conv => whnf); (with_reducible conv => congr <;> reduce); repeat ((first | (with_reducible refine HaltK.mk ?_) | (with_reducible refine StopK.mk ?_)); (with_reducible conv => whnf); (with_reducible conv => congr <;> reduce))))
      | (with_reducible refine IfK.no (nt (by assumption)) ?_; ((with_reducible conv => whnf); (with_reducible conv => congr <;> reduce); repeat ((first | (with_reducible refine HaltK.mk ?_) | (with_reducible refine StopK.mk ?_)); (with_reducible conv => whnf); (with_reducible conv => congr <;> reduce))))
      | (with_reducible refine IfK.tt ?_; ((with_reducible conv => whnf); (with_reducible conv => congr <;> reduce); repeat ((first | (with_reducible refine HaltK.mk ?_) | (with_reducible refine StopK.mk ?_)); (with_reducible conv => whnf); (with_reducible conv => congr <;> reduce))))
      | (with_reducible refine IfK.ff ?_; ((with_reducible conv => whnf); (with_reducible conv => congr <;> reduce); repeat ((first | (with_reducible refine HaltK.mk ?_) | (with_reducible refine StopK.mk ?_)); (with_reducible conv => whnf); (with_reducible conv => congr <;> reduce))))
      | (refine IfK.mk (fun _ => ?_) (fun _ => ?_) <;> ((with_reducible conv => whnf); (with_reducible conv => congr <;> reduce); repeat ((first | (with_reducible refine HaltK.mk ?_) | (with_reducible refine StopK.mk ?_)); (with_reducible conv => whnf); (with_reducible conv => congr <;> reduce)))))
    | ((with_reducible show CallK _ _ 20 _ _ _ _); refine CallK.lit [] (f20c_ok s hr) c20 ⟨rfl, ⟨rfl, rfl⟩, trivial⟩ rfl rfl ?_; ((with_reducible conv => whnf); (with_reducible conv => congr <;> reduce); repeat ((first | (with_reducible refine HaltK.mk ?_) | (with_reducible refine StopK.mk ?_)); (with_reducible conv => whnf); (with_reducible conv => congr <;> reduce))))
    | ((with_reducible show CallK _ _ 25 _ _ _ _); refine CallK.lit [] f25 c25 ⟨rfl, rfl, trivial⟩ rfl rfl ?_; ((with_reducible conv => whnf); (with_reducible conv => congr <;> reduce); repeat ((first | (with_reducible refine HaltK.mk ?_) | (with_reducible refine StopK.mk ?_)); (with_reducible conv => whnf); (with_reducible conv => congr <;> reduce))))
    | ((with_reducible show CallK _ _ 27 _ _ _ _); refine CallK.new 211 [] f27_ok c27 trivial rfl rfl rfl (strs_outs resL) rfl ?_; ((with_reducible conv => whnf); (with_reducible conv => congr <;> reduce); repeat ((first | (with_reducible refine HaltK.mk ?_) | (with_reducible refine StopK.mk ?_)); (with_reducible conv => whnf); (with_reducible conv => congr <;> reduce))))
    | ((with_reducible show CallK _ _ 26 _ _ _ _); refine CallK.lit [211] (f26_ok resL (by decide) s) c26 ⟨frz_strs rfl rfl rfl rfl, rfl, trivial⟩ rfl rfl ?_; ((with_reducible conv => whnf); (with_reducible conv => congr <;> reduce); repeat ((first | (with_reducible refine HaltK.mk ?_) | (with_reducible refine StopK.mk ?_)); (with_reducible conv => whnf); (with_reducible conv => congr <;> reduce))))
    | ((with_reducible show (_ ∧ _) ∧ _ ∧ _); refine ⟨⟨rfl, rfl⟩, ?_, ?_⟩ <;> (with_reducible conv => whnf) <;> repeat' (first | (with_reducible exact trivial) | (with_reducible refine And.intro ?_ ?_ <;> with_reducible conv => whnf))))
    all_goals (rw [hlf]; clear hb hb0 hda f25 hlf; rw [show s.data.toList = s.1.1 from rfl]; simp_all)
/-! ### the reference's -/
theorem lowL_id (l : List UInt8) : lowL l = l ↔ capsB l = false := by
  unfold capsB
  induction l with
  | nil => simp [lowL]
  | cons c r ih =>
    have hc : lowB c = c ↔ capC (c.toNat : Int) = false := by
      unfold lowB
      cases h : capC (c.toNat : Int) with
      | false => simp
      | true =>
        simp only [if_true, Bool.true_eq_false, iff_false]
        intro e
        have : (c + 32).toNat = c.toNat := by rw [e]
        rw [UInt8.toNat_add] at this
        have h3 := UInt8.toNat_lt c
        have : (32 : UInt8).toNat = 32 := rfl
        omega
    simp only [lowL, List.map_cons, List.cons.injEq, List.any_cons, Bool.or_eq_false_iff]
    rw [hc]
    exact and_congr_right fun _ => ih
theorem lowS_id (s : ByteArray) : lowS s = s ↔ capsB s.data.toList = false := by
  rw [← lowL_id]
  constructor
  · intro h
    have : (lowS s).data.toList = s.data.toList := by rw [h]
    exact this
  · intro h
    unfold lowS
    rw [h]
theorem first_kind {s : ByteArray} {b : UInt8} {r : List UInt8} (hr : rightS s = true) (hb : s.data.toList = b :: r) (hc : capsB s.data.toList = false) : smallC (b.toNat : Int) = !decide (b = 95) := by
  unfold rightS rightL at hr
  rw [hb] at hr hc
  unfold capsB at hc
  simp only [List.any_cons, Bool.or_eq_false_iff] at hc
  simp only [Bool.and_eq_true, firstB, hc.1, Bool.or_false, Bool.or_eq_true, decide_eq_true_eq] at hr
  rcases hr.2 with h | h
  · rw [h]
    symm
    rw [Bool.not_eq_true', decide_eq_false_iff_not]
    rintro rfl
    revert h; decide
  · have : b = 95 := by
      have e : b.toNat = (95 : UInt8).toNat := by
        have : (95 : UInt8).toNat = 95 := rfl
        omega
      exact UInt8.toNat_inj.1 e
    subst this; decide
theorem is_n {c d : UInt8} : decide ((c.toNat : Int) = (d.toNat : Int)) = decide (c = d) := by
  rw [decide_eq_decide]
  exact ⟨fun h => UInt8.toNat_inj.1 (by omega), fun h => by rw [h]⟩
theorem f28r_ok (s : ByteArray) : FnOK Tryd.prog 28 [] [eStr s, eStr ⟨resB.toArray⟩] [] (eBool (hasW resL s)) := by
  rw [← res_words]; exact f28_ok s ⟨resB.toArray⟩ (by decide)
theorem f28k_ok (s : ByteArray) : FnOK Tryd.prog 28 [] [eStr s, eStr ⟨knowB.toArray⟩] [] (eBool (hasW knowL s)) := by
  rw [← know_words]; exact f28_ok s ⟨knowB.toArray⟩ (by decide)
theorem f14_ok (s : ByteArray) (hs : s.size ≤ 100000) : FnOK Tryd.prog 14 [] [eStr s] [] (eBool (customS s)) := by
  have hsz : s.size = s.data.toList.length := size_len s
  refine FnOK.startC (rvs := [.tmp 2]) G G_good Tryd.func14 rfl Tryd.ntmps14 rfl rfl ?_; delta List.toArray; ((with_reducible conv => whnf); (with_reducible conv => congr <;> reduce); repeat ((first | (with_reducible refine HaltK.mk ?_) | (with_reducible refine StopK.mk ?_)); (with_reducible conv => whnf); (with_reducible conv => congr <;> reduce)))
  refine CallK.lit [] (f10_ok s) c10 ⟨rfl, trivial⟩ rfl rfl ?_; ((with_reducible conv => whnf); (with_reducible conv => congr <;> reduce); repeat ((first | (with_reducible refine HaltK.mk ?_) | (with_reducible refine StopK.mk ?_)); (with_reducible conv => whnf); (with_reducible conv => congr <;> reduce)))
  cases hr : rightS s with
  | false =>
    have e : customS s = false := by unfold customS; rw [hr]; rfl
    rw [e]
    repeat' (first
    | ((with_reducible show IfK _ _ _ _); first
      | (refine IfK.yes (by assumption) ?_; ((with_reducible conv => whnf); (with_reducible conv => congr <;> reduce); repeat ((first | (with_reducible refine HaltK.mk ?_) | (with_reducible refine StopK.mk ?_)); (with_reducible conv => whnf); (with_reducible conv => congr <;> reduce))))
      | (refine IfK.no (by assumption) ?_; ((with_reducible conv => whnf); (with_reducible conv => congr <;> reduce); repeat ((first | (with_reducible refine HaltK.mk ?_) | (with_reducible refine StopK.mk ?_)); (with_reducible conv => whnf); (with_reducible conv => congr <;> reduce))))
      | (with_reducible refine IfK.yes Bool.not_false ?_; ((with_reducible conv => whnf); (with_reducible conv => congr <;> reduce); repeat ((first | (with_reducible refine HaltK.mk ?_) | (with_reducible refine StopK.mk ?_)); (with_reducible conv => whnf); (with_reducible conv => congr <;> reduce))))
      | (with_reducible refine IfK.no Bool.not_true ?_; ((with_reducible conv => whnf); (with_reducible conv => congr <;> reduce); repeat ((first | (with_reducible refine HaltK.mk ?_) | (with_reducible refine StopK.mk ?_)); (with_reducible conv => whnf); (with_reducible conv => congr <;> reduce))))
      | (with_reducible refine IfK.yes (nf (by assumption)) ?_; ((with_reducible conv => whnf); (with_reducible conv => congr <;> reduce); repeat ((first | (with_reducible refine HaltK.mk ?_) | (with_reducible refine StopK.mk ?_)); (with_reducible conv => whnf); (with_reducible conv => congr <;> reduce))))
      | (with_reducible refine IfK.no (nt (by assumption)) ?_; ((with_reducible conv => whnf); (with_reducible conv => congr <;> reduce); repeat ((first | (with_reducible refine HaltK.mk ?_) | (with_reducible refine StopK.mk ?_)); (with_reducible conv => whnf); (with_reducible conv => congr <;> reduce))))
      | (with_reducible refine IfK.tt ?_; ((with_reducible conv => whnf); (with_reducible conv => congr <;> reduce); repeat ((first | (with_reducible refine HaltK.mk ?_) | (with_reducible refine StopK.mk ?_)); (with_reducible conv => whnf); (with_reducible conv => congr <;> reduce))))
      | (with_reducible refine IfK.ff ?_; ((with_reducible conv => whnf); (with_reducible conv => congr <;> reduce); repeat ((first | (with_reducible refine HaltK.mk ?_) | (with_reducible refine StopK.mk ?_)); (with_reducible conv => whnf); (with_reducible conv => congr <;> reduce))))
      | (refine IfK.mk (fun _ => ?_) (fun _ => ?_) <;> ((with_reducible conv => whnf); (with_reducible conv => congr <;> reduce); repeat ((first | (with_reducible refine HaltK.mk ?_) | (with_reducible refine StopK.mk ?_)); (with_reducible conv => whnf); (with_reducible conv => congr <;> reduce)))))
    | ((with_reducible show (_ ∧ _) ∧ _ ∧ _); refine ⟨⟨rfl, rfl⟩, ?_, ?_⟩ <;> (with_reducible conv => whnf) <;> repeat' (first | (with_reducible exact trivial) | (with_reducible refine And.intro ?_ ?_ <;> with_reducible conv => whnf))))
  | true =>
    obtain ⟨b, r, hb⟩ := right_first hr
    have hb0 : s.data.toList[0]? = some b := by rw [hb]; rfl
    refine IfK.ff ?_; ((with_reducible conv => whnf); (with_reducible conv => congr <;> reduce); repeat ((first | (with_reducible refine HaltK.mk ?_) | (with_reducible refine StopK.mk ?_)); (with_reducible conv => whnf); (with_reducible conv => congr <;> reduce)))
    refine CallK.lit [] (f11_ok s hs) c11 ⟨rfl, trivial⟩ rfl rfl ?_; ((with_reducible conv => whnf); (with_reducible conv => congr <;> reduce); repeat ((first | (with_reducible refine HaltK.mk ?_) | (with_reducible refine StopK.mk ?_)); (with_reducible conv => whnf); (with_reducible conv => congr <;> reduce)))
    have hlf : lowFirst s.data.toList = smallC (b.toNat : Int) := by rw [hb]; rfl
    cases hc : capsB s.data.toList with
    | true =>
      have e : customS s = false := by unfold customS; rw [hc]; simp
      have hne : ¬ s = lowS s := fun h => by rw [(lowS_id s).1 h.symm] at hc; cases hc
      rw [e]
      refine IfK.yes (by simp [hne]) ?_; ((with_reducible conv => whnf); (with_reducible conv => congr <;> reduce); repeat ((first | (with_reducible refine HaltK.mk ?_) | (with_reducible refine StopK.mk ?_)); (with_reducible conv => whnf); (with_reducible conv => congr <;> reduce)))
      repeat' (first
    | ((with_reducible show IfK _ _ _ _); first
      | (refine IfK.yes (by assumption) ?_; ((with_reducible conv => whnf); (with_reducible conv => congr <;> reduce); repeat ((first | (with_reducible refine HaltK.mk ?_) | (with_reducible refine StopK.mk ?_)); (with_reducible conv => whnf); (with_reducible conv => congr <;> reduce))))
      | (refine IfK.no (by assumption) ?_; ((with_reducible conv => whnf); (with_reducible conv => congr <;> reduce); repeat ((first | (with_reducible refine HaltK.mk ?_) | (with_reducible refine StopK.mk ?_)); (with_reducible conv => whnf); (with_reducible conv => congr <;> reduce))))
      | (with_reducible refine IfK.yes Bool.not_false ?_; ((with_reducible conv => whnf); (with_reducible conv => congr <;> reduce); repeat ((first | (with_reducible refine HaltK.mk ?_) | (with_reducible refine StopK.mk ?_)); (with_reducible conv => whnf); (with_reducible conv => congr <;> reduce))))
      | (with_reducible refine IfK.no Bool.not_true ?_; ((with_reducible conv => whnf); (with_reducible conv => congr <;> reduce); repeat ((first | (with_reducible refine HaltK.mk ?_) | (with_reducible refine StopK.mk ?_)); (with_reducible conv => whnf); (with_reducible conv => congr <;> reduce))))
      | (with_reducible refine IfK.yes (nf (by assumption)) ?_; ((with_reducible conv => whnf); (with_reducible conv => congr <;> reduce); repeat ((first | (with_reducible refine HaltK.mk ?_) | (with_reducible refine StopK.mk ?_)); (with_reducible conv => whnf); (with_reducible conv => congr <;> reduce))))
      | (with_reducible refine IfK.no (nt (by assumption)) ?_; ((with_reducible conv => whnf); (with_reducible conv => congr <;> reduce); repeat ((first | (with_reducible refine HaltK.mk ?_) | (with_reducible refine StopK.mk ?_)); (with_reducible conv => whnf); (with_reducible conv => congr <;> reduce))))
      | (with_reducible refine IfK.tt ?_; ((with_reducible conv => whnf); (with_reducible conv => congr <;> reduce); repeat ((first | (with_reducible refine HaltK.mk ?_) | (with_reducible refine StopK.mk ?_)); (with_reducible conv => whnf); (with_reducible conv => congr <;> reduce))))
      | (with_reducible refine IfK.ff ?_; ((with_reducible conv => whnf); (with_reducible conv => congr <;> reduce); repeat ((first | (with_reducible refine HaltK.mk ?_) | (with_reducible refine StopK.mk ?_)); (with_reducible conv => whnf); (with_reducible conv => congr <;> reduce))))
      | (refine IfK.mk (fun _ => ?_) (fun _ => ?_) <;> ((with_reducible conv => whnf); (with_reducible conv => congr <;> reduce); repeat ((first | (with_reducible refine HaltK.mk ?_) | (with_reducible refine StopK.mk ?_)); (with_reducible conv => whnf); (with_reducible conv => congr <;> reduce)))))
    | ((with_reducible show (_ ∧ _) ∧ _ ∧ _); refine ⟨⟨rfl, rfl⟩, ?_, ?_⟩ <;> (with_reducible conv => whnf) <;> repeat' (first | (with_reducible exact trivial) | (with_reducible refine And.intro ?_ ?_ <;> with_reducible conv => whnf))))
    | false =>
      have hfk := first_kind hr hb hc
      have heq : s = lowS s := ((lowS_id s).2 hc).symm
      refine IfK.no (by simp [← heq]) ?_; ((with_reducible conv => whnf); (with_reducible conv => congr <;> reduce); repeat ((first | (with_reducible refine HaltK.mk ?_) | (with_reducible refine StopK.mk ?_)); (with_reducible conv => whnf); (with_reducible conv => congr <;> reduce)))
      refine IdxSK.mk 0 b rfl hb0 ?_; ((with_reducible conv => whnf); (with_reducible conv => congr <;> reduce); repeat ((first | (with_reducible refine HaltK.mk ?_) | (with_reducible refine StopK.mk ?_)); (with_reducible conv => whnf); (with_reducible conv => congr <;> reduce)))
      rw [show decide ((b.toNat : Int) = 95) = decide (b = 95) from is_n (d := 95)]
      cases h9 : decide (b = 95) with
      | true =>
        have e : customS s = false := by unfold customS; rw [hlf, hfk, h9]; simp
        rw [e]
        repeat' (first
    | ((with_reducible show IfK _ _ _ _); first
      | (refine IfK.yes (by assumption) ?_; ((with_reducible conv => whnf); (with_reducible conv => congr <;> reduce); repeat ((first | (with_reducible refine HaltK.mk ?_) | (with_reducible refine StopK.mk ?_)); (with_reducible conv => whnf); (with_reducible conv => congr <;> reduce))))
      | (refine IfK.no (by assumption) ?_; ((with_reducible conv => whnf); (with_reducible conv => congr <;> reduce); repeat ((first | (with_reducible refine HaltK.mk ?_) | (with_reducible refine StopK.mk ?_)); (with_reducible conv => whnf); (with_reducible conv => congr <;> reduce))))
      | (with_reducible refine IfK.yes Bool.not_false ?_; ((with_reducible conv => whnf); (with_reducible conv => congr <;> reduce); repeat ((first | (with_reducible refine HaltK.mk ?_) | (with_reducible refine StopK.mk ?_)); (with_reducible conv => whnf); (with_reducible conv => congr <;> reduce))))
      | (with_reducible refine IfK.no Bool.not_true ?_; ((with_reducible conv => whnf); (with_reducible conv => congr <;> reduce); repeat ((first | (with_reducible refine HaltK.mk ?_) | (with_reducible refine StopK.mk ?_)); (with_reducible conv => whnf); (with_reducible conv => congr <;> reduce))))
      | (with_reducible refine IfK.yes (nf (by assumption)) ?_; ((with_reducible conv => whnf); (with_reducible conv => congr <;> reduce); repeat ((first | (with_reducible refine HaltK.mk ?_) | (with_reducible refine StopK.mk ?_)); (with_reducible conv => whnf); (with_reducible conv => congr <;> reduce))))
      | (with_reducible refine IfK.no (nt (by assumption)) ?_; ((with_reducible conv => whnf); (with_reducible conv => congr <;> reduce); repeat ((first | (with_reducible refine HaltK.mk ?_) | (with_reducible refine StopK.mk ?_)); (with_reducible conv => whnf); (with_reducible conv => congr <;> reduce))))
      | (with_reducible refine IfK.tt ?_; ((with_reducible conv => whnf); (with_reducible conv => congr <;> reduce); repeat ((first | (with_reducible refine HaltK.mk ?_) | (with_reducible refine StopK.mk ?_)); (with_reducible conv => whnf); (with_reducible conv => congr <;> reduce))))
      | (with_reducible refine IfK.ff ?_; ((with_reducible conv => whnf); (with_reducible conv => congr <;> reduce); repeat ((first | (with_reducible refine HaltK.mk ?_) | (with_reducible refine StopK.mk ?_)); (with_reducible conv => whnf); (with_reducible conv => congr <;> reduce))))
      | (refine IfK.mk (fun _ => ?_) (fun _ => ?_) <;> ((with_reducible conv => whnf); (with_reducible conv => congr <;> reduce); repeat ((first | (with_reducible refine HaltK.mk ?_) | (with_reducible refine StopK.mk ?_)); (with_reducible conv => whnf); (with_reducible conv => congr <;> reduce)))))
    | ((with_reducible show (_ ∧ _) ∧ _ ∧ _); refine ⟨⟨rfl, rfl⟩, ?_, ?_⟩ <;> (with_reducible conv => whnf) <;> repeat' (first | (with_reducible exact trivial) | (with_reducible refine And.intro ?_ ?_ <;> with_reducible conv => whnf))))
      | false =>
        refine IfK.ff ?_; ((with_reducible conv => whnf); (with_reducible conv => congr <;> reduce); repeat ((first | (with_reducible refine HaltK.mk ?_) | (with_reducible refine StopK.mk ?_)); (with_reducible conv => whnf); (with_reducible conv => congr <;> reduce)))
        refine CallK.lit [] (f28r_ok s) c28 ⟨rfl, rfl, trivial⟩ rfl rfl ?_; ((with_reducible conv => whnf); (with_reducible conv => congr <;> reduce); repeat ((first | (with_reducible refine HaltK.mk ?_) | (with_reducible refine StopK.mk ?_)); (with_reducible conv => whnf); (with_reducible conv => congr <;> reduce)))
        cases hw : hasW resL s with
        | true =>
          have e : customS s = false := by unfold customS; rw [hw]; simp
          rw [e]
          repeat' (first
    | ((with_reducible show IfK _ _ _ _); first
      | (refine IfK.yes (by assumption) ?_; ((with_reducible conv => whnf); (with_reducible conv => congr <;> reduce); repeat ((first | (with_reducible refine HaltK.mk ?_) | (with_reducible refine StopK.mk ?_)); (with_reducible conv => whnf); (with_reducible conv => congr <;> reduce))))
      | (refine IfK.no (by assumption) ?_; ((with_reducible conv => whnf); (with_reducible conv => congr <;> reduce); repeat ((first | (with_reducible refine HaltK.mk ?_) | (with_reducible refine StopK.mk ?_)); (with_reducible conv => whnf); (with_reducible conv => congr <;> reduce))))
      | (with_reducible refine IfK.yes Bool.not_false ?_; ((with_reducible conv => whnf); (with_reducible conv => congr <;> reduce); repeat ((first | (with_reducible refine HaltK.mk ?_) | (with_reducible refine StopK.mk ?_)); (with_reducible conv => whnf); (with_reducible conv => congr <;> reduce))))
      | (with_reducible refine IfK.no Bool.not_true ?_; ((with_reducible conv => whnf); (with_reducible conv => congr <;> reduce); repeat ((first | (with_reducible refine HaltK.mk ?_) | (with_reducible refine StopK.mk ?_)); (with_reducible conv => whnf); (with_reducible conv => congr <;> reduce))))
      | (with_reducible refine IfK.yes (nf (by assumption)) ?_; ((with_reducible conv => whnf); (with_reducible conv => congr <;> reduce); repeat ((first | (with_reducible refine HaltK.mk ?_) | (with_reducible refine StopK.mk ?_)); (with_reducible conv => whnf); (with_reducible conv => congr <;> reduce))))
      | (with_reducible refine IfK.no (nt (by assumption)) ?_; ((with_reducible conv => whnf); (with_reducible conv => congr <;> reduce); repeat ((first | (with_reducible refine HaltK.mk ?_) | (with_reducible refine StopK.mk ?_)); (with_reducible conv => whnf); (with_reducible conv => congr <;> reduce))))
      | (with_reducible refine IfK.tt ?_; ((with_reducible conv => whnf); (with_reducible conv => congr <;> reduce); repeat ((first | (with_reducible refine HaltK.mk ?_) | (with_reducible refine StopK.mk ?_)); (with_reducible conv => whnf); (with_reducible conv => congr <;> reduce))))
      | (with_reducible refine IfK.ff ?_; ((with_reducible conv => whnf); (with_reducible conv => congr <;> reduce); repeat ((first | (with_reducible refine HaltK.mk ?_) | (with_reducible refine StopK.mk ?_)); (with_reducible conv => whnf); (with_reducible conv => congr <;> reduce))))
      | (refine IfK.mk (fun _ => ?_) (fun _ => ?_) <;> ((with_reducible conv => whnf); (with_reducible conv => congr <;> reduce); repeat ((first | (with_reducible refine HaltK.mk ?_) | (with_reducible refine StopK.mk ?_)); (with_reducible conv => whnf); (with_reducible conv => congr <;> reduce)))))
    | ((with_reducible show (_ ∧ _) ∧ _ ∧ _); refine ⟨⟨rfl, rfl⟩, ?_, ?_⟩ <;> (with_reducible conv => whnf) <;> repeat' (first | (with_reducible exact trivial) | (with_reducible refine And.intro ?_ ?_ <;> with_reducible conv => whnf))))
        | false =>
          have e : customS s = dashB s.data.toList := by unfold customS; rw [hw, hr, hlf, hfk, h9, hc]; simp
          rw [e]
          obtain ⟨l, hl⟩ : ∃ l, s.data.toList = l := ⟨_, rfl⟩
          rw [hl] at hsz ⊢
          refine IfK.ff ?_; ((with_reducible conv => whnf); (with_reducible conv => congr <;> reduce); repeat ((first | (with_reducible refine HaltK.mk ?_) | (with_reducible refine StopK.mk ?_)); (with_reducible conv => whnf); (with_reducible conv => congr <;> reduce)))
          refine LoopK.use G G_good (fun (k : Nat) => [(0, eStr s), (3, eInt k)]) (fun _ => []) (fun k => k ≤ l.length ∧ ∀ j x, j < k → l[j]? = some x → decide (x = 45) = false) (fun k => l.length - k) 0 ⟨Nat.zero_le _, fun j x h => by omega⟩
            ⟨⟨rfl, rfl⟩, ⟨rfl, rfl, trivial⟩, trivial⟩ ?_
          rintro k ⟨hk, hno⟩
          ((with_reducible conv => whnf); (with_reducible conv => congr <;> reduce); repeat ((first | (with_reducible refine HaltK.mk ?_) | (with_reducible refine StopK.mk ?_)); (with_reducible conv => whnf); (with_reducible conv => congr <;> reduce)))
          refine IfK.mk (fun g1 => ?_) (fun g1 => ?_) <;> (try simp only [castN] at g1) <;> ((with_reducible conv => whnf); (with_reducible conv => congr <;> reduce); repeat ((first | (with_reducible refine HaltK.mk ?_) | (with_reducible refine StopK.mk ?_)); (with_reducible conv => whnf); (with_reducible conv => congr <;> reduce)))
          · simp only [decide_eq_true_eq] at g1
            have hk' : k < l.length := by omega
            obtain ⟨c, hcc⟩ : ∃ c, l[k]? = some c := ⟨_, List.getElem?_eq_getElem hk'⟩
            refine IdxSK.mk k c rfl (by rw [hl]; exact hcc) ?_; ((with_reducible conv => whnf); (with_reducible conv => congr <;> reduce); repeat ((first | (with_reducible refine HaltK.mk ?_) | (with_reducible refine StopK.mk ?_)); (with_reducible conv => whnf); (with_reducible conv => congr <;> reduce)))
            rw [show decide ((c.toNat : Int) = 45) = decide (c = 45) from is_n (d := 45)]
            cases h4 : decide (c = 45) with
            | true =>
              refine IfK.tt ?_; ((with_reducible conv => whnf); (with_reducible conv => congr <;> reduce); repeat ((first | (with_reducible refine HaltK.mk ?_) | (with_reducible refine StopK.mk ?_)); (with_reducible conv => whnf); (with_reducible conv => congr <;> reduce)))
              refine ⟨⟨rfl, rfl⟩, ?_, ?_⟩ <;> (with_reducible conv => whnf) <;> repeat' (first | (with_reducible exact trivial) | (with_reducible refine And.intro ?_ ?_ <;> with_reducible conv => whnf))
              unfold dashB
              rw [List.any_eq_true]
              exact ⟨c, List.mem_of_getElem? hcc, h4⟩
            | false =>
              refine IfK.ff ?_; ((with_reducible conv => whnf); (with_reducible conv => congr <;> reduce); repeat ((first | (with_reducible refine HaltK.mk ?_) | (with_reducible refine StopK.mk ?_)); (with_reducible conv => whnf); (with_reducible conv => congr <;> reduce)))
              refine NeedK.mk (by (try simp only [castN]); omega) ?_; ((with_reducible conv => whnf); (with_reducible conv => congr <;> reduce); repeat ((first | (with_reducible refine HaltK.mk ?_) | (with_reducible refine StopK.mk ?_)); (with_reducible conv => whnf); (with_reducible conv => congr <;> reduce)))
              refine NextK.mk (k + 1) ⟨by omega, fun j x hj hx => ?_⟩ (by omega) ⟨⟨rfl, rfl⟩, ⟨rfl, by show ((k + 1 : Nat) : Int) = (k : Int) + 1; omega, trivial⟩, trivial⟩
              rcases Nat.lt_or_ge j k with h3 | h3
              · exact hno j x h3 hx
              · have : j = k := by omega
                subst this
                rw [hcc] at hx; cases hx; exact h4
          · refine ⟨⟨rfl, rfl⟩, ?_, ?_⟩ <;> (with_reducible conv => whnf) <;> repeat' (first | (with_reducible exact trivial) | (with_reducible refine And.intro ?_ ?_ <;> with_reducible conv => whnf))
            unfold dashB
            rw [List.any_eq_false]
            intro x hx
            obtain ⟨j, hj⟩ := List.getElem?_of_mem hx
            have := hno j x (by have := (List.getElem?_eq_some_iff.1 hj).1; simp only [decide_eq_false_iff_not] at g1; omega) hj
            simp [this]
theorem f16_ok (s : ByteArray) : FnOK Tryd.prog 16 [] [eStr s] [] (eBool (hasW knowL s)) := by
  have hne : s = noS' → hasW knowL s = false := by
    rintro rfl; decide +kernel
  refine FnOK.startC (rvs := [.tmp 2]) G G_good Tryd.func16 rfl Tryd.ntmps16 rfl rfl ?_; delta List.toArray; ((with_reducible conv => whnf); (with_reducible conv => congr <;> reduce); repeat ((first | (with_reducible refine HaltK.mk ?_) | (with_reducible refine StopK.mk ?_)); (with_reducible conv => whnf); (with_reducible conv => congr <;> reduce)))
  by_cases h : s = noS'
  · have e := hne h
    refine IfK.no (by rw [show (!decide (s = ({ data := { toList := [] } } : ByteArray))) = !decide (s = noS') from rfl, decide_eq_true h]; rfl) ?_; ((with_reducible conv => whnf); (with_reducible conv => congr <;> reduce); repeat ((first | (with_reducible refine HaltK.mk ?_) | (with_reducible refine StopK.mk ?_)); (with_reducible conv => whnf); (with_reducible conv => congr <;> reduce)))
    refine ⟨⟨rfl, rfl⟩, ?_, ?_⟩ <;> (with_reducible conv => whnf) <;> repeat' (first | (with_reducible exact trivial) | (with_reducible refine And.intro ?_ ?_ <;> with_reducible conv => whnf))
    rw [e]
  · refine IfK.yes (by rw [show (!decide (s = ({ data := { toList := [] } } : ByteArray))) = !decide (s = noS') from rfl, decide_eq_false h]; rfl) ?_; ((with_reducible conv => whnf); (with_reducible conv => congr <;> reduce); repeat ((first | (with_reducible refine HaltK.mk ?_) | (with_reducible refine StopK.mk ?_)); (with_reducible conv => whnf); (with_reducible conv => congr <;> reduce)))
    refine CallK.lit [] (f28k_ok s) c28 ⟨rfl, rfl, trivial⟩ rfl rfl ?_; ((with_reducible conv => whnf); (with_reducible conv => congr <;> reduce); repeat ((first | (with_reducible refine HaltK.mk ?_) | (with_reducible refine StopK.mk ?_)); (with_reducible conv => whnf); (with_reducible conv => congr <;> reduce)))
    refine ⟨⟨rfl, rfl⟩, ?_, ?_⟩ <;> (with_reducible conv => whnf) <;> repeat' (first | (with_reducible exact trivial) | (with_reducible refine And.intro ?_ ?_ <;> with_reducible conv => whnf))
def kindS (s : ByteArray) : Int := if rightS s then (if customS s then 1 else if hasW knowL s then 2 else 3) else 0
theorem f17_ok (s : ByteArray) : FnOK Tryd.prog 17 [] [eStr s] [] (eInt (kindS s)) := by
  refine FnOK.startC (rvs := [.tmp 2]) G G_good Tryd.func17 rfl Tryd.ntmps17 rfl rfl ?_; delta List.toArray; ((with_reducible conv => whnf); (with_reducible conv => congr <;> reduce); repeat ((first | (with_reducible refine HaltK.mk ?_) | (with_reducible refine StopK.mk ?_)); (with_reducible conv => whnf); (with_reducible conv => congr <;> reduce)))
  unfold kindS
  cases h1 : rightS s <;> cases h2 : customS s <;> cases h3 : hasW knowL s <;> repeat' (first
    | ((with_reducible show IfK _ _ _ _); first
      | (refine IfK.yes (by assumption) ?_; ((with_reducible conv => whnf); (with_reducible conv => congr <;> reduce); repeat ((first | (with_reducible refine HaltK.mk ?_) | (with_reducible refine StopK.mk ?_)); (with_reducible conv => whnf); (with_reducible conv => congr <;> reduce))))
      | (refine IfK.no (by assumption) ?_; ((with_reducible conv => whnf); (with_reducible conv => congr <;> reduce); repeat ((first | (with_reducible refine HaltK.mk ?_) | (with_reducible refine StopK.mk ?_)); (with_reducible conv => whnf); (with_reducible conv => congr <;> reduce))))
      | (with_reducible refine IfK.yes Bool.not_false ?_; ((with_reducible conv => whnf); (with_reducible conv => congr <;> reduce); repeat ((first | (with_reducible refine HaltK.mk ?_) | (with_reducible refine StopK.mk ?_)); (with_reducible conv => whnf); (with_reducible conv => congr <;> reduce))))
      | (with_reducible refine IfK.no Bool.not_true ?_; ((with_reducible conv => whnf); (with_reducible conv => congr <;> reduce); repeat ((first | (with_reducible refine HaltK.mk ?_) | (with_reducible refine StopK.mk ?_)); (with_reducible conv => whnf); (with_reducible conv => congr <;> reduce))))
      | (with_reducible refine IfK.yes (nf (by assumption)) ?_; ((with_reducible conv => whnf); (with_reducible conv => congr <;> reduce); repeat ((first | (with_reducible refine HaltK.mk ?_) | (with_reducible refine StopK.mk ?_)); (with_reducible conv => whnf); (with_reducible conv => congr <;> reduce))))
      | (with_reducible refine IfK.no (nt (by assumption)) ?_; ((with_reducible conv => whnf); (with_reducible conv => congr <;> reduce); repeat ((first | (with_reducible refine HaltK.mk ?_) | (with_reducible refine StopK.mk ?_)); (with_reducible conv => whnf); (with_reducible conv => congr <;> reduce))))
      | (with_reducible refine IfK.tt ?_; ((with_reducible conv => whnf); (with_reducible conv => congr <;> reduce); repeat ((first | (with_reducible refine HaltK.mk ?_) | (with_reducible refine StopK.mk ?_)); (with_reducible conv => whnf); (with_reducible conv => congr <;> reduce))))
      | (with_reducible refine IfK.ff ?_; ((with_reducible conv => whnf); (with_reducible conv => congr <;> reduce); repeat ((first | (with_reducible refine HaltK.mk ?_) | (with_reducible refine StopK.mk ?_)); (with_reducible conv => whnf); (with_reducible conv => congr <;> reduce))))
      | (refine IfK.mk (fun _ => ?_) (fun _ => ?_) <;> ((with_reducible conv => whnf); (with_reducible conv => congr <;> reduce); repeat ((first | (with_reducible refine HaltK.mk ?_) | (with_reducible refine StopK.mk ?_)); (with_reducible conv => whnf); (with_reducible conv => congr <;> reduce)))))
    | ((with_reducible show CallK _ _ 12 _ _ _ _); refine CallK.lit [] (f12_ok s) c12 ⟨rfl, trivial⟩ rfl rfl ?_; ((with_reducible conv => whnf); (with_reducible conv => congr <;> reduce); repeat ((first | (with_reducible refine HaltK.mk ?_) | (with_reducible refine StopK.mk ?_)); (with_reducible conv => whnf); (with_reducible conv => congr <;> reduce))))
    | ((with_reducible show CallK _ _ 13 _ _ _ _); refine CallK.lit [] (f13_ok s) c13 ⟨rfl, trivial⟩ rfl rfl ?_; ((with_reducible conv => whnf); (with_reducible conv => congr <;> reduce); repeat ((first | (with_reducible refine HaltK.mk ?_) | (with_reducible refine StopK.mk ?_)); (with_reducible conv => whnf); (with_reducible conv => congr <;> reduce))))
    | ((with_reducible show CallK _ _ 15 _ _ _ _); refine CallK.lit [] (f15_ok s) c15 ⟨rfl, trivial⟩ rfl rfl ?_; ((with_reducible conv => whnf); (with_reducible conv => congr <;> reduce); repeat ((first | (with_reducible refine HaltK.mk ?_) | (with_reducible refine StopK.mk ?_)); (with_reducible conv => whnf); (with_reducible conv => congr <;> reduce))))
    | ((with_reducible show (_ ∧ _) ∧ _ ∧ _); refine ⟨⟨rfl, rfl⟩, ?_, ?_⟩ <;> (with_reducible conv => whnf) <;> repeat' (first | (with_reducible exact trivial) | (with_reducible refine And.intro ?_ ?_ <;> with_reducible conv => whnf))))
  all_goals simp_all
theorem f18_ok (s : ByteArray) (hs : s.size ≤ 100000) : FnOK Tryd.prog 18 [] [eStr s] [] (eInt (kindS s)) := by
  refine FnOK.startC (rvs := [.tmp 2]) G G_good Tryd.func18 rfl Tryd.ntmps18 rfl rfl ?_; delta List.toArray; ((with_reducible conv => whnf); (with_reducible conv => congr <;> reduce); repeat ((first | (with_reducible refine HaltK.mk ?_) | (with_reducible refine StopK.mk ?_)); (with_reducible conv => whnf); (with_reducible conv => congr <;> reduce)))
  unfold kindS
  cases h1 : rightS s <;> cases h2 : customS s <;> cases h3 : hasW knowL s <;> repeat' (first
    | ((with_reducible show IfK _ _ _ _); first
      | (refine IfK.yes (by assumption) ?_; ((with_reducible conv => whnf); (with_reducible conv => congr <;> reduce); repeat ((first | (with_reducible refine HaltK.mk ?_) | (with_reducible refine StopK.mk ?_)); (with_reducible conv => whnf); (with_reducible conv => congr <;> reduce))))
      | (refine IfK.no (by assumption) ?_; ((with_reducible conv => whnf); (with_reducible conv => congr <;> reduce); repeat ((first | (with_reducible refine HaltK.mk ?_) | (with_reducible refine StopK.mk ?_)); (with_reducible conv => whnf); (with_reducible conv => congr <;> reduce))))
      | (with_reducible refine IfK.yes Bool.not_false ?_; ((with_reducible conv => whnf); (with_reducible conv => congr <;> reduce); repeat ((first | (with_reducible refine HaltK.mk ?_) | (with_reducible refine StopK.mk ?_)); (with_reducible conv => whnf); (with_reducible conv => congr <;> reduce))))
      | (with_reducible refine IfK.no Bool.not_true ?_; ((with_reducible conv => whnf); (with_reducible conv => congr <;> reduce); repeat ((first | (with_reducible refine HaltK.mk ?_) | (with_reducible refine StopK.mk ?_)); (with_reducible conv => whnf); (with_reducible conv => congr <;> reduce))))
      | (with_reducible refine IfK.yes (nf (by assumption)) ?_; ((with_reducible conv => whnf); (with_reducible conv => congr <;> reduce); repeat ((first | (with_reducible refine HaltK.mk ?_) | (with_reducible refine StopK.mk ?_)); (with_reducible conv => whnf); (with_reducible conv => congr <;> reduce))))
      | (with_reducible refine IfK.no (nt (by assumption)) ?_; ((with_reducible conv => whnf); (with_reducible conv => congr <;> reduce); repeat ((first | (with_reducible refine HaltK.mk ?_) | (with_reducible refine StopK.mk ?_)); (with_reducible conv => whnf); (with_reducible conv => congr <;> reduce))))
      | (with_reducible refine IfK.tt ?_; ((with_reducible conv => whnf); (with_reducible conv => congr <;> reduce); repeat ((first | (with_reducible refine HaltK.mk ?_) | (with_reducible refine StopK.mk ?_)); (with_reducible conv => whnf); (with_reducible conv => congr <;> reduce))))
      | (with_reducible refine IfK.ff ?_; ((with_reducible conv => whnf); (with_reducible conv => congr <;> reduce); repeat ((first | (with_reducible refine HaltK.mk ?_) | (with_reducible refine StopK.mk ?_)); (with_reducible conv => whnf); (with_reducible conv => congr <;> reduce))))
      | (refine IfK.mk (fun _ => ?_) (fun _ => ?_) <;> ((with_reducible conv => whnf); (with_reducible conv => congr <;> reduce); repeat ((first | (with_reducible refine HaltK.mk ?_) | (with_reducible refine StopK.mk ?_)); (with_reducible conv => whnf); (with_reducible conv => congr <;> reduce)))))
    | ((with_reducible show CallK _ _ 10 _ _ _ _); refine CallK.lit [] (f10_ok s) c10 ⟨rfl, trivial⟩ rfl rfl ?_; ((with_reducible conv => whnf); (with_reducible conv => congr <;> reduce); repeat ((first | (with_reducible refine HaltK.mk ?_) | (with_reducible refine StopK.mk ?_)); (with_reducible conv => whnf); (with_reducible conv => congr <;> reduce))))
    | ((with_reducible show CallK _ _ 14 _ _ _ _); refine CallK.lit [] (f14_ok s hs) c14 ⟨rfl, trivial⟩ rfl rfl ?_; ((with_reducible conv => whnf); (with_reducible conv => congr <;> reduce); repeat ((first | (with_reducible refine HaltK.mk ?_) | (with_reducible refine StopK.mk ?_)); (with_reducible conv => whnf); (with_reducible conv => congr <;> reduce))))
    | ((with_reducible show CallK _ _ 16 _ _ _ _); refine CallK.lit [] (f16_ok s) c16 ⟨rfl, trivial⟩ rfl rfl ?_; ((with_reducible conv => whnf); (with_reducible conv => congr <;> reduce); repeat ((first | (with_reducible refine HaltK.mk ?_) | (with_reducible refine StopK.mk ?_)); (with_reducible conv => whnf); (with_reducible conv => congr <;> reduce))))
    | ((with_reducible show (_ ∧ _) ∧ _ ∧ _); refine ⟨⟨rfl, rfl⟩, ?_, ?_⟩ <;> (with_reducible conv => whnf) <;> repeat' (first | (with_reducible exact trivial) | (with_reducible refine And.intro ?_ ?_ <;> with_reducible conv => whnf))))
  all_goals simp_all
end Go.Proofs.NameD
end
section
namespace Go.Proofs.NameD
open Go.Am Go.RowKit Go.Lib
/-! ### plain laws of names -/
theorem byte_all (p : UInt8 → Bool) (h : (List.range 256).all (fun n => p (UInt8.ofNat n)) = true) (c : UInt8) : p c = true := by
  have := List.all_eq_true.1 h c.toNat (List.mem_range.2 (UInt8.toNat_lt c))
  simpa using this
theorem lowB_low (c : UInt8) : lowB (lowB c) = lowB c := by
  have := byte_all (fun c => decide (lowB (lowB c) = lowB c)) (by decide +kernel) c
  simpa using this
theorem signB_low (c : UInt8) : signB (lowB c) = signB c := by
  have := byte_all (fun c => decide (signB (lowB c) = signB c)) (by decide +kernel) c
  simpa using this
theorem lowS_low (s : ByteArray) : lowS (lowS s) = lowS s := by
  unfold lowS lowL
  simp only [List.map_map]
  congr 2
  apply List.map_congr_left
  intro c _
  exact lowB_low c
theorem firstB_low (l : List UInt8) : firstB (lowL l) = firstB l := by
  cases l with
  | nil => rfl
  | cons c r =>
    have := byte_all (fun c => decide (firstB [lowB c] = firstB [c])) (by decide +kernel) c
    exact of_decide_eq_true this
theorem rightS_low (s : ByteArray) : rightS (lowS s) = rightS s := by
  unfold rightS rightL
  have h1 : (lowS s).data.toList = lowL s.data.toList := rfl
  rw [h1, firstB_low]
  have h2 : (lowL s.data.toList).length = s.data.toList.length := by unfold lowL; simp
  have h3 : (lowL s.data.toList).all signB = s.data.toList.all signB := by
    unfold lowL
    rw [List.all_map]
    congr 1
    funext c
    exact signB_low c
  rw [h2, h3]
theorem lowS_size (s : ByteArray) : (lowS s).size = s.size := by
  rw [size_len, size_len]
  show (lowL s.data.toList).length = _
  exact lowL_len _
theorem custom_facts {s : ByteArray} (h : customS s = true) : rightS s = true ∧ lowFirst s.data.toList = true ∧ capsB s.data.toList = false ∧ dashB s.data.toList = true ∧ hasW resL s = false := by
  unfold customS at h
  simp only [Bool.and_eq_true, Bool.not_eq_true'] at h
  exact ⟨h.1, h.2.1, h.2.2.1, h.2.2.2.1, h.2.2.2.2⟩
theorem know_facts {s : ByteArray} (h : hasW knowL s = true) : rightS s = true ∧ dashB s.data.toList = false ∧ capsB s.data.toList = false := by
  have hs := hasW_iff.1 h
  have key : knowL.all (fun x => rightS x && (!dashB x.data.toList && !capsB x.data.toList)) = true := by decide +kernel
  have := List.all_eq_true.1 key s hs
  simp only [Bool.and_eq_true, Bool.not_eq_true'] at this
  exact this
theorem dash_unknown {s : ByteArray} (h : dashB s.data.toList = true) : hasW knowL s = false := by
  cases hk : hasW knowL s with
  | false => rfl
  | true => rw [(know_facts hk).2.1] at h; cases h
theorem caps_unknown {s : ByteArray} (h : capsB s.data.toList = true) : hasW knowL s = false := by
  cases hk : hasW knowL s with
  | false => rfl
  | true => rw [(know_facts hk).2.2] at h; cases h
theorem know_uncustom {s : ByteArray} (h : hasW knowL s = true) : customS s = false := by
  unfold customS; rw [(know_facts h).2.1]; simp
theorem kind_custom {s : ByteArray} (h : customS s = true) : kindS s = 1 := by unfold kindS; rw [if_pos (custom_facts h).1, if_pos h]
theorem kind_known {s : ByteArray} (h : hasW knowL s = true) : kindS s = 2 := by unfold kindS; rw [if_pos (know_facts h).1, know_uncustom h, if_neg (by simp), if_pos h]
theorem kind_other {s : ByteArray} (h1 : rightS s = true) (h2 : customS s = false) (h3 : hasW knowL s = false) : kindS s = 3 := by unfold kindS; rw [if_pos h1, h2, if_neg (by simp), h3, if_neg (by simp)]
theorem kind_none {s : ByteArray} (h : rightS s = false) : kindS s = 0 := by unfold kindS; rw [h]; rfl
theorem res_long {s : ByteArray} (h : hasW resL s = true) : 9 ≤ s.size := by
  have hs := hasW_iff.1 h
  have key : resL.all (fun x => decide (9 ≤ x.size)) = true := by decide +kernel
  exact of_decide_eq_true (List.all_eq_true.1 key s hs)
end Go.Proofs.NameD
end
