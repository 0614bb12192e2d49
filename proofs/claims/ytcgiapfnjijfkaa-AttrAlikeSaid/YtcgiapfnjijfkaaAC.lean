/- Plain laws of names and lists of attributes. By an AI agent. -/
import Derived.Test.YtcgiapfnjijfkaaAB
section
namespace Go.Proofs.Attr
open Go.Am Go.RowKit Go.Lib
/-! ### plain laws of names and lists -/
theorem byte_all (p : UInt8 → Bool) (h : (List.range 256).all (fun n => p (UInt8.ofNat n)) = true) (c : UInt8) : p c = true := by
  have := List.all_eq_true.1 h c.toNat (List.mem_range.2 (UInt8.toNat_lt c))
  simpa using this
theorem lowB_low (c : UInt8) : lowB (lowB c) = lowB c := by
  have := byte_all (fun c => decide (lowB (lowB c) = lowB c)) (by decide +kernel) c
  simpa using this
theorem signB_low (c : UInt8) : signB (lowB c) = signB c := by
  have := byte_all (fun c => decide (signB (lowB c) = signB c)) (by decide +kernel) c
  simpa using this
theorem lowS_low (s : ByteArray) : lowS (lowS s) = lowS s := by
  unfold lowS lowL
  simp only [List.map_map]
  congr 2
  apply List.map_congr_left
  intro c _
  exact lowB_low c
theorem firstB_low (l : List UInt8) : firstB (lowL l) = firstB l := by
  cases l with
  | nil => rfl
  | cons c r =>
    have := byte_all (fun c => decide (firstB [lowB c] = firstB [c])) (by decide +kernel) c
    exact of_decide_eq_true this
theorem rightS_low (s : ByteArray) : rightS (lowS s) = rightS s := by
  unfold rightS rightL
  have h1 : (lowS s).data.toList = lowL s.data.toList := rfl
  rw [h1, firstB_low]
  have h2 : (lowL s.data.toList).length = s.data.toList.length := by unfold lowL; simp
  have h3 : (lowL s.data.toList).all signB = s.data.toList.all signB := by
    unfold lowL
    rw [List.all_map]
    congr 1
    funext c
    exact signB_low c
  rw [h2, h3]
theorem okA_new {n v : ByteArray} (hn : rightS n = true) (hv : v.size ≤ 200) : okA ⟨lowS n, v⟩ = true := by
  unfold okA; simp only [rightS_low, hn, lowS_low, hv, decide_true, Bool.and_self]
theorem rightA_of {l : List AttrM} (h1 : l.length ≤ 40) (h2 : ∀ a ∈ l, okA a = true) (h3 : (l.map AttrM.name).Nodup) : rightA l = true := by
  unfold rightA
  rw [decide_eq_true h1, decide_eq_true h3, List.all_eq_true.2 h2]; rfl
theorem rightA_all {l : List AttrM} (h : rightA l = true) : l.length ≤ 40 ∧ (∀ a ∈ l, okA a = true) ∧ (l.map AttrM.name).Nodup := by
  unfold rightA at h; simp only [Bool.and_eq_true, decide_eq_true_eq, List.all_eq_true] at h; exact ⟨h.1.1, h.1.2, h.2⟩
/-- Names apart: two places of the same name are one. -/
theorem names_inj {l : List AttrM} (hn : (l.map AttrM.name).Nodup) {i j : Nat} {a b : AttrM} (ha : l[i]? = some a) (hb : l[j]? = some b) (e : a.name = b.name) : i = j := by
  have h1 := posA_at hn ha
  have h2 := posA_at hn hb
  rw [e] at h1; omega
theorem names_of {l : List AttrM} (h : ∀ (i j : Nat) (a b : AttrM), l[i]? = some a → l[j]? = some b → a.name = b.name → i = j) : (l.map AttrM.name).Nodup := by
  rw [nodup_pos]
  intro i a ha
  refine idxI_hit ha (by unfold hasName; simp) fun j x hj hx => ?_
  unfold hasName
  rw [decide_eq_false_iff_not]
  intro e
  have := h j i x a hx ha e
  omega
theorem mem_inj {l : List AttrM} (hn : (l.map AttrM.name).Nodup) {a b : AttrM} (ha : a ∈ l) (hb : b ∈ l) (e : a.name = b.name) : a = b := by
  obtain ⟨i, hi⟩ := List.getElem?_of_mem ha
  obtain ⟨j, hj⟩ := List.getElem?_of_mem hb
  have := names_inj hn hi hj e
  subst this; rw [hi] at hj; exact Option.some.inj hj
theorem nodup_of_names {l : List AttrM} (hn : (l.map AttrM.name).Nodup) : l.Nodup := by
  unfold List.Nodup at hn ⊢
  rw [List.pairwise_map] at hn
  exact hn.imp fun h e => h (by rw [e])
/-! #### what setting does -/
theorem set_get {l : List AttrM} {k : Nat} (hk : k < l.length) (x : AttrM) (i : Nat) : (l.set k x)[i]? = if i = k then some x else l[i]? := by
  by_cases h : i = k
  · subst h; simp [hk]
  · rw [if_neg h, List.getElem?_set_ne (by omega)]
theorem mem_set_iff {l : List AttrM} {k : Nat} {o : AttrM} (hn : (l.map AttrM.name).Nodup) (hk : l[k]? = some o) (v : ByteArray) (a : AttrM) : a ∈ l.set k ⟨o.name, v⟩ ↔ a = ⟨o.name, v⟩ ∨ (a ∈ l ∧ a.name ≠ o.name) := by
  have hkl := (List.getElem?_eq_some_iff.1 hk).1
  constructor
  · intro h
    obtain ⟨i, hi⟩ := List.getElem?_of_mem h
    rw [set_get hkl] at hi
    split at hi
    · exact .inl (Option.some.inj hi).symm
    · rename_i hne
      exact .inr ⟨List.mem_of_getElem? hi, fun e => hne (names_inj hn hi hk e)⟩
  · rintro (rfl | ⟨h1, h2⟩)
    · exact List.mem_of_getElem? (i := k) (by rw [set_get hkl, if_pos rfl])
    · obtain ⟨i, hi⟩ := List.getElem?_of_mem h1
      refine List.mem_of_getElem? (i := i) ?_
      rw [set_get hkl, if_neg, hi]
      rintro rfl
      rw [hi] at hk; cases hk; exact h2 rfl
theorem set_names {l : List AttrM} {k : Nat} {o : AttrM} (hk : l[k]? = some o) (v : ByteArray) : (l.set k ⟨o.name, v⟩).map AttrM.name = l.map AttrM.name := by
  apply List.ext_getElem?
  intro i
  have hkl := (List.getElem?_eq_some_iff.1 hk).1
  rw [List.getElem?_map, List.getElem?_map, set_get hkl]
  split
  · rename_i h; subst h; rw [hk]; rfl
  · rfl
structure SetOK (l : List AttrM) (n v : ByteArray) (m : List AttrM) : Prop where
  right : rightA m = true
  name : rightS n = true
  value : v.size ≤ 200
  mem : ∀ a, a ∈ m ↔ a = ⟨lowS n, v⟩ ∨ (a ∈ l ∧ a.name ≠ lowS n)
theorem findE_right {l : List AttrM} {n : ByteArray} (hr : rightA l = true) (hn : rightS n = true) : findE l n = 0 := by
  unfold findE; rw [if_pos hr, if_pos hn]
theorem set_ok {l : List AttrM} {n v : ByteArray} (h : (setA l n v).2 = 0) : rightA l = true ∧ SetOK l n v (setA l n v).1 := by
  unfold setA at h ⊢
  split at h
  · rename_i hE
    obtain ⟨h1, h2, _⟩ := findE_zero hE
    obtain ⟨r1, r2, r3⟩ := rightA_all h1
    refine ⟨h1, ?_⟩
    rw [if_pos hE]
    split at h
    · rename_i hv
      rw [if_pos hv]
      split at h
      · rename_i hP
        rw [if_pos hP]
        rw [findP_ref h1 h2] at hP ⊢
        rcases posA_cases l (lowS n) with ⟨e, _⟩ | ⟨k, o, e1, e2, e3⟩
        · omega
        · rw [e1, Int.toNat_natCast]
          rw [← e3]
          refine ⟨rightA_of (by simpa using r1) (fun a ha => ?_) (by rw [set_names e2]; exact r3), h2, hv, fun a => by rw [e3, ← e3]; exact mem_set_iff r3 e2 v a⟩
          rcases (mem_set_iff r3 e2 v a).1 ha with rfl | ⟨ha, _⟩
          · rw [e3]; exact okA_new h2 hv
          · exact r2 a ha
      · rename_i hP
        rw [if_neg hP]
        split at h
        · cases h
        · rename_i hl
          rw [if_neg hl]
          rw [findP_ref h1 h2] at hP
          have hno : ∀ a ∈ l, a.name ≠ lowS n := by
            rcases posA_cases l (lowS n) with ⟨_, e⟩ | ⟨k, o, e1, _, _⟩
            · exact e
            · omega
          refine ⟨rightA_of (by simp; omega) (fun a ha => ?_) ?_, h2, hv, fun a => ?_⟩
          · rcases List.mem_append.1 ha with ha | ha
            · exact r2 a ha
            · simp at ha; subst ha; exact okA_new h2 hv
          · rw [List.map_append, List.nodup_append]
            refine ⟨r3, by simp, fun x hx y hy => ?_⟩
            simp at hy; subst hy
            obtain ⟨a, ha, rfl⟩ := List.mem_map.1 hx
            exact hno a ha
          · rw [List.mem_append]
            constructor
            · rintro (h | h)
              · exact .inr ⟨h, hno a h⟩
              · simp at h; exact .inl h
            · rintro (h | h)
              · right; simp [h]
              · exact .inl h.1
    · cases h
  · exact absurd h (by assumption)
theorem set_fail {l : List AttrM} {n v : ByteArray} (h : (setA l n v).2 ≠ 0) : (setA l n v).1 = l := by
  unfold setA at h ⊢
  repeat' split
  all_goals simp_all
/-- When setting goes well. -/
theorem set_err {l : List AttrM} (hr : rightA l = true) (n v : ByteArray) : (setA l n v).2 = if rightS n then (if v.size ≤ 200 then (if (∃ a ∈ l, a.name = lowS n) ∨ l.length ≠ 40 then 0 else 3) else 3) else 4 := by
  cases hn : rightS n with
  | false => unfold setA findE; simp [hr, hn]
  | true =>
    unfold setA
    rw [if_pos (findE_right hr hn), findP_ref hr hn]
    simp only [if_true]
    split
    · rcases posA_cases l (lowS n) with ⟨e, hno⟩ | ⟨k, o, e1, e2, e3⟩
      · rw [e, if_neg (by omega)]
        by_cases hl : l.length = 40
        · rw [if_pos hl, if_neg]
          rintro (⟨a, ha, e⟩ | h)
          · exact hno a ha e
          · exact h hl
        · rw [if_neg hl, if_pos (.inr hl)]
      · rw [e1, if_pos (by omega), if_pos (.inl ⟨o, List.mem_of_getElem? e2, e3⟩)]
    · rfl
/-! #### what is got -/
theorem get_hit {l : List AttrM} {n v : ByteArray} (hr : rightA l = true) (hn : rightS n = true) (h : (⟨lowS n, v⟩ : AttrM) ∈ l) : getS l n = v ∧ 0 ≤ findP l n := by
  obtain ⟨i, hi⟩ := List.getElem?_of_mem h
  have h1 := posA_at (rightA_nodup hr) hi
  have h1 : posA l (lowS n) = i := h1
  unfold getS
  rw [findP_ref hr hn, h1]
  exact ⟨by rw [if_pos (by omega), Int.toNat_natCast, hi]; rfl, by omega⟩
theorem get_miss {l : List AttrM} {n : ByteArray} (h : rightA l = true → rightS n = true → ∀ a ∈ l, a.name ≠ lowS n) : getS l n = noS ∧ ¬ 0 ≤ findP l n := by
  have : findP l n = -1 := by
    cases hr : rightA l with
    | false => exact findP_bad (.inl hr)
    | true =>
      cases hn : rightS n with
      | false => exact findP_bad (.inr hn)
      | true =>
        rw [findP_ref hr hn]
        exact posA_miss (h hr hn)
  unfold getS
  rw [this]
  exact ⟨rfl, by omega⟩
/-- What is got hangs on who is of the name alone. -/
theorem get_ext {l m : List AttrM} {n : ByteArray} (hl : rightA l = true) (hm : rightA m = true) (h : ∀ a : AttrM, a.name = lowS n → (a ∈ l ↔ a ∈ m)) : getS l n = getS m n ∧ decide (0 ≤ findP l n) = decide (0 ≤ findP m n) := by
  cases hn : rightS n with
  | false =>
    obtain ⟨a, b⟩ := get_miss (l := l) (n := n) (fun _ h => by rw [hn] at h; cases h)
    obtain ⟨c, d⟩ := get_miss (l := m) (n := n) (fun _ h => by rw [hn] at h; cases h)
    rw [a, c, decide_eq_false b, decide_eq_false d]; exact ⟨rfl, rfl⟩
  | true =>
    by_cases hx : ∃ a ∈ l, a.name = lowS n
    · obtain ⟨⟨an, av⟩, ha, e⟩ := hx
      have e : an = lowS n := e
      subst e
      obtain ⟨a, b⟩ := get_hit hl hn ha
      obtain ⟨c, d⟩ := get_hit hm hn ((h _ rfl).1 ha)
      rw [a, c, decide_eq_true b, decide_eq_true d]; exact ⟨rfl, rfl⟩
    · obtain ⟨a, b⟩ := get_miss (l := l) (n := n) (fun _ _ x hx' e => hx ⟨x, hx', e⟩)
      obtain ⟨c, d⟩ := get_miss (l := m) (n := n) (fun _ _ x hx' e => hx ⟨x, (h x e).2 hx', e⟩)
      rw [a, c, decide_eq_false b, decide_eq_false d]; exact ⟨rfl, rfl⟩
/-! #### what removing does -/
theorem cut_get (l : List AttrM) (k i : Nat) : (cutA l k)[i]? = if i < k then l[i]? else l[i + 1]? := by
  unfold cutA
  rw [List.getElem?_append, List.length_take, List.getElem?_take, List.getElem?_drop]
  by_cases h : i < k
  · by_cases h2 : i < l.length
    · rw [if_pos (by omega), if_pos h, if_pos h]
    · rw [if_neg (by omega), if_pos h, List.getElem?_eq_none (by omega), List.getElem?_eq_none (by omega)]
  · rw [if_neg (by omega), if_neg h]
    by_cases h2 : k ≤ l.length
    · congr 1; omega
    · rw [List.getElem?_eq_none (by omega), List.getElem?_eq_none (by omega)]
theorem mem_cut_iff {l : List AttrM} {k : Nat} {o : AttrM} (hn : (l.map AttrM.name).Nodup) (hk : l[k]? = some o) (a : AttrM) : a ∈ cutA l k ↔ a ∈ l ∧ a.name ≠ o.name := by
  constructor
  · intro h
    obtain ⟨i, hi⟩ := List.getElem?_of_mem h
    rw [cut_get] at hi
    split at hi
    · exact ⟨List.mem_of_getElem? hi, fun e => by have := names_inj hn hi hk e; omega⟩
    · exact ⟨List.mem_of_getElem? hi, fun e => by have := names_inj hn hi hk e; omega⟩
  · rintro ⟨h1, h2⟩
    obtain ⟨i, hi⟩ := List.getElem?_of_mem h1
    have hik : i ≠ k := by rintro rfl; rw [hi] at hk; cases hk; exact h2 rfl
    by_cases h : i < k
    · exact List.mem_of_getElem? (i := i) (by rw [cut_get, if_pos h, hi])
    · obtain ⟨j, rfl⟩ : ∃ j, i = j + 1 := ⟨i - 1, by omega⟩
      exact List.mem_of_getElem? (i := j) (by rw [cut_get, if_neg (by omega), hi])
theorem cut_names {l : List AttrM} {k : Nat} (hn : (l.map AttrM.name).Nodup) : ((cutA l k).map AttrM.name).Nodup := by
  refine names_of fun i j a b ha hb e => ?_
  rw [cut_get] at ha hb
  split at ha <;> split at hb <;> (have := names_inj hn ha hb e; omega)
theorem remove_ok {l : List AttrM} {n : ByteArray} (h : 0 ≤ findP l n) : rightA (removeA l n).1 = true ∧ (removeA l n).1.length + 1 = l.length ∧ ∀ a, a ∈ (removeA l n).1 ↔ a ∈ l ∧ a.name ≠ lowS n := by
  obtain ⟨hE, _⟩ := findE_pos h
  obtain ⟨h1, h2, _⟩ := findE_zero hE
  obtain ⟨r1, r2, r3⟩ := rightA_all h1
  unfold removeA
  rw [if_pos h]
  rw [findP_ref h1 h2] at h ⊢
  rcases posA_cases l (lowS n) with ⟨e, _⟩ | ⟨k, o, e1, e2, e3⟩
  · omega
  · rw [e1, Int.toNat_natCast]
    have hk := (List.getElem?_eq_some_iff.1 e2).1
    have hm := mem_cut_iff r3 e2
    have hlen := cutA_len hk
    rw [e3] at hm
    refine ⟨rightA_of (by show (cutA l k).length ≤ 40; omega) (fun a ha => r2 a ((hm a).1 ha).1) (cut_names r3), by show (cutA l k).length + 1 = _; omega, hm⟩
theorem setA_len (l : List AttrM) (n v : ByteArray) : (setA l n v).1.length ≤ l.length + 1 := by
  unfold setA; repeat' split
  all_goals simp
theorem removeA_len (l : List AttrM) (n : ByteArray) : (removeA l n).1.length ≤ l.length := by
  unfold removeA; split
  · simp [cutA]; omega
  · simp
theorem toggleA_len (l : List AttrM) (n : ByteArray) (f : Int) : (toggleA l n f).1.length ≤ l.length + 1 := by
  have h1 := setA_len l n noS
  have h2 := removeA_len l n
  unfold toggleA; repeat' split
  all_goals (try dsimp only)
  all_goals omega
theorem removeA_snd (l : List AttrM) (n : ByteArray) : (removeA l n).2 = decide (0 ≤ findP l n) := by
  unfold removeA; split <;> simp_all
end Go.Proofs.Attr
end
