/- Plain laws of setting in either order, and of lists alike. By an AI agent. -/
import Derived.Test.YtcgiapfnjijfkaaAB
import Derived.Test.YtcgiapfnjijfkaaAC
section
namespace Go.Proofs.Attr
open Go.Am Go.RowKit Go.Lib
set_option maxRecDepth 100000
/-- A list without doubles that lies in another is no longer than it. -/
theorem sub_len {α : Type} [DecidableEq α] : ∀ (l m : List α), l.Nodup → (∀ a ∈ l, a ∈ m) → l.length ≤ m.length
  | [], m, _, _ => Nat.zero_le _
  | a :: r, m, hn, h => by
    rw [List.nodup_cons] at hn
    have ha := h a (List.mem_cons_self ..)
    have := sub_len r (m.erase a) hn.2 fun b hb => by
      have hne : b ≠ a := fun e => hn.1 (e ▸ hb)
      exact (List.mem_erase_of_ne hne).2 (h b (List.mem_cons_of_mem _ hb))
    have hl := List.length_erase_of_mem ha
    have hp := List.length_pos_of_mem ha
    simp only [List.length_cons]; omega
theorem sub_back {α : Type} [DecidableEq α] : ∀ (l m : List α), l.Nodup → (∀ a ∈ l, a ∈ m) → m.length ≤ l.length → ∀ b ∈ m, b ∈ l
  | [], m, _, _, hl, b, hb => by have : m = [] := by simpa using hl
                                 subst this; exact hb
  | a :: r, m, hn, h, hl, b, hb => by
    rw [List.nodup_cons] at hn
    have ha := h a (List.mem_cons_self ..)
    have he := List.length_erase_of_mem ha
    have hp := List.length_pos_of_mem ha
    by_cases e : b = a
    · rw [e]; exact List.mem_cons_self ..
    · refine List.mem_cons_of_mem _ (sub_back r (m.erase a) hn.2 (fun c hc => ?_) (by simp only [List.length_cons] at hl; omega) b ((List.mem_erase_of_ne e).2 hb))
      have hne : c ≠ a := fun e => hn.1 (e ▸ hc)
      exact (List.mem_erase_of_ne hne).2 (h c (List.mem_cons_of_mem _ hc))
theorem alike_of {l m : List AttrM} (hl : rightA l = true) (hm : rightA m = true) (h : ∀ a, a ∈ l ↔ a ∈ m) : alikeA l m = true := by
  have h1 := sub_len l m (nodup_of_names (rightA_nodup hl)) fun a ha => (h a).1 ha
  have h2 := sub_len m l (nodup_of_names (rightA_nodup hm)) fun a ha => (h a).2 ha
  rw [alikeA_eq, hl, hm, decide_eq_true (by omega : l.length = m.length)]
  simp only [Bool.and_self, Bool.true_and, List.all_eq_true]
  intro a ha
  exact decide_eq_true ((h a).1 ha)
theorem alike_elim {l m : List AttrM} (h : alikeA l m = true) : rightA l = true ∧ rightA m = true ∧ l.length = m.length ∧ ∀ a, a ∈ l ↔ a ∈ m := by
  rw [alikeA_eq] at h
  simp only [Bool.and_eq_true, decide_eq_true_eq, List.all_eq_true] at h
  obtain ⟨⟨⟨h1, h2⟩, h3⟩, h4⟩ := h
  have h5 : ∀ a ∈ l, a ∈ m := fun a ha => of_decide_eq_true (h4 a ha)
  exact ⟨h1, h2, h3, fun a => ⟨h5 a, sub_back l m (nodup_of_names (rightA_nodup h1)) h5 (by omega) a⟩⟩
/-- What AttrOrder says of the models. -/
theorem order_ok {l : List AttrM} {a b x y : ByteArray} (hab : lowS a ≠ lowS b) {m n o p : List AttrM} {e f g h : Int} (h1 : setA l a x = (m, e)) (h2 : setA m b y = (n, f)) (h3 : setA l b y = (o, g)) (h4 : setA o a x = (p, h))
    (he : e = 0) (hf : f = 0) (hg : g = 0) (hh : h = 0) : alikeA n p = true ∧ alikeA p n = true ∧ (getS p a = x ∧ decide (0 ≤ findP p a) = true) ∧ (getS n b = y ∧ decide (0 ≤ findP n b) = true) := by
  have s1 := (set_ok (l := l) (n := a) (v := x) (by rw [h1]; exact he)).2
  have s2 := (set_ok (l := m) (n := b) (v := y) (by rw [h2]; exact hf)).2
  have s3 := (set_ok (l := l) (n := b) (v := y) (by rw [h3]; exact hg)).2
  have s4 := (set_ok (l := o) (n := a) (v := x) (by rw [h4]; exact hh)).2
  rw [h1] at s1; rw [h2] at s2; rw [h3] at s3; rw [h4] at s4
  have hmem : ∀ c, c ∈ n ↔ c ∈ p := by
    intro c
    rw [s2.mem, s1.mem, s4.mem, s3.mem]
    constructor
    · rintro (rfl | ⟨rfl | ⟨k1, k2⟩, k3⟩)
      · exact .inr ⟨.inl rfl, fun e => hab e.symm⟩
      · exact .inl rfl
      · exact .inr ⟨.inr ⟨k1, k3⟩, k2⟩
    · rintro (rfl | ⟨rfl | ⟨k1, k2⟩, k3⟩)
      · exact .inr ⟨.inl rfl, hab⟩
      · exact .inl rfl
      · exact .inr ⟨.inr ⟨k1, k3⟩, k2⟩
  have g1 := get_hit s4.right s4.name ((s4.mem _).2 (.inl rfl))
  have g2 := get_hit s2.right s2.name ((s2.mem _).2 (.inl rfl))
  exact ⟨alike_of s2.right s4.right hmem, alike_of s4.right s2.right fun c => (hmem c).symm, ⟨g1.1, decide_eq_true g1.2⟩, ⟨g2.1, decide_eq_true g2.2⟩⟩
theorem set_bad {l : List AttrM} (hr : rightA l = false) (n v : ByteArray) : setA l n v = (l, 1) := by unfold setA findE; simp [hr]
theorem set_len {l : List AttrM} {n v : ByteArray} (h : (setA l n v).2 = 0) : (setA l n v).1.length = if ∃ a ∈ l, a.name = lowS n then l.length else l.length + 1 := by
  obtain ⟨hr, so⟩ := set_ok h
  unfold setA at h ⊢
  rw [if_pos (findE_right hr so.name), if_pos so.value, findP_ref hr so.name] at h ⊢
  rcases posA_cases l (lowS n) with ⟨e, hno⟩ | ⟨k, o, e1, e2, e3⟩
  · rw [e, if_neg (by omega)] at h ⊢
    rw [if_neg (show ¬ ∃ a ∈ l, a.name = lowS n from fun ⟨a, ha, e⟩ => hno a ha e)]
    split at h
    · cases h
    · rename_i hl; rw [if_neg hl]; simp
  · rw [e1, if_pos (by omega), if_pos ⟨o, List.mem_of_getElem? e2, e3⟩]; simp
theorem order_bad {l : List AttrM} {a b x y : ByteArray} (hab : lowS a ≠ lowS b) {m n o p : List AttrM} {e f g h : Int} (h1 : setA l a x = (m, e)) (h2 : setA m b y = (n, f)) (h3 : setA l b y = (o, g)) (h4 : setA o a x = (p, h)) :
    (e = 0 ∧ f = 0 ∧ g = 0 ∧ h = 0) ∨ (e ≠ 0 ∧ h ≠ 0) ∨ (f ≠ 0 ∧ g ≠ 0) ∨ (f = 3 ∧ h = 3) := by
  cases hr : rightA l with
  | false =>
    rw [set_bad hr] at h1 h3
    cases h1; cases h3
    rw [set_bad hr] at h4; cases h4
    exact .inr (.inl ⟨by omega, by omega⟩)
  | true =>
    -- the list behind a set, whether it went well or not
    have step : ∀ {l r : List AttrM} {n v : ByteArray} {i : Int}, rightA l = true → setA l n v = (r, i) → rightA r = true ∧ (∀ k, k ≠ lowS n → ((∃ c ∈ r, c.name = k) ↔ ∃ c ∈ l, c.name = k)) ∧ (i ≠ 0 → r.length = l.length) ∧ (i = 0 → r.length = if ∃ a ∈ l, a.name = lowS n then l.length else l.length + 1) := by
      intro l r n v i hr hs
      have hse := set_fail (l := l) (n := n) (v := v)
      have hso := set_ok (l := l) (n := n) (v := v)
      have hsl := set_len (l := l) (n := n) (v := v)
      rw [hs] at hse hso hsl
      by_cases hi : i = 0
      · obtain ⟨_, so⟩ := hso hi
        refine ⟨so.right, fun k hk => ?_, fun h => absurd hi h, hsl⟩
        constructor
        · rintro ⟨c, hc, rfl⟩
          rcases (so.mem c).1 hc with rfl | ⟨h, _⟩
          · exact absurd rfl hk
          · exact ⟨c, h, rfl⟩
        · rintro ⟨c, hc, rfl⟩
          exact ⟨c, (so.mem c).2 (.inr ⟨hc, hk⟩), rfl⟩
      · have : r = l := hse hi
        subst this
        exact ⟨hr, fun _ _ => Iff.rfl, fun _ => rfl, fun h => absurd h hi⟩
    obtain ⟨hm, km, lm, zm⟩ := step hr h1
    obtain ⟨ho, ko, lo, zo⟩ := step hr h3
    have e1 := set_err hr a x
    have e2 := set_err hm b y
    have e3 := set_err hr b y
    have e4 := set_err ho a x
    rw [h1] at e1; rw [h2] at e2; rw [h3] at e3; rw [h4] at e4
    simp only at e1 e2 e3 e4
    simp only [km _ (fun e => hab e.symm)] at e2
    simp only [ko _ hab] at e4
    cases hna : rightS a with
    | false =>
      rw [hna] at e1 e4
      simp only [Bool.false_eq_true, if_false] at e1 e4
      exact .inr (.inl ⟨by omega, by omega⟩)
    | true =>
      cases hnb : rightS b with
      | false =>
        rw [hnb] at e2 e3
        simp only [Bool.false_eq_true, if_false] at e2 e3
        exact .inr (.inr (.inl ⟨by omega, by omega⟩))
      | true =>
        rw [hna] at e1 e4; rw [hnb] at e2 e3
        simp only [if_true] at e1 e2 e3 e4
        by_cases hx : x.size ≤ 200
        · by_cases hy : y.size ≤ 200
          · rw [if_pos hx] at e1 e4; rw [if_pos hy] at e2 e3
            by_cases pa : ∃ c ∈ l, c.name = lowS a
            · rw [if_pos (.inl pa)] at e1 e4
              have := zm e1
              rw [if_pos pa] at this
              by_cases pb : ∃ c ∈ l, c.name = lowS b
              · rw [if_pos (.inl pb)] at e2 e3
                exact .inl ⟨e1, e2, e3, e4⟩
              · by_cases hl : l.length = 40
                · rw [if_neg (not_or.2 ⟨pb, fun h => h (by omega)⟩)] at e2
                  rw [if_neg (not_or.2 ⟨pb, fun h => h hl⟩)] at e3
                  exact .inr (.inr (.inl ⟨by omega, by omega⟩))
                · rw [if_pos (.inr (by omega))] at e2
                  rw [if_pos (.inr hl)] at e3
                  exact .inl ⟨e1, e2, e3, e4⟩
            · by_cases pb : ∃ c ∈ l, c.name = lowS b
              · rw [if_pos (.inl pb)] at e2 e3
                have := zo e3
                rw [if_pos pb] at this
                by_cases hl : l.length = 40
                · rw [if_neg (not_or.2 ⟨pa, fun h => h hl⟩)] at e1
                  rw [if_neg (not_or.2 ⟨pa, fun h => h (by omega)⟩)] at e4
                  exact .inr (.inl ⟨by omega, by omega⟩)
                · rw [if_pos (.inr hl)] at e1
                  rw [if_pos (.inr (by omega))] at e4
                  exact .inl ⟨e1, e2, e3, e4⟩
              · by_cases hl : l.length = 40
                · rw [if_neg (not_or.2 ⟨pa, fun h => h hl⟩)] at e1
                  rw [if_neg (not_or.2 ⟨pb, fun h => h hl⟩)] at e3
                  have := lo (by omega)
                  rw [if_neg (not_or.2 ⟨pa, fun h => h (by omega)⟩)] at e4
                  exact .inr (.inl ⟨by omega, by omega⟩)
                · rw [if_pos (.inr hl)] at e1 e3
                  have q1 := zm e1
                  have q2 := zo e3
                  rw [if_neg pa] at q1; rw [if_neg pb] at q2
                  by_cases hl2 : l.length = 39
                  · rw [if_neg (not_or.2 ⟨pb, fun h => h (by omega)⟩)] at e2
                    rw [if_neg (not_or.2 ⟨pa, fun h => h (by omega)⟩)] at e4
                    exact .inr (.inr (.inr ⟨e2, e4⟩))
                  · rw [if_pos (.inr (by omega))] at e2 e4
                    exact .inl ⟨e1, e2, e3, e4⟩
          · rw [if_neg hy] at e2 e3
            exact .inr (.inr (.inl ⟨by omega, by omega⟩))
        · rw [if_neg hx] at e1 e4
          exact .inr (.inl ⟨by omega, by omega⟩)
end Go.Proofs.Attr
end
