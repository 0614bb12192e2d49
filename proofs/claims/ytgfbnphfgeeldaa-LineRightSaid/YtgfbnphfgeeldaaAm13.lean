/- That those functions say what the operations do. By an AI agent. -/
import Derived.Test.YtgfbnphfgeeldaaAm12
namespace Go.Am

section
variable {P : Program} {N : Nat} {Γ : TEnv}

theorem EffOK.binOp {σ : AState} {o : Oper} {op : BinOp} {t yt : TypeId} {y z : Operand} {a b r : Value} (ho : o.op = .binOp op t y z yt) (he : σ.eval y = .lit a) (he' : σ.eval z = .lit b)
    (hr : ∀ w, ((do eqGuard op t y z a b; Go.binOp op t a b : Sem Value)).run P w = .ok r w) (hd : ∀ d, o.dst = some d → d < N) : EffOK P N o σ [] (.lit r) [] :=
  .bin (y := y) (z := z) (f := fun u v => do eqGuard op t y z u v; Go.binOp op t u v) (fun ρ => by simp [execOp, ho]) (by simp [ho, Op.operands]) he he' hr hd
theorem EffOK.not {σ : AState} {o : Oper} {t : TypeId} {y : Operand} {b : Bool} (ho : o.op = .unOp .not t y) (he : σ.eval y = .lit (.bool b)) (hd : ∀ d, o.dst = some d → d < N) : EffOK P N o σ [] (.lit (.bool (!b))) [] :=
  .un1 (y := y) (f := fun a => Op.unary .not a) (fun ρ => by simp [execOp, ho]) (by simp [ho, Op.operands]) he (fun w => by simp [Op.unary]) hd

theorem eqNilA_ok (hΓ : Γ.Good P) {sl : List (Nat × AV)} {m : List (Nat × MS)} {o : Oper} {rd : List Nat} {x x0 : AV} {ups : List (Nat × MS)} {op : BinOp} {y z : Operand} {t yt : TypeId} {n : Nat} (h : eqNilA op (lookT Γ t) n = some (rd, x, ups))
    (ho : o.op = .binOp op t y z yt) (he : evO sl y = x0) (hz : evO sl z = .lit (.slice none 0 0)) (hx : (∃ tk off, x0 = .own tk off n) ∨ (∃ wd rows, x0 = .sl wd rows ∧ n = rows.length)) (hd : ∀ d, o.dst = some d → d < N) : EffOK P N o (St sl m) rd x ups := by
  unfold eqNilA at h
  split at h
  · rename_i ht; cases h
    have ok := hΓ.look ht
    obtain ⟨i, z, te⟩ := ok.2.2.2.2
    exact EffOK.eqNil ho (.inl rfl) (by rw [St_eval]; exact he) (by rw [St_eval]; exact hz) te.ty hx hd
  · rename_i ht; cases h
    have ok := hΓ.look ht
    obtain ⟨i, z, te⟩ := ok.2.2.2.2
    exact EffOK.eqNil ho (.inr rfl) (by rw [St_eval]; exact he) (by rw [St_eval]; exact hz) te.ty hx hd
  · cases h

theorem plainA_ok (hΓ : Γ.Good P) {sl : List (Nat × AV)} {m : List (Nat × MS)} {o : Oper} {rd : List Nat} {x : AV} {ups : List (Nat × MS)} (h : plainA Γ sl m o.dst o.op = some (rd, x, ups)) (hd : ∀ d, o.dst = some d → d < N) :
    EffOK P N o (St sl m) rd x ups := by
  have ev : ∀ y, (St sl m).eval y = evO sl y := St_eval sl m
  generalize hop : o.op = op at h
  unfold plainA at h
  split at h
  · cases h; rw [← ev]; exact .move hop hd
  · cases h; rw [← ev]; exact .assign hop hd
  · split at h
    · rename_i hc; cases h; exact .pick hop (by rw [ev]; exact hc) (by simp only [ev]) hd
    · cases h
  · split at h
    · rename_i he
      rw [Option.map_eq_some_iff] at h
      obtain ⟨y', h1, h2⟩ := h
      cases h2
      exact .extract hop (by rw [ev]; exact he) h1 hd
    · cases h
  · split at h
    · rename_i he ht
      split at h
      · rename_i hf
        rw [Option.map_eq_some_iff] at h
        obtain ⟨y', h1, h2⟩ := h
        cases h2
        have ok := hΓ.look ht
        exact .field hop (by rw [ev]; exact he) (ok.2.2.2.1 _ _ _ hf).2 (loadA_ok hΓ h1) hd
      · cases h
    · cases h
  · split at h
    · rename_i he
      split at h
      · rename_i hm
        split at h
        · rename_i hr
          rw [Option.map_eq_some_iff] at h
          obtain ⟨y', h1, h2⟩ := h
          cases h2
          exact .load_ptr hop (by rw [ev]; exact he) hm hr (loadA_ok hΓ h1) hd
        · cases h
      · cases h
    · rename_i he
      rw [Option.map_eq_some_iff] at h
      obtain ⟨y', h1, h2⟩ := h
      cases h2
      exact .load_fptr hop (by rw [ev]; exact he) (loadA_ok hΓ h1) hd
    · cases h
  · split at h
    · rename_i ht
      split at h
      · rename_i hf
        have ok := hΓ.look ht
        split at h
        · rename_i he; cases h; exact .fieldAddr_ptr hop (by rw [ev]; exact he) (ok.2.2.2.1 _ _ _ hf).1 hd
        · rename_i he; cases h; exact .fieldAddr_fptr hop (by rw [ev]; exact he) (ok.2.2.2.1 _ _ _ hf).1 hd
        · cases h
      · cases h
    · cases h
  · split at h
    · rename_i he; cases h; exact .nilCheck hop (by rw [ev]; exact he) (.inl ⟨_, _, _, rfl⟩) hd
    · rename_i he; cases h; exact .nilCheck hop (by rw [ev]; exact he) (.inr ⟨_, _, rfl⟩) hd
    · cases h
  · split at h
    · rename_i hdst
      split at h
      · rename_i he
        split at h
        · rename_i hm
          split at h
          · rename_i hr
            split at h
            · rename_i hst
              cases h
              obtain ⟨s1, s2, s3⟩ := storeA_ok hΓ hst
              exact .store hop (by rw [ev]; exact he) (ev _) hm hr s1 s2 s3 hdst
            · cases h
          · cases h
        · cases h
      · cases h
    · cases h
  · split at h
    · rename_i hdst
      split at h
      · rename_i hm
        split at h
        · rename_i hs; cases h; exact .box hop (ev _) hs hm hd
        · cases h
      · cases h
    · cases h
  · split at h
    · rename_i hdst
      split at h
      · rename_i hm
        split at h
        · rename_i hz
          cases h
          obtain ⟨z, z1, rfl⟩ := zeroA_ok hΓ hz
          exact .alloc hop z1 hm hd
        · cases h
      · cases h
    · cases h
  · cases h
    have : evO sl = (St sl m).eval := by funext y; exact (ev y).symm
    rw [this]
    exact .makeFunc hop hd
  · split at h
    · rename_i he1 he2
      exact eqNilA_ok hΓ h hop he1 he2 (.inl ⟨_, _, rfl⟩) hd
    · rename_i he1 he2
      exact eqNilA_ok hΓ h hop he1 he2 (.inr ⟨_, _, rfl, rfl⟩) hd
    · rename_i he1 he2
      split at h
      · rename_i ht
        rw [Option.map_eq_some_iff] at h
        obtain ⟨y', h1, h2⟩ := h
        cases h2
        have ok := hΓ.look ht
        exact .binOp hop (by rw [ev]; exact he1) (by rw [ev]; exact he2) (binB_run ok.2.2.2 h1 _ _) hd
      · rw [Option.map_eq_some_iff] at h
        obtain ⟨y', h1, h2⟩ := h
        cases h2
        exact .binOp hop (by rw [ev]; exact he1) (by rw [ev]; exact he2) (binV_run h1 _ _ _) hd
    · cases h
  · split at h
    · rename_i he
      cases h
      exact .not hop (by rw [ev]; exact he) hd
    · cases h
  · split at h
    · rename_i ht
      rw [Option.map_eq_some_iff] at h
      obtain ⟨y', h1, h2⟩ := h
      cases h2
      have ok := hΓ.look ht
      have hev : (fun p : Nat × Operand => (p.1, evO sl p.2)) = fun p => (p.1, (St sl m).eval p.2) := by funext p; rw [ev]
      rw [hev] at h1
      exact .build hop ok.2.2.2.2 h1 hd
    · cases h
  · rename_i c
    unfold lenA at h
    split at h
    rotate_left
    · cases h
    rename_i y t e1 e2 e3
    obtain ⟨callee, args, argTypes⟩ := c
    simp only at e1 e2 e3
    obtain rfl : args = #[y] := Array.ext' e2
    obtain rfl : argTypes = #[t] := Array.ext' e3
    subst e1
    split at h
    · rename_i ht
      have ok := hΓ.look ht
      obtain ⟨i, z, te⟩ := ok.2.2.2.2
      split at h
      · rename_i he; cases h; exact .len hop (by rw [ev]; exact he) te.ty (.inl ⟨_, _, rfl⟩) hd
      · rename_i he; cases h; exact .len hop (by rw [ev]; exact he) te.ty (.inr (.inl ⟨_, _, rfl, rfl⟩)) hd
      · rename_i he; cases h; exact .len hop (by rw [ev]; exact he) te.ty (.inr (.inr ⟨_, _, rfl⟩)) hd
      · cases h
    · rename_i ht
      have ok := hΓ.look ht
      split at h
      · rename_i he; cases h; exact .len_str hop (by rw [ev]; exact he) ok.2.2.2 hd
      · cases h
    · cases h
  · cases h

theorem bound_ok {sl : List (Nat × AV)} {m : List (Nat × MS)} {d l : Int} {lo : Option Operand} (h : boundA sl d lo = some l) (h0 : 0 ≤ l) (_hd0 : 0 ≤ d) : lo = none ∧ l.toNat = d.toNat ∨ ∃ z k, lo = some z ∧ (St sl m).eval z = .lit (.int k (l.toNat : Nat)) := by
  cases lo with
  | none => simp only [boundA, Option.some.injEq] at h; subst h; exact .inl ⟨rfl, rfl⟩
  | some z =>
    simp only [boundA] at h
    split at h
    · rename_i k n he
      cases h
      exact .inr ⟨z, k, rfl, by rw [St_eval, he, Int.toNat_of_nonneg h0]⟩
    · cases h

theorem condA_ok (hΓ : Γ.Good P) {sl : List (Nat × AV)} {m : List (Nat × MS)} {o : Oper} {c : Prop} {rd : List Nat} {x : AV} {ups : List (Nat × MS)} (h : condA Γ sl m o.dst o.op = some (c, rd, x, ups)) (hc : c) (hd : ∀ d, o.dst = some d → d < N) :
    EffOK P N o (St sl m) rd x ups := by
  have ev : ∀ y, (St sl m).eval y = evO sl y := St_eval sl m
  generalize hop : o.op = op at h
  unfold condA at h
  split at h
  · split at h
    · rename_i hz
      split at h
      · rename_i ht hy
        have ok := hΓ.look ht
        obtain ⟨i, z, te⟩ := ok.2.2.2.2
        split at h
        · rename_i hm
          split at h
          · rename_i hw; subst hw; cases h
            exact .index_own hop (by rw [ev]; exact hy) (by rw [ev]; exact hz) te.ty ok.2.2.2.1 hc.1 hc.2 ⟨_, _, hm⟩ hd
          · cases h
        · cases h
      · rename_i ht hy
        have ok := hΓ.look ht
        obtain ⟨i, z, te⟩ := ok.2.2.2.2
        split at h
        · rename_i hw; subst hw
          split at h
          · rename_i hr; cases h
            exact .index_sl hop (by rw [ev]; exact hy) (by rw [ev]; exact hz) te.ty ok.2.2.2.1 hc hr hd
          · cases h
        · cases h
      · rename_i ht hy
        have ok := hΓ.look ht
        cases h
        exact .index_arr hop (by rw [ev]; exact hy) (by rw [ev]; exact hz) ok.2.2.2.1 ok.2.2.2.2 hc.1 hc.2 hd
      · cases h
    · cases h
  · split at h
    · rename_i ht
      have ok := hΓ.look ht
      obtain ⟨i, z, te⟩ := ok.2.2.2.2
      split at h
      · rename_i hy
        split at h
        · rename_i hl hh hm
          split at h
          · rename_i hw; subst hw; cases h
            obtain ⟨c1, c2, c3⟩ := hc
            exact .slice_own hop (by rw [ev]; exact hy) (bound_ok hl c1 (Int.le_refl 0)) (by have := bound_ok (m := m) hh (Int.le_trans c1 c2) (Int.natCast_nonneg _); simpa using this) (by omega) (by omega) te.ty ok.2.2.2.1 ⟨_, _, hm⟩ hd
          · cases h
        · cases h
      · rename_i hy
        split at h
        · rename_i hl hh
          split at h
          · rename_i hw; subst hw; cases h
            obtain ⟨c1, c2, c3⟩ := hc
            exact .slice_sl hop (by rw [ev]; exact hy) (bound_ok hl c1 (Int.le_refl 0)) (by have := bound_ok (m := m) hh (Int.le_trans c1 c2) (Int.natCast_nonneg _); simpa using this) (by omega) (by omega) te.ty ok.2.2.2.1 hd
          · cases h
        · cases h
      · cases h
    · cases h
  · split at h
    · rename_i ht h1 h2
      have ok := hΓ.look ht
      obtain ⟨i, z, te⟩ := ok.2.2.2.2
      split at h
      · rename_i hy; cases h; exact .slice3 hop (by rw [ev]; exact hy) (.inl ⟨_, _, _, rfl⟩) (by rw [ev]; exact h1) (by rw [ev]; exact h2) te.ty ⟨_, ok.2.2.2.1⟩ hd
      · rename_i hy; cases h; exact .slice3 hop (by rw [ev]; exact hy) (.inr (.inl ⟨_, _, rfl⟩)) (by rw [ev]; exact h1) (by rw [ev]; exact h2) te.ty ⟨_, ok.2.2.2.1⟩ hd
      · rename_i hy; cases h; exact .slice3 hop (by rw [ev]; exact hy) (.inr (.inr (.inl rfl))) (by rw [ev]; exact h1) (by rw [ev]; exact h2) te.ty ⟨_, ok.2.2.2.1⟩ hd
      · rename_i hy; cases h; exact .slice3 hop (by rw [ev]; exact hy) (.inr (.inr (.inr rfl))) (by rw [ev]; exact h1) (by rw [ev]; exact h2) te.ty ⟨_, ok.2.2.2.1⟩ hd
      · cases h
    · cases h
  · split at h
    · rename_i hdst ht
      have ok := hΓ.look ht
      obtain ⟨i, z, te⟩ := ok.2.2.2.2
      split at h
      · rename_i hm
        split at h
        · rename_i hcond
          cases h
          obtain ⟨g1, g2, g3⟩ := hcond
          have hev : (fun p : Nat × Operand => (p.1, evO sl p.2)) = fun p => (p.1, (St sl m).eval p.2) := by funext p; rw [ev]
          rw [hev] at g1
          have hmap : (_root_.List.map (fun p => evO sl p.2) (‹Array (Nat × Operand)›).toList) = ((‹Array (Nat × Operand)›).toList.map fun p => (p.1, (St sl m).eval p.2)).map (·.2) := by
            rw [List.map_map]; apply List.map_congr_left; intro p _; simp [ev]
          have hfi := fill_inOrder _ 0 [] g1 (by simp)
          have := EffOK.buildSlice (P := P) (N := N) (σ := St sl m) (tk := 10 * _) hop te g3 (rows := ((‹Array (Nat × Operand)›).toList.map fun p => (p.1, (St sl m).eval p.2)).map (·.2)) (by simp [g2]) (inOrder_wide _ 0 g1)
            (by simp only [List.nil_append, List.length_map, g2] at hfi; exact hfi) hm hd
          rw [hmap]
          simp only [List.length_map, g2] at this
          exact this
        · cases h
      · cases h
    · cases h
  · rename_i c0
    unfold appA at h
    split at h
    rotate_left
    · cases h
    rename_i y z t t2 e1 e2 e3
    obtain ⟨callee, args, argTypes⟩ := c0
    simp only at e1 e2 e3
    obtain rfl : args = #[y, z] := Array.ext' e2
    obtain rfl : argTypes = #[t, t2] := Array.ext' e3
    subst e1
    split at h
    · rename_i hdst ht ht2
      have ok := hΓ.look ht
      obtain ⟨i, z, te⟩ := ok.2.2.2.2
      have ok2 := hΓ.look ht2
      obtain ⟨i2, z2, te2⟩ := ok2.2.2.2.2
      split at h
      · rename_i hm
        split at h
        · rename_i hb hx
          cases h
          obtain ⟨c1, c2, c3, c4, c5⟩ := hc
          exact .append hop te te2.ty (by rw [ev]; exact baseA_ok hb c1) (by rw [ev]; exact srcA_ok hx c2) c3 c4 (by unfold maxLen; omega) hm hd
        · cases h
      · cases h
    · cases h
  · cases h
end
end Go.Am
