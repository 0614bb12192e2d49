/- Rules of code over abstract states, and contracts of functions. By an AI agent. -/
import Derived.Test.YtgfbnphfgeeldaaAm4
namespace Go.Am

/-- From whatever is as σ says the code comes to an end in one of the ways Q. nL: how many objects were lent (their names are 0 .. nL - 1). -/
def AWp (P : Program) (N nL : Nat) (c : Code) (Q : Exit → AState → Prop) (σ : AState) : Prop :=
  ∀ (w0 : World) (W0 : Nat → Prop) (L μ : Mu) (a : Act) (w : World), (∀ t, nL ≤ t → L t = none) → Sim N w0 W0 L μ σ a w →
    c.wp P (fun e a' w' => ∃ μ' σ', Q e σ' ∧ Sim N w0 W0 L μ' σ' a' w') a w

def thenA (next : AState → Prop) (Q : Exit → AState → Prop) : Exit → AState → Prop
  | .normal, σ => next σ
  | e, σ => Q e σ
def inBlockA (id : Nat) (Q : Exit → AState → Prop) : Exit → AState → Prop
  | .exit id', σ => if id' = id then Q .normal σ else Q (.exit id') σ
  | e, σ => Q e σ

section
variable {P : Program} {N nL : Nat} {Q : Exit → AState → Prop} {σ : AState}

theorem AWp.seq {x y : Code} (h : AWp P N nL x (thenA (AWp P N nL y Q) Q) σ) : AWp P N nL (.seq x y) Q σ := by
  intro w0 W0 L μ a w hL hs
  refine wp_seq (wp_mono (h w0 W0 L μ a w hL hs) ?_)
  rintro e a' w' ⟨μ', σ', hq, hs'⟩
  cases e with
  | normal => exact hq w0 W0 L μ' a' w' hL hs'
  | _ => exact ⟨μ', σ', hq, hs'⟩
theorem AWp.seq_k {x y : Code} (h : ∀ K : AState → Prop, (∀ σ, AWp P N nL y Q σ → K σ) → AWp P N nL x (thenA K Q) σ) : AWp P N nL (.seq x y) Q σ := AWp.seq (h _ fun _ h => h)
theorem AWp.skip (h : Q .normal σ) : AWp P N nL .skip Q σ := fun _ _ _ μ _ _ _ hs => wp_skip ⟨μ, σ, h, hs⟩
theorem AWp.ret (h : Q .ret σ) : AWp P N nL .ret Q σ := fun _ _ _ μ _ _ _ hs => wp_ret ⟨μ, σ, h, hs⟩
theorem AWp.exit {id : Nat} (h : Q (.exit id) σ) : AWp P N nL (.exit id) Q σ := fun _ _ _ μ _ _ _ hs => wp_exit ⟨μ, σ, h, hs⟩
theorem AWp.label {l : Nat} (h : Q .normal σ) : AWp P N nL (.label l) Q σ := fun _ _ _ μ _ _ _ hs => wp_label ⟨μ, σ, h, hs⟩
theorem AWp.cond {c : Operand} {x y : Code} {b : Bool} (hc : σ.eval c = .lit (.bool b)) (ht : b = true → AWp P N nL x Q σ) (hf : b = false → AWp P N nL y Q σ) : AWp P N nL (.cond c x y) Q σ := by
  intro w0 W0 L μ a w hL hs
  have h1 := hs.eval c
  rw [hc] at h1
  have hv : a.eval c = .bool b := by generalize a.eval c = v at h1; cases h1; rfl
  refine wp_cond hv ?_
  cases b
  · exact hf rfl w0 W0 L μ a w hL hs
  · exact ht rfl w0 W0 L μ a w hL hs
theorem AWp.condGuess {c : Operand} {x y : Code} {p q : Prop} (hc : σ.eval c = .guess p q) (ht : p → AWp P N nL x Q σ) (hf : q → AWp P N nL y Q σ) : AWp P N nL (.cond c x y) Q σ := by
  intro w0 W0 L μ a w hL hs
  have h1 := hs.eval c
  rw [hc] at h1
  generalize hv : a.eval c = v at h1
  cases h1 with
  | @guess _ _ b h1 h2 =>
    refine wp_cond hv ?_
    cases b
    · exact hf (h2 rfl) w0 W0 L μ a w hL hs
    · exact ht (h1 rfl) w0 W0 L μ a w hL hs
theorem AWp.block {id : Nat} {c : Code} (h : AWp P N nL c (inBlockA id Q) σ) : AWp P N nL (.block id c) Q σ := by
  intro w0 W0 L μ a w hL hs
  refine wp_block (wp_mono (h w0 W0 L μ a w hL hs) ?_)
  rintro e a' w' ⟨μ', σ', hq, hs'⟩
  cases e with
  | exit id' =>
    simp only [inBlockA] at hq
    simp only [Exit.inBlock]
    split at hq
    · rename_i h; rw [if_pos h]; exact ⟨μ', σ', hq, hs'⟩
    · rename_i h; rw [if_neg h]; exact ⟨μ', σ', hq, hs'⟩
  | _ => exact ⟨μ', σ', hq, hs'⟩
theorem AWp.loop {c : Code} (I : Nat → AState → Prop) (h0 : ∃ n, I n σ) (round : ∀ n σ, I n σ → AWp P N nL c (thenA (fun σ' => ∃ m, m < n ∧ I m σ') Q) σ) : AWp P N nL (.loop c) Q σ := by
  intro w0 W0 L μ a w hL hs
  have key : ∀ (n : Nat) (σ : AState) (μ : Mu) (a : Act) (w : World), I n σ → Sim N w0 W0 L μ σ a w → ∀ (b : Frame) (k : List Item) (cs : List Frame),
      ∃ e a' w', (∃ μ' σ', Q e σ' ∧ Sim N w0 W0 L μ' σ' a' w') ∧ Arrives P (lone (b.at a (.code c :: .inLoop c :: k)) cs w) b k cs e a' w' := by
    intro n
    induction n using Nat.strongRecOn with
    | _ n ih =>
      intro σ μ a w hI hs b k cs
      obtain ⟨e, a₁, w₁, ⟨μ₁, σ₁, hq, hs₁⟩, harr⟩ := round n σ hI w0 W0 L μ a w hL hs b (.inLoop c :: k) cs
      cases e with
      | normal =>
        obtain ⟨m, hm, hI'⟩ := hq
        obtain ⟨e₂, a₂, w₂, hq₂, harr₂⟩ := ih m hm σ₁ μ₁ a₁ w₁ hI' hs₁ b k cs
        exact ⟨e₂, a₂, w₂, hq₂, .of_steps (Steps.trans harr (.one step_inLoop)) harr₂⟩
      | exit id => exact ⟨_, a₁, w₁, ⟨μ₁, σ₁, hq, hs₁⟩, .pass (x := .inLoop c) rfl (fun _ _ => .inl (by simp)) harr⟩
      | goto l => exact ⟨_, a₁, w₁, ⟨μ₁, σ₁, hq, hs₁⟩, .pass (x := .inLoop c) rfl (fun _ _ => .inl (by simp)) harr⟩
      | ret => exact ⟨_, a₁, w₁, ⟨μ₁, σ₁, hq, hs₁⟩, .pass (x := .inLoop c) rfl (fun _ _ => .inl (by simp)) harr⟩
      | panic ch => exact ⟨_, a₁, w₁, ⟨μ₁, σ₁, hq, hs₁⟩, .pass (x := .inLoop c) rfl (fun _ _ => .inl (by simp)) harr⟩
      | outgrown => exact ⟨_, a₁, w₁, ⟨μ₁, σ₁, hq, hs₁⟩, .pass (x := .inLoop c) rfl (fun _ _ => .inl (by simp)) harr⟩
  intro b k cs
  obtain ⟨n, hn⟩ := h0
  obtain ⟨e, a', w', hq, harr⟩ := key n σ μ a w hn hs b k cs
  exact ⟨e, a', w', hq, .of_steps (.one step_loop) harr⟩
theorem AWp.region {id : Nat} {l : List Oper} (h : AReg P N l.toArray l σ (fun _ σ' => Q .normal σ')) : AWp P N nL (.region id l.toArray false) Q σ := by
  intro w0 W0 L μ a w hL hs
  exact wp_region_lit (h.list hs fun _ σ' hq μ' a' w' hs' => ⟨μ', σ', hq, hs'⟩)
theorem AWp.draws {id : Nat} {l : List Oper} (hm : P.follows .mixedOrders = true) (hB : Region.lexB .any l.toArray = true)
    (h : AReg P N l.toArray l σ (fun es σ' => tokOK l.toArray (es.map Eff.toks) = true ∧ Q .normal σ')) : AWp P N nL (.region id l.toArray true) Q σ := by
  intro w0 W0 L μ a w hL hs
  exact AReg.draws hm hB h hs fun σ' hq μ' a' w' hs' => ⟨μ', σ', hq, hs'⟩
theorem AWp.mono {c : Code} {Q' : Exit → AState → Prop} (h : AWp P N nL c Q σ) (hq : ∀ e σ, Q e σ → Q' e σ) : AWp P N nL c Q' σ := fun w0 W0 L μ a w hL hs =>
  wp_mono (h w0 W0 L μ a w hL hs) fun _ _ _ ⟨μ', σ', h1, h2⟩ => ⟨μ', σ', hq _ _ h1, h2⟩
end

/-- σ' says no more than σ. -/
structure Weaker (nL : Nat) (ρ : Nat → Nat) (F : Nat → Prop) (σ' σ : AState) : Prop where
  slots : ∀ i, Cv σ.mem ρ (fun t => σ'.mem t ≠ .free) F (σ'.slots i) (σ.slots i)
  mem : ∀ t, σ'.mem t = .free ∨ (σ'.mem t = .dead ∧ σ.mem (ρ t) ≠ .free) ∨
    ∃ wd rows' rows ro ro0, σ'.mem t = .live wd rows' ro ∧ σ.mem (ρ t) = .live wd rows ro0 ∧ (ro = false → ro0 = false) ∧ Wide wd rows' ∧ CvL σ.mem ρ (fun t => σ'.mem t ≠ .free) F rows' rows
  inj : ∀ t t', σ'.mem t ≠ .free → σ'.mem t' ≠ .free → ρ t = ρ t' → t = t'
  frz : ∀ s, F s → (∃ wd rows ro, σ.mem s = .live wd rows ro) ∧ ∀ t wd rows, σ'.mem t = .live wd rows false → ρ t ≠ s
  lent : ∀ t, t < nL → ρ t = t ∧ σ'.mem t ≠ .free

theorem Weaker.sim {N nL : Nat} {w0 : World} {W0 : Nat → Prop} {L μ : Mu} {σ σ' : AState} {a a' : Act} {w : World} {ρ : Nat → Nat} {F : Nat → Prop} (h : Weaker nL ρ F σ' σ) (hL : ∀ t, nL ≤ t → L t = none)
    (hs : Sim N w0 W0 L μ σ a w) {N' : Nat} (hsl : N' = N ∧ a' = a ∨ (∀ i, σ'.slots i = .any) ∧ a'.tmps.size = N' ∧ a'.defers = []) :
    ∃ μ', Sim N' w0 W0 L μ' σ' a' w ∧ ∀ x y v, Cv σ.mem ρ (fun t => σ'.mem t ≠ .free) F x y → Rep (Wr W0 μ σ.mem) μ w y v → Rep (Wr W0 μ' σ'.mem) μ' w x v := by
  classical
  let μ' : Mu := fun t => if σ'.mem t = .free then none else μ (ρ t)
  have hμ' : ∀ t, σ'.mem t ≠ .free → μ' t = μ (ρ t) := fun t ht => if_neg ht
  have live : ∀ t wd rows ro, σ'.mem t = .live wd rows ro → ∃ rows0 ro0, σ.mem (ρ t) = .live wd rows0 ro0 ∧ (ro = false → ro0 = false) ∧ Wide wd rows ∧ CvL σ.mem ρ (fun t => σ'.mem t ≠ .free) F rows rows0 := by
    intro t wd rows ro ht
    rcases h.mem t with h1 | ⟨h1, _⟩ | ⟨wd', rows', rows0, ro', ro0, h1, h2, h3, h4, h5⟩
    · rw [h1] at ht; cases ht
    · rw [h1] at ht; cases ht
    · rw [h1] at ht; cases ht; exact ⟨rows0, ro0, h2, h3, h4, h5⟩
  have nf : ∀ t wd rows ro, σ'.mem t = .live wd rows ro → σ'.mem t ≠ .free := fun t wd rows ro h e => by rw [h] at e; cases e
  have mine : ∀ b, Mine μ' σ'.mem b → Mine μ σ.mem b := by
    rintro b ⟨t, B, wd, rows, h1, h2, h3, hv⟩
    obtain ⟨rows0, ro0, k1, k2, _⟩ := live t wd rows false h1
    rw [k2 rfl] at k1
    exact ⟨ρ t, B, wd, rows0, k1, by rw [← hμ' t (nf _ _ _ _ h1)]; exact h2, h3, hv⟩
  have hW : ∀ b, b < w.heap.size → Wr W0 μ' σ'.mem b → Wr W0 μ σ.mem b := fun b _ hb => hb.imp id (mine b)
  have hF : ∀ s B, F s → μ s = some B → B.virt = false → ¬ Wr W0 μ' σ'.mem B.b := by
    intro s B hs' hB hv
    obtain ⟨⟨wds, rowss, ros, hlive⟩, hne⟩ := h.frz s hs'
    rintro (hw0 | ⟨t, B', wd, rows, h1, h2, h3, hv'⟩)
    · exact (hs.out s _ _ _ B hlive hB hv).1 hw0
    · obtain ⟨rows0, ro0, k1, k2, _⟩ := live t wd rows false h1
      rw [k2 rfl] at k1
      rw [hμ' t (nf _ _ _ _ h1)] at h2
      exact hs.inj (ρ t) s _ _ _ _ _ B' B (hne t wd rows h1) k1 hlive h2 hB hv' hv h3
  have rep : ∀ x y v, Cv σ.mem ρ (fun t => σ'.mem t ≠ .free) F x y → Rep (Wr W0 μ σ.mem) μ w y v → Rep (Wr W0 μ' σ'.mem) μ' w x v :=
    fun x y v hc hy => hc.rep hs.objs hW hμ' hF hy
  have objs : ∀ t wd rows ro, σ'.mem t = .live wd rows ro → ∃ B, μ' t = some B ∧ ObjAt (Wr W0 μ' σ'.mem) μ' w B wd rows ro := by
    intro t wd rows ro ht
    obtain ⟨rows0, ro0, k1, k2, k3, k4⟩ := live t wd rows ro ht
    obtain ⟨B, hB, hobj⟩ := hs.objs (ρ t) wd rows0 ro0 k1
    refine ⟨B, by rw [hμ' t (nf _ _ _ _ ht)]; exact hB, hobj.width, k3, fun hv => ?_, fun hv => ?_, fun q c hq => ?_⟩
    · obtain ⟨C, e, fz, c1, c2, c3⟩ := hobj.blk hv
      exact ⟨C, e, fz, c1, fun hr => c2 (k2 hr), by rw [k4.1]; exact c3⟩
    · have := k4.1
      rw [hobj.virt hv] at this
      exact List.eq_nil_of_length_eq_zero this
    have hfl := k4.flat k3 hobj.wide
    obtain ⟨d, hd⟩ : ∃ d, (flat rows0)[q]? = some d := ⟨_, List.getElem?_eq_getElem (by rw [← hfl.1]; exact (List.getElem?_eq_some_iff.1 hq).1)⟩
    obtain ⟨v, v1, v2⟩ := hobj.cell q d hd
    exact ⟨v, v1, rep c d v (hfl.2 q c d hq hd) v2⟩
  have slots : ∀ i, Rep (Wr W0 μ' σ'.mem) μ' w (σ'.slots i) (a'.tmps.getD i undef) := by
    intro i
    rcases hsl with ⟨_, rfl⟩ | ⟨h1, _, _⟩
    · exact rep _ _ _ (h.slots i) (hs.slots i)
    · rw [h1 i]; exact .any
  refine ⟨μ', ⟨?_, ?_, hs.os, hs.tape, hs.output, hs.hsize, hs.keep, hs.w0lt, fun t B hB => ?_, fun t => ?_, slots, objs, ?_, ?_⟩, rep⟩
  · rcases hsl with ⟨h1, rfl⟩ | ⟨_, h1, _⟩
    · rw [h1]; exact hs.tsize
    · exact h1
  · rcases hsl with ⟨h1, rfl⟩ | ⟨_, _, h1⟩
    · exact hs.defers
    · exact h1
  · have ht : t < nL := by
      rcases Nat.lt_or_ge t nL with h' | h'
      · exact h'
      · rw [hL t h'] at hB; cases hB
    obtain ⟨l1, l2⟩ := h.lent t ht
    rw [hμ' t l2, l1]; exact hs.lentμ t B hB
  · constructor
    · intro ht; exact if_pos ht
    · intro ht
      by_cases hf : σ'.mem t = .free
      · exact hf
      · exfalso
        rw [hμ' t hf] at ht
        have := (hs.free (ρ t)).2 ht
        rcases h.mem t with h1 | ⟨_, h2⟩ | ⟨wd', rows', rows0, ro', ro0, h1, h2, _⟩
        · exact hf h1
        · exact h2 this
        · rw [h2] at this; cases this
  · intro t t' wd rows wd' rows' ro' B B' hne h1 h2 h3 h4 v1 v2
    obtain ⟨r1, o1, k1, k2, _⟩ := live _ _ _ _ h1
    obtain ⟨r2, o2, k3, _⟩ := live _ _ _ _ h2
    rw [k2 rfl] at k1
    rw [hμ' t (nf _ _ _ _ h1)] at h3
    rw [hμ' t' (nf _ _ _ _ h2)] at h4
    exact hs.inj _ _ _ _ _ _ _ B B' (fun e => hne (h.inj t t' (nf _ _ _ _ h1) (nf _ _ _ _ h2) e)) k1 k3 h3 h4 v1 v2
  · intro t wd rows ro B h1 h2 hv
    obtain ⟨r1, o1, k1, k2, _⟩ := live _ _ _ _ h1
    rw [hμ' t (nf _ _ _ _ h1)] at h2
    have := hs.out _ _ _ _ B k1 h2 hv
    exact ⟨this.1, fun hr => this.2 (k2 hr)⟩

theorem AWp.weaker {P : Program} {N nL : Nat} {c : Code} {Q : Exit → AState → Prop} {σ σ' : AState} (ρ : Nat → Nat) (F : Nat → Prop) (h : Weaker nL ρ F σ' σ) (hc : AWp P N nL c Q σ') : AWp P N nL c Q σ := by
  intro w0 W0 L μ a w hL hs
  obtain ⟨μ', hs', _⟩ := h.sim hL hs (.inl ⟨rfl, rfl⟩)
  exact hc w0 W0 L μ' a w hL hs'

/-- The state of objects alone. -/
def objsOf (l : List MS) : Nat → MS := fun t => (l[t]?).getD .free
def bare (l : List MS) : AState := ⟨fun _ => .any, objsOf l⟩
def noAct : Act := { tmps := #[], defers := [] }

/-- The contract of a function: called with arguments (that may point into the objects 'ins', which are lent) it hands back 'res', and leaves the objects 'outs': what was lent, and new ones. Nothing else that was there has changed. -/
def FnOK (P : Program) (f : FuncId) (ins : List MS) (args : List AV) (outs : List MS) (res : AV) : Prop :=
  ∀ (w : World) (W0 : Nat → Prop) (L : Mu) (vs : List Value), (∀ t, ins.length ≤ t → L t = none) → Sim 0 w W0 L L (bare ins) noAct w → RepL (Wr W0 L (objsOf ins)) L w args vs →
    Calls P f vs.toArray w fun e w' => ∃ v μ', e = .returned v ∧ Sim 0 w W0 L μ' (bare outs) noAct w' ∧ Rep (Wr W0 μ' (objsOf outs)) μ' w' res v

end Go.Am
