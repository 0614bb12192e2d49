/- A region's operations in text order serve every drawn order. By an AI agent. -/
import Derived.Test.YtgfbnphfgeeldaaAm2
import Derived.Still
namespace Go.Am

/-- From any frame and world that are as σ says the operation goes on to some that are as σ' says. -/
def OpOK (P : Program) (N : Nat) (o : Oper) (σ σ' : AState) : Prop :=
  ∀ (w0 : World) (W0 : Nat → Prop) (L μ : Mu) (a : Act) (w : World) (K : Act → World → Prop) (Q : Exit → Act → World → Prop), Sim N w0 W0 L μ σ a w →
    (∀ μ' a' w', Sim N w0 W0 L μ' σ' a' w' → K a' w') → o.wp P a w K Q

/-- The operation has this effect wherever its operands and the objects 'rd' are as in σ. -/
def EffOK (P : Program) (N : Nat) (o : Oper) (σ : AState) (rd : List Nat) (v : AV) (ups : List (Nat × MS)) : Prop :=
  ∀ σ2 : AState, (∀ x ∈ o.op.operands, σ2.eval x = σ.eval x) → (∀ t ∈ rd, σ2.mem t = σ.mem t) → OpOK P N o σ2 (σ2.upd o.dst v ups)

structure Eff where
  o : Oper
  want : Bool
  σ : AState
  rd : List Nat
  v : AV
  ups : List (Nat × MS)

def AState.app (σ : AState) (e : Eff) : AState := σ.upd e.o.dst e.v e.ups

def Holds (ops : Array Oper) (e : Eff) (σ : AState) : Prop := (∀ s ∈ e.o.looksAt ops, σ.slots s = e.σ.slots s) ∧ ∀ t ∈ e.rd, σ.mem t = e.σ.mem t

def Wanted (N : Nat) (ops : Array Oper) (o : Oper) (σ : AState) (want : Bool) : Prop :=
  match o.guard with
  | none => want = true
  | some (j, b) => ∃ d c, (ops[j]?).bind (·.dst) = some d ∧ d < N ∧ σ.slots d = .lit (.bool c) ∧ want = (c == b)

structure EffGood (P : Program) (N : Nat) (ops : Array Oper) (e : Eff) : Prop where
  wanted : Wanted N ops e.o e.σ e.want
  dst : ∀ d, e.o.dst = some d → d < N
  ok : e.want = true → EffOK P N e.o e.σ e.rd e.v e.ups
  no : e.want = false → e.v = .lit undef ∧ e.ups = []

section
variable {P : Program} {N : Nat} {ops : Array Oper} {w0 : World} {W0 : Nat → Prop} {L μ : Mu} {σ : AState} {a : Act} {w : World}

theorem wanted_of (h : Sim N w0 W0 L μ σ a w) {o : Oper} {want : Bool} (hw : Wanted N ops o σ want) : Region.wanted o (yielded ops a.tmps) = want := by
  unfold Wanted at hw
  unfold Region.wanted
  split at hw
  · rename_i hg; simp [hg, hw]
  · rename_i j b hg
    obtain ⟨d, c, h1, h2, h3, h4⟩ := hw
    have hs := h.slots d
    rw [h3] at hs
    have hv : a.tmps.getD d undef = .bool c := by generalize a.tmps.getD d undef = v at hs; cases hs; rfl
    have hg' : a.tmps[d]? = some (.bool c) := by
      have hlt : d < a.tmps.size := by rw [h.tsize]; exact h2
      simp [hlt] at hv ⊢
      exact hv
    simp only [hg, yielded, h1, Option.bind_some, hg', h4]
    cases c <;> cases b <;> rfl

theorem Holds.wanted {e : Eff} (hh : Holds ops e σ) {want : Bool} (hw : Wanted N ops e.o e.σ want) : Wanted N ops e.o σ want := by
  unfold Wanted at *
  cases hg : e.o.guard with
  | none => simpa [hg] using hw
  | some jb =>
    obtain ⟨j, b⟩ := jb
    simp only [hg] at hw ⊢
    obtain ⟨d, c, h1, h2, h3, h4⟩ := hw
    refine ⟨d, c, h1, h2, ?_, h4⟩
    rw [hh.1 d (by simp [Oper.looksAt, hg, h1]), h3]

theorem Holds.eval {e : Eff} (hh : Holds ops e σ) : ∀ x ∈ e.o.op.operands, σ.eval x = e.σ.eval x := by
  intro x hx
  cases x with
  | tmp t => exact hh.1 t (List.mem_append_left _ (List.mem_filterMap.2 ⟨.tmp t, by simpa using hx, rfl⟩))
  | _ => rfl

/-- One operation with its effect. -/
theorem eff_step {e : Eff} (hg : EffGood P N ops e) (hh : Holds ops e σ) (h : Sim N w0 W0 L μ σ a w) {K : Act → World → Prop} {Q : Exit → Act → World → Prop}
    (hK : ∀ μ' a' w', Sim N w0 W0 L μ' (σ.app e) a' w' → K a' w') :
    if Region.wanted e.o (yielded ops a.tmps) then e.o.wp P a w K Q ∨ (e.o.asks P a w ∧ LetsOut Q) else K (a.put e.o.dst undef) w := by
  have hw := wanted_of h (hh.wanted hg.wanted)
  rw [hw]
  cases hwant : e.want with
  | true => simp only [if_true]; exact .inl (hg.ok hwant σ hh.eval hh.2 _ _ _ _ _ _ _ _ h hK)
  | false =>
    simp only [Bool.false_eq_true, if_false]
    obtain ⟨h1, h2⟩ := hg.no hwant
    refine hK μ _ _ ?_
    unfold AState.app AState.upd
    rw [h1, h2]
    exact h.put .lit hg.dst

/-- The walk in the order of the text: at the end the effects, and the state. -/
def AReg (P : Program) (N : Nat) (ops : Array Oper) : List Oper → AState → (List Eff → AState → Prop) → Prop
  | [], σ, K => K [] σ
  | o :: rest, σ, K => ∃ e : Eff, e.o = o ∧ e.σ = σ ∧ EffGood P N ops e ∧ AReg P N ops rest (σ.app e) (fun es σ' => K (e :: es) σ')

theorem Holds.self {e : Eff} : Holds ops e e.σ := ⟨fun _ _ => rfl, fun _ _ => rfl⟩

theorem AReg.list {Q : Exit → Act → World → Prop} : ∀ {l : List Oper} {σ : AState} {K : List Eff → AState → Prop} {μ : Mu} {a : Act} {w : World}, AReg P N ops l σ K → Sim N w0 W0 L μ σ a w →
    (∀ es σ', K es σ' → ∀ μ' a' w', Sim N w0 W0 L μ' σ' a' w' → Q .normal a' w') → wpList P ops Q l a w
  | [], σ, K, μ, a, w, h, hs, hK => hK [] σ h μ a w hs
  | o :: rest, σ, K, μ, a, w, h, hs, hK => by
    obtain ⟨e, rfl, rfl, hg, hr⟩ := h
    have := eff_step (K := wpList P ops Q rest) (Q := Q) hg Holds.self hs (fun μ' a' w' h' => AReg.list hr h' fun es σ' hk => hK (e :: es) σ' hk)
    unfold wpList
    exact this

/-- Do two effects touch nothing in common? -/
def tokApart (x y : List Nat × List Nat) : Bool := x.2.all (fun t => !y.1.contains t && !y.2.contains t) && y.2.all (fun t => !x.1.contains t)
def Eff.toks (e : Eff) : List Nat × List Nat := (e.rd, e.ups.map (·.1))

theorem updM_ne {m : Nat → MS} {ups : List (Nat × MS)} {t : Nat} (h : t ∉ ups.map (·.1)) : updM m ups t = m t := by
  induction ups with
  | nil => rfl
  | cons x r ih =>
    obtain ⟨u, s⟩ := x
    simp at h
    simp only [updM]
    rw [if_neg h.1]
    exact ih (by simpa using h.2)
theorem updM_in {m m' : Nat → MS} {ups : List (Nat × MS)} {t : Nat} (h : t ∈ ups.map (·.1)) : updM m ups t = updM m' ups t := by
  induction ups with
  | nil => simp at h
  | cons x r ih =>
    obtain ⟨u, s⟩ := x
    simp only [updM]
    split
    · rfl
    · rename_i hne; exact ih (by simp at h; simpa using h.resolve_left hne)
theorem putS_comm {s : Nat → AV} {d e : Option Tmp} {x y : AV} (h : ∀ i, d = some i → e ≠ some i) : putS (putS s d x) e y = putS (putS s e y) d x := by
  cases d with
  | none => rfl
  | some d =>
    cases e with
    | none => rfl
    | some e =>
      have hne : d ≠ e := fun h' => h d rfl (h' ▸ rfl)
      funext i
      simp only [putS]
      by_cases h1 : i = d
      · subst h1; simp [hne]
      · simp [h1]
theorem tokApart_spec {x y : List Nat × List Nat} (h : tokApart x y = true) : (∀ t ∈ x.2, t ∉ y.1) ∧ (∀ t ∈ x.2, t ∉ y.2) ∧ (∀ t ∈ y.2, t ∉ x.1) := by
  simp [tokApart] at h
  exact ⟨fun t ht => (h.1 t ht).1, fun t ht => (h.1 t ht).2, fun t ht => h.2 t ht⟩

theorem app_comm {x y : Eff} (hd : ∀ i, x.o.dst = some i → y.o.dst ≠ some i) (ht : tokApart x.toks y.toks = true) : (σ.app x).app y = (σ.app y).app x := by
  obtain ⟨_, h2, _⟩ := tokApart_spec ht
  unfold AState.app AState.upd
  simp only
  rw [putS_comm hd]
  congr 1
  funext t
  by_cases hx : t ∈ x.ups.map (·.1)
  · have hy : t ∉ y.ups.map (·.1) := h2 t hx
    rw [updM_ne hy, updM_in (m' := updM σ.mem y.ups) hx]
  · rw [updM_ne (ups := x.ups) hx]
    by_cases hy : t ∈ y.ups.map (·.1)
    · rw [updM_in (m' := σ.mem) hy]
    · rw [updM_ne hy, updM_ne hy, updM_ne hx]

/-- What is apart does not see the other's effect. -/
theorem Holds.app {x y : Eff} (hs : ∀ d, x.o.dst = some d → d ∉ y.o.looksAt ops) (ht : ∀ t ∈ x.ups.map (·.1), t ∉ y.rd) : Holds ops y (σ.app x) ↔ Holds ops y σ := by
  unfold Holds
  have h1 : ∀ s ∈ y.o.looksAt ops, (σ.app x).slots s = σ.slots s := by
    intro s hm
    unfold AState.app AState.upd
    cases hd : x.o.dst with
    | none => rfl
    | some d =>
      have : s ≠ d := fun e => hs d hd (e ▸ hm)
      simp [putS, this]
  have h2 : ∀ t ∈ y.rd, (σ.app x).mem t = σ.mem t := fun t hm => updM_ne (fun hx => ht t hx hm)
  constructor
  · rintro ⟨a, b⟩
    exact ⟨fun s hm => by rw [← h1 s hm, a s hm], fun t hm => by rw [← h2 t hm, b t hm]⟩
  · rintro ⟨a, b⟩
    exact ⟨fun s hm => by rw [h1 s hm, a s hm], fun t hm => by rw [h2 t hm, b t hm]⟩

def aAny (ops : Array Oper) (es : List Eff) (K : AState → Prop) : Nat → Array Bool → AState → Prop
  | 0, listed, σ => Region.ready .any ops listed = [] ∧ K σ
  | fuel + 1, listed, σ => (Region.ready .any ops listed = [] → K σ) ∧
      ∀ i ∈ Region.ready .any ops listed, ∃ e, es[i]? = some e ∧ Holds ops e σ ∧ aAny ops es K fuel (listed.setIfInBounds i true) (σ.app e)

def Fits (P : Program) (N : Nat) (ops : Array Oper) (es : List Eff) : Prop := ∀ (i : Nat) (e : Eff), es[i]? = some e → ops[i]? = some e.o ∧ EffGood P N ops e

theorem aAny_sound {es : List Eff} {K : AState → Prop} {Q : Exit → Act → World → Prop} (hf : Fits P N ops es)
    (hK : ∀ σ', K σ' → ∀ μ' a' w', Sim N w0 W0 L μ' σ' a' w' → Q .normal a' w') :
    ∀ (fuel : Nat) (listed : Array Bool) (σ : AState) (μ : Mu) (a : Act) (w : World), aAny ops es K fuel listed σ → Sim N w0 W0 L μ σ a w → wpAny P .any ops Q fuel listed a w
  | 0, listed, σ, μ, a, w, h, hs => ⟨h.1, hK σ h.2 μ a w hs⟩
  | fuel + 1, listed, σ, μ, a, w, h, hs => by
    refine ⟨fun hr => hK σ (h.1 hr) μ a w hs, fun i hi => ?_⟩
    obtain ⟨e, h1, h2, h3⟩ := h.2 i hi
    obtain ⟨h4, h5⟩ := hf i e h1
    have := eff_step (Q := Q) h5 h2 hs (fun μ' a' w' h' => aAny_sound hf hK fuel _ _ μ' a' w' h3 h')
    unfold wpOp
    simp only [h4]
    exact this

theorem aAny_first {es : List Eff} {K : AState → Prop} {i : Nat} {x : Eff} (hf : ∀ (j : Nat) (e : Eff), es[j]? = some e → ops[j]? = some e.o) (hi : es[i]? = some x) :
    ∀ (fuel : Nat) (listed : Array Bool) (σ : AState),
      (∀ (j : Nat) (y : Eff), es[j]? = some y → j ≠ i → listed.getD j true = false → (∀ e ∈ y.o.after, Region.binds .any e = true → e.on ≠ i) → x.o.apart ops y.o = true ∧ tokApart x.toks y.toks = true) →
      i ∈ Region.ready .any ops listed → Holds ops x σ →
      aAny ops es K fuel (listed.setIfInBounds i true) (σ.app x) → aAny ops es K (fuel + 1) listed σ := by
  intro fuel
  induction fuel with
  | zero =>
    intro listed σ _ hr hy H
    refine ⟨fun h => (by rw [h] at hr; cases hr), fun j hj => ?_⟩
    by_cases hji : j = i
    · subst hji; exact ⟨x, hi, hy, H⟩
    · have := ready_mono hj hji
      rw [H.1] at this
      cases this
  | succ fuel ih =>
    intro listed σ hfree hr hy H
    refine ⟨fun h => (by rw [h] at hr; cases hr), fun j hj => ?_⟩
    by_cases hji : j = i
    · subst hji; exact ⟨x, hi, hy, H⟩
    · obtain ⟨y, hy1, hy2, hy3⟩ := H.2 j (ready_mono hj hji)
      obtain ⟨hjun, oj, hoj, hall⟩ := mem_ready.1 hj
      have hoj' := hf j y hy1
      rw [hoj] at hoj'
      cases hoj'
      have hnot : ∀ e ∈ y.o.after, Region.binds .any e = true → e.on ≠ i := fun e he hb heq => by
        have h1 := hall e he hb
        have h0 := (mem_ready.1 hr).1
        rw [heq] at h1
        rcases Nat.lt_or_ge i listed.size with h' | h'
        · simp [h'] at h0 h1; rw [h0] at h1; cases h1
        · simp [Array.getElem?_eq_none h'] at h1
      obtain ⟨hap, htok⟩ := hfree j y hy1 hji hjun hnot
      obtain ⟨s1, s2, s3⟩ := Oper.apart_spec hap
      obtain ⟨t1, t2, t3⟩ := tokApart_spec htok
      have hyσ : Holds ops y σ := (Holds.app (x := x) s1 t1).1 hy2
      refine ⟨y, hy1, hyσ, ?_⟩
      refine ih (listed.setIfInBounds j true) (σ.app y) (fun k z hk hki hun hno => ?_) (ready_mono hr (Ne.symm hji)) ((Holds.app (x := y) (y := x) s3 t3).2 hy) ?_
      · refine hfree k z hk hki ?_ hno
        by_cases hjk : j = k
        · subst hjk; exact hjun
        · rw [getD_set_ne true hjk] at hun; exact hun
      · rw [← app_comm s2 htok, Array.setIfInBounds_comm _ _ hji]
        exact hy3

/-- For every two operations, the later one of which does not wait for the first: their effects touch nothing in common. -/
def tokOK (ops : Array Oper) (ts : List (List Nat × List Nat)) : Bool :=
  (List.range ts.length).all fun j => (List.range j).all fun i =>
    (match ops[j]? with
     | some o => o.after.any fun e => Region.binds .any e && e.on == i
     | none => false) || tokApart (ts.getD i ([], [])) (ts.getD j ([], []))

theorem tokOK_spec {es : List Eff} (h : tokOK ops (es.map Eff.toks) = true) {i j : Nat} {x y : Eff} (hij : i < j) (hx : es[i]? = some x) (hy : es[j]? = some y) (hoj : ops[j]? = some y.o)
    (hno : ∀ e ∈ y.o.after, Region.binds .any e = true → e.on ≠ i) : tokApart x.toks y.toks = true := by
  unfold tokOK at h
  have hj : j < es.length := (List.getElem?_eq_some_iff.1 hy).1
  have := List.all_eq_true.1 h j (by simpa using hj)
  have := List.all_eq_true.1 this i (by simpa using hij)
  simp only [hoj, List.getD_eq_getElem?_getD, List.getElem?_map, hx, hy, Option.map_some, Option.getD_some, Bool.or_eq_true] at this
  rcases this with h' | h'
  · rw [Array.any_eq_true] at h'
    obtain ⟨k, hk, h'⟩ := h'
    simp at h'
    exact absurd h'.2 (hno _ (Array.getElem_mem hk) h'.1)
  · exact h'

theorem AReg.trace {l : List Oper} : ∀ {σ : AState} {K : List Eff → AState → Prop}, AReg P N ops l σ K → ∃ es σ', K es σ' ∧ es.length = l.length ∧ (∀ (i : Nat) (e : Eff), es[i]? = some e → l[i]? = some e.o ∧ EffGood P N ops e) ∧
    (∀ k, k ≤ l.length → ∃ σk, (k = 0 → σk = σ) ∧ (k = l.length → σk = σ') ∧ ∀ e, es[k]? = some e → e.σ = σk) ∧
    (∀ (k : Nat) (e e' : Eff), es[k]? = some e → es[k + 1]? = some e' → e'.σ = e.σ.app e) ∧ (∀ e, es[0]? = some e → e.σ = σ) ∧ (∀ e, es.getLast? = some e → σ' = e.σ.app e) ∧ (es = [] → σ' = σ) := by
  induction l with
  | nil =>
    intro σ K h
    exact ⟨[], σ, h, rfl, by simp, fun k hk => ⟨σ, by simp, by simp, by simp⟩, by simp, by simp, by simp, by simp⟩
  | cons o rest ih =>
    intro σ K h
    obtain ⟨e, rfl, rfl, hg, hr⟩ := h
    obtain ⟨es, σ', h1, h2, h3, h4, h5, h6, h7, h8⟩ := ih hr
    refine ⟨e :: es, σ', h1, by simp [h2], ?_, ?_, ?_, by simp, ?_, by simp⟩
    · intro i e' hi
      cases i with
      | zero => simp at hi; subst hi; exact ⟨rfl, hg⟩
      | succ i => exact h3 i e' (by simpa using hi)
    · intro k hk
      cases k with
      | zero => exact ⟨e.σ, fun _ => rfl, by simp, by simp⟩
      | succ k =>
        obtain ⟨σk, a1, a2, a3⟩ := h4 k (by simpa using hk)
        exact ⟨σk, by simp, fun h => a2 (by simpa using h), fun e' he => a3 e' (by simpa using he)⟩
    · intro k x y hx hy
      cases k with
      | zero =>
        simp at hx hy
        subst hx
        exact h6 y (by simpa using hy)
      | succ k => exact h5 k x y (by simpa using hx) (by simpa using hy)
    · intro x hx
      cases es with
      | nil => simp at hx; subst hx; exact h8 rfl
      | cons z zs => exact h7 x (by simpa using hx)

/-- The order of the text, in the state that it comes to. -/
theorem aAny_lex {es : List Eff} {K : AState → Prop} {l : List Oper} (hl : ops.toList = l) (hlen : es.length = l.length) (hf : ∀ (i : Nat) (e : Eff), es[i]? = some e → ops[i]? = some e.o)
    (hchain : ∀ (k : Nat) (e e' : Eff), es[k]? = some e → es[k + 1]? = some e' → e'.σ = e.σ.app e) (hlast : ∀ e, es.getLast? = some e → K (e.σ.app e))
    (htok : tokOK ops (es.map Eff.toks) = true) :
    ∀ (n k : Nat) (listed : Array Bool) (σ : AState), n + k = es.length → (∀ e, es[k]? = some e → e.σ = σ) → (n = 0 → K σ) → (∀ j, j < k → listed.getD j true = true) → listed.size = ops.size → Region.lexFrom .any ops n k listed = true →
      aAny ops es K n listed σ
  | 0, k, listed, σ, hn, hσ, hK, hlst, hsz, hB => ⟨by simpa [Region.lexFrom] using hB, hK rfl⟩
  | n + 1, k, listed, σ, hn, hσ, hK, hlst, hsz, hB => by
    simp only [Region.lexFrom, Bool.and_eq_true] at hB
    obtain ⟨⟨hr, hfr⟩, hB'⟩ := hB
    have hk : k < es.length := by omega
    obtain ⟨e, he⟩ : ∃ e, es[k]? = some e := ⟨es[k], by simp [hk]⟩
    have hσe := hσ e he
    have h0 := hf k e he
    refine aAny_first hf he n listed σ (fun j y hy hjk hun hno => ⟨Region.free_spec h0 hfr j y.o (hf j y hy) hjk hun hno, ?_⟩) (by simpa using hr) (by rw [← hσe]; exact Holds.self) ?_
    · have hkj : k < j := by
        rcases Nat.lt_trichotomy j k with h | h | h
        · rw [hlst j h] at hun; cases hun
        · exact absurd h hjk
        · exact h
      exact tokOK_spec htok hkj he hy (hf j y hy) hno
    · refine aAny_lex hl hlen hf hchain hlast htok n (k + 1) _ _ (by omega) (fun e' he' => by rw [hchain k e e' he he', hσe]) (fun hn0 => ?_) (fun j hj => ?_) (by simp [hsz]) hB'
      · rw [← hσe]
        refine hlast e ?_
        rw [List.getLast?_eq_getElem?, show es.length - 1 = k from by omega]; exact he
      · by_cases hjk : k = j
        · subst hjk
          have : k < listed.size := by
            have := (Array.getElem?_eq_some_iff.1 h0).1
            omega
          simp [this]
        · rw [getD_set_ne true hjk]; exact hlst j (by omega)

/-- A region that draws its order. -/
theorem AReg.draws {Q : Exit → Act → World → Prop} {l : List Oper} {id : Nat} {K : AState → Prop} (hm : P.follows .mixedOrders = true) (hB : Region.lexB .any l.toArray = true)
    (h : AReg P N l.toArray l σ (fun es σ' => tokOK l.toArray (es.map Eff.toks) = true ∧ K σ')) (hs : Sim N w0 W0 L μ σ a w)
    (hK : ∀ σ', K σ' → ∀ μ' a' w', Sim N w0 W0 L μ' σ' a' w' → Q .normal a' w') : (Code.region id l.toArray true).wp P Q a w := by
  simp only [Region.lexB, Bool.and_eq_true] at hB
  obtain ⟨es, σ', ⟨htok, hk⟩, h2, h3, _, h5, h6, h7, h8⟩ := AReg.trace h
  refine wp_region_any hm ?_
  have hf : ∀ (i : Nat) (e : Eff), es[i]? = some e → l.toArray[i]? = some e.o := fun i e he => by simpa using (h3 i e he).1
  refine aAny_sound (es := es) (K := K) (fun i e he => ⟨hf i e he, (h3 i e he).2⟩) hK _ _ σ μ a _ ?_ (hs.drawn _)
  have hsize : l.toArray.size = es.length := by simp [h2]
  rw [hsize]
  refine aAny_lex (l := l) (by simp) h2 hf h5 (fun e he => by rw [← h7 e he]; exact hk) htok es.length 0 _ σ (by omega) (fun e he => h6 e he) (fun h0 => ?_) (fun j hj => by omega) (by simp [h2]) (by rw [← hsize]; exact hB.2)
  rw [← h8 (List.eq_nil_of_length_eq_zero h0)]; exact hk
end
end Go.Am
