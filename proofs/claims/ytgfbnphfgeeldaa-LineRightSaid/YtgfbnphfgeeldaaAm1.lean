/- Abstract values and what it means that they describe values in memory. By an AI agent. -/
import Derived.WalkKit
import Derived.Orders
namespace Go.Am


/-- Abstract values. 'guess': a bool that is not known, and what it says; 'emp': an empty slice without room; 'sl': a slice that nobody changes; 'own': a slice of an object of this frame; 'ptr': a pointer into such an object (row i, cell k); 'fptr': a pointer into memory that nobody changes. -/
inductive AV where
  | any
  | emp
  | guess (p q : Prop)
  | lit (x : Value)
  | sl (wd : Nat) (rows : List AV)
  | own (t off len : Nat)
  | ptr (t i k : Nat)
  | fptr (e : AV) (k : Nat)
  | agg (cs : List AV)
  | tup (vs : List AV)
  | clo (f : Fn) (first captured : List AV)
  deriving Inhabited

def cells : AV → List AV
  | .agg cs => cs
  | .lit (.agg xs) => xs.toList.map .lit
  | x => [x]

def flat (rows : List AV) : List AV := rows.flatMap cells

/-- Where an object lies: block, first cell, cells a row. virt: it has no rows, and lies nowhere. -/
structure Blk where
  b : Nat
  o : Nat
  wd : Nat
  virt : Bool := false

abbrev Mu := Nat → Option Blk

/-- What an abstract value stands for: W: the blocks that may be written; μ: where the frame's objects lie. -/
inductive Rep (W : Nat → Prop) (μ : Mu) (w : World) : AV → Value → Prop
  | any {v} : Rep W μ w .any v
  | lit {x} : Rep W μ w (.lit x) x
  | guess {p q : Prop} {b : Bool} : (b = true → p) → (b = false → q) → Rep W μ w (.guess p q) (.bool b)
  | emp {a} : Rep W μ w .emp (.slice a 0 0)
  | slNil {wd a cap} : Rep W μ w (.sl wd []) (.slice a 0 cap)
  | sl {wd : Nat} {rows : List AV} {b o cap n : Nat} {f : Nat → Value} : ¬ W b → b < w.heap.size → n = rows.length → n ≤ cap →
      (∀ (i : Nat) (r : AV), rows[i]? = some r → (cells r).length = wd) →
      (∀ (q : Nat) (c : AV), (flat rows)[q]? = some c → w.cell? ⟨b, o + q, none⟩ = some (f q)) →
      (∀ (q : Nat) (c : AV), (flat rows)[q]? = some c → Rep W μ w c (f q)) → Rep W μ w (.sl wd rows) (.slice (some ⟨b, o, none⟩) n cap)
  | own {t off len cap : Nat} {e : TypeId} {n : Nat} {B : Blk} : μ t = some B → B.virt = false → len ≤ cap → w.shape? B.b = some (e, n) → B.o + (off + cap) * B.wd ≤ n →
      Rep W μ w (.own t off len) (.slice (some ⟨B.b, B.o + off * B.wd, none⟩) len cap)
  | ownNil {t off a} {B : Blk} : μ t = some B → Rep W μ w (.own t off 0) (.slice a 0 0)
  | ptr {t i k} {B : Blk} : μ t = some B → Rep W μ w (.ptr t i k) (.pointer (some ⟨B.b, B.o + (i * B.wd + k), none⟩))
  | fptr {e : AV} {k b o : Nat} {f : Nat → Value} : ¬ W b → b < w.heap.size →
      (∀ (q : Nat) (c : AV), (cells e)[q]? = some c → w.cell? ⟨b, o + q, none⟩ = some (f q)) →
      (∀ (q : Nat) (c : AV), (cells e)[q]? = some c → Rep W μ w c (f q)) → Rep W μ w (.fptr e k) (.pointer (some ⟨b, o + k, none⟩))
  | agg {cs : List AV} {vs : List Value} : vs.length = cs.length → (∀ (j : Nat) (c : AV) (v : Value), cs[j]? = some c → vs[j]? = some v → Rep W μ w c v) → Rep W μ w (.agg cs) (.agg vs.toArray)
  | tup {cs : List AV} {vs : List Value} : vs.length = cs.length → (∀ (j : Nat) (c : AV) (v : Value), cs[j]? = some c → vs[j]? = some v → Rep W μ w c v) → Rep W μ w (.tup cs) (.tuple vs.toArray)
  | clo {f : Fn} {as bs : List AV} {va vb : List Value} : va.length = as.length → vb.length = bs.length → (∀ (j : Nat) (c : AV) (v : Value), as[j]? = some c → va[j]? = some v → Rep W μ w c v) →
      (∀ (j : Nat) (c : AV) (v : Value), bs[j]? = some c → vb[j]? = some v → Rep W μ w c v) → Rep W μ w (.clo f as bs) (.func f va.toArray vb.toArray)

/-- From (W, μ, w) to (W', μ', w'): nothing but blocks in W has changed; no block has another shape; no old block came into W; no object moved. -/
structure Grow (W : Nat → Prop) (μ : Mu) (w : World) (W' : Nat → Prop) (μ' : Mu) (w' : World) : Prop where
  size : w.heap.size ≤ w'.heap.size
  blk : ∀ b, ¬ W b → b < w.heap.size → w'.heap[b]? = w.heap[b]?
  shape : ∀ b e n, w.shape? b = some (e, n) → w'.shape? b = some (e, n)
  wr : ∀ b, b < w.heap.size → W' b → W b
  mu : ∀ t B, μ t = some B → μ' t = some B

theorem Grow.refl (W : Nat → Prop) (μ : Mu) (w : World) : Grow W μ w W μ w := ⟨Nat.le_refl _, fun _ _ _ => rfl, fun _ _ _ h => h, fun _ _ h => h, fun _ _ h => h⟩

theorem Grow.trans {W W' W'' : Nat → Prop} {μ μ' μ'' : Mu} {w w' w'' : World} (h : Grow W μ w W' μ' w') (k : Grow W' μ' w' W'' μ'' w'') : Grow W μ w W'' μ'' w'' where
  size := Nat.le_trans h.size k.size
  blk b hb hl := by rw [k.blk b (fun hw => hb (h.wr b hl hw)) (Nat.lt_of_lt_of_le hl h.size), h.blk b hb hl]
  shape b e n hs := k.shape _ _ _ (h.shape _ _ _ hs)
  wr b hl hw := h.wr b hl (k.wr b (Nat.lt_of_lt_of_le hl h.size) hw)
  mu t B hm := k.mu _ _ (h.mu _ _ hm)

theorem Grow.cell {W W' : Nat → Prop} {μ μ' : Mu} {w w' : World} (h : Grow W μ w W' μ' w') {b q : Nat} (hb : ¬ W b) (hl : b < w.heap.size) : w'.cell? ⟨b, q, none⟩ = w.cell? ⟨b, q, none⟩ :=
  World.cell?_of_block (h.blk b hb hl)

theorem Rep.grow {W W' : Nat → Prop} {μ μ' : Mu} {w w' : World} (g : Grow W μ w W' μ' w') {x : AV} {v : Value} (h : Rep W μ w x v) : Rep W' μ' w' x v := by
  induction h with
  | any => exact .any
  | lit => exact .lit
  | guess h1 h2 => exact .guess h1 h2
  | emp => exact .emp
  | slNil => exact .slNil
  | sl hW hb hn hc hwd hcell _ ih => exact .sl (fun h => hW (g.wr _ hb h)) (Nat.lt_of_lt_of_le hb g.size) hn hc hwd (fun q c hq => by rw [g.cell hW hb]; exact hcell q c hq) (fun q c hq => ih q c hq)
  | own hm hv hl hs ho => exact .own (g.mu _ _ hm) hv hl (g.shape _ _ _ hs) ho
  | ownNil hm => exact .ownNil (g.mu _ _ hm)
  | ptr hm => exact .ptr (g.mu _ _ hm)
  | fptr hW hb hcell _ ih => exact .fptr (fun h => hW (g.wr _ hb h)) (Nat.lt_of_lt_of_le hb g.size) (fun q c hq => by rw [g.cell hW hb]; exact hcell q c hq) (fun q c hq => ih q c hq)
  | agg hl _ ih => exact .agg hl (fun j c v h1 h2 => ih j c v h1 h2)
  | tup hl _ ih => exact .tup hl (fun j c v h1 h2 => ih j c v h1 h2)
  | clo h1 h2 _ _ ih1 ih2 => exact .clo h1 h2 (fun j c v a b => ih1 j c v a b) (fun j c v a b => ih2 j c v a b)

/-- A list of values, each as its abstract value says. -/
def RepL (W : Nat → Prop) (μ : Mu) (w : World) (cs : List AV) (vs : List Value) : Prop :=
  vs.length = cs.length ∧ ∀ (j : Nat) (c : AV) (v : Value), cs[j]? = some c → vs[j]? = some v → Rep W μ w c v

theorem RepL.nil {W : Nat → Prop} {μ : Mu} {w : World} : RepL W μ w [] [] := ⟨rfl, fun j c v h => by simp at h⟩
theorem RepL.cons {W : Nat → Prop} {μ : Mu} {w : World} {c : AV} {v : Value} {cs : List AV} {vs : List Value} (h : Rep W μ w c v) (hs : RepL W μ w cs vs) : RepL W μ w (c :: cs) (v :: vs) :=
  ⟨by simp [hs.1], fun j d u h1 h2 => by
    cases j with
    | zero => simp at h1 h2; subst h1; subst h2; exact h
    | succ j => simp at h1 h2; exact hs.2 j d u h1 h2⟩
theorem RepL.grow {W W' : Nat → Prop} {μ μ' : Mu} {w w' : World} (g : Grow W μ w W' μ' w') {cs : List AV} {vs : List Value} (h : RepL W μ w cs vs) : RepL W' μ' w' cs vs :=
  ⟨h.1, fun j c v a b => (h.2 j c v a b).grow g⟩
theorem RepL.append {W : Nat → Prop} {μ : Mu} {w : World} {cs ds : List AV} {vs us : List Value} (h : RepL W μ w cs vs) (k : RepL W μ w ds us) : RepL W μ w (cs ++ ds) (vs ++ us) := by
  refine ⟨by simp [h.1, k.1], fun j c v a b => ?_⟩
  rw [List.getElem?_append] at a b
  rw [h.1] at b
  split at a
  · rename_i hj; rw [if_pos hj] at b; exact h.2 _ _ _ a b
  · rename_i hj; rw [if_neg hj] at b; exact k.2 _ _ _ a b
theorem RepL.uncons {W : Nat → Prop} {μ : Mu} {w : World} {c : AV} {cs : List AV} {vs : List Value} (h : RepL W μ w (c :: cs) vs) : ∃ v us, vs = v :: us ∧ Rep W μ w c v ∧ RepL W μ w cs us := by
  cases vs with
  | nil => simp [RepL] at h
  | cons v us =>
    refine ⟨v, us, rfl, h.2 0 c v rfl rfl, by simpa using h.1, fun j d u a b => h.2 (j + 1) d u (by simpa using a) (by simpa using b)⟩
theorem RepL.unnil {W : Nat → Prop} {μ : Mu} {w : World} {vs : List Value} (h : RepL W μ w [] vs) : vs = [] := by
  cases vs with
  | nil => rfl
  | cons v us => simp [RepL] at h
theorem RepL.lits {W : Nat → Prop} {μ : Mu} {w : World} (vs : List Value) : RepL W μ w (vs.map .lit) vs :=
  ⟨by simp, fun j c v a b => by
    rw [List.getElem?_map, b] at a
    simp at a; subst a; exact .lit⟩
theorem RepL.of_lits {W : Nat → Prop} {μ : Mu} {w : World} {xs vs : List Value} (h : RepL W μ w (xs.map .lit) vs) : vs = xs := by
  induction xs generalizing vs with
  | nil => exact h.unnil
  | cons x xs ih =>
    obtain ⟨v, us, rfl, hv, hu⟩ := RepL.uncons (by simpa using h)
    cases hv
    rw [ih hu]

/-- Is it known what it stands for? -/
def AV.solid : AV → Bool
  | .any => false
  | _ => true

/-- The cells of a value stand for its abstract value's. -/
theorem Rep.cells {W : Nat → Prop} {μ : Mu} {w : World} {x : AV} {v : Value} (h : Rep W μ w x v) (hx : x.solid = true) : RepL W μ w (Am.cells x) v.cells.toList := by
  cases h with
  | any => simp [AV.solid] at hx
  | lit =>
    cases v with
    | agg xs => exact RepL.lits xs.toList
    | _ => exact .cons .lit .nil
  | agg hl h => simpa [Am.cells, Value.cells] using ⟨hl, h⟩
  | guess h1 h2 => exact .cons (.guess h1 h2) .nil
  | emp => exact .cons .emp .nil
  | slNil => exact .cons .slNil .nil
  | sl a b c d e f g => exact .cons (.sl a b c d e f g) .nil
  | own a b c d e => exact .cons (.own a b c d e) .nil
  | ownNil a => exact .cons (.ownNil a) .nil
  | ptr a => exact .cons (.ptr a) .nil
  | fptr a b c d => exact .cons (.fptr a b c d) .nil
  | tup a b => exact .cons (.tup a b) .nil
  | clo a b c d => exact .cons (.clo a b c d) .nil

/-- Is it surely the value of one cell? -/
def AV.one : AV → Bool
  | .any => false
  | .agg _ => false
  | .tup _ => false
  | .lit x => x.oneCell'
  | _ => true
theorem Rep.one {W : Nat → Prop} {μ : Mu} {w : World} {x : AV} {v : Value} (h : Rep W μ w x v) (hx : x.one = true) : v.oneCell' = true := by
  cases h <;> simp_all [AV.one, Value.oneCell']

theorem flat_append (a b : List AV) : flat (a ++ b) = flat a ++ flat b := by simp [flat]
theorem flat_nil : flat [] = [] := rfl
theorem flat_cons (a : AV) (b : List AV) : flat (a :: b) = cells a ++ flat b := by simp [flat]

def Wide (wd : Nat) (rows : List AV) : Prop := ∀ (i : Nat) (r : AV), rows[i]? = some r → (cells r).length = wd
theorem Wide.tail {wd : Nat} {r : AV} {rows : List AV} (h : Wide wd (r :: rows)) : (cells r).length = wd ∧ Wide wd rows :=
  ⟨h 0 r rfl, fun i s hs => h (i + 1) s (by simpa using hs)⟩
theorem Wide.nil (wd : Nat) : Wide wd [] := fun i r h => by simp at h
theorem Wide.cons {wd : Nat} {r : AV} {rows : List AV} (h : (cells r).length = wd) (hs : Wide wd rows) : Wide wd (r :: rows) := fun i s h' => by
  cases i with
  | zero => simp at h'; subst h'; exact h
  | succ i => exact hs i s (by simpa using h')
theorem Wide.append {wd : Nat} {a b : List AV} (ha : Wide wd a) (hb : Wide wd b) : Wide wd (a ++ b) := fun i s h' => by
  rw [List.getElem?_append] at h'
  split at h'
  · exact ha _ _ h'
  · exact hb _ _ h'
theorem Wide.mem {wd : Nat} {a : List AV} (ha : Wide wd a) {r : AV} (hr : r ∈ a) : (cells r).length = wd := by
  obtain ⟨i, hi⟩ := List.getElem?_of_mem hr
  exact ha i r hi
theorem Wide.of_mem {wd : Nat} {a : List AV} (ha : ∀ r ∈ a, (cells r).length = wd) : Wide wd a := fun _ _ h => ha _ (List.mem_of_getElem? h)
theorem Wide.sub {wd : Nat} {a b : List AV} (ha : Wide wd a) (h : ∀ r ∈ b, r ∈ a) : Wide wd b := .of_mem fun r hr => ha.mem (h r hr)
theorem flat_length {wd : Nat} : ∀ {rows : List AV}, Wide wd rows → (flat rows).length = rows.length * wd
  | [], _ => by simp [flat]
  | r :: rows, h => by
    rw [flat_cons, List.length_append, h.tail.1, flat_length h.tail.2, List.length_cons, Nat.add_mul, Nat.one_mul, Nat.add_comm]
theorem flat_get {wd : Nat} : ∀ {rows : List AV}, Wide wd rows → ∀ {i k : Nat} {r c : AV}, rows[i]? = some r → (cells r)[k]? = some c → (flat rows)[i * wd + k]? = some c
  | [], _, i, k, r, c, h, _ => by simp at h
  | s :: rows, hw, 0, k, r, c, h, hk => by
    simp at h; subst h
    have hlt : k < (cells s).length := by
      rcases Nat.lt_or_ge k (cells s).length with h | h
      · exact h
      · rw [List.getElem?_eq_none h] at hk; cases hk
    rw [flat_cons, List.getElem?_append_left (by omega)]; simpa using hk
  | s :: rows, hw, i + 1, k, r, c, h, hk => by
    have := flat_get hw.tail.2 (i := i) (k := k) (r := r) (c := c) (by simpa using h) hk
    rw [flat_cons, List.getElem?_append_right (by rw [hw.tail.1, Nat.add_mul]; omega), hw.tail.1]
    rw [show (i + 1) * wd + k - wd = i * wd + k from by rw [Nat.add_mul]; omega]
    exact this
theorem flat_at {wd : Nat} : ∀ {rows : List AV}, Wide wd rows → ∀ {q : Nat} {c : AV}, (flat rows)[q]? = some c → ∃ i k r, q = i * wd + k ∧ rows[i]? = some r ∧ (cells r)[k]? = some c ∧ k < wd
  | [], _, q, c, h => by simp [flat] at h
  | s :: rows, hw, q, c, h => by
    rw [flat_cons, List.getElem?_append] at h
    split at h
    · rename_i hq
      exact ⟨0, q, s, by simp, by simp, h, by rw [← hw.tail.1]; exact hq⟩
    · rename_i hq
      obtain ⟨i, k, r, h1, h2, h3, h4⟩ := flat_at hw.tail.2 h
      rw [hw.tail.1] at h1 hq
      exact ⟨i + 1, k, r, by rw [Nat.add_mul]; omega, by simpa using h2, h3, h4⟩
end Go.Am
