/- Comparison of structs, operations on known values, and calls with a view of the arguments. By an AI agent. -/
import Derived.Test.YtgfbnphfgeeldaaAm17
import Derived.Laws.StructEq
import Derived.Tactics
/-! Own text: comparison of structs that hold known values. -/
namespace Go.Am
open Go
/-- The values, where all are known. -/
def litsOf : List AV → Option (List Value)
  | [] => some []
  | .lit v :: r => (litsOf r).map (v :: ·)
  | _ :: _ => none
theorem litsOf_rep {W : Nat → Prop} {μ : Mu} {w : World} : ∀ {cs : List AV} {us vs : List Value}, litsOf cs = some us → vs.length = cs.length → (∀ (j : Nat) (c : AV) (v : Value), cs[j]? = some c → vs[j]? = some v → Rep W μ w c v) → vs = us
  | [], us, vs, h, hl, _ => by
    simp [litsOf] at h; subst h; exact List.eq_nil_of_length_eq_zero (by simpa using hl)
  | c :: r, us, vs, h, hl, hr => by
    cases c with
    | lit x =>
      simp only [litsOf, Option.map_eq_some_iff] at h
      obtain ⟨us', h1, rfl⟩ := h
      cases vs with
      | nil => simp at hl
      | cons v vs =>
        have := hr 0 (.lit x) v rfl rfl
        cases this
        have ih := litsOf_rep (W := W) (μ := μ) (w := w) (vs := vs) h1 (by simpa using hl) (fun j c v a b => hr (j + 1) c v (by simpa using a) (by simpa using b))
        rw [ih]
    | _ => simp [litsOf] at h
section
variable {P : Program} {N : Nat} {o : Oper} {sl : List (Nat × AV)} {m : List (Nat × MS)} {R : List Nat → AV → List (Nat × MS) → Prop}
theorem ByHand.binAgg {op : BinOp} {y z : Operand} {t yt : TypeId} {cs ds : List AV} {us vs : List Value} {b : Bool} (ho : o.op = .binOp op t y z yt) (h1 : evO sl y = .agg cs) (hc : litsOf cs = some us) (h2 : evO sl z = .agg ds) (hc2 : litsOf ds = some vs)
    (hrun : ∀ w, ((do eqGuard op t y z (.agg us.toArray) (.agg vs.toArray); binOp op t (.agg us.toArray) (.agg vs.toArray) : Sem Value)).run P w = .ok (.bool b) w) (hd : dstok N o.dst = true) (h : R [] (.lit (.bool b)) []) : ByHand P N o sl m R := by
  refine ⟨[], .lit (.bool b), [], ?_, h⟩
  refine .val (fun σ2 he2 hrd w0 W0 L μ a w hs => ?_) (dstok_spec hd)
  have k1 := hs.eval y
  have k2 := hs.eval z
  rw [he2 y (by simp [ho, Op.operands]), St_eval, h1] at k1
  rw [he2 z (by simp [ho, Op.operands]), St_eval, h2] at k2
  have hr := hrun w
  refine ⟨.bool b, ?_, .lit⟩
  have e1 : a.eval y = .agg us.toArray := by
    generalize a.eval y = v1 at k1
    cases k1 with
    | agg a1 a2 => rw [litsOf_rep hc a1 a2]
  have e2 : a.eval z = .agg vs.toArray := by
    generalize a.eval z = v1 at k2
    cases k2 with
    | agg a1 a2 => rw [litsOf_rep hc2 a1 a2]
  simp only [execOp, ho, e1, e2]
  simp only [Sem.run_bind] at hr ⊢
  generalize (eqGuard op t y z (.agg us.toArray) (.agg vs.toArray)).run P w = q at hr ⊢
  cases q <;> simp_all [Result.andThen]
/-- An operation on known values that gives a known value. -/
theorem ByHand.pure {val : Operand → Value} {v : Value} (hv : ∀ y ∈ o.op.operands, evO sl y = .lit (val y)) (hrun : ∀ (e : Operand → Value), (∀ y ∈ o.op.operands, e y = val y) → ∀ w, (execOp e o).run P w = .ok (.value v) w) (hd : dstok N o.dst = true) (h : R [] (.lit v) []) : ByHand P N o sl m R := by
  refine ⟨[], .lit v, [], ?_, h⟩
  refine .val (fun σ2 he2 hrd w0 W0 L μ a w hs => ⟨v, hrun _ (fun y hy => ?_) w, .lit⟩) (dstok_spec hd)
  have k := hs.eval y
  rw [he2 y hy, St_eval, hv y hy] at k
  exact k.val
/-- A call with values only. -/
theorem ByHand.callP {f : FuncId} {args ys : List AV} {res : AV} (hf : FnOK P f [] args [] res) (hto : CallsTo (St sl m) o f ys) (hc : Callable P f) (hys : ys = args) (hargs : noRefL args = true) (hd : dstok N o.dst = true) (hp : noRef res = true)
    (h : R [] res []) : ByHand P N o sl m R := by
  subst hys
  exact .callR hto hc hargs hd hp hf h
/-- A call with a view of the arguments: the objects T are frozen for good. -/
theorem ByHand.callV {f : FuncId} {args ys : List AV} {res : AV} (T : List Nat) (hf : FnOK P f [] args [] res) (hto : CallsTo (St sl m) o f ys) (hc : Callable P f) (hargs : CvL (lookM m) id (fun _ => False) (· ∈ T) args ys) (hT : liveAll m T = true) (hd : dstok N o.dst = true) (hp : noRef res = true)
    (h : R T res (T.map fun t => (t, roOf (lookM m t)))) : ByHand P N o sl m R := by
  refine ⟨T, res, _, ?_, h⟩
  have := EffOK.callN (P := P) (N := N) (o := o) (σ := St sl m) (news := []) (x := res) (base := 0) T hto hc hargs (liveAll_spec hT) hf (by simp) rfl (by simp) (.same hp) (dstok_spec hd)
  simpa [St] using this
end
end Go.Am
