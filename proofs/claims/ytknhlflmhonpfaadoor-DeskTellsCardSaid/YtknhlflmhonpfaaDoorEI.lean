/- The walk of the law DeskOrder. By an AI agent. -/
import Derived.Test.YtknhlflmhonpfaaDoorEH
section
set_option linter.unusedSimpArgs false
set_option linter.unusedVariables false
namespace Go.Proofs.DeskD
open Go.Am Go.RowKit Go.Lib
set_option maxRecDepth 100000
theorem def_eql (a b : DefM) (y z : Operand) (w : World) : ((do eqGuard .eql 46 y z (.agg #[.string a.name, .string a.locl, .int .i64 a.cls]) (.agg #[.string b.name, .string b.locl, .int .i64 b.cls]); binOp .eql 46 (.agg #[.string a.name, .string a.locl, .int .i64 a.cls]) (.agg #[.string b.name, .string b.locl, .int .i64 b.cls]) : Sem Value)).run Tryd.prog w = .ok (.bool (decide (a = b))) w := by
  rw [Sem.run_bind, run_eqGuard_agg w .eql 46 y z _ _ (by kernel_rfl), Result.andThen_ok, run_eql_struct, def_eq, defEq_iff]; rfl
theorem define_len {d g : DeskM} {k c a e : Int} {s base : ByteArray} {tl : List Int} (hr : defineD d k s base c = (g, a, tl, e)) : g.defs.length ≤ d.defs.length + 1 ∧ g.waits.length ≤ d.waits.length ∧ tl.length ≤ d.waits.length ∧ mayD d k s base c = e ∧ (e ≠ 0 → g = d ∧ a = -1 ∧ tl = []) ∧ (e = 0 → g = addD d s base c ∧ a = d.defs.length ∧ tl = toldW d.waits s) := by
  unfold defineD at hr
  split at hr
  · rename_i h0
    simp only [Prod.mk.injEq] at hr
    obtain ⟨rfl, rfl, rfl, rfl⟩ := hr
    exact ⟨by show (d.defs ++ [newD s base c]).length ≤ _; simp, rest_le d.waits s, told_le d.waits s, h0, fun h => absurd rfl h, fun _ => ⟨rfl, rfl, rfl⟩⟩
  · rename_i h0
    simp only [Prod.mk.injEq] at hr
    obtain ⟨rfl, rfl, rfl, rfl⟩ := hr
    exact ⟨by omega, by omega, by simp, rfl, fun _ => ⟨rfl, rfl, rfl⟩, fun h => absurd h h0⟩
/-- Two definitions, one behind the other, in either order. -/
theorem order_law {d g h i k : DeskM} {s t base other : ByteArray} {a b ga ha ia ka e f j p : Int} {l m n o : List Int} (hst : s ≠ t) (hab : a ≠ b)
    (D1 : defineD d 12 s base a = (g, ga, l, e)) (D2 : defineD g 12 t other b = (h, ha, m, f)) (D3 : defineD d 12 t other b = (i, ia, n, j)) (D4 : defineD i 12 s base a = (k, ka, o, p)) :
    e = p ∧ j = f ∧ (e = 0 → j = 0 → l = o ∧ m = n ∧ ∀ x y, (findD h x y = -1 ∧ findD k x y = -1) ∨ ∃ (u v : Nat) (z : DefM), findD h x y = u ∧ findD k x y = v ∧ h.defs[u]? = some z ∧ k.defs[v]? = some z) := by
  obtain ⟨_, _, _, m1, n1, y1⟩ := define_len D1
  obtain ⟨_, _, _, m2, n2, y2⟩ := define_len D2
  obtain ⟨_, _, _, m3, n3, y3⟩ := define_len D3
  obtain ⟨_, _, _, m4, n4, y4⟩ := define_len D4
  have he : e = p := by
    by_cases hj : j = 0
    · rw [(y3 hj).1] at m4
      rw [← m1, ← m4, may_add (by rw [m3, hj]) hst hab]
    · rw [(n3 hj).1] at m4
      rw [← m1, ← m4]
  have hf : j = f := by
    by_cases h0 : e = 0
    · rw [(y1 h0).1] at m2
      rw [← m3, ← m2, may_add (by rw [m1, h0]) (fun e => hst e.symm) (fun e => hab e.symm)]
    · rw [(n1 h0).1] at m2
      rw [← m3, ← m2]
  refine ⟨he, hf, fun h0 hj => ?_⟩
  obtain ⟨g1, _, g3⟩ := y1 h0
  obtain ⟨i1, _, i3⟩ := y3 hj
  obtain ⟨h1, _, h3⟩ := y2 (by omega)
  obtain ⟨k1, _, k3⟩ := y4 (by omega)
  have mg : mayD g 12 t other b = 0 := by omega
  have mi : mayD i 12 s base a = 0 := by omega
  have rh : rightD h = true := by rw [h1]; exact right_add mg
  have rk : rightD k = true := by rw [k1]; exact right_add mi
  refine ⟨?_, ?_, fun x y => ?_⟩
  · rw [g3, k3, i1]; exact (toldW_rest hst).symm
  · rw [h3, i3, g1]; exact toldW_rest fun e => hst e.symm
  · have dh : h.defs = d.defs ++ [newD s base a, newD t other b] := by rw [h1, g1]; show (d.defs ++ [newD s base a]) ++ [newD t other b] = _; simp
    have dk : k.defs = d.defs ++ [newD t other b, newD s base a] := by rw [k1, i1]; show (d.defs ++ [newD t other b]) ++ [newD s base a] = _; simp
    have r1 := right_defs rh
    have r2 := right_defs rk
    rw [findD_right rh, findD_right rk, dh, dk]
    rw [dh] at r1
    rw [dk] at r2
    exact order_same r1 r2
set_option maxHeartbeats 16000000 in
/-- DeskOrder -/
theorem f7_ok (d : DeskM) (s t base other x y : ByteArray) (a b : Int) : FnOK Tryd.prog 7 [] [eDesk d, eStr s, eStr t, eStr base, eStr other, eStr x, eStr y, eInt a, eInt b] [] (eBool true) := by
  obtain ⟨sb, hsb⟩ : ∃ b, shortB d = b := ⟨_, rfl⟩
  have h9 := f9_at hsb
  obtain ⟨⟨⟨gl, gw, gn, gb⟩, ga, L, e⟩, D1⟩ : ∃ x, defineD d 12 s base a = x := ⟨_, rfl⟩
  obtain ⟨⟨⟨hl, hw, hn, hb⟩, ha, M, f⟩, D2⟩ : ∃ x, defineD ⟨gl, gw, gn, gb⟩ 12 t other b = x := ⟨_, rfl⟩
  obtain ⟨⟨⟨il, iw, in', ib⟩, ia, N, j⟩, D3⟩ : ∃ x, defineD d 12 t other b = x := ⟨_, rfl⟩
  obtain ⟨⟨⟨kl, kw, kn, kb⟩, ka, O, p⟩, D4⟩ : ∃ x, defineD ⟨il, iw, in', ib⟩ 12 s base a = x := ⟨_, rfl⟩
  have law := fun (hst : s ≠ t) (hab : a ≠ b) => order_law hst hab D1 D2 D3 D4
  obtain ⟨b1, b2, b3, mm, _, _⟩ := define_len D1
  obtain ⟨c1, c2, c3, mm2, _, _⟩ := define_len D2
  obtain ⟨d1', d2', d3', mm3, _, _⟩ := define_len D3
  obtain ⟨e1', e2', e3', mm4, _, _⟩ := define_len D4
  have hbusy : d.busy = true → e ≠ 0 := fun hz he => by
    have := (mayD_zero (mm.trans he)).2.2.2.2.2.2.2.2
    rw [hz] at this; cases this
  obtain ⟨l, ws, nx, bz⟩ := d
  simp only at b1 b2 b3 c1 c2 c3 d1' d2' d3' e1' e2' e3' law hbusy
  refine FnOK.startC (rvs := [.tmp 18]) G G_good Tryd.func7 rfl Tryd.ntmps7 rfl rfl ?_; delta List.toArray; ((with_reducible conv => whnf); (with_reducible conv => congr <;> reduce); repeat ((first | (with_reducible refine HaltK.mk ?_) | (with_reducible refine StopK.mk ?_)); (with_reducible conv => whnf); (with_reducible conv => congr <;> reduce)))
  refine CallK.lit [] f8_ok c8 trivial rfl rfl ?_; ((with_reducible conv => whnf); (with_reducible conv => congr <;> reduce); repeat ((first | (with_reducible refine HaltK.mk ?_) | (with_reducible refine StopK.mk ?_)); (with_reducible conv => whnf); (with_reducible conv => congr <;> reduce)))
  refine IfK.ff ?_; ((with_reducible conv => whnf); (with_reducible conv => congr <;> reduce); repeat ((first | (with_reducible refine HaltK.mk ?_) | (with_reducible refine StopK.mk ?_)); (with_reducible conv => whnf); (with_reducible conv => congr <;> reduce)))
  refine CallK.lit [] h9 c9 ⟨⟨rfl, rfl, rfl, rfl, trivial⟩, trivial⟩ rfl rfl ?_; ((with_reducible conv => whnf); (with_reducible conv => congr <;> reduce); repeat ((first | (with_reducible refine HaltK.mk ?_) | (with_reducible refine StopK.mk ?_)); (with_reducible conv => whnf); (with_reducible conv => congr <;> reduce)))
  cases sb with
  | false => repeat' (first
    | (first
    | ((with_reducible show IfK _ _ _ _); first | refine IfK.ff ?_ | refine IfK.tt ?_ | refine IfK.no (by first | rfl | assumption | exact nf (by assumption) | exact nt (by assumption) | ((try simp only [castN]); first | (simp [hsb]; done) | (simp [hsb]; omega))) ?_ | refine IfK.yes (by first | rfl | assumption | exact nf (by assumption) | exact nt (by assumption) | ((try simp only [castN]); first | (simp [hsb]; done) | (simp [hsb]; omega))) ?_)
    | ((with_reducible show NeedK _ _ _ _); refine NeedK.mk (by (try simp only [castN]); omega) ?_)
    | ((with_reducible show DrawK _ _ _ _); refine DrawK.mk (by kernel_rfl) (by kernel_rfl) (by kernel_rfl) ?_)) <;> ((with_reducible conv => whnf); (with_reducible conv => congr <;> reduce); repeat ((first | (with_reducible refine HaltK.mk ?_) | (with_reducible refine StopK.mk ?_)); (with_reducible conv => whnf); (with_reducible conv => congr <;> reduce)))
    | ((with_reducible show (_ ∧ _) ∧ _ ∧ _); refine ⟨⟨rfl, rfl⟩, ?_, ?_⟩ <;> (with_reducible conv => whnf) <;> repeat' (first | (with_reducible exact trivial) | (with_reducible refine And.intro ?_ ?_ <;> with_reducible conv => whnf))))
  | true =>
    have hS : ShortD ⟨l, ws, nx, bz⟩ := shortB_iff.1 hsb
    have hM := hS.small
    have hl40 : l.length ≤ 40 := hS.defs
    have hw40 : ws.length ≤ 40 := hS.waits
    by_cases n1 : 300 < s.size
    · repeat' (first
    | (first
    | ((with_reducible show IfK _ _ _ _); first | refine IfK.ff ?_ | refine IfK.tt ?_ | refine IfK.no (by first | rfl | assumption | exact nf (by assumption) | exact nt (by assumption) | ((try simp only [castN]); first | (simp [n1]; done) | (simp [n1]; omega))) ?_ | refine IfK.yes (by first | rfl | assumption | exact nf (by assumption) | exact nt (by assumption) | ((try simp only [castN]); first | (simp [n1]; done) | (simp [n1]; omega))) ?_)
    | ((with_reducible show NeedK _ _ _ _); refine NeedK.mk (by (try simp only [castN]); omega) ?_)
    | ((with_reducible show DrawK _ _ _ _); refine DrawK.mk (by kernel_rfl) (by kernel_rfl) (by kernel_rfl) ?_)) <;> ((with_reducible conv => whnf); (with_reducible conv => congr <;> reduce); repeat ((first | (with_reducible refine HaltK.mk ?_) | (with_reducible refine StopK.mk ?_)); (with_reducible conv => whnf); (with_reducible conv => congr <;> reduce)))
    | ((with_reducible show (_ ∧ _) ∧ _ ∧ _); refine ⟨⟨rfl, rfl⟩, ?_, ?_⟩ <;> (with_reducible conv => whnf) <;> repeat' (first | (with_reducible exact trivial) | (with_reducible refine And.intro ?_ ?_ <;> with_reducible conv => whnf))))
    by_cases n2 : 300 < t.size
    · repeat' (first
    | (first
    | ((with_reducible show IfK _ _ _ _); first | refine IfK.ff ?_ | refine IfK.tt ?_ | refine IfK.no (by first | rfl | assumption | exact nf (by assumption) | exact nt (by assumption) | ((try simp only [castN]); first | (simp [n1, n2]; done) | (simp [n1, n2]; omega))) ?_ | refine IfK.yes (by first | rfl | assumption | exact nf (by assumption) | exact nt (by assumption) | ((try simp only [castN]); first | (simp [n1, n2]; done) | (simp [n1, n2]; omega))) ?_)
    | ((with_reducible show NeedK _ _ _ _); refine NeedK.mk (by (try simp only [castN]); omega) ?_)
    | ((with_reducible show DrawK _ _ _ _); refine DrawK.mk (by kernel_rfl) (by kernel_rfl) (by kernel_rfl) ?_)) <;> ((with_reducible conv => whnf); (with_reducible conv => congr <;> reduce); repeat ((first | (with_reducible refine HaltK.mk ?_) | (with_reducible refine StopK.mk ?_)); (with_reducible conv => whnf); (with_reducible conv => congr <;> reduce)))
    | ((with_reducible show (_ ∧ _) ∧ _ ∧ _); refine ⟨⟨rfl, rfl⟩, ?_, ?_⟩ <;> (with_reducible conv => whnf) <;> repeat' (first | (with_reducible exact trivial) | (with_reducible refine And.intro ?_ ?_ <;> with_reducible conv => whnf))))
    by_cases n3 : 300 < base.size
    · repeat' (first
    | (first
    | ((with_reducible show IfK _ _ _ _); first | refine IfK.ff ?_ | refine IfK.tt ?_ | refine IfK.no (by first | rfl | assumption | exact nf (by assumption) | exact nt (by assumption) | ((try simp only [castN]); first | (simp [n1, n2, n3]; done) | (simp [n1, n2, n3]; omega))) ?_ | refine IfK.yes (by first | rfl | assumption | exact nf (by assumption) | exact nt (by assumption) | ((try simp only [castN]); first | (simp [n1, n2, n3]; done) | (simp [n1, n2, n3]; omega))) ?_)
    | ((with_reducible show NeedK _ _ _ _); refine NeedK.mk (by (try simp only [castN]); omega) ?_)
    | ((with_reducible show DrawK _ _ _ _); refine DrawK.mk (by kernel_rfl) (by kernel_rfl) (by kernel_rfl) ?_)) <;> ((with_reducible conv => whnf); (with_reducible conv => congr <;> reduce); repeat ((first | (with_reducible refine HaltK.mk ?_) | (with_reducible refine StopK.mk ?_)); (with_reducible conv => whnf); (with_reducible conv => congr <;> reduce)))
    | ((with_reducible show (_ ∧ _) ∧ _ ∧ _); refine ⟨⟨rfl, rfl⟩, ?_, ?_⟩ <;> (with_reducible conv => whnf) <;> repeat' (first | (with_reducible exact trivial) | (with_reducible refine And.intro ?_ ?_ <;> with_reducible conv => whnf))))
    by_cases n4 : 300 < other.size
    · repeat' (first
    | (first
    | ((with_reducible show IfK _ _ _ _); first | refine IfK.ff ?_ | refine IfK.tt ?_ | refine IfK.no (by first | rfl | assumption | exact nf (by assumption) | exact nt (by assumption) | ((try simp only [castN]); first | (simp [n1, n2, n3, n4]; done) | (simp [n1, n2, n3, n4]; omega))) ?_ | refine IfK.yes (by first | rfl | assumption | exact nf (by assumption) | exact nt (by assumption) | ((try simp only [castN]); first | (simp [n1, n2, n3, n4]; done) | (simp [n1, n2, n3, n4]; omega))) ?_)
    | ((with_reducible show NeedK _ _ _ _); refine NeedK.mk (by (try simp only [castN]); omega) ?_)
    | ((with_reducible show DrawK _ _ _ _); refine DrawK.mk (by kernel_rfl) (by kernel_rfl) (by kernel_rfl) ?_)) <;> ((with_reducible conv => whnf); (with_reducible conv => congr <;> reduce); repeat ((first | (with_reducible refine HaltK.mk ?_) | (with_reducible refine StopK.mk ?_)); (with_reducible conv => whnf); (with_reducible conv => congr <;> reduce)))
    | ((with_reducible show (_ ∧ _) ∧ _ ∧ _); refine ⟨⟨rfl, rfl⟩, ?_, ?_⟩ <;> (with_reducible conv => whnf) <;> repeat' (first | (with_reducible exact trivial) | (with_reducible refine And.intro ?_ ?_ <;> with_reducible conv => whnf))))
    by_cases n5 : 300 < x.size
    · repeat' (first
    | (first
    | ((with_reducible show IfK _ _ _ _); first | refine IfK.ff ?_ | refine IfK.tt ?_ | refine IfK.no (by first | rfl | assumption | exact nf (by assumption) | exact nt (by assumption) | ((try simp only [castN]); first | (simp [n1, n2, n3, n4, n5]; done) | (simp [n1, n2, n3, n4, n5]; omega))) ?_ | refine IfK.yes (by first | rfl | assumption | exact nf (by assumption) | exact nt (by assumption) | ((try simp only [castN]); first | (simp [n1, n2, n3, n4, n5]; done) | (simp [n1, n2, n3, n4, n5]; omega))) ?_)
    | ((with_reducible show NeedK _ _ _ _); refine NeedK.mk (by (try simp only [castN]); omega) ?_)
    | ((with_reducible show DrawK _ _ _ _); refine DrawK.mk (by kernel_rfl) (by kernel_rfl) (by kernel_rfl) ?_)) <;> ((with_reducible conv => whnf); (with_reducible conv => congr <;> reduce); repeat ((first | (with_reducible refine HaltK.mk ?_) | (with_reducible refine StopK.mk ?_)); (with_reducible conv => whnf); (with_reducible conv => congr <;> reduce)))
    | ((with_reducible show (_ ∧ _) ∧ _ ∧ _); refine ⟨⟨rfl, rfl⟩, ?_, ?_⟩ <;> (with_reducible conv => whnf) <;> repeat' (first | (with_reducible exact trivial) | (with_reducible refine And.intro ?_ ?_ <;> with_reducible conv => whnf))))
    by_cases n6 : 300 < y.size
    · repeat' (first
    | (first
    | ((with_reducible show IfK _ _ _ _); first | refine IfK.ff ?_ | refine IfK.tt ?_ | refine IfK.no (by first | rfl | assumption | exact nf (by assumption) | exact nt (by assumption) | ((try simp only [castN]); first | (simp [n1, n2, n3, n4, n5, n6]; done) | (simp [n1, n2, n3, n4, n5, n6]; omega))) ?_ | refine IfK.yes (by first | rfl | assumption | exact nf (by assumption) | exact nt (by assumption) | ((try simp only [castN]); first | (simp [n1, n2, n3, n4, n5, n6]; done) | (simp [n1, n2, n3, n4, n5, n6]; omega))) ?_)
    | ((with_reducible show NeedK _ _ _ _); refine NeedK.mk (by (try simp only [castN]); omega) ?_)
    | ((with_reducible show DrawK _ _ _ _); refine DrawK.mk (by kernel_rfl) (by kernel_rfl) (by kernel_rfl) ?_)) <;> ((with_reducible conv => whnf); (with_reducible conv => congr <;> reduce); repeat ((first | (with_reducible refine HaltK.mk ?_) | (with_reducible refine StopK.mk ?_)); (with_reducible conv => whnf); (with_reducible conv => congr <;> reduce)))
    | ((with_reducible show (_ ∧ _) ∧ _ ∧ _); refine ⟨⟨rfl, rfl⟩, ?_, ?_⟩ <;> (with_reducible conv => whnf) <;> repeat' (first | (with_reducible exact trivial) | (with_reducible refine And.intro ?_ ?_ <;> with_reducible conv => whnf))))
    by_cases n7 : s = t
    · repeat' (first
    | (first
    | ((with_reducible show IfK _ _ _ _); first | refine IfK.ff ?_ | refine IfK.tt ?_ | refine IfK.no (by first | rfl | assumption | exact nf (by assumption) | exact nt (by assumption) | ((try simp only [castN]); first | (simp [n1, n2, n3, n4, n5, n6, n7]; done) | (simp [n1, n2, n3, n4, n5, n6, n7]; omega))) ?_ | refine IfK.yes (by first | rfl | assumption | exact nf (by assumption) | exact nt (by assumption) | ((try simp only [castN]); first | (simp [n1, n2, n3, n4, n5, n6, n7]; done) | (simp [n1, n2, n3, n4, n5, n6, n7]; omega))) ?_)
    | ((with_reducible show NeedK _ _ _ _); refine NeedK.mk (by (try simp only [castN]); omega) ?_)
    | ((with_reducible show DrawK _ _ _ _); refine DrawK.mk (by kernel_rfl) (by kernel_rfl) (by kernel_rfl) ?_)) <;> ((with_reducible conv => whnf); (with_reducible conv => congr <;> reduce); repeat ((first | (with_reducible refine HaltK.mk ?_) | (with_reducible refine StopK.mk ?_)); (with_reducible conv => whnf); (with_reducible conv => congr <;> reduce)))
    | ((with_reducible show (_ ∧ _) ∧ _ ∧ _); refine ⟨⟨rfl, rfl⟩, ?_, ?_⟩ <;> (with_reducible conv => whnf) <;> repeat' (first | (with_reducible exact trivial) | (with_reducible refine And.intro ?_ ?_ <;> with_reducible conv => whnf))))
    by_cases n8 : a = b
    · repeat' (first
    | (first
    | ((with_reducible show IfK _ _ _ _); first | refine IfK.ff ?_ | refine IfK.tt ?_ | refine IfK.no (by first | rfl | assumption | exact nf (by assumption) | exact nt (by assumption) | ((try simp only [castN]); first | (simp [n1, n2, n3, n4, n5, n6, n7, n8]; done) | (simp [n1, n2, n3, n4, n5, n6, n7, n8]; omega))) ?_ | refine IfK.yes (by first | rfl | assumption | exact nf (by assumption) | exact nt (by assumption) | ((try simp only [castN]); first | (simp [n1, n2, n3, n4, n5, n6, n7, n8]; done) | (simp [n1, n2, n3, n4, n5, n6, n7, n8]; omega))) ?_)
    | ((with_reducible show NeedK _ _ _ _); refine NeedK.mk (by (try simp only [castN]); omega) ?_)
    | ((with_reducible show DrawK _ _ _ _); refine DrawK.mk (by kernel_rfl) (by kernel_rfl) (by kernel_rfl) ?_)) <;> ((with_reducible conv => whnf); (with_reducible conv => congr <;> reduce); repeat ((first | (with_reducible refine HaltK.mk ?_) | (with_reducible refine StopK.mk ?_)); (with_reducible conv => whnf); (with_reducible conv => congr <;> reduce)))
    | ((with_reducible show (_ ∧ _) ∧ _ ∧ _); refine ⟨⟨rfl, rfl⟩, ?_, ?_⟩ <;> (with_reducible conv => whnf) <;> repeat' (first | (with_reducible exact trivial) | (with_reducible refine And.intro ?_ ?_ <;> with_reducible conv => whnf))))
    repeat' (first
    | (first
    | ((with_reducible show IfK _ _ _ _); first | refine IfK.ff ?_ | refine IfK.tt ?_ | refine IfK.no (by first | rfl | assumption | exact nf (by assumption) | exact nt (by assumption) | ((try simp only [castN]); first | (simp [n1, n2, n3, n4, n5, n6, n7, n8]; done) | (simp [n1, n2, n3, n4, n5, n6, n7, n8]; omega))) ?_ | refine IfK.yes (by first | rfl | assumption | exact nf (by assumption) | exact nt (by assumption) | ((try simp only [castN]); first | (simp [n1, n2, n3, n4, n5, n6, n7, n8]; done) | (simp [n1, n2, n3, n4, n5, n6, n7, n8]; omega))) ?_)
    | ((with_reducible show NeedK _ _ _ _); refine NeedK.mk (by (try simp only [castN]); omega) ?_)
    | ((with_reducible show DrawK _ _ _ _); refine DrawK.mk (by kernel_rfl) (by kernel_rfl) (by kernel_rfl) ?_)) <;> ((with_reducible conv => whnf); (with_reducible conv => congr <;> reduce); repeat ((first | (with_reducible refine HaltK.mk ?_) | (with_reducible refine StopK.mk ?_)); (with_reducible conv => whnf); (with_reducible conv => congr <;> reduce)))
    | ((with_reducible show (_ ∧ _) ∧ _ ∧ _); refine ⟨⟨rfl, rfl⟩, ?_, ?_⟩ <;> (with_reducible conv => whnf) <;> repeat' (first | (with_reducible exact trivial) | (with_reducible refine And.intro ?_ ?_ <;> with_reducible conv => whnf))))
    have hg : SmallD ⟨gl, gw, gn, gb⟩ := ⟨by show gl.length ≤ 100000; omega, by show gw.length ≤ 100000; omega⟩
    have hi : SmallD ⟨il, iw, in', ib⟩ := ⟨by show il.length ≤ 100000; omega, by show iw.length ≤ 100000; omega⟩
    have hh : SmallD ⟨hl, hw, hn, hb⟩ := ⟨by show hl.length ≤ 100000; omega, by show hw.length ≤ 100000; omega⟩
    have hk : SmallD ⟨kl, kw, kn, kb⟩ := ⟨by show kl.length ≤ 100000; omega, by show kw.length ≤ 100000; omega⟩
    refine CallK.val [] (f18_at hM D1) c18 ⟨⟨rfl, rfl, rfl, rfl, trivial⟩, rfl, rfl, rfl, rfl, trivial⟩ rfl rfl rfl ?_; ((with_reducible conv => whnf); (with_reducible conv => congr <;> reduce); repeat ((first | (with_reducible refine HaltK.mk ?_) | (with_reducible refine StopK.mk ?_)); (with_reducible conv => whnf); (with_reducible conv => congr <;> reduce)))
    refine CallK.val [] (f18_at hg D2) c18 ⟨⟨rfl, rfl, rfl, rfl, trivial⟩, rfl, rfl, rfl, rfl, trivial⟩ rfl rfl rfl ?_; ((with_reducible conv => whnf); (with_reducible conv => congr <;> reduce); repeat ((first | (with_reducible refine HaltK.mk ?_) | (with_reducible refine StopK.mk ?_)); (with_reducible conv => whnf); (with_reducible conv => congr <;> reduce)))
    refine CallK.val [] (f18_at hM D3) c18 ⟨⟨rfl, rfl, rfl, rfl, trivial⟩, rfl, rfl, rfl, rfl, trivial⟩ rfl rfl rfl ?_; ((with_reducible conv => whnf); (with_reducible conv => congr <;> reduce); repeat ((first | (with_reducible refine HaltK.mk ?_) | (with_reducible refine StopK.mk ?_)); (with_reducible conv => whnf); (with_reducible conv => congr <;> reduce)))
    refine CallK.val [] (f18_at hi D4) c18 ⟨⟨rfl, rfl, rfl, rfl, trivial⟩, rfl, rfl, rfl, rfl, trivial⟩ rfl rfl rfl ?_; ((with_reducible conv => whnf); (with_reducible conv => congr <;> reduce); repeat ((first | (with_reducible refine HaltK.mk ?_) | (with_reducible refine StopK.mk ?_)); (with_reducible conv => whnf); (with_reducible conv => congr <;> reduce)))
    obtain ⟨r1, r2, r3⟩ := law n7 n8
    subst r1
    subst r2
    cases bz with
    | true => repeat' (first
    | (first
    | ((with_reducible show IfK _ _ _ _); first | refine IfK.ff ?_ | refine IfK.tt ?_ | refine IfK.no (by first | rfl | assumption | exact nf (by assumption) | exact nt (by assumption) | ((try simp only [castN]); first | (simp [n1]; done) | (simp [n1]; omega))) ?_ | refine IfK.yes (by first | rfl | assumption | exact nf (by assumption) | exact nt (by assumption) | ((try simp only [castN]); first | (simp [n1]; done) | (simp [n1]; omega))) ?_)
    | ((with_reducible show NeedK _ _ _ _); refine NeedK.mk (by (try simp only [castN]); omega) ?_)
    | ((with_reducible show DrawK _ _ _ _); refine DrawK.mk (by kernel_rfl) (by kernel_rfl) (by kernel_rfl) ?_)) <;> ((with_reducible conv => whnf); (with_reducible conv => congr <;> reduce); repeat ((first | (with_reducible refine HaltK.mk ?_) | (with_reducible refine StopK.mk ?_)); (with_reducible conv => whnf); (with_reducible conv => congr <;> reduce)))
    | ((with_reducible show (_ ∧ _) ∧ _ ∧ _); refine ⟨⟨rfl, rfl⟩, ?_, ?_⟩ <;> (with_reducible conv => whnf) <;> repeat' (first | (with_reducible exact trivial) | (with_reducible refine And.intro ?_ ?_ <;> with_reducible conv => whnf))))
    | false =>
      by_cases g1 : e = 0
      · by_cases g2 : j = 0
        · obtain ⟨q1, q2, q3⟩ := r3 g1 g2
          subst q1
          subst q2
          rcases q3 x y with ⟨u1, u2⟩ | ⟨u, v, ⟨zn, zl, zc⟩, u1, u2, u3, u4⟩
          · repeat' (first
    | (first
    | ((with_reducible show IfK _ _ _ _); first | refine IfK.ff ?_ | refine IfK.tt ?_ | refine IfK.no (by first | rfl | assumption | exact nf (by assumption) | exact nt (by assumption) | ((try simp only [castN]); first | (simp [g1, g2]; done) | (simp [g1, g2]; omega))) ?_ | refine IfK.yes (by first | rfl | assumption | exact nf (by assumption) | exact nt (by assumption) | ((try simp only [castN]); first | (simp [g1, g2]; done) | (simp [g1, g2]; omega))) ?_)
    | ((with_reducible show NeedK _ _ _ _); refine NeedK.mk (by (try simp only [castN]); omega) ?_)
    | ((with_reducible show DrawK _ _ _ _); refine DrawK.mk (by kernel_rfl) (by kernel_rfl) (by kernel_rfl) ?_)
    | ((with_reducible show CallK _ _ 21 _ _ _ _); first | (refine CallK.lit [] (f21_at (a := L) (b := L) (r := true) (by omega) (decide_eq_true rfl)) c21 ⟨rfl, rfl, trivial⟩ rfl rfl ?_) | (refine CallK.lit [] (f21_at (a := M) (b := M) (r := true) (by omega) (decide_eq_true rfl)) c21 ⟨rfl, rfl, trivial⟩ rfl rfl ?_))
    | ((with_reducible show CallK _ _ 11 _ _ _ _); first | (refine CallK.lit [] (f11_at hh u1) c11 ⟨⟨rfl, rfl, rfl, rfl, trivial⟩, rfl, rfl, trivial⟩ rfl rfl ?_) | (refine CallK.lit [] (f11_at hk u2) c11 ⟨⟨rfl, rfl, rfl, rfl, trivial⟩, rfl, rfl, trivial⟩ rfl rfl ?_))) <;> ((with_reducible conv => whnf); (with_reducible conv => congr <;> reduce); repeat ((first | (with_reducible refine HaltK.mk ?_) | (with_reducible refine StopK.mk ?_)); (with_reducible conv => whnf); (with_reducible conv => congr <;> reduce)))
    | ((with_reducible show (_ ∧ _) ∧ _ ∧ _); refine ⟨⟨rfl, rfl⟩, ?_, ?_⟩ <;> (with_reducible conv => whnf) <;> repeat' (first | (with_reducible exact trivial) | (with_reducible refine And.intro ?_ ?_ <;> with_reducible conv => whnf))))
            all_goals rfl
          · have hu : ¬ (u : Int) = -1 := by omega
            have hv : ¬ (v : Int) = -1 := by omega
            repeat' (first
    | (first
    | ((with_reducible show IfK _ _ _ _); first | refine IfK.ff ?_ | refine IfK.tt ?_ | refine IfK.no (by first | rfl | assumption | exact nf (by assumption) | exact nt (by assumption) | ((try simp only [castN]); first | (simp [g1, g2, hu, hv]; done) | (simp [g1, g2, hu, hv]; omega))) ?_ | refine IfK.yes (by first | rfl | assumption | exact nf (by assumption) | exact nt (by assumption) | ((try simp only [castN]); first | (simp [g1, g2, hu, hv]; done) | (simp [g1, g2, hu, hv]; omega))) ?_)
    | ((with_reducible show NeedK _ _ _ _); refine NeedK.mk (by (try simp only [castN]); omega) ?_)
    | ((with_reducible show DrawK _ _ _ _); refine DrawK.mk (by kernel_rfl) (by kernel_rfl) (by kernel_rfl) ?_)
    | ((with_reducible show CallK _ _ 21 _ _ _ _); first | (refine CallK.lit [] (f21_at (a := L) (b := L) (r := true) (by omega) (decide_eq_true rfl)) c21 ⟨rfl, rfl, trivial⟩ rfl rfl ?_) | (refine CallK.lit [] (f21_at (a := M) (b := M) (r := true) (by omega) (decide_eq_true rfl)) c21 ⟨rfl, rfl, trivial⟩ rfl rfl ?_))
    | ((with_reducible show CallK _ _ 11 _ _ _ _); first | (refine CallK.lit [] (f11_at hh u1) c11 ⟨⟨rfl, rfl, rfl, rfl, trivial⟩, rfl, rfl, trivial⟩ rfl rfl ?_) | (refine CallK.lit [] (f11_at hk u2) c11 ⟨⟨rfl, rfl, rfl, rfl, trivial⟩, rfl, rfl, trivial⟩ rfl rfl ?_))
    | ((with_reducible show IdxK _ _ _ _ _); first | (refine IdxK.mk u (eDef ⟨zn, zl, zc⟩) rfl (def_get u3) ?_) | (refine IdxK.mk v (eDef ⟨zn, zl, zc⟩) rfl (def_get u4) ?_))
    | ((with_reducible show EqK _ _ _ _ _ _ _ _); refine EqK.mk _ (fun y z w => def_eql ⟨zn, zl, zc⟩ ⟨zn, zl, zc⟩ y z w) ?_)) <;> ((with_reducible conv => whnf); (with_reducible conv => congr <;> reduce); repeat ((first | (with_reducible refine HaltK.mk ?_) | (with_reducible refine StopK.mk ?_)); (with_reducible conv => whnf); (with_reducible conv => congr <;> reduce)))
    | ((with_reducible show (_ ∧ _) ∧ _ ∧ _); refine ⟨⟨rfl, rfl⟩, ?_, ?_⟩ <;> (with_reducible conv => whnf) <;> repeat' (first | (with_reducible exact trivial) | (with_reducible refine And.intro ?_ ?_ <;> with_reducible conv => whnf))))
            all_goals simp
        · repeat' (first
    | (first
    | ((with_reducible show IfK _ _ _ _); first | refine IfK.ff ?_ | refine IfK.tt ?_ | refine IfK.no (by first | rfl | assumption | exact nf (by assumption) | exact nt (by assumption) | ((try simp only [castN]); first | (simp [g1, g2]; done) | (simp [g1, g2]; omega))) ?_ | refine IfK.yes (by first | rfl | assumption | exact nf (by assumption) | exact nt (by assumption) | ((try simp only [castN]); first | (simp [g1, g2]; done) | (simp [g1, g2]; omega))) ?_)
    | ((with_reducible show NeedK _ _ _ _); refine NeedK.mk (by (try simp only [castN]); omega) ?_)
    | ((with_reducible show DrawK _ _ _ _); refine DrawK.mk (by kernel_rfl) (by kernel_rfl) (by kernel_rfl) ?_)) <;> ((with_reducible conv => whnf); (with_reducible conv => congr <;> reduce); repeat ((first | (with_reducible refine HaltK.mk ?_) | (with_reducible refine StopK.mk ?_)); (with_reducible conv => whnf); (with_reducible conv => congr <;> reduce)))
    | ((with_reducible show (_ ∧ _) ∧ _ ∧ _); refine ⟨⟨rfl, rfl⟩, ?_, ?_⟩ <;> (with_reducible conv => whnf) <;> repeat' (first | (with_reducible exact trivial) | (with_reducible refine And.intro ?_ ?_ <;> with_reducible conv => whnf))))
          all_goals simp
      · repeat' (first
    | (first
    | ((with_reducible show IfK _ _ _ _); first | refine IfK.ff ?_ | refine IfK.tt ?_ | refine IfK.no (by first | rfl | assumption | exact nf (by assumption) | exact nt (by assumption) | ((try simp only [castN]); first | (simp [g1]; done) | (simp [g1]; omega))) ?_ | refine IfK.yes (by first | rfl | assumption | exact nf (by assumption) | exact nt (by assumption) | ((try simp only [castN]); first | (simp [g1]; done) | (simp [g1]; omega))) ?_)
    | ((with_reducible show NeedK _ _ _ _); refine NeedK.mk (by (try simp only [castN]); omega) ?_)
    | ((with_reducible show DrawK _ _ _ _); refine DrawK.mk (by kernel_rfl) (by kernel_rfl) (by kernel_rfl) ?_)) <;> ((with_reducible conv => whnf); (with_reducible conv => congr <;> reduce); repeat ((first | (with_reducible refine HaltK.mk ?_) | (with_reducible refine StopK.mk ?_)); (with_reducible conv => whnf); (with_reducible conv => congr <;> reduce)))
    | ((with_reducible show (_ ∧ _) ∧ _ ∧ _); refine ⟨⟨rfl, rfl⟩, ?_, ?_⟩ <;> (with_reducible conv => whnf) <;> repeat' (first | (with_reducible exact trivial) | (with_reducible refine And.intro ?_ ?_ <;> with_reducible conv => whnf))))
        all_goals simp
end Go.Proofs.DeskD
end
