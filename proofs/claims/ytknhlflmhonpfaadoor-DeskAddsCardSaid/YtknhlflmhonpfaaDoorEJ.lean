/- The walk of the law DeskAdds. By an AI agent. -/
import Derived.Test.YtknhlflmhonpfaaDoorEI
import Derived.Test.YtknhlflmhonpfaaDoorEB
section
set_option linter.unusedSimpArgs false
set_option linter.unusedVariables false
namespace Go.Proofs.DeskD
open Go.Am Go.RowKit Go.Lib
set_option maxRecDepth 100000
theorem adds_find {d : DeskM} {k c : Int} {s base : ByteArray} (h : mayD d k s base c = 0) (a b : ByteArray) :
    (fitsB a b (newD s base c) = true → findD d a b = -1 ∧ findD (addD d s base c) a b = (d.defs.length : Int)) ∧ (fitsB a b (newD s base c) = false → findD d a b = findD (addD d s base c) a b) := by
  have hr := (mayD_zero h).1
  have hg := right_add h
  have r1 := right_defs hr
  have r2 : defsB (d.defs ++ [newD s base c]) = true := right_defs hg
  rw [findD_right hr, findD_right hg, show (addD d s base c).defs = d.defs ++ [newD s base c] from rfl]
  have hlast : (d.defs ++ [newD s base c])[d.defs.length]? = some (newD s base c) := by rw [List.getElem?_append_right (Nat.le_refl _)]; simp
  have hin : ∀ (i : Nat) (x : DefM), d.defs[i]? = some x → (d.defs ++ [newD s base c])[i]? = some x := fun i x hx => by
    rw [List.getElem?_append_left (List.getElem?_eq_some_iff.1 hx).1]; exact hx
  refine ⟨fun hf => ⟨?_, findR_at r2 hlast hf⟩, fun hf => ?_⟩
  · rcases findR_cases d.defs a b with ⟨h1, _⟩ | ⟨i, x, _, h2, h3⟩
    · exact h1
    · have := fit_uniq r2 (hin i x h2) hlast h3 hf
      have := (List.getElem?_eq_some_iff.1 h2).1
      omega
  · rcases findR_cases d.defs a b with ⟨h1, h2⟩ | ⟨i, x, h1, h2, h3⟩
    · rw [h1]
      rcases findR_cases (d.defs ++ [newD s base c]) a b with ⟨g1, _⟩ | ⟨j, y, _, g2, g3⟩
      · exact g1.symm
      · have hy := List.mem_of_getElem? g2
        rcases List.mem_append.1 hy with hy | hy
        · rw [h2 y hy] at g3; cases g3
        · simp at hy; subst hy; rw [hf] at g3; cases g3
    · rw [h1, findR_at r2 (hin i x h2) h3]
def qk (k : Nat) : ByteArray := ⟨#[113, 45, UInt8.ofNat (97 + k)]⟩
theorem qk_custom : ∀ k < 26, customS (qk k) = true := by decide +kernel
theorem byte_k {k : Nat} (hk : k < 26) : IntKind.u8.wrap (97 + (k : Int)) = ((UInt8.ofNat (97 + k)).toNat : Int) := by
  rw [wrap8 (by omega)]; simp; omega
theorem bytes_three {x y z : UInt8} {c : Int} (h : c = (z.toNat : Int)) : ∀ (i : Nat) (e : UInt8), [x, y, z][i]? = some e → (flat [AV.lit (Value.int IntKind.u8 (x.toNat : Int)), AV.lit (Value.int IntKind.u8 (y.toNat : Int)), AV.lit (Value.int IntKind.u8 c)])[0 + i]? = some (.lit (.int .u8 e.toNat)) := by
  intro i e hc
  match i with
  | 0 => cases hc; rfl
  | 1 => cases hc; rfl
  | 2 => cases hc; rw [h]; rfl
  | i + 3 => simp at hc
theorem may_again {d : DeskM} {k c : Int} {s base : ByteArray} (h : mayD d k s base c = 0) (o : ByteArray) (ho : customS o = true) : mayD (addD d s base c) k o base c = 10 := by
  obtain ⟨h1, h2, h3, h4, h5, _⟩ := mayD_zero h
  refine may10 ⟨right_add h, h2, h3, h4⟩ ho (.inr ?_)
  have : newD s base c ∈ (addD d s base c).defs := by show _ ∈ d.defs ++ [newD s base c]; simp
  exact posC_pos this
set_option maxHeartbeats 32000000 in
/-- DeskAdds -/
theorem f5_ok (d : DeskM) (k : Int) (s base a b : ByteArray) (c : Int) : FnOK Tryd.prog 5 [] [eDesk d, eInt k, eStr s, eStr base, eStr a, eStr b, eInt c] [] (eBool true) := by
  obtain ⟨sb, hsb⟩ : ∃ b, shortB d = b := ⟨_, rfl⟩
  have h9 := f9_at hsb
  obtain ⟨⟨⟨gl, gw, gn, gb⟩, at', tl, e⟩, D⟩ : ∃ x, defineD d k s base c = x := ⟨_, rfl⟩
  obtain ⟨b1, b2, b3, hm, hno, hyes⟩ := define_len D
  have hz := fun he => mayD_zero (hm.trans he)
  have hrg := fun he => right_add (hm.trans he)
  have hag := fun he => may_again (hm.trans he)
  have hfd := fun he => adds_find (hm.trans he) a b
  have hto := @told_one d
  have htr := told_rest d.waits s
  obtain ⟨l, ws, nx, bz⟩ := d
  simp only at b1 b2 b3 hno hyes hto htr
  have hlm : (l.map oDef).length = l.length := List.length_map ..
  have hwm : (ws.map oWait).length = ws.length := List.length_map ..
  refine FnOK.startC (rvs := [.tmp 14]) G G_good Tryd.func5 rfl Tryd.ntmps5 rfl rfl ?_; delta List.toArray; ((with_reducible conv => whnf); (with_reducible conv => congr <;> reduce); repeat ((first | (with_reducible refine HaltK.mk ?_) | (with_reducible refine StopK.mk ?_)); (with_reducible conv => whnf); (with_reducible conv => congr <;> reduce)))
  refine CallK.lit [] f8_ok c8 trivial rfl rfl ?_; ((with_reducible conv => whnf); (with_reducible conv => congr <;> reduce); repeat ((first | (with_reducible refine HaltK.mk ?_) | (with_reducible refine StopK.mk ?_)); (with_reducible conv => whnf); (with_reducible conv => congr <;> reduce)))
  refine IfK.ff ?_; ((with_reducible conv => whnf); (with_reducible conv => congr <;> reduce); repeat ((first | (with_reducible refine HaltK.mk ?_) | (with_reducible refine StopK.mk ?_)); (with_reducible conv => whnf); (with_reducible conv => congr <;> reduce)))
  refine CallK.lit [] h9 c9 ⟨⟨rfl, rfl, rfl, rfl, trivial⟩, trivial⟩ rfl rfl ?_; ((with_reducible conv => whnf); (with_reducible conv => congr <;> reduce); repeat ((first | (with_reducible refine HaltK.mk ?_) | (with_reducible refine StopK.mk ?_)); (with_reducible conv => whnf); (with_reducible conv => congr <;> reduce)))
  cases sb with
  | false => repeat' (first
    | (first
    | ((with_reducible show IfK _ _ _ _); first | refine IfK.ff ?_ | refine IfK.tt ?_ | refine IfK.no (by first | rfl | assumption | exact nf (by assumption) | exact nt (by assumption) | ((try simp only [castN]); first | (simp [hsb]; done) | (simp [hsb]; omega))) ?_ | refine IfK.yes (by first | rfl | assumption | exact nf (by assumption) | exact nt (by assumption) | ((try simp only [castN]); first | (simp [hsb]; done) | (simp [hsb]; omega))) ?_)
    | ((with_reducible show NeedK _ _ _ _); refine NeedK.mk (by (try simp only [castN]); omega) ?_)
    | ((with_reducible show DrawK _ _ _ _); refine DrawK.mk (by kernel_rfl) (by kernel_rfl) (by kernel_rfl) ?_)) <;> ((with_reducible conv => whnf); (with_reducible conv => congr <;> reduce); repeat ((first | (with_reducible refine HaltK.mk ?_) | (with_reducible refine StopK.mk ?_)); (with_reducible conv => whnf); (with_reducible conv => congr <;> reduce)))
    | ((with_reducible show (_ ∧ _) ∧ _ ∧ _); refine ⟨⟨rfl, rfl⟩, ?_, ?_⟩ <;> (with_reducible conv => whnf) <;> repeat' (first | (with_reducible exact trivial) | (with_reducible refine And.intro ?_ ?_ <;> with_reducible conv => whnf))))
  | true =>
    have hS : ShortD ⟨l, ws, nx, bz⟩ := shortB_iff.1 hsb
    have hM := hS.small
    have hl40 : l.length ≤ 40 := hS.defs
    have hw40 : ws.length ≤ 40 := hS.waits
    by_cases n1 : 300 < s.size
    · repeat' (first
    | (first
    | ((with_reducible show IfK _ _ _ _); first | refine IfK.ff ?_ | refine IfK.tt ?_ | refine IfK.no (by first | rfl | assumption | exact nf (by assumption) | exact nt (by assumption) | ((try simp only [castN]); first | (simp [n1]; done) | (simp [n1]; omega))) ?_ | refine IfK.yes (by first | rfl | assumption | exact nf (by assumption) | exact nt (by assumption) | ((try simp only [castN]); first | (simp [n1]; done) | (simp [n1]; omega))) ?_)
    | ((with_reducible show NeedK _ _ _ _); refine NeedK.mk (by (try simp only [castN]); omega) ?_)
    | ((with_reducible show DrawK _ _ _ _); refine DrawK.mk (by kernel_rfl) (by kernel_rfl) (by kernel_rfl) ?_)) <;> ((with_reducible conv => whnf); (with_reducible conv => congr <;> reduce); repeat ((first | (with_reducible refine HaltK.mk ?_) | (with_reducible refine StopK.mk ?_)); (with_reducible conv => whnf); (with_reducible conv => congr <;> reduce)))
    | ((with_reducible show (_ ∧ _) ∧ _ ∧ _); refine ⟨⟨rfl, rfl⟩, ?_, ?_⟩ <;> (with_reducible conv => whnf) <;> repeat' (first | (with_reducible exact trivial) | (with_reducible refine And.intro ?_ ?_ <;> with_reducible conv => whnf))))
    by_cases n2 : 300 < base.size
    · repeat' (first
    | (first
    | ((with_reducible show IfK _ _ _ _); first | refine IfK.ff ?_ | refine IfK.tt ?_ | refine IfK.no (by first | rfl | assumption | exact nf (by assumption) | exact nt (by assumption) | ((try simp only [castN]); first | (simp [n1, n2]; done) | (simp [n1, n2]; omega))) ?_ | refine IfK.yes (by first | rfl | assumption | exact nf (by assumption) | exact nt (by assumption) | ((try simp only [castN]); first | (simp [n1, n2]; done) | (simp [n1, n2]; omega))) ?_)
    | ((with_reducible show NeedK _ _ _ _); refine NeedK.mk (by (try simp only [castN]); omega) ?_)
    | ((with_reducible show DrawK _ _ _ _); refine DrawK.mk (by kernel_rfl) (by kernel_rfl) (by kernel_rfl) ?_)) <;> ((with_reducible conv => whnf); (with_reducible conv => congr <;> reduce); repeat ((first | (with_reducible refine HaltK.mk ?_) | (with_reducible refine StopK.mk ?_)); (with_reducible conv => whnf); (with_reducible conv => congr <;> reduce)))
    | ((with_reducible show (_ ∧ _) ∧ _ ∧ _); refine ⟨⟨rfl, rfl⟩, ?_, ?_⟩ <;> (with_reducible conv => whnf) <;> repeat' (first | (with_reducible exact trivial) | (with_reducible refine And.intro ?_ ?_ <;> with_reducible conv => whnf))))
    by_cases n3 : 300 < a.size
    · repeat' (first
    | (first
    | ((with_reducible show IfK _ _ _ _); first | refine IfK.ff ?_ | refine IfK.tt ?_ | refine IfK.no (by first | rfl | assumption | exact nf (by assumption) | exact nt (by assumption) | ((try simp only [castN]); first | (simp [n1, n2, n3]; done) | (simp [n1, n2, n3]; omega))) ?_ | refine IfK.yes (by first | rfl | assumption | exact nf (by assumption) | exact nt (by assumption) | ((try simp only [castN]); first | (simp [n1, n2, n3]; done) | (simp [n1, n2, n3]; omega))) ?_)
    | ((with_reducible show NeedK _ _ _ _); refine NeedK.mk (by (try simp only [castN]); omega) ?_)
    | ((with_reducible show DrawK _ _ _ _); refine DrawK.mk (by kernel_rfl) (by kernel_rfl) (by kernel_rfl) ?_)) <;> ((with_reducible conv => whnf); (with_reducible conv => congr <;> reduce); repeat ((first | (with_reducible refine HaltK.mk ?_) | (with_reducible refine StopK.mk ?_)); (with_reducible conv => whnf); (with_reducible conv => congr <;> reduce)))
    | ((with_reducible show (_ ∧ _) ∧ _ ∧ _); refine ⟨⟨rfl, rfl⟩, ?_, ?_⟩ <;> (with_reducible conv => whnf) <;> repeat' (first | (with_reducible exact trivial) | (with_reducible refine And.intro ?_ ?_ <;> with_reducible conv => whnf))))
    by_cases n4 : 300 < b.size
    · repeat' (first
    | (first
    | ((with_reducible show IfK _ _ _ _); first | refine IfK.ff ?_ | refine IfK.tt ?_ | refine IfK.no (by first | rfl | assumption | exact nf (by assumption) | exact nt (by assumption) | ((try simp only [castN]); first | (simp [n1, n2, n3, n4]; done) | (simp [n1, n2, n3, n4]; omega))) ?_ | refine IfK.yes (by first | rfl | assumption | exact nf (by assumption) | exact nt (by assumption) | ((try simp only [castN]); first | (simp [n1, n2, n3, n4]; done) | (simp [n1, n2, n3, n4]; omega))) ?_)
    | ((with_reducible show NeedK _ _ _ _); refine NeedK.mk (by (try simp only [castN]); omega) ?_)
    | ((with_reducible show DrawK _ _ _ _); refine DrawK.mk (by kernel_rfl) (by kernel_rfl) (by kernel_rfl) ?_)) <;> ((with_reducible conv => whnf); (with_reducible conv => congr <;> reduce); repeat ((first | (with_reducible refine HaltK.mk ?_) | (with_reducible refine StopK.mk ?_)); (with_reducible conv => whnf); (with_reducible conv => congr <;> reduce)))
    | ((with_reducible show (_ ∧ _) ∧ _ ∧ _); refine ⟨⟨rfl, rfl⟩, ?_, ?_⟩ <;> (with_reducible conv => whnf) <;> repeat' (first | (with_reducible exact trivial) | (with_reducible refine And.intro ?_ ?_ <;> with_reducible conv => whnf))))
    repeat' (first
    | (first
    | ((with_reducible show IfK _ _ _ _); first | refine IfK.ff ?_ | refine IfK.tt ?_ | refine IfK.no (by first | rfl | assumption | exact nf (by assumption) | exact nt (by assumption) | ((try simp only [castN]); first | (simp [n1, n2, n3, n4]; done) | (simp [n1, n2, n3, n4]; omega))) ?_ | refine IfK.yes (by first | rfl | assumption | exact nf (by assumption) | exact nt (by assumption) | ((try simp only [castN]); first | (simp [n1, n2, n3, n4]; done) | (simp [n1, n2, n3, n4]; omega))) ?_)
    | ((with_reducible show NeedK _ _ _ _); refine NeedK.mk (by (try simp only [castN]); omega) ?_)
    | ((with_reducible show DrawK _ _ _ _); refine DrawK.mk (by kernel_rfl) (by kernel_rfl) (by kernel_rfl) ?_)) <;> ((with_reducible conv => whnf); (with_reducible conv => congr <;> reduce); repeat ((first | (with_reducible refine HaltK.mk ?_) | (with_reducible refine StopK.mk ?_)); (with_reducible conv => whnf); (with_reducible conv => congr <;> reduce)))
    | ((with_reducible show (_ ∧ _) ∧ _ ∧ _); refine ⟨⟨rfl, rfl⟩, ?_, ?_⟩ <;> (with_reducible conv => whnf) <;> repeat' (first | (with_reducible exact trivial) | (with_reducible refine And.intro ?_ ?_ <;> with_reducible conv => whnf))))
    refine CallK.val [] (f18_at hM D) c18 ⟨⟨rfl, rfl, rfl, rfl, trivial⟩, rfl, rfl, rfl, rfl, trivial⟩ rfl rfl rfl ?_; ((with_reducible conv => whnf); (with_reducible conv => congr <;> reduce); repeat ((first | (with_reducible refine HaltK.mk ?_) | (with_reducible refine StopK.mk ?_)); (with_reducible conv => whnf); (with_reducible conv => congr <;> reduce)))
    by_cases he : e = 0
    · obtain ⟨y1, y2, y3⟩ := hyes he
      obtain ⟨z1, z2, z3, z4, z5, z6, z7, z8, z9⟩ := hz he
      have z9 : bz = false := z9
      have hrg := hrg he
      have hag := hag he
      obtain ⟨fd1, fd2⟩ := hfd he
      subst z9
      subst y2
      subst y3
      obtain ⟨nd, hnd⟩ : ∃ x, newD s base c = x := ⟨_, rfl⟩
      have y1' : (⟨gl, gw, gn, gb⟩ : DeskM) = ⟨l ++ [nd], restW ws s, nx, false⟩ := by rw [y1, ← hnd]; rfl
      have ya : addD ⟨l, ws, nx, false⟩ s base c = ⟨l ++ [nd], restW ws s, nx, false⟩ := by rw [← hnd]; rfl
      rw [ya] at hrg hag fd1 fd2
      simp only [DeskM.mk.injEq] at y1'
      obtain ⟨w1, w2, w3, w4⟩ := y1'
      subst gl
      subst gw
      subst gn
      subst gb
      have hgs : SmallD ⟨l ++ [nd], restW ws s, nx, false⟩ := ⟨by show (l ++ [nd]).length ≤ 100000; omega, by show (restW ws s).length ≤ 100000; omega⟩
      have hglen : ((l ++ [nd]).map oDef).length = l.length + 1 := by simp
      have hgwm : ((restW ws s).map oWait).length = (restW ws s).length := List.length_map ..
      have htm : ((toldW ws s).map oInt).length = (toldW ws s).length := List.length_map ..
      have m10 := hag s z5
      repeat' (first
    | (first
    | ((with_reducible show IfK _ _ _ _); first | refine IfK.ff ?_ | refine IfK.tt ?_ | refine IfK.no (by first | rfl | assumption | exact nf (by assumption) | exact nt (by assumption) | ((try simp only [castN]); first | (simp [he, hlm, hglen]; done) | (simp [he, hlm, hglen]; omega))) ?_ | refine IfK.yes (by first | rfl | assumption | exact nf (by assumption) | exact nt (by assumption) | ((try simp only [castN]); first | (simp [he, hlm, hglen]; done) | (simp [he, hlm, hglen]; omega))) ?_)
    | ((with_reducible show NeedK _ _ _ _); refine NeedK.mk (by (try simp only [castN]); omega) ?_)
    | ((with_reducible show DrawK _ _ _ _); refine DrawK.mk (by kernel_rfl) (by kernel_rfl) (by kernel_rfl) ?_)
    | ((with_reducible show CallK _ _ 14 _ _ _ _); first | (refine CallK.lit [] (f14_at hM z1) c14 ⟨⟨rfl, rfl, rfl, rfl, trivial⟩, trivial⟩ rfl rfl ?_) | (refine CallK.lit [] (f14_at hgs hrg) c14 ⟨⟨rfl, rfl, rfl, rfl, trivial⟩, trivial⟩ rfl rfl ?_))
    | ((with_reducible show CallK _ _ 20 _ _ _ _); refine CallK.lit [] (f20_at hgs m10) c20 ⟨⟨rfl, rfl, rfl, rfl, trivial⟩, rfl, rfl, rfl, rfl, trivial⟩ rfl rfl ?_)) <;> ((with_reducible conv => whnf); (with_reducible conv => congr <;> reduce); repeat ((first | (with_reducible refine HaltK.mk ?_) | (with_reducible refine StopK.mk ?_)); (with_reducible conv => whnf); (with_reducible conv => congr <;> reduce)))
    | ((with_reducible show (_ ∧ _) ∧ _ ∧ _); refine ⟨⟨rfl, rfl⟩, ?_, ?_⟩ <;> (with_reducible conv => whnf) <;> repeat' (first | (with_reducible exact trivial) | (with_reducible refine And.intro ?_ ?_ <;> with_reducible conv => whnf))))
      refine LoopK.use G G_good (fun (i : Nat) => [(1, eInt k), (2, eStr s), (3, eStr base), (4, eStr a), (5, eStr b), (6, eInt c), (7, .ptr 70 0 0), (15, .ptr 150 0 0), (16, eInt l.length), (17, eInts (toldW ws s)), (19, eInt i)])
        (fun _ => [(70, .live 4 [eDesk ⟨l, ws, nx, false⟩] false), (150, .live 4 [eDesk ⟨l ++ [nd], restW ws s, nx, false⟩] false)]) (fun i => i ≤ 26) (fun i => 26 - i) 0 (Nat.zero_le _)
        ⟨⟨rfl, rfl⟩, ⟨rfl, rfl, rfl, rfl, rfl, rfl, ⟨rfl, rfl⟩, ⟨rfl, rfl⟩, rfl, rfl, rfl, trivial⟩, ⟨⟨rfl, rfl, rfl, rfl, trivial⟩, trivial⟩, ⟨⟨rfl, rfl, rfl, rfl, trivial⟩, trivial⟩, trivial⟩ ?_
      intro i hi
      ((with_reducible conv => whnf); (with_reducible conv => congr <;> reduce); repeat ((first | (with_reducible refine HaltK.mk ?_) | (with_reducible refine StopK.mk ?_)); (with_reducible conv => whnf); (with_reducible conv => congr <;> reduce)))
      refine IfK.mk (fun h1 => ?_) (fun h1 => ?_) <;> (try simp only [castN] at h1) <;> ((with_reducible conv => whnf); (with_reducible conv => congr <;> reduce); repeat ((first | (with_reducible refine HaltK.mk ?_) | (with_reducible refine StopK.mk ?_)); (with_reducible conv => whnf); (with_reducible conv => congr <;> reduce)))
      · simp only [decide_eq_true_eq] at h1
        have hi26 : i < 26 := by omega
        have hq8 : 0 ≤ (i : Int) ∧ (i : Int) < 256 := by omega
        refine ConvK.int (by kernel_rfl) (by kernel_rfl) (wrap8 hq8) ?_; ((with_reducible conv => whnf); (with_reducible conv => congr <;> reduce); repeat ((first | (with_reducible refine HaltK.mk ?_) | (with_reducible refine StopK.mk ?_)); (with_reducible conv => whnf); (with_reducible conv => congr <;> reduce)))
        refine BytesK.mk (e := 5) [113, 45, UInt8.ofNat (97 + i)] (by kernel_rfl) (by kernel_rfl) (by kernel_rfl) rfl (by simp) (bytes_three (x := 113) (y := 45) (byte_k hi26)) ?_; ((with_reducible conv => whnf); (with_reducible conv => congr <;> reduce); repeat ((first | (with_reducible refine HaltK.mk ?_) | (with_reducible refine StopK.mk ?_)); (with_reducible conv => whnf); (with_reducible conv => congr <;> reduce)))
        rw [show ByteArray.mk [113, 45, UInt8.ofNat (97 + i)].toArray = qk i from rfl]
        have m10q := hag (qk i) (qk_custom i hi26)
        obtain ⟨V, hV⟩ : ∃ x, namedD ⟨l ++ [nd], restW ws s, nx, false⟩ (qk i) = x := ⟨_, rfl⟩
        by_cases hV1 : V = -1
        · repeat' (first
    | (first
    | ((with_reducible show IfK _ _ _ _); first | refine IfK.ff ?_ | refine IfK.tt ?_ | refine IfK.no (by first | rfl | assumption | exact nf (by assumption) | exact nt (by assumption) | ((try simp only [castN]); first | (simp [hV1]; done) | (simp [hV1]; omega))) ?_ | refine IfK.yes (by first | rfl | assumption | exact nf (by assumption) | exact nt (by assumption) | ((try simp only [castN]); first | (simp [hV1]; done) | (simp [hV1]; omega))) ?_)
    | ((with_reducible show NeedK _ _ _ _); refine NeedK.mk (by (try simp only [castN]); omega) ?_)
    | ((with_reducible show DrawK _ _ _ _); refine DrawK.mk (by kernel_rfl) (by kernel_rfl) (by kernel_rfl) ?_)
    | ((with_reducible show CallK _ _ 12 _ _ _ _); refine CallK.lit [] (f12_at hgs hV) c12 ⟨⟨rfl, rfl, rfl, rfl, trivial⟩, rfl, trivial⟩ rfl rfl ?_)
    | ((with_reducible show CallK _ _ 20 _ _ _ _); refine CallK.lit [] (f20_at hgs m10q) c20 ⟨⟨rfl, rfl, rfl, rfl, trivial⟩, rfl, rfl, rfl, rfl, trivial⟩ rfl rfl ?_)
    | ((with_reducible show NextK _ _); refine NextK.mk (i + 1) (by omega) (by omega) ⟨⟨rfl, rfl⟩, ⟨rfl, rfl, rfl, rfl, rfl, rfl, ⟨rfl, rfl⟩, ⟨rfl, rfl⟩, rfl, rfl, by show ((i + 1 : Nat) : Int) = (i : Int) + 1; omega, trivial⟩, ⟨⟨rfl, rfl, rfl, rfl, trivial⟩, trivial⟩, ⟨⟨rfl, rfl, rfl, rfl, trivial⟩, trivial⟩, trivial⟩)) <;> ((with_reducible conv => whnf); (with_reducible conv => congr <;> reduce); repeat ((first | (with_reducible refine HaltK.mk ?_) | (with_reducible refine StopK.mk ?_)); (with_reducible conv => whnf); (with_reducible conv => congr <;> reduce)))
    | ((with_reducible show (_ ∧ _) ∧ _ ∧ _); refine ⟨⟨rfl, rfl⟩, ?_, ?_⟩ <;> (with_reducible conv => whnf) <;> repeat' (first | (with_reducible exact trivial) | (with_reducible refine And.intro ?_ ?_ <;> with_reducible conv => whnf))))
        · repeat' (first
    | (first
    | ((with_reducible show IfK _ _ _ _); first | refine IfK.ff ?_ | refine IfK.tt ?_ | refine IfK.no (by first | rfl | assumption | exact nf (by assumption) | exact nt (by assumption) | ((try simp only [castN]); first | (simp [hV1]; done) | (simp [hV1]; omega))) ?_ | refine IfK.yes (by first | rfl | assumption | exact nf (by assumption) | exact nt (by assumption) | ((try simp only [castN]); first | (simp [hV1]; done) | (simp [hV1]; omega))) ?_)
    | ((with_reducible show NeedK _ _ _ _); refine NeedK.mk (by (try simp only [castN]); omega) ?_)
    | ((with_reducible show DrawK _ _ _ _); refine DrawK.mk (by kernel_rfl) (by kernel_rfl) (by kernel_rfl) ?_)
    | ((with_reducible show CallK _ _ 12 _ _ _ _); refine CallK.lit [] (f12_at hgs hV) c12 ⟨⟨rfl, rfl, rfl, rfl, trivial⟩, rfl, trivial⟩ rfl rfl ?_)
    | ((with_reducible show NextK _ _); refine NextK.mk (i + 1) (by omega) (by omega) ⟨⟨rfl, rfl⟩, ⟨rfl, rfl, rfl, rfl, rfl, rfl, ⟨rfl, rfl⟩, ⟨rfl, rfl⟩, rfl, rfl, by show ((i + 1 : Nat) : Int) = (i : Int) + 1; omega, trivial⟩, ⟨⟨rfl, rfl, rfl, rfl, trivial⟩, trivial⟩, ⟨⟨rfl, rfl, rfl, rfl, trivial⟩, trivial⟩, trivial⟩)) <;> ((with_reducible conv => whnf); (with_reducible conv => congr <;> reduce); repeat ((first | (with_reducible refine HaltK.mk ?_) | (with_reducible refine StopK.mk ?_)); (with_reducible conv => whnf); (with_reducible conv => congr <;> reduce)))
    | ((with_reducible show (_ ∧ _) ∧ _ ∧ _); refine ⟨⟨rfl, rfl⟩, ?_, ?_⟩ <;> (with_reducible conv => whnf) <;> repeat' (first | (with_reducible exact trivial) | (with_reducible refine And.intro ?_ ?_ <;> with_reducible conv => whnf))))
      · obtain ⟨wn, wl, wc⟩ := nd
        have hlast : (l ++ [(⟨wn, wl, wc⟩ : DefM)])[l.length]? = some ⟨wn, wl, wc⟩ := by rw [List.getElem?_append_right (Nat.le_refl _)]; simp
        refine IdxK.mk l.length (eDef ⟨wn, wl, wc⟩) rfl (def_get hlast) ?_; ((with_reducible conv => whnf); (with_reducible conv => congr <;> reduce); repeat ((first | (with_reducible refine HaltK.mk ?_) | (with_reducible refine StopK.mk ?_)); (with_reducible conv => whnf); (with_reducible conv => congr <;> reduce)))
        rw [hnd] at fd1 fd2
        obtain ⟨P1, p1⟩ : ∃ x, findD ⟨l, ws, nx, false⟩ a b = x := ⟨_, rfl⟩
        obtain ⟨P2, p2⟩ : ∃ x, findD ⟨l ++ [⟨wn, wl, wc⟩], restW ws s, nx, false⟩ a b = x := ⟨_, rfl⟩
        rw [p1, p2] at fd1 fd2
        have loop : ∀ {p : Prop}, p → p := fun h => h
        by_cases e1 : wl = a
        · by_cases e2 : wn = a
          · obtain ⟨q1, q2⟩ := fd1 (fitsB_iff.2 ⟨e1, .inl e2⟩)
            repeat' (first
    | (first
    | ((with_reducible show IfK _ _ _ _); first | refine IfK.ff ?_ | refine IfK.tt ?_ | refine IfK.no (by first | rfl | assumption | exact nf (by assumption) | exact nt (by assumption) | ((try simp only [castN]); first | (simp [eq_true e1, eq_true e2, q1, q2]; done) | (simp [eq_true e1, eq_true e2, q1, q2]; omega))) ?_ | refine IfK.yes (by first | rfl | assumption | exact nf (by assumption) | exact nt (by assumption) | ((try simp only [castN]); first | (simp [eq_true e1, eq_true e2, q1, q2]; done) | (simp [eq_true e1, eq_true e2, q1, q2]; omega))) ?_)
    | ((with_reducible show NeedK _ _ _ _); refine NeedK.mk (by (try simp only [castN]); omega) ?_)
    | ((with_reducible show DrawK _ _ _ _); refine DrawK.mk (by kernel_rfl) (by kernel_rfl) (by kernel_rfl) ?_)
    | ((with_reducible show CallK _ _ 11 _ _ _ _); first | (refine CallK.lit [] (f11_at hM p1) c11 ⟨⟨rfl, rfl, rfl, rfl, trivial⟩, rfl, rfl, trivial⟩ rfl rfl ?_) | (refine CallK.lit [] (f11_at hgs p2) c11 ⟨⟨rfl, rfl, rfl, rfl, trivial⟩, rfl, rfl, trivial⟩ rfl rfl ?_))) <;> ((with_reducible conv => whnf); (with_reducible conv => congr <;> reduce); repeat ((first | (with_reducible refine HaltK.mk ?_) | (with_reducible refine StopK.mk ?_)); (with_reducible conv => whnf); (with_reducible conv => congr <;> reduce)))
    | ((with_reducible show (_ ∧ _) ∧ _ ∧ _); refine ⟨⟨rfl, rfl⟩, ?_, ?_⟩ <;> (with_reducible conv => whnf) <;> repeat' (first | (with_reducible exact trivial) | (with_reducible refine And.intro ?_ ?_ <;> with_reducible conv => whnf))))
            refine LoopK.use G G_good (fun (j : Nat) => [(2, eStr s), (7, .ptr 70 0 0), (15, .ptr 150 0 0), (17, eInts (toldW ws s)), (25, eInt (restW (ws.take j) s).length), (26, eInt j)])
              (fun _ => [(70, .live 4 [eDesk ⟨l, ws, nx, false⟩] false), (150, .live 4 [eDesk ⟨l ++ [⟨wn, wl, wc⟩], restW ws s, nx, false⟩] false)]) (fun j => j ≤ ws.length) (fun j => ws.length - j) 0 (Nat.zero_le _)
              ⟨⟨rfl, rfl⟩, ⟨rfl, ⟨rfl, rfl⟩, ⟨rfl, rfl⟩, rfl, rfl, rfl, trivial⟩, ⟨⟨rfl, rfl, rfl, rfl, trivial⟩, trivial⟩, ⟨⟨rfl, rfl, rfl, rfl, trivial⟩, trivial⟩, trivial⟩ ?_
            intro j hj
            ((with_reducible conv => whnf); (with_reducible conv => congr <;> reduce); repeat ((first | (with_reducible refine HaltK.mk ?_) | (with_reducible refine StopK.mk ?_)); (with_reducible conv => whnf); (with_reducible conv => congr <;> reduce)))
            refine IfK.mk (fun g1 => ?_) (fun g1 => ?_) <;> (try simp only [castN] at g1) <;> ((with_reducible conv => whnf); (with_reducible conv => congr <;> reduce); repeat ((first | (with_reducible refine HaltK.mk ?_) | (with_reducible refine StopK.mk ?_)); (with_reducible conv => whnf); (with_reducible conv => congr <;> reduce)))
            · simp only [hwm, decide_eq_true_eq] at g1
              have hj' : j < ws.length := by omega
              obtain ⟨⟨n, tk⟩, hx⟩ : ∃ a, ws[j]? = some a := ⟨_, List.getElem?_eq_getElem hj'⟩
              have hr1 := restW_len ws s j
              have hr2 := restW_snoc (s := s) hx
              refine IdxK.mk j (eWait ⟨n, tk⟩) rfl (wait_get hx) ?_; ((with_reducible conv => whnf); (with_reducible conv => congr <;> reduce); repeat ((first | (with_reducible refine HaltK.mk ?_) | (with_reducible refine StopK.mk ?_)); (with_reducible conv => whnf); (with_reducible conv => congr <;> reduce)))
              by_cases hns : n = s
              · rw [if_pos hns] at hr2
                have h1t : countI (toldW ws s) tk = 1 := by
                  have := hto z1 (List.mem_of_getElem? hx)
                  simp only at this
                  rwa [hns] at this
                have hct : FnOK Tryd.prog 26 [] [eInts (toldW ws s), eInt tk] [] (eInt 1) := by have := f26_ok (toldW ws s) tk (by omega); rwa [h1t] at this
                repeat' (first
    | (first
    | ((with_reducible show IfK _ _ _ _); first | refine IfK.ff ?_ | refine IfK.tt ?_ | refine IfK.no (by first | rfl | assumption | exact nf (by assumption) | exact nt (by assumption) | ((try simp only [castN]); first | (simp [hns]; done) | (simp [hns]; omega))) ?_ | refine IfK.yes (by first | rfl | assumption | exact nf (by assumption) | exact nt (by assumption) | ((try simp only [castN]); first | (simp [hns]; done) | (simp [hns]; omega))) ?_)
    | ((with_reducible show NeedK _ _ _ _); refine NeedK.mk (by (try simp only [castN]); omega) ?_)
    | ((with_reducible show DrawK _ _ _ _); refine DrawK.mk (by kernel_rfl) (by kernel_rfl) (by kernel_rfl) ?_)
    | ((with_reducible show CallK _ _ 26 _ _ _ _); refine CallK.lit [] hct c26 ⟨rfl, rfl, trivial⟩ rfl rfl ?_)
    | ((with_reducible show NextK _ _); refine NextK.mk (j + 1) (by omega) (by omega) ⟨⟨rfl, rfl⟩, ⟨rfl, ⟨rfl, rfl⟩, ⟨rfl, rfl⟩, rfl, by rw [hr2], by show ((j + 1 : Nat) : Int) = (j : Int) + 1; omega, trivial⟩, ⟨⟨rfl, rfl, rfl, rfl, trivial⟩, trivial⟩, ⟨⟨rfl, rfl, rfl, rfl, trivial⟩, trivial⟩, trivial⟩)) <;> ((with_reducible conv => whnf); (with_reducible conv => congr <;> reduce); repeat ((first | (with_reducible refine HaltK.mk ?_) | (with_reducible refine StopK.mk ?_)); (with_reducible conv => whnf); (with_reducible conv => congr <;> reduce)))
    | ((with_reducible show (_ ∧ _) ∧ _ ∧ _); refine ⟨⟨rfl, rfl⟩, ?_, ?_⟩ <;> (with_reducible conv => whnf) <;> repeat' (first | (with_reducible exact trivial) | (with_reducible refine And.intro ?_ ?_ <;> with_reducible conv => whnf))))
              · rw [if_neg hns] at hr2
                have hat := restW_at hx hns
                have hlt : (restW (ws.take j) s).length < (restW ws s).length := (List.getElem?_eq_some_iff.1 hat).1
                repeat' (first
    | (first
    | ((with_reducible show IfK _ _ _ _); first | refine IfK.ff ?_ | refine IfK.tt ?_ | refine IfK.no (by first | rfl | assumption | exact nf (by assumption) | exact nt (by assumption) | ((try simp only [castN]); first | (simp [hns, hgwm, hlt]; done) | (simp [hns, hgwm, hlt]; omega))) ?_ | refine IfK.yes (by first | rfl | assumption | exact nf (by assumption) | exact nt (by assumption) | ((try simp only [castN]); first | (simp [hns, hgwm, hlt]; done) | (simp [hns, hgwm, hlt]; omega))) ?_)
    | ((with_reducible show NeedK _ _ _ _); refine NeedK.mk (by (try simp only [castN]); omega) ?_)
    | ((with_reducible show DrawK _ _ _ _); refine DrawK.mk (by kernel_rfl) (by kernel_rfl) (by kernel_rfl) ?_)
    | ((with_reducible show IdxK _ _ _ _ _); refine IdxK.mk (restW (ws.take j) s).length (eWait ⟨n, tk⟩) rfl (wait_get hat) ?_)
    | ((with_reducible show EqK _ _ _ _ _ _ _ _); refine EqK.mk _ (fun y z w => wait_neq ⟨n, tk⟩ ⟨n, tk⟩ y z w) ?_)
    | ((with_reducible show NextK _ _); refine NextK.mk (j + 1) (by omega) (by omega) ⟨⟨rfl, rfl⟩, ⟨rfl, ⟨rfl, rfl⟩, ⟨rfl, rfl⟩, rfl, by rw [hr2]; simp, by show ((j + 1 : Nat) : Int) = (j : Int) + 1; omega, trivial⟩, ⟨⟨rfl, rfl, rfl, rfl, trivial⟩, trivial⟩, ⟨⟨rfl, rfl, rfl, rfl, trivial⟩, trivial⟩, trivial⟩)) <;> ((with_reducible conv => whnf); (with_reducible conv => congr <;> reduce); repeat ((first | (with_reducible refine HaltK.mk ?_) | (with_reducible refine StopK.mk ?_)); (with_reducible conv => whnf); (with_reducible conv => congr <;> reduce)))
    | ((with_reducible show (_ ∧ _) ∧ _ ∧ _); refine ⟨⟨rfl, rfl⟩, ?_, ?_⟩ <;> (with_reducible conv => whnf) <;> repeat' (first | (with_reducible exact trivial) | (with_reducible refine And.intro ?_ ?_ <;> with_reducible conv => whnf))))
            · have hjl : j = ws.length := by simp only [hwm, decide_eq_false_iff_not] at g1; omega
              subst hjl
              rw [List.take_length]
              repeat' (first
    | (first
    | ((with_reducible show IfK _ _ _ _); first | refine IfK.ff ?_ | refine IfK.tt ?_ | refine IfK.no (by first | rfl | assumption | exact nf (by assumption) | exact nt (by assumption) | ((try simp only [castN]); first | (simp [hgwm, hwm, htm, htr]; done) | (simp [hgwm, hwm, htm, htr]; omega))) ?_ | refine IfK.yes (by first | rfl | assumption | exact nf (by assumption) | exact nt (by assumption) | ((try simp only [castN]); first | (simp [hgwm, hwm, htm, htr]; done) | (simp [hgwm, hwm, htm, htr]; omega))) ?_)
    | ((with_reducible show NeedK _ _ _ _); refine NeedK.mk (by (try simp only [castN]); omega) ?_)
    | ((with_reducible show DrawK _ _ _ _); refine DrawK.mk (by kernel_rfl) (by kernel_rfl) (by kernel_rfl) ?_)) <;> ((with_reducible conv => whnf); (with_reducible conv => congr <;> reduce); repeat ((first | (with_reducible refine HaltK.mk ?_) | (with_reducible refine StopK.mk ?_)); (with_reducible conv => whnf); (with_reducible conv => congr <;> reduce)))
    | ((with_reducible show (_ ∧ _) ∧ _ ∧ _); refine ⟨⟨rfl, rfl⟩, ?_, ?_⟩ <;> (with_reducible conv => whnf) <;> repeat' (first | (with_reducible exact trivial) | (with_reducible refine And.intro ?_ ?_ <;> with_reducible conv => whnf))))
              all_goals exact (decide_eq_true (by rw [htm, hwm, ← htr]; exact (Int.natCast_add _ _).symm)).symm
          · by_cases e3 : wn = b
            · obtain ⟨q1, q2⟩ := fd1 (fitsB_iff.2 ⟨e1, .inr e3⟩)
              repeat' (first
    | (first
    | ((with_reducible show IfK _ _ _ _); first | refine IfK.ff ?_ | refine IfK.tt ?_ | refine IfK.no (by first | rfl | assumption | exact nf (by assumption) | exact nt (by assumption) | ((try simp only [castN]); first | (simp [eq_true e1, eq_false e2, eq_true e3, q1, q2]; done) | (simp [eq_true e1, eq_false e2, eq_true e3, q1, q2]; omega))) ?_ | refine IfK.yes (by first | rfl | assumption | exact nf (by assumption) | exact nt (by assumption) | ((try simp only [castN]); first | (simp [eq_true e1, eq_false e2, eq_true e3, q1, q2]; done) | (simp [eq_true e1, eq_false e2, eq_true e3, q1, q2]; omega))) ?_)
    | ((with_reducible show NeedK _ _ _ _); refine NeedK.mk (by (try simp only [castN]); omega) ?_)
    | ((with_reducible show DrawK _ _ _ _); refine DrawK.mk (by kernel_rfl) (by kernel_rfl) (by kernel_rfl) ?_)
    | ((with_reducible show CallK _ _ 11 _ _ _ _); first | (refine CallK.lit [] (f11_at hM p1) c11 ⟨⟨rfl, rfl, rfl, rfl, trivial⟩, rfl, rfl, trivial⟩ rfl rfl ?_) | (refine CallK.lit [] (f11_at hgs p2) c11 ⟨⟨rfl, rfl, rfl, rfl, trivial⟩, rfl, rfl, trivial⟩ rfl rfl ?_))) <;> ((with_reducible conv => whnf); (with_reducible conv => congr <;> reduce); repeat ((first | (with_reducible refine HaltK.mk ?_) | (with_reducible refine StopK.mk ?_)); (with_reducible conv => whnf); (with_reducible conv => congr <;> reduce)))
    | ((with_reducible show (_ ∧ _) ∧ _ ∧ _); refine ⟨⟨rfl, rfl⟩, ?_, ?_⟩ <;> (with_reducible conv => whnf) <;> repeat' (first | (with_reducible exact trivial) | (with_reducible refine And.intro ?_ ?_ <;> with_reducible conv => whnf))))
              refine LoopK.use G G_good (fun (j : Nat) => [(2, eStr s), (7, .ptr 70 0 0), (15, .ptr 150 0 0), (17, eInts (toldW ws s)), (25, eInt (restW (ws.take j) s).length), (26, eInt j)])
                (fun _ => [(70, .live 4 [eDesk ⟨l, ws, nx, false⟩] false), (150, .live 4 [eDesk ⟨l ++ [⟨wn, wl, wc⟩], restW ws s, nx, false⟩] false)]) (fun j => j ≤ ws.length) (fun j => ws.length - j) 0 (Nat.zero_le _)
                ⟨⟨rfl, rfl⟩, ⟨rfl, ⟨rfl, rfl⟩, ⟨rfl, rfl⟩, rfl, rfl, rfl, trivial⟩, ⟨⟨rfl, rfl, rfl, rfl, trivial⟩, trivial⟩, ⟨⟨rfl, rfl, rfl, rfl, trivial⟩, trivial⟩, trivial⟩ ?_
              intro j hj
              ((with_reducible conv => whnf); (with_reducible conv => congr <;> reduce); repeat ((first | (with_reducible refine HaltK.mk ?_) | (with_reducible refine StopK.mk ?_)); (with_reducible conv => whnf); (with_reducible conv => congr <;> reduce)))
              refine IfK.mk (fun g1 => ?_) (fun g1 => ?_) <;> (try simp only [castN] at g1) <;> ((with_reducible conv => whnf); (with_reducible conv => congr <;> reduce); repeat ((first | (with_reducible refine HaltK.mk ?_) | (with_reducible refine StopK.mk ?_)); (with_reducible conv => whnf); (with_reducible conv => congr <;> reduce)))
              · simp only [hwm, decide_eq_true_eq] at g1
                have hj' : j < ws.length := by omega
                obtain ⟨⟨n, tk⟩, hx⟩ : ∃ a, ws[j]? = some a := ⟨_, List.getElem?_eq_getElem hj'⟩
                have hr1 := restW_len ws s j
                have hr2 := restW_snoc (s := s) hx
                refine IdxK.mk j (eWait ⟨n, tk⟩) rfl (wait_get hx) ?_; ((with_reducible conv => whnf); (with_reducible conv => congr <;> reduce); repeat ((first | (with_reducible refine HaltK.mk ?_) | (with_reducible refine StopK.mk ?_)); (with_reducible conv => whnf); (with_reducible conv => congr <;> reduce)))
                by_cases hns : n = s
                · rw [if_pos hns] at hr2
                  have h1t : countI (toldW ws s) tk = 1 := by
                    have := hto z1 (List.mem_of_getElem? hx)
                    simp only at this
                    rwa [hns] at this
                  have hct : FnOK Tryd.prog 26 [] [eInts (toldW ws s), eInt tk] [] (eInt 1) := by have := f26_ok (toldW ws s) tk (by omega); rwa [h1t] at this
                  repeat' (first
    | (first
    | ((with_reducible show IfK _ _ _ _); first | refine IfK.ff ?_ | refine IfK.tt ?_ | refine IfK.no (by first | rfl | assumption | exact nf (by assumption) | exact nt (by assumption) | ((try simp only [castN]); first | (simp [hns]; done) | (simp [hns]; omega))) ?_ | refine IfK.yes (by first | rfl | assumption | exact nf (by assumption) | exact nt (by assumption) | ((try simp only [castN]); first | (simp [hns]; done) | (simp [hns]; omega))) ?_)
    | ((with_reducible show NeedK _ _ _ _); refine NeedK.mk (by (try simp only [castN]); omega) ?_)
    | ((with_reducible show DrawK _ _ _ _); refine DrawK.mk (by kernel_rfl) (by kernel_rfl) (by kernel_rfl) ?_)
    | ((with_reducible show CallK _ _ 26 _ _ _ _); refine CallK.lit [] hct c26 ⟨rfl, rfl, trivial⟩ rfl rfl ?_)
    | ((with_reducible show NextK _ _); refine NextK.mk (j + 1) (by omega) (by omega) ⟨⟨rfl, rfl⟩, ⟨rfl, ⟨rfl, rfl⟩, ⟨rfl, rfl⟩, rfl, by rw [hr2], by show ((j + 1 : Nat) : Int) = (j : Int) + 1; omega, trivial⟩, ⟨⟨rfl, rfl, rfl, rfl, trivial⟩, trivial⟩, ⟨⟨rfl, rfl, rfl, rfl, trivial⟩, trivial⟩, trivial⟩)) <;> ((with_reducible conv => whnf); (with_reducible conv => congr <;> reduce); repeat ((first | (with_reducible refine HaltK.mk ?_) | (with_reducible refine StopK.mk ?_)); (with_reducible conv => whnf); (with_reducible conv => congr <;> reduce)))
    | ((with_reducible show (_ ∧ _) ∧ _ ∧ _); refine ⟨⟨rfl, rfl⟩, ?_, ?_⟩ <;> (with_reducible conv => whnf) <;> repeat' (first | (with_reducible exact trivial) | (with_reducible refine And.intro ?_ ?_ <;> with_reducible conv => whnf))))
                · rw [if_neg hns] at hr2
                  have hat := restW_at hx hns
                  have hlt : (restW (ws.take j) s).length < (restW ws s).length := (List.getElem?_eq_some_iff.1 hat).1
                  repeat' (first
    | (first
    | ((with_reducible show IfK _ _ _ _); first | refine IfK.ff ?_ | refine IfK.tt ?_ | refine IfK.no (by first | rfl | assumption | exact nf (by assumption) | exact nt (by assumption) | ((try simp only [castN]); first | (simp [hns, hgwm, hlt]; done) | (simp [hns, hgwm, hlt]; omega))) ?_ | refine IfK.yes (by first | rfl | assumption | exact nf (by assumption) | exact nt (by assumption) | ((try simp only [castN]); first | (simp [hns, hgwm, hlt]; done) | (simp [hns, hgwm, hlt]; omega))) ?_)
    | ((with_reducible show NeedK _ _ _ _); refine NeedK.mk (by (try simp only [castN]); omega) ?_)
    | ((with_reducible show DrawK _ _ _ _); refine DrawK.mk (by kernel_rfl) (by kernel_rfl) (by kernel_rfl) ?_)
    | ((with_reducible show IdxK _ _ _ _ _); refine IdxK.mk (restW (ws.take j) s).length (eWait ⟨n, tk⟩) rfl (wait_get hat) ?_)
    | ((with_reducible show EqK _ _ _ _ _ _ _ _); refine EqK.mk _ (fun y z w => wait_neq ⟨n, tk⟩ ⟨n, tk⟩ y z w) ?_)
    | ((with_reducible show NextK _ _); refine NextK.mk (j + 1) (by omega) (by omega) ⟨⟨rfl, rfl⟩, ⟨rfl, ⟨rfl, rfl⟩, ⟨rfl, rfl⟩, rfl, by rw [hr2]; simp, by show ((j + 1 : Nat) : Int) = (j : Int) + 1; omega, trivial⟩, ⟨⟨rfl, rfl, rfl, rfl, trivial⟩, trivial⟩, ⟨⟨rfl, rfl, rfl, rfl, trivial⟩, trivial⟩, trivial⟩)) <;> ((with_reducible conv => whnf); (with_reducible conv => congr <;> reduce); repeat ((first | (with_reducible refine HaltK.mk ?_) | (with_reducible refine StopK.mk ?_)); (with_reducible conv => whnf); (with_reducible conv => congr <;> reduce)))
    | ((with_reducible show (_ ∧ _) ∧ _ ∧ _); refine ⟨⟨rfl, rfl⟩, ?_, ?_⟩ <;> (with_reducible conv => whnf) <;> repeat' (first | (with_reducible exact trivial) | (with_reducible refine And.intro ?_ ?_ <;> with_reducible conv => whnf))))
              · have hjl : j = ws.length := by simp only [hwm, decide_eq_false_iff_not] at g1; omega
                subst hjl
                rw [List.take_length]
                repeat' (first
    | (first
    | ((with_reducible show IfK _ _ _ _); first | refine IfK.ff ?_ | refine IfK.tt ?_ | refine IfK.no (by first | rfl | assumption | exact nf (by assumption) | exact nt (by assumption) | ((try simp only [castN]); first | (simp [hgwm, hwm, htm, htr]; done) | (simp [hgwm, hwm, htm, htr]; omega))) ?_ | refine IfK.yes (by first | rfl | assumption | exact nf (by assumption) | exact nt (by assumption) | ((try simp only [castN]); first | (simp [hgwm, hwm, htm, htr]; done) | (simp [hgwm, hwm, htm, htr]; omega))) ?_)
    | ((with_reducible show NeedK _ _ _ _); refine NeedK.mk (by (try simp only [castN]); omega) ?_)
    | ((with_reducible show DrawK _ _ _ _); refine DrawK.mk (by kernel_rfl) (by kernel_rfl) (by kernel_rfl) ?_)) <;> ((with_reducible conv => whnf); (with_reducible conv => congr <;> reduce); repeat ((first | (with_reducible refine HaltK.mk ?_) | (with_reducible refine StopK.mk ?_)); (with_reducible conv => whnf); (with_reducible conv => congr <;> reduce)))
    | ((with_reducible show (_ ∧ _) ∧ _ ∧ _); refine ⟨⟨rfl, rfl⟩, ?_, ?_⟩ <;> (with_reducible conv => whnf) <;> repeat' (first | (with_reducible exact trivial) | (with_reducible refine And.intro ?_ ?_ <;> with_reducible conv => whnf))))
                all_goals exact (decide_eq_true (by rw [htm, hwm, ← htr]; exact (Int.natCast_add _ _).symm)).symm
            · have q1 := fd2 (by
                cases h : fitsB a b ⟨wn, wl, wc⟩ with
                | false => rfl
                | true => rcases (fitsB_iff.1 h).2 with h | h; exact absurd h e2; exact absurd h e3)
              repeat' (first
    | (first
    | ((with_reducible show IfK _ _ _ _); first | refine IfK.ff ?_ | refine IfK.tt ?_ | refine IfK.no (by first | rfl | assumption | exact nf (by assumption) | exact nt (by assumption) | ((try simp only [castN]); first | (simp [eq_true e1, eq_false e2, eq_false e3, q1]; done) | (simp [eq_true e1, eq_false e2, eq_false e3, q1]; omega))) ?_ | refine IfK.yes (by first | rfl | assumption | exact nf (by assumption) | exact nt (by assumption) | ((try simp only [castN]); first | (simp [eq_true e1, eq_false e2, eq_false e3, q1]; done) | (simp [eq_true e1, eq_false e2, eq_false e3, q1]; omega))) ?_)
    | ((with_reducible show NeedK _ _ _ _); refine NeedK.mk (by (try simp only [castN]); omega) ?_)
    | ((with_reducible show DrawK _ _ _ _); refine DrawK.mk (by kernel_rfl) (by kernel_rfl) (by kernel_rfl) ?_)
    | ((with_reducible show CallK _ _ 11 _ _ _ _); first | (refine CallK.lit [] (f11_at hM p1) c11 ⟨⟨rfl, rfl, rfl, rfl, trivial⟩, rfl, rfl, trivial⟩ rfl rfl ?_) | (refine CallK.lit [] (f11_at hgs p2) c11 ⟨⟨rfl, rfl, rfl, rfl, trivial⟩, rfl, rfl, trivial⟩ rfl rfl ?_))) <;> ((with_reducible conv => whnf); (with_reducible conv => congr <;> reduce); repeat ((first | (with_reducible refine HaltK.mk ?_) | (with_reducible refine StopK.mk ?_)); (with_reducible conv => whnf); (with_reducible conv => congr <;> reduce)))
    | ((with_reducible show (_ ∧ _) ∧ _ ∧ _); refine ⟨⟨rfl, rfl⟩, ?_, ?_⟩ <;> (with_reducible conv => whnf) <;> repeat' (first | (with_reducible exact trivial) | (with_reducible refine And.intro ?_ ?_ <;> with_reducible conv => whnf))))
              refine LoopK.use G G_good (fun (j : Nat) => [(2, eStr s), (7, .ptr 70 0 0), (15, .ptr 150 0 0), (17, eInts (toldW ws s)), (25, eInt (restW (ws.take j) s).length), (26, eInt j)])
                (fun _ => [(70, .live 4 [eDesk ⟨l, ws, nx, false⟩] false), (150, .live 4 [eDesk ⟨l ++ [⟨wn, wl, wc⟩], restW ws s, nx, false⟩] false)]) (fun j => j ≤ ws.length) (fun j => ws.length - j) 0 (Nat.zero_le _)
                ⟨⟨rfl, rfl⟩, ⟨rfl, ⟨rfl, rfl⟩, ⟨rfl, rfl⟩, rfl, rfl, rfl, trivial⟩, ⟨⟨rfl, rfl, rfl, rfl, trivial⟩, trivial⟩, ⟨⟨rfl, rfl, rfl, rfl, trivial⟩, trivial⟩, trivial⟩ ?_
              intro j hj
              ((with_reducible conv => whnf); (with_reducible conv => congr <;> reduce); repeat ((first | (with_reducible refine HaltK.mk ?_) | (with_reducible refine StopK.mk ?_)); (with_reducible conv => whnf); (with_reducible conv => congr <;> reduce)))
              refine IfK.mk (fun g1 => ?_) (fun g1 => ?_) <;> (try simp only [castN] at g1) <;> ((with_reducible conv => whnf); (with_reducible conv => congr <;> reduce); repeat ((first | (with_reducible refine HaltK.mk ?_) | (with_reducible refine StopK.mk ?_)); (with_reducible conv => whnf); (with_reducible conv => congr <;> reduce)))
              · simp only [hwm, decide_eq_true_eq] at g1
                have hj' : j < ws.length := by omega
                obtain ⟨⟨n, tk⟩, hx⟩ : ∃ a, ws[j]? = some a := ⟨_, List.getElem?_eq_getElem hj'⟩
                have hr1 := restW_len ws s j
                have hr2 := restW_snoc (s := s) hx
                refine IdxK.mk j (eWait ⟨n, tk⟩) rfl (wait_get hx) ?_; ((with_reducible conv => whnf); (with_reducible conv => congr <;> reduce); repeat ((first | (with_reducible refine HaltK.mk ?_) | (with_reducible refine StopK.mk ?_)); (with_reducible conv => whnf); (with_reducible conv => congr <;> reduce)))
                by_cases hns : n = s
                · rw [if_pos hns] at hr2
                  have h1t : countI (toldW ws s) tk = 1 := by
                    have := hto z1 (List.mem_of_getElem? hx)
                    simp only at this
                    rwa [hns] at this
                  have hct : FnOK Tryd.prog 26 [] [eInts (toldW ws s), eInt tk] [] (eInt 1) := by have := f26_ok (toldW ws s) tk (by omega); rwa [h1t] at this
                  repeat' (first
    | (first
    | ((with_reducible show IfK _ _ _ _); first | refine IfK.ff ?_ | refine IfK.tt ?_ | refine IfK.no (by first | rfl | assumption | exact nf (by assumption) | exact nt (by assumption) | ((try simp only [castN]); first | (simp [hns]; done) | (simp [hns]; omega))) ?_ | refine IfK.yes (by first | rfl | assumption | exact nf (by assumption) | exact nt (by assumption) | ((try simp only [castN]); first | (simp [hns]; done) | (simp [hns]; omega))) ?_)
    | ((with_reducible show NeedK _ _ _ _); refine NeedK.mk (by (try simp only [castN]); omega) ?_)
    | ((with_reducible show DrawK _ _ _ _); refine DrawK.mk (by kernel_rfl) (by kernel_rfl) (by kernel_rfl) ?_)
    | ((with_reducible show CallK _ _ 26 _ _ _ _); refine CallK.lit [] hct c26 ⟨rfl, rfl, trivial⟩ rfl rfl ?_)
    | ((with_reducible show NextK _ _); refine NextK.mk (j + 1) (by omega) (by omega) ⟨⟨rfl, rfl⟩, ⟨rfl, ⟨rfl, rfl⟩, ⟨rfl, rfl⟩, rfl, by rw [hr2], by show ((j + 1 : Nat) : Int) = (j : Int) + 1; omega, trivial⟩, ⟨⟨rfl, rfl, rfl, rfl, trivial⟩, trivial⟩, ⟨⟨rfl, rfl, rfl, rfl, trivial⟩, trivial⟩, trivial⟩)) <;> ((with_reducible conv => whnf); (with_reducible conv => congr <;> reduce); repeat ((first | (with_reducible refine HaltK.mk ?_) | (with_reducible refine StopK.mk ?_)); (with_reducible conv => whnf); (with_reducible conv => congr <;> reduce)))
    | ((with_reducible show (_ ∧ _) ∧ _ ∧ _); refine ⟨⟨rfl, rfl⟩, ?_, ?_⟩ <;> (with_reducible conv => whnf) <;> repeat' (first | (with_reducible exact trivial) | (with_reducible refine And.intro ?_ ?_ <;> with_reducible conv => whnf))))
                · rw [if_neg hns] at hr2
                  have hat := restW_at hx hns
                  have hlt : (restW (ws.take j) s).length < (restW ws s).length := (List.getElem?_eq_some_iff.1 hat).1
                  repeat' (first
    | (first
    | ((with_reducible show IfK _ _ _ _); first | refine IfK.ff ?_ | refine IfK.tt ?_ | refine IfK.no (by first | rfl | assumption | exact nf (by assumption) | exact nt (by assumption) | ((try simp only [castN]); first | (simp [hns, hgwm, hlt]; done) | (simp [hns, hgwm, hlt]; omega))) ?_ | refine IfK.yes (by first | rfl | assumption | exact nf (by assumption) | exact nt (by assumption) | ((try simp only [castN]); first | (simp [hns, hgwm, hlt]; done) | (simp [hns, hgwm, hlt]; omega))) ?_)
    | ((with_reducible show NeedK _ _ _ _); refine NeedK.mk (by (try simp only [castN]); omega) ?_)
    | ((with_reducible show DrawK _ _ _ _); refine DrawK.mk (by kernel_rfl) (by kernel_rfl) (by kernel_rfl) ?_)
    | ((with_reducible show IdxK _ _ _ _ _); refine IdxK.mk (restW (ws.take j) s).length (eWait ⟨n, tk⟩) rfl (wait_get hat) ?_)
    | ((with_reducible show EqK _ _ _ _ _ _ _ _); refine EqK.mk _ (fun y z w => wait_neq ⟨n, tk⟩ ⟨n, tk⟩ y z w) ?_)
    | ((with_reducible show NextK _ _); refine NextK.mk (j + 1) (by omega) (by omega) ⟨⟨rfl, rfl⟩, ⟨rfl, ⟨rfl, rfl⟩, ⟨rfl, rfl⟩, rfl, by rw [hr2]; simp, by show ((j + 1 : Nat) : Int) = (j : Int) + 1; omega, trivial⟩, ⟨⟨rfl, rfl, rfl, rfl, trivial⟩, trivial⟩, ⟨⟨rfl, rfl, rfl, rfl, trivial⟩, trivial⟩, trivial⟩)) <;> ((with_reducible conv => whnf); (with_reducible conv => congr <;> reduce); repeat ((first | (with_reducible refine HaltK.mk ?_) | (with_reducible refine StopK.mk ?_)); (with_reducible conv => whnf); (with_reducible conv => congr <;> reduce)))
    | ((with_reducible show (_ ∧ _) ∧ _ ∧ _); refine ⟨⟨rfl, rfl⟩, ?_, ?_⟩ <;> (with_reducible conv => whnf) <;> repeat' (first | (with_reducible exact trivial) | (with_reducible refine And.intro ?_ ?_ <;> with_reducible conv => whnf))))
              · have hjl : j = ws.length := by simp only [hwm, decide_eq_false_iff_not] at g1; omega
                subst hjl
                rw [List.take_length]
                repeat' (first
    | (first
    | ((with_reducible show IfK _ _ _ _); first | refine IfK.ff ?_ | refine IfK.tt ?_ | refine IfK.no (by first | rfl | assumption | exact nf (by assumption) | exact nt (by assumption) | ((try simp only [castN]); first | (simp [hgwm, hwm, htm, htr]; done) | (simp [hgwm, hwm, htm, htr]; omega))) ?_ | refine IfK.yes (by first | rfl | assumption | exact nf (by assumption) | exact nt (by assumption) | ((try simp only [castN]); first | (simp [hgwm, hwm, htm, htr]; done) | (simp [hgwm, hwm, htm, htr]; omega))) ?_)
    | ((with_reducible show NeedK _ _ _ _); refine NeedK.mk (by (try simp only [castN]); omega) ?_)
    | ((with_reducible show DrawK _ _ _ _); refine DrawK.mk (by kernel_rfl) (by kernel_rfl) (by kernel_rfl) ?_)) <;> ((with_reducible conv => whnf); (with_reducible conv => congr <;> reduce); repeat ((first | (with_reducible refine HaltK.mk ?_) | (with_reducible refine StopK.mk ?_)); (with_reducible conv => whnf); (with_reducible conv => congr <;> reduce)))
    | ((with_reducible show (_ ∧ _) ∧ _ ∧ _); refine ⟨⟨rfl, rfl⟩, ?_, ?_⟩ <;> (with_reducible conv => whnf) <;> repeat' (first | (with_reducible exact trivial) | (with_reducible refine And.intro ?_ ?_ <;> with_reducible conv => whnf))))
                all_goals exact (decide_eq_true (by rw [htm, hwm, ← htr]; exact (Int.natCast_add _ _).symm)).symm
        · have q1 := fd2 (by
            cases h : fitsB a b ⟨wn, wl, wc⟩ with
            | false => rfl
            | true => exact absurd (fitsB_iff.1 h).1 e1)
          repeat' (first
    | (first
    | ((with_reducible show IfK _ _ _ _); first | refine IfK.ff ?_ | refine IfK.tt ?_ | refine IfK.no (by first | rfl | assumption | exact nf (by assumption) | exact nt (by assumption) | ((try simp only [castN]); first | (simp [eq_false e1, q1]; done) | (simp [eq_false e1, q1]; omega))) ?_ | refine IfK.yes (by first | rfl | assumption | exact nf (by assumption) | exact nt (by assumption) | ((try simp only [castN]); first | (simp [eq_false e1, q1]; done) | (simp [eq_false e1, q1]; omega))) ?_)
    | ((with_reducible show NeedK _ _ _ _); refine NeedK.mk (by (try simp only [castN]); omega) ?_)
    | ((with_reducible show DrawK _ _ _ _); refine DrawK.mk (by kernel_rfl) (by kernel_rfl) (by kernel_rfl) ?_)
    | ((with_reducible show CallK _ _ 11 _ _ _ _); first | (refine CallK.lit [] (f11_at hM p1) c11 ⟨⟨rfl, rfl, rfl, rfl, trivial⟩, rfl, rfl, trivial⟩ rfl rfl ?_) | (refine CallK.lit [] (f11_at hgs p2) c11 ⟨⟨rfl, rfl, rfl, rfl, trivial⟩, rfl, rfl, trivial⟩ rfl rfl ?_))) <;> ((with_reducible conv => whnf); (with_reducible conv => congr <;> reduce); repeat ((first | (with_reducible refine HaltK.mk ?_) | (with_reducible refine StopK.mk ?_)); (with_reducible conv => whnf); (with_reducible conv => congr <;> reduce)))
    | ((with_reducible show (_ ∧ _) ∧ _ ∧ _); refine ⟨⟨rfl, rfl⟩, ?_, ?_⟩ <;> (with_reducible conv => whnf) <;> repeat' (first | (with_reducible exact trivial) | (with_reducible refine And.intro ?_ ?_ <;> with_reducible conv => whnf))))
          refine LoopK.use G G_good (fun (j : Nat) => [(2, eStr s), (7, .ptr 70 0 0), (15, .ptr 150 0 0), (17, eInts (toldW ws s)), (25, eInt (restW (ws.take j) s).length), (26, eInt j)])
            (fun _ => [(70, .live 4 [eDesk ⟨l, ws, nx, false⟩] false), (150, .live 4 [eDesk ⟨l ++ [⟨wn, wl, wc⟩], restW ws s, nx, false⟩] false)]) (fun j => j ≤ ws.length) (fun j => ws.length - j) 0 (Nat.zero_le _)
            ⟨⟨rfl, rfl⟩, ⟨rfl, ⟨rfl, rfl⟩, ⟨rfl, rfl⟩, rfl, rfl, rfl, trivial⟩, ⟨⟨rfl, rfl, rfl, rfl, trivial⟩, trivial⟩, ⟨⟨rfl, rfl, rfl, rfl, trivial⟩, trivial⟩, trivial⟩ ?_
          intro j hj
          ((with_reducible conv => whnf); (with_reducible conv => congr <;> reduce); repeat ((first | (with_reducible refine HaltK.mk ?_) | (with_reducible refine StopK.mk ?_)); (with_reducible conv => whnf); (with_reducible conv => congr <;> reduce)))
          refine IfK.mk (fun g1 => ?_) (fun g1 => ?_) <;> (try simp only [castN] at g1) <;> ((with_reducible conv => whnf); (with_reducible conv => congr <;> reduce); repeat ((first | (with_reducible refine HaltK.mk ?_) | (with_reducible refine StopK.mk ?_)); (with_reducible conv => whnf); (with_reducible conv => congr <;> reduce)))
          · simp only [hwm, decide_eq_true_eq] at g1
            have hj' : j < ws.length := by omega
            obtain ⟨⟨n, tk⟩, hx⟩ : ∃ a, ws[j]? = some a := ⟨_, List.getElem?_eq_getElem hj'⟩
            have hr1 := restW_len ws s j
            have hr2 := restW_snoc (s := s) hx
            refine IdxK.mk j (eWait ⟨n, tk⟩) rfl (wait_get hx) ?_; ((with_reducible conv => whnf); (with_reducible conv => congr <;> reduce); repeat ((first | (with_reducible refine HaltK.mk ?_) | (with_reducible refine StopK.mk ?_)); (with_reducible conv => whnf); (with_reducible conv => congr <;> reduce)))
            by_cases hns : n = s
            · rw [if_pos hns] at hr2
              have h1t : countI (toldW ws s) tk = 1 := by
                have := hto z1 (List.mem_of_getElem? hx)
                simp only at this
                rwa [hns] at this
              have hct : FnOK Tryd.prog 26 [] [eInts (toldW ws s), eInt tk] [] (eInt 1) := by have := f26_ok (toldW ws s) tk (by omega); rwa [h1t] at this
              repeat' (first
    | (first
    | ((with_reducible show IfK _ _ _ _); first | refine IfK.ff ?_ | refine IfK.tt ?_ | refine IfK.no (by first | rfl | assumption | exact nf (by assumption) | exact nt (by assumption) | ((try simp only [castN]); first | (simp [hns]; done) | (simp [hns]; omega))) ?_ | refine IfK.yes (by first | rfl | assumption | exact nf (by assumption) | exact nt (by assumption) | ((try simp only [castN]); first | (simp [hns]; done) | (simp [hns]; omega))) ?_)
    | ((with_reducible show NeedK _ _ _ _); refine NeedK.mk (by (try simp only [castN]); omega) ?_)
    | ((with_reducible show DrawK _ _ _ _); refine DrawK.mk (by kernel_rfl) (by kernel_rfl) (by kernel_rfl) ?_)
    | ((with_reducible show CallK _ _ 26 _ _ _ _); refine CallK.lit [] hct c26 ⟨rfl, rfl, trivial⟩ rfl rfl ?_)
    | ((with_reducible show NextK _ _); refine NextK.mk (j + 1) (by omega) (by omega) ⟨⟨rfl, rfl⟩, ⟨rfl, ⟨rfl, rfl⟩, ⟨rfl, rfl⟩, rfl, by rw [hr2], by show ((j + 1 : Nat) : Int) = (j : Int) + 1; omega, trivial⟩, ⟨⟨rfl, rfl, rfl, rfl, trivial⟩, trivial⟩, ⟨⟨rfl, rfl, rfl, rfl, trivial⟩, trivial⟩, trivial⟩)) <;> ((with_reducible conv => whnf); (with_reducible conv => congr <;> reduce); repeat ((first | (with_reducible refine HaltK.mk ?_) | (with_reducible refine StopK.mk ?_)); (with_reducible conv => whnf); (with_reducible conv => congr <;> reduce)))
    | ((with_reducible show (_ ∧ _) ∧ _ ∧ _); refine ⟨⟨rfl, rfl⟩, ?_, ?_⟩ <;> (with_reducible conv => whnf) <;> repeat' (first | (with_reducible exact trivial) | (with_reducible refine And.intro ?_ ?_ <;> with_reducible conv => whnf))))
            · rw [if_neg hns] at hr2
              have hat := restW_at hx hns
              have hlt : (restW (ws.take j) s).length < (restW ws s).length := (List.getElem?_eq_some_iff.1 hat).1
              repeat' (first
    | (first
    | ((with_reducible show IfK _ _ _ _); first | refine IfK.ff ?_ | refine IfK.tt ?_ | refine IfK.no (by first | rfl | assumption | exact nf (by assumption) | exact nt (by assumption) | ((try simp only [castN]); first | (simp [hns, hgwm, hlt]; done) | (simp [hns, hgwm, hlt]; omega))) ?_ | refine IfK.yes (by first | rfl | assumption | exact nf (by assumption) | exact nt (by assumption) | ((try simp only [castN]); first | (simp [hns, hgwm, hlt]; done) | (simp [hns, hgwm, hlt]; omega))) ?_)
    | ((with_reducible show NeedK _ _ _ _); refine NeedK.mk (by (try simp only [castN]); omega) ?_)
    | ((with_reducible show DrawK _ _ _ _); refine DrawK.mk (by kernel_rfl) (by kernel_rfl) (by kernel_rfl) ?_)
    | ((with_reducible show IdxK _ _ _ _ _); refine IdxK.mk (restW (ws.take j) s).length (eWait ⟨n, tk⟩) rfl (wait_get hat) ?_)
    | ((with_reducible show EqK _ _ _ _ _ _ _ _); refine EqK.mk _ (fun y z w => wait_neq ⟨n, tk⟩ ⟨n, tk⟩ y z w) ?_)
    | ((with_reducible show NextK _ _); refine NextK.mk (j + 1) (by omega) (by omega) ⟨⟨rfl, rfl⟩, ⟨rfl, ⟨rfl, rfl⟩, ⟨rfl, rfl⟩, rfl, by rw [hr2]; simp, by show ((j + 1 : Nat) : Int) = (j : Int) + 1; omega, trivial⟩, ⟨⟨rfl, rfl, rfl, rfl, trivial⟩, trivial⟩, ⟨⟨rfl, rfl, rfl, rfl, trivial⟩, trivial⟩, trivial⟩)) <;> ((with_reducible conv => whnf); (with_reducible conv => congr <;> reduce); repeat ((first | (with_reducible refine HaltK.mk ?_) | (with_reducible refine StopK.mk ?_)); (with_reducible conv => whnf); (with_reducible conv => congr <;> reduce)))
    | ((with_reducible show (_ ∧ _) ∧ _ ∧ _); refine ⟨⟨rfl, rfl⟩, ?_, ?_⟩ <;> (with_reducible conv => whnf) <;> repeat' (first | (with_reducible exact trivial) | (with_reducible refine And.intro ?_ ?_ <;> with_reducible conv => whnf))))
          · have hjl : j = ws.length := by simp only [hwm, decide_eq_false_iff_not] at g1; omega
            subst hjl
            rw [List.take_length]
            repeat' (first
    | (first
    | ((with_reducible show IfK _ _ _ _); first | refine IfK.ff ?_ | refine IfK.tt ?_ | refine IfK.no (by first | rfl | assumption | exact nf (by assumption) | exact nt (by assumption) | ((try simp only [castN]); first | (simp [hgwm, hwm, htm, htr]; done) | (simp [hgwm, hwm, htm, htr]; omega))) ?_ | refine IfK.yes (by first | rfl | assumption | exact nf (by assumption) | exact nt (by assumption) | ((try simp only [castN]); first | (simp [hgwm, hwm, htm, htr]; done) | (simp [hgwm, hwm, htm, htr]; omega))) ?_)
    | ((with_reducible show NeedK _ _ _ _); refine NeedK.mk (by (try simp only [castN]); omega) ?_)
    | ((with_reducible show DrawK _ _ _ _); refine DrawK.mk (by kernel_rfl) (by kernel_rfl) (by kernel_rfl) ?_)) <;> ((with_reducible conv => whnf); (with_reducible conv => congr <;> reduce); repeat ((first | (with_reducible refine HaltK.mk ?_) | (with_reducible refine StopK.mk ?_)); (with_reducible conv => whnf); (with_reducible conv => congr <;> reduce)))
    | ((with_reducible show (_ ∧ _) ∧ _ ∧ _); refine ⟨⟨rfl, rfl⟩, ?_, ?_⟩ <;> (with_reducible conv => whnf) <;> repeat' (first | (with_reducible exact trivial) | (with_reducible refine And.intro ?_ ?_ <;> with_reducible conv => whnf))))
            all_goals exact (decide_eq_true (by rw [htm, hwm, ← htr]; exact (Int.natCast_add _ _).symm)).symm
    · obtain ⟨x1, rfl, rfl⟩ := hno he
      simp only [DeskM.mk.injEq] at x1
      obtain ⟨rfl, rfl, rfl, rfl⟩ := x1
      repeat' (first
    | (first
    | ((with_reducible show IfK _ _ _ _); first | refine IfK.ff ?_ | refine IfK.tt ?_ | refine IfK.no (by first | rfl | assumption | exact nf (by assumption) | exact nt (by assumption) | ((try simp only [castN]); first | (simp [he]; done) | (simp [he]; omega))) ?_ | refine IfK.yes (by first | rfl | assumption | exact nf (by assumption) | exact nt (by assumption) | ((try simp only [castN]); first | (simp [he]; done) | (simp [he]; omega))) ?_)
    | ((with_reducible show NeedK _ _ _ _); refine NeedK.mk (by (try simp only [castN]); omega) ?_)
    | ((with_reducible show DrawK _ _ _ _); refine DrawK.mk (by kernel_rfl) (by kernel_rfl) (by kernel_rfl) ?_)
    | ((with_reducible show CallK _ _ 20 _ _ _ _); refine CallK.lit [] (f20_at hM hm) c20 ⟨⟨rfl, rfl, rfl, rfl, trivial⟩, rfl, rfl, rfl, rfl, trivial⟩ rfl rfl ?_)
    | ((with_reducible show CallK _ _ 22 _ _ _ _); refine CallK.lit [] (f22_at (r := true) hM (decide_eq_true rfl)) c22 ⟨⟨rfl, rfl, rfl, rfl, trivial⟩, ⟨rfl, rfl, rfl, rfl, trivial⟩, trivial⟩ rfl rfl ?_)) <;> ((with_reducible conv => whnf); (with_reducible conv => congr <;> reduce); repeat ((first | (with_reducible refine HaltK.mk ?_) | (with_reducible refine StopK.mk ?_)); (with_reducible conv => whnf); (with_reducible conv => congr <;> reduce)))
    | ((with_reducible show (_ ∧ _) ∧ _ ∧ _); refine ⟨⟨rfl, rfl⟩, ?_, ?_⟩ <;> (with_reducible conv => whnf) <;> repeat' (first | (with_reducible exact trivial) | (with_reducible refine And.intro ?_ ?_ <;> with_reducible conv => whnf))))
      all_goals rfl
end Go.Proofs.DeskD
end
