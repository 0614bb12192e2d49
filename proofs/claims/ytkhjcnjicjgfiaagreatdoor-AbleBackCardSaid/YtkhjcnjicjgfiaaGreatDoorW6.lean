/- Models, plain laws and contracts of functions of the given program; conditions as stated in each theorem. By an AI agent. -/
import Derived.Test.YtkhjcnjicjgfiaaGreatDoorW4
import Derived.Test.YtkhjcnjicjgfiaaGreatDoorW5
import Derived.Test.YtkhjcnjicjgfiaaGreatDoorW2
import Derived.Shelf.GgClosure.StringsIndexFunc
import Derived.Deep.LoopGhost
import Derived.WalkKit
import Derived.Laws.IdiomStrings
import Derived.IntWalk
import Derived.Outline
import Derived.Lib.Hide
import Derived.Lib.MapLaws
import Derived.Shelf.Strings.Search1
import Derived.Shelf.Strings.Search2
import Derived.Shelf.Strings.Search3
import Derived.Shelf.LaysM
import Derived.Shelf.Strings.Shaped
import Derived.Shelf.Strings.Fields
import Derived.Test.YtkhjcnjicjgfiaaGreatDoorChecked
import Derived.Laws.Runes
import Derived.Shelf.Strings.Builder1
import Derived.RangeFuncNested
import Derived.RangeFuncBound
import Derived.RangeFuncCalls
import Derived.Shelf.Abstract
import Derived.Shelf.RegionOpen
import Derived.OwnWalkIn
import Derived.TacticsInMore
import Derived.LoopNIn
import Derived.LoopIn
import Derived.Tactics
import Derived.Test.YtkhjcnjicjgfiaaGreatDoorW3
set_option linter.unusedSimpArgs false
set_option linter.unusedVariables false
namespace Go.Proofs.Heir
open Go Go.Am
set_option maxRecDepth 100000
set_option maxHeartbeats 8000000
theorem mt78 : MapTy Tryz.prog 224 .string (.agg #[.string ByteArray.empty, .string ByteArray.empty]) := ⟨9, 90, by kernel_rfl, by kernel_rfl, fun w => Tryz.zeroValue90 w⟩
noncomputable def fnsT : List (Nat × Func) := [(16, Tryz.f16), (25, Tryz.f25), (54, Tryz.f54), (174, Tryz.f174), (17, Tryz.f17), (207, Tryz.f207), (69, Tryz.f69), (114, Tryz.f114), (133, Tryz.f133), (179, Tryz.f179), (208, Tryz.f208), (55, Tryz.f55), (223, Tryz.f223), (135, Tryz.f135), (137, Tryz.f137), (173, Tryz.f173), (187, Tryz.f187), (115, Tryz.f115), (116, Tryz.f116), (117, Tryz.f117), (118, Tryz.f118), (119, Tryz.f119), (120, Tryz.f120), (127, Tryz.f127), (201, Tryz.f201), (202, Tryz.f202), (203, Tryz.f203), (204, Tryz.f204), (205, Tryz.f205), (67, Tryz.f67), (131, Tryz.f131), (136, Tryz.f136), (129, Tryz.f129), (175, Tryz.f175), (176, Tryz.f176), (177, Tryz.f177), (125, Tryz.f125), (217, Tryz.f217), (218, Tryz.f218), (219, Tryz.f219), (124, Tryz.f124), (180, Tryz.f180), (181, Tryz.f181), (182, Tryz.f182), (73, Tryz.f73), (231, Tryz.f231), (232, Tryz.f232), (183, Tryz.f183), (236, Tryz.f236)]
def kindsT : List (Nat × IntKind) := [(3, .i64), (5, .u8), (21, .i32), (28, .i64)]
theorem fnsT_ok : ∀ p ∈ fnsT, Tryz.prog.funcs[p.1]? = some p.2 ∧ Callable Tryz.prog p.1 := List.forall_mem_cons.2 ⟨⟨Tryz.func16, c16⟩, List.forall_mem_cons.2 ⟨⟨Tryz.func25, c25⟩, List.forall_mem_cons.2 ⟨⟨Tryz.func54, c54⟩, List.forall_mem_cons.2 ⟨⟨Tryz.func174, c174⟩, List.forall_mem_cons.2 ⟨⟨Tryz.func17, c17⟩, List.forall_mem_cons.2 ⟨⟨Tryz.func207, c207⟩, List.forall_mem_cons.2 ⟨⟨Tryz.func69, c69⟩, List.forall_mem_cons.2 ⟨⟨Tryz.func114, c114⟩, List.forall_mem_cons.2 ⟨⟨Tryz.func133, c133⟩, List.forall_mem_cons.2 ⟨⟨Tryz.func179, c179⟩, List.forall_mem_cons.2 ⟨⟨Tryz.func208, c208⟩, List.forall_mem_cons.2 ⟨⟨Tryz.func55, c55⟩, List.forall_mem_cons.2 ⟨⟨Tryz.func223, c223⟩, List.forall_mem_cons.2 ⟨⟨Tryz.func135, c135⟩, List.forall_mem_cons.2 ⟨⟨Tryz.func137, c137⟩, List.forall_mem_cons.2 ⟨⟨Tryz.func173, c173⟩, List.forall_mem_cons.2 ⟨⟨Tryz.func187, c187⟩, List.forall_mem_cons.2 ⟨⟨Tryz.func115, c115⟩, List.forall_mem_cons.2 ⟨⟨Tryz.func116, c116⟩, List.forall_mem_cons.2 ⟨⟨Tryz.func117, c117⟩, List.forall_mem_cons.2 ⟨⟨Tryz.func118, c118⟩, List.forall_mem_cons.2 ⟨⟨Tryz.func119, c119⟩, List.forall_mem_cons.2 ⟨⟨Tryz.func120, c120⟩, List.forall_mem_cons.2 ⟨⟨Tryz.func127, c127⟩, List.forall_mem_cons.2 ⟨⟨Tryz.func201, c201⟩, List.forall_mem_cons.2 ⟨⟨Tryz.func202, c202⟩, List.forall_mem_cons.2 ⟨⟨Tryz.func203, c203⟩, List.forall_mem_cons.2 ⟨⟨Tryz.func204, c204⟩, List.forall_mem_cons.2 ⟨⟨Tryz.func205, c205⟩, List.forall_mem_cons.2 ⟨⟨Tryz.func67, c67⟩, List.forall_mem_cons.2 ⟨⟨Tryz.func131, c131⟩, List.forall_mem_cons.2 ⟨⟨Tryz.func136, c136⟩, List.forall_mem_cons.2 ⟨⟨Tryz.func129, c129⟩, List.forall_mem_cons.2 ⟨⟨Tryz.func175, c175⟩, List.forall_mem_cons.2 ⟨⟨Tryz.func176, c176⟩, List.forall_mem_cons.2 ⟨⟨Tryz.func177, c177⟩, List.forall_mem_cons.2 ⟨⟨Tryz.func125, c125⟩, List.forall_mem_cons.2 ⟨⟨Tryz.func217, c217⟩, List.forall_mem_cons.2 ⟨⟨Tryz.func218, c218⟩, List.forall_mem_cons.2 ⟨⟨Tryz.func219, c219⟩, List.forall_mem_cons.2 ⟨⟨Tryz.func124, c124⟩, List.forall_mem_cons.2 ⟨⟨Tryz.func180, c180⟩, List.forall_mem_cons.2 ⟨⟨Tryz.func181, c181⟩, List.forall_mem_cons.2 ⟨⟨Tryz.func182, c182⟩, List.forall_mem_cons.2 ⟨⟨Tryz.func73, c73⟩, List.forall_mem_cons.2 ⟨⟨Tryz.func231, c231⟩, List.forall_mem_cons.2 ⟨⟨Tryz.func232, c232⟩, List.forall_mem_cons.2 ⟨⟨Tryz.func183, c183⟩, List.forall_mem_cons.2 ⟨⟨Tryz.func236, c236⟩, fun _ h => by simp at h⟩⟩⟩⟩⟩⟩⟩⟩⟩⟩⟩⟩⟩⟩⟩⟩⟩⟩⟩⟩⟩⟩⟩⟩⟩⟩⟩⟩⟩⟩⟩⟩⟩⟩⟩⟩⟩⟩⟩⟩⟩⟩⟩⟩⟩⟩⟩⟩⟩
theorem kindsT_ok : ∀ p ∈ kindsT, Tryz.prog.underlying p.1 = some (.int p.2) := List.forall_mem_cons.2 ⟨by kernel_rfl, List.forall_mem_cons.2 ⟨by kernel_rfl, List.forall_mem_cons.2 ⟨by kernel_rfl, List.forall_mem_cons.2 ⟨by kernel_rfl, fun _ h => by simp at h⟩⟩⟩⟩
def mapsT : MEnv := [(206, .int .i64, .int .i64 0), (224, .string, .agg #[.string ByteArray.empty, .string ByteArray.empty])]
theorem mapsT_ok : MEnv.Good Tryz.prog mapsT := List.forall_mem_cons.2 ⟨mt74, List.forall_mem_cons.2 ⟨mt78, fun _ h => by simp at h⟩⟩
end Go.Proofs.Heir
namespace Go.Proofs.Heir
open Go.Am
set_option maxRecDepth 100000
set_option maxHeartbeats 8000000
def smallC (c : Int) : Bool := decide (97 ≤ c) && decide (c ≤ 122)
def capC (c : Int) : Bool := decide (65 ≤ c) && decide (c ≤ 90)
def signC (c : Int) : Bool := smallC c || capC c || (decide (48 ≤ c) && decide (c ≤ 57)) || decide (c = 45) || decide (c = 95) || decide (c = 46)
@[reducible] def eRune (c : Int) : AV := .lit (.int .i32 c)
@[reducible] def eBool (b : Bool) : AV := .lit (.bool b)
@[reducible] def eStr (s : ByteArray) : AV := .lit (.string s)
@[reducible] def eInt (n : Int) : AV := .lit (.int .i64 n)
theorem f188_ok (c : Int) : FnOK Tryz.prog 188 [] [eRune c] [] (eBool (smallC c)) := by
 refine FnOK.startC (rvs := [.tmp 2]) G G_good Tryz.func188 rfl Tryz.ntmps188 rfl rfl ?_; with_reducible refine wD ?_
 refine IfK.mk (fun h => ?_) (fun h => ?_) <;> (try simp only [castN] at h) <;> with_reducible refine wK ?_
 ·(refine eK ?_ ?_ <;> with_reducible repeat' (first | exact trivial | (show _ ∧ _; refine aK ?_ ?_)))
  unfold smallC
  simp at h; simp [h]
 ·(refine eK ?_ ?_ <;> with_reducible repeat' (first | exact trivial | (show _ ∧ _; refine aK ?_ ?_)))
  unfold smallC
  simp at h; simp; omega
theorem f179_ok (c : Int) : FnOK Tryz.prog 179 [] [eRune c] [] (eBool (capC c)) := by
 refine FnOK.startC (rvs := [.tmp 2]) G G_good Tryz.func179 rfl Tryz.ntmps179 rfl rfl ?_; with_reducible refine wD ?_
 refine IfK.mk (fun h => ?_) (fun h => ?_) <;> (try simp only [castN] at h) <;> with_reducible refine wK ?_
 ·(refine eK ?_ ?_ <;> with_reducible repeat' (first | exact trivial | (show _ ∧ _; refine aK ?_ ?_)))
  unfold capC
  simp at h; simp [h]
 ·(refine eK ?_ ?_ <;> with_reducible repeat' (first | exact trivial | (show _ ∧ _; refine aK ?_ ?_)))
  unfold capC
  simp at h; simp; omega
theorem f187_ok (c : Int) : FnOK Tryz.prog 187 [] [eRune c] [] (eBool (signC c)) := by
 refine FnOK.startC (rvs := [.tmp 2]) G G_good Tryz.func187 rfl Tryz.ntmps187 rfl rfl ?_; with_reducible refine wD ?_
 refine cL (f188_ok c) c188 ?_; with_reducible refine wK ?_
 repeat' (first
  | refine aE ?_ ?_
  | ((with_reducible show IfK _ _ _ _); first | refine iK ?_ | (refine IfK.mk (fun _ => ?_) (fun _ => ?_) <;> with_reducible refine wK ?_))
  | ((with_reducible refine kQ 179 ?_); refine cL (f179_ok c) c179 ?_; with_reducible refine wK ?_)
  | apply trivial)
 all_goals (simp_all [signC, smallC, capC] <;> omega)
theorem f186_ok (c : Int) : FnOK Tryz.prog 186 [] [eRune c] [] (eBool (!signC c)) := by
 refine FnOK.startC (rvs := [.tmp 2]) G G_good Tryz.func186 rfl Tryz.ntmps186 rfl rfl ?_; with_reducible refine wD ?_
 refine cL (f187_ok c) c187 ?_; with_reducible refine wK ?_
 (refine eK ?_ ?_ <;> with_reducible repeat' (first | exact trivial | (show _ ∧ _; refine aK ?_ ?_)))
open Go.RowKit Go.Lib in
theorem f227_calls (g : Nat) (eg : ∀ args w, (callFunc g args).run Tryz.prog w = .ok (.enter g args) w) (p : Nat → Bool) (s : ByteArray) (w : World) (ht : Tabs Tryz.prog w fun _ => none) (hp : ∀ (W : World) (x : Nat), (Tabs Tryz.prog W fun _ => none) → x ≤ 1114111 → Calls Tryz.prog g #[.int .i32 (x : Int)] W fun e w' => e = .returned (.bool (p x)) ∧ Below W.heap.size W w') :
  Calls Tryz.prog 227 #[.string s, .func (.func g) #[] #[], .bool true] w fun e w' => e = .returned (.int .i64 (Lib.idxFunc p true s)) ∧ Below w.heap.size w w' := by
 go_enter Tryz.func227, Tryz.ntmps227
 go_wp2
 go_loopg [] s.size (fun gf wx => ∃ pos : Nat, wx.heap[w.heap.size]? = some (.stringIter s pos) ∧ Below w.heap.size w wx ∧ Lib.idxFuncFrom p true s gf pos = Lib.idxFunc p true s ∧ s.size ≤ pos + gf)
 case atStart => exact ⟨0, World.iter_heap w s 0, (Below.refl _ w).alloc (Nat.le_refl _) _, rfl, by omega⟩
 case round =>
  obtain ⟨pos, hit, hbw, hleft, hfu⟩ := hrel
  by_cases hps : pos < s.size
  ·obtain ⟨g', rfl⟩ : ∃ g', gk = g' + 1 := ⟨gk - 1, by omega⟩
   have hnx : ∀ ty, (Instr.next (.pointer (some ⟨w.heap.size, 0, none⟩)) true ty).run Tryz.prog wr = _ := fun ty => Lib.run_next_any_at wr w.heap.size s pos ty hit hps
   have hwd := Lib.width_pos s pos
   obtain ⟨R, hR⟩ : ∃ R, (Utf8.decode s pos).1 = R := ⟨_, rfl⟩
   obtain ⟨K, hK⟩ : ∃ K, (Utf8.decode s pos).2 = K := ⟨_, rfl⟩
   simp only [Lib.idxFuncFrom, hps, if_true, hR, hK] at hleft
   rw [hR, hK] at hnx
   rw [hK] at hwd
   have hit2 := Lib.iterAt_heap wr w.heap.size s pos (pos + K) hit
   have hbw2 := Lib.below_iterAt hbw (k := w.heap.size) (Nat.le_refl _) s (pos + K)
   obtain ⟨W, hWd⟩ : ∃ W, wr.iterAt w.heap.size s (pos + K) = W := ⟨_, rfl⟩
   rw [hWd] at hnx hit2 hbw2
   have hltW : w.heap.size < W.heap.size := (Array.getElem?_eq_some_iff.1 hit2).1
   have cS : Calls Tryz.prog g #[.int .i32 (R : Int)] W _   := hp W R (ht.below hbw2) (by rw [← hR]; exact Lib.rune_le s pos)
   clear hp
   cases hsp : p R <;> rw [hsp] at cS <;> simp only [hsp, if_true, Bool.false_eq_true, Bool.true_eq_false, if_false] at hleft
   ·go_wp2_with (go_at_fn g; refine cS.mono ?_; rintro e W' ⟨rfl, hbc⟩)
    go_roundg g'
    case measure => omega
    case rel => exact ⟨pos + K, (hbc.block _ hltW).trans hit2, (hbw2.trans (hbc.mono hbw2.size)), hleft, by omega⟩
   ·go_wp2_with (go_at_fn g; refine cS.mono ?_; rintro e W' ⟨rfl, hbc⟩)
    go_ret
    exact ⟨by rw [← hleft] <;> rfl, (hbw2.trans (hbc.mono hbw2.size))⟩
  ·have hnx : ∀ ty, (Instr.next (.pointer (some ⟨w.heap.size, 0, none⟩)) true ty).run Tryz.prog wr = _ := fun ty => Lib.run_next_end_at wr w.heap.size s pos ty hit hps
   rw [Lib.idxFuncFrom_end p true s gk pos hps] at hleft
   go_wp2
   go_ret
   exact ⟨by rw [← hleft] <;> rfl, hbw⟩
end Go.Proofs.Heir
namespace Go.Proofs.Heir
open Go Go.Am Go.RowKit Go.Lib
set_option maxRecDepth 100000
set_option maxHeartbeats 8000000
def lowB (c : UInt8) : UInt8 := if capC (c.toNat : Int) then c + 32 else c
def lowL (l : List UInt8) : List UInt8 := l.map lowB
def lowS (s : ByteArray) : ByteArray := ⟨(lowL s.data.toList).toArray⟩
def midL (l : List UInt8) (k : Nat) : List UInt8 := (l.take k).map lowB ++ l.drop k
theorem midL_len (l : List UInt8) (k : Nat) : (midL l k).length = l.length := by simp [midL]; omega
theorem midL_get (l : List UInt8) (k : Nat) (h : k < l.length) : (midL l k)[k]? = some l[k] := by
 simp [midL, List.getElem?_append, List.getElem?_drop, Nat.min_eq_left (Nat.le_of_lt h), h]
theorem midL_set (l : List UInt8) (k : Nat) (h : k < l.length) : (midL l k).set k (lowB l[k]) = midL l (k + 1) := by
 unfold midL
 have h1 : ((l.take k).map lowB).length = k := by simp; omega
 rw [List.set_append_right _ _ (by omega), h1, Nat.sub_self, List.take_succ_eq_append_getElem h, List.drop_eq_getElem_cons h]
 simp only [List.set_cons_zero, List.map_append, List.map_cons, List.map_nil, List.append_assoc, List.cons_append, List.nil_append]
theorem midL_skip (l : List UInt8) (k : Nat) (h : k < l.length) (hc : capC (l[k].toNat : Int) = false) : midL l k = midL l (k + 1) := by
 rw [← midL_set l k h]
 have h2 := midL_get l k h
 apply List.ext_getElem?
 intro j
 rw [List.getElem?_set]
 by_cases hj : k = j
 ·subst hj
  rw [if_pos rfl, if_pos (by rw [midL_len]; exact h), h2]
  simp [lowB, hc]
 ·rw [if_neg hj]
def rowOf (l : List UInt8) (z : List Value) : Array Value := (l.map (fun b => Value.int .u8 b.toNat) ++ z).toArray
theorem rowOf_get (l : List UInt8) (z : List Value) (k : Nat) (b : UInt8) (h : l[k]? = some b) : (rowOf l z)[k]? = some (.int .u8 b.toNat) := by
 have hk := (List.getElem?_eq_some_iff.1 h).1
 simp only [rowOf, List.getElem?_toArray]
 rw [List.getElem?_append_left (by simpa using hk), List.getElem?_map, h]; rfl
theorem rowOf_set (l : List UInt8) (z : List Value) (k : Nat) (b : UInt8) (h : k < l.length) : (rowOf l z).setIfInBounds k (.int .u8 b.toNat) = rowOf (l.set k b) z := by
 apply Array.ext'
 simp only [rowOf, Array.toList_setIfInBounds, List.map_set]
 rw [List.set_append_left _ _ (by simpa using h)]
theorem cap_step (c : UInt8) (h : capC (c.toNat : Int) = true) : IntKind.u8.wrap (IntKind.u8.wrap ((c.toNat : Int) - 65) + 97) = ((c + 32 : UInt8).toNat : Int) := by
 simp only [capC, Bool.and_eq_true, decide_eq_true_eq] at h
 have h1 : IntKind.u8.wrap ((c.toNat : Int) - 65) = (c.toNat : Int) - 65 := by simp [IntKind.wrap_u8]; omega
 rw [h1]
 have h2 : IntKind.u8.wrap ((c.toNat : Int) - 65 + 97) = (c.toNat : Int) + 32 := by simp [IntKind.wrap_u8]; omega
 rw [h2]
 have : (c + 32 : UInt8).toNat = c.toNat + 32 := by
  rw [UInt8.toNat_add]; simp; omega
 rw [this]; rfl
theorem f124_calls (s : ByteArray) (w : World) (ht : Tabs Tryz.prog w fun _ => none) (hs : s.size ≤ 100000) : Calls Tryz.prog 124 #[.string s] w fun e w' => e = .returned (.string (lowS s)) ∧ Below w.heap.size w w' := by
 obtain ⟨l, rfl⟩ : ∃ l : List UInt8, s = ⟨l.toArray⟩ := ⟨s.data.toList, by obtain ⟨⟨l⟩⟩ := s; rfl⟩
 have hsz : (ByteArray.mk l.toArray).size = l.length := by simp [ByteArray.size]
 have hconv := run_bytes_of_string (P := Tryz.prog) w 9 71 5 ⟨l.toArray⟩ Tryz.underlying9 Tryz.underlying71 Tryz.underlying5
 rw [hsz] at hconv hs
 obtain ⟨cap, hcap⟩ : ∃ cap, grownCap w l.length 0 5 = cap := ⟨_, rfl⟩
 rw [hcap] at hconv
 obtain ⟨z, hz⟩ : ∃ z : List Value, bytesRow ⟨l.toArray⟩ cap = rowOf l z := ⟨List.replicate (cap - l.length) (.int .u8 0), by
  apply Array.ext'; simp [bytesRow, rowOf, ByteArray.size]⟩
 rw [hz] at hconv
 obtain ⟨n, hn⟩ : ∃ n, (rowOf l z).size = n := ⟨_, rfl⟩
 rw [hn] at hconv
 clear hcap hz
 go_enter Tryz.func124, Tryz.ntmps124
 go_wp2
 go_loopw [10] (fun i wr => ∃ k : Nat, k ≤ l.length ∧ i = .int .i64 k ∧ wr.heap[w.heap.size]? = some (.cells (rowOf (midL l k) z) 5 (n, n + 1)) ∧ Below w.heap.size w wr) (fun i _ => l.length - (intOf i).toNat)
 case atStart => exact ⟨0, Nat.zero_le _, rfl, (heap_alloc_new w (Obj.cells (rowOf l z) 5 (n, n + 1))), ((Below.refl _ w).alloc (Nat.le_refl _) _).drew⟩
 case round =>
  obtain ⟨k, hk, rfl, hh, hb⟩ := hrel
  by_cases hlt : k < l.length
  ·have hcell : wr.cell? ⟨w.heap.size, k, none⟩ = some (.int .u8 (l[k].toNat : Int)) := by
    simp only [World.cell?, hh]
    exact rowOf_get _ z k _ (midL_get l k hlt)
   have hn2 : k < n := by rw [← hn]; simp [rowOf]; omega
   have hfz : wr.frozen? ⟨w.heap.size, k, none⟩ = false := by
    simp [World.frozen?, hh]; omega
   have hbs : w.heap.size < wr.heap.size := (Array.getElem?_eq_some_iff.1 hh).1
   have hb1 : 0 ≤ (l[k].toNat : Int) := Int.natCast_nonneg _
   have hb2 : (l[k].toNat : Int) ≤ 255 := by have := UInt8.toNat_lt l[k]; omega
   cases hc : capC (l[k].toNat : Int) with
   | false =>
     go_wp2_with (go_at_call 179; refine ((f179_ok (l[k].toNat : Int)).below (vs := [.int .i32 (l[k].toNat : Int)]) _ (ht.below hb)).mono ?_; rw [hc]; rintro e w1 ⟨rfl, hb3⟩)
     go_roundw
     case rel => exact ⟨k + 1, by omega, by go_num, by rw [hb3.block _ hbs, hh, midL_skip l k hlt hc], hb.trans (hb3.mono hb.size)⟩
     case measure => simp [intOf]; omega
   | true =>
     have hst : IntKind.u8.wrap (IntKind.u8.wrap ((l[k].toNat : Int) - 65) + 97) = ((lowB l[k]).toNat : Int) := by
      rw [cap_step _ hc]; unfold lowB; rw [hc]; rfl
     simp only [IntKind.wrap_u8] at hst
     have H := hid hst
     clear hst
     go_wp2_with (go_at_call 179; refine ((f179_ok (l[k].toNat : Int)).below (vs := [.int .i32 (l[k].toNat : Int)]) _ (ht.below hb)).mono ?_; rw [hc]; rintro e w1 ⟨rfl, hb3⟩; have hc1 := (hb3.cell (p := ⟨w.heap.size, k, none⟩) hbs).trans hcell; have hf1 := (hb3.frozen (p := ⟨w.heap.size, k, none⟩) hbs).trans hfz)
     go_roundw
     case rel =>
      refine ⟨k + 1, by omega, by go_num, ?_, hb.trans ((hb3.mono hb.size).setCell (Nat.le_refl _) _)⟩
      have hm : ((l[k].toNat : Int) - 65 + 97) % 256 = ((lowB l[k]).toNat : Int) := by
       rw [← H.out]; omega
      rw [hm]
      have hq : w1.heap[w.heap.size]? = some (.cells (rowOf (midL l k) z) 5 (n, n + 1)) := (hb3.block _ hbs).trans hh
      have hs2 : w.heap.size < w1.heap.size := (Array.getElem?_eq_some_iff.1 hq).1
      unfold World.setCell
      simp only [Array.getElem?_modify, hq, if_true, Option.map_some]
      have hrs := rowOf_set (midL l k) z k (lowB l[k]) (by rw [midL_len]; exact hlt)
      rw [midL_set l k hlt] at hrs
      simp only [hrs]; rfl
     case measure => simp [intOf]; omega
  ·have : k = l.length := by omega
   subst this
   have hrw : rowOf (midL l l.length) z = rowOf (lowL l) z := by simp [midL, lowL]
   rw [hrw] at hh
   have hcv := run_convert_bytes_back (P := Tryz.prog) wr 71 9 5 ⟨w.heap.size, 0, none⟩ cap (lowL l) Tryz.underlying71 Tryz.underlying5 Tryz.underlying9 (fun j hj => by
    have := rowOf_get (lowL l) z j ((lowL l)[j]) (List.getElem?_eq_getElem hj)
    have ha : (⟨w.heap.size, 0, none⟩ : Addr).add j = ⟨w.heap.size, j, none⟩ := by
     unfold Addr.add; split <;> simp_all
    rw [ha]; simp only [World.cell?, hh, this]; rfl)
   rw [show (lowL l).length = l.length from by simp [lowL]] at hcv
   go_wp2
   go_ret
   exact ⟨rfl, hb⟩
theorem f124_ok (s : ByteArray) (hs : s.size ≤ 100000) : FnOK Tryz.prog 124 [] [eStr s] [] (eStr (lowS s)) :=
 FnOK.of_calls (vs := [.string s]) (v := .string (lowS s)) fun w ht => f124_calls s w ht hs
def signB (b : UInt8) : Bool := signC (b.toNat : Int)
def firstB : List UInt8 → Bool
 | [] => false
 | b :: _ => smallC (b.toNat : Int) || capC (b.toNat : Int) || decide ((b.toNat : Int) = 95)
def rightL (l : List UInt8) : Bool := decide (1 ≤ l.length) && decide (l.length ≤ 40) && l.all signB && firstB l
def rightS (s : ByteArray) : Bool := rightL s.data.toList
theorem idx_bad (s : ByteArray) : ∀ (f pos : Nat), s.size ≤ pos + f → (0 ≤ idxFuncFrom (fun r => !signC (r : Int)) true s f pos ↔ ∃ i, pos ≤ i ∧ ∃ b, s.data.toList[i]? = some b ∧ signB b = false)
 | 0, pos, h => by
   have : ¬ (0 : Int) ≤ idxFuncFrom (fun r => !signC (r : Int)) true s 0 pos := by simp [idxFuncFrom]
   refine ⟨fun h' => absurd h' this, ?_⟩
   rintro ⟨i, h1, b, h2, _⟩
   have := (List.getElem?_eq_some_iff.1 h2).1
   have : i < s.size := this
   omega
 | f + 1, pos, h => by
   by_cases hp : pos < s.size
   ·have ih := idx_bad s f
    have hb : ∃ b, s.data.toList[pos]? = some b ∧ s.get! pos = b := ⟨_, List.getElem?_eq_getElem hp, by show s.data[pos]! = _; rw [getElem!_pos s.data pos hp]; rfl⟩
    obtain ⟨b, hb1, hb2⟩ := hb
    unfold idxFuncFrom
    rw [if_pos hp, decode_at, hb2]
    have hbn : b.toNat < 256 := UInt8.toNat_lt b
    have big : ∀ r : Nat, 128 ≤ r → signC (r : Int) = false := by
     intro r hr
     have : (128 : Int) ≤ r := by omega
     simp only [signC, smallC, capC, Bool.or_eq_false_iff, Bool.and_eq_false_iff, decide_eq_false_iff_not]
     omega
    have bad : ∀ r w : Nat, 128 ≤ r → 128 ≤ b.toNat → ((0 : Int) ≤ (if (!signC (r : Int)) = true then (pos : Int) else idxFuncFrom (fun r => !signC (r : Int)) true s f (pos + w)) ↔ ∃ i, pos ≤ i ∧ ∃ b, s.data.toList[i]? = some b ∧ signB b = false) := by
     intro r w hr hbr
     rw [big r hr]
     exact ⟨fun _ => ⟨pos, Nat.le_refl _, b, hb1, big _ hbr⟩, fun _ => by simp⟩
    rcases decodeN_shape (s.size - pos) b.toNat (s.get! (pos + 1)).toNat (s.get! (pos + 2)).toNat (s.get! (pos + 3)).toNat with ⟨h1, h2⟩ | ⟨h1, h3, h4, h5, h2⟩ | ⟨h1, h3, h4, h5, h6, h7, h2⟩ | ⟨h1, h3, h4, h5, h6, h7, h8, h2⟩ | h2
    ·rw [h2]
     show (0 : Int) ≤ (if (!signC (b.toNat : Int)) = true then (pos : Int) else idxFuncFrom _ true s f (pos + 1)) ↔ _
     cases hs : signC (b.toNat : Int) with
     | false => exact ⟨fun _ => ⟨pos, Nat.le_refl _, b, hb1, hs⟩, fun _ => by simp⟩
     | true =>
       rw [if_neg (by simp), ih (pos + 1) (by omega)]
       constructor
       ·rintro ⟨i, h3, h4⟩; exact ⟨i, by omega, h4⟩
       ·rintro ⟨i, h3, b', h4, h5⟩
        rcases Nat.lt_or_ge pos i with h6 | h6
        ·exact ⟨i, h6, b', h4, h5⟩
        ·have : i = pos := by omega
         subst this
         rw [hb1] at h4; cases h4
         rw [signB, hs] at h5; cases h5
    ·rw [h2]; exact bad _ _ (by omega) (by omega)
    ·rw [h2]; exact bad _ _ (by omega) (by omega)
    ·rw [h2]; exact bad _ _ (by omega) (by omega)
    ·rw [h2]
     refine bad _ _ (by omega) ?_
     rcases Nat.lt_or_ge b.toNat 128 with h3 | h3
     ·rw [decodeN, if_pos h3] at h2; simp only [Prod.mk.injEq] at h2; omega
     ·exact h3
   ·rw [idxFuncFrom_end _ _ _ _ _ hp]
    refine ⟨fun h' => by omega, ?_⟩
    rintro ⟨i, h1, b, h2, _⟩
    have := (List.getElem?_eq_some_iff.1 h2).1
    have : i < s.size := this
    omega
theorem idx_all (s : ByteArray) : decide (0 ≤ idxFunc (fun r => !signC (r : Int)) true s) = !s.data.toList.all signB := by
 have h := idx_bad s s.size 0 (by omega)
 cases ha : s.data.toList.all signB with
 | true =>
   simp only [Bool.not_true, decide_eq_false_iff_not]
   intro h'
   obtain ⟨i, _, b, h1, h2⟩ := h.1 h'
   have := List.all_eq_true.1 ha b (List.mem_of_getElem? h1)
   rw [this] at h2; cases h2
 | false =>
   simp only [Bool.not_false, decide_eq_true_eq]
   refine h.2 ?_
   obtain ⟨b, h1, h2⟩ := List.all_eq_false.1 ha
   obtain ⟨i, h3⟩ := List.getElem?_of_mem h1
   exact ⟨i, Nat.zero_le _, b, h3, by simpa using h2⟩
theorem f213_calls (g : Nat) (eg : ∀ args w, (callFunc g args).run Tryz.prog w = .ok (.enter g args) w) (p : Nat → Bool) (s : ByteArray) (w : World) (ht : Tabs Tryz.prog w fun _ => none) (hp : ∀ (W : World) (x : Nat), (Tabs Tryz.prog W fun _ => none) → x ≤ 1114111 → Calls Tryz.prog g #[.int .i32 (x : Int)] W fun e w' => e = .returned (.bool (p x)) ∧ Below W.heap.size W w') :
  Calls Tryz.prog 213 #[.string s, .func (.func g) #[] #[]] w fun e w' => e = .returned (.int .i64 (Lib.idxFunc p true s)) ∧ Below w.heap.size w w' := by
 have h44 := f227_calls g eg p s w ht hp
 clear hp
 go_enter Tryz.func213, Tryz.ntmps213
 go_wp2_with (go_at_call 227; refine h44.mono ?_; rintro e w1 ⟨rfl, hb⟩)
 go_ret
 exact ⟨rfl, hb⟩
theorem f185_calls (g : Nat) (eg : ∀ args w, (callFunc g args).run Tryz.prog w = .ok (.enter g args) w) (p : Nat → Bool) (s : ByteArray) (w : World) (ht : Tabs Tryz.prog w fun _ => none) (hp : ∀ (W : World) (x : Nat), (Tabs Tryz.prog W fun _ => none) → x ≤ 1114111 → Calls Tryz.prog g #[.int .i32 (x : Int)] W fun e w' => e = .returned (.bool (p x)) ∧ Below W.heap.size W w') :
  Calls Tryz.prog 185 #[.string s, .func (.func g) #[] #[]] w fun e w' => e = .returned (.bool (decide (0 ≤ Lib.idxFunc p true s))) ∧ Below w.heap.size w w' := by
 have h43 := f213_calls g eg p s w ht hp
 clear hp
 go_enter Tryz.func185, Tryz.ntmps185
 go_wp2_with (go_at_call 213; refine h43.mono ?_; rintro e w1 ⟨rfl, hb⟩)
 go_ret
 exact ⟨rfl, hb⟩
theorem f185_ok (s : ByteArray) : FnOK Tryz.prog 185 [] [eStr s, .lit (.func (.func 186) #[] #[])] [] (eBool (!s.data.toList.all signB)) := by
 rw [← idx_all]
 exact FnOK.of_calls (vs := [.string s, .func (.func 186) #[] #[]]) fun w ht => f185_calls 186 c186 (fun r => !signC (r : Int)) s w ht fun W x ht _ => (f186_ok (x : Int)).below (vs := [.int .i32 (x : Int)]) W ht
theorem size_len (s : ByteArray) : s.size = s.data.toList.length := (Array.length_toList (xs := s.data)).symm
theorem first_get {l : List UInt8} (h : 1 ≤ l.length) : ∃ b r, l = b :: r ∧ l[0]? = some b := by
 cases l with
 | nil => simp at h
 | cons b r => exact ⟨b, r, rfl, rfl⟩
theorem u8_i32 (b : UInt8) : IntKind.i32.wrap (b.toNat : Int) = (b.toNat : Int) := by
 have h : b.toNat < 256 := UInt8.toNat_lt b
 rw [IntKind.wrap_i32]; omega
theorem f133_ok (s : ByteArray) : FnOK Tryz.prog 133 [] [eStr s] [] (eBool (rightS s)) := by
 have hsz : s.size = s.data.toList.length := size_len s
 have hb0 : 1 ≤ s.data.toList.length → ∃ b r, s.data.toList = b :: r ∧ s.data.toList[0]? = some b := first_get
 refine FnOK.startC (rvs := [.tmp 2]) G G_good Tryz.func133 rfl Tryz.ntmps133 rfl rfl ?_; with_reducible refine wD ?_
 repeat' (first
  | refine aE ?_ ?_
  | ((with_reducible show IfK _ _ _ _); first | refine iK ?_ | (refine IfK.mk (fun _ => ?_) (fun _ => ?_) <;> with_reducible refine wK ?_))
  | ((with_reducible refine kQ 185 ?_); refine CallK.lit [] (f185_ok _) c185 ⟨rfl, MF_refl 12 _ rfl, trivial⟩ rfl rfl ?_; with_reducible refine wK ?_)
  | ((with_reducible refine kQ 179 ?_); refine cL (f179_ok _) c179 ?_; with_reducible refine wK ?_)
  | ((with_reducible refine kQ 188 ?_); refine cL (f188_ok _) c188 ?_; with_reducible refine wK ?_)
  | ((with_reducible show IdxSK _ _ _ _ _); obtain ⟨b, r, hl, hb⟩ := hb0 (by simp only [decide_eq_false_iff_not] at *; omega); refine IdxSK.mk 0 b rfl hb ?_; with_reducible refine wK ?_)
  | ((with_reducible show ConvK _ _ _ _ _ _ _); refine ConvK.int (by kernel_rfl) (by kernel_rfl) (u8_i32 _) ?_; with_reducible refine wK ?_)
  | apply trivial)
 all_goals (simp only [decide_eq_true_eq, decide_eq_false_iff_not, hsz] at *; unfold rightS rightL)
 ·rw [show decide (1 ≤ s.data.toList.length) = false from decide_eq_false (by omega)]; rfl
 ·rw [show decide (s.data.toList.length ≤ 40) = false from decide_eq_false (by omega)]; simp
 ·rw [show s.data.toList.all signB = false from by simp_all]; simp
 all_goals rw [show decide (1 ≤ s.data.toList.length) = true from decide_eq_true (by omega), show decide (s.data.toList.length ≤ 40) = true from decide_eq_true (by omega), show s.data.toList.all signB = true from by simp_all, hl]; simp_all [firstB]
theorem right_size {s : ByteArray} (h : rightS s = true) : s.size ≤ 40 := by
 unfold rightS rightL at h
 simp only [Bool.and_eq_true, decide_eq_true_eq] at h
 rw [size_len]; exact h.1.1.2
theorem right_small {s : ByteArray} (h : (!rightS s) = false) : s.size ≤ 100000 := by
 have := right_size (s := s) (by simpa using h)
 omega
theorem f67_ok (s : ByteArray) : FnOK Tryz.prog 67 [] [eStr s] [] (.tup [eStr (if rightS s then lowS s else ⟨#[]⟩), eInt (if rightS s then 0 else 4)]) := by
 refine FnOK.startC (rvs := [.tmp 2, .tmp 3]) G G_good Tryz.func67 rfl Tryz.ntmps67 rfl rfl ?_; with_reducible refine wD ?_
 repeat' (first
  | refine aE ?_ ?_
  | ((with_reducible show IfK _ _ _ _); first | refine iK ?_ | (refine IfK.mk (fun _ => ?_) (fun _ => ?_) <;> with_reducible refine wK ?_))
  | ((with_reducible refine kQ 133 ?_); refine cL (f133_ok _) c133 ?_; with_reducible refine wK ?_)
  | ((with_reducible refine kQ 124 ?_); refine CallK.lit [] (f124_ok _ (right_small (by assumption))) c124 ⟨rfl, trivial⟩ rfl rfl ?_; with_reducible refine wK ?_)
  | apply trivial)
 all_goals simp_all
def strOf (l : List UInt8) : ByteArray := ⟨l.toArray⟩
structure AttrM where
 name : ByteArray
 value : ByteArray
 deriving DecidableEq
@[reducible] def eAttr (a : AttrM) : AV := .agg [eStr a.name, eStr a.value]
def oAttr (a : AttrM) : AV := eAttr a
@[reducible] def eAttrs (l : List AttrM) : AV := .sl 2 (l.map oAttr)
@[reducible] def rAttrs (l : List AttrM) : MS := .live 2 (l.map oAttr) false
theorem noRef_attrs (l : List AttrM) : noRefL (l.map oAttr) = true := by
 rw [noRefL_iff]; intro x hx
 obtain ⟨a, _, rfl⟩ := List.mem_map.1 hx
 rfl
theorem one_attrs (l : List AttrM) : oneL (flat (l.map oAttr)) = true := oneL_map oAttr (fun a => rfl) l
theorem MFL_refl {tab : List (Nat × Nat)} {fz : Nat → Bool} {m : ML} {n : Nat} : ∀ {cs : List AV}, noRefL cs = true → MFL (MF tab fz m n) cs cs
 | [], _ => trivial
 | c :: cs, h => by
   simp only [noRefL, Bool.and_eq_true] at h
   exact ⟨MF_refl n c h.1, MFL_refl h.2⟩
theorem f184_ok (a : AttrM) (n : ByteArray) : FnOK Tryz.prog 184 [] [eAttr a, .fptr (eStr n) 0] [] (eBool (decide (a.name = n))) := by
 refine FnOK.startC (rvs := [.tmp 3]) G G_good Tryz.func184 rfl Tryz.ntmps184 rfl rfl ?_; with_reducible refine wD ?_
 (refine eK ?_ ?_ <;> with_reducible repeat' (first | exact trivial | (show _ ∧ _; refine aK ?_ ?_)))
def badA (a : AttrM) : Bool := !(rightS a.name && decide (lowS a.name = a.name) && decide (a.value.size ≤ 200))
theorem f180_ok (a : AttrM) : FnOK Tryz.prog 180 [] [eAttr a] [] (eBool (badA a)) := by
 obtain ⟨n, v⟩ := a
 refine FnOK.startC (rvs := [.tmp 2]) G G_good Tryz.func180 rfl Tryz.ntmps180 rfl rfl ?_; with_reducible refine wD ?_
 refine cL (f67_ok _) c67 ?_; with_reducible refine wK ?_
 repeat' (first
  | refine aE ?_ ?_
  | ((with_reducible show IfK _ _ _ _); first | refine iK ?_ | (refine IfK.mk (fun _ => ?_) (fun _ => ?_) <;> with_reducible refine wK ?_))
  | apply trivial)
 all_goals (unfold badA; cases hr : rightS n <;> simp_all)
 by_cases h2 : v.size ≤ 200
 ·rw [decide_eq_true h2, decide_eq_false (by (try simp only [castN]); omega)]; rfl
 ·rw [decide_eq_false h2, decide_eq_true (by (try simp only [castN]); omega)]; rfl
def idxI {α : Type} (p : α → Bool) (l : List α) : Int := match l.findIdx? p with | some i => (i : Int) | none => -1
theorem idxI_hit {α : Type} {p : α → Bool} {l : List α} {k : Nat} {a : α} (h : l[k]? = some a) (hp : p a = true) (hno : ∀ (j : Nat) (x : α), j < k → l[j]? = some x → p x = false) : idxI p l = k := by
 have : l.findIdx? p = some k := by
  rw [List.findIdx?_eq_some_iff_getElem]
  obtain ⟨hk, hx⟩ := List.getElem?_eq_some_iff.1 h
  exact ⟨hk, by rw [hx]; exact hp, fun j hj => by simpa using hno j _ hj (List.getElem?_eq_getElem (by omega))⟩
 rw [idxI, this]
theorem idxI_none {α : Type} {p : α → Bool} {l : List α} (hno : ∀ (j : Nat) (x : α), l[j]? = some x → p x = false) : idxI p l = -1 := by
 have : l.findIdx? p = none := by
  rw [List.findIdx?_eq_none_iff]
  intro x hx
  obtain ⟨j, hj⟩ := List.getElem?_of_mem hx
  exact hno j x hj
 rw [idxI, this]
theorem attr_get {l : List AttrM} {k : Nat} {a : AttrM} (h : l[k]? = some a) : (l.map oAttr)[k]? = some (eAttr a) := by rw [List.getElem?_map, h]; rfl
theorem f183_ok (g : Nat) (cg : Callable Tryz.prog g) (caps : List AV) (hcaps : noRefL caps = true) (p : AttrM → Bool) (l : List AttrM) (hl : l.length ≤ 100000) (hf : ∀ a, a ∈ l → FnOK Tryz.prog g [] (eAttr a :: caps) [] (eBool (p a))) :
  FnOK Tryz.prog 183 [] [eAttrs l, .clo (.func g) [] caps] [] (eInt (idxI p l)) := by
 have hlm : (l.map oAttr).length = l.length := List.length_map ..
 refine FnOK.startC (rvs := [.tmp 4]) G G_good Tryz.func183 rfl Tryz.ntmps183 rfl rfl ?_; with_reducible refine wD ?_
 refine LoopK.use G G_good (fun (k : Nat) => [(0, eAttrs l), (1, .clo (.func g) [] caps), (7, eInt l.length), (8, eInt k)]) (fun _ => []) (fun k => k ≤ l.length ∧ ∀ j x, j < k → l[j]? = some x → p x = false) (fun k => l.length - k) 0 ⟨Nat.zero_le _, fun j x h => by omega⟩
  ⟨⟨rfl, rfl⟩, ⟨rfl, ⟨rfl, trivial, MFL_refl hcaps⟩, by show (l.length : Int) = ((l.map oAttr).length : Int); rw [hlm], rfl, trivial⟩, trivial⟩ ?_
 rintro k ⟨hk, hno⟩
 with_reducible refine wK ?_
 refine IfK.mk (fun h1 => ?_) (fun h1 => ?_) <;> (try simp only [castN] at h1) <;> with_reducible refine wK ?_
 ·simp only [decide_eq_true_eq] at h1
  have hk' : k < l.length := by omega
  obtain ⟨a, ha⟩ : ∃ a, l[k]? = some a := ⟨_, List.getElem?_eq_getElem hk'⟩
  refine IdxK.mk k (eAttr a) rfl (attr_get ha) ?_; with_reducible refine wK ?_
  refine CallK.lit [] (hf a (List.mem_of_getElem? ha)) cg ⟨⟨rfl, rfl, trivial⟩, MFL_refl hcaps⟩ rfl rfl ?_; with_reducible refine wK ?_
  refine IfK.mk (fun h2 => ?_) (fun h2 => ?_) <;> (try simp only [castN] at h2) <;> with_reducible refine wK ?_
  ·(refine eK ?_ ?_ <;> with_reducible repeat' (first | exact trivial | (show _ ∧ _; refine aK ?_ ?_)))
   exact idxI_hit ha h2 hno
  ·refine nK ?_; with_reducible refine wK ?_
   refine NextK.mk (k + 1) ⟨by omega, fun j x hj hx => ?_⟩ (by omega) ⟨⟨rfl, rfl⟩, ⟨rfl, ⟨rfl, trivial, MFL_refl hcaps⟩, rfl, by show ((k + 1 : Nat) : Int) = (k : Int) + 1; omega, trivial⟩, trivial⟩
   rcases Nat.lt_or_ge j k with h6 | h6
   ·exact hno j x h6 hx
   ·have : j = k := by omega
    subst this
    rw [ha] at hx; cases hx; exact h2
 ·(refine eK ?_ ?_ <;> with_reducible repeat' (first | exact trivial | (show _ ∧ _; refine aK ?_ ?_)))
  have : k = l.length := by simp only [decide_eq_false_iff_not] at h1; omega
  exact idxI_none fun j x hx => hno j x (by have := (List.getElem?_eq_some_iff.1 hx).1; omega) hx
theorem f181_ok (g : Nat) (cg : Callable Tryz.prog g) (caps : List AV) (hcaps : noRefL caps = true) (p : AttrM → Bool) (l : List AttrM) (hl : l.length ≤ 100000) (hf : ∀ a, a ∈ l → FnOK Tryz.prog g [] (eAttr a :: caps) [] (eBool (p a))) :
  FnOK Tryz.prog 181 [] [eAttrs l, .clo (.func g) [] caps] [] (eBool (l.any p)) := by
 refine FnOK.startC (rvs := [.tmp 4]) G G_good Tryz.func181 rfl Tryz.ntmps181 rfl rfl ?_; with_reducible refine wD ?_
 refine CallK.lit [] (f183_ok g cg caps hcaps p l hl hf) c183 ⟨rfl, ⟨rfl, trivial, MFL_refl hcaps⟩, trivial⟩ rfl rfl ?_; with_reducible refine wK ?_
 (refine eK ?_ ?_ <;> with_reducible repeat' (first | exact trivial | (show _ ∧ _; refine aK ?_ ?_)))
 unfold idxI
 cases h : l.findIdx? p with
 | none =>
   rw [List.findIdx?_eq_none_iff] at h
   have : l.any p = false := by rw [List.any_eq_false]; intro x hx; rw [h x hx]; simp
   rw [this]; rfl
 | some i =>
   rw [List.findIdx?_eq_some_iff_getElem] at h
   obtain ⟨hi, h1, _⟩ := h
   have : l.any p = true := List.any_eq_true.2 ⟨_, List.getElem_mem hi, h1⟩
   rw [this]; exact (decide_eq_true (Int.natCast_nonneg i)).symm
theorem f132_ok (l : List AttrM) (hl : l.length ≤ 100000) (n : ByteArray) : FnOK Tryz.prog 132 [] [eAttrs l, eStr n] [] (eInt (idxI (fun a => decide (a.name = n)) l)) := by
 refine FnOK.startC (rvs := [.tmp 4]) G G_good Tryz.func132 rfl Tryz.ntmps132 rfl rfl ?_; with_reducible refine wD ?_
 refine CallK.lit [30] (f183_ok 184 c184 [.fptr (eStr n) 0] rfl (fun a => decide (a.name = n)) l hl fun a _ => f184_ok a n) c183 ⟨rfl, ⟨rfl, trivial, ⟨_, _, _, _, _, rfl, rfl, rfl, rfl, rfl, rfl⟩, trivial⟩, trivial⟩ rfl rfl ?_; with_reducible refine wK ?_
 (refine eK ?_ ?_ <;> with_reducible repeat' (first | exact trivial | (show _ ∧ _; refine aK ?_ ?_)))
def okA (a : AttrM) : Bool := rightS a.name && decide (lowS a.name = a.name) && decide (a.value.size ≤ 200)
theorem badA_eq (a : AttrM) : badA a = !okA a := rfl
def hasName (n : ByteArray) (a : AttrM) : Bool := decide (a.name = n)
def posA (l : List AttrM) (n : ByteArray) : Int := idxI (hasName n) l
def rightA (l : List AttrM) : Bool := decide (l.length ≤ 40) && l.all okA && decide ((l.map AttrM.name).Nodup)
def tabFrom (t : List (ByteArray × AttrM)) (l : List AttrM) : List (ByteArray × AttrM) := l.foldl (fun t a => tput a.name a t) t
def tabL (l : List AttrM) : List (ByteArray × AttrM) := tabFrom [] l
theorem tput_len {K α : Type} [DecidableEq K] (k : K) (x : α) : ∀ t : List (K × α), (tput k x t).length = if (tget k t).isSome then t.length else t.length + 1
 | [] => rfl
 | p :: r => by
   simp only [tput, tget]
   split
   ·simp
   ·rw [List.length_cons, tput_len k x r]; split <;> simp
theorem tabFrom_len : ∀ (l : List AttrM) (t : List (ByteArray × AttrM)), (tabFrom t l).length ≤ t.length + l.length ∧ ((tabFrom t l).length = t.length + l.length ↔ (l.map AttrM.name).Nodup ∧ ∀ a ∈ l, (tget a.name t).isSome = false)
 | [], t => by simp [tabFrom]
 | a :: r, t => by
   obtain ⟨h1, h2⟩ := tabFrom_len r (tput a.name a t)
   have hl := tput_len a.name a t
   show (tabFrom (tput a.name a t) r).length ≤ _ ∧ ((tabFrom (tput a.name a t) r).length = _ ↔ _)
   cases hg : (tget a.name t).isSome with
   | true =>
     rw [hg, if_pos rfl] at hl
     refine ⟨by simp only [List.length_cons]; omega, ⟨fun h => ?_, fun h => ?_⟩⟩
     ·simp only [List.length_cons] at h; omega
     ·have := h.2 a (by simp); rw [hg] at this; cases this
   | false =>
     rw [hg, if_neg (by simp)] at hl
     refine ⟨by simp only [List.length_cons]; omega, ?_⟩
     rw [show (tabFrom (tput a.name a t) r).length = t.length + (a :: r).length ↔ (tabFrom (tput a.name a t) r).length = (tput a.name a t).length + r.length from by rw [hl, List.length_cons]; omega, h2]
     simp only [List.map_cons, List.nodup_cons, List.mem_cons, forall_eq_or_imp]
     constructor
     ·rintro ⟨k1, k2⟩
      refine ⟨⟨fun hm => ?_, k1⟩, hg, fun b hb => ?_⟩
      ·obtain ⟨b, hb, he⟩ := List.mem_map.1 hm
       have := k2 b hb
       rw [tget_put, he, if_pos rfl] at this; cases this
      ·have := k2 b hb
       rw [tget_put] at this
       split at this
       ·cases this
       ·exact this
     ·rintro ⟨⟨k1, k2⟩, _, k3⟩
      refine ⟨k2, fun b hb => ?_⟩
      rw [tget_put, if_neg (fun e => k1 (List.mem_map.2 ⟨b, hb, e.symm⟩))]
      exact k3 b hb
theorem tabL_len (l : List AttrM) : (tabL l).length = l.length ↔ (l.map AttrM.name).Nodup := by
 have := (tabFrom_len l []).2
 simp only [List.length_nil, Nat.zero_add] at this
 exact this.trans ⟨fun h => h.1, fun h => ⟨h, fun _ _ => rfl⟩⟩
theorem tabL_le (l : List AttrM) : (tabL l).length ≤ l.length := by
 have := (tabFrom_len l []).1
 simp only [List.length_nil, Nat.zero_add] at this
 exact this
theorem tabL_snoc {l : List AttrM} {k : Nat} {a : AttrM} (h : l[k]? = some a) : tabL (l.take (k + 1)) = tput a.name a (tabL (l.take k)) := by
 have hk := (List.getElem?_eq_some_iff.1 h).1
 rw [List.take_succ_eq_append_getElem hk, (List.getElem?_eq_some_iff.1 h).2]
 simp [tabL, tabFrom, List.foldl_append]
@[reducible] def rTab (l : List AttrM) : MS := .live 2 (tRows Value.string oAttr (tabL l)) false
theorem noRef_tabA (t : List (ByteArray × AttrM)) : noRefL (tRows Value.string oAttr t) = true := by
 rw [noRefL_iff]; intro x hx
 obtain ⟨a, _, rfl⟩ := List.mem_map.1 hx
 rfl
theorem map64 : MapTy Tryz.prog 224 .string (.agg #[.string ByteArray.empty, .string ByteArray.empty]) := ⟨9, 90, by kernel_rfl, by kernel_rfl, fun w => Tryz.zeroValue90 w⟩
theorem f182_ok (l : List AttrM) (hl : l.length ≤ 100000) : FnOK Tryz.prog 182 [] [eAttrs l] [rTab l] (.mapr 0) := by
 have hlm : (l.map oAttr).length = l.length := List.length_map ..
 refine FnOK.startC (rvs := [.tmp 2]) G G_good Tryz.func182 rfl Tryz.ntmps182 rfl rfl ?_; with_reducible refine wD ?_
 refine LoopK.use G G_good (fun (k : Nat) => [(3, .mapr 61), (7, eAttrs l), (8, eInt l.length), (9, eInt k)]) (fun k => [(61, .live 2 (tRows Value.string oAttr (tabL (l.take k))) false)]) (fun k => k ≤ l.length) (fun k => l.length - k) 0 (Nat.zero_le _)
  ⟨⟨rfl, rfl⟩, ⟨trivial, rfl, by show (l.length : Int) = ((l.map oAttr).length : Int); rw [hlm], rfl, trivial⟩, ⟨.refl rfl, rfl⟩, trivial⟩ ?_
 intro k hk
 with_reducible refine wK ?_
 refine IfK.mk (fun h1 => ?_) (fun h1 => ?_) <;> (try simp only [castN] at h1) <;> with_reducible refine wK ?_
 ·simp only [decide_eq_true_eq] at h1
  have hk' : k < l.length := by omega
  obtain ⟨a, ha⟩ : ∃ a, l[k]? = some a := ⟨_, List.getElem?_eq_getElem hk'⟩
  obtain ⟨n, v⟩ := a
  refine IdxK.mk k (eAttr ⟨n, v⟩) rfl (attr_get ha) ?_; with_reducible refine wK ?_
  have hle : (tabL (l.take k)).length ≤ k := Nat.le_trans (tabL_le _) (by simp; omega)
  refine PutK.tab Value.string oAttr (tabL (l.take k)) (k := n) ⟨n, v⟩ map64 rfl key_str inj_str (by unfold maxLen; omega) rfl ?_; with_reducible refine wK ?_
  refine nK ?_; with_reducible refine wK ?_
  refine NextK.mk (k + 1) (by omega) (by omega) ⟨⟨rfl, rfl⟩, ⟨trivial, rfl, rfl, by show ((k + 1 : Nat) : Int) = (k : Int) + 1; omega, trivial⟩, ⟨?_, ?_⟩, trivial⟩
  ·rw [tabL_snoc ha]; exact .refl (noRef_tabA _)
  ·exact noRef_tabA _
 ·(refine eK ?_ ?_ <;> with_reducible repeat' (first | exact trivial | (show _ ∧ _; refine aK ?_ ?_)))
  have : k = l.length := by simp only [decide_eq_false_iff_not] at h1; omega
  rw [this, List.take_length]
  exact MFL_refl (noRef_tabA _)
theorem FnOK.fn1 {P : Program} {f g : FuncId} {a : AV} {outs : List MS} {res : AV} (h : FnOK P f [] [a, .clo (.func g) [] []] outs res) : FnOK P f [] [a, .lit (.func (.func g) #[] #[])] outs res := by
 intro w W0 L vs hL hs hr
 refine h w W0 L vs hL hs ⟨hr.1, fun j c v h1 h2 => ?_⟩
 match j with
 | 0 => exact hr.2 0 c v h1 h2
 | 1 =>
   have := hr.2 1 _ v rfl h2
   cases this
   simp at h1
   subst h1
   exact Rep.clo (va := []) (vb := []) rfl rfl (fun j c v h => by simp at h) (fun j c v h => by simp at h)
 | j + 2 => simp at h1
theorem right_bad (l : List AttrM) : l.any badA = !l.all okA := by
 induction l with
 | nil => rfl
 | cons a r ih => simp [List.any_cons, List.all_cons, ih, badA_eq]
theorem tab_outs (l : List AttrM) : okOuts [rTab l] := by
 refine ⟨Wide.of_mem fun r hr => ?_, noRef_tabA _, trivial⟩
 obtain ⟨p, _, rfl⟩ := List.mem_map.1 hr
 rfl
theorem attrs_wide (l : List AttrM) : Wide 2 (l.map oAttr) := Wide.of_mem fun r hr => by
 obtain ⟨a, _, rfl⟩ := List.mem_map.1 hr
 rfl
theorem attrs_outs (l : List AttrM) : okOuts [rAttrs l] := ⟨attrs_wide l, noRef_attrs l, trivial⟩
theorem f131_ok (l : List AttrM) (hl : l.length ≤ 100000) : FnOK Tryz.prog 131 [] [eAttrs l] [] (eBool (rightA l)) := by
 have hlm : (l.map oAttr).length = l.length := List.length_map ..
 refine FnOK.startC (rvs := [.tmp 2]) G G_good Tryz.func131 rfl Tryz.ntmps131 rfl rfl ?_; with_reducible refine wD ?_
 repeat' (first
  | refine aE ?_ ?_
  | ((with_reducible show IfK _ _ _ _); first | refine iK ?_ | (refine IfK.mk (fun _ => ?_) (fun _ => ?_) <;> with_reducible refine wK ?_))
  | ((with_reducible refine kQ 181 ?_); refine CallK.lit [] (FnOK.fn1 (f181_ok 180 c180 [] rfl badA l hl fun a _ => f180_ok a)) c181 ⟨rfl, MF_refl 12 _ rfl, trivial⟩ rfl rfl ?_; with_reducible refine wK ?_)
  | ((with_reducible refine kQ 182 ?_); refine CallK.new 151 [] (f182_ok l hl) c182 ⟨rfl, trivial⟩ rfl rfl rfl (tab_outs l) rfl ?_; with_reducible refine wK ?_)
  | ((with_reducible show CountK _ _ _ _ _ _ _); refine CountK.mk map64 ⟨_, _, rfl⟩ rfl ?_; with_reducible refine wK ?_)
  | apply trivial)
 ·have h2 : l.all okA = true := by have := right_bad l; simp_all
  have e : (tRows Value.string oAttr (tabL l)).length = (tabL l).length := List.length_map ..
  have h3 : l.length ≤ 40 := by simp only [hlm, decide_eq_true_eq] at *; omega
  have h4 := tabL_len l
  unfold rightA
  rw [h2, decide_eq_true h3, e, hlm]
  by_cases hn : (l.map AttrM.name).Nodup
  ·rw [decide_eq_true hn, h4.2 hn]; simp
  ·rw [decide_eq_false hn]
   have : ¬ (tabL l).length = l.length := fun h => hn (h4.1 h)
   rw [decide_eq_false (by (try simp only [castN]); omega)]; rfl
 ·have h2 : l.all okA = false := by have := right_bad l; simp_all
  unfold rightA; rw [h2]; simp
 ·have h2 : decide (l.length ≤ 40) = false := by simp only [hlm, decide_eq_false_iff_not] at *; omega
  unfold rightA; rw [h2]; simp
def noS : ByteArray := ⟨#[]⟩
def findE (l : List AttrM) (n : ByteArray) : Int := if rightA l then (if rightS n then 0 else 4) else 1
def findS (l : List AttrM) (n : ByteArray) : ByteArray := if rightA l && rightS n then lowS n else noS
def findP (l : List AttrM) (n : ByteArray) : Int := if rightA l && rightS n then posA l (lowS n) else -1
theorem f65_ok (l : List AttrM) (hl : l.length ≤ 100000) (n : ByteArray) : FnOK Tryz.prog 65 [] [eAttrs l, eStr n] [] (.tup [eStr (findS l n), eInt (findP l n), eInt (findE l n)]) := by
 refine FnOK.startC (rvs := [.tmp 4, .tmp 5, .tmp 6]) G G_good Tryz.func65 rfl Tryz.ntmps65 rfl rfl ?_; with_reducible refine wD ?_
 repeat' (first
  | refine aE ?_ ?_
  | ((with_reducible show IfK _ _ _ _); first | refine iK ?_ | (refine IfK.mk (fun _ => ?_) (fun _ => ?_) <;> with_reducible refine wK ?_))
  | ((with_reducible refine kQ 131 ?_); refine cL (f131_ok l hl) c131 ?_; with_reducible refine wK ?_)
  | ((with_reducible refine kQ 67 ?_); refine cL (f67_ok _) c67 ?_; with_reducible refine wK ?_)
  | ((with_reducible refine kQ 132 ?_); refine cL (f132_ok l hl _) c132 ?_; with_reducible refine wK ?_)
  | apply trivial)
 all_goals (cases h1 : rightA l <;> cases h2 : rightS n <;> simp_all [findE, findS, findP, noS])
 rfl
def getS (l : List AttrM) (n : ByteArray) : ByteArray := if 0 ≤ findP l n then ((l[(findP l n).toNat]?).map AttrM.value).getD noS else noS
theorem idxI_cases {α : Type} (p : α → Bool) (l : List α) : idxI p l = -1 ∨ ∃ (k : Nat) (a : α), idxI p l = k ∧ l[k]? = some a ∧ p a = true := by
 unfold idxI
 cases h : l.findIdx? p with
 | none => exact .inl rfl
 | some k =>
   rw [List.findIdx?_eq_some_iff_getElem] at h
   obtain ⟨hk, h1, _⟩ := h
   exact .inr ⟨k, _, rfl, List.getElem?_eq_getElem hk, h1⟩
theorem findP_cases (l : List AttrM) (n : ByteArray) : findP l n = -1 ∨ ∃ (k : Nat) (a : AttrM), findP l n = k ∧ l[k]? = some a ∧ a.name = lowS n := by
 unfold findP
 split
 ·rcases idxI_cases (hasName (lowS n)) l with h | ⟨k, a, h1, h2, h3⟩
  ·exact .inl h
  ·exact .inr ⟨k, a, h1, h2, by simpa [hasName] using h3⟩
 ·exact .inl rfl
theorem findE_zero {l : List AttrM} {n : ByteArray} (h : findE l n = 0) : rightA l = true ∧ rightS n = true ∧ findS l n = lowS n := by
 unfold findE at h
 cases h1 : rightA l <;> cases h2 : rightS n <;> rw [h1, h2] at h <;> simp at h
 simp [findS, h1, h2]
theorem f23_ok (l : List AttrM) (hl : l.length ≤ 100000) (n : ByteArray) : FnOK Tryz.prog 23 [] [eAttrs l, eStr n] [] (.tup [eStr (getS l n), eBool (decide (0 ≤ findP l n))]) := by
 refine FnOK.startC (rvs := [.tmp 4, .tmp 5]) G G_good Tryz.func23 rfl Tryz.ntmps23 rfl rfl ?_; with_reducible refine wD ?_
 refine cL (f65_ok l hl n) c65 ?_; with_reducible refine wK ?_
 rcases findP_cases l n with h | ⟨k, a, h, ha, hn⟩
 ·simp only [h]
  refine IfK.yes rfl ?_; with_reducible refine wK ?_
  (refine eK ?_ ?_ <;> with_reducible repeat' (first | exact trivial | (show _ ∧ _; refine aK ?_ ?_)))
  ·unfold getS; rw [h]; rfl
  ·rfl
 ·simp only [h]
  refine IfK.no (decide_eq_false (by (try simp only [castN]); omega)) ?_; with_reducible refine wK ?_
  refine IdxK.mk k (eAttr a) rfl (attr_get ha) ?_; with_reducible refine wK ?_
  (refine eK ?_ ?_ <;> with_reducible repeat' (first | exact trivial | (show _ ∧ _; refine aK ?_ ?_)))
  ·unfold getS; rw [h, if_pos (by omega), Int.toNat_natCast, ha]; rfl
  ·exact decide_eq_true (by omega)
theorem frz_attrs {m : ML} {fz : Nat → Bool} {tab : List (Nat × Nat)} {n t len : Nat} {ro : Bool} {rows : List AV} {l : List AttrM} (h1 : lkM m t = .live 2 rows ro) (h2 : fz t = true) (h3 : rows = l.map oAttr) (h4 : len = l.length) : FrzK m fz (MF tab fz m n) (eAttrs l) t 0 len := by
 subst h3; subst h4
 have e : (l.map oAttr).length = l.length := List.length_map ..
 exact .cut h1 h2 (by omega) (by rw [List.drop_zero, List.take_of_length_le (by omega)]) (noRef_attrs l)
def setA (l : List AttrM) (n v : ByteArray) : List AttrM × Int :=
 if findE l n = 0 then (if v.size ≤ 200 then (if 0 ≤ findP l n then (l.set (findP l n).toNat ⟨lowS n, v⟩, 0) else if l.length = 40 then (l, 3) else (l ++ [⟨lowS n, v⟩], 0)) else (l, 3)) else (l, findE l n)
theorem set_attrs (l : List AttrM) (k : Nat) (n v : ByteArray) : (l.map oAttr).set k (eAttr ⟨n, v⟩) = (l.set k ⟨n, v⟩).map oAttr := by rw [List.map_set]; rfl
theorem snoc_attrs (l : List AttrM) (n v : ByteArray) : l.map oAttr ++ [eAttr ⟨n, v⟩] = (l ++ [(⟨n, v⟩ : AttrM)]).map oAttr := by rw [List.map_append]; rfl

theorem nodup_pos (l : List AttrM) : (l.map AttrM.name).Nodup ↔ ∀ (i : Nat) (a : AttrM), l[i]? = some a → posA l a.name = (i : Int) := by
 constructor
 ·intro hn i a ha
  refine idxI_hit ha (by simp [hasName]) fun j x hj hx => ?_
  simp only [hasName, decide_eq_false_iff_not]
  intro e
  have h1 : (l.map AttrM.name)[j]? = some x.name := by rw [List.getElem?_map, hx]; rfl
  have h2 : (l.map AttrM.name)[i]? = some a.name := by rw [List.getElem?_map, ha]; rfl
  have hjl := (List.getElem?_eq_some_iff.1 h1).1
  have := (List.getElem?_inj hjl hn (j := i)).1 (h1.trans ((congrArg some e).trans h2.symm))
  omega
 ·intro h
  rw [List.nodup_iff_pairwise_ne, List.pairwise_iff_getElem]
  intro i j hi hj hij e
  rw [List.length_map] at hi hj
  have h1 := h i _ (List.getElem?_eq_getElem hi)
  have h2 := h j _ (List.getElem?_eq_getElem hj)
  rw [List.getElem_map, List.getElem_map] at e
  rw [e, h2] at h1
  omega
theorem findP_ref {l : List AttrM} {n : ByteArray} (h1 : rightA l = true) (h2 : rightS n = true) : findP l n = posA l (lowS n) := by unfold findP; rw [h1, h2]; rfl
end Go.Proofs.Heir
namespace Go.Proofs
open Go.Shelf
def Tryz.lays144_ren : Go.Shelf.Ren := ⟨fun | 144 => 206 | 143 => 222 | 219 => 234 | 217 => 238 | 225 => 239 | 224 => 240 | 267 => 241 | 266 => 244 | 314 => 245 | n => n, fun | 9 => 9 | 4 => 4 | 3 => 3 | 5 => 5 | 46 => 284 | 146 => 288 | 51 => 287 | n => n, fun | 1 => 1 | n => n⟩
theorem Tryz.lays144 : Go.Proofs.Lays.n144 Tryz.prog Tryz.lays144_ren := {
  mixed := by kernel_rfl
  f143 := Tryz.func222.trans (congrArg some (by kernel_rfl))
  f144 := Tryz.func206.trans (congrArg some (by kernel_rfl))
  f217 := Tryz.func238.trans (congrArg some (by kernel_rfl))
  f219 := Tryz.func234.trans (congrArg some (by kernel_rfl))
  f224 := Tryz.func240.trans (congrArg some (by kernel_rfl))
  f225 := Tryz.func239.trans (congrArg some (by kernel_rfl))
  f266 := Tryz.func244.trans (congrArg some (by kernel_rfl))
  f267 := Tryz.func241.trans (congrArg some (by kernel_rfl))
  f314 := Tryz.func245.trans (congrArg some (by kernel_rfl))
  t3 := Tryz.underlying3
  a3 := Tryz.isAgg3
  z3 := Tryz.sizeOf3
  v3 := Tryz.zeroValue3
  t4 := Tryz.underlying4
  a4 := Tryz.isAgg4
  z4 := Tryz.sizeOf4
  v4 := Tryz.zeroValue4
  t5 := Tryz.underlying5
  a5 := Tryz.isAgg5
  z5 := Tryz.sizeOf5
  v5 := Tryz.zeroValue5
  t9 := Tryz.underlying9
  a9 := Tryz.isAgg9
  z9 := Tryz.sizeOf9
  v9 := Tryz.zeroValue9
  t46 := Tryz.underlying284
  a46 := Tryz.isAgg284
  z46 := Tryz.sizeOf284
  v46 := Tryz.zeroValue284
  t51 := Tryz.underlying287
  a51 := Tryz.isAgg287
  z51 := Tryz.sizeOf287
  v51 := Tryz.zeroValue287
  t146 := Tryz.underlying288
  a146 := Tryz.isAgg288
  z146 := Tryz.sizeOf288
  v146 := Tryz.zeroValue288
  g1 := by kernel_rfl }
open Go.RowKit Go.Lib in
theorem Tryz.strings_Contains_one (s : ByteArray) (c : UInt8) (w : World) :
    Calls Tryz.prog 206 #[.string s, .string ⟨#[c]⟩] w fun e w' => e = .returned (.bool (decide (0 ≤ Lib.indexByte s.data.toList c))) ∧ w' = w := Any.strings_Contains_one Tryz.lays144 s c w
end Go.Proofs
namespace Go.Proofs.Heir
open Go Go.Am Go.RowKit Go.Lib
set_option maxRecDepth 100000
set_option maxHeartbeats 8000000
def oStr (s : ByteArray) : AV := eStr s
@[reducible] def eStrs (l : List ByteArray) : AV := .sl 1 (l.map oStr)
@[reducible] def rStrs (l : List ByteArray) : MS := .live 1 (l.map oStr) false
theorem noRef_strs (l : List ByteArray) : noRefL (l.map oStr) = true := by
 rw [noRefL_iff]; intro x hx
 obtain ⟨a, _, rfl⟩ := List.mem_map.1 hx
 rfl
theorem strs_get {l : List ByteArray} {k : Nat} {a : ByteArray} (h : l[k]? = some a) : (l.map oStr)[k]? = some (eStr a) := by rw [List.getElem?_map, h]; rfl
theorem strs_outs (l : List ByteArray) : okOuts [rStrs l] := ⟨Wide.of_mem fun r hr => by obtain ⟨a, _, rfl⟩ := List.mem_map.1 hr; rfl, noRef_strs l, trivial⟩
theorem frz_strs {m : ML} {fz : Nat → Bool} {tab : List (Nat × Nat)} {n t len : Nat} {ro : Bool} {rows : List AV} {l : List ByteArray} (h1 : lkM m t = .live 1 rows ro) (h2 : fz t = true) (h3 : rows = l.map oStr) (h4 : len = l.length) : FrzK m fz (MF tab fz m n) (eStrs l) t 0 len := by
 subst h3; subst h4
 have e : (l.map oStr).length = l.length := List.length_map ..
 exact .cut h1 h2 (by omega) (by rw [List.drop_zero, List.take_of_length_le (by omega)]) (noRef_strs l)
theorem f223_ok (l : List ByteArray) (hl : l.length ≤ 100000) (s : ByteArray) : FnOK Tryz.prog 223 [] [eStrs l, eStr s] [] (eInt (idxI (fun x => decide (x = s)) l)) := by
 have hlm : (l.map oStr).length = l.length := List.length_map ..
 refine FnOK.startC (rvs := [.tmp 4]) G G_good Tryz.func223 rfl Tryz.ntmps223 rfl rfl ?_; with_reducible refine wD ?_
 refine LoopK.use G G_good (fun (k : Nat) => [(0, eStrs l), (1, eStr s), (7, eInt l.length), (8, eInt k)]) (fun _ => []) (fun k => k ≤ l.length ∧ ∀ j x, j < k → l[j]? = some x → decide (x = s) = false) (fun k => l.length - k) 0 ⟨Nat.zero_le _, fun j x h => by omega⟩
  ⟨⟨rfl, rfl⟩, ⟨rfl, rfl, by show (l.length : Int) = ((l.map oStr).length : Int); rw [hlm], rfl, trivial⟩, trivial⟩ ?_
 rintro k ⟨hk, hno⟩
 with_reducible refine wK ?_
 refine IfK.mk (fun h1 => ?_) (fun h1 => ?_) <;> (try simp only [castN] at h1) <;> with_reducible refine wK ?_
 ·simp only [decide_eq_true_eq] at h1
  have hk' : k < l.length := by omega
  obtain ⟨a, ha⟩ : ∃ a, l[k]? = some a := ⟨_, List.getElem?_eq_getElem hk'⟩
  refine IdxK.mk k (eStr a) rfl (strs_get ha) ?_; with_reducible refine wK ?_
  refine IfK.mk (fun h2 => ?_) (fun h2 => ?_) <;> (try simp only [castN] at h2) <;> with_reducible refine wK ?_
  ·(refine eK ?_ ?_ <;> with_reducible repeat' (first | exact trivial | (show _ ∧ _; refine aK ?_ ?_)))
   refine idxI_hit (p := fun x => decide (x = s)) ha ?_ hno
   simp only [decide_eq_true_eq] at h2 ⊢; exact h2.symm
  ·refine nK ?_; with_reducible refine wK ?_
   refine NextK.mk (k + 1) ⟨by omega, fun j x hj hx => ?_⟩ (by omega) ⟨⟨rfl, rfl⟩, ⟨rfl, rfl, rfl, by show ((k + 1 : Nat) : Int) = (k : Int) + 1; omega, trivial⟩, trivial⟩
   rcases Nat.lt_or_ge j k with h3 | h3
   ·exact hno j x h3 hx
   ·have : j = k := by omega
    subst this
    rw [ha] at hx; cases hx
    simp only [decide_eq_false_iff_not] at h2 ⊢; exact fun e => h2 e.symm
 ·(refine eK ?_ ?_ <;> with_reducible repeat' (first | exact trivial | (show _ ∧ _; refine aK ?_ ?_)))
  exact idxI_none fun j x hx => hno j x (by have := (List.getElem?_eq_some_iff.1 hx).1; simp only [decide_eq_false_iff_not] at h1; omega) hx
def hasW (l : List ByteArray) (s : ByteArray) : Bool := l.any fun x => decide (x = s)
theorem hasW_iff {l : List ByteArray} {s : ByteArray} : hasW l s = true ↔ s ∈ l := by
 unfold hasW; rw [List.any_eq_true]
 exact ⟨fun ⟨x, hx, e⟩ => by rw [← of_decide_eq_true e]; exact hx, fun h => ⟨s, h, decide_eq_true rfl⟩⟩
theorem idxI_mem {l : List ByteArray} {s : ByteArray} : decide (0 ≤ idxI (fun x => decide (x = s)) l) = hasW l s := by
 rw [Bool.eq_iff_iff, decide_eq_true_eq, hasW_iff]
 unfold idxI
 cases h : l.findIdx? (fun x => decide (x = s)) with
 | none =>
   rw [List.findIdx?_eq_none_iff] at h
   simp only
   refine ⟨fun h' => by omega, fun hs => ?_⟩
   have := h s hs
   simp at this
 | some k =>
   rw [List.findIdx?_eq_some_iff_getElem] at h
   obtain ⟨hk, h2, _⟩ := h
   simp only
   exact ⟨fun _ => by rw [← of_decide_eq_true h2]; exact List.getElem_mem hk, fun _ => by omega⟩
theorem f207_ok (l : List ByteArray) (hl : l.length ≤ 100000) (s : ByteArray) : FnOK Tryz.prog 207 [] [eStrs l, eStr s] [] (eBool (hasW l s)) := by
 rw [← idxI_mem]
 refine FnOK.startC (rvs := [.tmp 4]) G G_good Tryz.func207 rfl Tryz.ntmps207 rfl rfl ?_; with_reducible refine wD ?_
 refine cL (f223_ok l hl s) c223 ?_; with_reducible refine wK ?_
 (refine eK ?_ ?_ <;> with_reducible repeat' (first | exact trivial | (show _ ∧ _; refine aK ?_ ?_)))
def strB (l : List UInt8) : ByteArray := ⟨l.toArray⟩
def resL : List ByteArray := [strB [97, 110, 110, 111, 116, 97, 116, 105, 111, 110, 45, 120, 109, 108], strB [99, 111, 108, 111, 114, 45, 112, 114, 111, 102, 105, 108, 101], strB [102, 111, 110, 116, 45, 102, 97, 99, 101], strB [102, 111, 110, 116, 45, 102, 97, 99, 101, 45, 115, 114, 99],
 strB [102, 111, 110, 116, 45, 102, 97, 99, 101, 45, 117, 114, 105], strB [102, 111, 110, 116, 45, 102, 97, 99, 101, 45, 102, 111, 114, 109, 97, 116], strB [102, 111, 110, 116, 45, 102, 97, 99, 101, 45, 110, 97, 109, 101], strB [109, 105, 115, 115, 105, 110, 103, 45, 103, 108, 121, 112, 104]]
theorem f208_ok : FnOK Tryz.prog 208 [] [] [rStrs resL] (.own 0 0 8) := by
 refine FnOK.startC (rvs := [.tmp 0]) G G_good Tryz.func208 rfl Tryz.ntmps208 rfl rfl ?_; with_reducible refine wD ?_
 (refine eK ?_ ?_ <;> with_reducible repeat' (first | exact trivial | (show _ ∧ _; refine aK ?_ ?_)))
 all_goals first | rfl | exact MFL_refl (noRef_strs resL)
theorem f206_ok (s : ByteArray) (c : UInt8) : FnOK Tryz.prog 206 [] [eStr s, eStr ⟨#[c]⟩] [] (eBool (decide (0 ≤ Lib.indexByte s.data.toList c))) :=
 FnOK.of_calls (vs := [.string s, .string ⟨#[c]⟩]) (v := .bool _) fun w _ => (Go.Proofs.Tryz.strings_Contains_one s c w).mono fun e w' ⟨h1, h2⟩ => ⟨h1, by rw [h2]; exact Below.refl _ w⟩
theorem cut_strOf (s : ByteArray) (a b : Nat) : s.extract a b = strOf ((s.data.toList.take b).drop a) := by
 obtain ⟨l, rfl⟩ : ∃ l : List UInt8, s = ⟨l.toArray⟩ := ⟨s.data.toList, by obtain ⟨⟨l⟩⟩ := s; rfl⟩
 rw [ByteArray.extract_mk]
 unfold strOf
 rw [List.drop_take]
@[reducible] def knowB : List UInt8 := [97, 32, 98, 32, 98, 117, 116, 116, 111, 110, 32, 100, 105, 118, 32, 102, 105, 101, 108, 100, 115, 101, 116, 32, 102, 111, 114, 109, 32, 105, 32, 105, 110, 112, 117, 116, 32, 108, 97, 98, 101, 108, 32, 108, 101, 103, 101, 110, 100, 32, 108, 105, 32, 111, 112, 116, 105, 111, 110, 32, 111, 117, 116, 112, 117, 116, 32, 112, 32, 115, 101, 108, 101, 99, 116, 32, 115, 112, 97, 110, 32, 116, 101, 109, 112, 108, 97, 116, 101, 32, 116, 101, 120, 116, 97, 114, 101, 97, 32, 117, 108]
def knowL : List ByteArray := (Lib.fields knowB).map strB
@[reducible] def resB : List UInt8 := [97, 110, 110, 111, 116, 97, 116, 105, 111, 110, 45, 120, 109, 108, 32, 99, 111, 108, 111, 114, 45, 112, 114, 111, 102, 105, 108, 101, 32, 102, 111, 110, 116, 45, 102, 97, 99, 101, 32, 102, 111, 110, 116, 45, 102, 97, 99, 101, 45, 115, 114, 99, 32, 102, 111, 110, 116, 45, 102, 97, 99, 101, 45, 117, 114, 105, 32, 102, 111, 110, 116, 45, 102, 97, 99, 101, 45, 102, 111, 114, 109, 97, 116, 32, 102, 111, 110, 116, 45, 102, 97, 99, 101, 45, 110, 97, 109, 101, 32, 109, 105, 115, 115, 105, 110, 103, 45, 103, 108, 121, 112, 104]
def dashB (l : List UInt8) : Bool := l.any (fun b => decide (b = 45))
def capsB (l : List UInt8) : Bool := l.any (fun b => capC (b.toNat : Int))
def lowFirst : List UInt8 → Bool
 | [] => false
 | b :: _ => smallC (b.toNat : Int)
def customS (s : ByteArray) : Bool := rightS s && (lowFirst s.data.toList && (!capsB s.data.toList && (dashB s.data.toList && !hasW resL s)))
theorem dash_index (l : List UInt8) : decide (0 ≤ Lib.indexByte l 45) = dashB l := by
 rw [Bool.eq_iff_iff, decide_eq_true_eq]
 unfold dashB
 rw [List.any_eq_true]
 constructor
 ·intro h
  obtain ⟨o, ho⟩ : ∃ o : Nat, Lib.indexByte l 45 = o := ⟨(Lib.indexByte l 45).toNat, by omega⟩
  obtain ⟨h1, _⟩ := Lib.indexByte_some ho
  exact ⟨45, List.mem_of_getElem? h1, rfl⟩
 ·rintro ⟨b, hb, e⟩
  have := of_decide_eq_true e; subst this
  rcases Int.lt_or_le (Lib.indexByte l 45) 0 with h | h
  ·have : Lib.indexByte l 45 = -1 := by have := Lib.indexByte_ge l 45; omega
   obtain ⟨k, hk⟩ := List.getElem?_of_mem hb
   exact absurd hk (Lib.indexByte_none this k)
  ·exact h
theorem idx_plain (p : Nat → Bool) (s : ByteArray) (hs : ∀ b ∈ s.data.toList, b.toNat < 128) : ∀ (f pos : Nat), s.size ≤ pos + f → (0 ≤ idxFuncFrom p true s f pos ↔ ∃ i, pos ≤ i ∧ ∃ b, s.data.toList[i]? = some b ∧ p b.toNat = true)
 | 0, pos, h => by
   have : ¬ (0 : Int) ≤ idxFuncFrom p true s 0 pos := by simp [idxFuncFrom]
   refine ⟨fun h' => absurd h' this, ?_⟩
   rintro ⟨i, h1, b, h2, _⟩
   have := (List.getElem?_eq_some_iff.1 h2).1
   have : i < s.size := this
   omega
 | f + 1, pos, h => by
   by_cases hp : pos < s.size
   ·have ih := idx_plain p s hs f
    obtain ⟨b, hb1, hb2⟩ : ∃ b, s.data.toList[pos]? = some b ∧ s.get! pos = b := ⟨_, List.getElem?_eq_getElem hp, by show s.data[pos]! = _; rw [getElem!_pos s.data pos hp]; rfl⟩
    have hb3 := hs b (List.mem_of_getElem? hb1)
    unfold idxFuncFrom
    rw [if_pos hp, decode_at, hb2]
    have hd : ∀ n b1 b2 b3, decodeN n b.toNat b1 b2 b3 = (b.toNat, 1) := fun n b1 b2 b3 => by rw [decodeN, if_pos hb3]
    rw [hd]
    show (0 : Int) ≤ (if p b.toNat = true then (pos : Int) else idxFuncFrom p true s f (pos + 1)) ↔ _
    cases hpb : p b.toNat with
    | true => exact ⟨fun _ => ⟨pos, Nat.le_refl _, b, hb1, hpb⟩, fun _ => by simp⟩
    | false =>
      rw [if_neg (by simp), ih (pos + 1) (by omega)]
      constructor
      ·rintro ⟨i, h3, h4⟩; exact ⟨i, by omega, h4⟩
      ·rintro ⟨i, h3, b', h4, h5⟩
       rcases Nat.lt_or_ge pos i with h6 | h6
       ·exact ⟨i, h6, b', h4, h5⟩
       ·have : i = pos := by omega
        subst this
        rw [hb1] at h4; cases h4
        rw [hpb] at h5; cases h5
   ·rw [idxFuncFrom_end _ _ _ _ _ hp]
    refine ⟨fun h' => by omega, ?_⟩
    rintro ⟨i, h1, b, h2, _⟩
    have := (List.getElem?_eq_some_iff.1 h2).1
    have : i < s.size := this
    omega
theorem right_plain {s : ByteArray} (h : rightS s = true) : ∀ b ∈ s.data.toList, b.toNat < 128 := by
 intro b hb
 unfold rightS rightL at h
 simp only [Bool.and_eq_true, List.all_eq_true] at h
 have := h.1.2 b hb
 unfold signB signC smallC capC at this
 simp only [Bool.or_eq_true, Bool.and_eq_true, decide_eq_true_eq] at this
 omega
theorem caps_index {s : ByteArray} (h : rightS s = true) : decide (0 ≤ idxFunc (fun r => capC (r : Int)) true s) = capsB s.data.toList := by
 rw [Bool.eq_iff_iff, decide_eq_true_eq]
 unfold capsB
 rw [List.any_eq_true]
 have := idx_plain (fun r => capC (r : Int)) s (right_plain h) s.size 0 (by omega)
 refine Iff.trans this ⟨?_, ?_⟩
 ·rintro ⟨i, _, b, h1, h2⟩; exact ⟨b, List.mem_of_getElem? h1, h2⟩
 ·rintro ⟨b, h1, h2⟩
  obtain ⟨i, hi⟩ := List.getElem?_of_mem h1
  exact ⟨i, Nat.zero_le _, b, hi, h2⟩
theorem f20c_ok (s : ByteArray) (h : rightS s = true) : FnOK Tryz.prog 185 [] [eStr s, .lit (.func (.func 179) #[] #[])] [] (eBool (capsB s.data.toList)) := by
 rw [← caps_index h]
 exact FnOK.of_calls (vs := [.string s, .func (.func 179) #[] #[]]) fun w ht => f185_calls 179 c179 (fun r => capC (r : Int)) s w ht fun W x ht _ => (f179_ok (x : Int)).below (vs := [.int .i32 (x : Int)]) W ht
theorem right_first {s : ByteArray} (h : rightS s = true) : ∃ b r, s.data.toList = b :: r := by
 unfold rightS rightL at h
 simp only [Bool.and_eq_true, decide_eq_true_eq] at h
 obtain ⟨b, r, e, _⟩ := first_get h.1.1.1
 exact ⟨b, r, e⟩
theorem f174_ok (s : ByteArray) : FnOK Tryz.prog 174 [] [eStr s] [] (eBool (customS s)) := by
 refine FnOK.startC (rvs := [.tmp 2]) G G_good Tryz.func174 rfl Tryz.ntmps174 rfl rfl ?_; with_reducible refine wD ?_
 refine cL (f133_ok s) c133 ?_; with_reducible refine wK ?_
 unfold customS
 cases hr : rightS s with
 | false =>
   repeat' (first
  | refine aE ?_ ?_
  | ((with_reducible show IfK _ _ _ _); first | refine iK ?_ | (refine IfK.mk (fun _ => ?_) (fun _ => ?_) <;> with_reducible refine wK ?_))
  | apply trivial)
   all_goals rfl
 | true =>
   obtain ⟨b, r, hb⟩ := right_first hr
   have hb0 : s.data.toList[0]? = some b := by rw [hb]; rfl
   have hlf : lowFirst s.data.toList = smallC (b.toNat : Int) := by rw [hb]; rfl
   have hda := dash_index s.data.toList
   have f25 := f206_ok s 45
   rw [hda] at f25
   refine IfK.tt ?_; with_reducible refine wK ?_
   refine IdxSK.mk 0 b rfl hb0 ?_; with_reducible refine wK ?_
   refine ConvK.int (by kernel_rfl) (by kernel_rfl) (u8_i32 _) ?_; with_reducible refine wK ?_
   refine cL (f188_ok _) c188 ?_; with_reducible refine wK ?_
   repeat' (first
  | refine aE ?_ ?_
  | ((with_reducible show IfK _ _ _ _); first | refine iK ?_ | (refine IfK.mk (fun _ => ?_) (fun _ => ?_) <;> with_reducible refine wK ?_))
  | ((with_reducible refine kQ 185 ?_); refine cL (f20c_ok s hr) c185 ?_; with_reducible refine wK ?_)
  | ((with_reducible refine kQ 206 ?_); refine cL f25 c206 ?_; with_reducible refine wK ?_)
  | ((with_reducible refine kQ 208 ?_); refine CallK.new 211 [] f208_ok c208 trivial rfl rfl rfl (strs_outs resL) rfl ?_; with_reducible refine wK ?_)
  | ((with_reducible refine kQ 207 ?_); refine CallK.lit [211] (f207_ok resL (by decide) s) c207 ⟨frz_strs rfl rfl rfl rfl, rfl, trivial⟩ rfl rfl ?_; with_reducible refine wK ?_)
  | apply trivial)
   all_goals (rw [hlf]; clear hb hb0 hda f25 hlf; rw [show s.data.toList = s.1.1 from rfl]; simp_all)
theorem byte_all (p : UInt8 → Bool) (h : (List.range 256).all (fun n => p (UInt8.ofNat n)) = true) (c : UInt8) : p c = true := by
 have := List.all_eq_true.1 h c.toNat (List.mem_range.2 (UInt8.toNat_lt c))
 simpa using this
theorem lowB_low (c : UInt8) : lowB (lowB c) = lowB c := by
 have := byte_all (fun c => decide (lowB (lowB c) = lowB c)) (by decide +kernel) c
 simpa using this
theorem signB_low (c : UInt8) : signB (lowB c) = signB c := by
 have := byte_all (fun c => decide (signB (lowB c) = signB c)) (by decide +kernel) c
 simpa using this
theorem lowS_low (s : ByteArray) : lowS (lowS s) = lowS s := by
 unfold lowS lowL
 simp only [List.map_map]
 congr 2
 apply List.map_congr_left
 intro c _
 exact lowB_low c
theorem firstB_low (l : List UInt8) : firstB (lowL l) = firstB l := by
 cases l with
 | nil => rfl
 | cons c r =>
   have := byte_all (fun c => decide (firstB [lowB c] = firstB [c])) (by decide +kernel) c
   exact of_decide_eq_true this
theorem rightS_low (s : ByteArray) : rightS (lowS s) = rightS s := by
 unfold rightS rightL
 have h1 : (lowS s).data.toList = lowL s.data.toList := rfl
 rw [h1, firstB_low]
 have h2 : (lowL s.data.toList).length = s.data.toList.length := by unfold lowL; simp
 have h3 : (lowL s.data.toList).all signB = s.data.toList.all signB := by
  unfold lowL
  rw [List.all_map]
  congr 1
  funext c
  exact signB_low c
 rw [h2, h3]
theorem i32_run (s t : TypeId) (c : Int) (h1 : Tryz.prog.underlying s = some (.int .i32)) (h2 : Tryz.prog.underlying t = some .string) : ∀ w, (convert s t (.int .i32 c)).run Tryz.prog w = .ok (.string (Utf8.encode c)) w :=
  fun w => run_convert_int_string w s t .i32 c (by rw [h1]; rfl) h2
theorem enc_size (c : Int) : (Utf8.encode c).size ≤ 4 := by
  unfold Utf8.encode
  simp only
  repeat' split
  all_goals exact Nat.le_of_ble_eq_true rfl
@[reducible] def aB : ByteArray := ⟨#[97]⟩
def wordB (r : Nat) : Bool := !rightS (aB ++ Utf8.encode (r : Int))
theorem f232_ok (c : Int) : FnOK Tryz.prog 232 [] [eRune c] [] (eBool (!rightS (aB ++ Utf8.encode c))) := by
  have hsz := enc_size c
  have ha : aB.size = 1 := rfl
  refine FnOK.startC (rvs := [.tmp 2]) G G_good Tryz.func232 rfl Tryz.ntmps232 rfl rfl ?_; with_reducible refine wD ?_
  refine ConvK.mk _ (i32_run 21 9 c (by kernel_rfl) (by kernel_rfl)) ?_; with_reducible refine wK ?_
  refine NeedK.mk (by have := enc_size c; have h1 : (⟨⟨[97]⟩⟩ : ByteArray).size = 1 := rfl; omega) ?_; with_reducible refine wK ?_
  refine CallK.lit [] (f133_ok _) c133 ⟨rfl, trivial⟩ rfl rfl ?_; with_reducible refine wK ?_
  (refine eK ?_ ?_ <;> with_reducible repeat' (first | exact trivial | (show _ ∧ _; refine aK ?_ ?_)))
  all_goals first | rfl | trace_state
theorem f213_word (s : ByteArray) : FnOK Tryz.prog 213 [] [eStr s, .lit (.func (.func 232) #[] #[])] [] (eInt (Lib.idxFunc wordB true s)) :=
  FnOK.of_calls (vs := [.string s, .func (.func 232) #[] #[]]) fun w ht => f213_calls 232 c232 wordB s w ht fun W x ht _ => (f232_ok (x : Int)).below (vs := [.int .i32 (x : Int)]) W ht
theorem f220_nil : FnOK Tryz.prog 220 [.live 2 [.agg [.lit (.pointer none), .lit (.slice none 0 0)]] false] [.ptr 0 0 0] [.live 2 [.agg [.lit (.pointer none), .lit (.slice none 0 0)]] false] (eStr ⟨#[]⟩) := by
  refine FnOK.startC (rvs := [.tmp 2]) G G_good Tryz.func220 rfl Tryz.ntmps220 rfl rfl ?_; with_reducible refine wD ?_
  refine ⟨[], .lit (.pointer none), [], EffOK.lits (ρ := fun _ => .slice none 0 0) (r := .pointer none) (by simp) (fun y hy => ?_) (fun w => ?_) (dst_ok rfl), ?_⟩
  · simp [Op.operands, Call.operands] at hy
    subst hy
    rfl
  · kernel_rfl
  with_reducible refine wK ?_
  refine ⟨[], .lit (.string ⟨#[]⟩), [], EffOK.lits (ρ := fun y => match y with | .tmp 7 => .pointer none | _ => .int .i64 0) (r := .string ⟨#[]⟩) (by simp) (fun y hy => ?_) (fun w => ?_) (dst_ok rfl), ?_⟩
  · simp [Op.operands, Call.operands] at hy
    rcases hy with rfl | rfl <;> rfl
  · kernel_rfl
  with_reducible refine wK ?_
  refine dK ?_; with_reducible refine wK ?_
  (refine eK ?_ ?_ <;> with_reducible repeat' (first | exact trivial | (show _ ∧ _; refine aK ?_ ?_)))
  all_goals first | rfl | exact .inl rfl | exact ⟨rfl, rfl⟩ | trace_state
def orcA : CallT := fun g ins args => match g with
  | 174 => match ins, args with
    | [], [.lit (.string s)] => some ([], eBool (customS s))
    | _, _ => none
  | 133 => match ins, args with
    | [], [.lit (.string s)] => some ([], eBool (rightS s))
    | _, _ => none
  | 67 => match ins, args with
    | [], [.lit (.string s)] => some ([], .tup [eStr (if rightS s then lowS s else ⟨#[]⟩), eInt (if rightS s then 0 else 4)])
    | _, _ => none
  | 213 => match ins, args with
    | [], [.lit (.string s), .lit (.func (.func 232) a b)] => match a.toList, b.toList with
      | [], [] => some ([], eInt (Lib.idxFunc wordB true s))
      | _, _ => none
    | _, _ => none
  | 220 => match ins, args with
    | [.live 2 [.agg [.lit (.pointer none), .lit (.slice none 0 0)]] false], [.ptr 0 0 0] => some ([.live 2 [.agg [.lit (.pointer none), .lit (.slice none 0 0)]] false], eStr ⟨#[]⟩)
    | _, _ => none
  | _ => none
theorem orcA_ok : ∀ g ins args outs res, orcA g ins args = some (outs, res) → FnOK Tryz.prog g ins args outs res ∧ Callable Tryz.prog g := by
  intro g ins args outs res h
  unfold orcA at h
  split at h
  · split at h
    · cases h; exact ⟨f174_ok _, c174⟩
    · cases h
  · split at h
    · cases h; exact ⟨f133_ok _, c133⟩
    · cases h
  · split at h
    · cases h; exact ⟨f67_ok _, c67⟩
    · cases h
  · split at h
    · split at h
      · rename_i ha hb
        cases h
        rename_i a b _ _
        obtain rfl := (Array.ext' ha : _ = #[])
        obtain rfl := (Array.ext' hb : _ = #[])
        exact ⟨f213_word _, c213⟩
      · cases h
    · cases h
  · split at h
    · cases h; exact ⟨f220_nil, c220⟩
    · cases h
  · cases h
noncomputable def envA : EEnv := ⟨G, mapsT, fnsT, kindsT, orcA, []⟩
theorem envA_good : envA.Good Tryz.prog := ⟨G_good, mapsT_ok, fnsT_ok, kindsT_ok, orcA_ok, by kernel_rfl, fun _ h => by cases h⟩
end Go.Proofs.Heir
namespace Go.Proofs
open Go.Shelf
def Tryz.lays169_ren : Go.Shelf.Ren := ⟨fun | 169 => 220 | n => n, fun | 70 => 257 | 9 => 9 | 0 => 0 | 72 => 259 | 37 => 71 | 127 => 280 | 3 => 3 | 5 => 5 | n => n, fun | n => n⟩
theorem Tryz.lays169 : Go.Proofs.Lays.n169 Tryz.prog Tryz.lays169_ren := {
  mixed := by kernel_rfl
  f169 := Tryz.func220.trans (congrArg some (by kernel_rfl))
  t0 := Tryz.underlying0
  a0 := Tryz.isAgg0
  z0 := Tryz.sizeOf0
  v0 := Tryz.zeroValue0
  t3 := Tryz.underlying3
  a3 := Tryz.isAgg3
  z3 := Tryz.sizeOf3
  v3 := Tryz.zeroValue3
  t9 := Tryz.underlying9
  a9 := Tryz.isAgg9
  z9 := Tryz.sizeOf9
  v9 := Tryz.zeroValue9
  t37 := Tryz.underlying71
  a37 := Tryz.isAgg71
  z37 := Tryz.sizeOf71
  v37 := Tryz.zeroValue71
  t70 := Tryz.underlying257
  a70 := Tryz.isAgg257
  z70 := Tryz.sizeOf257
  v70 := Tryz.zeroValue257
  t72 := Tryz.underlying259
  a72 := Tryz.isAgg259
  z72 := Tryz.sizeOf259
  v72 := Tryz.zeroValue259
  t127 := Tryz.underlying280
  a127 := Tryz.isAgg280
  z127 := Tryz.sizeOf280
  v127 := Tryz.zeroValue280 }
theorem Tryz.Builder_Extra_169 : Builder.Extra Tryz.prog Tryz.lays169_ren := {
  sizeBuilder := by kernel_rfl
  liesBuilder := by kernel_rfl
  t5 := Tryz.underlying5
  a5 := Tryz.isAgg5
  z5 := Tryz.sizeOf5
  v5 := Tryz.zeroValue5
  infoByte := by kernel_rfl
  cellsByte := by kernel_rfl
  sizeByte := by kernel_rfl
  neB5 := by decide }
open Go.RowKit in
theorem Tryz.Builder_String_any (B b : Nat) (l : List UInt8) (w : World) (h : Lib.IsBuilder 259 5 B b (Lib.byteCells l) w) (hBw : B ≤ w.heap.size) :
    Calls Tryz.prog 220 #[.pointer (some ⟨b, 0, none⟩)] w fun e w' => e = .returned (.string ⟨l.toArray⟩) ∧ Below B w w' := Any.Builder_String_any Tryz.lays169 Tryz.Builder_Extra_169 B b l w h hBw
def Tryz.lays167_ren : Go.Shelf.Ren := ⟨fun | 167 => 221 | 240 => 233 | 276 => 237 | n => n, fun | 0 => 0 | 4 => 4 | 5 => 5 | 9 => 9 | 20 => 20 | 37 => 71 | 70 => 257 | 72 => 259 | 75 => 98 | 80 => 236 | 164 => 239 | n => n, fun | n => n⟩
theorem Tryz.lays167 : Go.Proofs.Lays.n167 Tryz.prog Tryz.lays167_ren := {
  mixed := by kernel_rfl
  f167 := Tryz.func221.trans (congrArg some (by kernel_rfl))
  f240 := Tryz.func233.trans (congrArg some (by kernel_rfl))
  f276 := Tryz.func237.trans (congrArg some (by kernel_rfl))
  t0 := Tryz.underlying0
  a0 := Tryz.isAgg0
  z0 := Tryz.sizeOf0
  v0 := Tryz.zeroValue0
  t4 := Tryz.underlying4
  a4 := Tryz.isAgg4
  z4 := Tryz.sizeOf4
  v4 := Tryz.zeroValue4
  t5 := Tryz.underlying5
  a5 := Tryz.isAgg5
  z5 := Tryz.sizeOf5
  v5 := Tryz.zeroValue5
  t9 := Tryz.underlying9
  a9 := Tryz.isAgg9
  z9 := Tryz.sizeOf9
  v9 := Tryz.zeroValue9
  t20 := Tryz.underlying20
  a20 := Tryz.isAgg20
  z20 := Tryz.sizeOf20
  v20 := Tryz.zeroValue20
  t37 := Tryz.underlying71
  a37 := Tryz.isAgg71
  z37 := Tryz.sizeOf71
  v37 := Tryz.zeroValue71
  t70 := Tryz.underlying257
  a70 := Tryz.isAgg257
  z70 := Tryz.sizeOf257
  v70 := Tryz.zeroValue257
  t72 := Tryz.underlying259
  a72 := Tryz.isAgg259
  z72 := Tryz.sizeOf259
  v72 := Tryz.zeroValue259
  t75 := Tryz.underlying98
  a75 := Tryz.isAgg98
  z75 := Tryz.sizeOf98
  v75 := Tryz.zeroValue98
  t164 := Tryz.underlying239
  a164 := Tryz.isAgg239
  z164 := Tryz.sizeOf239
  v164 := Tryz.zeroValue239 }
theorem Tryz.Builder_Extra_167 : Builder.Extra Tryz.prog Tryz.lays167_ren := {
  sizeBuilder := by kernel_rfl
  liesBuilder := by kernel_rfl
  t5 := Tryz.underlying5
  a5 := Tryz.isAgg5
  z5 := Tryz.sizeOf5
  v5 := Tryz.zeroValue5
  infoByte := by kernel_rfl
  cellsByte := by kernel_rfl
  sizeByte := by kernel_rfl
  neB5 := by decide }
open Go.RowKit in
theorem Tryz.Builder_WriteByte (B b : Nat) (bs : List Value) (c : Int) (w : World) (h : Lib.IsBuilder 259 5 B b bs w) (hlen : bs.length + 1 ≤ 140737488355328) (hBw : B ≤ w.heap.size) :
    Calls Tryz.prog 221 #[.pointer (some ⟨b, 0, none⟩), .int .u8 c] w fun e w' => e = .returned .nilIface ∧ (Lib.BuilderAt 259 5 B b (.pointer (some ⟨b, 0, none⟩)) (bs ++ [.int .u8 c]) w' ∧ Below B w w') := Any.Builder_WriteByte Tryz.lays167 Tryz.Builder_Extra_167 B b bs c w h hlen hBw
end Go.Proofs
namespace Go.Proofs.Heir
open Go Go.Am Go.RowKit Go.Lib
set_option maxRecDepth 100000
set_option maxHeartbeats 8000000
def oInt (n : Int) : AV := eInt n
def vInt (n : Int) : Value := .int .i64 n
@[reducible] def eInts (l : List Int) : AV := .sl 1 (l.map oInt)
theorem int_get {l : List Int} {k : Nat} {x : Int} (h : l[k]? = some x) : (l.map oInt)[k]? = some (eInt x) := by rw [List.getElem?_map, h]; rfl
end Go.Proofs.Heir
namespace Go.Proofs.Heir
open Go Go.Am Go.RowKit Go.Shelf
set_option maxRecDepth 100000
set_option maxHeartbeats 8000000

end Go.Proofs.Heir
namespace Go.Proofs.Heir
open Go Go.Am Go.RowKit Go.Lib
set_option maxRecDepth 100000
set_option maxHeartbeats 8000000
structure NodeM where
 kind : Int
 name : ByteArray
 is : ByteArray
 data : ByteArray
 attrs : List AttrM
 parent : Int
 kids : List Int
 host : Int
 under : Int
 doc : Int
structure ForM where
 nodes : List NodeM
 most : Int
def noNode : NodeM := ⟨0, ⟨#[]⟩, ⟨#[]⟩, ⟨#[]⟩, [], 0, [], 0, 0, 0⟩
def nd (l : List NodeM) (n : Int) : NodeM := (l[n.toNat]?).getD noNode
def thereN (l : List NodeM) (n : Int) : Bool := decide (0 ≤ n) && decide (n < (l.length : Int))
def isN (l : List NodeM) (n k : Int) : Bool := thereN l n && decide ((nd l n).kind = k)
def holdK (k : Int) : Bool := decide (k = 0) || decide (k = 1) || decide (k = 3) || decide (k = 4)
def hasI (l : List Int) (n : Int) : Bool := decide (n ∈ l)
def upN (x : NodeM) : Int := if x.parent = -1 then x.host else x.parent
def ownedN (l : List NodeM) (n : Int) (x : NodeM) : Bool := isN l x.doc 0 && (decide (x.kind ≠ 0) || decide (x.doc = n))
def hungN (l : List NodeM) (n : Int) (x : NodeM) : Bool := decide (x.parent = -1) || ((decide (x.kind = 1) || decide (x.kind = 2)) && thereN l x.parent && holdK (nd l x.parent).kind && hasI (nd l x.parent).kids n)
def kidOK (l : List NodeM) (n : Int) (x : NodeM) (pre : List Int) (c : Int) : Bool :=
 thereN l c && !hasI pre c && decide ((nd l c).parent = n) && decide ((nd l c).doc = x.doc) && (decide ((nd l c).kind = 1) || (decide ((nd l c).kind = 2) && decide (x.kind ≠ 0)))
def kidsOK (l : List NodeM) (n : Int) (x : NodeM) : List Int → List Int → Bool
 | _, [] => true
 | pre, c :: r => kidOK l n x pre c && kidsOK l n x (pre ++ [c]) r
def elemsN (l : List NodeM) (cs : List Int) : Nat := cs.countP (fun c => decide ((nd l c).kind = 1))
def bearsN (l : List NodeM) (n : Int) (x : NodeM) : Bool :=
 kidsOK l n x [] x.kids && ((holdK x.kind || decide (x.kids = [])) && (decide (x.kind ≠ 0) || decide (elemsN l x.kids ≤ 1)))
def shadedN (l : List NodeM) (n : Int) (x : NodeM) : Bool :=
 (if x.kind = 4 then isN l x.host 1 && decide ((nd l x.host).under = n) && decide ((nd l x.host).doc = x.doc) else decide (x.host = -1)) &&
 (decide (x.under = -1) || (decide (x.kind = 1) && isN l x.under 4 && decide ((nd l x.under).host = n)))
def endsN (l : List NodeM) : Nat → Int → Bool
 | 0, _ => false
 | m + 1, n => if upN (nd l n) = -1 then true else endsN l m (upN (nd l n))
def namedN (x : NodeM) : Bool :=
 if x.kind = 1 then rightS x.name && decide (lowS x.name = x.name) && (decide (x.is = ⟨#[]⟩) || customS x.is) && decide (x.data = ⟨#[]⟩) && rightA x.attrs
 else if x.kind = 2 then decide (x.data.size ≤ 200) && decide (x.name = ⟨#[]⟩) && decide (x.is = ⟨#[]⟩) && decide (x.attrs = [])
 else if x.kind = 0 ∨ x.kind = 3 ∨ x.kind = 4 then decide (x.name = ⟨#[]⟩) && decide (x.is = ⟨#[]⟩) && decide (x.data = ⟨#[]⟩) && decide (x.attrs = [])
 else false
def nodeOK (l : List NodeM) (n : Int) (x : NodeM) : Bool := namedN x && (ownedN l n x && (hungN l n x && (bearsN l n x && shadedN l n x)))
def headOK (f : ForM) : Bool := decide (1 ≤ f.most) && decide (f.most ≤ 400) && decide (1 ≤ f.nodes.length) && decide ((f.nodes.length : Int) ≤ f.most) && decide ((nd f.nodes 0).kind = 0)
def allIx {α : Type} (p : Nat → α → Bool) : Nat → List α → Bool
 | _, [] => true
 | i, x :: r => p i x && allIx p (i + 1) r
def rightF (f : ForM) : Bool := headOK f && (allIx (fun k x => nodeOK f.nodes k x) 0 f.nodes && allIx (fun k _ => endsN f.nodes f.nodes.length k) 0 f.nodes)
def shortF (f : ForM) : Bool := decide (f.nodes.length ≤ 60) && f.nodes.all (fun x => decide (x.kids.length ≤ 60) && decide (x.attrs.length ≤ 60) && decide (x.name.size ≤ 300))
structure SmallN (l : List NodeM) : Prop where
 len : l.length ≤ 64
 kids : ∀ x ∈ l, x.kids.length ≤ 60
 attrs : ∀ x ∈ l, x.attrs.length ≤ 60
 name : ∀ x ∈ l, x.name.size ≤ 300
theorem shortF_small {f : ForM} (h : shortF f = true) : SmallN f.nodes := by
 unfold shortF at h
 simp only [Bool.and_eq_true, decide_eq_true_eq, List.all_eq_true] at h
 obtain ⟨h1, h2⟩ := h
 exact ⟨by omega, fun x hx => (h2 x hx).1.1, fun x hx => (h2 x hx).1.2, fun x hx => (h2 x hx).2⟩
theorem nd_get {l : List NodeM} {k : Nat} {x : NodeM} (h : l[k]? = some x) : nd l (k : Int) = x := by unfold nd; rw [Int.toNat_natCast, h]; rfl
theorem there_get {l : List NodeM} {k : Nat} {x : NodeM} (h : l[k]? = some x) : thereN l (k : Int) = true := by
 unfold thereN
 have := (List.getElem?_eq_some_iff.1 h).1
 simp; omega
theorem there_iff {l : List NodeM} {n : Int} : thereN l n = true ↔ ∃ (k : Nat) (x : NodeM), n = (k : Int) ∧ l[k]? = some x ∧ nd l n = x := by
 constructor
 ·intro h
  unfold thereN at h
  simp only [Bool.and_eq_true, decide_eq_true_eq] at h
  have hk : n.toNat < l.length := by omega
  have hn : n = (n.toNat : Int) := by omega
  refine ⟨n.toNat, l[n.toNat], hn, List.getElem?_eq_getElem hk, ?_⟩
  unfold nd; rw [List.getElem?_eq_getElem hk]; rfl
 ·rintro ⟨k, x, rfl, h, _⟩
  exact there_get h
theorem allIx_iff {α : Type} {p : Nat → α → Bool} : ∀ {i : Nat} {l : List α}, allIx p i l = true ↔ ∀ k x, l[k]? = some x → p (i + k) x = true
 | i, [] => by simp [allIx]
 | i, a :: r => by
   simp only [allIx, Bool.and_eq_true, allIx_iff (i := i + 1) (l := r)]
   constructor
   ·rintro ⟨h1, h2⟩ k x hx
    cases k with
    | zero => simp at hx; subst hx; exact h1
    | succ k => have := h2 k x (by simpa using hx); rw [show i + (k + 1) = i + 1 + k from by omega]; exact this
   ·intro h
    refine ⟨h 0 a rfl, fun k x hx => ?_⟩
    have := h (k + 1) x (by simpa using hx)
    rw [show i + 1 + k = i + (k + 1) from by omega]; exact this
@[reducible] def eNode (x : NodeM) : AV := .agg [eInt x.kind, eStr x.name, eStr x.is, eStr x.data, eAttrs x.attrs, eInt x.parent, eInts x.kids, eInt x.host, eInt x.under, eInt x.doc]
def oNode (x : NodeM) : AV := eNode x
@[reducible] def eNodes (l : List NodeM) : AV := .sl 10 (l.map oNode)
@[reducible] def eFor (f : ForM) : AV := .agg [eNodes f.nodes, eInt f.most]
theorem node_get {l : List NodeM} {k : Nat} {x : NodeM} (h : l[k]? = some x) : (l.map oNode)[k]? = some (eNode x) := by rw [List.getElem?_map, h]; rfl
end Go.Proofs.Heir
namespace Go.Proofs.Heir
open Go Go.Am Go.RowKit Go.Shelf
set_option maxRecDepth 100000
set_option maxHeartbeats 8000000

theorem setCell_heap (w : World) (a : Addr) (u : Value) (k : Nat) : (w.setCell a u).heap[k]? = if k = a.block then (w.heap[k]?).map (fun o => match (w.setCell a u).heap[k]? with | some o' => o' | none => o) else w.heap[k]? := by
  by_cases h : k = a.block
  · subst h
    rw [if_pos rfl]
    unfold World.setCell
    simp only [Array.getElem?_modify, if_true]
    cases w.heap[a.block]? <;> rfl
  · rw [if_neg h]
    unfold World.setCell
    simp only [Array.getElem?_modify]
    rw [if_neg (fun e => h e.symm)]
theorem setCell_ne (w : World) (a : Addr) (u : Value) {k : Nat} (h : k ≠ a.block) : (w.setCell a u).heap[k]? = w.heap[k]? := by rw [setCell_heap, if_neg h]
theorem setCell_same {w w' : World} (a : Addr) (u : Value) (h : w'.heap[a.block]? = w.heap[a.block]?) : (w'.setCell a u).heap[a.block]? = (w.setCell a u).heap[a.block]? := by
  unfold World.setCell
  simp only [Array.getElem?_modify, if_true, h]
theorem below_both {B : Nat} {w w' : World} (h : Below B w w') (a : Addr) (u : Value) (ha : a.block < B) : Below B (w.setCell a u) (w'.setCell a u) where
  os := h.os
  tape := h.tape
  output := h.output
  size := by have := h.size; simpa [World.setCell] using this
  block k hk := by
    by_cases e : k = a.block
    · subst e; exact setCell_same a u (h.block _ hk)
    · rw [setCell_ne _ _ _ e, setCell_ne _ _ _ e]; exact h.block k hk
theorem builder_setCell {T e : TypeId} {B b : Nat} {bs : List Value} {w : World} (h : Lib.IsBuilder T e B b bs w) (a : Addr) (ha : a.block < B) (u : Value) : Lib.IsBuilder T e B b bs (w.setCell a u) := by
  rcases h with ⟨hB, v, hb, hown, hne⟩ | ⟨hB, v, hb, hown, hne⟩
  · exact .inl ⟨hB, v, (setCell_ne w a u (by omega)).trans hb, ownsRow_setCell_below hown ha u, hne⟩
  · exact .inr ⟨hB, v, (setCell_ne w a u (by omega)).trans hb, ownsRow_setCell_below hown ha u, hne⟩
theorem quoted_calls (w : World) (b o : Nat) (body tail : List UInt8) (hb : ∀ c ∈ body, c ≠ 34 ∧ c ≠ 92) (hsz : body.length + tail.length ≤ 100000) (Q : World → Prop)
    (hm : Calls Tryz.prog 219 #[.pointer (some ⟨b, o, none⟩), .string ⟨#[34]⟩] w fun e w1 => e = .returned (.tuple #[]) ∧ Q w1)
    (hQ : ∀ w1, Q w1 → w1.cell? ⟨b, o + 3, none⟩ = some (.string ⟨(body ++ 34 :: tail).toArray⟩) ∧ w1.frozen? ⟨b, o + 3, none⟩ = false) :
    Calls Tryz.prog 205 #[.pointer (some ⟨b, o, none⟩)] w fun e w' => e = .returned (.string ⟨body.toArray⟩) ∧ ∃ w1, Q w1 ∧ Below w1.heap.size (w1.setCell ⟨b, o + 3, none⟩ (.string ⟨tail.toArray⟩)) w' := by
  go_enter Tryz.func205, Tryz.ntmps205
  go_wp2_with (go_at_call 219; refine hm.mono ?_; rintro e w1 ⟨rfl, hq⟩)
  obtain ⟨c1, f1⟩ := hQ w1 hq
  have hlt := World.block_lt_of_cell? _ _ c1
  have hsl : (ByteArray.mk (body ++ 34 :: tail).toArray).size = body.length + (tail.length + 1) := by simp [ByteArray.size]
  go_loopw [4] (fun i wr => ∃ k : Nat, k ≤ body.length ∧ i = .int .i64 k ∧ Lib.IsBuilder 259 5 w1.heap.size w1.heap.size (Lib.byteCells (body.take k)) wr ∧ Below w1.heap.size w1 wr ∧ w1.heap.size ≤ wr.heap.size) (fun i _ => body.length + 1 - (intOf i).toNat)
  case atStart => exact ⟨0, Nat.zero_le _, rfl, Lib.fresh_isBuilder 259 5 w1, (Below.refl _ w1).alloc (Nat.le_refl _) _, by simp⟩
  case round =>
    obtain ⟨k, hk, rfl, hbd, hbl, hsz2⟩ := hrel
    have c2 : wr.cell? ⟨b, o + 3, none⟩ = some (.string ⟨(body ++ 34 :: tail).toArray⟩) := (hbl.cell (p := ⟨b, o + 3, none⟩) hlt).trans c1
    have f2 : wr.frozen? ⟨b, o + 3, none⟩ = false := (hbl.frozen (p := ⟨b, o + 3, none⟩) hlt).trans f1
    have hklt : k < body.length + (tail.length + 1) := by omega
    by_cases hkb : k < body.length
    · have hkS : k < (ByteArray.mk (body ++ 34 :: tail).toArray).size := by rw [hsl]; omega
      have hgk : (ByteArray.mk (body ++ 34 :: tail).toArray)[k]'hkS = body[k] := by
        show (body ++ 34 :: tail).toArray[k] = _
        rw [List.getElem_toArray, List.getElem_append_left hkb]
      obtain ⟨m, hm⟩ : ∃ m : UInt8, body[k] = m := ⟨_, rfl⟩
      have hmm := hb m (by rw [← hm]; exact List.getElem_mem hkb)
      have q1 : ((m.toNat : Int) == 34) = false := by
        rw [beq_eq_false_iff_ne]; intro h; exact hmm.1 (UInt8.toNat_inj.1 (by show m.toNat = 34; omega))
      have q2 : ((m.toNat : Int) == 92) = false := by
        rw [beq_eq_false_iff_ne]; intro h; exact hmm.2 (UInt8.toNat_inj.1 (by show m.toNat = 92; omega))
      have q3 : ¬ (m.toNat : Int) = 34 := by simpa using q1
      have q4 : ¬ (m.toNat : Int) = 92 := by simpa using q2
      rw [hm] at hgk
      have hwb := Tryz.Builder_WriteByte w1.heap.size w1.heap.size (Lib.byteCells (body.take k)) m.toNat wr hbd (by rw [show (Lib.byteCells (body.take k)).length = (body.take k).length from List.length_map .., List.length_take]; omega) hsz2
      have htk : Lib.byteCells (body.take k) ++ [.int .u8 (m.toNat : Int)] = Lib.byteCells (body.take (k + 1)) := by
        rw [List.take_add_one, List.getElem?_eq_getElem hkb, hm]
        simp [Lib.byteCells]
      rw [htk] at hwb
      clear hb hmm hsl
      go_wp2_with (go_at_call 221; refine hwb.mono ?_; rintro e w2 ⟨rfl, h2, h3⟩)
      exact ⟨⟨k + 1, hkb, by congr 1, .inr h2, hbl.trans h3, by have := h3.size; omega⟩, by simp [intOf]; omega⟩
    · obtain rfl : k = body.length := by omega
      have hkS : body.length < (ByteArray.mk (body ++ 34 :: tail).toArray).size := by rw [hsl]; omega
      have hgk : (ByteArray.mk (body ++ 34 :: tail).toArray)[body.length]'hkS = 34 := by
        show (body ++ 34 :: tail).toArray[body.length] = _
        rw [List.getElem_toArray, List.getElem_append_right (Nat.le_refl _)]
        simp
      have hex : (ByteArray.mk (body ++ 34 :: tail).toArray).extract (body.length + 1) (body.length + (tail.length + 1)) = ⟨tail.toArray⟩ := by
        rw [cut_strOf]
        show strOf (((body ++ 34 :: tail).take (body.length + (tail.length + 1))).drop (body.length + 1)) = strOf tail
        rw [List.take_of_length_le (by simp), show body ++ 34 :: tail = (body ++ [34]) ++ tail by simp, List.drop_left' (by simp)]
      rw [List.take_length] at hbd
      have hst := Tryz.Builder_String_any w1.heap.size w1.heap.size body (wr.setCell ⟨b, o + 3, none⟩ (.string ⟨tail.toArray⟩)) (builder_setCell hbd ⟨b, o + 3, none⟩ hlt _) (by simpa [World.setCell] using hsz2)
      have h34 : ((34 : UInt8).toNat : Int) = 34 := rfl
      clear hb
      go_wp2_with (go_at_call 220; refine hst.mono ?_; rintro e w2 ⟨rfl, h3⟩)
      go_ret
      exact ⟨rfl, w1, hq, (below_both hbl _ _ hlt).trans h3⟩
theorem setCell_row {w : World} {b j : Nat} {C : Array Value} {e : TypeId} {fz : Nat × Nat} (hC : w.heap[b]? = some (.cells C e fz)) (u : Value) : w.setCell ⟨b, j, none⟩ u = w.setRow b (C.setIfInBounds j u) := by
  unfold World.setCell World.setRow
  congr 1
  apply Array.ext_getElem?
  intro k
  simp only [Array.getElem?_modify]
  by_cases e : b = k
  · subst e; simp [hC]
  · simp [e]
theorem f205_ok (x0 x1 x2 : AV) (s0 : ByteArray) (body tail : List UInt8) (rest : List MS) (hb : ∀ c ∈ body, c ≠ 34 ∧ c ≠ 92) (hsz : body.length + tail.length ≤ 100000)
    (h126 : FnOK Tryz.prog 219 (.live 5 [.agg [x0, x1, x2, .lit (.string s0), .lit (.bool false)]] false :: rest) [.ptr 0 0 0, .lit (.string ⟨#[34]⟩)] (.live 5 [.agg [x0, x1, x2, .lit (.string ⟨(body ++ 34 :: tail).toArray⟩), .lit (.bool false)]] false :: rest) (.tup [])) :
    FnOK Tryz.prog 205 (.live 5 [.agg [x0, x1, x2, .lit (.string s0), .lit (.bool false)]] false :: rest) [.ptr 0 0 0] (.live 5 [.agg [x0, x1, x2, .lit (.string ⟨tail.toArray⟩), .lit (.bool false)]] false :: rest) (.lit (.string ⟨body.toArray⟩)) := by
  intro w W0 L vs hL hs hr
  obtain ⟨v, us, rfl, hv, hus⟩ := RepL.uncons hr
  obtain rfl := RepL.unnil hus
  obtain ⟨B, hB, hmp, rfl⟩ : ∃ B, L 0 = some B ∧ B.mp = false ∧ v = .pointer (some ⟨B.b, B.o + (0 * B.wd + 0), none⟩) := by cases hv with | ptr h1 h2 => exact ⟨_, h1, h2, rfl⟩
  rw [Nat.zero_mul, Nat.zero_add, Nat.add_zero] at hv
  rw [Nat.zero_mul, Nat.zero_add, Nat.add_zero]
  have look : ∀ (s1 : ByteArray) (μ' : Mu) (w1 : World), Sim Tryz.prog 0 w W0 L μ' (bare (.live 5 [.agg [x0, x1, x2, .lit (.string s1), .lit (.bool false)]] false :: rest)) noAct w1 → μ' 0 = some B ∧ ObjAt (Wr W0 μ' (objsOf (.live 5 [.agg [x0, x1, x2, .lit (.string s1), .lit (.bool false)]] false :: rest))) μ' w1 B 5 [.agg [x0, x1, x2, .lit (.string s1), .lit (.bool false)]] false := by
    intro s1 μ' w1 hs1
    obtain ⟨B', hB', ho⟩ := hs1.objs 0 5 _ false rfl
    have h := hs1.lentμ 0 B (by decide) hB
    rw [h] at hB'
    cases hB'
    exact ⟨h, ho⟩
  refine (quoted_calls w B.b B.o body tail hb hsz (fun w1 => ∃ μ', Sim Tryz.prog 0 w W0 L μ' (bare (.live 5 [.agg [x0, x1, x2, .lit (.string ⟨(body ++ 34 :: tail).toArray⟩), .lit (.bool false)]] false :: rest)) noAct w1) ?_ ?_).mono ?_
  · refine (h126 w W0 L [.pointer (some ⟨B.b, B.o, none⟩), .string ⟨#[34]⟩] hL hs (.cons hv (.cons .lit .nil))).mono ?_
    rintro e w1 ⟨u, μ', rfl, hs1, hu⟩
    cases hu with
    | tup h1 h2 =>
      rename_i vs
      obtain rfl : vs = [] := List.eq_nil_of_length_eq_zero h1
      exact ⟨rfl, μ', hs1⟩
  · rintro w1 ⟨μ', hs1⟩
    obtain ⟨h1, ho⟩ := look _ μ' w1 hs1
    obtain ⟨u, hu1, hu2⟩ := ho.cell hmp 3 (.lit (.string ⟨(body ++ 34 :: tail).toArray⟩)) rfl
    have hvirt := ho.real (i := 0) rfl
    obtain ⟨C, e, fz, c1, c2, _⟩ := ho.blk hvirt hmp
    rw [c2 rfl] at c1
    refine ⟨?_, Lib.frozen_of_heap c1 _⟩
    rw [hu1]; cases hu2; rfl
  · rintro e w' ⟨rfl, w1, ⟨μ', hs1⟩, hbel⟩
    obtain ⟨h1, ho⟩ := look _ μ' w1 hs1
    have hvirt := ho.real (i := 0) rfl
    obtain ⟨C, e, fz, c1, c2, c3⟩ := ho.blk hvirt hmp
    rw [c2 rfl] at c1
    have hset := hs1.setObj (t := 0) (rows' := [.agg [x0, x1, x2, .lit (.string ⟨tail.toArray⟩), .lit (.bool false)]]) (C' := C.setIfInBounds (B.o + 3) (.string ⟨tail.toArray⟩)) rfl h1 hvirt hmp c1 (by simp) rfl (Wide.of_mem fun r hr => by rw [List.mem_singleton] at hr; subst hr; rfl) (fun q c hc => ?_)
    · rw [← setCell_row c1] at hset
      refine ⟨_, μ', rfl, ?_, .lit⟩
      have hm := hset.more (w' := w') ⟨hbel.os, hbel.tape, hbel.output, hbel.size, fun k hk => hbel.block k (by simpa [World.setCell] using hk)⟩
      have e : (⟨(bare (.live 5 [.agg [x0, x1, x2, .lit (.string ⟨(body ++ 34 :: tail).toArray⟩), .lit (.bool false)]] false :: rest)).slots, updM (bare (.live 5 [.agg [x0, x1, x2, .lit (.string ⟨(body ++ 34 :: tail).toArray⟩), .lit (.bool false)]] false :: rest)).mem [(0, .live 5 [.agg [x0, x1, x2, .lit (.string ⟨tail.toArray⟩), .lit (.bool false)]] false)]⟩ : AState) = bare (.live 5 [.agg [x0, x1, x2, .lit (.string ⟨tail.toArray⟩), .lit (.bool false)]] false :: rest) := by
        unfold bare
        congr 1
        funext t
        cases t with
        | zero => rfl
        | succ t => rfl
      rw [e] at hm
      exact hm
    · have hq5 : q < 5 := by
        have := (List.getElem?_eq_some_iff.1 hc).1
        simpa [flat, cells] using this
      by_cases h3 : q = 3
      · subst h3
        obtain rfl : AV.lit (.string ⟨tail.toArray⟩) = c := Option.some.inj hc
        refine ⟨_, ?_, .lit⟩
        rw [Array.getElem?_setIfInBounds_self_of_lt]
        have : [AV.agg [x0, x1, x2, .lit (.string ⟨(body ++ 34 :: tail).toArray⟩), .lit (.bool false)]].length * 5 = 5 := rfl
        omega
      · have hc' : (flat [AV.agg [x0, x1, x2, .lit (.string ⟨(body ++ 34 :: tail).toArray⟩), .lit (.bool false)]])[q]? = some c := by
          rw [← hc]
          match q, hq5, h3 with
          | 0, _, _ => rfl
          | 1, _, _ => rfl
          | 2, _, _ => rfl
          | 4, _, _ => rfl
        obtain ⟨u, hu1, hu2⟩ := ho.cell hmp q c hc'
        rw [Lib.cell_of_heap c1] at hu1
        exact ⟨u, by rw [Array.getElem?_setIfInBounds_ne (by omega)]; exact hu1, hu2⟩
end Go.Proofs.Heir
namespace Go.Proofs.Heir
open Go Go.Am Go.RowKit Go.Lib
set_option maxRecDepth 100000
set_option maxHeartbeats 8000000
theorem f129_ok (f : ForM) (n : Int) : FnOK Tryz.prog 129 [] [eFor f, eInt n] [] (eBool (thereN f.nodes n)) := by
 obtain ⟨l, m⟩ := f
 have hlm : (l.map oNode).length = l.length := List.length_map ..
 refine FnOK.startC (rvs := [.tmp 4]) G G_good Tryz.func129 rfl Tryz.ntmps129 rfl rfl ?_; with_reducible refine wD ?_
 by_cases h : (0 : Int) ≤ n
 ·(have fct := h; (repeat' (first
  | refine gF ?_ | refine aE ?_ ?_
  | apply trivial)); all_goals clear fct)
  all_goals simp [thereN, h]
 ·(have fct := (eq_false h); (repeat' (first
  | refine gF ?_ | refine aE ?_ ?_
  | apply trivial)); all_goals clear fct)
  all_goals simp [thereN, h]
theorem f175_ok (k : Int) : FnOK Tryz.prog 175 [] [eInt k] [] (eBool (holdK k)) := by
 refine FnOK.startC (rvs := [.tmp 2]) G G_good Tryz.func175 rfl Tryz.ntmps175 rfl rfl ?_; with_reducible refine wD ?_
 by_cases e0 : k = 0
 ·(have fct := e0; (repeat' (first
  | refine gF ?_ | refine aE ?_ ?_
  | apply trivial)); all_goals clear fct)
  all_goals simp [holdK, e0]
 ·by_cases e1 : k = 1
  ·(have fct := e1; (repeat' (first
  | refine gF ?_ | refine aE ?_ ?_
  | apply trivial)); all_goals clear fct)
   all_goals simp [holdK, e1]
  ·by_cases e3 : k = 3
   ·(have fct := e3; (repeat' (first
  | refine gF ?_ | refine aE ?_ ?_
  | apply trivial)); all_goals clear fct)
    all_goals simp [holdK, e3]
   ·by_cases e4 : k = 4
    ·(have fct := e4; (repeat' (first
  | refine gF ?_ | refine aE ?_ ?_
  | apply trivial)); all_goals clear fct)
     all_goals simp [holdK, e4]
    ·(have fct := And.intro e0 (And.intro e1 (And.intro e3 (e4))); (repeat' (first
  | refine gF ?_ | refine aE ?_ ?_
  | apply trivial)); all_goals clear fct)
     all_goals simp [holdK, e0, e1, e3, e4]
theorem f136_ok (f : ForM) (n k : Int) : FnOK Tryz.prog 136 [] [eFor f, eInt n, eInt k] [] (eBool (isN f.nodes n k)) := by
 have h49 := f129_ok f n
 obtain ⟨l, m⟩ := f
 refine FnOK.startC (rvs := [.tmp 6]) G G_good Tryz.func136 rfl Tryz.ntmps136 rfl rfl ?_; with_reducible refine wD ?_
 refine cL h49 c129 ?_; with_reducible refine wK ?_
 cases ht : thereN l n with
 | false =>
   (have fct := ht; (repeat' (first
  | refine gF ?_ | refine aE ?_ ?_
  | apply trivial)); all_goals clear fct)
   all_goals simp [isN, ht]
 | true =>
   obtain ⟨i, x, rfl, hx, hnd⟩ := there_iff.1 ht
   obtain ⟨a1, a2, a3, a4, a5, a6, a7, a8, a9, a10⟩ := x
   (have fct := ht; (repeat' (first
  | refine gF ?_ | refine aE ?_ ?_
  | ((refine IdxK.mk i (eNode _) rfl (node_get hx) ?_) <;> with_reducible refine wK ?_)
  | apply trivial)); all_goals clear fct)
   all_goals simp [isN, ht, hnd]
theorem f73_ok (l : List Int) (hl : l.length ≤ 100000) (n : Int) : FnOK Tryz.prog 73 [] [eInts l, eInt n] [] (eInt (idxI (fun x => decide (x = n)) l)) := by
 have hlm : (l.map oInt).length = l.length := List.length_map ..
 refine FnOK.startC (rvs := [.tmp 4]) G G_good Tryz.func73 rfl Tryz.ntmps73 rfl rfl ?_; with_reducible refine wD ?_
 refine LoopK.use G G_good (fun (k : Nat) => [(0, eInts l), (1, eInt n), (7, eInt l.length), (8, eInt k)]) (fun _ => []) (fun k => k ≤ l.length ∧ ∀ j x, j < k → l[j]? = some x → decide (x = n) = false) (fun k => l.length - k) 0 ⟨Nat.zero_le _, fun j x h => by omega⟩
  ⟨⟨rfl, rfl⟩, ⟨rfl, rfl, by show (l.length : Int) = ((l.map oInt).length : Int); rw [hlm], rfl, trivial⟩, trivial⟩ ?_
 rintro k ⟨hk, hno⟩
 with_reducible refine wK ?_
 refine IfK.mk (fun h1 => ?_) (fun h1 => ?_) <;> (try simp only [castN] at h1) <;> with_reducible refine wK ?_
 ·have hk' : k < l.length := by simp only [decide_eq_true_eq] at h1; omega
  obtain ⟨a, ha⟩ : ∃ a, l[k]? = some a := ⟨_, List.getElem?_eq_getElem hk'⟩
  refine IdxK.mk k (eInt a) rfl (int_get ha) ?_; with_reducible refine wK ?_
  refine IfK.mk (fun h2 => ?_) (fun h2 => ?_) <;> (try simp only [castN] at h2) <;> with_reducible refine wK ?_
  ·(refine eK ?_ ?_ <;> with_reducible repeat' (first | exact trivial | (show _ ∧ _; refine aK ?_ ?_)))
   refine idxI_hit (p := fun x => decide (x = n)) ha ?_ hno
   simp only [decide_eq_true_eq] at h2 ⊢; exact h2.symm
  ·refine nK ?_; with_reducible refine wK ?_
   refine NextK.mk (k + 1) ⟨by omega, fun j x hj hx => ?_⟩ (by omega) ⟨⟨rfl, rfl⟩, ⟨rfl, rfl, rfl, by show ((k + 1 : Nat) : Int) = (k : Int) + 1; omega, trivial⟩, trivial⟩
   rcases Nat.lt_or_ge j k with h3 | h3
   ·exact hno j x h3 hx
   ·have : j = k := by omega
    subst this
    rw [ha] at hx; cases hx
    simp only [decide_eq_false_iff_not] at h2 ⊢; exact fun e => h2 e.symm
 ·(refine eK ?_ ?_ <;> with_reducible repeat' (first | exact trivial | (show _ ∧ _; refine aK ?_ ?_)))
  exact idxI_none fun j x hx => hno j x (by have := (List.getElem?_eq_some_iff.1 hx).1; simp only [decide_eq_false_iff_not] at h1; omega) hx
theorem idxI_has {l : List Int} {n : Int} : decide (0 ≤ idxI (fun x => decide (x = n)) l) = hasI l n := by
 rw [Bool.eq_iff_iff, decide_eq_true_eq]
 unfold hasI
 rw [decide_eq_true_eq]
 unfold idxI
 cases h : l.findIdx? (fun x => decide (x = n)) with
 | none =>
   rw [List.findIdx?_eq_none_iff] at h
   simp only
   refine ⟨fun h' => by omega, fun hs => ?_⟩
   have := h n hs
   simp at this
 | some k =>
   rw [List.findIdx?_eq_some_iff_getElem] at h
   obtain ⟨hk, h2, _⟩ := h
   simp only
   exact ⟨fun _ => by rw [← of_decide_eq_true h2]; exact List.getElem_mem hk, fun _ => by omega⟩
theorem f176_ok (l : List Int) (hl : l.length ≤ 100000) (n : Int) : FnOK Tryz.prog 176 [] [eInts l, eInt n] [] (eBool (hasI l n)) := by
 rw [← idxI_has]
 refine FnOK.startC (rvs := [.tmp 4]) G G_good Tryz.func176 rfl Tryz.ntmps176 rfl rfl ?_; with_reducible refine wD ?_
 refine cL (f73_ok l hl n) c73 ?_; with_reducible refine wK ?_
 (refine eK ?_ ?_ <;> with_reducible repeat' (first | exact trivial | (show _ ∧ _; refine aK ?_ ?_)))
theorem f177_ok (f : ForM) (k : Nat) (x : NodeM) (hx : f.nodes[k]? = some x) : FnOK Tryz.prog 177 [] [eFor f, eInt k] [] (eInt (upN x)) := by
 obtain ⟨l, m⟩ := f
 obtain ⟨a1, a2, a3, a4, a5, a6, a7, a8, a9, a10⟩ := x
 refine FnOK.startC (rvs := [.tmp 4]) G G_good Tryz.func177 rfl Tryz.ntmps177 rfl rfl ?_; with_reducible refine wD ?_
 refine IdxK.mk k (eNode _) rfl (node_get hx) ?_; with_reducible refine wK ?_
 unfold upN
 by_cases e : a6 = -1
 ·(have fct := e; (repeat' (first
  | refine gF ?_ | refine aE ?_ ?_
  | ((refine IdxK.mk k (eNode _) rfl (node_get hx) ?_) <;> with_reducible refine wK ?_)
  | apply trivial)); all_goals clear fct)
  all_goals simp [e]
 ·(have fct := (eq_false e); (repeat' (first
  | refine gF ?_ | refine aE ?_ ?_
  | ((refine IdxK.mk k (eNode _) rfl (node_get hx) ?_) <;> with_reducible refine wK ?_)
  | apply trivial)); all_goals clear fct)
  all_goals simp [e]
theorem f116_ok (f : ForM) (k : Nat) (x : NodeM) (hx : f.nodes[k]? = some x) : FnOK Tryz.prog 116 [] [eFor f, eInt k] [] (eBool (ownedN f.nodes k x)) := by
 have h55 := f136_ok f x.doc 0
 obtain ⟨l, m⟩ := f
 obtain ⟨a1, a2, a3, a4, a5, a6, a7, a8, a9, a10⟩ := x
 unfold ownedN
 simp only at h55 hx ⊢
 refine FnOK.startC (rvs := [.tmp 4]) G G_good Tryz.func116 rfl Tryz.ntmps116 rfl rfl ?_; with_reducible refine wD ?_
 refine IdxK.mk k (eNode _) rfl (node_get hx) ?_; with_reducible refine wK ?_
 refine cL h55 c136 ?_; with_reducible refine wK ?_
 cases hi : isN l a10 0 with
 | false =>
   (have fct := hi; (repeat' (first
  | refine gF ?_ | refine aE ?_ ?_
  | apply trivial)); all_goals clear fct)
   all_goals simp [hi]
 | true =>
   by_cases e : a1 = 0
   ·(have fct := And.intro hi (e); (repeat' (first
  | refine gF ?_ | refine aE ?_ ?_
  | apply trivial)); all_goals clear fct)
    all_goals simp [hi, e]
   ·(have fct := And.intro hi ((eq_false e)); (repeat' (first
  | refine gF ?_ | refine aE ?_ ?_
  | apply trivial)); all_goals clear fct)
    all_goals simp [hi, e]
theorem f117_ok (f : ForM) (hs : SmallN f.nodes) (k : Nat) (x : NodeM) (hx : f.nodes[k]? = some x) : FnOK Tryz.prog 117 [] [eFor f, eInt k] [] (eBool (hungN f.nodes k x)) := by
 have h49 := f129_ok f x.parent
 have h56 := f175_ok (nd f.nodes x.parent).kind
 have h57 : thereN f.nodes x.parent = true → FnOK Tryz.prog 176 [] [eInts (nd f.nodes x.parent).kids, eInt k] [] (eBool (hasI (nd f.nodes x.parent).kids k)) := fun ht => by
  obtain ⟨i, y, _, hy, hnd⟩ := there_iff.1 ht
  rw [hnd]
  exact f176_ok y.kids (by have := hs.kids y (List.mem_of_getElem? hy); omega) k
 obtain ⟨l, m⟩ := f
 obtain ⟨a1, a2, a3, a4, a5, a6, a7, a8, a9, a10⟩ := x
 unfold hungN
 simp only at h49 h56 h57 hx ⊢
 refine FnOK.startC (rvs := [.tmp 4]) G G_good Tryz.func117 rfl Tryz.ntmps117 rfl rfl ?_; with_reducible refine wD ?_
 refine IdxK.mk k (eNode _) rfl (node_get hx) ?_; with_reducible refine wK ?_
 by_cases e6 : a6 = -1
 ·(have fct := e6; (repeat' (first
  | refine gF ?_ | refine aE ?_ ?_
  | apply trivial)); all_goals clear fct)
  all_goals simp [e6]
 ·refine IfK.no (by simp [e6]) ?_; with_reducible refine wK ?_
  have rest : ∀ b : Bool, (decide (a1 = 1) || decide (a1 = 2)) = b → (b = false ∨ b = true) := fun b _ => by cases b <;> simp
  cases ht : thereN l a6 with
  | false =>
    by_cases e1 : a1 = 1
    ·(have fct := And.intro e1 (And.intro ht ((eq_false e6))); (repeat' (first
  | refine gF ?_ | refine aE ?_ ?_
  | (((with_reducible refine kQ 129 ?_); refine cL h49 c129 ?_) <;> with_reducible refine wK ?_)
  | apply trivial)); all_goals clear fct)
     all_goals simp [e1, ht, e6]
    ·by_cases e2 : a1 = 2
     ·(have fct := And.intro e2 (And.intro ht ((eq_false e6))); (repeat' (first
  | refine gF ?_ | refine aE ?_ ?_
  | (((with_reducible refine kQ 129 ?_); refine cL h49 c129 ?_) <;> with_reducible refine wK ?_)
  | apply trivial)); all_goals clear fct)
      all_goals simp [e2, ht, e6]
     ·(have fct := And.intro (eq_false e1) (And.intro (eq_false e2) (And.intro ht ((eq_false e6)))); (repeat' (first
  | refine gF ?_ | refine aE ?_ ?_
  | apply trivial)); all_goals clear fct)
      all_goals simp [e1, e2, ht, e6]
  | true =>
    obtain ⟨i, y, rfl, hy, hnd⟩ := there_iff.1 ht
    have h57' := h57 ht
    rw [hnd] at h56 h57' ⊢
    obtain ⟨b1, b2, b3, b4, b5, b6, b7, b8, b9, b10⟩ := y
    simp only at h56 h57'
    cases hh : holdK b1 with
    | false =>
      by_cases e1 : a1 = 1
      ·(have fct := And.intro e1 (And.intro ht (And.intro hh ((eq_false e6)))); (repeat' (first
  | refine gF ?_ | refine aE ?_ ?_
  | ((first
   | ((with_reducible refine kQ 129 ?_); refine cL h49 c129 ?_)
   | ((with_reducible refine kQ 175 ?_); refine cL h56 c175 ?_)
   | (refine IdxK.mk i (eNode _) rfl (node_get hy) ?_)) <;> with_reducible refine wK ?_)
  | apply trivial)); all_goals clear fct)
       all_goals simp [e1, ht, e6, hh]
      ·by_cases e2 : a1 = 2
       ·(have fct := And.intro e2 (And.intro ht (And.intro hh ((eq_false e6)))); (repeat' (first
  | refine gF ?_ | refine aE ?_ ?_
  | ((first
   | ((with_reducible refine kQ 129 ?_); refine cL h49 c129 ?_)
   | ((with_reducible refine kQ 175 ?_); refine cL h56 c175 ?_)
   | (refine IdxK.mk i (eNode _) rfl (node_get hy) ?_)) <;> with_reducible refine wK ?_)
  | apply trivial)); all_goals clear fct)
        all_goals simp [e2, ht, e6, hh]
       ·(have fct := And.intro (eq_false e1) (And.intro (eq_false e2) (And.intro ht (And.intro hh ((eq_false e6))))); (repeat' (first
  | refine gF ?_ | refine aE ?_ ?_
  | apply trivial)); all_goals clear fct)
        all_goals simp [e1, e2, ht, e6]
    | true =>
      by_cases e1 : a1 = 1
      ·(have fct := And.intro e1 (And.intro ht (And.intro hh ((eq_false e6)))); (repeat' (first
  | refine gF ?_ | refine aE ?_ ?_
  | ((first
   | ((with_reducible refine kQ 129 ?_); refine cL h49 c129 ?_)
   | ((with_reducible refine kQ 175 ?_); refine cL h56 c175 ?_)
   | ((with_reducible refine kQ 176 ?_); refine cL h57' c176 ?_)
   | (refine IdxK.mk i (eNode _) rfl (node_get hy) ?_)) <;> with_reducible refine wK ?_)
  | apply trivial)); all_goals clear fct)
       all_goals simp [e1, ht, e6, hh]
      ·by_cases e2 : a1 = 2
       ·(have fct := And.intro e2 (And.intro ht (And.intro hh ((eq_false e6)))); (repeat' (first
  | refine gF ?_ | refine aE ?_ ?_
  | ((first
   | ((with_reducible refine kQ 129 ?_); refine cL h49 c129 ?_)
   | ((with_reducible refine kQ 175 ?_); refine cL h56 c175 ?_)
   | ((with_reducible refine kQ 176 ?_); refine cL h57' c176 ?_)
   | (refine IdxK.mk i (eNode _) rfl (node_get hy) ?_)) <;> with_reducible refine wK ?_)
  | apply trivial)); all_goals clear fct)
        all_goals simp [e2, ht, e6, hh]
       ·(have fct := And.intro (eq_false e1) (And.intro (eq_false e2) (And.intro ht (And.intro hh ((eq_false e6))))); (repeat' (first
  | refine gF ?_ | refine aE ?_ ?_
  | apply trivial)); all_goals clear fct)
        all_goals simp [e1, e2, ht, e6]
theorem endsN_succ (l : List NodeM) (m : Nat) (n : Int) : endsN l (m + 1) n = if upN (nd l n) = -1 then true else endsN l m (upN (nd l n)) := rfl
theorem f120_ok (f : ForM) (hl : f.nodes.length ≤ 100000) (hup : ∀ (k : Nat) (x : NodeM), f.nodes[k]? = some x → upN x = -1 ∨ thereN f.nodes (upN x) = true) (k : Nat) (hk : k < f.nodes.length) : FnOK Tryz.prog 120 [] [eFor f, eInt k] [] (eBool (endsN f.nodes f.nodes.length k)) := by
 have h58 := f177_ok f
 obtain ⟨l, m⟩ := f
 simp only at h58 hup hk hl ⊢
 have hlm : (l.map oNode).length = l.length := List.length_map ..
 refine FnOK.startC (rvs := [.tmp 4]) G G_good Tryz.func120 rfl Tryz.ntmps120 rfl rfl ?_; with_reducible refine wD ?_
 refine LoopK.use G G_good (fun (i : Nat × Nat) => [(1, eInt i.2), (2, .ptr 20 0 0), (8, eInt l.length), (9, eInt i.1)]) (fun _ => [(20, .live 2 [eFor ⟨l, m⟩] false)]) (fun i => i.1 ≤ l.length ∧ i.2 < l.length ∧ endsN l l.length k = endsN l (l.length - i.1) i.2) (fun i => l.length - i.1) (0, k) ⟨Nat.zero_le _, hk, rfl⟩
  ⟨⟨rfl, rfl⟩, ⟨rfl, ⟨rfl, rfl⟩, by show (l.length : Int) = ((l.map oNode).length : Int); rw [hlm], rfl, trivial⟩, ⟨⟨rfl, rfl, trivial⟩, trivial⟩, trivial⟩ ?_
 rintro ⟨i, j⟩ ⟨hi, hj, he⟩
 simp only at hi hj he
 with_reducible refine wK ?_
 refine IfK.mk (fun h1 => ?_) (fun h1 => ?_) <;> (try simp only [castN] at h1) <;> with_reducible refine wK ?_
 ·have hi' : i < l.length := by simp only [decide_eq_true_eq] at h1; omega
  obtain ⟨x, hx⟩ : ∃ x, l[j]? = some x := ⟨_, List.getElem?_eq_getElem hj⟩
  have h58' := h58 j x hx
  refine cL h58' c177 ?_; with_reducible refine wK ?_
  rw [show l.length - i = (l.length - (i + 1)) + 1 from by omega] at he
  rw [endsN_succ, nd_get hx] at he
  by_cases e : upN x = -1
  ·rw [if_pos e] at he
   (have fct := e; (repeat' (first
  | refine gF ?_ | refine aE ?_ ?_
  | apply trivial)); all_goals clear fct)
   all_goals rw [he]
  ·rw [if_neg e] at he
   rcases hup j x hx with h | h
   ·exact absurd h e
   obtain ⟨j', y, hj1, hj2, _⟩ := there_iff.1 h
   rw [hj1] at he
   have hlt := (List.getElem?_eq_some_iff.1 hj2).1
   refine IfK.no (decide_eq_false e) ?_; with_reducible refine wK ?_
   refine nK ?_; with_reducible refine wK ?_
   refine NextK.mk (i + 1, j') ⟨by show i + 1 ≤ l.length; omega, hlt, he⟩ (by show l.length - (i + 1) < l.length - i; omega) ⟨⟨rfl, rfl⟩, ⟨hj1.symm, ⟨rfl, rfl⟩, rfl, by show ((i + 1 : Nat) : Int) = (i : Int) + 1; omega, trivial⟩, ⟨⟨rfl, rfl, trivial⟩, trivial⟩, trivial⟩
 ·(refine eK ?_ ?_ <;> with_reducible repeat' (first | exact trivial | (show _ ∧ _; refine aK ?_ ?_)))
  have : i = l.length := by simp only [decide_eq_false_iff_not] at h1; omega
  rw [he, this, Nat.sub_self]; rfl
theorem is_there {l : List NodeM} {n k : Int} (h : isN l n k = true) : ∃ (i : Nat) (x : NodeM), n = (i : Int) ∧ l[i]? = some x ∧ nd l n = x := by
 unfold isN at h
 simp only [Bool.and_eq_true] at h
 exact there_iff.1 h.1
theorem f119_ok (f : ForM) (k : Nat) (x : NodeM) (hx : f.nodes[k]? = some x) : FnOK Tryz.prog 119 [] [eFor f, eInt k] [] (eBool (shadedN f.nodes k x)) := by
 have h1 := f136_ok f x.host 1
 have h4 := f136_ok f x.under 4
 obtain ⟨l, m⟩ := f
 obtain ⟨a1, a2, a3, a4, a5, a6, a7, a8, a9, a10⟩ := x
 unfold shadedN
 simp only at h1 h4 hx ⊢
 refine FnOK.startC (rvs := [.tmp 4]) G G_good Tryz.func119 rfl Tryz.ntmps119 rfl rfl ?_; with_reducible refine wD ?_
 refine IdxK.mk k (eNode _) rfl (node_get hx) ?_; with_reducible refine wK ?_
 by_cases e4 : a1 = 4
 ·have e1 : ¬ a1 = 1 := by omega
  refine IfK.yes (by simp [e4]) ?_; with_reducible refine wK ?_
  rw [if_pos e4]
  cases hi : isN l a8 1 with
  | false =>
    rw [hi] at h1
    by_cases e9 : a9 = -1
    ·(have fct := And.intro e4 (e9); (repeat' (first
  | refine gF ?_ | refine aE ?_ ?_
  | (((with_reducible refine kQ 136 ?_); refine cL h1 c136 ?_) <;> with_reducible refine wK ?_)
  | apply trivial)); all_goals clear fct)
     all_goals simp [e9]
    ·(have fct := And.intro e4 (And.intro (eq_false e9) ((eq_false e1))); (repeat' (first
  | refine gF ?_ | refine aE ?_ ?_
  | (((with_reducible refine kQ 136 ?_); refine cL h1 c136 ?_) <;> with_reducible refine wK ?_)
  | apply trivial)); all_goals clear fct)
     all_goals simp [e9, e1]
  | true =>
    rw [hi] at h1
    obtain ⟨i, y, rfl, hy, hnd⟩ := is_there hi
    rw [hnd]
    obtain ⟨b1, b2, b3, b4, b5, b6, b7, b8, b9, b10⟩ := y
    by_cases e9 : a9 = -1
    ·by_cases u9 : b9 = k
     ·by_cases u10 : b10 = a10
      ·(have fct := And.intro e4 (And.intro e9 (And.intro u9 (u10))); (repeat' (first
  | refine gF ?_ | refine aE ?_ ?_
  | ((first
   | ((with_reducible refine kQ 136 ?_); refine cL h1 c136 ?_)
   | (refine IdxK.mk i (eNode _) rfl (node_get hy) ?_)) <;> with_reducible refine wK ?_)
  | apply trivial)); all_goals clear fct)
       all_goals simp [e9, u9, u10]
      ·(have fct := And.intro e4 (And.intro e9 (And.intro u9 ((eq_false u10)))); (repeat' (first
  | refine gF ?_ | refine aE ?_ ?_
  | ((first
   | ((with_reducible refine kQ 136 ?_); refine cL h1 c136 ?_)
   | (refine IdxK.mk i (eNode _) rfl (node_get hy) ?_)) <;> with_reducible refine wK ?_)
  | apply trivial)); all_goals clear fct)
       all_goals simp [e9, u9, u10]
     ·(have fct := And.intro e4 (And.intro e9 ((eq_false u9))); (repeat' (first
  | refine gF ?_ | refine aE ?_ ?_
  | ((first
   | ((with_reducible refine kQ 136 ?_); refine cL h1 c136 ?_)
   | (refine IdxK.mk i (eNode _) rfl (node_get hy) ?_)) <;> with_reducible refine wK ?_)
  | apply trivial)); all_goals clear fct)
      all_goals simp [e9, u9]
    ·by_cases u9 : b9 = k
     ·by_cases u10 : b10 = a10
      ·(have fct := And.intro e4 (And.intro (eq_false e9) (And.intro (eq_false e1) (And.intro u9 (u10)))); (repeat' (first
  | refine gF ?_ | refine aE ?_ ?_
  | ((first
   | ((with_reducible refine kQ 136 ?_); refine cL h1 c136 ?_)
   | (refine IdxK.mk i (eNode _) rfl (node_get hy) ?_)) <;> with_reducible refine wK ?_)
  | apply trivial)); all_goals clear fct)
       all_goals simp [e9, e1, u9, u10]
      ·(have fct := And.intro e4 (And.intro (eq_false e9) (And.intro (eq_false e1) (And.intro u9 ((eq_false u10))))); (repeat' (first
  | refine gF ?_ | refine aE ?_ ?_
  | ((first
   | ((with_reducible refine kQ 136 ?_); refine cL h1 c136 ?_)
   | (refine IdxK.mk i (eNode _) rfl (node_get hy) ?_)) <;> with_reducible refine wK ?_)
  | apply trivial)); all_goals clear fct)
       all_goals simp [e9, e1, u9, u10]
     ·(have fct := And.intro e4 (And.intro (eq_false e9) (And.intro (eq_false e1) ((eq_false u9)))); (repeat' (first
  | refine gF ?_ | refine aE ?_ ?_
  | ((first
   | ((with_reducible refine kQ 136 ?_); refine cL h1 c136 ?_)
   | (refine IdxK.mk i (eNode _) rfl (node_get hy) ?_)) <;> with_reducible refine wK ?_)
  | apply trivial)); all_goals clear fct)
      all_goals simp [e9, e1, u9]
 ·refine IfK.no (by simp [e4]) ?_; with_reducible refine wK ?_
  rw [if_neg e4]
  by_cases e8 : a8 = -1
  ·by_cases e9 : a9 = -1
   ·(have fct := And.intro (eq_false e4) (And.intro e8 (e9)); (repeat' (first
  | refine gF ?_ | refine aE ?_ ?_
  | apply trivial)); all_goals clear fct)
    all_goals simp [e9, e8]
   ·by_cases e1 : a1 = 1
    ·cases hu : isN l a9 4 with
     | false =>
       rw [hu] at h4
       (have fct := And.intro (eq_false e4) (And.intro e8 (And.intro (eq_false e9) (e1))); (repeat' (first
  | refine gF ?_ | refine aE ?_ ?_
  | (((with_reducible refine kQ 136 ?_); refine cL h4 c136 ?_) <;> with_reducible refine wK ?_)
  | apply trivial)); all_goals clear fct)
       all_goals simp [e9, e8, e1]
     | true =>
       rw [hu] at h4
       obtain ⟨j, z, rfl, hz, hnd⟩ := is_there hu
       rw [hnd]
       obtain ⟨d1, d2, d3, d4, d5, d6, d7, d8, d9, d10⟩ := z
       (have fct := And.intro (eq_false e4) (And.intro e8 (And.intro (eq_false e9) (e1))); (repeat' (first
  | refine gF ?_ | refine aE ?_ ?_
  | ((first
   | ((with_reducible refine kQ 136 ?_); refine cL h4 c136 ?_)
   | (refine IdxK.mk j (eNode ⟨d1, d2, d3, d4, d5, d6, d7, d8, d9, d10⟩) rfl (node_get hz) ?_)) <;> with_reducible refine wK ?_)
  | apply trivial)); all_goals clear fct)
       all_goals simp [e9, e8, e1]
    ·(have fct := And.intro (eq_false e4) (And.intro e8 (And.intro (eq_false e9) ((eq_false e1)))); (repeat' (first
  | refine gF ?_ | refine aE ?_ ?_
  | apply trivial)); all_goals clear fct)
     all_goals simp [e9, e8, e1]
  ·by_cases e9 : a9 = -1
   ·(have fct := And.intro (eq_false e4) (And.intro (eq_false e8) (e9)); (repeat' (first
  | refine gF ?_ | refine aE ?_ ?_
  | apply trivial)); all_goals clear fct)
    all_goals simp [e9, e8]
   ·by_cases e1 : a1 = 1
    ·cases hu : isN l a9 4 with
     | false =>
       rw [hu] at h4
       (have fct := And.intro (eq_false e4) (And.intro (eq_false e8) (And.intro (eq_false e9) (e1))); (repeat' (first
  | refine gF ?_ | refine aE ?_ ?_
  | (((with_reducible refine kQ 136 ?_); refine cL h4 c136 ?_) <;> with_reducible refine wK ?_)
  | apply trivial)); all_goals clear fct)
       all_goals simp [e9, e8, e1]
     | true =>
       rw [hu] at h4
       obtain ⟨j, z, rfl, hz, hnd⟩ := is_there hu
       rw [hnd]
       obtain ⟨d1, d2, d3, d4, d5, d6, d7, d8, d9, d10⟩ := z
       (have fct := And.intro (eq_false e4) (And.intro (eq_false e8) (And.intro (eq_false e9) (e1))); (repeat' (first
  | refine gF ?_ | refine aE ?_ ?_
  | ((first
   | ((with_reducible refine kQ 136 ?_); refine cL h4 c136 ?_)
   | (refine IdxK.mk j (eNode ⟨d1, d2, d3, d4, d5, d6, d7, d8, d9, d10⟩) rfl (node_get hz) ?_)) <;> with_reducible refine wK ?_)
  | apply trivial)); all_goals clear fct)
       all_goals simp [e9, e8, e1]
    ·(have fct := And.intro (eq_false e4) (And.intro (eq_false e8) (And.intro (eq_false e9) ((eq_false e1)))); (repeat' (first
  | refine gF ?_ | refine aE ?_ ?_
  | apply trivial)); all_goals clear fct)
     all_goals simp [e9, e8, e1]
theorem f115_ok (x : NodeM) (hx : x.attrs.length ≤ 100000) : FnOK Tryz.prog 115 [] [eNode x] [] (eBool (namedN x)) := by
 have h45 := f67_ok x.name
 have h54 := f174_ok x.is
 have h44 := f131_ok x.attrs hx
 obtain ⟨a1, a2, a3, a4, a5, a6, a7, a8, a9, a10⟩ := x
 have hlm : (a5.map oAttr).length = a5.length := List.length_map ..
 unfold namedN
 simp only at h45 h54 h44 hx ⊢
 refine FnOK.startC (rvs := [.tmp 2]) G G_good Tryz.func115 rfl Tryz.ntmps115 rfl rfl ?_; with_reducible refine wD ?_
 by_cases e1 : a1 = 1
 ·rw [if_pos e1]
  cases hr : rightS a2 with
  | false =>
    rw [hr] at h45
    simp only [Bool.false_eq_true, if_false] at h45
    (have fct := And.intro e1 (hr); (repeat' (first
  | refine gF ?_ | refine aE ?_ ?_
  | (((with_reducible refine kQ 67 ?_); refine cL h45 c67 ?_) <;> with_reducible refine wK ?_)
  | apply trivial)); all_goals clear fct)
    all_goals simp [hr]
  | true =>
    rw [hr] at h45
    simp only [if_true] at h45
    by_cases hl : lowS a2 = a2
    ·by_cases h3 : a3 = ⟨#[]⟩
     ·by_cases h4 : a4 = ⟨#[]⟩
      ·(have fct := And.intro e1 (And.intro hr (And.intro hl (And.intro h3 (h4)))); (repeat' (first
  | refine gF ?_ | refine aE ?_ ?_
  | ((first
   | ((with_reducible refine kQ 67 ?_); refine cL h45 c67 ?_)
   | ((with_reducible refine kQ 131 ?_); refine cL h44 c131 ?_)) <;> with_reducible refine wK ?_)
  | apply trivial)); all_goals clear fct)
       all_goals simp [hr, hl, h3, h4]
      ·(have fct := And.intro e1 (And.intro hr (And.intro hl (And.intro h3 ((eq_false h4))))); (repeat' (first
  | refine gF ?_ | refine aE ?_ ?_
  | (((with_reducible refine kQ 67 ?_); refine cL h45 c67 ?_) <;> with_reducible refine wK ?_)
  | apply trivial)); all_goals clear fct)
       all_goals simp [hr, hl, h3, h4]
     ·cases hc : customS a3 with
      | false =>
        rw [hc] at h54
        (have fct := And.intro e1 (And.intro hr (And.intro hl (And.intro (eq_false h3) (hc)))); (repeat' (first
  | refine gF ?_ | refine aE ?_ ?_
  | ((first
   | ((with_reducible refine kQ 67 ?_); refine cL h45 c67 ?_)
   | ((with_reducible refine kQ 174 ?_); refine cL h54 c174 ?_)) <;> with_reducible refine wK ?_)
  | apply trivial)); all_goals clear fct)
        all_goals simp [hr, hl, h3, hc]
      | true =>
        rw [hc] at h54
        by_cases h4 : a4 = ⟨#[]⟩
        ·(have fct := And.intro e1 (And.intro hr (And.intro hl (And.intro (eq_false h3) (And.intro hc (h4))))); (repeat' (first
  | refine gF ?_ | refine aE ?_ ?_
  | ((first
   | ((with_reducible refine kQ 67 ?_); refine cL h45 c67 ?_)
   | ((with_reducible refine kQ 174 ?_); refine cL h54 c174 ?_)
   | ((with_reducible refine kQ 131 ?_); refine cL h44 c131 ?_)) <;> with_reducible refine wK ?_)
  | apply trivial)); all_goals clear fct)
         all_goals simp [hr, hl, h3, hc, h4]
        ·(have fct := And.intro e1 (And.intro hr (And.intro hl (And.intro (eq_false h3) (And.intro hc ((eq_false h4)))))); (repeat' (first
  | refine gF ?_ | refine aE ?_ ?_
  | ((first
   | ((with_reducible refine kQ 67 ?_); refine cL h45 c67 ?_)
   | ((with_reducible refine kQ 174 ?_); refine cL h54 c174 ?_)) <;> with_reducible refine wK ?_)
  | apply trivial)); all_goals clear fct)
         all_goals simp [hr, hl, h3, hc, h4]
    ·(have fct := And.intro e1 (And.intro hr ((eq_false hl))); (repeat' (first
  | refine gF ?_ | refine aE ?_ ?_
  | (((with_reducible refine kQ 67 ?_); refine cL h45 c67 ?_) <;> with_reducible refine wK ?_)
  | apply trivial)); all_goals clear fct)
     all_goals simp [hr, hl]
 ·rw [if_neg e1]
  by_cases e2 : a1 = 2
  ·rw [if_pos e2]
   by_cases hd : a4.size ≤ 200
   ·by_cases h2 : a2 = ⟨#[]⟩
    ·by_cases h3 : a3 = ⟨#[]⟩
     ·(have fct := And.intro e2 (And.intro hd (And.intro h2 (h3))); (repeat' (first
  | refine gF ?_ | refine aE ?_ ?_
  | apply trivial)); all_goals clear fct)
      all_goals simp [hd, h2, h3]
     ·(have fct := And.intro e2 (And.intro hd (And.intro h2 ((eq_false h3)))); (repeat' (first
  | refine gF ?_ | refine aE ?_ ?_
  | apply trivial)); all_goals clear fct)
      all_goals simp [hd, h2, h3]
    ·(have fct := And.intro e2 (And.intro hd ((eq_false h2))); (repeat' (first
  | refine gF ?_ | refine aE ?_ ?_
  | apply trivial)); all_goals clear fct)
     all_goals simp [hd, h2]
   ·(have fct := And.intro e2 ((eq_false hd)); (repeat' (first
  | refine gF ?_ | refine aE ?_ ?_
  | apply trivial)); all_goals clear fct)
    all_goals simp [hd]
  ·rw [if_neg e2]
   by_cases ho : a1 = 0 ∨ a1 = 3 ∨ a1 = 4
   ·rw [if_pos ho]
    by_cases h2 : a2 = ⟨#[]⟩
    ·by_cases h3 : a3 = ⟨#[]⟩
     ·by_cases h4 : a4 = ⟨#[]⟩
      ·rcases ho with e | e | e
       ·(have fct := And.intro e (And.intro h2 (And.intro h3 (h4))); (repeat' (first
  | refine gF ?_ | refine aE ?_ ?_
  | apply trivial)); all_goals clear fct)
        all_goals simp [h2, h3, h4]
       ·(have fct := And.intro e (And.intro h2 (And.intro h3 (h4))); (repeat' (first
  | refine gF ?_ | refine aE ?_ ?_
  | apply trivial)); all_goals clear fct)
        all_goals simp [h2, h3, h4]
       ·(have fct := And.intro e (And.intro h2 (And.intro h3 (h4))); (repeat' (first
  | refine gF ?_ | refine aE ?_ ?_
  | apply trivial)); all_goals clear fct)
        all_goals simp [h2, h3, h4]
      ·rcases ho with e | e | e
       ·(have fct := And.intro e (And.intro h2 (And.intro h3 ((eq_false h4)))); (repeat' (first
  | refine gF ?_ | refine aE ?_ ?_
  | apply trivial)); all_goals clear fct)
        all_goals simp [h2, h3, h4]
       ·(have fct := And.intro e (And.intro h2 (And.intro h3 ((eq_false h4)))); (repeat' (first
  | refine gF ?_ | refine aE ?_ ?_
  | apply trivial)); all_goals clear fct)
        all_goals simp [h2, h3, h4]
       ·(have fct := And.intro e (And.intro h2 (And.intro h3 ((eq_false h4)))); (repeat' (first
  | refine gF ?_ | refine aE ?_ ?_
  | apply trivial)); all_goals clear fct)
        all_goals simp [h2, h3, h4]
     ·rcases ho with e | e | e
      ·(have fct := And.intro e (And.intro h2 ((eq_false h3))); (repeat' (first
  | refine gF ?_ | refine aE ?_ ?_
  | apply trivial)); all_goals clear fct)
       all_goals simp [h2, h3]
      ·(have fct := And.intro e (And.intro h2 ((eq_false h3))); (repeat' (first
  | refine gF ?_ | refine aE ?_ ?_
  | apply trivial)); all_goals clear fct)
       all_goals simp [h2, h3]
      ·(have fct := And.intro e (And.intro h2 ((eq_false h3))); (repeat' (first
  | refine gF ?_ | refine aE ?_ ?_
  | apply trivial)); all_goals clear fct)
       all_goals simp [h2, h3]
    ·rcases ho with e | e | e
     ·(have fct := And.intro e ((eq_false h2)); (repeat' (first
  | refine gF ?_ | refine aE ?_ ?_
  | apply trivial)); all_goals clear fct)
      all_goals simp [h2]
     ·(have fct := And.intro e ((eq_false h2)); (repeat' (first
  | refine gF ?_ | refine aE ?_ ?_
  | apply trivial)); all_goals clear fct)
      all_goals simp [h2]
     ·(have fct := And.intro e ((eq_false h2)); (repeat' (first
  | refine gF ?_ | refine aE ?_ ?_
  | apply trivial)); all_goals clear fct)
      all_goals simp [h2]
   ·rw [if_neg ho]
    have e0 : ¬ a1 = 0 := fun h => ho (.inl h)
    have e3 : ¬ a1 = 3 := fun h => ho (.inr (.inl h))
    have e4 : ¬ a1 = 4 := fun h => ho (.inr (.inr h))
    (have fct := And.intro e0 (And.intro e1 (And.intro e2 (And.intro e3 (e4)))); (repeat' (first
  | refine gF ?_ | refine aE ?_ ?_
  | apply trivial)); all_goals clear fct)
def seenT (l : List Int) : List (Int × Int) := l.map fun c => (c, 1)
theorem tget_seen (c : Int) : ∀ l : List Int, tget c (seenT l) = if c ∈ l then some 1 else none
 | [] => rfl
 | a :: r => by
   show (if a = c then some 1 else tget c (seenT r)) = _
   rw [tget_seen c r]
   by_cases e : a = c
   ·rw [if_pos e, if_pos (by simp [e])]
   ·rw [if_neg e]
    by_cases h : c ∈ r
    ·rw [if_pos h, if_pos (List.mem_cons_of_mem _ h)]
    ·rw [if_neg h, if_neg (by simp [h]; exact fun e' => e e'.symm)]
theorem seen_snoc {l : List Int} {c : Int} (h : c ∉ l) : tput c 1 (seenT l) = seenT (l ++ [c]) := by
 rw [tput_new (by rw [tget_seen, if_neg h])]
 simp [seenT]
theorem take_snocI {α : Type} {l : List α} {k : Nat} {x : α} (h : l[k]? = some x) : l.take (k + 1) = l.take k ++ [x] := by
 obtain ⟨hk, rfl⟩ := List.getElem?_eq_some_iff.1 h
 rw [List.take_add_one, List.getElem?_eq_getElem hk]; rfl
theorem kids_step {l : List NodeM} {n : Int} {x : NodeM} {cs : List Int} {j : Nat} {c : Int} (h : cs[j]? = some c) : kidsOK l n x (cs.take j) (cs.drop j) = (kidOK l n x (cs.take j) c && kidsOK l n x (cs.take (j + 1)) (cs.drop (j + 1))) := by
 obtain ⟨hk, rfl⟩ := List.getElem?_eq_some_iff.1 h
 rw [List.drop_eq_getElem_cons hk, take_snocI h]
 rfl
theorem elems_step {l : List NodeM} {cs : List Int} {j : Nat} {c : Int} (h : cs[j]? = some c) : elemsN l (cs.take (j + 1)) = elemsN l (cs.take j) + if (nd l c).kind = 1 then 1 else 0 := by
 rw [take_snocI h]
 unfold elemsN
 rw [List.countP_append, List.countP_cons]; simp
theorem elems_le (l : List NodeM) (cs : List Int) (j : Nat) : elemsN l (cs.take j) ≤ j := by
 unfold elemsN
 refine Nat.le_trans List.countP_le_length ?_
 simp; omega
@[reducible] def rSeen (t : List (Int × Int)) : MS := .live 2 (tRows vInt oInt t) false
theorem noRef_seen (t : List (Int × Int)) : noRefL (tRows vInt oInt t) = true := by
 rw [noRefL_iff]; intro x hx
 obtain ⟨a, _, rfl⟩ := List.mem_map.1 hx
 rfl
theorem f118_ok (f : ForM) (hs : SmallN f.nodes) (k : Nat) (x : NodeM) (hx : f.nodes[k]? = some x) : FnOK Tryz.prog 118 [] [eFor f, eInt k] [] (eBool (bearsN f.nodes k x)) := by
 have h49 := f129_ok f
 have h56 := f175_ok x.kind
 have h7 := hs.kids x (List.mem_of_getElem? hx)
 have hl := hs.len
 obtain ⟨l, m⟩ := f
 have hst := fun j c => @kids_step l k x x.kids j c
 have hse := fun j c => @elems_step l x.kids j c
 unfold bearsN
 simp only at h49 h56 hx h7 hl ⊢
 obtain ⟨⟨a1, a2, a3, a4, a5, a6, a7, a8, a9, a10⟩, hx0⟩ : ∃ y, y = x := ⟨x, rfl⟩
 rw [← hx0] at hx h56 h7 hst hse ⊢
 simp only at h56 h7 hst hse ⊢
 have hlm : (a7.map oInt).length = a7.length := List.length_map ..
 refine FnOK.startC (rvs := [.tmp 4]) G G_good Tryz.func118 rfl Tryz.ntmps118 rfl rfl ?_; with_reducible refine wD ?_
 refine IdxK.mk k (eNode _) rfl (node_get hx) ?_; with_reducible refine wK ?_
 refine LoopK.use G G_good (fun (j : Nat) => [(1, eInt k), (2, .ptr 20 0 0), (5, .ptr 50 0 0), (6, .mapr 161), (7, eInt (elemsN l (a7.take j))), (18, eInts a7), (19, eInt a7.length), (20, eInt j)])
  (fun j => [(20, .live 2 [eFor ⟨l, m⟩] false), (50, .live 10 [eNode ⟨a1, a2, a3, a4, a5, a6, a7, a8, a9, a10⟩] false), (161, rSeen (seenT (a7.take j)))])
  (fun j => j ≤ a7.length ∧ kidsOK l k ⟨a1, a2, a3, a4, a5, a6, a7, a8, a9, a10⟩ [] a7 = kidsOK l k ⟨a1, a2, a3, a4, a5, a6, a7, a8, a9, a10⟩ (a7.take j) (a7.drop j)) (fun j => a7.length - j) 0 ⟨Nat.zero_le _, rfl⟩
  ⟨⟨rfl, rfl⟩, ⟨rfl, ⟨rfl, rfl⟩, ⟨rfl, rfl⟩, trivial, rfl, rfl, by show (a7.length : Int) = ((a7.map oInt).length : Int); rw [hlm], rfl, trivial⟩, ⟨⟨rfl, rfl, trivial⟩, trivial⟩, ⟨⟨rfl, rfl, rfl, rfl, rfl, rfl, rfl, rfl, rfl, rfl, trivial⟩, trivial⟩, ⟨.refl rfl, rfl⟩, trivial⟩ ?_
 rintro j ⟨hj, hok⟩
 with_reducible refine wK ?_
 refine IfK.mk (fun h1 => ?_) (fun h1 => ?_) <;> (try simp only [castN] at h1) <;> with_reducible refine wK ?_
 ·have hj' : j < a7.length := by simp only [decide_eq_true_eq] at h1; omega
  obtain ⟨c, hc⟩ : ∃ c, a7[j]? = some c := ⟨_, List.getElem?_eq_getElem hj'⟩
  rw [hst j c hc] at hok
  have hse' := hse j c hc
  have hel := elems_le l a7 j
  have h49' := h49 c
  unfold kidOK at hok
  refine IdxK.mk j (eInt c) rfl (int_get hc) ?_; with_reducible refine wK ?_
  refine cL h49' c129 ?_; with_reducible refine wK ?_
  cases ht : thereN l c with
  | false =>
    rw [ht] at hok
    simp only [Bool.false_and] at hok
    rw [hok, Bool.false_and]
    (have fct := ht; (repeat' (first
  | refine gF ?_ | refine aE ?_ ?_
  | apply trivial)); all_goals clear fct)
  | true =>
    obtain ⟨i, y, rfl, hy, hnd⟩ := there_iff.1 ht
    rw [ht, hnd] at hok
    rw [hnd] at hse'
    obtain ⟨b1, b2, b3, b4, b5, b6, b7, b8, b9, b10⟩ := y
    simp only [Bool.true_and] at hok hse'
    refine IfK.ff ?_; with_reducible refine wK ?_
    have hts := tget_seen (i : Int) (a7.take j)
    refine LookK.tab vInt oInt (seenT (a7.take j)) (k := (i : Int)) (zv := eInt 0) mt74 ⟨_, _, rfl⟩ key_int inj_int rfl rfl (fun z hxx => ?_) (fun hxx => ?_)
    ·rw [hxx] at hts
     have hin : (i : Int) ∈ a7.take j := by by_cases h : (i : Int) ∈ a7.take j; exact h; rw [if_neg h] at hts; cases hts
     rw [if_pos hin] at hts
     cases hts
     rw [show hasI (a7.take j) (i : Int) = true from decide_eq_true hin] at hok
     simp only [Bool.not_true, Bool.false_and] at hok
     rw [hok, Bool.false_and]
     rw [show oInt 1 = eInt 1 from rfl]
     with_reducible refine wK ?_
     (have fct := ht; (repeat' (first
  | refine gF ?_ | refine aE ?_ ?_
  | apply trivial)); all_goals clear fct)
    ·rw [hxx] at hts
     have hin : (i : Int) ∉ a7.take j := by intro h; rw [if_pos h] at hts; cases hts
     rw [show hasI (a7.take j) (i : Int) = false from decide_eq_false hin] at hok
     simp only [Bool.not_false, Bool.true_and] at hok
     with_reducible refine wK ?_
     by_cases e6 : b6 = k
     ·by_cases e10 : b10 = a10
      ·simp only [e6, e10, decide_true, Bool.true_and] at hok
       (have fct := And.intro e6 (e10); (repeat' (first
  | refine gF ?_ | refine aE ?_ ?_
  | ((refine IdxK.mk i (eNode _) rfl (node_get hy) ?_) <;> with_reducible refine wK ?_)
  | apply trivial)); all_goals clear fct)
       refine LookK.tab vInt oInt (seenT (a7.take j)) (k := (i : Int)) (zv := eInt 0) mt74 ⟨_, _, rfl⟩ key_int inj_int rfl rfl (fun z hyy => ?_) (fun hyy => ?_)
       ·rw [hxx] at hyy; cases hyy
       with_reducible refine wK ?_
       have hln : (seenT (a7.take j)).length ≤ j := by unfold seenT; simp; omega
       have hsn := seen_snoc hin
       rw [← take_snocI hc] at hsn
       refine nK ?_; with_reducible refine wK ?_
       refine PutK.tab vInt oInt (seenT (a7.take j)) (k := (i : Int)) (1 : Int) mt74 rfl key_int inj_int (by unfold maxLen; omega) rfl ?_; with_reducible refine wK ?_
       rw [hsn]
       refine IdxK.mk i (eNode _) rfl (node_get hy) ?_; with_reducible refine wK ?_
       by_cases f1 : b1 = 1
       ·have hs1 : (elemsN l (a7.take (j + 1)) : Int) = elemsN l (a7.take j) + 1 := by rw [hse', if_pos f1]; rfl
        simp only [f1, decide_true, Bool.true_or, Bool.true_and] at hok
        (have fct := f1; (repeat' (first
  | refine gF ?_ | refine aE ?_ ?_
  | (((with_reducible show NextK _ _); refine NextK.mk (j + 1) ⟨by omega, hok⟩ (by omega) ⟨⟨rfl, rfl⟩, ⟨rfl, ⟨rfl, rfl⟩, ⟨rfl, rfl⟩, trivial, hs1, rfl, rfl, by show ((j + 1 : Nat) : Int) = (j : Int) + 1; omega, trivial⟩, ⟨⟨rfl, rfl, trivial⟩, trivial⟩, ⟨⟨rfl, rfl, rfl, rfl, rfl, rfl, rfl, rfl, rfl, rfl, trivial⟩, trivial⟩, ⟨.refl (noRef_seen _), noRef_seen _⟩, trivial⟩) <;> with_reducible refine wK ?_)
  | apply trivial)); all_goals clear fct)
       ·have hs1 : (elemsN l (a7.take (j + 1)) : Int) = elemsN l (a7.take j) := by rw [hse', if_neg f1]; rfl
        by_cases f2 : b1 = 2
        ·by_cases e0 : a1 = 0
         ·have hkk : (decide (b1 = 1) || decide (b1 = 2) && decide (a1 ≠ 0)) = false := by simp [f2, e0]
          rw [hkk, Bool.false_and] at hok
          rw [hok, Bool.false_and]
          (have fct := And.intro (eq_false f1) (And.intro f2 (e0)); (repeat' (first
  | refine gF ?_ | refine aE ?_ ?_
  | apply trivial)); all_goals clear fct)
         ·have hkk : (decide (b1 = 1) || decide (b1 = 2) && decide (a1 ≠ 0)) = true := by simp [f2, e0]
          rw [hkk, Bool.true_and] at hok
          (have fct := And.intro (eq_false f1) (And.intro f2 ((eq_false e0))); (repeat' (first
  | refine gF ?_ | refine aE ?_ ?_
  | (((with_reducible show NextK _ _); refine NextK.mk (j + 1) ⟨by omega, hok⟩ (by omega) ⟨⟨rfl, rfl⟩, ⟨rfl, ⟨rfl, rfl⟩, ⟨rfl, rfl⟩, trivial, hs1, rfl, rfl, by show ((j + 1 : Nat) : Int) = (j : Int) + 1; omega, trivial⟩, ⟨⟨rfl, rfl, trivial⟩, trivial⟩, ⟨⟨rfl, rfl, rfl, rfl, rfl, rfl, rfl, rfl, rfl, rfl, trivial⟩, trivial⟩, ⟨.refl (noRef_seen _), noRef_seen _⟩, trivial⟩) <;> with_reducible refine wK ?_)
  | apply trivial)); all_goals clear fct)
        ·simp only [eq_false f1, eq_false f2, decide_false, Bool.false_and, Bool.or_false] at hok
         rw [hok, Bool.false_and]
         (have fct := And.intro f1 (f2); (repeat' (first
  | refine gF ?_ | refine aE ?_ ?_
  | apply trivial)); all_goals clear fct)
      ·simp only [e6, eq_false e10, decide_true, decide_false, Bool.true_and, Bool.false_and] at hok
       rw [hok, Bool.false_and]
       (have fct := And.intro e6 ((eq_false e10)); (repeat' (first
  | refine gF ?_ | refine aE ?_ ?_
  | ((refine IdxK.mk i (eNode _) rfl (node_get hy) ?_) <;> with_reducible refine wK ?_)
  | apply trivial)); all_goals clear fct)
     ·simp only [eq_false e6, decide_false, Bool.false_and] at hok
      rw [hok, Bool.false_and]
      (have fct := (eq_false e6); (repeat' (first
  | refine gF ?_ | refine aE ?_ ?_
  | ((refine IdxK.mk i (eNode _) rfl (node_get hy) ?_) <;> with_reducible refine wK ?_)
  | apply trivial)); all_goals clear fct)
 ·have hjl : j = a7.length := by simp only [decide_eq_false_iff_not] at h1; omega
  rw [hjl, List.take_length, List.drop_length] at hok
  rw [hjl, List.take_length]
  rw [hok]
  simp only [kidsOK, Bool.true_and]
  refine cL h56 c175 ?_; with_reducible refine wK ?_
  by_cases e7 : a7.length = 0
  ·have e7' : a7 = [] := List.eq_nil_of_length_eq_zero e7
   cases hh : holdK a1 with
   | false =>
     by_cases e0 : a1 = 0
     ·(have fct := And.intro hh (And.intro e0 (And.intro e7 (hlm))); (repeat' (first
  | refine gF ?_ | refine aE ?_ ?_
  | apply trivial)); all_goals clear fct)
      all_goals first | (simp [hh, e0, e7']; done) | ((try simp only [castN]); simp [hh, e0, e7']; omega)
     ·(have fct := And.intro hh (And.intro (eq_false e0) (And.intro e7 (hlm))); (repeat' (first
  | refine gF ?_ | refine aE ?_ ?_
  | apply trivial)); all_goals clear fct)
      all_goals first | (simp [hh, e0, e7']; done) | ((try simp only [castN]); simp [hh, e0, e7']; omega)
   | true =>
     by_cases e0 : a1 = 0
     ·(have fct := And.intro hh (And.intro e0 (And.intro e7 (hlm))); (repeat' (first
  | refine gF ?_ | refine aE ?_ ?_
  | apply trivial)); all_goals clear fct)
      all_goals first | (simp [hh, e0, e7']; done) | ((try simp only [castN]); simp [hh, e0, e7']; omega)
     ·(have fct := And.intro hh (And.intro (eq_false e0) (And.intro e7 (hlm))); (repeat' (first
  | refine gF ?_ | refine aE ?_ ?_
  | apply trivial)); all_goals clear fct)
      all_goals first | (simp [hh, e0, e7']; done) | ((try simp only [castN]); simp [hh, e0, e7']; omega)
  ·have e7' : ¬ a7 = [] := fun h => e7 (by rw [h]; rfl)
   cases hh : holdK a1 with
   | false =>
     by_cases e0 : a1 = 0
     ·(have fct := And.intro hh (And.intro e0 (And.intro e7 (hlm))); (repeat' (first
  | refine gF ?_ | refine aE ?_ ?_
  | apply trivial)); all_goals clear fct)
      all_goals first | (simp [hh, e0, e7']; done) | ((try simp only [castN]); simp [hh, e0, e7']; omega)
     ·(have fct := And.intro hh (And.intro (eq_false e0) (And.intro e7 (hlm))); (repeat' (first
  | refine gF ?_ | refine aE ?_ ?_
  | apply trivial)); all_goals clear fct)
      all_goals first | (simp [hh, e0, e7']; done) | ((try simp only [castN]); simp [hh, e0, e7']; omega)
   | true =>
     by_cases e0 : a1 = 0
     ·(have fct := And.intro hh (And.intro e0 (And.intro e7 (hlm))); (repeat' (first
  | refine gF ?_ | refine aE ?_ ?_
  | apply trivial)); all_goals clear fct)
      all_goals first | (simp [hh, e0, e7']; done) | ((try simp only [castN]); simp [hh, e0, e7']; omega)
     ·(have fct := And.intro hh (And.intro (eq_false e0) (And.intro e7 (hlm))); (repeat' (first
  | refine gF ?_ | refine aE ?_ ?_
  | apply trivial)); all_goals clear fct)
      all_goals first | (simp [hh, e0, e7']; done) | ((try simp only [castN]); simp [hh, e0, e7']; omega)
end Go.Proofs.Heir
section
namespace Go.Proofs.Heir
open Go Go.Am Go.RowKit Go.Lib
set_option maxRecDepth 100000
set_option maxHeartbeats 8000000
def finN (l : List NodeM) : Nat → Int → Bool
 | 0, _ => false
 | m + 1, n => if (nd l n).parent = -1 then true else finN l m (nd l n).parent
def chN (l : List NodeM) : Nat → Int → List Int
 | 0, _ => []
 | m + 1, n => n :: if (nd l n).parent = -1 then [] else chN l m (nd l n).parent
def ordN (l : List NodeM) : Nat → Int → List Int
 | 0, _ => []
 | m + 1, n => n :: (nd l n).kids.flatMap (ordN l m)
def wayN (l : List NodeM) (n : Int) : List Int := chN l l.length n
theorem fin_of_ends {l : List NodeM} : ∀ {m : Nat} {n : Int}, endsN l m n = true → finN l m n = true
 | 0, n, h => by simp [endsN] at h
 | m + 1, n, h => by
   unfold finN
   by_cases hp : (nd l n).parent = -1
   ·rw [if_pos hp]
   ·rw [if_neg hp]
    have hu : upN (nd l n) = (nd l n).parent := if_neg hp
    unfold endsN at h
    rw [hu, if_neg hp] at h
    exact fin_of_ends h
theorem ch_more {l : List NodeM} : ∀ {m k : Nat} {n : Int}, finN l m n = true → m ≤ k → chN l k n = chN l m n
 | 0, k, n, h, _ => by simp [finN] at h
 | m + 1, k, n, h, hk => by
   obtain ⟨k, rfl⟩ : ∃ j, k = j + 1 := ⟨k - 1, by omega⟩
   unfold finN at h
   unfold chN
   by_cases hp : (nd l n).parent = -1
   ·rw [if_pos hp, if_pos hp]
   ·rw [if_neg hp] at h
    rw [if_neg hp, if_neg hp, ch_more h (by omega)]
structure Tree (l : List NodeM) : Prop where
 par : ∀ n, thereN l n = true → (nd l n).parent ≠ -1 → thereN l (nd l n).parent = true ∧ n ∈ (nd l (nd l n).parent).kids
 kid : ∀ n, thereN l n = true → ∀ k ∈ (nd l n).kids, thereN l k = true ∧ (nd l k).parent = n
 dup : ∀ n, thereN l n = true → (nd l n).kids.Nodup
 fin : ∀ n, thereN l n = true → finN l l.length n = true
 nam : ∀ n, thereN l n = true → namedN (nd l n) = true
theorem there_pos {l : List NodeM} {n : Int} (h : thereN l n = true) : 0 ≤ n ∧ n < (l.length : Int) := by
 unfold thereN at h; simpa using h
variable {l : List NodeM}
theorem up_ind (T : Tree l) {P : Int → Prop} (h0 : ∀ n, thereN l n = true → (nd l n).parent = -1 → P n) (h1 : ∀ n, thereN l n = true → (nd l n).parent ≠ -1 → thereN l (nd l n).parent = true → P (nd l n).parent → P n) : ∀ n, thereN l n = true → P n := by
 have H : ∀ (m : Nat) (n : Int), thereN l n = true → finN l m n = true → P n := by
  intro m
  induction m with
  | zero => intro n _ h; simp [finN] at h
  | succ m ih =>
    intro n hn h
    unfold finN at h
    by_cases hp : (nd l n).parent = -1
    ·exact h0 n hn hp
    ·rw [if_neg hp] at h
     have hq := (T.par n hn hp).1
     exact h1 n hn hp hq (ih _ hq h)
 exact fun n hn => H _ n hn (T.fin n hn)
theorem way_top (T : Tree l) {n : Int} (hn : thereN l n = true) (hp : (nd l n).parent = -1) : wayN l n = [n] := by
 have := there_pos hn
 obtain ⟨m, hm⟩ : ∃ m, l.length = m + 1 := ⟨l.length - 1, by omega⟩
 unfold wayN; rw [hm]; unfold chN; rw [if_pos hp]
theorem way_step (T : Tree l) {n : Int} (hn : thereN l n = true) (hp : (nd l n).parent ≠ -1) : wayN l n = n :: wayN l (nd l n).parent := by
 have := there_pos hn
 obtain ⟨m, hm⟩ : ∃ m, l.length = m + 1 := ⟨l.length - 1, by omega⟩
 have hf := T.fin n hn
 unfold wayN; rw [hm] at hf ⊢
 unfold finN at hf
 rw [if_neg hp] at hf
 rw [chN, if_neg hp, ch_more hf (Nat.le_succ m)]
theorem way_kid (T : Tree l) {n k : Int} (hn : thereN l n = true) (hk : k ∈ (nd l n).kids) : wayN l k = k :: wayN l n := by
 have h := T.kid n hn k hk
 have h0 := there_pos hn
 have hp : (nd l k).parent ≠ -1 := by rw [h.2]; omega
 rw [way_step T h.1 hp, h.2]
theorem way_head (T : Tree l) {n : Int} (hn : thereN l n = true) : ∃ r, wayN l n = n :: r := by
 by_cases hp : (nd l n).parent = -1
 ·exact ⟨[], way_top T hn hp⟩
 ·exact ⟨_, way_step T hn hp⟩
theorem way_self (T : Tree l) {n : Int} (hn : thereN l n = true) : n ∈ wayN l n := by
 obtain ⟨r, hr⟩ := way_head T hn; rw [hr]; exact List.mem_cons_self
theorem way_there (T : Tree l) : ∀ n, thereN l n = true → ∀ a ∈ wayN l n, thereN l a = true := by
 refine up_ind T (fun n hn hp a ha => ?_) (fun n hn hp hq ih a ha => ?_)
 ·rw [way_top T hn hp] at ha; rw [List.mem_singleton.1 ha]; exact hn
 ·rw [way_step T hn hp] at ha
  rcases List.mem_cons.1 ha with rfl | h
  ·exact hn
  ·exact ih a h
theorem way_cut (T : Tree l) : ∀ n, thereN l n = true → ∀ a ∈ wayN l n, ∃ t, wayN l n = t ++ wayN l a := by
 refine up_ind T (fun n hn hp a ha => ?_) (fun n hn hp hq ih a ha => ?_)
 ·have h := ha; rw [way_top T hn hp] at h; rw [List.mem_singleton.1 h]; exact ⟨[], rfl⟩
 ·have h := ha
  rw [way_step T hn hp] at h
  rcases List.mem_cons.1 h with rfl | h
  ·exact ⟨[], rfl⟩
  ·obtain ⟨t, ht⟩ := ih a h
   exact ⟨n :: t, by rw [way_step T hn hp, ht]; rfl⟩
theorem way_trans (T : Tree l) {a b c : Int} (hc : thereN l c = true) (h1 : a ∈ wayN l b) (h2 : b ∈ wayN l c) : a ∈ wayN l c := by
 obtain ⟨t, ht⟩ := way_cut T c hc b h2
 rw [ht]; exact List.mem_append_right _ h1
theorem way_eq (T : Tree l) {n a b : Int} (hn : thereN l n = true) (ha : a ∈ wayN l n) (hb : b ∈ wayN l n) (he : (wayN l a).length = (wayN l b).length) : a = b := by
 obtain ⟨t, ht⟩ := way_cut T n hn a ha
 obtain ⟨s, hs⟩ := way_cut T n hn b hb
 rw [ht] at hs
 have h := (List.append_inj' hs he).2
 obtain ⟨r, hr⟩ := way_head T (way_there T n hn a ha)
 obtain ⟨q, hq⟩ := way_head T (way_there T n hn b hb)
 rw [hr, hq] at h
 exact (List.cons.inj h).1
theorem nodup_len : ∀ (s t : List Int), t.Nodup → (∀ x ∈ t, x ∈ s) → t.length ≤ s.length
 | [], t, _, h => by
   cases t with
   | nil => exact Nat.le_refl _
   | cons a r => exact absurd (h a List.mem_cons_self) (by simp)
 | a :: s, t, hd, h => by
   have h1 := nodup_len s (t.erase a) (hd.erase a) (fun x hx => by
   have h2 := (hd.mem_erase_iff).1 hx
   rcases List.mem_cons.1 (h x h2.2) with e | e
   ·exact absurd e h2.1
   ·exact e)
   have h3 : t.length ≤ (t.erase a).length + 1 := by rw [List.length_erase]; split <;> omega
   simp; omega
theorem ints_len {t : List Int} {n : Nat} (hd : t.Nodup) (h : ∀ x ∈ t, 0 ≤ x ∧ x < (n : Int)) : t.length ≤ n := by
 have := nodup_len ((List.range n).map (fun k : Nat => (k : Int))) t hd (fun x hx => by
  have := h x hx
  exact List.mem_map.2 ⟨x.toNat, List.mem_range.2 (by omega), by omega⟩)
 simpa using this
def kidP (l : List NodeM) (n : Int) (x : NodeM) (c : Int) : Bool :=
 thereN l c && (decide ((nd l c).parent = n) && (decide ((nd l c).doc = x.doc) && (decide ((nd l c).kind = 1) || (decide ((nd l c).kind = 2) && decide (x.kind ≠ 0)))))
theorem kidsOK_iff {n : Int} {x : NodeM} : ∀ {cs pre : List Int}, kidsOK l n x pre cs = true ↔ (∀ c ∈ cs, kidP l n x c = true) ∧ cs.Nodup ∧ (∀ c ∈ cs, c ∉ pre)
 | [], pre => by simp [kidsOK]
 | a :: r, pre => by
   have hk : kidOK l n x pre a = true ↔ kidP l n x a = true ∧ a ∉ pre := by
    unfold kidOK kidP hasI
    simp only [Bool.and_eq_true, Bool.or_eq_true, decide_eq_true_eq, Bool.not_eq_true', decide_eq_false_iff_not]
    constructor
    ·rintro ⟨⟨⟨⟨h1, h2⟩, h3⟩, h4⟩, h5⟩; exact ⟨⟨h1, h3, h4, h5⟩, h2⟩
    ·rintro ⟨⟨h1, h3, h4, h5⟩, h2⟩; exact ⟨⟨⟨⟨h1, h2⟩, h3⟩, h4⟩, h5⟩
   unfold kidsOK
   rw [Bool.and_eq_true, hk, kidsOK_iff, List.nodup_cons]
   constructor
   ·rintro ⟨⟨h1, h2⟩, h3, h4, h5⟩
    refine ⟨fun c hc => ?_, ⟨fun h => ?_, h4⟩, fun c hc => ?_⟩
    ·rcases List.mem_cons.1 hc with rfl | h
     ·exact h1
     ·exact h3 c h
    ·exact h5 a h (by simp)
    ·rcases List.mem_cons.1 hc with rfl | h
     ·exact h2
     ·exact fun h6 => h5 c h (List.mem_append_left _ h6)
   ·rintro ⟨h1, ⟨h2, h3⟩, h4⟩
    refine ⟨⟨h1 a List.mem_cons_self, h4 a List.mem_cons_self⟩, fun c hc => h1 c (List.mem_cons_of_mem _ hc), h3, fun c hc h => ?_⟩
    rcases List.mem_append.1 h with h | h
    ·exact h4 c (List.mem_cons_of_mem _ hc) h
    ·rw [List.mem_singleton] at h; subst h; exact h2 hc
theorem right_nodes {f : ForM} (h : rightF f = true) : ∀ n, thereN f.nodes n = true → nodeOK f.nodes n (nd f.nodes n) = true := by
 intro n hn
 obtain ⟨k, x, rfl, hk, hx⟩ := there_iff.1 hn
 unfold rightF at h
 simp only [Bool.and_eq_true] at h
 have := allIx_iff.1 h.2.1 k x hk
 rw [hx]; simpa using this
theorem right_ends {f : ForM} (h : rightF f = true) : ∀ n, thereN f.nodes n = true → endsN f.nodes f.nodes.length n = true := by
 intro n hn
 obtain ⟨k, x, rfl, hk, hx⟩ := there_iff.1 hn
 unfold rightF at h
 simp only [Bool.and_eq_true] at h
 simpa using allIx_iff.1 h.2.2 k x hk
theorem tree_of {f : ForM} (h : rightF f = true) : Tree f.nodes := by
 have hN := right_nodes h
 have hB : ∀ n, thereN f.nodes n = true → (∀ c ∈ (nd f.nodes n).kids, kidP f.nodes n (nd f.nodes n) c = true) ∧ (nd f.nodes n).kids.Nodup := by
  intro n hn
  have h1 := hN n hn
  unfold nodeOK bearsN at h1
  simp only [Bool.and_eq_true] at h1
  have := kidsOK_iff.1 h1.2.2.2.1.1
  exact ⟨this.1, this.2.1⟩
 refine ⟨fun n hn hp => ?_, fun n hn k hk => ?_, fun n hn => (hB n hn).2, fun n hn => fin_of_ends (right_ends h n hn), fun n hn => ?_⟩
 ·have h1 := hN n hn
  unfold nodeOK hungN at h1
  simp only [Bool.and_eq_true, Bool.or_eq_true, decide_eq_true_eq] at h1
  rcases h1.2.2.1 with h2 | h2
  ·exact absurd h2 hp
  ·refine ⟨h2.1.1.2, ?_⟩
   have := h2.2
   unfold hasI at this; simpa using this
 ·have h1 := (hB n hn).1 k hk
  unfold kidP at h1
  simp only [Bool.and_eq_true, decide_eq_true_eq] at h1
  exact ⟨h1.1, h1.2.1⟩
 ·have h1 := hN n hn
  unfold nodeOK at h1
  simp only [Bool.and_eq_true] at h1
  exact h1.1
end Go.Proofs.Heir
end
section
namespace Go.Proofs.Heir
open Go Go.Am Go.RowKit Go.Lib
set_option maxRecDepth 100000
set_option maxHeartbeats 8000000
@[reducible] def disW : ByteArray := ⟨⟨[100, 105, 115, 97, 98, 108, 101, 100]⟩⟩
@[reducible] def legW : ByteArray := ⟨⟨[108, 101, 103, 101, 110, 100]⟩⟩
@[reducible] def fldW : ByteArray := ⟨⟨[102, 105, 101, 108, 100, 115, 101, 116]⟩⟩
def disX (x : NodeM) : Bool := decide (x.kind = 1) && decide (0 ≤ findP x.attrs disW)
def isLeg (l : List NodeM) (k : Int) : Bool := decide ((nd l k).kind = 1) && decide ((nd l k).name = legW)
def kidAt (p : Int → Bool) (cs : List Int) : Int := if 0 ≤ idxI p cs then (cs[(idxI p cs).toNat]?).getD (-1) else -1
def legN (l : List NodeM) (n : Int) : Int := kidAt (isLeg l) (nd l n).kids
def condB (l : List NodeM) (p b : Int) : Bool := decide ((nd l p).name = fldW) && (disX (nd l p) && decide (legN l p ≠ b))
def walkB (l : List NodeM) : Nat → Int → Bool
 | 0, _ => false
 | m + 1, b => if (nd l b).parent = -1 then false else (condB l (nd l b).parent b || walkB l m (nd l b).parent)
def barN (l : List NodeM) (n : Int) : Bool := disX (nd l n) || (decide ((nd l n).kind = 1) && walkB l l.length n)
def holdsN (l : List NodeM) (a b : Int) : Bool := decide (a ∈ wayN l b)
theorem idxI_congr {α : Type} {p q : α → Bool} {l : List α} (h : ∀ x ∈ l, p x = q x) : idxI p l = idxI q l := by
 unfold idxI
 rw [show l.findIdx? p = l.findIdx? q from ?_]
 induction l with
 | nil => rfl
 | cons a r ih =>
   rw [List.findIdx?_cons, List.findIdx?_cons, h a List.mem_cons_self, ih fun x hx => h x (List.mem_cons_of_mem _ hx)]
theorem kidAt_cases (p : Int → Bool) (cs : List Int) : kidAt p cs = -1 ∨ kidAt p cs ∈ cs := by
 unfold kidAt
 rcases idxI_cases p cs with h | ⟨k, a, h, hk, _⟩
 ·left; rw [h]; rfl
 ·right
  rw [h, if_pos (by omega), Int.toNat_natCast, hk]
  exact List.mem_of_getElem? hk
variable {l : List NodeM}
theorem nam_kind (T : Tree l) {n : Int} (hn : thereN l n = true) : (nd l n).kind = 1 ∨ ((nd l n).kind ≠ 1 ∧ (nd l n).name = ⟨#[]⟩ ∧ (nd l n).attrs = []) := by
 have h := T.nam n hn
 unfold namedN at h
 by_cases e1 : (nd l n).kind = 1
 ·exact .inl e1
 ·right
  rw [if_neg e1] at h
  refine ⟨e1, ?_⟩
  split at h
  ·simp only [Bool.and_eq_true, decide_eq_true_eq] at h
   exact ⟨h.1.1.2, h.2⟩
  ·split at h
   ·simp only [Bool.and_eq_true, decide_eq_true_eq] at h
    exact ⟨h.1.1.1, h.2⟩
   ·cases h
theorem rightS_dis : rightS disW = true := by decide +kernel
theorem dis_kind {x : NodeM} (h : disX x = true) : x.kind = 1 := by
 unfold disX at h; simp only [Bool.and_eq_true, decide_eq_true_eq] at h; exact h.1
theorem walkB_iff (T : Tree l) : ∀ (m : Nat) (b : Int), finN l m b = true → (walkB l m b = true ↔ ∃ c ∈ chN l m b, (nd l c).parent ≠ -1 ∧ condB l (nd l c).parent c = true)
 | 0, b, h => by simp [finN] at h
 | m + 1, b, h => by
   unfold finN at h
   unfold walkB chN
   by_cases hp : (nd l b).parent = -1
   ·rw [if_pos hp, if_pos hp]
    constructor
    ·intro h; cases h
    ·rintro ⟨c, hc, h1, _⟩
     rw [List.mem_singleton.1 hc] at h1
     exact absurd hp h1
   ·rw [if_neg hp] at h
    rw [if_neg hp, if_neg hp, Bool.or_eq_true, walkB_iff T m _ h]
    constructor
    ·rintro (h1 | ⟨c, hc, h1⟩)
     ·exact ⟨b, List.mem_cons_self, hp, h1⟩
     ·exact ⟨c, List.mem_cons_of_mem _ hc, h1⟩
    ·rintro ⟨c, hc, h1, h2⟩
     rcases List.mem_cons.1 hc with rfl | hc
     ·exact .inl h2
     ·exact .inr ⟨c, hc, h1, h2⟩
theorem way_above (T : Tree l) : ∀ n, thereN l n = true → ∀ p ∈ wayN l n, p ≠ n → ∃ c ∈ wayN l n, (nd l c).parent ≠ -1 ∧ (nd l c).parent = p := by
 refine up_ind T (fun n hn hp p h hne => ?_) (fun n hn hp hq ih p h hne => ?_)
 ·rw [way_top T hn hp] at h; exact absurd (List.mem_singleton.1 h) hne
 ·rw [way_step T hn hp] at h ⊢
  rcases List.mem_cons.1 h with rfl | h
  ·exact absurd rfl hne
  ·by_cases e : p = (nd l n).parent
   ·exact ⟨n, List.mem_cons_self, hp, e.symm⟩
   ·obtain ⟨c, hc, h1⟩ := ih p h e
    exact ⟨c, List.mem_cons_of_mem _ hc, h1⟩
theorem leg_way (T : Tree l) {n c : Int} (hn : thereN l n = true) (hc : c ∈ wayN l n) (hp : (nd l c).parent ≠ -1) : (legN l (nd l c).parent ≠ c) ↔ (legN l (nd l c).parent < 0 ∨ legN l (nd l c).parent ∉ wayN l n) := by
 have hcc := way_there T n hn c hc
 have hpp := T.par c hcc hp
 have h0 := there_pos hcc
 constructor
 ·intro hne
  rcases kidAt_cases (isLeg l) (nd l (nd l c).parent).kids with h | h
  ·left; unfold legN; rw [h]; omega
  ·right; intro hin
   refine hne (way_eq T hn hin hc ?_)
   have h1 : legN l (nd l c).parent ∈ (nd l (nd l c).parent).kids := h
   rw [way_kid T hpp.1 h1, way_kid T hpp.1 hpp.2]; rfl
 ·rintro h e
  rw [e] at h
  rcases h with h | h
  ·omega
  ·exact h hc
end Go.Proofs.Heir
end
section
namespace Go.Proofs.Heir
open Go Go.Am Go.RowKit Go.Lib
set_option maxRecDepth 100000
set_option maxHeartbeats 8000000
def finG (g : Int → Int) : Nat → Int → Bool
 | 0, _ => false
 | m + 1, n => if g n = -1 then true else finG g m (g n)
def chG (g : Int → Int) : Nat → Int → List Int
 | 0, _ => []
 | m + 1, n => n :: if g n = -1 then [] else chG g m (g n)
theorem inG {g : Int → Int} {P : Int → Prop} (hg : ∀ n, P n → g n ≠ -1 → P (g n)) : ∀ {m : Nat} {n : Int}, P n → ∀ a ∈ chG g m n, P a
 | 0, n, _, a, ha => by simp [chG] at ha
 | m + 1, n, hn, a, ha => by
   unfold chG at ha
   rcases List.mem_cons.1 ha with rfl | h
   ·exact hn
   ·by_cases hp : g n = -1
    ·rw [if_pos hp] at h; simp at h
    ·rw [if_neg hp] at h
     exact inG hg (hg n hn hp) a h
theorem ends_G (l : List NodeM) : ∀ (m : Nat) (n : Int), endsN l m n = finG (fun n => upN (nd l n)) m n
 | 0, _ => rfl
 | m + 1, n => by unfold endsN finG; rw [ends_G l m]
def rName (x : NodeM) : Bool :=
 if x.kind = 1 then rightS x.name && decide (lowS x.name = x.name) && (decide (x.is = ⟨#[]⟩) || customS x.is) && decide (x.data = ⟨#[]⟩) && rightA x.attrs
 else decide (x.name = ⟨#[]⟩) && decide (x.is = ⟨#[]⟩) && decide (x.attrs = []) && (decide (x.data = ⟨#[]⟩) || (decide (x.kind = 2) && decide (x.data.size ≤ 200)))
theorem named_kind {x : NodeM} : namedN x = true ↔ (0 ≤ x.kind ∧ x.kind ≤ 4) ∧ rName x = true := by
 unfold namedN rName
 by_cases e1 : x.kind = 1
 ·rw [if_pos e1, if_pos e1]
  exact ⟨fun h => ⟨by omega, h⟩, fun h => h.2⟩
 ·rw [if_neg e1, if_neg e1]
  by_cases e2 : x.kind = 2
  ·rw [if_pos e2]
   simp only [Bool.and_eq_true, Bool.or_eq_true, decide_eq_true_eq]
   constructor
   ·rintro ⟨⟨⟨h1, h2⟩, h3⟩, h4⟩
    exact ⟨by omega, ⟨⟨h2, h3⟩, h4⟩, .inr ⟨e2, h1⟩⟩
   ·rintro ⟨_, ⟨⟨h2, h3⟩, h4⟩, h5⟩
    refine ⟨⟨⟨?_, h2⟩, h3⟩, h4⟩
    rcases h5 with h | h
    ·rw [h]; exact Nat.zero_le _
    ·exact h.2
  ·rw [if_neg e2]
   by_cases e3 : x.kind = 0 ∨ x.kind = 3 ∨ x.kind = 4
   ·rw [if_pos e3]
    simp only [Bool.and_eq_true, Bool.or_eq_true, decide_eq_true_eq]
    constructor
    ·rintro ⟨⟨⟨h1, h2⟩, h3⟩, h4⟩
     exact ⟨by omega, ⟨⟨h1, h2⟩, h4⟩, .inl h3⟩
    ·rintro ⟨_, ⟨⟨h1, h2⟩, h4⟩, h3 | h3⟩
     ·exact ⟨⟨⟨h1, h2⟩, h3⟩, h4⟩
     ·exact absurd h3.1 e2
   ·rw [if_neg e3]
    constructor
    ·intro h; cases h
    ·rintro ⟨h, _⟩; omega
variable {l : List NodeM}
theorem node_up (h : ∀ n, thereN l n = true → nodeOK l n (nd l n) = true) : ∀ n, thereN l n = true → upN (nd l n) = -1 ∨ thereN l (upN (nd l n)) = true := by
 intro n hn
 have h0 := h n hn
 unfold nodeOK at h0
 simp only [Bool.and_eq_true] at h0
 obtain ⟨_, _, hH, _, hS⟩ := h0
 unfold upN
 unfold hungN at hH
 simp only [Bool.and_eq_true, Bool.or_eq_true, decide_eq_true_eq] at hH
 by_cases e : (nd l n).parent = -1
 ·rw [if_pos e]
  unfold shadedN at hS
  rw [Bool.and_eq_true] at hS
  by_cases e4 : (nd l n).kind = 4
  ·rw [if_pos e4] at hS
   unfold isN at hS
   simp only [Bool.and_eq_true] at hS
   exact .inr hS.1.1.1.1
  ·rw [if_neg e4] at hS
   exact .inl (by simpa using hS.1)
 ·rw [if_neg e]
  rcases hH with h | h
  ·exact absurd h e
  ·exact .inr h.1.1.2
theorem all_there (p : Int → NodeM → Bool) : allIx (fun k x => p k x) 0 l = true ↔ ∀ n, thereN l n = true → p n (nd l n) = true := by
 rw [allIx_iff]
 constructor
 ·intro h n hn
  obtain ⟨k, x, rfl, hk, hx⟩ := there_iff.1 hn
  have := h k x hk
  rw [hx]; simpa using this
 ·intro h k x hk
  have := h k (there_get hk)
  rw [nd_get hk] at this
  simpa using this
end Go.Proofs.Heir
end
namespace Go.Proofs.Heir
open Go Go.Am Go.RowKit Go.Lib
set_option maxRecDepth 100000
set_option maxHeartbeats 8000000
theorem allIx_no {α : Type} {p : Nat → α → Bool} {l : List α} {k : Nat} {x : α} (h : l[k]? = some x) (hp : p k x = false) : allIx p 0 l = false := by
 rw [Bool.eq_false_iff]
 intro h1
 have := allIx_iff.1 h1 k x h
 rw [Nat.zero_add, hp] at this
 cases this
theorem allIx_yes {α : Type} {p : Nat → α → Bool} {l : List α} (h : ∀ k x, l[k]? = some x → p k x = true) : allIx p 0 l = true :=
 allIx_iff.2 fun k x hx => by rw [Nat.zero_add]; exact h k x hx
theorem f55_ok (f : ForM) (hs : SmallN f.nodes) : FnOK Tryz.prog 55 [] [eFor f] [] (eBool (rightF f)) := by
 have hl := hs.len
 have h38 : ∀ x ∈ f.nodes, FnOK Tryz.prog 115 [] [eNode x] [] (eBool (namedN x)) := fun x hx => f115_ok x (by have := hs.attrs x hx; omega)
 have h39 := f116_ok f
 have h40 := f117_ok f hs
 have h41 := f118_ok f hs
 have h42 := f119_ok f
 have h43 : (∀ n, thereN f.nodes n = true → nodeOK f.nodes n (nd f.nodes n) = true) → ∀ k, k < f.nodes.length → FnOK Tryz.prog 120 [] [eFor f, eInt k] [] (eBool (endsN f.nodes f.nodes.length k)) := fun hN k hk => f120_ok f (by omega) (fun k x hx => by have := node_up hN k (there_get hx); rwa [nd_get hx] at this) k hk
 obtain ⟨l, m⟩ := f
 unfold rightF headOK
 simp only at hl h38 h39 h40 h41 h42 h43 ⊢
 have hlm : (l.map oNode).length = l.length := List.length_map ..
 refine FnOK.startC (rvs := [.tmp 2]) G G_good Tryz.func55 rfl Tryz.ntmps55 rfl rfl ?_; with_reducible refine wD ?_
 by_cases e1 : m < 1
 ·have c1 : decide (1 ≤ m) = false := decide_eq_false (by omega)
  rw [c1]
  (have fct := e1; (repeat' (first
  | refine gF ?_ | refine aE ?_ ?_
  | apply trivial)); all_goals clear fct)
  all_goals simp
 by_cases e2 : 400 < m
 ·have c1 : decide (m ≤ 400) = false := decide_eq_false (by omega)
  rw [c1]
  (have fct := And.intro (eq_false e1) (e2); (repeat' (first
  | refine gF ?_ | refine aE ?_ ?_
  | apply trivial)); all_goals clear fct)
  all_goals simp
 by_cases e3 : l.length < 1
 ·have c1 : decide (1 ≤ l.length) = false := decide_eq_false (by omega)
  have e3' : (l.length : Int) < 1 := by omega
  rw [c1]
  (have fct := And.intro (eq_false e1) (And.intro (eq_false e2) (And.intro hlm (e3'))); (repeat' (first
  | refine gF ?_ | refine aE ?_ ?_
  | apply trivial)); all_goals clear fct)
  all_goals simp
 have e3' : ¬ (l.length : Int) < 1 := by omega
 by_cases e4 : m < (l.length : Int)
 ·have c1 : decide ((l.length : Int) ≤ m) = false := decide_eq_false (by omega)
  rw [c1]
  (have fct := And.intro (eq_false e1) (And.intro (eq_false e2) (And.intro hlm (And.intro (eq_false e3') (e4)))); (repeat' (first
  | refine gF ?_ | refine aE ?_ ?_
  | apply trivial)); all_goals clear fct)
  all_goals simp
 obtain ⟨x0, hx0⟩ : ∃ x, l[0]? = some x := ⟨_, List.getElem?_eq_getElem (by omega)⟩
 have hn0 : nd l 0 = x0 := nd_get (k := 0) hx0
 rw [hn0]
 obtain ⟨z1, z2, z3, z4, z5, z6, z7, z8, z9, z10⟩ := x0
 by_cases e5 : ¬ z1 = 0
 ·(have fct := And.intro (eq_false e1) (And.intro (eq_false e2) (And.intro hlm (And.intro (eq_false e3') (And.intro (eq_false e4) ((eq_false e5)))))); (repeat' (first
  | refine gF ?_ | refine aE ?_ ?_
  | ((refine IdxK.mk 0 (eNode ⟨z1, z2, z3, z4, z5, z6, z7, z8, z9, z10⟩) rfl (node_get hx0) ?_) <;> with_reducible refine wK ?_)
  | apply trivial)); all_goals clear fct)
  all_goals simp [e5]
 have e5 := Decidable.not_not.1 e5
 have c1 : (decide (1 ≤ m) && decide (m ≤ 400) && decide (1 ≤ l.length) && decide ((l.length : Int) ≤ m) && decide (z1 = 0)) = true := by
  simp only [Bool.and_eq_true, decide_eq_true_eq]; omega
 simp only at c1 ⊢
 rw [c1, Bool.true_and]
 (have fct := And.intro (eq_false e1) (And.intro (eq_false e2) (And.intro hlm (And.intro (eq_false e3') (And.intro (eq_false e4) (e5))))); (repeat' (first
  | refine gF ?_ | refine aE ?_ ?_
  | ((refine IdxK.mk 0 (eNode ⟨z1, z2, z3, z4, z5, z6, z7, z8, z9, z10⟩) rfl (node_get hx0) ?_) <;> with_reducible refine wK ?_)
  | apply trivial)); all_goals clear fct)
 refine LoopK.use G G_good (fun (k : Nat) => [(1, .ptr 10 0 0), (44, eNodes l), (45, eInt l.length), (46, eInt k)]) (fun _ => [(10, .live 2 [eFor ⟨l, m⟩] false)])
  (fun k => k ≤ l.length ∧ ∀ j x, j < k → l[j]? = some x → nodeOK l j x = true) (fun k => l.length - k) 0 ⟨Nat.zero_le _, fun j x h => by omega⟩
  ⟨⟨rfl, rfl⟩, ⟨⟨rfl, rfl⟩, rfl, by show (l.length : Int) = ((l.map oNode).length : Int); rw [hlm], rfl, trivial⟩, ⟨⟨rfl, rfl, trivial⟩, trivial⟩, trivial⟩ ?_
 rintro k ⟨hk, hok⟩
 with_reducible refine wK ?_
 refine IfK.mk (fun g1 => ?_) (fun g1 => ?_) <;> (try simp only [castN] at g1) <;> with_reducible refine wK ?_
 ·have hk' : k < l.length := by simp only [decide_eq_true_eq] at g1; omega
  obtain ⟨x, hx⟩ : ∃ x, l[k]? = some x := ⟨_, List.getElem?_eq_getElem hk'⟩
  have h38' := h38 x (List.mem_of_getElem? hx)
  have h39' := h39 k x hx
  have h40' := h40 k x hx
  have h41' := h41 k x hx
  have h42' := h42 k x hx
  have bad : nodeOK l k x = false → allIx (fun k x => nodeOK l k x) 0 l = false := fun h => allIx_no hx h
  have good : nodeOK l k x = true → ∀ j y, j < k + 1 → l[j]? = some y → nodeOK l j y = true := fun h j y hj hy => by
   rcases Nat.lt_or_ge j k with h6 | h6
   ·exact hok j y h6 hy
   ·have : j = k := by omega
    subst this
    rw [hx] at hy; cases hy; exact h
  obtain ⟨a1, a2, a3, a4, a5, a6, a7, a8, a9, a10⟩ := x
  refine IdxK.mk k (eNode _) rfl (node_get hx) ?_; with_reducible refine wK ?_
  cases q1 : namedN ⟨a1, a2, a3, a4, a5, a6, a7, a8, a9, a10⟩ with
  | false =>
    rw [bad (by unfold nodeOK; rw [q1]; rfl), Bool.false_and]
    (have fct := q1; (repeat' (first
  | refine gF ?_ | refine aE ?_ ?_
  | (((with_reducible refine kQ 115 ?_); refine cL h38' c115 ?_) <;> with_reducible refine wK ?_)
  | apply trivial)); all_goals clear fct)
  | true =>
    cases q2 : ownedN l k ⟨a1, a2, a3, a4, a5, a6, a7, a8, a9, a10⟩ with
    | false =>
      rw [bad (by unfold nodeOK; rw [q1, q2]; rfl), Bool.false_and]
      (have fct := And.intro q1 (q2); (repeat' (first
  | refine gF ?_ | refine aE ?_ ?_
  | ((first
   | ((with_reducible refine kQ 115 ?_); refine cL h38' c115 ?_)
   | ((with_reducible refine kQ 116 ?_); refine cL h39' c116 ?_)) <;> with_reducible refine wK ?_)
  | apply trivial)); all_goals clear fct)
    | true =>
      cases q3 : hungN l k ⟨a1, a2, a3, a4, a5, a6, a7, a8, a9, a10⟩ with
      | false =>
        rw [bad (by unfold nodeOK; rw [q1, q2, q3]; rfl), Bool.false_and]
        (have fct := And.intro q1 (And.intro q2 (q3)); (repeat' (first
  | refine gF ?_ | refine aE ?_ ?_
  | ((first
   | ((with_reducible refine kQ 115 ?_); refine cL h38' c115 ?_)
   | ((with_reducible refine kQ 116 ?_); refine cL h39' c116 ?_)
   | ((with_reducible refine kQ 117 ?_); refine cL h40' c117 ?_)) <;> with_reducible refine wK ?_)
  | apply trivial)); all_goals clear fct)
      | true =>
        cases q4 : bearsN l k ⟨a1, a2, a3, a4, a5, a6, a7, a8, a9, a10⟩ with
        | false =>
          rw [bad (by unfold nodeOK; rw [q1, q2, q3, q4]; rfl), Bool.false_and]
          (have fct := And.intro q1 (And.intro q2 (And.intro q3 (q4))); (repeat' (first
  | refine gF ?_ | refine aE ?_ ?_
  | ((first
   | ((with_reducible refine kQ 115 ?_); refine cL h38' c115 ?_)
   | ((with_reducible refine kQ 116 ?_); refine cL h39' c116 ?_)
   | ((with_reducible refine kQ 117 ?_); refine cL h40' c117 ?_)
   | ((with_reducible refine kQ 118 ?_); refine cL h41' c118 ?_)) <;> with_reducible refine wK ?_)
  | apply trivial)); all_goals clear fct)
        | true =>
          cases q5 : shadedN l k ⟨a1, a2, a3, a4, a5, a6, a7, a8, a9, a10⟩ with
          | false =>
            rw [bad (by unfold nodeOK; rw [q1, q2, q3, q4, q5]; rfl), Bool.false_and]
            (have fct := And.intro q1 (And.intro q2 (And.intro q3 (And.intro q4 (q5)))); (repeat' (first
  | refine gF ?_ | refine aE ?_ ?_
  | ((first
   | ((with_reducible refine kQ 115 ?_); refine cL h38' c115 ?_)
   | ((with_reducible refine kQ 116 ?_); refine cL h39' c116 ?_)
   | ((with_reducible refine kQ 117 ?_); refine cL h40' c117 ?_)
   | ((with_reducible refine kQ 118 ?_); refine cL h41' c118 ?_)
   | ((with_reducible refine kQ 119 ?_); refine cL h42' c119 ?_)) <;> with_reducible refine wK ?_)
  | apply trivial)); all_goals clear fct)
          | true =>
            have hnx := good (by unfold nodeOK; rw [q1, q2, q3, q4, q5]; rfl)
            (have fct := And.intro q1 (And.intro q2 (And.intro q3 (And.intro q4 (q5)))); (repeat' (first
  | refine gF ?_ | refine aE ?_ ?_
  | ((first
   | ((with_reducible refine kQ 115 ?_); refine cL h38' c115 ?_)
   | ((with_reducible refine kQ 116 ?_); refine cL h39' c116 ?_)
   | ((with_reducible refine kQ 117 ?_); refine cL h40' c117 ?_)
   | ((with_reducible refine kQ 118 ?_); refine cL h41' c118 ?_)
   | ((with_reducible refine kQ 119 ?_); refine cL h42' c119 ?_)
   | ((with_reducible show NextK _ _); refine NextK.mk (k + 1) ⟨by omega, hnx⟩ (by omega) ⟨⟨rfl, rfl⟩, ⟨⟨rfl, rfl⟩, rfl, rfl, by show ((k + 1 : Nat) : Int) = (k : Int) + 1; omega, trivial⟩, ⟨⟨rfl, rfl, trivial⟩, trivial⟩, trivial⟩)) <;> with_reducible refine wK ?_)
  | apply trivial)); all_goals clear fct)
 ·have hkl : k = l.length := by simp only [decide_eq_false_iff_not] at g1; omega
  have hall : ∀ (j : Nat) (x : NodeM), l[j]? = some x → nodeOK l j x = true := fun j x hx => hok j x (by have := (List.getElem?_eq_some_iff.1 hx).1; omega) hx
  rw [allIx_yes hall, Bool.true_and]
  have h43' := h43 fun n hn => by
   obtain ⟨k, x, rfl, hk, hx⟩ := there_iff.1 hn
   rw [hx]; exact hall k x hk
  refine LoopK.use G G_good (fun (k : Nat) => [(1, .ptr 10 0 0), (82, eInt l.length), (83, eInt k)]) (fun _ => [(10, .live 2 [eFor ⟨l, m⟩] false)])
   (fun k => k ≤ l.length ∧ ∀ (j : Nat) (x : NodeM), j < k → l[j]? = some x → endsN l l.length j = true) (fun k => l.length - k) 0 ⟨Nat.zero_le _, fun j x h => by omega⟩
   ⟨⟨rfl, rfl⟩, ⟨⟨rfl, rfl⟩, by show (l.length : Int) = ((l.map oNode).length : Int); rw [hlm], rfl, trivial⟩, ⟨⟨rfl, rfl, trivial⟩, trivial⟩, trivial⟩ ?_
  rintro i ⟨hi, hends⟩
  with_reducible refine wK ?_
  refine IfK.mk (fun g2 => ?_) (fun g2 => ?_) <;> (try simp only [castN] at g2) <;> with_reducible refine wK ?_
  ·have hi' : i < l.length := by simp only [decide_eq_true_eq] at g2; omega
   obtain ⟨y, hy⟩ : ∃ y, l[i]? = some y := ⟨_, List.getElem?_eq_getElem hi'⟩
   have h43'' := h43' i hi'
   refine cL h43'' c120 ?_; with_reducible refine wK ?_
   cases q : endsN l l.length i with
   | false =>
     rw [allIx_no hy q]
     (have fct := q; (repeat' (first
  | refine gF ?_ | refine aE ?_ ?_
  | apply trivial)); all_goals clear fct)
   | true =>
     (have fct := q; (repeat' (first
  | refine gF ?_ | refine aE ?_ ?_
  | (((with_reducible show NextK _ _); refine NextK.mk (i + 1) ⟨by omega, fun j x hj hx => ?_⟩ (by omega) ⟨⟨rfl, rfl⟩, ⟨⟨rfl, rfl⟩, rfl, by show ((i + 1 : Nat) : Int) = (i : Int) + 1; omega, trivial⟩, ⟨⟨rfl, rfl, trivial⟩, trivial⟩, trivial⟩) <;> with_reducible refine wK ?_)
  | apply trivial)); all_goals clear fct)
     rcases Nat.lt_or_ge j i with h6 | h6
     ·exact hends j x h6 hx
     ·have : j = i := by omega
      rw [this]; exact q
  ·have hil : i = l.length := by simp only [decide_eq_false_iff_not] at g2; omega
   rw [allIx_yes fun j x hx => hends j x (by have := (List.getElem?_eq_some_iff.1 hx).1; omega) hx]
   (refine eK ?_ ?_ <;> with_reducible repeat' (first | exact trivial | (show _ ∧ _; refine aK ?_ ?_)))
theorem f17_ok (f : ForM) (hs : SmallN f.nodes) : FnOK Tryz.prog 17 [] [eFor f] [] (eBool (rightF f)) := by
 have h23 := f55_ok f hs
 obtain ⟨l, m⟩ := f
 refine FnOK.startC (rvs := [.tmp 2]) G G_good Tryz.func17 rfl Tryz.ntmps17 rfl rfl ?_; with_reducible refine wD ?_
 refine cL h23 c55 ?_; with_reducible refine wK ?_
 (refine eK ?_ ?_ <;> with_reducible repeat' (first | exact trivial | (show _ ∧ _; refine aK ?_ ?_)))
theorem noRef_ints (l : List Int) : noRefL (l.map oInt) = true := by
 rw [noRefL_iff]; intro x hx
 obtain ⟨a, _, rfl⟩ := List.mem_map.1 hx
 rfl
theorem frz_ints {m : ML} {fz : Nat → Bool} {tab : List (Nat × Nat)} {n t len : Nat} {ro : Bool} {rows : List AV} {l : List Int} (h1 : lkM m t = .live 1 rows ro) (h2 : fz t = true) (h3 : rows = l.map oInt) (h4 : len = l.length) : FrzK m fz (MF tab fz m n) (eInts l) t 0 len := by
 subst h3; subst h4
 have e : (l.map oInt).length = l.length := List.length_map ..
 exact .cut h1 h2 (by omega) (by rw [List.drop_zero, List.take_of_length_le (by omega)]) (noRef_ints l)
@[reducible] def rInts (l : List Int) : MS := .live 1 (l.map oInt) false
def barTo (l : List NodeM) (k : Nat) : List Int := ((List.range k).filter (fun n : Nat => barN l (n : Int))).map (fun n : Nat => (n : Int))
theorem bar_step (l : List NodeM) (k : Nat) : barTo l (k + 1) = if barN l (k : Int) then barTo l k ++ [(k : Int)] else barTo l k := by
 unfold barTo
 rw [List.range_succ, List.filter_append, List.map_append]
 cases h : barN l (k : Int) <;> simp [h]
theorem bar_len (l : List NodeM) (k : Nat) : (barTo l k).length ≤ k := by
 unfold barTo
 rw [List.length_map]
 exact Nat.le_trans (List.length_filter_le ..) (by simp)
theorem snoc_ints (l : List Int) (n : Int) : l.map oInt ++ [eInt n] = (l ++ [n]).map oInt := by rw [List.map_append]; rfl
def awI1 (s : ByteArray) : List MS := [.live 5 [.agg [.own 1 0 1, .lit (.int .i64 (400)), .lit (.int .i64 (0)), .lit (.string s), .lit (.bool false)]] false, .live 10 [.agg [.lit (.int .i64 (0)), .lit (.string ⟨⟨[]⟩⟩), .lit (.string ⟨⟨[]⟩⟩), .lit (.string ⟨⟨[]⟩⟩), .lit (.slice none 0 0), .lit (.int .i64 (-1)), .lit (.slice none 0 0), .lit (.int .i64 (-1)), .lit (.int .i64 (-1)), .lit (.int .i64 (0))]] false]
def awm1 : Ans := ⟨219, awI1 ⟨⟨[34, 34, 62, 60, 108, 101, 103, 101, 110, 100, 62, 60, 105, 110, 112, 117, 116, 62, 60, 47, 105, 110, 112, 117, 116, 62, 60, 47, 108, 101, 103, 101, 110, 100, 62, 60, 105, 110, 112, 117, 116, 62, 60, 47, 105, 110, 112, 117, 116, 62, 60, 47, 102, 105, 101, 108, 100, 115, 101, 116, 62]⟩⟩, [.ptr 0 0 0, .lit (.string ⟨⟨[34]⟩⟩)], awI1 ⟨⟨[34, 62, 60, 108, 101, 103, 101, 110, 100, 62, 60, 105, 110, 112, 117, 116, 62, 60, 47, 105, 110, 112, 117, 116, 62, 60, 47, 108, 101, 103, 101, 110, 100, 62, 60, 105, 110, 112, 117, 116, 62, 60, 47, 105, 110, 112, 117, 116, 62, 60, 47, 102, 105, 101, 108, 100, 115, 101, 116, 62]⟩⟩, .tup []⟩
theorem awm1_run : runF envA 1000 60 awm1.g awm1.ins awm1.args = some (awm1.outs, awm1.res) := by kernel_rfl
def awq1 : Ans := ⟨205, awI1 ⟨⟨[34, 34, 62, 60, 108, 101, 103, 101, 110, 100, 62, 60, 105, 110, 112, 117, 116, 62, 60, 47, 105, 110, 112, 117, 116, 62, 60, 47, 108, 101, 103, 101, 110, 100, 62, 60, 105, 110, 112, 117, 116, 62, 60, 47, 105, 110, 112, 117, 116, 62, 60, 47, 102, 105, 101, 108, 100, 115, 101, 116, 62]⟩⟩, [.ptr 0 0 0], awI1 ⟨⟨[62, 60, 108, 101, 103, 101, 110, 100, 62, 60, 105, 110, 112, 117, 116, 62, 60, 47, 105, 110, 112, 117, 116, 62, 60, 47, 108, 101, 103, 101, 110, 100, 62, 60, 105, 110, 112, 117, 116, 62, 60, 47, 105, 110, 112, 117, 116, 62, 60, 47, 102, 105, 101, 108, 100, 115, 101, 116, 62]⟩⟩, .lit (.string ⟨⟨[]⟩⟩)⟩
theorem awq1_ok : awq1.OK Tryz.prog := ⟨f205_ok (.own 1 0 1) (.lit (.int .i64 (400))) (.lit (.int .i64 (0))) _ [] [62, 60, 108, 101, 103, 101, 110, 100, 62, 60, 105, 110, 112, 117, 116, 62, 60, 47, 105, 110, 112, 117, 116, 62, 60, 47, 108, 101, 103, 101, 110, 100, 62, 60, 105, 110, 112, 117, 116, 62, 60, 47, 105, 110, 112, 117, 116, 62, 60, 47, 102, 105, 101, 108, 100, 115, 101, 116, 62] _ (by decide) (by decide) (Ans.of envA_good awm1_run).1, c205⟩
theorem awq_ok : ∀ r ∈ [awq1], r.OK Tryz.prog := Ans.cons awq1_ok (fun _ h => by cases h)
def awR : Ans := ⟨54, [], [.lit (.string ⟨⟨[60, 102, 105, 101, 108, 100, 115, 101, 116, 32, 100, 105, 115, 97, 98, 108, 101, 100, 61, 34, 34, 62, 60, 108, 101, 103, 101, 110, 100, 62, 60, 105, 110, 112, 117, 116, 62, 60, 47, 105, 110, 112, 117, 116, 62, 60, 47, 108, 101, 103, 101, 110, 100, 62, 60, 105, 110, 112, 117, 116, 62, 60, 47, 105, 110, 112, 117, 116, 62, 60, 47, 102, 105, 101, 108, 100, 115, 101, 116, 62]⟩⟩), .lit (.int .i64 (9))], [.live 10 [.agg [.lit (.int .i64 (0)), .lit (.string ⟨⟨[]⟩⟩), .lit (.string ⟨⟨[]⟩⟩), .lit (.string ⟨⟨[]⟩⟩), .lit (.slice none 0 0), .lit (.int .i64 (-1)), .lit (.slice none 0 0), .lit (.int .i64 (-1)), .lit (.int .i64 (-1)), .lit (.int .i64 (0))], .agg [.lit (.int .i64 (1)), .lit (.string ⟨⟨[102, 105, 101, 108, 100, 115, 101, 116]⟩⟩), .lit (.string ⟨⟨[]⟩⟩), .lit (.string ⟨⟨[]⟩⟩), .own 1 0 1, .lit (.int .i64 (-1)), .own 2 0 2, .lit (.int .i64 (-1)), .lit (.int .i64 (-1)), .lit (.int .i64 (0))], .agg [.lit (.int .i64 (1)), .lit (.string ⟨⟨[108, 101, 103, 101, 110, 100]⟩⟩), .lit (.string ⟨⟨[]⟩⟩), .lit (.string ⟨⟨[]⟩⟩), .lit (.slice none 0 0), .lit (.int .i64 (1)), .own 3 0 1, .lit (.int .i64 (-1)), .lit (.int .i64 (-1)), .lit (.int .i64 (0))], .agg [.lit (.int .i64 (1)), .lit (.string ⟨⟨[105, 110, 112, 117, 116]⟩⟩), .lit (.string ⟨⟨[]⟩⟩), .lit (.string ⟨⟨[]⟩⟩), .lit (.slice none 0 0), .lit (.int .i64 (2)), .lit (.slice none 0 0), .lit (.int .i64 (-1)), .lit (.int .i64 (-1)), .lit (.int .i64 (0))], .agg [.lit (.int .i64 (1)), .lit (.string ⟨⟨[105, 110, 112, 117, 116]⟩⟩), .lit (.string ⟨⟨[]⟩⟩), .lit (.string ⟨⟨[]⟩⟩), .lit (.slice none 0 0), .lit (.int .i64 (1)), .lit (.slice none 0 0), .lit (.int .i64 (-1)), .lit (.int .i64 (-1)), .lit (.int .i64 (0))]] false, .live 2 [.agg [.lit (.string ⟨⟨[100, 105, 115, 97, 98, 108, 101, 100]⟩⟩), .lit (.string ⟨⟨[]⟩⟩)]] false, .live 1 [.lit (.int .i64 (2)), .lit (.int .i64 (4))] false, .live 1 [.lit (.int .i64 (3))] false], .tup [.agg [.own 0 0 5, .lit (.int .i64 (9))], .lit (.int .i64 (1)), .lit (.int .i64 (0))]⟩
theorem awR_run : runF (envA.more [awq1]) 1000 60 awR.g awR.ins awR.args = some (awR.outs, awR.res) := by kernel_rfl
theorem awR_ok : awR.OK Tryz.prog := Ans.of (EEnv.more_good envA_good awq_ok) awR_run
def awT : ByteArray := ⟨⟨[60, 102, 105, 101, 108, 100, 115, 101, 116, 32, 100, 105, 115, 97, 98, 108, 101, 100, 61, 34, 34, 62, 60, 108, 101, 103, 101, 110, 100, 62, 60, 105, 110, 112, 117, 116, 62, 60, 47, 105, 110, 112, 117, 116, 62, 60, 47, 108, 101, 103, 101, 110, 100, 62, 60, 105, 110, 112, 117, 116, 62, 60, 47, 105, 110, 112, 117, 116, 62, 60, 47, 102, 105, 101, 108, 100, 115, 101, 116, 62]⟩⟩
def awF : ForM := ⟨[⟨0, ⟨#[]⟩, ⟨#[]⟩, ⟨#[]⟩, [], -1, [], -1, -1, 0⟩, ⟨1, ⟨#[102, 105, 101, 108, 100, 115, 101, 116]⟩, ⟨#[]⟩, ⟨#[]⟩, [⟨⟨#[100, 105, 115, 97, 98, 108, 101, 100]⟩, ⟨#[]⟩⟩], -1, [2, 4], -1, -1, 0⟩, ⟨1, ⟨#[108, 101, 103, 101, 110, 100]⟩, ⟨#[]⟩, ⟨#[]⟩, [], 1, [3], -1, -1, 0⟩, ⟨1, ⟨#[105, 110, 112, 117, 116]⟩, ⟨#[]⟩, ⟨#[]⟩, [], 2, [], -1, -1, 0⟩, ⟨1, ⟨#[105, 110, 112, 117, 116]⟩, ⟨#[]⟩, ⟨#[]⟩, [], 1, [], -1, -1, 0⟩], 9⟩
theorem awfresh_ok : FnOK Tryz.prog 54 [] [eStr awT, eInt 9] [] (.tup [eFor awF, eInt 1, eInt 0]) := by
  have h := awR_ok.1
  refine FnOK.frozen (objsR 0 awR.outs) ?_ (by kernel_rfl) h ?_
  · funext t
    match t with
    | 0 => rfl
    | 1 => rfl
    | 2 => rfl
    | 3 => rfl
    | n + 4 => rfl
  · have nil2 : ∀ wd, NilK (.sl wd []) := fun wd => .inr (.inr ⟨wd, rfl⟩)
    refine ⟨⟨⟨10, _, _, _, rfl, rfl, rfl, by decide, rfl, RowsM.of ⟨?_, ?_, ?_, ?_, ?_, trivial⟩⟩, rfl, trivial⟩, rfl, rfl, trivial⟩
    · exact ⟨rfl, rfl, rfl, rfl, nil2 _, rfl, nil2 _, rfl, rfl, rfl, trivial⟩
    · exact ⟨rfl, rfl, rfl, rfl, ⟨2, _, _, _, rfl, rfl, rfl, by decide, rfl, RowsM.of ⟨⟨rfl, rfl, trivial⟩, trivial⟩⟩, rfl, ⟨1, _, _, _, rfl, rfl, rfl, by decide, rfl, RowsM.of ⟨rfl, rfl, trivial⟩⟩, rfl, rfl, rfl, trivial⟩
    · exact ⟨rfl, rfl, rfl, rfl, nil2 _, rfl, ⟨1, _, _, _, rfl, rfl, rfl, by decide, rfl, RowsM.of ⟨rfl, trivial⟩⟩, rfl, rfl, rfl, trivial⟩
    · exact ⟨rfl, rfl, rfl, rfl, nil2 _, rfl, nil2 _, rfl, rfl, rfl, trivial⟩
    · exact ⟨rfl, rfl, rfl, rfl, nil2 _, rfl, nil2 _, rfl, rfl, rfl, trivial⟩
theorem f125_ok (g : Nat) (cg : Callable Tryz.prog g) (caps : List AV) (hcaps : noRefL caps = true) (p : Int → Bool) (l : List Int) (hl : l.length ≤ 100000) (hf : ∀ a, a ∈ l → FnOK Tryz.prog g [] (eInt a :: caps) [] (eBool (p a))) :
  FnOK Tryz.prog 125 [] [eInts l, .clo (.func g) [] caps] [] (eInt (idxI p l)) := by
 have hlm : (l.map oInt).length = l.length := List.length_map ..
 refine FnOK.startC (rvs := [.tmp 4]) G G_good Tryz.func125 rfl Tryz.ntmps125 rfl rfl ?_; with_reducible refine wD ?_
 refine LoopK.use G G_good (fun (k : Nat) => [(0, eInts l), (1, .clo (.func g) [] caps), (7, eInt l.length), (8, eInt k)]) (fun _ => []) (fun k => k ≤ l.length ∧ ∀ j x, j < k → l[j]? = some x → p x = false) (fun k => l.length - k) 0 ⟨Nat.zero_le _, fun j x h => by omega⟩
  ⟨⟨rfl, rfl⟩, ⟨rfl, ⟨rfl, trivial, MFL_refl hcaps⟩, by show (l.length : Int) = ((l.map oInt).length : Int); rw [hlm], rfl, trivial⟩, trivial⟩ ?_
 rintro k ⟨hk, hno⟩
 with_reducible refine wK ?_
 refine IfK.mk (fun h1 => ?_) (fun h1 => ?_) <;> (try simp only [castN] at h1) <;> with_reducible refine wK ?_
 ·simp only [decide_eq_true_eq] at h1
  have hk' : k < l.length := by omega
  obtain ⟨a, ha⟩ : ∃ a, l[k]? = some a := ⟨_, List.getElem?_eq_getElem hk'⟩
  refine IdxK.mk k (eInt a) rfl (int_get ha) ?_; with_reducible refine wK ?_
  refine CallK.lit [] (hf a (List.mem_of_getElem? ha)) cg ⟨rfl, MFL_refl hcaps⟩ rfl rfl ?_; with_reducible refine wK ?_
  refine IfK.mk (fun h2 => ?_) (fun h2 => ?_) <;> (try simp only [castN] at h2) <;> with_reducible refine wK ?_
  ·(refine eK ?_ ?_ <;> with_reducible repeat' (first | exact trivial | (show _ ∧ _; refine aK ?_ ?_)))
   exact idxI_hit ha h2 hno
  ·refine nK ?_; with_reducible refine wK ?_
   refine NextK.mk (k + 1) ⟨by omega, fun j x hj hx => ?_⟩ (by omega) ⟨⟨rfl, rfl⟩, ⟨rfl, ⟨rfl, trivial, MFL_refl hcaps⟩, rfl, by show ((k + 1 : Nat) : Int) = (k : Int) + 1; omega, trivial⟩, trivial⟩
   rcases Nat.lt_or_ge j k with h6 | h6
   ·exact hno j x h6 hx
   ·have : j = k := by omega
    subst this
    rw [ha] at hx; cases hx; exact h2
 ·(refine eK ?_ ?_ <;> with_reducible repeat' (first | exact trivial | (show _ ∧ _; refine aK ?_ ?_)))
  have : k = l.length := by simp only [decide_eq_false_iff_not] at h1; omega
  exact idxI_none fun j x hx => hno j x (by have := (List.getElem?_eq_some_iff.1 hx).1; omega) hx
theorem f126_ok (f : ForM) (c : Int) (hc : thereN f.nodes c = true) : FnOK Tryz.prog 126 [] [eInt c, .fptr (eFor f) 0] [] (eBool (isLeg f.nodes c)) := by
 obtain ⟨k, x, rfl, hx, hnd⟩ := there_iff.1 hc
 obtain ⟨l, m⟩ := f
 unfold isLeg
 simp only at hx hnd ⊢
 rw [hnd]
 obtain ⟨a1, a2, a3, a4, a5, a6, a7, a8, a9, a10⟩ := x
 refine FnOK.startC (rvs := [.tmp 3]) G G_good Tryz.func126 rfl Tryz.ntmps126 rfl rfl ?_; with_reducible refine wD ?_
 refine IdxK.mk k (eNode _) rfl (node_get hx) ?_; with_reducible refine wK ?_
 by_cases e1 : a1 = 1
 ·(have fct := e1; (repeat' (first
  | refine gF ?_ | refine aE ?_ ?_
  | ((refine IdxK.mk k (eNode _) rfl (node_get hx) ?_) <;> with_reducible refine wK ?_)
  | apply trivial)); all_goals clear fct)
  all_goals simp [e1]
 ·(have fct := (eq_false e1); (repeat' (first
  | refine gF ?_ | refine aE ?_ ?_
  | apply trivial)); all_goals clear fct)
  all_goals simp [e1]
theorem f62_ok (f : ForM) (hs : SmallN f.nodes) (k : Nat) (x : NodeM) (hx : f.nodes[k]? = some x) (hkids : ∀ c ∈ x.kids, thereN f.nodes c = true) : FnOK Tryz.prog 62 [] [eFor f, eInt k] [] (eInt (legN f.nodes k)) := by
 have h7 := hs.kids x (List.mem_of_getElem? hx)
 have h35 := fun c hc => f126_ok f c (hkids c hc)
 obtain ⟨l, m⟩ := f
 unfold legN kidAt
 simp only at hx h7 hkids h35 ⊢
 rw [nd_get hx]
 obtain ⟨a1, a2, a3, a4, a5, a6, a7, a8, a9, a10⟩ := x
 simp only at h7 hkids h35 ⊢
 refine FnOK.startC (rvs := [.tmp 4]) G G_good Tryz.func62 rfl Tryz.ntmps62 rfl rfl ?_; with_reducible refine wD ?_
 refine IdxK.mk k (eNode _) rfl (node_get hx) ?_; with_reducible refine wK ?_
 refine CallK.lit [20] (f125_ok 126 c126 [.fptr (eFor ⟨l, m⟩) 0] rfl (isLeg l) a7 (by omega) h35) c125 ⟨rfl, ⟨rfl, trivial, ⟨_, _, _, _, _, rfl, rfl, rfl, rfl, rfl, ⟨rfl, rfl, trivial⟩⟩, trivial⟩, trivial⟩ rfl rfl ?_; with_reducible refine wK ?_
 rcases idxI_cases (isLeg l) a7 with h | ⟨i, c, h, hi, _⟩
 ·rw [h]
  (have fct := h; (repeat' (first
  | refine gF ?_ | refine aE ?_ ?_
  | apply trivial)); all_goals clear fct)
  all_goals simp
 ·rw [h]
  (have fct := h; (repeat' (first
  | refine gF ?_ | refine aE ?_ ?_
  | ((refine IdxK.mk i (eInt c) rfl (int_get hi) ?_) <;> with_reducible refine wK ?_)
  | apply trivial)); all_goals clear fct)
  all_goals simp [hi]
theorem f130_ok (x : NodeM) (hx : x.attrs.length ≤ 100000) : FnOK Tryz.prog 130 [] [eNode x] [] (eBool (disX x)) := by
 have h14 := f23_ok x.attrs hx disW
 unfold disX
 obtain ⟨a1, a2, a3, a4, a5, a6, a7, a8, a9, a10⟩ := x
 simp only at h14 hx ⊢
 refine FnOK.startC (rvs := [.tmp 2]) G G_good Tryz.func130 rfl Tryz.ntmps130 rfl rfl ?_; with_reducible refine wD ?_
 refine cL h14 c23 ?_; with_reducible refine wK ?_
 by_cases e1 : a1 = 1
 ·(have fct := e1; (repeat' (first
  | refine gF ?_ | refine aE ?_ ?_
  | apply trivial)); all_goals clear fct)
  all_goals simp [e1]
 ·(have fct := (eq_false e1); (repeat' (first
  | refine gF ?_ | refine aE ?_ ?_
  | apply trivial)); all_goals clear fct)
  all_goals simp [e1]
theorem fin_succ {l : List NodeM} {m : Nat} {n : Int} : finN l (m + 1) n = if (nd l n).parent = -1 then true else finN l m (nd l n).parent := rfl
theorem walk_succ {l : List NodeM} {m : Nat} {b : Int} : walkB l (m + 1) b = if (nd l b).parent = -1 then false else (condB l (nd l b).parent b || walkB l m (nd l b).parent) := rfl
theorem f64_ok (f : ForM) (hs : SmallN f.nodes) (T : Tree f.nodes) (k : Nat) (x : NodeM) (hx : f.nodes[k]? = some x) : FnOK Tryz.prog 64 [] [eFor f, eInt k] [] (eBool (barN f.nodes k)) := by
 have h28 : ∀ x ∈ f.nodes, FnOK Tryz.prog 130 [] [eNode x] [] (eBool (disX x)) := fun x hx => f130_ok x (by have := hs.attrs x hx; omega)
 have h20 : ∀ (k : Nat) (x : NodeM), f.nodes[k]? = some x → FnOK Tryz.prog 62 [] [eFor f, eInt k] [] (eInt (legN f.nodes k)) := fun k x hx => f62_ok f hs k x hx fun c hc => by
  have := T.kid k (there_get hx) c
  rw [nd_get hx] at this
  exact (this hc).1
 have hfin := T.fin k (there_get hx)
 have hpar := T.par
 have hk := (List.getElem?_eq_some_iff.1 hx).1
 obtain ⟨l, m⟩ := f
 unfold barN
 simp only at h28 h20 hx hfin hpar hk ⊢
 rw [nd_get hx]
 have hx' := hx
 have h28x := h28 x (List.mem_of_getElem? hx)
 have hw : disX x = false → x.kind = 1 → ∀ b : Bool, walkB l l.length k = b → (disX x || (decide (x.kind = 1) && walkB l l.length k)) = b := fun h1 h2 b h => by rw [h1, h2, h]; simp
 have hwn : disX x = false → x.kind ≠ 1 → (disX x || (decide (x.kind = 1) && walkB l l.length k)) = false := fun h1 h2 => by rw [h1, decide_eq_false h2]; rfl
 have hwy : disX x = true → (disX x || (decide (x.kind = 1) && walkB l l.length k)) = true := fun h1 => by rw [h1]; rfl
 have hdk := @dis_kind x
 obtain ⟨a1, a2, a3, a4, a5, a6, a7, a8, a9, a10⟩ := x
 have hxp : (nd l k).parent = a6 := by rw [nd_get hx]
 simp only at hw hwn hwy hdk ⊢
 refine FnOK.startC (rvs := [.tmp 4]) G G_good Tryz.func64 rfl Tryz.ntmps64 rfl rfl ?_; with_reducible refine wD ?_
 refine IdxK.mk k (eNode _) rfl (node_get hx) ?_; with_reducible refine wK ?_
 refine cL h28x c130 ?_; with_reducible refine wK ?_
 cases d0 : disX ⟨a1, a2, a3, a4, a5, a6, a7, a8, a9, a10⟩ with
 | true =>
   have e1 := hdk d0
   rw [Bool.true_or]
   (have fct := And.intro d0 (e1); (repeat' (first
  | refine gF ?_ | refine aE ?_ ?_
  | ((refine IdxK.mk k (eNode _) rfl (node_get hx) ?_) <;> with_reducible refine wK ?_)
  | apply trivial)); all_goals clear fct)
   all_goals simp [e1]
 | false =>
   by_cases e1 : ¬ a1 = 1
   ·rw [decide_eq_false e1]
    (have fct := And.intro d0 ((eq_false e1)); (repeat' (first
  | refine gF ?_ | refine aE ?_ ?_
  | ((refine IdxK.mk k (eNode _) rfl (node_get hx) ?_) <;> with_reducible refine wK ?_)
  | apply trivial)); all_goals clear fct)
    all_goals simp
   have e1 := Decidable.not_not.1 e1
   rw [decide_eq_true e1, Bool.false_or, Bool.true_and]
   (have fct := And.intro d0 (e1); (repeat' (first
  | refine gF ?_ | refine aE ?_ ?_
  | ((refine IdxK.mk k (eNode _) rfl (node_get hx) ?_) <;> with_reducible refine wK ?_)
  | apply trivial)); all_goals clear fct)
   refine LoopK.use G G_good (fun (i : Nat × Nat) => [(2, .ptr 20 0 0), (5, eInt i.2), (6, eInt (nd l i.2).parent)]) (fun _ => [(20, .live 2 [eFor ⟨l, m⟩] false)])
    (fun i => i.2 < l.length ∧ finN l i.1 i.2 = true ∧ walkB l l.length k = walkB l i.1 i.2) (fun i => i.1) (l.length, k) ⟨hk, hfin, rfl⟩
    ⟨⟨rfl, rfl⟩, ⟨⟨rfl, rfl⟩, rfl, hxp, trivial⟩, ⟨⟨rfl, rfl, trivial⟩, trivial⟩, trivial⟩ ?_
   rintro ⟨n, b⟩ ⟨hb, hf, hwk⟩
   simp only at hb hf hwk
   obtain ⟨y, hy⟩ : ∃ y, l[b]? = some y := ⟨_, List.getElem?_eq_getElem hb⟩
   have hpb := hpar b (there_get hy)
   cases n with
   | zero => simp [finN] at hf
   | succ n =>
   rw [fin_succ] at hf
   rw [walk_succ] at hwk
   rw [nd_get hy] at hf hwk hpb
   with_reducible refine wK ?_
   simp only [nd_get hy]
   obtain ⟨b1, b2, b3, b4, b5, b6, b7, b8, b9, b10⟩ := y
   simp only at hf hwk hpb ⊢
   by_cases p1 : b6 = -1
   ·rw [if_pos p1] at hwk
    rw [hwk]
    (have fct := p1; (repeat' (first
  | refine gF ?_ | refine aE ?_ ?_
  | apply trivial)); all_goals clear fct)
   ·rw [if_neg p1] at hf hwk
    obtain ⟨i, z, rfl, hz, hnz⟩ := there_iff.1 (hpb p1).1
    have h28z := h28 z (List.mem_of_getElem? hz)
    have h20z := h20 i z hz
    have hi := (List.getElem?_eq_some_iff.1 hz).1
    have hzp : (nd l i).parent = z.parent := by rw [hnz]
    unfold condB at hwk
    rw [hnz] at hwk
    obtain ⟨z1, z2, z3, z4, z5, z6, z7, z8, z9, z10⟩ := z
    simp only at hwk hzp
    have hne : ¬ ((i : Int) = -1) := p1
    refine IfK.yes (by simp [hne]) ?_; with_reducible refine wK ?_
    refine IdxK.mk i (eNode ⟨z1, z2, z3, z4, z5, z6, z7, z8, z9, z10⟩) rfl (node_get hz) ?_; with_reducible refine wK ?_
    by_cases f1 : z2 = fldW
    ·cases d1 : disX ⟨z1, z2, z3, z4, z5, z6, z7, z8, z9, z10⟩ with
     | true =>
       by_cases g1 : legN l i = b
       ·rw [d1, decide_eq_false (fun h : legN l i ≠ b => h g1), Bool.and_false, Bool.and_false, Bool.false_or] at hwk
        (have fct := And.intro f1 (And.intro d1 (g1)); (repeat' (first
  | refine gF ?_ | refine aE ?_ ?_
  | ((first
   | ((with_reducible refine kQ 130 ?_); refine cL h28z c130 ?_)
   | ((with_reducible refine kQ 62 ?_); refine cL h20z c62 ?_)
   | (refine IdxK.mk i (eNode ⟨z1, z2, z3, z4, z5, z6, z7, z8, z9, z10⟩) rfl (node_get hz) ?_)
   | ((with_reducible show NextK _ _); refine NextK.mk (n, i) ⟨hi, hf, hwk⟩ (Nat.lt_succ_self n) ⟨⟨rfl, rfl⟩, ⟨⟨rfl, rfl⟩, rfl, hzp, trivial⟩, ⟨⟨rfl, rfl, trivial⟩, trivial⟩, trivial⟩)) <;> with_reducible refine wK ?_)
  | apply trivial)); all_goals clear fct)
       ·rw [d1, decide_eq_true f1, decide_eq_true (show legN l i ≠ b from g1)] at hwk
        rw [hwk]
        (have fct := And.intro f1 (And.intro d1 ((eq_false g1))); (repeat' (first
  | refine gF ?_ | refine aE ?_ ?_
  | ((first
   | ((with_reducible refine kQ 130 ?_); refine cL h28z c130 ?_)
   | ((with_reducible refine kQ 62 ?_); refine cL h20z c62 ?_)) <;> with_reducible refine wK ?_)
  | apply trivial)); all_goals clear fct)
        all_goals simp
     | false =>
       rw [d1, Bool.false_and, Bool.and_false, Bool.false_or] at hwk
       (have fct := And.intro f1 (d1); (repeat' (first
  | refine gF ?_ | refine aE ?_ ?_
  | ((first
   | ((with_reducible refine kQ 130 ?_); refine cL h28z c130 ?_)
   | (refine IdxK.mk i (eNode ⟨z1, z2, z3, z4, z5, z6, z7, z8, z9, z10⟩) rfl (node_get hz) ?_)
   | ((with_reducible show NextK _ _); refine NextK.mk (n, i) ⟨hi, hf, hwk⟩ (Nat.lt_succ_self n) ⟨⟨rfl, rfl⟩, ⟨⟨rfl, rfl⟩, rfl, hzp, trivial⟩, ⟨⟨rfl, rfl, trivial⟩, trivial⟩, trivial⟩)) <;> with_reducible refine wK ?_)
  | apply trivial)); all_goals clear fct)
    ·rw [decide_eq_false f1, Bool.false_and, Bool.false_or] at hwk
     (have fct := (eq_false f1); (repeat' (first
  | refine gF ?_ | refine aE ?_ ?_
  | ((first
   | (refine IdxK.mk i (eNode ⟨z1, z2, z3, z4, z5, z6, z7, z8, z9, z10⟩) rfl (node_get hz) ?_)
   | ((with_reducible show NextK _ _); refine NextK.mk (n, i) ⟨hi, hf, hwk⟩ (Nat.lt_succ_self n) ⟨⟨rfl, rfl⟩, ⟨⟨rfl, rfl⟩, rfl, hzp, trivial⟩, ⟨⟨rfl, rfl, trivial⟩, trivial⟩, trivial⟩)) <;> with_reducible refine wK ?_)
  | apply trivial)); all_goals clear fct)
theorem f21_ok (f : ForM) (hs : SmallN f.nodes) (n : Int) : FnOK Tryz.prog 21 [] [eFor f, eInt n] [] (eBool (thereN f.nodes n && (rightF f && barN f.nodes n))) := by
 have h13 := f17_ok f hs
 have h18 : rightF f = true → ∀ (k : Nat) (x : NodeM), f.nodes[k]? = some x → FnOK Tryz.prog 64 [] [eFor f, eInt k] [] (eBool (barN f.nodes k)) := fun hr k x hx => f64_ok f hs (tree_of hr) k x hx
 obtain ⟨l, m⟩ := f
 simp only at h13 h18 ⊢
 have hlm : (l.map oNode).length = l.length := List.length_map ..
 refine FnOK.startC (rvs := [.tmp 4]) G G_good Tryz.func21 rfl Tryz.ntmps21 rfl rfl ?_; with_reducible refine wD ?_
 by_cases e0 : ¬ 0 ≤ n
 ·have ht : thereN l n = false := by unfold thereN; simp [e0]
  rw [ht]
  (have fct := (eq_false e0); (repeat' (first
  | refine gF ?_ | refine aE ?_ ?_
  | apply trivial)); all_goals clear fct)
  all_goals simp
 have e0 := Decidable.not_not.1 e0
 by_cases e1 : ¬ n < (l.length : Int)
 ·have ht : thereN l n = false := by unfold thereN; simp [e1]
  rw [ht]
  (have fct := And.intro e0 (And.intro hlm ((eq_false e1))); (repeat' (first
  | refine gF ?_ | refine aE ?_ ?_
  | apply trivial)); all_goals clear fct)
  all_goals simp
 have e1 := Decidable.not_not.1 e1
 have ht : thereN l n = true := by unfold thereN; simp [e0, e1]
 obtain ⟨k, x, rfl, hx, _⟩ := there_iff.1 ht
 rw [ht]
 cases hr : rightF ⟨l, m⟩ with
 | false =>
   (have fct := And.intro hlm (And.intro e0 (And.intro e1 (hr))); (repeat' (first
  | refine gF ?_ | refine aE ?_ ?_
  | (((with_reducible refine kQ 17 ?_); refine cL h13 c17 ?_) <;> with_reducible refine wK ?_)
  | apply trivial)); all_goals clear fct)
   all_goals simp
 | true =>
   have h18' := h18 hr k x hx
   (have fct := And.intro hlm (And.intro e0 (And.intro e1 (hr))); (repeat' (first
  | refine gF ?_ | refine aE ?_ ?_
  | ((first
   | ((with_reducible refine kQ 17 ?_); refine cL h13 c17 ?_)
   | ((with_reducible refine kQ 64 ?_); refine cL h18' c64 ?_)) <;> with_reducible refine wK ?_)
  | apply trivial)); all_goals clear fct)
   all_goals simp

def smallX (x : NodeM) : Bool := decide (x.kids.length ≤ 60) && decide (x.attrs.length ≤ 60) && decide (x.name.size ≤ 300)
theorem short_eq (f : ForM) : shortF f = (decide (f.nodes.length ≤ 60) && f.nodes.all smallX) := rfl
theorem all_no {α : Type} {p : α → Bool} {l : List α} {k : Nat} {x : α} (h : l[k]? = some x) (hp : p x = false) : l.all p = false := by
 rw [Bool.eq_false_iff]
 intro h1
 rw [List.all_eq_true] at h1
 rw [h1 x (List.mem_of_getElem? h)] at hp; cases hp
theorem all_yes {α : Type} {p : α → Bool} {l : List α} (h : ∀ (k : Nat) (x : α), l[k]? = some x → p x = true) : l.all p = true := by
 rw [List.all_eq_true]
 intro x hx
 obtain ⟨k, hk⟩ := List.getElem?_of_mem hx
 exact h k x hk
theorem f16_ok (f : ForM) : FnOK Tryz.prog 16 [] [eFor f] [] (eBool (shortF f)) := by
 rw [short_eq]
 obtain ⟨l, m⟩ := f
 simp only
 have hlm : (l.map oNode).length = l.length := List.length_map ..
 refine FnOK.startC (rvs := [.tmp 2]) G G_good Tryz.func16 rfl Tryz.ntmps16 rfl rfl ?_; with_reducible refine wD ?_
 by_cases e0 : (60 : Int) < (l.length : Int)
 ·rw [decide_eq_false (show ¬ l.length ≤ 60 by omega)]
  (have fct := And.intro hlm (e0); (repeat' (first
  | refine gF ?_ | refine aE ?_ ?_
  | apply trivial)); all_goals clear fct)
  all_goals rfl
 rw [decide_eq_true (show l.length ≤ 60 by omega), Bool.true_and]
 (have fct := And.intro hlm ((eq_false e0)); (repeat' (first
  | refine gF ?_ | refine aE ?_ ?_
  | apply trivial)); all_goals clear fct)
 refine LoopK.use G G_good (fun (k : Nat) => [(1, .ptr 10 0 0), (3, eInt k)]) (fun _ => [(10, .live 2 [eFor ⟨l, m⟩] false)])
  (fun k => k ≤ l.length ∧ ∀ (j : Nat) (y : NodeM), j < k → l[j]? = some y → smallX y = true) (fun k => l.length - k) 0 ⟨Nat.zero_le _, fun j y h => by omega⟩
  ⟨⟨rfl, rfl⟩, ⟨⟨rfl, rfl⟩, rfl, trivial⟩, ⟨⟨rfl, rfl, trivial⟩, trivial⟩, trivial⟩ ?_
 rintro k ⟨hk, hok⟩
 with_reducible refine wK ?_
 refine IfK.mk (fun h1 => ?_) (fun h1 => ?_) <;> (try simp only [castN] at h1) <;> with_reducible refine wK ?_
 ·have hk' : k < l.length := by simp only [decide_eq_true_eq] at h1; omega
  obtain ⟨x, hx⟩ : ∃ x, l[k]? = some x := ⟨_, List.getElem?_eq_getElem hk'⟩
  have bad : smallX x = false → l.all smallX = false := fun h => all_no hx h
  have good : smallX x = true → ∀ (j : Nat) (y : NodeM), j < k + 1 → l[j]? = some y → smallX y = true := fun h j y hj hy => by
   rcases Nat.lt_or_ge j k with h6 | h6
   ·exact hok j y h6 hy
   ·have : j = k := by omega
    subst this
    rw [hx] at hy; cases hy; exact h
  obtain ⟨a1, a2, a3, a4, a5, a6, a7, a8, a9, a10⟩ := x
  have hla : (a5.map oAttr).length = a5.length := List.length_map ..
  have hlk : (a7.map oInt).length = a7.length := List.length_map ..
  have sm : smallX ⟨a1, a2, a3, a4, a5, a6, a7, a8, a9, a10⟩ = (decide (a7.length ≤ 60) && decide (a5.length ≤ 60) && decide (a2.size ≤ 300)) := rfl
  rw [sm] at bad good
  refine IdxK.mk k (eNode _) rfl (node_get hx) ?_; with_reducible refine wK ?_
  by_cases e1 : (60 : Int) < (a7.length : Int)
  ·rw [bad (by rw [decide_eq_false (show ¬ a7.length ≤ 60 by omega)]; rfl)]
   (have fct := And.intro hlk (e1); (repeat' (first
  | refine gF ?_ | refine aE ?_ ?_
  | apply trivial)); all_goals clear fct)
  by_cases e2 : (60 : Int) < (a5.length : Int)
  ·rw [bad (by rw [decide_eq_false (show ¬ a5.length ≤ 60 by omega), Bool.and_false]; rfl)]
   (have fct := And.intro hlk (And.intro hla (And.intro (eq_false e1) (e2))); (repeat' (first
  | refine gF ?_ | refine aE ?_ ?_
  | ((refine IdxK.mk k (eNode _) rfl (node_get hx) ?_) <;> with_reducible refine wK ?_)
  | apply trivial)); all_goals clear fct)
  by_cases e3 : (300 : Int) < (a2.size : Int)
  ·rw [bad (by rw [decide_eq_false (show ¬ a2.size ≤ 300 by omega), Bool.and_false])]
   (have fct := And.intro hlk (And.intro hla (And.intro (eq_false e1) (And.intro (eq_false e2) (e3)))); (repeat' (first
  | refine gF ?_ | refine aE ?_ ?_
  | ((refine IdxK.mk k (eNode _) rfl (node_get hx) ?_) <;> with_reducible refine wK ?_)
  | apply trivial)); all_goals clear fct)
  have hnx := good (by simp only [Bool.and_eq_true, decide_eq_true_eq]; omega)
  (have fct := And.intro hlk (And.intro hla (And.intro (eq_false e1) (And.intro (eq_false e2) ((eq_false e3))))); (repeat' (first
  | refine gF ?_ | refine aE ?_ ?_
  | ((first
   | (refine IdxK.mk k (eNode _) rfl (node_get hx) ?_)
   | ((with_reducible show NextK _ _); refine NextK.mk (k + 1) ⟨by omega, hnx⟩ (by omega) ⟨⟨rfl, rfl⟩, ⟨⟨rfl, rfl⟩, by show ((k + 1 : Nat) : Int) = (k : Int) + 1; omega, trivial⟩, ⟨⟨rfl, rfl, trivial⟩, trivial⟩, trivial⟩)) <;> with_reducible refine wK ?_)
  | apply trivial)); all_goals clear fct)
 ·have hkl : k = l.length := by simp only [decide_eq_false_iff_not] at h1; omega
  rw [all_yes fun j y hy => hok j y (by have := (List.getElem?_eq_some_iff.1 hy).1; omega) hy]
  (refine eK ?_ ?_ <;> with_reducible repeat' (first | exact trivial | (show _ ∧ _; refine aK ?_ ?_)))
theorem node_at {l : List NodeM} {n : Int} (h : 0 ≤ n ∧ n < (l.length : Int)) : ∃ (i : Nat) (y : NodeM), n = (i : Int) ∧ l[i]? = some y ∧ nd l n = y := by
  obtain ⟨i, y, h1, h2, h3⟩ := there_iff.1 (show thereN l n = true by unfold thereN; simp; omega)
  exact ⟨i, y, h1, h2, h3⟩
theorem CutK {P : Program} {N nL : Nat} {sl : SL} {m : ML} {c : Code} {Q : Exit → SL → ML → Prop} {F G : Prop} (main : (F → LoopK P N nL sl m (c := c) (Q := Q)) → G) (rest : F → LoopK P N nL sl m (c := c) (Q := Q)) : G := main rest

theorem f128_ok (f : ForM) (n : Int) : FnOK Tryz.prog 128 [] [eInt n, .fptr (eFor f) 0] [] (eBool (!thereN f.nodes n)) := by
 have h49 := f129_ok f n
 obtain ⟨l, m⟩ := f
 simp only at h49 ⊢
 refine FnOK.startC (rvs := [.tmp 3]) G G_good Tryz.func128 rfl Tryz.ntmps128 rfl rfl ?_; with_reducible refine wD ?_
 refine cL h49 c129 ?_; with_reducible refine wK ?_
 (refine eK ?_ ?_ <;> with_reducible repeat' (first | exact trivial | (show _ ∧ _; refine aK ?_ ?_)))
 all_goals rfl
theorem f127_ok (g : Nat) (cg : Callable Tryz.prog g) (caps : List AV) (hcaps : noRefL caps = true) (p : Int → Bool) (l : List Int) (hl : l.length ≤ 100000) (hf : ∀ a, a ∈ l → FnOK Tryz.prog g [] (eInt a :: caps) [] (eBool (p a))) :
  FnOK Tryz.prog 127 [] [eInts l, .clo (.func g) [] caps] [] (eBool (decide (0 ≤ idxI p l))) := by
 have h34 := f125_ok g cg caps hcaps p l hl hf
 refine FnOK.startC (rvs := [.tmp 4]) G G_good Tryz.func127 rfl Tryz.ntmps127 rfl rfl ?_; with_reducible refine wD ?_
 refine CallK.lit [] h34 c125 ⟨rfl, ⟨rfl, trivial, MFL_refl hcaps⟩, trivial⟩ rfl rfl ?_; with_reducible refine wK ?_
 (refine eK ?_ ?_ <;> with_reducible repeat' (first | exact trivial | (show _ ∧ _; refine aK ?_ ?_)))
 all_goals rfl
theorem f63_ok (f : ForM) (hs : SmallN f.nodes) (l : List Int) (hl : l.length ≤ 100000) : FnOK Tryz.prog 63 [] [eFor f, eInts l] [] (eBool (rightF f && !decide (0 ≤ idxI (fun n => !thereN f.nodes n) l))) := by
 have h23 := f55_ok f hs
 have h47 := f127_ok 128 c128 [.fptr (eFor f) 0] rfl (fun n => !thereN f.nodes n) l hl (fun a _ => f128_ok f a)
 obtain ⟨ns, m⟩ := f
 simp only at h23 h47 ⊢
 refine FnOK.startC (rvs := [.tmp 4]) G G_good Tryz.func63 rfl Tryz.ntmps63 rfl rfl ?_; with_reducible refine wD ?_
 refine cL h23 c55 ?_; with_reducible refine wK ?_
 cases hr : rightF ⟨ns, m⟩ with
 | false =>
   (have fct := hr; (repeat' (first
  | refine gF ?_ | refine aE ?_ ?_
  | apply trivial)); all_goals clear fct)
   all_goals rfl
 | true =>
   refine IfK.tt ?_; with_reducible refine wK ?_
   refine CallK.lit [50] h47 c127 ⟨rfl, ⟨rfl, trivial, ⟨_, _, _, _, _, rfl, rfl, rfl, rfl, rfl, ⟨rfl, rfl, trivial⟩⟩, trivial⟩, trivial⟩ rfl rfl ?_; with_reducible refine wK ?_
   (refine eK ?_ ?_ <;> with_reducible repeat' (first | exact trivial | (show _ ∧ _; refine aK ?_ ?_)))
   all_goals rfl
def chU (x : NodeM) : List Int := (if x.under = -1 then [] else [x.under]) ++ x.kids
namespace U
def finN (l : List NodeM) : Nat → Int → Bool
 | 0, _ => false
 | m + 1, n => if (upN (nd l n)) = -1 then true else finN l m (upN (nd l n))
def chN (l : List NodeM) : Nat → Int → List Int
 | 0, _ => []
 | m + 1, n => n :: if (upN (nd l n)) = -1 then [] else chN l m (upN (nd l n))
def ordN (l : List NodeM) : Nat → Int → List Int
 | 0, _ => []
 | m + 1, n => n :: (chU (nd l n)).flatMap (ordN l m)
def wayN (l : List NodeM) (n : Int) : List Int := chN l l.length n
theorem fin_of_ends {l : List NodeM} : ∀ {m : Nat} {n : Int}, endsN l m n = true → finN l m n = true
 | 0, n, h => by simp [endsN] at h
 | m + 1, n, h => by
   unfold finN; unfold endsN at h
   by_cases hp : upN (nd l n) = -1
   ·rw [if_pos hp]
   ·rw [if_neg hp] at h ⊢; exact fin_of_ends h
theorem ch_more {l : List NodeM} : ∀ {m k : Nat} {n : Int}, finN l m n = true → m ≤ k → chN l k n = chN l m n
 | 0, k, n, h, _ => by simp [finN] at h
 | m + 1, k, n, h, hk => by
   obtain ⟨k, rfl⟩ : ∃ j, k = j + 1 := ⟨k - 1, by omega⟩
   unfold finN at h
   unfold chN
   by_cases hp : (upN (nd l n)) = -1
   ·rw [if_pos hp, if_pos hp]
   ·rw [if_neg hp] at h
    rw [if_neg hp, if_neg hp, ch_more h (by omega)]
structure Tree (l : List NodeM) : Prop where
 par : ∀ n, thereN l n = true → (upN (nd l n)) ≠ -1 → thereN l (upN (nd l n)) = true ∧ n ∈ (chU (nd l (upN (nd l n))))
 kid : ∀ n, thereN l n = true → ∀ k ∈ (chU (nd l n)), thereN l k = true ∧ (upN (nd l k)) = n
 dup : ∀ n, thereN l n = true → (chU (nd l n)).Nodup
 fin : ∀ n, thereN l n = true → finN l l.length n = true
variable {l : List NodeM}
theorem up_ind (T : Tree l) {P : Int → Prop} (h0 : ∀ n, thereN l n = true → (upN (nd l n)) = -1 → P n) (h1 : ∀ n, thereN l n = true → (upN (nd l n)) ≠ -1 → thereN l (upN (nd l n)) = true → P (upN (nd l n)) → P n) : ∀ n, thereN l n = true → P n := by
 have H : ∀ (m : Nat) (n : Int), thereN l n = true → finN l m n = true → P n := by
  intro m
  induction m with
  | zero => intro n _ h; simp [finN] at h
  | succ m ih =>
    intro n hn h
    unfold finN at h
    by_cases hp : (upN (nd l n)) = -1
    ·exact h0 n hn hp
    ·rw [if_neg hp] at h
     have hq := (T.par n hn hp).1
     exact h1 n hn hp hq (ih _ hq h)
 exact fun n hn => H _ n hn (T.fin n hn)
theorem way_top (T : Tree l) {n : Int} (hn : thereN l n = true) (hp : (upN (nd l n)) = -1) : wayN l n = [n] := by
 have := there_pos hn
 obtain ⟨m, hm⟩ : ∃ m, l.length = m + 1 := ⟨l.length - 1, by omega⟩
 unfold wayN; rw [hm]; unfold chN; rw [if_pos hp]
theorem way_step (T : Tree l) {n : Int} (hn : thereN l n = true) (hp : (upN (nd l n)) ≠ -1) : wayN l n = n :: wayN l (upN (nd l n)) := by
 have := there_pos hn
 obtain ⟨m, hm⟩ : ∃ m, l.length = m + 1 := ⟨l.length - 1, by omega⟩
 have hf := T.fin n hn
 unfold wayN; rw [hm] at hf ⊢
 unfold finN at hf
 rw [if_neg hp] at hf
 rw [chN, if_neg hp, ch_more hf (Nat.le_succ m)]
theorem way_kid (T : Tree l) {n k : Int} (hn : thereN l n = true) (hk : k ∈ (chU (nd l n))) : wayN l k = k :: wayN l n := by
 have h := T.kid n hn k hk
 have h0 := there_pos hn
 have hp : (upN (nd l k)) ≠ -1 := by rw [h.2]; omega
 rw [way_step T h.1 hp, h.2]
theorem way_head (T : Tree l) {n : Int} (hn : thereN l n = true) : ∃ r, wayN l n = n :: r := by
 by_cases hp : (upN (nd l n)) = -1
 ·exact ⟨[], way_top T hn hp⟩
 ·exact ⟨_, way_step T hn hp⟩
theorem way_self (T : Tree l) {n : Int} (hn : thereN l n = true) : n ∈ wayN l n := by
 obtain ⟨r, hr⟩ := way_head T hn; rw [hr]; exact List.mem_cons_self
theorem way_there (T : Tree l) : ∀ n, thereN l n = true → ∀ a ∈ wayN l n, thereN l a = true := by
 refine up_ind T (fun n hn hp a ha => ?_) (fun n hn hp hq ih a ha => ?_)
 ·rw [way_top T hn hp] at ha; rw [List.mem_singleton.1 ha]; exact hn
 ·rw [way_step T hn hp] at ha
  rcases List.mem_cons.1 ha with rfl | h
  ·exact hn
  ·exact ih a h
theorem way_cut (T : Tree l) : ∀ n, thereN l n = true → ∀ a ∈ wayN l n, ∃ t, wayN l n = t ++ wayN l a := by
 refine up_ind T (fun n hn hp a ha => ?_) (fun n hn hp hq ih a ha => ?_)
 ·have h := ha; rw [way_top T hn hp] at h; rw [List.mem_singleton.1 h]; exact ⟨[], rfl⟩
 ·have h := ha
  rw [way_step T hn hp] at h
  rcases List.mem_cons.1 h with rfl | h
  ·exact ⟨[], rfl⟩
  ·obtain ⟨t, ht⟩ := ih a h
   exact ⟨n :: t, by rw [way_step T hn hp, ht]; rfl⟩
theorem way_trans (T : Tree l) {a b c : Int} (hc : thereN l c = true) (h1 : a ∈ wayN l b) (h2 : b ∈ wayN l c) : a ∈ wayN l c := by
 obtain ⟨t, ht⟩ := way_cut T c hc b h2
 rw [ht]; exact List.mem_append_right _ h1
theorem way_eq (T : Tree l) {n a b : Int} (hn : thereN l n = true) (ha : a ∈ wayN l n) (hb : b ∈ wayN l n) (he : (wayN l a).length = (wayN l b).length) : a = b := by
 obtain ⟨t, ht⟩ := way_cut T n hn a ha
 obtain ⟨s, hs⟩ := way_cut T n hn b hb
 rw [ht] at hs
 have h := (List.append_inj' hs he).2
 obtain ⟨r, hr⟩ := way_head T (way_there T n hn a ha)
 obtain ⟨q, hq⟩ := way_head T (way_there T n hn b hb)
 rw [hr, hq] at h
 exact (List.cons.inj h).1
theorem tree_of {f : ForM} (h : rightF f = true) : Tree f.nodes := by
 have hN := right_nodes h
 have T := Heir.tree_of h
 have kidK : ∀ n, thereN f.nodes n = true → ∀ c ∈ (nd f.nodes n).kids, (nd f.nodes c).kind = 1 ∨ (nd f.nodes c).kind = 2 := by
  intro n hn c hc
  have h1 := hN n hn
  unfold nodeOK bearsN at h1
  simp only [Bool.and_eq_true] at h1
  have h2 := (kidsOK_iff.1 h1.2.2.2.1.1).1 c hc
  unfold kidP at h2
  simp only [Bool.and_eq_true, Bool.or_eq_true, decide_eq_true_eq] at h2
  rcases h2.2.2.2 with h3 | h3
  ·exact .inl h3
  ·exact .inr h3.1
 have und : ∀ n, thereN f.nodes n = true → (nd f.nodes n).under ≠ -1 → thereN f.nodes (nd f.nodes n).under = true ∧ (nd f.nodes (nd f.nodes n).under).kind = 4 ∧ (nd f.nodes (nd f.nodes n).under).host = n := by
  intro n hn hu
  have h1 := hN n hn
  unfold nodeOK shadedN isN at h1
  simp only [Bool.and_eq_true, Bool.or_eq_true, decide_eq_true_eq] at h1
  rcases h1.2.2.2.2.2 with h2 | h2
  ·exact absurd h2 hu
  ·exact ⟨h2.1.2.1, h2.1.2.2, h2.2⟩
 have top4 : ∀ n, thereN f.nodes n = true → (nd f.nodes n).kind = 4 → (nd f.nodes n).parent = -1 := by
  intro n hn hk
  have h1 := hN n hn
  unfold nodeOK hungN at h1
  simp only [Bool.and_eq_true, Bool.or_eq_true, decide_eq_true_eq] at h1
  rcases h1.2.2.1 with h2 | h2
  ·exact h2
  ·rcases h2.1.1.1 with h3 | h3 <;> (rw [hk] at h3; cases h3)
 have mem : ∀ (x : NodeM) (k : Int), k ∈ chU x ↔ (x.under ≠ -1 ∧ k = x.under) ∨ k ∈ x.kids := by
  intro x k
  unfold chU
  rw [List.mem_append]
  by_cases hu : x.under = -1
  ·simp [hu]
  ·simp [hu]
 refine ⟨fun n hn hp => ?_, fun n hn k hk => ?_, fun n hn => ?_, fun n hn => fin_of_ends (right_ends h n hn)⟩
 ·unfold upN at hp ⊢
  by_cases hq : (nd f.nodes n).parent = -1
  ·rw [if_pos hq] at hp ⊢
   have h1 := hN n hn
   unfold nodeOK shadedN at h1
   simp only [Bool.and_eq_true] at h1
   have h2 := h1.2.2.2.2.1
   by_cases hk : (nd f.nodes n).kind = 4
   ·rw [if_pos hk] at h2
    unfold isN at h2
    simp only [Bool.and_eq_true, decide_eq_true_eq] at h2
    refine ⟨h2.1.1.1, (mem _ _).2 (.inl ⟨?_, h2.1.2.symm⟩)⟩
    rw [h2.1.2]
    have := there_pos hn
    omega
   ·rw [if_neg hk] at h2
    exact absurd (by simpa using h2) hp
  ·rw [if_neg hq]
   have h1 := T.par n hn hq
   exact ⟨h1.1, (mem _ _).2 (.inr h1.2)⟩
 ·have hn0 := there_pos hn
  rcases (mem _ _).1 hk with ⟨h1, rfl⟩ | h1
  ·obtain ⟨h2, h3, h4⟩ := und n hn h1
   exact ⟨h2, by unfold upN; rw [if_pos (top4 _ h2 h3)]; exact h4⟩
  ·obtain ⟨h2, h3⟩ := T.kid n hn k h1
   exact ⟨h2, by unfold upN; rw [if_neg (by rw [h3]; omega)]; exact h3⟩
 ·unfold chU
  by_cases hu : (nd f.nodes n).under = -1
  ·rw [if_pos hu]; exact T.dup n hn
  ·rw [if_neg hu]
   refine List.nodup_cons.2 ⟨fun hm => ?_, T.dup n hn⟩
   have h1 := (und n hn hu).2.1
   rcases kidK n hn _ hm with h2 | h2 <;> (rw [h1] at h2; cases h2)
end U
theorem AppK.take {rb rs : List AV} {off len off' len' bytes : Nat} {acc : Tk} {sl : SL} {m : ML} {A : List AV → Tk → SL → ML → Prop} (rows0 news : List AV) (h0 : off = 0 ∧ len ≤ rb.length ∧ rows0 = rb.take len) (h1 : off' = 0 ∧ len' = rs.length ∧ news = rs) (h2 : oneL (flat news) = true)
  (h3 : (rows0.length + news.length) * bytes ≤ 140737488355328) (h4 : rows0.length + news.length ≤ 9223372036854775807) (h : A (rows0 ++ news) acc sl m) : AppK rb off len rs off' len' bytes acc sl m (A := A) := by
 obtain ⟨rfl, hl, rfl⟩ := h0
 obtain ⟨rfl, rfl, rfl⟩ := h1
 exact ⟨_, _, by omega, by simp, by omega, by simp, h2, h3, h4, h⟩
namespace U
variable {l : List NodeM}
def rest (l : List NodeM) (st : List Int) : List Int := st.reverse.flatMap (ordN l l.length)
end U
end Go.Proofs.Heir
section
namespace Go.Proofs.Heir
open Go Go.Am Go.RowKit Go.Lib
set_option maxRecDepth 100000
theorem f19_ok (f : ForM) (hs : SmallN f.nodes) (n : Int) : FnOK Tryz.prog 19 [] [eFor f, eInt n] [] (eInt (if thereN f.nodes n && rightF f then legN f.nodes n else -1)) := by
  have h13 := f17_ok f hs
  have h20 : rightF f = true → ∀ (k : Nat) (x : NodeM), f.nodes[k]? = some x → FnOK Tryz.prog 62 [] [eFor f, eInt k] [] (eInt (legN f.nodes k)) := fun hr k x hx => f62_ok f hs k x hx fun c hc => by
    have := (tree_of hr).kid k (there_get hx) c
    rw [nd_get hx] at this
    exact (this hc).1
  obtain ⟨l, m⟩ := f
  simp only at h13 h20 ⊢
  have hlm : (l.map oNode).length = l.length := List.length_map ..
  refine FnOK.startC (rvs := [.tmp 4]) G G_good Tryz.func19 rfl Tryz.ntmps19 rfl rfl ?_; with_reducible refine wD ?_
  by_cases e0 : n < 0
  · have ht : thereN l n = false := by unfold thereN; simp; omega
    rw [ht]
    (have fct := e0; (repeat' (first
    | refine gF ?_
    | ((with_reducible show (_ ∧ _) ∧ _ ∧ _); (refine eK ?_ ?_ <;> with_reducible repeat' (first | exact trivial | (show _ ∧ _; refine aK ?_ ?_)))))); all_goals clear fct)
    all_goals simp
  by_cases e1 : (l.length : Int) ≤ n
  · have ht : thereN l n = false := by unfold thereN; simp; omega
    rw [ht]
    (have fct := And.intro (eq_false e0) (And.intro hlm (e1)); (repeat' (first
    | refine gF ?_
    | ((with_reducible show (_ ∧ _) ∧ _ ∧ _); (refine eK ?_ ?_ <;> with_reducible repeat' (first | exact trivial | (show _ ∧ _; refine aK ?_ ?_)))))); all_goals clear fct)
    all_goals simp
  have ht : thereN l n = true := by unfold thereN; simp; omega
  obtain ⟨k, x, rfl, hx, _⟩ := there_iff.1 ht
  rw [ht]
  cases hr : rightF ⟨l, m⟩ with
  | false =>
    (have fct := And.intro hlm (And.intro (eq_false e0) (And.intro (eq_false e1) (hr))); (repeat' (first
    | refine gF ?_
    | (((with_reducible show CallK _ _ 17 _ _ _ _); refine CallK.lit [] h13 c17 ⟨⟨rfl, rfl, trivial⟩, trivial⟩ rfl rfl ?_) <;> with_reducible refine wK ?_)
    | ((with_reducible show (_ ∧ _) ∧ _ ∧ _); (refine eK ?_ ?_ <;> with_reducible repeat' (first | exact trivial | (show _ ∧ _; refine aK ?_ ?_)))))); all_goals clear fct)
    all_goals simp
  | true =>
    have h20' := h20 hr k x hx
    (have fct := And.intro hlm (And.intro (eq_false e0) (And.intro (eq_false e1) (hr))); (repeat' (first
    | refine gF ?_
    | ((first
      | ((with_reducible show CallK _ _ 17 _ _ _ _); refine CallK.lit [] h13 c17 ⟨⟨rfl, rfl, trivial⟩, trivial⟩ rfl rfl ?_)
      | ((with_reducible show CallK _ _ 62 _ _ _ _); refine CallK.lit [] h20' c62 ⟨⟨rfl, rfl, trivial⟩, rfl, trivial⟩ rfl rfl ?_)) <;> with_reducible refine wK ?_)
    | ((with_reducible show (_ ∧ _) ∧ _ ∧ _); (refine eK ?_ ?_ <;> with_reducible repeat' (first | exact trivial | (show _ ∧ _; refine aK ?_ ?_)))))); all_goals clear fct)
    all_goals simp
theorem f22_ok (f : ForM) (hs : SmallN f.nodes) : FnOK Tryz.prog 22 [] [eFor f] [] (eInts (if rightF f then barTo f.nodes f.nodes.length else [])) := by
  have h13 := f17_ok f hs
  have hl := hs.len
  have h18 : rightF f = true → ∀ (k : Nat) (x : NodeM), f.nodes[k]? = some x → FnOK Tryz.prog 64 [] [eFor f, eInt k] [] (eBool (barN f.nodes k)) := fun hr k x hx => f64_ok f hs (tree_of hr) k x hx
  obtain ⟨l, m⟩ := f
  simp only at h13 h18 hl ⊢
  have hlm : (l.map oNode).length = l.length := List.length_map ..
  refine FnOK.startC (rvs := [.tmp 2]) G G_good Tryz.func22 rfl Tryz.ntmps22 rfl rfl ?_; with_reducible refine wD ?_
  refine CallK.lit [] h13 c17 ⟨⟨rfl, rfl, trivial⟩, trivial⟩ rfl rfl ?_; with_reducible refine wK ?_
  cases hr : rightF ⟨l, m⟩ with
  | false =>
    rw [if_neg (show ¬ false = true by decide)]
    (have fct := hr; (repeat' (first
    | refine gF ?_
    | ((with_reducible show (_ ∧ _) ∧ _ ∧ _); (refine eK ?_ ?_ <;> with_reducible repeat' (first | exact trivial | (show _ ∧ _; refine aK ?_ ?_)))))); all_goals clear fct)
    all_goals exact .inr (.inr ⟨1, rfl⟩)
  | true =>
    have h18' := h18 hr
    rw [if_pos rfl]
    refine IfK.ff ?_; with_reducible refine wK ?_
    refine LoopK.ghost 3 31 1 rfl rfl ?_
    refine LoopK.use G G_good (fun (k : Nat) => [(1, .ptr 10 0 0), (3, .own 31 0 (barTo l k).length), (10, eInt l.length), (11, eInt k)]) (fun k => [(10, .live 2 [eFor ⟨l, m⟩] false), (31, rInts (barTo l k))]) (fun k => k ≤ l.length) (fun k => l.length - k) 0 (Nat.zero_le _)
      ⟨⟨rfl, rfl⟩, ⟨⟨rfl, rfl⟩, ⟨rfl, rfl⟩, by show (l.length : Int) = ((l.map oNode).length : Int); rw [hlm], rfl, trivial⟩, ⟨⟨rfl, rfl, trivial⟩, trivial⟩, ⟨.refl rfl, noRef_ints _⟩, trivial⟩ ?_
    intro k hk
    with_reducible refine wK ?_
    refine IfK.mk (fun h1 => ?_) (fun h1 => ?_) <;> (try simp only [castN] at h1) <;> with_reducible refine wK ?_
    · have hk' : k < l.length := by simp only [decide_eq_true_eq] at h1; omega
      obtain ⟨x, hx⟩ : ∃ x, l[k]? = some x := ⟨_, List.getElem?_eq_getElem hk'⟩
      have h18k := h18' k x hx
      have hst := bar_step l k
      have hln := bar_len l k
      have hbl : ((barTo l k).map oInt).length = (barTo l k).length := List.length_map ..
      refine CallK.lit [] h18k c64 ⟨⟨rfl, rfl, trivial⟩, rfl, trivial⟩ rfl rfl ?_; with_reducible refine wK ?_
      cases hb : barN l (k : Int) with
      | true =>
        rw [hb, if_pos rfl] at hst
        refine IfK.tt ?_; with_reducible refine wK ?_
        refine AppK.mk ((barTo l k).map oInt) [eInt k] ⟨rfl, hbl.symm, rfl⟩ ⟨rfl, rfl, rfl⟩ rfl (by simp; omega) (by simp; omega) ?_; with_reducible refine wK ?_
        refine nK ?_; with_reducible refine wK ?_
        refine NextK.mk (k + 1) (by omega) (by omega) ⟨⟨rfl, rfl⟩, ⟨⟨rfl, rfl⟩, ⟨rfl, ?_⟩, rfl, by show ((k + 1 : Nat) : Int) = (k : Int) + 1; omega, trivial⟩, ⟨⟨rfl, rfl, trivial⟩, trivial⟩, ⟨?_, noRef_ints _⟩, trivial⟩
        · rw [hst]; simp
        · rw [hst, ← snoc_ints]; exact .refl (by rw [snoc_ints]; exact noRef_ints _)
      | false =>
        rw [hb, if_neg (by decide)] at hst
        refine IfK.ff ?_; with_reducible refine wK ?_
        refine nK ?_; with_reducible refine wK ?_
        refine NextK.mk (k + 1) (by omega) (by omega) ⟨⟨rfl, rfl⟩, ⟨⟨rfl, rfl⟩, ⟨rfl, ?_⟩, rfl, by show ((k + 1 : Nat) : Int) = (k : Int) + 1; omega, trivial⟩, ⟨⟨rfl, rfl, trivial⟩, trivial⟩, ⟨?_, noRef_ints _⟩, trivial⟩
        · rw [hst]
        · rw [hst]; exact .refl (noRef_ints _)
    · (refine eK ?_ ?_ <;> with_reducible repeat' (first | exact trivial | (show _ ∧ _; refine aK ?_ ?_)))
      have hkl : k = l.length := by simp only [decide_eq_false_iff_not] at h1; omega
      subst hkl
      exact frz_ints rfl rfl rfl rfl
theorem f20_ok (f : ForM) (hs : SmallN f.nodes) (hr : rightF f = true) (a b : Int) (ha : thereN f.nodes a = true) (hb : thereN f.nodes b = true) : FnOK Tryz.prog 20 [] [eFor f, eInt a, eInt b] [] (eBool (holdsN f.nodes a b)) := by
  have T := tree_of hr
  have h25 := f63_ok f hs [a, b] (by simp)
  have h0 : idxI (fun n => !thereN f.nodes n) [a, b] = -1 := idxI_none fun j x hx => by
    have : x ∈ [a, b] := List.mem_of_getElem? hx
    simp only [List.mem_cons, List.not_mem_nil, or_false] at this
    rcases this with rfl | rfl
    · rw [ha]; rfl
    · rw [hb]; rfl
  rw [h0, hr, show (true && !decide ((0 : Int) ≤ -1)) = true from rfl] at h25
  unfold holdsN
  have hstep := fun n h1 h2 => way_step T (n := n) h1 h2
  have hself := fun n h1 => way_self T (n := n) h1
  have htop := fun n h1 h2 => way_top T (n := n) h1 h2
  have hpar : ∀ n, thereN f.nodes n = true → (nd f.nodes n).parent = -1 ∨ thereN f.nodes (nd f.nodes n).parent = true := fun n hn => by
    by_cases h : (nd f.nodes n).parent = -1
    · exact .inl h
    · exact .inr (T.par n hn h).1
  obtain ⟨l, m⟩ := f
  simp only at h25 hb hstep htop hself hpar ha ⊢
  refine FnOK.startC (rvs := [.tmp 6]) G G_good Tryz.func20 rfl Tryz.ntmps20 rfl rfl ?_; with_reducible refine wD ?_
  refine CallK.lit [101] h25 c63 ⟨⟨rfl, rfl, trivial⟩, ⟨_, _, _, _, rfl, rfl, rfl, Nat.le_refl _, rfl, .refl rfl⟩, trivial⟩ rfl rfl ?_; with_reducible refine wK ?_
  refine IfK.no rfl ?_; with_reducible refine wK ?_
  refine LoopK.use G G_good (fun (c : Int) => [(1, eInt a), (2, eInt c), (3, .ptr 30 0 0)]) (fun _ => [(30, .live 2 [eFor ⟨l, m⟩] false)])
    (fun c => (c = -1 ∨ thereN l c = true) ∧ (a ∈ wayN l b ↔ (c ≠ -1 ∧ a ∈ wayN l c))) (fun c => if c = -1 then 0 else (wayN l c).length) b ⟨.inr hb, ⟨fun h => ⟨by have := there_pos hb; omega, h⟩, fun h => h.2⟩⟩
    ⟨⟨rfl, rfl⟩, ⟨rfl, rfl, ⟨rfl, rfl⟩, trivial⟩, ⟨⟨rfl, rfl, trivial⟩, trivial⟩, trivial⟩ ?_
  rintro c ⟨hc, hiff⟩
  with_reducible refine wK ?_
  have ha0 := there_pos ha
  by_cases ec : c = -1
  · subst ec
    have hno : decide (a ∈ wayN l b) = false := decide_eq_false fun h => (hiff.1 h).1 rfl
    rw [hno]
    have hna : ¬ -1 = a := by omega
    (have fct := (eq_false hna); (repeat' (first
    | refine gF ?_
    | ((with_reducible show (_ ∧ _) ∧ _ ∧ _); (refine eK ?_ ?_ <;> with_reducible repeat' (first | exact trivial | (show _ ∧ _; refine aK ?_ ?_)))))); all_goals clear fct)
    all_goals simp [hna]
  · have hct := hc.resolve_left ec
    by_cases ea : c = a
    · subst ea
      have hyes : decide (c ∈ wayN l b) = true := decide_eq_true (hiff.2 ⟨ec, hself c hct⟩)
      rw [hyes]
      (have fct := (eq_false ec); (repeat' (first
    | refine gF ?_
    | ((with_reducible show (_ ∧ _) ∧ _ ∧ _); (refine eK ?_ ?_ <;> with_reducible repeat' (first | exact trivial | (show _ ∧ _; refine aK ?_ ?_)))))); all_goals clear fct)
      all_goals simp
    · obtain ⟨i, y, e, hy, hny⟩ := there_iff.1 hct
      have hpc := hpar c hct
      have hst := hstep c hct
      have htp := htop c hct
      rw [hny] at hpc hst htp
      obtain ⟨b1, b2, b3, b4, b5, b6, b7, b8, b9, b10⟩ := y
      simp only at hpc hst htp
      have hni : (a ∈ wayN l b ↔ (b6 ≠ -1 ∧ a ∈ wayN l b6)) ∧ (if b6 = -1 then 0 else (wayN l b6).length) < (if c = -1 then 0 else (wayN l c).length) := by
        rw [if_neg ec]
        by_cases e6 : b6 = -1
        · rw [htp e6, if_pos e6]
          refine ⟨?_, by simp⟩
          rw [hiff, htp e6]
          constructor
          · rintro ⟨_, h⟩; rw [List.mem_singleton] at h; exact absurd h.symm ea
          · rintro ⟨h, _⟩; exact absurd e6 h
        · rw [hst e6, if_neg e6]
          refine ⟨?_, by simp⟩
          rw [hiff, hst e6, List.mem_cons]
          constructor
          · rintro ⟨_, h | h⟩
            · exact absurd h.symm ea
            · exact ⟨e6, h⟩
          · rintro ⟨_, h⟩; exact ⟨ec, .inr h⟩
      (have fct := And.intro (eq_false ec) ((eq_false ea)); (repeat' (first
    | refine gF ?_
    | ((first
      | (refine IdxK.mk i (eNode ⟨b1, b2, b3, b4, b5, b6, b7, b8, b9, b10⟩) e (node_get hy) ?_)
      | ((with_reducible show NextK _ _); refine NextK.mk b6 ⟨hpc, hni.1⟩ hni.2 ⟨⟨rfl, rfl⟩, ⟨rfl, rfl, ⟨rfl, rfl⟩, trivial⟩, ⟨⟨rfl, rfl, trivial⟩, trivial⟩, trivial⟩)) <;> with_reducible refine wK ?_)
    | ((with_reducible show (_ ∧ _) ∧ _ ∧ _); (refine eK ?_ ?_ <;> with_reducible repeat' (first | exact trivial | (show _ ∧ _; refine aK ?_ ?_)))))); all_goals clear fct)
set_option maxHeartbeats 8000000
theorem bar_pre (l : List NodeM) (k : Nat) : ∀ j, ∃ t, barTo l (k + j) = barTo l k ++ t
  | 0 => ⟨[], by simp⟩
  | j + 1 => by
    obtain ⟨t, ht⟩ := bar_pre l k j
    rw [← Nat.add_assoc, bar_step, ht]
    split
    · exact ⟨t ++ [((k + j : Nat) : Int)], by rw [List.append_assoc]⟩
    · exact ⟨t, rfl⟩
theorem bar_at {l : List NodeM} {k n : Nat} (hk : k < n) (hb : barN l (k : Int) = true) : (barTo l n)[(barTo l k).length]? = some (k : Int) := by
  obtain ⟨t, ht⟩ := bar_pre l (k + 1) (n - (k + 1))
  rw [show k + 1 + (n - (k + 1)) = n by omega] at ht
  rw [ht, bar_step, if_pos hb, List.append_assoc, List.getElem?_append_right (Nat.le_refl _)]
  simp
end Go.Proofs.Heir
end
section
namespace Go.Proofs.Heir
open Go Go.Am Go.RowKit Go.Lib
set_option maxRecDepth 100000
set_option maxHeartbeats 8000000
theorem list_same {α : Type} {x y : List α} (hl : x.length = y.length) (h : ∀ j, j < x.length → x[j]? = y[j]?) : x = y := by
 refine List.ext_getElem? fun j => ?_
 rcases Nat.lt_or_ge j x.length with h6 | h6
 ·exact h j h6
 ·rw [List.getElem?_eq_none h6, List.getElem?_eq_none (by omega)]
theorem same_succ {α : Type} {x y : List α} {k : Nat} (h : ∀ j, j < k → x[j]? = y[j]?) (hk : x[k]? = y[k]?) : ∀ j, j < k + 1 → x[j]? = y[j]? := fun j hj => by
 by_cases e : j = k
 ·rw [e]; exact hk
 ·exact h j (by omega)
set_option maxHeartbeats 8000000
theorem f25_ok (a b : List Int) (ha : a.length ≤ 100000) : FnOK Tryz.prog 25 [] [eInts a, eInts b] [] (eBool (decide (a = b))) := by
 have hlm : (a.map oInt).length = a.length := List.length_map ..
 have hlm' : (b.map oInt).length = b.length := List.length_map ..
 refine FnOK.startC (rvs := [.tmp 4]) G G_good Tryz.func25 rfl Tryz.ntmps25 rfl rfl ?_; with_reducible refine wD ?_
 by_cases g1 : a.length = b.length
 ·(have fct := And.intro hlm (And.intro hlm' (g1)); (repeat' (first
  | refine gF ?_ | refine aE ?_ ?_
  | apply trivial)); all_goals clear fct)
  refine LoopK.use G G_good (fun (k : Nat) => [(0, eInts a), (1, eInts b), (5, eInt k)]) (fun _ => []) (fun k => k ≤ a.length ∧ ∀ j, j < k → a[j]? = b[j]?) (fun k => a.length - k) 0 ⟨Nat.zero_le _, fun j hj => by omega⟩
   ⟨⟨rfl, rfl⟩, ⟨rfl, rfl, rfl, trivial⟩, trivial⟩ ?_
  intro k ⟨hk, hno⟩
  with_reducible refine wK ?_
  refine IfK.mk (fun h1 => ?_) (fun h1 => ?_) <;> (try simp only [castN] at h1) <;> with_reducible refine wK ?_
  ·simp only [hlm, decide_eq_true_eq] at h1
   have hk' : k < a.length := by omega
   obtain ⟨x, hx⟩ : ∃ x, a[k]? = some x := ⟨_, List.getElem?_eq_getElem hk'⟩
   obtain ⟨y, hy⟩ : ∃ y, b[k]? = some y := ⟨_, List.getElem?_eq_getElem (by omega)⟩
   refine IdxK.mk k (eInt x) rfl (int_get hx) ?_; with_reducible refine wK ?_
   refine IdxK.mk k (eInt y) rfl (int_get hy) ?_; with_reducible refine wK ?_
   by_cases e : x = y
   ·(have fct := e; (repeat' (first
  | refine gF ?_ | refine aE ?_ ?_
  | (((with_reducible show NextK _ _); refine NextK.mk (k + 1) ⟨by omega, same_succ hno (by rw [hx, hy, e])⟩ (by omega) ⟨⟨rfl, rfl⟩, ⟨rfl, rfl, by show ((k + 1 : Nat) : Int) = (k : Int) + 1; omega, trivial⟩, trivial⟩) <;> with_reducible refine wK ?_)
  | apply trivial)); all_goals clear fct)
   ·rw [show decide (a = b) = false from decide_eq_false fun h => e (by rw [h] at hx; rw [hx] at hy; exact Option.some.inj hy)]
    (have fct := e; (repeat' (first
  | refine gF ?_ | refine aE ?_ ?_
  | apply trivial)); all_goals clear fct)
  ·have hkl : k = a.length := by simp only [hlm, decide_eq_false_iff_not] at h1; omega
   subst hkl
   rw [show decide (a = b) = true from decide_eq_true (list_same g1 hno)]
   (have fct := hlm; (repeat' (first
  | refine gF ?_ | refine aE ?_ ?_
  | apply trivial)); all_goals clear fct)
 ·rw [show decide (a = b) = false from decide_eq_false fun h => g1 (by rw [h])]
  (have fct := And.intro hlm (And.intro hlm' (g1)); (repeat' (first
  | refine gF ?_ | refine aE ?_ ?_
  | apply trivial)); all_goals clear fct)
end Go.Proofs.Heir
end
