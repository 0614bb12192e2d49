/- Models, plain laws and contracts of functions of the given program; conditions as stated in each theorem. By an AI agent. -/
import Derived.Test.YtkhjcnjicjgfiaaGreatDoorW5
import Derived.Test.YtkhjcnjicjgfiaaGreatDoorW15
import Derived.Laws.Runes
import Derived.Shelf.Strings.Builder1
import Derived.Test.YtkhjcnjicjgfiaaGreatDoorChecked
import Derived.Tactics
import Derived.Test.YtkhjcnjicjgfiaaGreatDoorW4
set_option linter.unusedSimpArgs false
set_option linter.unusedVariables false
namespace Go.Proofs.Heir
open Go Go.Am
set_option maxRecDepth 100000
set_option maxHeartbeats 8000000
theorem mt78 : MapTy Tryz.prog 224 .string (.agg #[.string ByteArray.empty, .string ByteArray.empty]) := ⟨9, 90, by kernel_rfl, by kernel_rfl, fun w => Tryz.zeroValue90 w⟩
noncomputable def fnsT : List (Nat × Func) := [(16, Tryz.f16), (25, Tryz.f25), (54, Tryz.f54), (174, Tryz.f174), (17, Tryz.f17), (207, Tryz.f207), (69, Tryz.f69), (114, Tryz.f114), (133, Tryz.f133), (179, Tryz.f179), (208, Tryz.f208), (55, Tryz.f55), (223, Tryz.f223), (135, Tryz.f135), (137, Tryz.f137), (173, Tryz.f173), (187, Tryz.f187), (115, Tryz.f115), (116, Tryz.f116), (117, Tryz.f117), (118, Tryz.f118), (119, Tryz.f119), (120, Tryz.f120), (127, Tryz.f127), (201, Tryz.f201), (202, Tryz.f202), (203, Tryz.f203), (204, Tryz.f204), (205, Tryz.f205), (67, Tryz.f67), (131, Tryz.f131), (136, Tryz.f136), (129, Tryz.f129), (175, Tryz.f175), (176, Tryz.f176), (177, Tryz.f177), (125, Tryz.f125), (217, Tryz.f217), (218, Tryz.f218), (219, Tryz.f219), (124, Tryz.f124), (180, Tryz.f180), (181, Tryz.f181), (182, Tryz.f182), (73, Tryz.f73), (231, Tryz.f231), (232, Tryz.f232), (183, Tryz.f183), (236, Tryz.f236)]
def kindsT : List (Nat × IntKind) := [(3, .i64), (5, .u8), (21, .i32), (28, .i64)]
theorem fnsT_ok : ∀ p ∈ fnsT, Tryz.prog.funcs[p.1]? = some p.2 ∧ Callable Tryz.prog p.1 := List.forall_mem_cons.2 ⟨⟨Tryz.func16, c16⟩, List.forall_mem_cons.2 ⟨⟨Tryz.func25, c25⟩, List.forall_mem_cons.2 ⟨⟨Tryz.func54, c54⟩, List.forall_mem_cons.2 ⟨⟨Tryz.func174, c174⟩, List.forall_mem_cons.2 ⟨⟨Tryz.func17, c17⟩, List.forall_mem_cons.2 ⟨⟨Tryz.func207, c207⟩, List.forall_mem_cons.2 ⟨⟨Tryz.func69, c69⟩, List.forall_mem_cons.2 ⟨⟨Tryz.func114, c114⟩, List.forall_mem_cons.2 ⟨⟨Tryz.func133, c133⟩, List.forall_mem_cons.2 ⟨⟨Tryz.func179, c179⟩, List.forall_mem_cons.2 ⟨⟨Tryz.func208, c208⟩, List.forall_mem_cons.2 ⟨⟨Tryz.func55, c55⟩, List.forall_mem_cons.2 ⟨⟨Tryz.func223, c223⟩, List.forall_mem_cons.2 ⟨⟨Tryz.func135, c135⟩, List.forall_mem_cons.2 ⟨⟨Tryz.func137, c137⟩, List.forall_mem_cons.2 ⟨⟨Tryz.func173, c173⟩, List.forall_mem_cons.2 ⟨⟨Tryz.func187, c187⟩, List.forall_mem_cons.2 ⟨⟨Tryz.func115, c115⟩, List.forall_mem_cons.2 ⟨⟨Tryz.func116, c116⟩, List.forall_mem_cons.2 ⟨⟨Tryz.func117, c117⟩, List.forall_mem_cons.2 ⟨⟨Tryz.func118, c118⟩, List.forall_mem_cons.2 ⟨⟨Tryz.func119, c119⟩, List.forall_mem_cons.2 ⟨⟨Tryz.func120, c120⟩, List.forall_mem_cons.2 ⟨⟨Tryz.func127, c127⟩, List.forall_mem_cons.2 ⟨⟨Tryz.func201, c201⟩, List.forall_mem_cons.2 ⟨⟨Tryz.func202, c202⟩, List.forall_mem_cons.2 ⟨⟨Tryz.func203, c203⟩, List.forall_mem_cons.2 ⟨⟨Tryz.func204, c204⟩, List.forall_mem_cons.2 ⟨⟨Tryz.func205, c205⟩, List.forall_mem_cons.2 ⟨⟨Tryz.func67, c67⟩, List.forall_mem_cons.2 ⟨⟨Tryz.func131, c131⟩, List.forall_mem_cons.2 ⟨⟨Tryz.func136, c136⟩, List.forall_mem_cons.2 ⟨⟨Tryz.func129, c129⟩, List.forall_mem_cons.2 ⟨⟨Tryz.func175, c175⟩, List.forall_mem_cons.2 ⟨⟨Tryz.func176, c176⟩, List.forall_mem_cons.2 ⟨⟨Tryz.func177, c177⟩, List.forall_mem_cons.2 ⟨⟨Tryz.func125, c125⟩, List.forall_mem_cons.2 ⟨⟨Tryz.func217, c217⟩, List.forall_mem_cons.2 ⟨⟨Tryz.func218, c218⟩, List.forall_mem_cons.2 ⟨⟨Tryz.func219, c219⟩, List.forall_mem_cons.2 ⟨⟨Tryz.func124, c124⟩, List.forall_mem_cons.2 ⟨⟨Tryz.func180, c180⟩, List.forall_mem_cons.2 ⟨⟨Tryz.func181, c181⟩, List.forall_mem_cons.2 ⟨⟨Tryz.func182, c182⟩, List.forall_mem_cons.2 ⟨⟨Tryz.func73, c73⟩, List.forall_mem_cons.2 ⟨⟨Tryz.func231, c231⟩, List.forall_mem_cons.2 ⟨⟨Tryz.func232, c232⟩, List.forall_mem_cons.2 ⟨⟨Tryz.func183, c183⟩, List.forall_mem_cons.2 ⟨⟨Tryz.func236, c236⟩, fun _ h => by simp at h⟩⟩⟩⟩⟩⟩⟩⟩⟩⟩⟩⟩⟩⟩⟩⟩⟩⟩⟩⟩⟩⟩⟩⟩⟩⟩⟩⟩⟩⟩⟩⟩⟩⟩⟩⟩⟩⟩⟩⟩⟩⟩⟩⟩⟩⟩⟩⟩⟩
theorem kindsT_ok : ∀ p ∈ kindsT, Tryz.prog.underlying p.1 = some (.int p.2) := List.forall_mem_cons.2 ⟨by kernel_rfl, List.forall_mem_cons.2 ⟨by kernel_rfl, List.forall_mem_cons.2 ⟨by kernel_rfl, List.forall_mem_cons.2 ⟨by kernel_rfl, fun _ h => by simp at h⟩⟩⟩⟩
def mapsT : MEnv := [(206, .int .i64, .int .i64 0), (224, .string, .agg #[.string ByteArray.empty, .string ByteArray.empty])]
theorem mapsT_ok : MEnv.Good Tryz.prog mapsT := List.forall_mem_cons.2 ⟨mt74, List.forall_mem_cons.2 ⟨mt78, fun _ h => by simp at h⟩⟩
end Go.Proofs.Heir
namespace Go.Proofs.Heir
open Go Go.Am Go.RowKit Go.Lib
set_option maxRecDepth 100000
set_option maxHeartbeats 8000000
theorem i32_run (s t : TypeId) (c : Int) (h1 : Tryz.prog.underlying s = some (.int .i32)) (h2 : Tryz.prog.underlying t = some .string) : ∀ w, (convert s t (.int .i32 c)).run Tryz.prog w = .ok (.string (Utf8.encode c)) w :=
  fun w => run_convert_int_string w s t .i32 c (by rw [h1]; rfl) h2
theorem enc_size (c : Int) : (Utf8.encode c).size ≤ 4 := by
  unfold Utf8.encode
  simp only
  repeat' split
  all_goals exact Nat.le_of_ble_eq_true rfl
@[reducible] def aB : ByteArray := ⟨#[97]⟩
def wordB (r : Nat) : Bool := !rightS (aB ++ Utf8.encode (r : Int))
theorem f232_ok (c : Int) : FnOK Tryz.prog 232 [] [eRune c] [] (eBool (!rightS (aB ++ Utf8.encode c))) := by
  have hsz := enc_size c
  have ha : aB.size = 1 := rfl
  refine FnOK.startC (rvs := [.tmp 2]) G G_good Tryz.func232 rfl Tryz.ntmps232 rfl rfl ?_; with_reducible refine wD ?_
  refine ConvK.mk _ (i32_run 21 9 c (by kernel_rfl) (by kernel_rfl)) ?_; with_reducible refine wK ?_
  refine NeedK.mk (by have := enc_size c; have h1 : (⟨⟨[97]⟩⟩ : ByteArray).size = 1 := rfl; omega) ?_; with_reducible refine wK ?_
  refine CallK.lit [] (f133_ok _) c133 ⟨rfl, trivial⟩ rfl rfl ?_; with_reducible refine wK ?_
  (refine eK ?_ ?_ <;> with_reducible repeat' (first | exact trivial | (show _ ∧ _; refine aK ?_ ?_)))
  all_goals first | rfl | trace_state
theorem f213_word (s : ByteArray) : FnOK Tryz.prog 213 [] [eStr s, .lit (.func (.func 232) #[] #[])] [] (eInt (Lib.idxFunc wordB true s)) :=
  FnOK.of_calls (vs := [.string s, .func (.func 232) #[] #[]]) fun w ht => f213_calls 232 c232 wordB s w ht fun W x ht _ => (f232_ok (x : Int)).below (vs := [.int .i32 (x : Int)]) W ht
theorem f220_nil : FnOK Tryz.prog 220 [.live 2 [.agg [.lit (.pointer none), .lit (.slice none 0 0)]] false] [.ptr 0 0 0] [.live 2 [.agg [.lit (.pointer none), .lit (.slice none 0 0)]] false] (eStr ⟨#[]⟩) := by
  refine FnOK.startC (rvs := [.tmp 2]) G G_good Tryz.func220 rfl Tryz.ntmps220 rfl rfl ?_; with_reducible refine wD ?_
  refine ⟨[], .lit (.pointer none), [], EffOK.lits (ρ := fun _ => .slice none 0 0) (r := .pointer none) (by simp) (fun y hy => ?_) (fun w => ?_) (dst_ok rfl), ?_⟩
  · simp [Op.operands, Call.operands] at hy
    subst hy
    rfl
  · kernel_rfl
  with_reducible refine wK ?_
  refine ⟨[], .lit (.string ⟨#[]⟩), [], EffOK.lits (ρ := fun y => match y with | .tmp 7 => .pointer none | _ => .int .i64 0) (r := .string ⟨#[]⟩) (by simp) (fun y hy => ?_) (fun w => ?_) (dst_ok rfl), ?_⟩
  · simp [Op.operands, Call.operands] at hy
    rcases hy with rfl | rfl <;> rfl
  · kernel_rfl
  with_reducible refine wK ?_
  refine dK ?_; with_reducible refine wK ?_
  (refine eK ?_ ?_ <;> with_reducible repeat' (first | exact trivial | (show _ ∧ _; refine aK ?_ ?_)))
  all_goals first | rfl | exact .inl rfl | exact ⟨rfl, rfl⟩ | trace_state
def orcA : CallT := fun g ins args => match g with
  | 174 => match ins, args with
    | [], [.lit (.string s)] => some ([], eBool (customS s))
    | _, _ => none
  | 133 => match ins, args with
    | [], [.lit (.string s)] => some ([], eBool (rightS s))
    | _, _ => none
  | 67 => match ins, args with
    | [], [.lit (.string s)] => some ([], .tup [eStr (if rightS s then lowS s else ⟨#[]⟩), eInt (if rightS s then 0 else 4)])
    | _, _ => none
  | 213 => match ins, args with
    | [], [.lit (.string s), .lit (.func (.func 232) a b)] => match a.toList, b.toList with
      | [], [] => some ([], eInt (Lib.idxFunc wordB true s))
      | _, _ => none
    | _, _ => none
  | 220 => match ins, args with
    | [.live 2 [.agg [.lit (.pointer none), .lit (.slice none 0 0)]] false], [.ptr 0 0 0] => some ([.live 2 [.agg [.lit (.pointer none), .lit (.slice none 0 0)]] false], eStr ⟨#[]⟩)
    | _, _ => none
  | _ => none
theorem orcA_ok : ∀ g ins args outs res, orcA g ins args = some (outs, res) → FnOK Tryz.prog g ins args outs res ∧ Callable Tryz.prog g := by
  intro g ins args outs res h
  unfold orcA at h
  split at h
  · split at h
    · cases h; exact ⟨f174_ok _, c174⟩
    · cases h
  · split at h
    · cases h; exact ⟨f133_ok _, c133⟩
    · cases h
  · split at h
    · cases h; exact ⟨f67_ok _, c67⟩
    · cases h
  · split at h
    · split at h
      · rename_i ha hb
        cases h
        rename_i a b _ _
        obtain rfl := (Array.ext' ha : _ = #[])
        obtain rfl := (Array.ext' hb : _ = #[])
        exact ⟨f213_word _, c213⟩
      · cases h
    · cases h
  · split at h
    · cases h; exact ⟨f220_nil, c220⟩
    · cases h
  · cases h
noncomputable def envA : EEnv := ⟨G, mapsT, fnsT, kindsT, orcA, []⟩
theorem envA_good : envA.Good Tryz.prog := ⟨G_good, mapsT_ok, fnsT_ok, kindsT_ok, orcA_ok, by kernel_rfl, fun _ h => by cases h⟩
end Go.Proofs.Heir
namespace Go.Proofs
open Go.Shelf
def Tryz.lays169_ren : Go.Shelf.Ren := ⟨fun | 169 => 220 | n => n, fun | 70 => 257 | 9 => 9 | 0 => 0 | 72 => 259 | 37 => 71 | 127 => 280 | 3 => 3 | 5 => 5 | n => n, fun | n => n⟩
theorem Tryz.lays169 : Go.Proofs.Lays.n169 Tryz.prog Tryz.lays169_ren := {
  mixed := by kernel_rfl
  f169 := Tryz.func220.trans (congrArg some (by kernel_rfl))
  t0 := Tryz.underlying0
  a0 := Tryz.isAgg0
  z0 := Tryz.sizeOf0
  v0 := Tryz.zeroValue0
  t3 := Tryz.underlying3
  a3 := Tryz.isAgg3
  z3 := Tryz.sizeOf3
  v3 := Tryz.zeroValue3
  t9 := Tryz.underlying9
  a9 := Tryz.isAgg9
  z9 := Tryz.sizeOf9
  v9 := Tryz.zeroValue9
  t37 := Tryz.underlying71
  a37 := Tryz.isAgg71
  z37 := Tryz.sizeOf71
  v37 := Tryz.zeroValue71
  t70 := Tryz.underlying257
  a70 := Tryz.isAgg257
  z70 := Tryz.sizeOf257
  v70 := Tryz.zeroValue257
  t72 := Tryz.underlying259
  a72 := Tryz.isAgg259
  z72 := Tryz.sizeOf259
  v72 := Tryz.zeroValue259
  t127 := Tryz.underlying280
  a127 := Tryz.isAgg280
  z127 := Tryz.sizeOf280
  v127 := Tryz.zeroValue280 }
theorem Tryz.Builder_Extra_169 : Builder.Extra Tryz.prog Tryz.lays169_ren := {
  sizeBuilder := by kernel_rfl
  liesBuilder := by kernel_rfl
  t5 := Tryz.underlying5
  a5 := Tryz.isAgg5
  z5 := Tryz.sizeOf5
  v5 := Tryz.zeroValue5
  infoByte := by kernel_rfl
  cellsByte := by kernel_rfl
  sizeByte := by kernel_rfl
  neB5 := by decide }
open Go.RowKit in
theorem Tryz.Builder_String_any (B b : Nat) (l : List UInt8) (w : World) (h : Lib.IsBuilder 259 5 B b (Lib.byteCells l) w) (hBw : B ≤ w.heap.size) :
    Calls Tryz.prog 220 #[.pointer (some ⟨b, 0, none⟩)] w fun e w' => e = .returned (.string ⟨l.toArray⟩) ∧ Below B w w' := Any.Builder_String_any Tryz.lays169 Tryz.Builder_Extra_169 B b l w h hBw
def Tryz.lays167_ren : Go.Shelf.Ren := ⟨fun | 167 => 221 | 240 => 233 | 276 => 237 | n => n, fun | 0 => 0 | 4 => 4 | 5 => 5 | 9 => 9 | 20 => 20 | 37 => 71 | 70 => 257 | 72 => 259 | 75 => 98 | 80 => 236 | 164 => 239 | n => n, fun | n => n⟩
theorem Tryz.lays167 : Go.Proofs.Lays.n167 Tryz.prog Tryz.lays167_ren := {
  mixed := by kernel_rfl
  f167 := Tryz.func221.trans (congrArg some (by kernel_rfl))
  f240 := Tryz.func233.trans (congrArg some (by kernel_rfl))
  f276 := Tryz.func237.trans (congrArg some (by kernel_rfl))
  t0 := Tryz.underlying0
  a0 := Tryz.isAgg0
  z0 := Tryz.sizeOf0
  v0 := Tryz.zeroValue0
  t4 := Tryz.underlying4
  a4 := Tryz.isAgg4
  z4 := Tryz.sizeOf4
  v4 := Tryz.zeroValue4
  t5 := Tryz.underlying5
  a5 := Tryz.isAgg5
  z5 := Tryz.sizeOf5
  v5 := Tryz.zeroValue5
  t9 := Tryz.underlying9
  a9 := Tryz.isAgg9
  z9 := Tryz.sizeOf9
  v9 := Tryz.zeroValue9
  t20 := Tryz.underlying20
  a20 := Tryz.isAgg20
  z20 := Tryz.sizeOf20
  v20 := Tryz.zeroValue20
  t37 := Tryz.underlying71
  a37 := Tryz.isAgg71
  z37 := Tryz.sizeOf71
  v37 := Tryz.zeroValue71
  t70 := Tryz.underlying257
  a70 := Tryz.isAgg257
  z70 := Tryz.sizeOf257
  v70 := Tryz.zeroValue257
  t72 := Tryz.underlying259
  a72 := Tryz.isAgg259
  z72 := Tryz.sizeOf259
  v72 := Tryz.zeroValue259
  t75 := Tryz.underlying98
  a75 := Tryz.isAgg98
  z75 := Tryz.sizeOf98
  v75 := Tryz.zeroValue98
  t164 := Tryz.underlying239
  a164 := Tryz.isAgg239
  z164 := Tryz.sizeOf239
  v164 := Tryz.zeroValue239 }
theorem Tryz.Builder_Extra_167 : Builder.Extra Tryz.prog Tryz.lays167_ren := {
  sizeBuilder := by kernel_rfl
  liesBuilder := by kernel_rfl
  t5 := Tryz.underlying5
  a5 := Tryz.isAgg5
  z5 := Tryz.sizeOf5
  v5 := Tryz.zeroValue5
  infoByte := by kernel_rfl
  cellsByte := by kernel_rfl
  sizeByte := by kernel_rfl
  neB5 := by decide }
open Go.RowKit in
theorem Tryz.Builder_WriteByte (B b : Nat) (bs : List Value) (c : Int) (w : World) (h : Lib.IsBuilder 259 5 B b bs w) (hlen : bs.length + 1 ≤ 140737488355328) (hBw : B ≤ w.heap.size) :
    Calls Tryz.prog 221 #[.pointer (some ⟨b, 0, none⟩), .int .u8 c] w fun e w' => e = .returned .nilIface ∧ (Lib.BuilderAt 259 5 B b (.pointer (some ⟨b, 0, none⟩)) (bs ++ [.int .u8 c]) w' ∧ Below B w w') := Any.Builder_WriteByte Tryz.lays167 Tryz.Builder_Extra_167 B b bs c w h hlen hBw
end Go.Proofs
namespace Go.Proofs.Heir
open Go Go.Am Go.RowKit Go.Shelf
set_option maxRecDepth 100000
set_option maxHeartbeats 8000000
theorem setCell_heap (w : World) (a : Addr) (u : Value) (k : Nat) : (w.setCell a u).heap[k]? = if k = a.block then (w.heap[k]?).map (fun o => match (w.setCell a u).heap[k]? with | some o' => o' | none => o) else w.heap[k]? := by
  by_cases h : k = a.block
  · subst h
    rw [if_pos rfl]
    unfold World.setCell
    simp only [Array.getElem?_modify, if_true]
    cases w.heap[a.block]? <;> rfl
  · rw [if_neg h]
    unfold World.setCell
    simp only [Array.getElem?_modify]
    rw [if_neg (fun e => h e.symm)]
theorem setCell_ne (w : World) (a : Addr) (u : Value) {k : Nat} (h : k ≠ a.block) : (w.setCell a u).heap[k]? = w.heap[k]? := by rw [setCell_heap, if_neg h]
theorem setCell_same {w w' : World} (a : Addr) (u : Value) (h : w'.heap[a.block]? = w.heap[a.block]?) : (w'.setCell a u).heap[a.block]? = (w.setCell a u).heap[a.block]? := by
  unfold World.setCell
  simp only [Array.getElem?_modify, if_true, h]
theorem below_both {B : Nat} {w w' : World} (h : Below B w w') (a : Addr) (u : Value) (ha : a.block < B) : Below B (w.setCell a u) (w'.setCell a u) where
  os := h.os
  tape := h.tape
  output := h.output
  size := by have := h.size; simpa [World.setCell] using this
  block k hk := by
    by_cases e : k = a.block
    · subst e; exact setCell_same a u (h.block _ hk)
    · rw [setCell_ne _ _ _ e, setCell_ne _ _ _ e]; exact h.block k hk
theorem builder_setCell {T e : TypeId} {B b : Nat} {bs : List Value} {w : World} (h : Lib.IsBuilder T e B b bs w) (a : Addr) (ha : a.block < B) (u : Value) : Lib.IsBuilder T e B b bs (w.setCell a u) := by
  rcases h with ⟨hB, v, hb, hown, hne⟩ | ⟨hB, v, hb, hown, hne⟩
  · exact .inl ⟨hB, v, (setCell_ne w a u (by omega)).trans hb, ownsRow_setCell_below hown ha u, hne⟩
  · exact .inr ⟨hB, v, (setCell_ne w a u (by omega)).trans hb, ownsRow_setCell_below hown ha u, hne⟩
theorem quoted_calls (w : World) (b o : Nat) (body tail : List UInt8) (hb : ∀ c ∈ body, c ≠ 34 ∧ c ≠ 92) (hsz : body.length + tail.length ≤ 100000) (Q : World → Prop)
    (hm : Calls Tryz.prog 219 #[.pointer (some ⟨b, o, none⟩), .string ⟨#[34]⟩] w fun e w1 => e = .returned (.tuple #[]) ∧ Q w1)
    (hQ : ∀ w1, Q w1 → w1.cell? ⟨b, o + 3, none⟩ = some (.string ⟨(body ++ 34 :: tail).toArray⟩) ∧ w1.frozen? ⟨b, o + 3, none⟩ = false) :
    Calls Tryz.prog 205 #[.pointer (some ⟨b, o, none⟩)] w fun e w' => e = .returned (.string ⟨body.toArray⟩) ∧ ∃ w1, Q w1 ∧ Below w1.heap.size (w1.setCell ⟨b, o + 3, none⟩ (.string ⟨tail.toArray⟩)) w' := by
  go_enter Tryz.func205, Tryz.ntmps205
  go_wp2_with (go_at_call 219; refine hm.mono ?_; rintro e w1 ⟨rfl, hq⟩)
  obtain ⟨c1, f1⟩ := hQ w1 hq
  have hlt := World.block_lt_of_cell? _ _ c1
  have hsl : (ByteArray.mk (body ++ 34 :: tail).toArray).size = body.length + (tail.length + 1) := by simp [ByteArray.size]
  go_loopw [4] (fun i wr => ∃ k : Nat, k ≤ body.length ∧ i = .int .i64 k ∧ Lib.IsBuilder 259 5 w1.heap.size w1.heap.size (Lib.byteCells (body.take k)) wr ∧ Below w1.heap.size w1 wr ∧ w1.heap.size ≤ wr.heap.size) (fun i _ => body.length + 1 - (intOf i).toNat)
  case atStart => exact ⟨0, Nat.zero_le _, rfl, Lib.fresh_isBuilder 259 5 w1, (Below.refl _ w1).alloc (Nat.le_refl _) _, by simp⟩
  case round =>
    obtain ⟨k, hk, rfl, hbd, hbl, hsz2⟩ := hrel
    have c2 : wr.cell? ⟨b, o + 3, none⟩ = some (.string ⟨(body ++ 34 :: tail).toArray⟩) := (hbl.cell (p := ⟨b, o + 3, none⟩) hlt).trans c1
    have f2 : wr.frozen? ⟨b, o + 3, none⟩ = false := (hbl.frozen (p := ⟨b, o + 3, none⟩) hlt).trans f1
    have hklt : k < body.length + (tail.length + 1) := by omega
    by_cases hkb : k < body.length
    · have hkS : k < (ByteArray.mk (body ++ 34 :: tail).toArray).size := by rw [hsl]; omega
      have hgk : (ByteArray.mk (body ++ 34 :: tail).toArray)[k]'hkS = body[k] := by
        show (body ++ 34 :: tail).toArray[k] = _
        rw [List.getElem_toArray, List.getElem_append_left hkb]
      obtain ⟨m, hm⟩ : ∃ m : UInt8, body[k] = m := ⟨_, rfl⟩
      have hmm := hb m (by rw [← hm]; exact List.getElem_mem hkb)
      have q1 : ((m.toNat : Int) == 34) = false := by
        rw [beq_eq_false_iff_ne]; intro h; exact hmm.1 (UInt8.toNat_inj.1 (by show m.toNat = 34; omega))
      have q2 : ((m.toNat : Int) == 92) = false := by
        rw [beq_eq_false_iff_ne]; intro h; exact hmm.2 (UInt8.toNat_inj.1 (by show m.toNat = 92; omega))
      have q3 : ¬ (m.toNat : Int) = 34 := by simpa using q1
      have q4 : ¬ (m.toNat : Int) = 92 := by simpa using q2
      rw [hm] at hgk
      have hwb := Tryz.Builder_WriteByte w1.heap.size w1.heap.size (Lib.byteCells (body.take k)) m.toNat wr hbd (by rw [show (Lib.byteCells (body.take k)).length = (body.take k).length from List.length_map .., List.length_take]; omega) hsz2
      have htk : Lib.byteCells (body.take k) ++ [.int .u8 (m.toNat : Int)] = Lib.byteCells (body.take (k + 1)) := by
        rw [List.take_add_one, List.getElem?_eq_getElem hkb, hm]
        simp [Lib.byteCells]
      rw [htk] at hwb
      clear hb hmm hsl
      go_wp2_with (go_at_call 221; refine hwb.mono ?_; rintro e w2 ⟨rfl, h2, h3⟩)
      exact ⟨⟨k + 1, hkb, by congr 1, .inr h2, hbl.trans h3, by have := h3.size; omega⟩, by simp [intOf]; omega⟩
    · obtain rfl : k = body.length := by omega
      have hkS : body.length < (ByteArray.mk (body ++ 34 :: tail).toArray).size := by rw [hsl]; omega
      have hgk : (ByteArray.mk (body ++ 34 :: tail).toArray)[body.length]'hkS = 34 := by
        show (body ++ 34 :: tail).toArray[body.length] = _
        rw [List.getElem_toArray, List.getElem_append_right (Nat.le_refl _)]
        simp
      have hex : (ByteArray.mk (body ++ 34 :: tail).toArray).extract (body.length + 1) (body.length + (tail.length + 1)) = ⟨tail.toArray⟩ := by
        rw [cut_strOf]
        show strOf (((body ++ 34 :: tail).take (body.length + (tail.length + 1))).drop (body.length + 1)) = strOf tail
        rw [List.take_of_length_le (by simp), show body ++ 34 :: tail = (body ++ [34]) ++ tail by simp, List.drop_left' (by simp)]
      rw [List.take_length] at hbd
      have hst := Tryz.Builder_String_any w1.heap.size w1.heap.size body (wr.setCell ⟨b, o + 3, none⟩ (.string ⟨tail.toArray⟩)) (builder_setCell hbd ⟨b, o + 3, none⟩ hlt _) (by simpa [World.setCell] using hsz2)
      have h34 : ((34 : UInt8).toNat : Int) = 34 := rfl
      clear hb
      go_wp2_with (go_at_call 220; refine hst.mono ?_; rintro e w2 ⟨rfl, h3⟩)
      go_ret
      exact ⟨rfl, w1, hq, (below_both hbl _ _ hlt).trans h3⟩
theorem setCell_row {w : World} {b j : Nat} {C : Array Value} {e : TypeId} {fz : Nat × Nat} (hC : w.heap[b]? = some (.cells C e fz)) (u : Value) : w.setCell ⟨b, j, none⟩ u = w.setRow b (C.setIfInBounds j u) := by
  unfold World.setCell World.setRow
  congr 1
  apply Array.ext_getElem?
  intro k
  simp only [Array.getElem?_modify]
  by_cases e : b = k
  · subst e; simp [hC]
  · simp [e]
theorem f205_ok (x0 x1 x2 : AV) (s0 : ByteArray) (body tail : List UInt8) (rest : List MS) (hb : ∀ c ∈ body, c ≠ 34 ∧ c ≠ 92) (hsz : body.length + tail.length ≤ 100000)
    (h126 : FnOK Tryz.prog 219 (.live 5 [.agg [x0, x1, x2, .lit (.string s0), .lit (.bool false)]] false :: rest) [.ptr 0 0 0, .lit (.string ⟨#[34]⟩)] (.live 5 [.agg [x0, x1, x2, .lit (.string ⟨(body ++ 34 :: tail).toArray⟩), .lit (.bool false)]] false :: rest) (.tup [])) :
    FnOK Tryz.prog 205 (.live 5 [.agg [x0, x1, x2, .lit (.string s0), .lit (.bool false)]] false :: rest) [.ptr 0 0 0] (.live 5 [.agg [x0, x1, x2, .lit (.string ⟨tail.toArray⟩), .lit (.bool false)]] false :: rest) (.lit (.string ⟨body.toArray⟩)) := by
  intro w W0 L vs hL hs hr
  obtain ⟨v, us, rfl, hv, hus⟩ := RepL.uncons hr
  obtain rfl := RepL.unnil hus
  obtain ⟨B, hB, hmp, rfl⟩ : ∃ B, L 0 = some B ∧ B.mp = false ∧ v = .pointer (some ⟨B.b, B.o + (0 * B.wd + 0), none⟩) := by cases hv with | ptr h1 h2 => exact ⟨_, h1, h2, rfl⟩
  rw [Nat.zero_mul, Nat.zero_add, Nat.add_zero] at hv
  rw [Nat.zero_mul, Nat.zero_add, Nat.add_zero]
  have look : ∀ (s1 : ByteArray) (μ' : Mu) (w1 : World), Sim Tryz.prog 0 w W0 L μ' (bare (.live 5 [.agg [x0, x1, x2, .lit (.string s1), .lit (.bool false)]] false :: rest)) noAct w1 → μ' 0 = some B ∧ ObjAt (Wr W0 μ' (objsOf (.live 5 [.agg [x0, x1, x2, .lit (.string s1), .lit (.bool false)]] false :: rest))) μ' w1 B 5 [.agg [x0, x1, x2, .lit (.string s1), .lit (.bool false)]] false := by
    intro s1 μ' w1 hs1
    obtain ⟨B', hB', ho⟩ := hs1.objs 0 5 _ false rfl
    have h := hs1.lentμ 0 B (by decide) hB
    rw [h] at hB'
    cases hB'
    exact ⟨h, ho⟩
  refine (quoted_calls w B.b B.o body tail hb hsz (fun w1 => ∃ μ', Sim Tryz.prog 0 w W0 L μ' (bare (.live 5 [.agg [x0, x1, x2, .lit (.string ⟨(body ++ 34 :: tail).toArray⟩), .lit (.bool false)]] false :: rest)) noAct w1) ?_ ?_).mono ?_
  · refine (h126 w W0 L [.pointer (some ⟨B.b, B.o, none⟩), .string ⟨#[34]⟩] hL hs (.cons hv (.cons .lit .nil))).mono ?_
    rintro e w1 ⟨u, μ', rfl, hs1, hu⟩
    cases hu with
    | tup h1 h2 =>
      rename_i vs
      obtain rfl : vs = [] := List.eq_nil_of_length_eq_zero h1
      exact ⟨rfl, μ', hs1⟩
  · rintro w1 ⟨μ', hs1⟩
    obtain ⟨h1, ho⟩ := look _ μ' w1 hs1
    obtain ⟨u, hu1, hu2⟩ := ho.cell hmp 3 (.lit (.string ⟨(body ++ 34 :: tail).toArray⟩)) rfl
    have hvirt := ho.real (i := 0) rfl
    obtain ⟨C, e, fz, c1, c2, _⟩ := ho.blk hvirt hmp
    rw [c2 rfl] at c1
    refine ⟨?_, Lib.frozen_of_heap c1 _⟩
    rw [hu1]; cases hu2; rfl
  · rintro e w' ⟨rfl, w1, ⟨μ', hs1⟩, hbel⟩
    obtain ⟨h1, ho⟩ := look _ μ' w1 hs1
    have hvirt := ho.real (i := 0) rfl
    obtain ⟨C, e, fz, c1, c2, c3⟩ := ho.blk hvirt hmp
    rw [c2 rfl] at c1
    have hset := hs1.setObj (t := 0) (rows' := [.agg [x0, x1, x2, .lit (.string ⟨tail.toArray⟩), .lit (.bool false)]]) (C' := C.setIfInBounds (B.o + 3) (.string ⟨tail.toArray⟩)) rfl h1 hvirt hmp c1 (by simp) rfl (Wide.of_mem fun r hr => by rw [List.mem_singleton] at hr; subst hr; rfl) (fun q c hc => ?_)
    · rw [← setCell_row c1] at hset
      refine ⟨_, μ', rfl, ?_, .lit⟩
      have hm := hset.more (w' := w') ⟨hbel.os, hbel.tape, hbel.output, hbel.size, fun k hk => hbel.block k (by simpa [World.setCell] using hk)⟩
      have e : (⟨(bare (.live 5 [.agg [x0, x1, x2, .lit (.string ⟨(body ++ 34 :: tail).toArray⟩), .lit (.bool false)]] false :: rest)).slots, updM (bare (.live 5 [.agg [x0, x1, x2, .lit (.string ⟨(body ++ 34 :: tail).toArray⟩), .lit (.bool false)]] false :: rest)).mem [(0, .live 5 [.agg [x0, x1, x2, .lit (.string ⟨tail.toArray⟩), .lit (.bool false)]] false)]⟩ : AState) = bare (.live 5 [.agg [x0, x1, x2, .lit (.string ⟨tail.toArray⟩), .lit (.bool false)]] false :: rest) := by
        unfold bare
        congr 1
        funext t
        cases t with
        | zero => rfl
        | succ t => rfl
      rw [e] at hm
      exact hm
    · have hq5 : q < 5 := by
        have := (List.getElem?_eq_some_iff.1 hc).1
        simpa [flat, cells] using this
      by_cases h3 : q = 3
      · subst h3
        obtain rfl : AV.lit (.string ⟨tail.toArray⟩) = c := Option.some.inj hc
        refine ⟨_, ?_, .lit⟩
        rw [Array.getElem?_setIfInBounds_self_of_lt]
        have : [AV.agg [x0, x1, x2, .lit (.string ⟨(body ++ 34 :: tail).toArray⟩), .lit (.bool false)]].length * 5 = 5 := rfl
        omega
      · have hc' : (flat [AV.agg [x0, x1, x2, .lit (.string ⟨(body ++ 34 :: tail).toArray⟩), .lit (.bool false)]])[q]? = some c := by
          rw [← hc]
          match q, hq5, h3 with
          | 0, _, _ => rfl
          | 1, _, _ => rfl
          | 2, _, _ => rfl
          | 4, _, _ => rfl
        obtain ⟨u, hu1, hu2⟩ := ho.cell hmp q c hc'
        rw [Lib.cell_of_heap c1] at hu1
        exact ⟨u, by rw [Array.getElem?_setIfInBounds_ne (by omega)]; exact hu1, hu2⟩
end Go.Proofs.Heir
namespace Go.Proofs.Heir
open Go Go.Am Go.RowKit Go.Lib
set_option maxRecDepth 100000
set_option maxHeartbeats 8000000
def rowsB (wd : Nat) (rows : List AV) : Bool := match rows with
  | [] => false
  | _ :: _ => Nat.ble rows.length 1000 && (noRefL rows && oneL (flat rows))
theorem rowsB_ok {wd : Nat} {rows : List AV} (h : rowsB wd rows = true) : rows ≠ [] ∧ rows.length ≤ 1000 ∧ noRefL rows = true ∧ oneL (flat rows) = true := by
  unfold rowsB at h
  split at h
  · cases h
  · simp only [Bool.and_eq_true] at h
    exact ⟨by simp, Nat.le_of_ble_eq_true h.1, h.2.1, h.2.2⟩
theorem f137_rows {rows : List AV} (h : rowsB 10 rows = true) : FnOK Tryz.prog 137 [] [.sl 10 rows] [.live 10 rows false] (.own 0 0 rows.length) := by
  obtain ⟨h1, h2, h3, h4⟩ := rowsB_ok h
  refine FnOK.startC (rvs := [.tmp 2]) G G_good Tryz.func137 rfl Tryz.ntmps137 rfl rfl ?_; with_reducible refine wD ?_
  refine GuessK.mk (fun h => ?_) (fun _ => ?_) <;> with_reducible refine wK ?_
  · exact absurd (by simpa using h) h1
  · refine AppK.mk [] rows ⟨rfl, rfl, rfl⟩ ⟨rfl, rfl, rfl⟩ h4 (by simp; omega) (by simp; omega) ?_; with_reducible refine wK ?_
    (refine eK ?_ ?_ <;> with_reducible repeat' (first | exact trivial | (show _ ∧ _; refine aK ?_ ?_)))
    all_goals first | rfl | exact MFL_refl h3 | trace_state
theorem f72_rows {rows : List AV} (h : rowsB 1 rows = true) : FnOK Tryz.prog 72 [] [.sl 1 rows] [.live 1 rows false] (.own 0 0 rows.length) := by
  obtain ⟨h1, h2, h3, h4⟩ := rowsB_ok h
  refine FnOK.startC (rvs := [.tmp 2]) G G_good Tryz.func72 rfl Tryz.ntmps72 rfl rfl ?_; with_reducible refine wD ?_
  refine GuessK.mk (fun h => ?_) (fun _ => ?_) <;> with_reducible refine wK ?_
  · exact absurd (by simpa using h) h1
  · refine AppK.mk [] rows ⟨rfl, rfl, rfl⟩ ⟨rfl, rfl, rfl⟩ h4 (by simp; omega) (by simp; omega) ?_; with_reducible refine wK ?_
    (refine eK ?_ ?_ <;> with_reducible repeat' (first | exact trivial | (show _ ∧ _; refine aK ?_ ?_)))
    all_goals first | rfl | exact MFL_refl h3 | trace_state
def orcB : CallT := fun g ins args => match g with
  | 137 => match ins, args with
    | [], [.sl 10 rows] => match rowsB 10 rows with
      | true => some ([.live 10 rows false], .own 0 0 rows.length)
      | false => none
    | _, _ => none
  | 72 => match ins, args with
    | [], [.sl 1 rows] => match rowsB 1 rows with
      | true => some ([.live 1 rows false], .own 0 0 rows.length)
      | false => none
    | _, _ => none
  | g => orcA g ins args
theorem orcB_ok : ∀ g ins args outs res, orcB g ins args = some (outs, res) → FnOK Tryz.prog g ins args outs res ∧ Callable Tryz.prog g := by
  intro g ins args outs res h
  unfold orcB at h
  split at h
  · split at h
    · split at h
      · rename_i hb; cases h; exact ⟨f137_rows hb, c137⟩
      · cases h
    · cases h
  · split at h
    · split at h
      · rename_i hb; cases h; exact ⟨f72_rows hb, c72⟩
      · cases h
    · cases h
  · exact orcA_ok _ _ _ _ _ h
theorem f140_nil (n : Int) : FnOK Tryz.prog 140 [.live 1 [eInt n] false] [.lit (.slice none 0 0), eInt 0, .own 0 0 1] [.live 1 [eInt n] false, .live 1 [eInt n] false] (.own 1 0 1) := by
  refine FnOK.startC (rvs := [.tmp 6]) G G_good Tryz.func140 rfl Tryz.ntmps140 rfl rfl ?_; with_reducible refine wD ?_
  refine ⟨[], .lit (.slice none 0 0), [], EffOK.lits (ρ := fun y => match y with | .tmp 10 => .slice none 0 0 | _ => .int .i64 0) (r := .slice none 0 0) (by simp) (fun y hy => ?_) (fun w => ?_) (dst_ok rfl), ?_⟩
  · simp [Op.operands] at hy
    rcases hy with rfl | rfl <;> rfl
  · kernel_rfl
  with_reducible refine wK ?_
  repeat' (first
    | refine gK ?_
    | (((with_reducible show AppK _ _ _ _ _ _ _ _ _ _); refine AppK.mk [] [eInt n] ⟨rfl, rfl, rfl⟩ ⟨rfl, rfl, rfl⟩ rfl (by simp) (by simp) ?_) <;> with_reducible refine wK ?_)
    | ((with_reducible show (_ ∧ _) ∧ _ ∧ _); (refine eK ?_ ?_ <;> with_reducible repeat' (first | exact trivial | (show _ ∧ _; refine aK ?_ ?_)))))
  all_goals first | rfl | exact ⟨.refl rfl, rfl⟩ | trace_state
theorem f72_emp : FnOK Tryz.prog 72 [] [.sl 1 []] [.live 1 [] false] (.own 0 0 0) := by
  refine FnOK.startC (rvs := [.tmp 2]) G G_good Tryz.func72 rfl Tryz.ntmps72 rfl rfl ?_; with_reducible refine wD ?_
  refine GuessK.mk (fun h => ?_) (fun _ => ?_) <;> with_reducible refine wK ?_
  · (refine eK ?_ ?_ <;> with_reducible repeat' (first | exact trivial | (show _ ∧ _; refine aK ?_ ?_)))
    all_goals first | rfl | exact ⟨.refl rfl, rfl⟩ | trivial | trace_state
  · refine AppK.mk [] [] ⟨rfl, rfl, rfl⟩ ⟨rfl, rfl, rfl⟩ rfl (by simp) (by simp) ?_; with_reducible refine wK ?_
    (refine eK ?_ ?_ <;> with_reducible repeat' (first | exact trivial | (show _ ∧ _; refine aK ?_ ?_)))
    all_goals first | rfl | exact ⟨.refl rfl, rfl⟩ | trivial | trace_state
def orcC : CallT := fun g ins args => match g with
  | 72 => match ins, args with
    | [], [.sl 1 []] => some ([.live 1 [] false], .own 0 0 0)
    | _, _ => orcB 72 ins args
  | 140 => match ins, args with
    | [.live 1 [.lit (.int .i64 n)] false], [.lit (.slice none 0 0), .lit (.int .i64 0), .own 0 0 1] => some ([.live 1 [eInt n] false, .live 1 [eInt n] false], .own 1 0 1)
    | _, _ => none
  | g => orcB g ins args
theorem orcC_ok : ∀ g ins args outs res, orcC g ins args = some (outs, res) → FnOK Tryz.prog g ins args outs res ∧ Callable Tryz.prog g := by
  intro g ins args outs res h
  unfold orcC at h
  split at h
  · split at h
    · cases h; exact ⟨f72_emp, c72⟩
    · exact orcB_ok _ _ _ _ _ h
  · split at h
    · cases h; exact ⟨f140_nil _, c140⟩
    · cases h
  · exact orcB_ok _ _ _ _ _ h
end Go.Proofs.Heir
