/- Models, plain laws and contracts of functions of the given program; conditions as stated in each theorem. By an AI agent. -/
import Derived.Test.YtkhjcnjicjgfiaaGreatDoorWO12
import Derived.Test.YtkhjcnjicjgfiaaGreatDoorWO31
import Derived.Test.YtkhjcnjicjgfiaaGreatDoorWO13
import Derived.Laws.Runes
import Derived.Shelf.Strings.Builder1
import Derived.Test.YtkhjcnjicjgfiaaGreatDoorChecked
import Derived.Test.YtkhjcnjicjgfiaaGreatDoorWO15
import Derived.Tactics
import Derived.Test.YtkhjcnjicjgfiaaGreatDoorWO11
import Derived.Test.YtkhjcnjicjgfiaaGreatDoorWO14
import Derived.Test.YtkhjcnjicjgfiaaGreatDoorWO22
set_option linter.unusedSimpArgs false
set_option linter.unusedVariables false
namespace Go.Proofs.Heir
open Go Go.Am
set_option maxRecDepth 100000
set_option maxHeartbeats 8000000
theorem NA:iI Tryz.prog 224 .string (.agg #[.string ByteArray.empty,.string ByteArray.empty]):=⟨9,90,by kernel_rfl,by kernel_rfl,fun w=>Tryz.zeroValue90 w⟩
noncomputable def MU:List (Nat×Func):=[(16,Tryz.f16),(25,Tryz.f25),(54,Tryz.f54),(174,Tryz.f174),(17,Tryz.f17),(207,Tryz.f207),(69,Tryz.f69),(114,Tryz.f114),(133,Tryz.f133),(179,Tryz.f179),(208,Tryz.f208),(55,Tryz.f55),(223,Tryz.f223),(135,Tryz.f135),(137,Tryz.f137),(173,Tryz.f173),(187,Tryz.f187),(115,Tryz.f115),(116,Tryz.f116),(117,Tryz.f117),(118,Tryz.f118),(119,Tryz.f119),(120,Tryz.f120),(127,Tryz.f127),(201,Tryz.f201),(202,Tryz.f202),(203,Tryz.f203),(204,Tryz.f204),(205,Tryz.f205),(67,Tryz.f67),(131,Tryz.f131),(136,Tryz.f136),(129,Tryz.f129),(175,Tryz.f175),(176,Tryz.f176),(177,Tryz.f177),(125,Tryz.f125),(217,Tryz.f217),(218,Tryz.f218),(219,Tryz.f219),(124,Tryz.f124),(180,Tryz.f180),(181,Tryz.f181),(182,Tryz.f182),(73,Tryz.f73),(231,Tryz.f231),(232,Tryz.f232),(183,Tryz.f183),(236,Tryz.f236)]
def Gm:List (Nat×IntKind):=[(3,.i64),(5,.u8),(21,.i32),(28,.i64)]
theorem HH:∀p∈MU,Tryz.prog.funcs[p.1]? =some p.2∧ak Tryz.prog p.1:=List.forall_mem_cons.2 ⟨⟨Tryz.func16,nT⟩,List.forall_mem_cons.2 ⟨⟨Tryz.func25,N9⟩,List.forall_mem_cons.2 ⟨⟨Tryz.func54,N8⟩,List.forall_mem_cons.2 ⟨⟨Tryz.func174,EI⟩,List.forall_mem_cons.2 ⟨⟨Tryz.func17,jX⟩,List.forall_mem_cons.2 ⟨⟨Tryz.func207,Me⟩,List.forall_mem_cons.2 ⟨⟨Tryz.func69,On⟩,List.forall_mem_cons.2 ⟨⟨Tryz.func114,M8⟩,List.forall_mem_cons.2 ⟨⟨Tryz.func133,FL⟩,List.forall_mem_cons.2 ⟨⟨Tryz.func179,JK⟩,List.forall_mem_cons.2 ⟨⟨Tryz.func208,MV⟩,List.forall_mem_cons.2 ⟨⟨Tryz.func55,Oc⟩,List.forall_mem_cons.2 ⟨⟨Tryz.func223,MD⟩,List.forall_mem_cons.2 ⟨⟨Tryz.func135,M9⟩,List.forall_mem_cons.2 ⟨⟨Tryz.func137,Ky⟩,List.forall_mem_cons.2 ⟨⟨Tryz.func173,Nb⟩,List.forall_mem_cons.2 ⟨⟨Tryz.func187,L1⟩,List.forall_mem_cons.2 ⟨⟨Tryz.func115,AQ⟩,List.forall_mem_cons.2 ⟨⟨Tryz.func116,DS⟩,List.forall_mem_cons.2 ⟨⟨Tryz.func117,FV⟩,List.forall_mem_cons.2 ⟨⟨Tryz.func118,Jt⟩,List.forall_mem_cons.2 ⟨⟨Tryz.func119,Kw⟩,List.forall_mem_cons.2 ⟨⟨Tryz.func120,MR⟩,List.forall_mem_cons.2 ⟨⟨Tryz.func127,KB⟩,List.forall_mem_cons.2 ⟨⟨Tryz.func201,Ng⟩,List.forall_mem_cons.2 ⟨⟨Tryz.func202,N3⟩,List.forall_mem_cons.2 ⟨⟨Tryz.func203,N1⟩,List.forall_mem_cons.2 ⟨⟨Tryz.func204,M6⟩,List.forall_mem_cons.2 ⟨⟨Tryz.func205,MN⟩,List.forall_mem_cons.2 ⟨⟨Tryz.func67,CB⟩,List.forall_mem_cons.2 ⟨⟨Tryz.func131,HV⟩,List.forall_mem_cons.2 ⟨⟨Tryz.func136,qg⟩,List.forall_mem_cons.2 ⟨⟨Tryz.func129,xy⟩,List.forall_mem_cons.2 ⟨⟨Tryz.func175,Eo⟩,List.forall_mem_cons.2 ⟨⟨Tryz.func176,K0⟩,List.forall_mem_cons.2 ⟨⟨Tryz.func177,L8⟩,List.forall_mem_cons.2 ⟨⟨Tryz.func125,FQ⟩,List.forall_mem_cons.2 ⟨⟨Tryz.func217,NG⟩,List.forall_mem_cons.2 ⟨⟨Tryz.func218,NJ⟩,List.forall_mem_cons.2 ⟨⟨Tryz.func219,NH⟩,List.forall_mem_cons.2 ⟨⟨Tryz.func124,Gs⟩,List.forall_mem_cons.2 ⟨⟨Tryz.func180,Mq⟩,List.forall_mem_cons.2 ⟨⟨Tryz.func181,Mr⟩,List.forall_mem_cons.2 ⟨⟨Tryz.func182,L2⟩,List.forall_mem_cons.2 ⟨⟨Tryz.func73,Ju⟩,List.forall_mem_cons.2 ⟨⟨Tryz.func231,Nt⟩,List.forall_mem_cons.2 ⟨⟨Tryz.func232,Mc⟩,List.forall_mem_cons.2 ⟨⟨Tryz.func183,LC⟩,List.forall_mem_cons.2 ⟨⟨Tryz.func236,N0⟩,fun _ h=>by simp at h⟩⟩⟩⟩⟩⟩⟩⟩⟩⟩⟩⟩⟩⟩⟩⟩⟩⟩⟩⟩⟩⟩⟩⟩⟩⟩⟩⟩⟩⟩⟩⟩⟩⟩⟩⟩⟩⟩⟩⟩⟩⟩⟩⟩⟩⟩⟩⟩⟩
theorem Ep:∀p∈Gm,Tryz.prog.underlying p.1=some (.int p.2):=List.forall_mem_cons.2 ⟨by kernel_rfl,List.forall_mem_cons.2 ⟨by kernel_rfl,List.forall_mem_cons.2 ⟨by kernel_rfl,List.forall_mem_cons.2 ⟨by kernel_rfl,fun _ h=>by simp at h⟩⟩⟩⟩
def J8:uz:=[(206,.int .i64,.int .i64 0),(224,.string,.agg #[.string ByteArray.empty,.string ByteArray.empty])]
theorem Fe:uz.Good Tryz.prog J8:=List.forall_mem_cons.2 ⟨I6,List.forall_mem_cons.2 ⟨NA,fun _ h=>by simp at h⟩⟩
end Go.Proofs.Heir
namespace Go.Proofs.Heir
open Go Go.Am Go.RowKit Go.Lib
set_option maxRecDepth 100000
set_option maxHeartbeats 8000000
theorem HU (s t:TypeId)(c:Int)(h1:Tryz.prog.underlying s=some (.int .i32))(h2:Tryz.prog.underlying t=some .string):∀w,(convert s t (.int .i32 c)).run Tryz.prog w=.ok (.string (Utf8.encode c)) w:=
  fun w=>run_convert_int_string w s t .i32 c (by rw[h1];rfl) h2
theorem AI (c:Int):(Utf8.encode c).size≤4:=by
  unfold Utf8.encode
  simp only
  repeat' split
  all_goals exact Nat.le_of_ble_eq_true rfl
@[reducible] def aB : ByteArray := ⟨#[97]⟩
def Fk (r:Nat):Bool:=!bH (aB++Utf8.encode (r:Int))
theorem JH (c:Int):an Tryz.prog 232 [] [Al c] [] (bB (!bH (aB++Utf8.encode c))):=by
  have hsz:=AI c
  have ha:aB.size=1:=rfl
  refine an.aF (rvs:=[.tmp 2]) G au Tryz.func232 rfl Tryz.ntmps232 rfl rfl ?_;with_reducible refine wD ?_
  refine cT.mk _ (HU 21 9 c (by kernel_rfl) (by kernel_rfl)) ?_;with_reducible refine wK ?_
  refine bC.mk (by have:=AI c;have h1:(⟨⟨[97]⟩⟩:ByteArray).size=1:=rfl;omega) ?_;with_reducible refine wK ?_
  refine aa.lit [] (sw _) FL ⟨rfl,trivial⟩ rfl rfl ?_;with_reducible refine wK ?_
  (refine eK ?_ ?_<;>with_reducible repeat' (first|exact trivial|(show _∧_;refine aK ?_ ?_)))
  all_goals first|rfl|trace_state
theorem D7 (s:ByteArray):an Tryz.prog 213 [] [cu s,.lit (.func (.func 232) #[] #[])] [] (aj (Lib.idxFunc Fk true s)):=
  an.iN (vs:=[.string s,.func (.func 232) #[] #[]]) fun w ht=>s4 232 Mc Fk s w ht fun W x ht _=>(JH (x:Int)).below (vs:=[.int .i32 (x:Int)]) W ht
theorem Gr:an Tryz.prog 220 [.live 2 [.agg [.lit (.pointer none),.lit (.slice none 0 0)]] false] [.ptr 0 0 0] [.live 2 [.agg [.lit (.pointer none),.lit (.slice none 0 0)]] false] (cu ⟨#[]⟩):=by
  refine an.aF (rvs:=[.tmp 2]) G au Tryz.func220 rfl Tryz.ntmps220 rfl rfl ?_;with_reducible refine wD ?_
  refine⟨[],.lit (.pointer none),[],aD.lits (ρ:=fun _=>.slice none 0 0) (r:=.pointer none) (by simp) (fun y hy=>?_) (fun w=>?_) (gq rfl),?_⟩
  · simp[Op.operands,Call.operands] at hy
    subst hy
    rfl
  ·kernel_rfl
  with_reducible refine wK ?_
  refine⟨[],.lit (.string ⟨#[]⟩),[],aD.lits (ρ:=fun y=>match y with|.tmp 7=>.pointer none|_=>.int .i64 0) (r:=.string ⟨#[]⟩) (by simp) (fun y hy=>?_) (fun w=>?_) (gq rfl),?_⟩
  · simp[Op.operands,Call.operands] at hy
    rcases hy with rfl|rfl<;>rfl
  ·kernel_rfl
  with_reducible refine wK ?_
  refine dK ?_;with_reducible refine wK ?_
  (refine eK ?_ ?_<;>with_reducible repeat' (first|exact trivial|(show _∧_;refine aK ?_ ?_)))
  all_goals first|rfl|exact .inl rfl|exact⟨rfl,rfl⟩|trace_state
def Lo:jM:=fun g ins args=>match g with
  | 174=>match ins,args with
    |[],[.lit (.string s)]=>some ([],bB (jO s))
    |_,_=>none
  | 133=>match ins,args with
    |[],[.lit (.string s)]=>some ([],bB (bH s))
    |_,_=>none
  | 67=>match ins,args with
    |[],[.lit (.string s)]=>some ([],.tup [cu (if bH s then fR s else⟨#[]⟩),aj (if bH s then 0 else 4)])
    |_,_=>none
  | 213=>match ins,args with
    | [],[.lit (.string s),.lit (.func (.func 232) a b)]=>match a.toList,b.toList with
      |[],[]=>some ([],aj (Lib.idxFunc Fk true s))
      |_,_=>none
    |_,_=>none
  | 220=>match ins,args with
    |[.live 2 [.agg [.lit (.pointer none),.lit (.slice none 0 0)]] false],[.ptr 0 0 0]=>some ([.live 2 [.agg [.lit (.pointer none),.lit (.slice none 0 0)]] false],cu ⟨#[]⟩)
    |_,_=>none
  |_=>none
theorem IE:∀g ins args outs res,Lo g ins args=some (outs,res)→an Tryz.prog g ins args outs res∧ak Tryz.prog g:=by
  intro g ins args outs res h
  unfold Lo at h
  split at h
  · split at h
    ·cases h;exact⟨C3 _,EI⟩
    ·cases h
  · split at h
    ·cases h;exact⟨sw _,FL⟩
    ·cases h
  · split at h
    ·cases h;exact⟨o3 _,CB⟩
    ·cases h
  · split at h
    · split at h
      · rename_i ha hb
        cases h
        rename_i a b _ _
        obtain rfl:=(Array.ext' ha:_= #[])
        obtain rfl:=(Array.ext' hb:_= #[])
        exact⟨D7 _,NM⟩
      ·cases h
    ·cases h
  · split at h
    ·cases h;exact⟨Gr,Nk⟩
    ·cases h
  ·cases h
noncomputable def Kt:l9:=⟨G,J8,MU,Gm,Lo,[]⟩
theorem vV:Kt.Good Tryz.prog:=⟨au,Fe,HH,Ep,IE,by kernel_rfl,fun _ h=>by cases h⟩
end Go.Proofs.Heir
namespace Go.Proofs
open Go.Shelf
def Tryz.rL:Go.Shelf.Ren:=⟨fun|169=>220|n=>n,fun|70=>257|9=>9|0=>0|72=>259|37=>71|127=>280|3=>3|5=>5|n=>n,fun|n=>n⟩
theorem Tryz.Js:Go.Proofs.Lays.n169 Tryz.prog Tryz.rL:={
  mixed:=by kernel_rfl
  f169:=Tryz.func220.trans (congrArg some (by kernel_rfl))
  t0:=Tryz.underlying0
  a0:=Tryz.isAgg0
  z0:=Tryz.sizeOf0
  v0:=Tryz.zeroValue0
  t3:=Tryz.underlying3
  a3:=Tryz.isAgg3
  z3:=Tryz.sizeOf3
  v3:=Tryz.zeroValue3
  t9:=Tryz.underlying9
  a9:=Tryz.isAgg9
  z9:=Tryz.sizeOf9
  v9:=Tryz.zeroValue9
  t37:=Tryz.underlying71
  a37:=Tryz.isAgg71
  z37:=Tryz.sizeOf71
  v37:=Tryz.zeroValue71
  t70:=Tryz.underlying257
  a70:=Tryz.isAgg257
  z70:=Tryz.sizeOf257
  v70:=Tryz.zeroValue257
  t72:=Tryz.underlying259
  a72:=Tryz.isAgg259
  z72:=Tryz.sizeOf259
  v72:=Tryz.zeroValue259
  t127:=Tryz.underlying280
  a127:=Tryz.isAgg280
  z127:=Tryz.sizeOf280
  v127:=Tryz.zeroValue280}
theorem Tryz.pU:Builder.Extra Tryz.prog Tryz.rL:={
  sizeBuilder:=by kernel_rfl
  liesBuilder:=by kernel_rfl
  t5:=Tryz.underlying5
  a5:=Tryz.isAgg5
  z5:=Tryz.sizeOf5
  v5:=Tryz.zeroValue5
  infoByte:=by kernel_rfl
  cellsByte:=by kernel_rfl
  sizeByte:=by kernel_rfl
  neB5:=by decide}
open Go.RowKit in
theorem Tryz.Builder_String_any (B b:Nat)(l:List UInt8)(w:World)(h:Lib.IsBuilder 259 5 B b (Lib.byteCells l) w)(hBw:B≤w.heap.size):
    Calls Tryz.prog 220 #[.pointer (some ⟨b,0,none⟩)] w fun e w'=>e=.returned (.string ⟨l.toArray⟩)∧Below B w w':=Any.Builder_String_any Tryz.Js Tryz.pU B b l w h hBw
def Tryz.rQ:Go.Shelf.Ren:=⟨fun|167=>221|240=>233|276=>237|n=>n,fun|0=>0|4=>4|5=>5|9=>9|20=>20|37=>71|70=>257|72=>259|75=>98|80=>236|164=>239|n=>n,fun|n=>n⟩
theorem Tryz.IY:Go.Proofs.Lays.n167 Tryz.prog Tryz.rQ:={
  mixed:=by kernel_rfl
  f167:=Tryz.func221.trans (congrArg some (by kernel_rfl))
  f240:=Tryz.func233.trans (congrArg some (by kernel_rfl))
  f276:=Tryz.func237.trans (congrArg some (by kernel_rfl))
  t0:=Tryz.underlying0
  a0:=Tryz.isAgg0
  z0:=Tryz.sizeOf0
  v0:=Tryz.zeroValue0
  t4:=Tryz.underlying4
  a4:=Tryz.isAgg4
  z4:=Tryz.sizeOf4
  v4:=Tryz.zeroValue4
  t5:=Tryz.underlying5
  a5:=Tryz.isAgg5
  z5:=Tryz.sizeOf5
  v5:=Tryz.zeroValue5
  t9:=Tryz.underlying9
  a9:=Tryz.isAgg9
  z9:=Tryz.sizeOf9
  v9:=Tryz.zeroValue9
  t20:=Tryz.underlying20
  a20:=Tryz.isAgg20
  z20:=Tryz.sizeOf20
  v20:=Tryz.zeroValue20
  t37:=Tryz.underlying71
  a37:=Tryz.isAgg71
  z37:=Tryz.sizeOf71
  v37:=Tryz.zeroValue71
  t70:=Tryz.underlying257
  a70:=Tryz.isAgg257
  z70:=Tryz.sizeOf257
  v70:=Tryz.zeroValue257
  t72:=Tryz.underlying259
  a72:=Tryz.isAgg259
  z72:=Tryz.sizeOf259
  v72:=Tryz.zeroValue259
  t75:=Tryz.underlying98
  a75:=Tryz.isAgg98
  z75:=Tryz.sizeOf98
  v75:=Tryz.zeroValue98
  t164:=Tryz.underlying239
  a164:=Tryz.isAgg239
  z164:=Tryz.sizeOf239
  v164:=Tryz.zeroValue239}
theorem Tryz.pT:Builder.Extra Tryz.prog Tryz.rQ:={
  sizeBuilder:=by kernel_rfl
  liesBuilder:=by kernel_rfl
  t5:=Tryz.underlying5
  a5:=Tryz.isAgg5
  z5:=Tryz.sizeOf5
  v5:=Tryz.zeroValue5
  infoByte:=by kernel_rfl
  cellsByte:=by kernel_rfl
  sizeByte:=by kernel_rfl
  neB5:=by decide}
open Go.RowKit in
theorem Tryz.Builder_WriteByte (B b:Nat)(bs:List Value)(c:Int)(w:World)(h:Lib.IsBuilder 259 5 B b bs w)(hlen:bs.length+1≤140737488355328)(hBw:B≤w.heap.size):
    Calls Tryz.prog 221 #[.pointer (some ⟨b,0,none⟩),.int .u8 c] w fun e w'=>e=.returned .nilIface∧(Lib.BuilderAt 259 5 B b (.pointer (some ⟨b,0,none⟩)) (bs++ [.int .u8 c]) w'∧Below B w w'):=Any.Builder_WriteByte Tryz.IY Tryz.pT B b bs c w h hlen hBw
end Go.Proofs
namespace Go.Proofs.Heir
open Go Go.Am Go.RowKit Go.Shelf
set_option maxRecDepth 100000
set_option maxHeartbeats 8000000
theorem yl (w:World)(a:Addr)(u:Value)(k:Nat):(w.setCell a u).heap[k]? =if k=a.block then(w.heap[k]?).map (fun o=>match(w.setCell a u).heap[k]? with|some o'=>o'|none=>o) else w.heap[k]? :=by
  by_cases h:k=a.block
  · subst h
    rw[if_pos rfl]
    unfold World.setCell
    simp only[Array.getElem?_modify,if_true]
    cases w.heap[a.block]? <;>rfl
  · rw[if_neg h]
    unfold World.setCell
    simp only[Array.getElem?_modify]
    rw[if_neg (fun e=>h e.symm)]
theorem lQ (w:World)(a:Addr)(u:Value){k:Nat}(h:k≠a.block):(w.setCell a u).heap[k]? =w.heap[k]? :=by rw[yl,if_neg h]
theorem wZ {w w':World}(a:Addr)(u:Value)(h:w'.heap[a.block]? =w.heap[a.block]?):(w'.setCell a u).heap[a.block]? =(w.setCell a u).heap[a.block]? :=by
  unfold World.setCell
  simp only[Array.getElem?_modify,if_true,h]
theorem A8 {B:Nat}{w w':World}(h:Below B w w')(a:Addr)(u:Value)(ha:a.block<B):Below B (w.setCell a u) (w'.setCell a u) where
  os:=h.os
  tape:=h.tape
  output:=h.output
  size:=by have:=h.size;simpa[World.setCell] using this
  block k hk:=by
    by_cases e:k=a.block
    ·subst e;exact wZ a u (h.block _ hk)
    ·rw[lQ _ _ _ e,lQ _ _ _ e];exact h.block k hk
theorem rZ {T e:TypeId}{B b:Nat}{bs:List Value}{w:World}(h:Lib.IsBuilder T e B b bs w)(a:Addr)(ha:a.block<B)(u:Value):Lib.IsBuilder T e B b bs (w.setCell a u):=by
  rcases h with⟨hB,v,hb,hown,hne⟩|⟨hB,v,hb,hown,hne⟩
  ·exact .inl ⟨hB,v,(lQ w a u (by omega)).trans hb,ownsRow_setCell_below hown ha u,hne⟩
  ·exact .inr ⟨hB,v,(lQ w a u (by omega)).trans hb,ownsRow_setCell_below hown ha u,hne⟩
theorem w9 (w:World)(b o:Nat)(body tail:List UInt8)(hb:∀c∈body,c≠34∧c≠92)(hsz:body.length+tail.length≤100000)(Q:World→Prop)
    (hm:Calls Tryz.prog 219 #[.pointer (some ⟨b,o,none⟩),.string ⟨#[34]⟩] w fun e w1=>e=.returned (.tuple #[])∧Q w1)
    (hQ:∀w1,Q w1→w1.cell? ⟨b,o+3,none⟩=some (.string ⟨(body++34::tail).toArray⟩)∧w1.frozen? ⟨b,o+3,none⟩=false):
    Calls Tryz.prog 205 #[.pointer (some ⟨b,o,none⟩)] w fun e w'=>e=.returned (.string ⟨body.toArray⟩)∧∃w1,Q w1∧Below w1.heap.size (w1.setCell ⟨b,o+3,none⟩ (.string ⟨tail.toArray⟩)) w':=by
  go_enter Tryz.func205,Tryz.ntmps205
  go_wp2_with (go_at_call 219;refine hm.mono ?_;rintro e w1 ⟨rfl,hq⟩)
  obtain⟨c1,f1⟩:=hQ w1 hq
  have hlt:=World.block_lt_of_cell? _ _ c1
  have hsl:(ByteArray.mk (body++34::tail).toArray).size=body.length+ (tail.length+1):=by simp[ByteArray.size]
  go_loopw [4] (fun i wr=> ∃k:Nat,k≤body.length∧i=.int .i64 k∧Lib.IsBuilder 259 5 w1.heap.size w1.heap.size (Lib.byteCells (body.take k)) wr∧Below w1.heap.size w1 wr∧w1.heap.size≤wr.heap.size) (fun i _=>body.length+1- (intOf i).toNat)
  case atStart=>exact⟨0,Nat.zero_le _,rfl,Lib.fresh_isBuilder 259 5 w1,(Below.refl _ w1).alloc (Nat.le_refl _) _,by simp⟩
  case round=>
    obtain⟨k,hk,rfl,hbd,hbl,hsz2⟩:=hrel
    have c2:wr.cell? ⟨b,o+3,none⟩=some (.string ⟨(body++34::tail).toArray⟩):=(hbl.cell (p:=⟨b,o+3,none⟩) hlt).trans c1
    have f2:wr.frozen? ⟨b,o+3,none⟩=false:=(hbl.frozen (p:=⟨b,o+3,none⟩) hlt).trans f1
    have hklt:k<body.length+ (tail.length+1):=by omega
    by_cases hkb:k<body.length
    · have hkS:k< (ByteArray.mk (body++34::tail).toArray).size:=by rw[hsl];omega
      have hgk:(ByteArray.mk (body++34::tail).toArray)[k]'hkS=body[k]:=by
        show(body++34::tail).toArray[k]=_
        rw[List.getElem_toArray,List.getElem_append_left hkb]
      obtain⟨m,hm⟩:∃m:UInt8,body[k]=m:=⟨_,rfl⟩
      have hmm:=hb m (by rw[←hm];exact List.getElem_mem hkb)
      have q1:((m.toNat:Int)==34)=false:=by
        rw[beq_eq_false_iff_ne];intro h;exact hmm.1 (UInt8.toNat_inj.1 (by show m.toNat=34;omega))
      have q2:((m.toNat:Int)==92)=false:=by
        rw[beq_eq_false_iff_ne];intro h;exact hmm.2 (UInt8.toNat_inj.1 (by show m.toNat=92;omega))
      have q3:¬ (m.toNat:Int)=34:=by simpa using q1
      have q4:¬ (m.toNat:Int)=92:=by simpa using q2
      rw[hm] at hgk
      have hwb:=Tryz.Builder_WriteByte w1.heap.size w1.heap.size (Lib.byteCells (body.take k)) m.toNat wr hbd (by rw[show(Lib.byteCells (body.take k)).length=(body.take k).length from cj ..,fP];omega) hsz2
      have htk:Lib.byteCells (body.take k)++ [.int .u8 (m.toNat:Int)]=Lib.byteCells (body.take (k+1)):=by
        rw[List.take_add_one,bz hkb,hm]
        simp[Lib.byteCells]
      rw[htk] at hwb
      clear hb hmm hsl
      go_wp2_with (go_at_call 221;refine hwb.mono ?_;rintro e w2 ⟨rfl,h2,h3⟩)
      exact⟨⟨k+1,hkb,by congr 1,.inr h2,hbl.trans h3,by have:=h3.size;omega⟩,by simp[intOf];omega⟩
    · obtain rfl:k=body.length:=by omega
      have hkS:body.length< (ByteArray.mk (body++34::tail).toArray).size:=by rw[hsl];omega
      have hgk:(ByteArray.mk (body++34::tail).toArray)[body.length]'hkS=34:=by
        show(body++34::tail).toArray[body.length]=_
        rw[List.getElem_toArray,List.getElem_append_right (Nat.le_refl _)]
        simp
      have hex:(ByteArray.mk (body++34::tail).toArray).extract (body.length+1) (body.length+ (tail.length+1))=⟨tail.toArray⟩:=by
        rw[Eg]
        show strOf (((body++34::tail).take (body.length+ (tail.length+1))).drop (body.length+1))=strOf tail
        rw[qB (by simp),show body++34::tail=(body++ [34])++tail by simp,List.drop_left' (by simp)]
      rw[List.take_length] at hbd
      have hst:=Tryz.Builder_String_any w1.heap.size w1.heap.size body (wr.setCell ⟨b,o+3,none⟩ (.string ⟨tail.toArray⟩)) (rZ hbd ⟨b,o+3,none⟩ hlt _) (by simpa[World.setCell] using hsz2)
      have h34:((34:UInt8).toNat:Int)=34:=rfl
      clear hb
      go_wp2_with (go_at_call 220;refine hst.mono ?_;rintro e w2 ⟨rfl,h3⟩)
      go_ret
      exact⟨rfl,w1,hq,(A8 hbl _ _ hlt).trans h3⟩
theorem zc {w:World}{b j:Nat}{C:Array Value}{e:TypeId}{fz:Nat×Nat}(hC:w.heap[b]? =some (.cells C e fz))(u:Value):w.setCell ⟨b,j,none⟩ u=w.setRow b (C.setIfInBounds j u):=by
  unfold World.setCell World.setRow
  congr 1
  apply Array.ext_getElem?
  intro k
  simp only[Array.getElem?_modify]
  by_cases e:b=k
  ·subst e;simp[hC]
  ·simp[e]
theorem Ip (x0 x1 x2:AV)(s0:ByteArray)(body tail:List UInt8)(rest:List MS)(hb:∀c∈body,c≠34∧c≠92)(hsz:body.length+tail.length≤100000)
    (h126:an Tryz.prog 219 (.live 5 [.agg [x0,x1,x2,.lit (.string s0),.lit (.bool false)]] false::rest) [.ptr 0 0 0,.lit (.string ⟨#[34]⟩)] (.live 5 [.agg [x0,x1,x2,.lit (.string ⟨(body++34::tail).toArray⟩),.lit (.bool false)]] false::rest) (.tup [])):
    an Tryz.prog 205 (.live 5 [.agg [x0,x1,x2,.lit (.string s0),.lit (.bool false)]] false::rest) [.ptr 0 0 0] (.live 5 [.agg [x0,x1,x2,.lit (.string ⟨tail.toArray⟩),.lit (.bool false)]] false::rest) (.lit (.string ⟨body.toArray⟩)):=by
  intro w W0 L vs hL hs hr
  obtain⟨v,us,rfl,hv,hus⟩:=cD.w6 hr
  obtain rfl:=cD.FE hus
  obtain⟨B,hB,hmp,rfl⟩:∃B,L 0=some B∧B.mp=false∧v=.pointer (some ⟨B.b,B.o+ (0*B.wd+0),none⟩):=by cases hv with|ptr h1 h2=>exact⟨_,h1,h2,rfl⟩
  rw[Nat.zero_mul,Nat.zero_add,Nat.add_zero] at hv
  rw[Nat.zero_mul,Nat.zero_add,Nat.add_zero]
  have look:∀ (s1:ByteArray) (μ':Mu) (w1:World),ck Tryz.prog 0 w W0 L μ' (bare (.live 5 [.agg [x0,x1,x2,.lit (.string s1),.lit (.bool false)]] false::rest)) gi w1→μ' 0=some B∧eJ (Wr W0 μ' (aH (.live 5 [.agg [x0,x1,x2,.lit (.string s1),.lit (.bool false)]] false::rest))) μ' w1 B 5 [.agg [x0,x1,x2,.lit (.string s1),.lit (.bool false)]] false:=by
    intro s1 μ' w1 hs1
    obtain⟨B',hB',ho⟩:=hs1.objs 0 5 _ false rfl
    have h:=hs1.lentμ 0 B (by decide) hB
    rw[h] at hB'
    cases hB'
    exact⟨h,ho⟩
  refine(w9 w B.b B.o body tail hb hsz (fun w1=> ∃μ',ck Tryz.prog 0 w W0 L μ' (bare (.live 5 [.agg [x0,x1,x2,.lit (.string ⟨(body++34::tail).toArray⟩),.lit (.bool false)]] false::rest)) gi w1) ?_ ?_).mono ?_
  · refine(h126 w W0 L [.pointer (some ⟨B.b,B.o,none⟩),.string ⟨#[34]⟩] hL hs (.cons hv (.cons .lit .nil))).mono ?_
    rintro e w1 ⟨u,μ',rfl,hs1,hu⟩
    cases hu with
    | tup h1 h2=>
      rename_i vs
      obtain rfl:vs=[]:=List.eq_nil_of_length_eq_zero h1
      exact⟨rfl,μ',hs1⟩
  · rintro w1 ⟨μ',hs1⟩
    obtain⟨h1,ho⟩:=look _ μ' w1 hs1
    obtain⟨u,hu1,hu2⟩:=ho.cell hmp 3 (.lit (.string ⟨(body++34::tail).toArray⟩)) rfl
    have hvirt:=ho.real (i:=0) rfl
    obtain⟨C,e,fz,c1,c2,_⟩:=ho.blk hvirt hmp
    rw[c2 rfl] at c1
    refine⟨?_,Lib.frozen_of_heap c1 _⟩
    rw[hu1];cases hu2;rfl
  · rintro e w' ⟨rfl,w1,⟨μ',hs1⟩,hbel⟩
    obtain⟨h1,ho⟩:=look _ μ' w1 hs1
    have hvirt:=ho.real (i:=0) rfl
    obtain⟨C,e,fz,c1,c2,c3⟩:=ho.blk hvirt hmp
    rw[c2 rfl] at c1
    have hset:=hs1.setObj (t:=0) (rows':=[.agg [x0,x1,x2,.lit (.string ⟨tail.toArray⟩),.lit (.bool false)]]) (C':=C.setIfInBounds (B.o+3) (.string ⟨tail.toArray⟩)) rfl h1 hvirt hmp c1 (by simp) rfl (bD.ia fun r hr=>by rw[gg] at hr;subst hr;rfl) (fun q c hc=>?_)
    · rw [←zc c1] at hset
      refine⟨_,μ',rfl,?_,.lit⟩
      have hm:=hset.more (w':=w') ⟨hbel.os,hbel.tape,hbel.output,hbel.size,fun k hk=>hbel.block k (by simpa[World.setCell] using hk)⟩
      have e:(⟨(bare (.live 5 [.agg [x0,x1,x2,.lit (.string ⟨(body++34::tail).toArray⟩),.lit (.bool false)]] false::rest)).slots,bh (bare (.live 5 [.agg [x0,x1,x2,.lit (.string ⟨(body++34::tail).toArray⟩),.lit (.bool false)]] false::rest)).mem [(0,.live 5 [.agg [x0,x1,x2,.lit (.string ⟨tail.toArray⟩),.lit (.bool false)]] false)]⟩:aA)=bare (.live 5 [.agg [x0,x1,x2,.lit (.string ⟨tail.toArray⟩),.lit (.bool false)]] false::rest):=by
        unfold bare
        congr 1
        funext t
        cases t with
        |zero=>rfl
        |succ t=>rfl
      rw[e] at hm
      exact hm
    · have hq5:q<5:=by
        have:=(bg hc).1
        simpa[flat,cells] using this
      by_cases h3:q=3
      · subst h3
        obtain rfl:AV.lit (.string ⟨tail.toArray⟩)=c:=Option.some.inj hc
        refine⟨_,?_,.lit⟩
        rw[Array.getElem?_setIfInBounds_self_of_lt]
        have:[AV.agg [x0,x1,x2,.lit (.string ⟨(body++34::tail).toArray⟩),.lit (.bool false)]].length*5=5:=rfl
        omega
      · have hc':(flat [AV.agg [x0,x1,x2,.lit (.string ⟨(body++34::tail).toArray⟩),.lit (.bool false)]])[q]? =some c:=by
          rw[←hc]
          match q,hq5,h3 with
          |0,_,_=>rfl
          |1,_,_=>rfl
          |2,_,_=>rfl
          |4,_,_=>rfl
        obtain⟨u,hu1,hu2⟩:=ho.cell hmp q c hc'
        rw[Lib.cell_of_heap c1] at hu1
        exact⟨u,by rw[Array.getElem?_setIfInBounds_ne (by omega)];exact hu1,hu2⟩
end Go.Proofs.Heir
namespace Go.Proofs.Heir
open Go Go.Am Go.RowKit Go.Lib
set_option maxRecDepth 100000
set_option maxHeartbeats 8000000
def Ik (s:ByteArray):List MS:=[.live 5 [.agg [.own 1 0 1,.lit (.int .i64 (400)),.lit (.int .i64 (0)),.lit (.string s),.lit (.bool false)]] false,.live 10 [.agg [.lit (.int .i64 (0)),.lit (.string ⟨⟨[]⟩⟩),.lit (.string ⟨⟨[]⟩⟩),.lit (.string ⟨⟨[]⟩⟩),.lit (.slice none 0 0),.lit (.int .i64 (-1)),.lit (.slice none 0 0),.lit (.int .i64 (-1)),.lit (.int .i64 (-1)),.lit (.int .i64 (0))]] false]
def E5:yu:=⟨219,Ik ⟨⟨[34,34,62,60,108,101,103,101,110,100,62,60,105,110,112,117,116,62,60,47,105,110,112,117,116,62,60,47,108,101,103,101,110,100,62,60,105,110,112,117,116,62,60,47,105,110,112,117,116,62,60,47,102,105,101,108,100,115,101,116,62]⟩⟩,[.ptr 0 0 0,.lit (.string ⟨⟨[34]⟩⟩)],Ik ⟨⟨[34,62,60,108,101,103,101,110,100,62,60,105,110,112,117,116,62,60,47,105,110,112,117,116,62,60,47,108,101,103,101,110,100,62,60,105,110,112,117,116,62,60,47,105,110,112,117,116,62,60,47,102,105,101,108,100,115,101,116,62]⟩⟩,.tup []⟩
theorem GD:Az Kt 1000 60 E5.g E5.ins E5.args=some (E5.outs,E5.res):=by kernel_rfl
def K8:yu:=⟨205,Ik ⟨⟨[34,34,62,60,108,101,103,101,110,100,62,60,105,110,112,117,116,62,60,47,105,110,112,117,116,62,60,47,108,101,103,101,110,100,62,60,105,110,112,117,116,62,60,47,105,110,112,117,116,62,60,47,102,105,101,108,100,115,101,116,62]⟩⟩,[.ptr 0 0 0],Ik ⟨⟨[62,60,108,101,103,101,110,100,62,60,105,110,112,117,116,62,60,47,105,110,112,117,116,62,60,47,108,101,103,101,110,100,62,60,105,110,112,117,116,62,60,47,105,110,112,117,116,62,60,47,102,105,101,108,100,115,101,116,62]⟩⟩,.lit (.string ⟨⟨[]⟩⟩)⟩
theorem JU:K8.OK Tryz.prog:=⟨Ip (.own 1 0 1) (.lit (.int .i64 (400))) (.lit (.int .i64 (0))) _ [] [62,60,108,101,103,101,110,100,62,60,105,110,112,117,116,62,60,47,105,110,112,117,116,62,60,47,108,101,103,101,110,100,62,60,105,110,112,117,116,62,60,47,105,110,112,117,116,62,60,47,102,105,101,108,100,115,101,116,62] _ (by decide) (by decide) (yu.of vV GD).1,MN⟩
theorem Lh:∀r∈ [K8],r.OK Tryz.prog:=yu.cons JU (fun _ h=>by cases h)
def Ll:yu:=⟨54,[],[.lit (.string ⟨⟨[60,102,105,101,108,100,115,101,116,32,100,105,115,97,98,108,101,100,61,34,34,62,60,108,101,103,101,110,100,62,60,105,110,112,117,116,62,60,47,105,110,112,117,116,62,60,47,108,101,103,101,110,100,62,60,105,110,112,117,116,62,60,47,105,110,112,117,116,62,60,47,102,105,101,108,100,115,101,116,62]⟩⟩),.lit (.int .i64 (9))],[.live 10 [.agg [.lit (.int .i64 (0)),.lit (.string ⟨⟨[]⟩⟩),.lit (.string ⟨⟨[]⟩⟩),.lit (.string ⟨⟨[]⟩⟩),.lit (.slice none 0 0),.lit (.int .i64 (-1)),.lit (.slice none 0 0),.lit (.int .i64 (-1)),.lit (.int .i64 (-1)),.lit (.int .i64 (0))],.agg [.lit (.int .i64 (1)),.lit (.string ⟨⟨[102,105,101,108,100,115,101,116]⟩⟩),.lit (.string ⟨⟨[]⟩⟩),.lit (.string ⟨⟨[]⟩⟩),.own 1 0 1,.lit (.int .i64 (-1)),.own 2 0 2,.lit (.int .i64 (-1)),.lit (.int .i64 (-1)),.lit (.int .i64 (0))],.agg [.lit (.int .i64 (1)),.lit (.string ⟨⟨[108,101,103,101,110,100]⟩⟩),.lit (.string ⟨⟨[]⟩⟩),.lit (.string ⟨⟨[]⟩⟩),.lit (.slice none 0 0),.lit (.int .i64 (1)),.own 3 0 1,.lit (.int .i64 (-1)),.lit (.int .i64 (-1)),.lit (.int .i64 (0))],.agg [.lit (.int .i64 (1)),.lit (.string ⟨⟨[105,110,112,117,116]⟩⟩),.lit (.string ⟨⟨[]⟩⟩),.lit (.string ⟨⟨[]⟩⟩),.lit (.slice none 0 0),.lit (.int .i64 (2)),.lit (.slice none 0 0),.lit (.int .i64 (-1)),.lit (.int .i64 (-1)),.lit (.int .i64 (0))],.agg [.lit (.int .i64 (1)),.lit (.string ⟨⟨[105,110,112,117,116]⟩⟩),.lit (.string ⟨⟨[]⟩⟩),.lit (.string ⟨⟨[]⟩⟩),.lit (.slice none 0 0),.lit (.int .i64 (1)),.lit (.slice none 0 0),.lit (.int .i64 (-1)),.lit (.int .i64 (-1)),.lit (.int .i64 (0))]] false,.live 2 [.agg [.lit (.string ⟨⟨[100,105,115,97,98,108,101,100]⟩⟩),.lit (.string ⟨⟨[]⟩⟩)]] false,.live 1 [.lit (.int .i64 (2)),.lit (.int .i64 (4))] false,.live 1 [.lit (.int .i64 (3))] false],.tup [.agg [.own 0 0 5,.lit (.int .i64 (9))],.lit (.int .i64 (1)),.lit (.int .i64 (0))]⟩
theorem HF:Az (Kt.more [K8]) 1000 60 Ll.g Ll.ins Ll.args=some (Ll.outs,Ll.res):=by kernel_rfl
theorem LJ:Ll.OK Tryz.prog:=yu.of (l9.Dl vV Lh) HF
def Ov:ByteArray:=⟨⟨[60,102,105,101,108,100,115,101,116,32,100,105,115,97,98,108,101,100,61,34,34,62,60,108,101,103,101,110,100,62,60,105,110,112,117,116,62,60,47,105,110,112,117,116,62,60,47,108,101,103,101,110,100,62,60,105,110,112,117,116,62,60,47,105,110,112,117,116,62,60,47,102,105,101,108,100,115,101,116,62]⟩⟩
def w5:ForM:=⟨[⟨0,⟨#[]⟩,⟨#[]⟩,⟨#[]⟩,[],-1,[],-1,-1,0⟩,⟨1,⟨#[102,105,101,108,100,115,101,116]⟩,⟨#[]⟩,⟨#[]⟩,[⟨⟨#[100,105,115,97,98,108,101,100]⟩,⟨#[]⟩⟩],-1,[2,4],-1,-1,0⟩,⟨1,⟨#[108,101,103,101,110,100]⟩,⟨#[]⟩,⟨#[]⟩,[],1,[3],-1,-1,0⟩,⟨1,⟨#[105,110,112,117,116]⟩,⟨#[]⟩,⟨#[]⟩,[],2,[],-1,-1,0⟩,⟨1,⟨#[105,110,112,117,116]⟩,⟨#[]⟩,⟨#[]⟩,[],1,[],-1,-1,0⟩],9⟩
theorem Ba:an Tryz.prog 54 [] [cu Ov,aj 9] [] (.tup [aY w5,aj 1,aj 0]):=by
  have h:=LJ.1
  refine an.frozen (bj 0 Ll.outs) ?_ (by kernel_rfl) h ?_
  · funext t
    match t with
    |0=>rfl
    |1=>rfl
    |2=>rfl
    |3=>rfl
    |n+4=>rfl
  · have nil2:∀wd,nX (.sl wd []):=fun wd=>.inr (.inr ⟨wd,rfl⟩)
    refine⟨⟨⟨10,_,_,_,rfl,rfl,rfl,by decide,rfl,eF.of ⟨?_,?_,?_,?_,?_,trivial⟩⟩,rfl,trivial⟩,rfl,rfl,trivial⟩
    ·exact⟨rfl,rfl,rfl,rfl,nil2 _,rfl,nil2 _,rfl,rfl,rfl,trivial⟩
    ·exact⟨rfl,rfl,rfl,rfl,⟨2,_,_,_,rfl,rfl,rfl,by decide,rfl,eF.of ⟨⟨rfl,rfl,trivial⟩,trivial⟩⟩,rfl,⟨1,_,_,_,rfl,rfl,rfl,by decide,rfl,eF.of ⟨rfl,rfl,trivial⟩⟩,rfl,rfl,rfl,trivial⟩
    ·exact⟨rfl,rfl,rfl,rfl,nil2 _,rfl,⟨1,_,_,_,rfl,rfl,rfl,by decide,rfl,eF.of ⟨rfl,trivial⟩⟩,rfl,rfl,rfl,trivial⟩
    ·exact⟨rfl,rfl,rfl,rfl,nil2 _,rfl,nil2 _,rfl,rfl,rfl,trivial⟩
    ·exact⟨rfl,rfl,rfl,rfl,nil2 _,rfl,nil2 _,rfl,rfl,rfl,trivial⟩
end Go.Proofs.Heir
section
namespace Go.Proofs.Heir
open Go Go.Am Go.RowKit Go.Lib
set_option maxRecDepth 100000
theorem GS (f:ForM)(hs:bE f.nodes)(n:Int):an Tryz.prog 19 [] [aY f,aj n] [] (aj (if af f.nodes n&&aX f then lJ f.nodes n else-1)):=by
  have h13:=ng f hs
  have h20:aX f=true→∀ (k:Nat) (x:ai),f.nodes[k]? =some x→an Tryz.prog 62 [] [aY f,aj k] [] (aj (lJ f.nodes k)):=fun hr k x hx=>FK f hs k x hx fun c hc=>by
    have:=(gl hr).kid k (dM hx) c
    rw[cz hx] at this
    exact(this hc).1
  obtain⟨l,m⟩:=f
  simp only at h13 h20 ⊢
  have hlm:(l.map bJ).length=l.length:=cj ..
  refine an.aF (rvs:=[.tmp 4]) G au Tryz.func19 rfl Tryz.ntmps19 rfl rfl ?_;with_reducible refine wD ?_
  by_cases e0:n<0
  · have ht:af l n=false:=by unfold af;simp;omega
    rw[ht]
    (have fct:=e0;(repeat' (first
    |refine gF ?_
    |((with_reducible show(_∧_)∧_∧_);(refine eK ?_ ?_<;>with_reducible repeat' (first|exact trivial|(show _∧_;refine aK ?_ ?_))))));all_goals clear fct)
    all_goals simp
  by_cases e1:(l.length:Int)≤n
  · have ht:af l n=false:=by unfold af;simp;omega
    rw[ht]
    (have fct:=And.intro (eq_false e0) (And.intro hlm (e1));(repeat' (first
    |refine gF ?_
    |((with_reducible show(_∧_)∧_∧_);(refine eK ?_ ?_<;>with_reducible repeat' (first|exact trivial|(show _∧_;refine aK ?_ ?_))))));all_goals clear fct)
    all_goals simp
  have ht:af l n=true:=by unfold af;simp;omega
  obtain⟨k,x,rfl,hx,_⟩:=aU.1 ht
  rw[ht]
  cases hr:aX ⟨l,m⟩ with
  | false=>
    (have fct:=And.intro hlm (And.intro (eq_false e0) (And.intro (eq_false e1) (hr)));(repeat' (first
    |refine gF ?_
    |(((with_reducible show aa _ _ 17 _ _ _ _);refine aa.lit [] h13 jX ⟨⟨rfl,rfl,trivial⟩,trivial⟩ rfl rfl ?_)<;>with_reducible refine wK ?_)
    |((with_reducible show(_∧_)∧_∧_);(refine eK ?_ ?_<;>with_reducible repeat' (first|exact trivial|(show _∧_;refine aK ?_ ?_))))));all_goals clear fct)
    all_goals simp
  | true=>
    have h20':=h20 hr k x hx
    (have fct:=And.intro hlm (And.intro (eq_false e0) (And.intro (eq_false e1) (hr)));(repeat' (first
    |refine gF ?_
    | ((first
      |((with_reducible show aa _ _ 17 _ _ _ _);refine aa.lit [] h13 jX ⟨⟨rfl,rfl,trivial⟩,trivial⟩ rfl rfl ?_)
      |((with_reducible show aa _ _ 62 _ _ _ _);refine aa.lit [] h20' Nu ⟨⟨rfl,rfl,trivial⟩,rfl,trivial⟩ rfl rfl ?_))<;>with_reducible refine wK ?_)
    |((with_reducible show(_∧_)∧_∧_);(refine eK ?_ ?_<;>with_reducible repeat' (first|exact trivial|(show _∧_;refine aK ?_ ?_))))));all_goals clear fct)
    all_goals simp
theorem LD (f:ForM)(hs:bE f.nodes):an Tryz.prog 22 [] [aY f] [] (cF (if aX f then kf f.nodes f.nodes.length else[])):=by
  have h13:=ng f hs
  have hl:=hs.len
  have h18:aX f=true→∀ (k:Nat) (x:ai),f.nodes[k]? =some x→an Tryz.prog 64 [] [aY f,aj k] [] (bB (jv f.nodes k)):=fun hr k x hx=>Hh f hs (gl hr) k x hx
  obtain⟨l,m⟩:=f
  simp only at h13 h18 hl ⊢
  have hlm:(l.map bJ).length=l.length:=cj ..
  refine an.aF (rvs:=[.tmp 2]) G au Tryz.func22 rfl Tryz.ntmps22 rfl rfl ?_;with_reducible refine wD ?_
  refine aa.lit [] h13 jX ⟨⟨rfl,rfl,trivial⟩,trivial⟩ rfl rfl ?_;with_reducible refine wK ?_
  cases hr:aX ⟨l,m⟩ with
  | false=>
    rw[if_neg (show ¬false=true by decide)]
    (have fct:=hr;(repeat' (first
    |refine gF ?_
    |((with_reducible show(_∧_)∧_∧_);(refine eK ?_ ?_<;>with_reducible repeat' (first|exact trivial|(show _∧_;refine aK ?_ ?_))))));all_goals clear fct)
    all_goals exact .inr (.inr ⟨1,rfl⟩)
  | true =>
    have h18':=h18 hr
    rw[if_pos rfl]
    refine bk.ff ?_;with_reducible refine wK ?_
    refine cn.ghost 3 31 1 rfl rfl ?_
    refine cn.use G au (fun(k:Nat)=>[(1,.ptr 10 0 0),(3,.own 31 0 (kf l k).length),(10,aj l.length),(11,aj k)]) (fun k=>[(10,.live 2 [aY ⟨l,m⟩] false),(31,iX (kf l k))]) (fun k=>k≤l.length) (fun k=>l.length-k) 0 (Nat.zero_le _)
      ⟨⟨rfl,rfl⟩,⟨⟨rfl,rfl⟩,⟨rfl,rfl⟩,by show(l.length:Int)=((l.map bJ).length:Int);rw[hlm],rfl,trivial⟩,⟨⟨rfl,rfl,trivial⟩,trivial⟩,⟨.refl rfl,ae _⟩,trivial⟩ ?_
    intro k hk
    with_reducible refine wK ?_
    refine bk.mk (fun h1=>?_) (fun h1=>?_)<;>(try simp only[ay] at h1)<;>with_reducible refine wK ?_
    · have hk':k<l.length:=by simp only[bO] at h1;omega
      obtain⟨x,hx⟩:∃x,l[k]? =some x:=⟨_,bz hk'⟩
      have h18k:=h18' k x hx
      have hst:=Hr l k
      have hln:=H6 l k
      have hbl:((kf l k).map bV).length=(kf l k).length:=cj ..
      refine aa.lit [] h18k N5 ⟨⟨rfl,rfl,trivial⟩,rfl,trivial⟩ rfl rfl ?_;with_reducible refine wK ?_
      cases hb:jv l (k:Int) with
      | true=>
        rw[hb,if_pos rfl] at hst
        refine bk.tt ?_;with_reducible refine wK ?_
        refine j0.mk ((kf l k).map bV) [aj k] ⟨rfl,hbl.symm,rfl⟩ ⟨rfl,rfl,rfl⟩ rfl (by simp;omega) (by simp;omega) ?_;with_reducible refine wK ?_
        refine nK ?_;with_reducible refine wK ?_
        refine cm.mk (k+1) (by omega) (by omega) ⟨⟨rfl,rfl⟩,⟨⟨rfl,rfl⟩,⟨rfl,?_⟩,rfl,by show((k+1:Nat):Int)=(k:Int)+1;omega,trivial⟩,⟨⟨rfl,rfl,trivial⟩,trivial⟩,⟨?_,ae _⟩,trivial⟩
        ·rw[hst];simp
        ·rw[hst,←vD];exact .refl (by rw[vD];exact ae _)
      | false=>
        rw[hb,if_neg (by decide)] at hst
        refine bk.ff ?_;with_reducible refine wK ?_
        refine nK ?_;with_reducible refine wK ?_
        refine cm.mk (k+1) (by omega) (by omega) ⟨⟨rfl,rfl⟩,⟨⟨rfl,rfl⟩,⟨rfl,?_⟩,rfl,by show((k+1:Nat):Int)=(k:Int)+1;omega,trivial⟩,⟨⟨rfl,rfl,trivial⟩,trivial⟩,⟨?_,ae _⟩,trivial⟩
        ·rw[hst]
        ·rw[hst];exact .refl (ae _)
    · (refine eK ?_ ?_<;>with_reducible repeat' (first|exact trivial|(show _∧_;refine aK ?_ ?_)))
      have hkl:k=l.length:=by simp only[dh] at h1;omega
      subst hkl
      exact dj rfl rfl rfl rfl
set_option maxHeartbeats 8000000
end Go.Proofs.Heir
end
namespace Go.Proofs.Heir
open Go Go.Am Go.RowKit Go.Lib
set_option maxRecDepth 100000
set_option maxHeartbeats 8000000
theorem tg:bE w5.nodes:=⟨by decide,by decide,by decide,by decide⟩
theorem NT:an Tryz.prog 19 [] [aY w5,aj 1] [] (aj 2):=by
  have h:=GS w5 tg 1
  rwa [show(if af w5.nodes 1&&aX w5 then lJ w5.nodes 1 else-1)=(2:Int) by decide+kernel] at h
theorem H9 (n:Int)(b:Bool)(hb:(af w5.nodes n&&(aX w5&&jv w5.nodes n))=b):an Tryz.prog 21 [] [aY w5,aj n] [] (bB b):=by
  have h:=uM w5 tg n
  rwa [hb] at h
theorem Nq:an Tryz.prog 22 [] [aY w5] [] (cF [1,4]):=by
  have h:=LD w5 tg
  rwa [show(if aX w5 then kf w5.nodes w5.nodes.length else[])=([1,4]:List Int) by decide+kernel] at h
theorem Lq:an Tryz.prog 15 [] [] [] (bB true):=by
  have h54:=Ba
  have h19:=NT
  have b1:=H9 1 true (by decide+kernel)
  have b2:=H9 2 false (by decide+kernel)
  have b3:=H9 3 false (by decide+kernel)
  have b4:=H9 4 true (by decide+kernel)
  have h22:=Nq
  have h25:=KT [1,4] [1,4] (by decide)
  have hn:bu (.tup [aY w5,aj 1,aj 0])=true:=by kernel_rfl
  generalize w5=F at*
  obtain⟨l,m⟩:=F
  refine an.aF (rvs:=[.tmp 0]) G au Tryz.func15 rfl Tryz.ntmps15 rfl rfl ?_;with_reducible refine wD ?_
  repeat' (first
    |refine gK ?_
    | ((first
      |((with_reducible show aa _ _ 54 _ _ _ _);refine aa.val [] h54 N8 ⟨rfl,rfl,trivial⟩ rfl rfl hn ?_)
      |((with_reducible show aa _ _ 19 _ _ _ _);refine aa.lit [] h19 oz ⟨⟨rfl,rfl,trivial⟩,rfl,trivial⟩ rfl rfl ?_)
      |((with_reducible show aa _ _ 21 _ _ _ _);first|(refine aa.lit [] b1 cQ ⟨⟨rfl,rfl,trivial⟩,rfl,trivial⟩ rfl rfl ?_)|(refine aa.lit [] b2 cQ ⟨⟨rfl,rfl,trivial⟩,rfl,trivial⟩ rfl rfl ?_)|(refine aa.lit [] b3 cQ ⟨⟨rfl,rfl,trivial⟩,rfl,trivial⟩ rfl rfl ?_)|(refine aa.lit [] b4 cQ ⟨⟨rfl,rfl,trivial⟩,rfl,trivial⟩ rfl rfl ?_))
      |((with_reducible show aa _ _ 22 _ _ _ _);refine aa.val [] h22 Ok ⟨⟨rfl,rfl,trivial⟩,trivial⟩ rfl rfl rfl ?_)
      |((with_reducible show aa _ _ 25 _ _ _ _);refine aa.lit [381] h25 N9 ⟨rfl,⟨_,_,_,_,rfl,rfl,rfl,Nat.le_refl _,rfl,.refl rfl⟩,trivial⟩ rfl rfl ?_)
      |((with_reducible show aL _ _ _ _);refine dK ?_))<;>with_reducible refine wK ?_)
    |((with_reducible show(_∧_)∧_∧_);(refine eK ?_ ?_<;>with_reducible repeat' (first|exact trivial|(show _∧_;refine aK ?_ ?_)))))
  all_goals first|rfl|trace_state
end Go.Proofs.Heir
