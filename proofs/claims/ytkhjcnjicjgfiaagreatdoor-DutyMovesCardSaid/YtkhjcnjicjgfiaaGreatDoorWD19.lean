/- Models, plain laws and contracts of functions of the given program; conditions as stated in each theorem. By an AI agent. -/
import Derived.Test.YtkhjcnjicjgfiaaGreatDoorWD12
import Derived.Test.YtkhjcnjicjgfiaaGreatDoorWD18
import Derived.Test.YtkhjcnjicjgfiaaGreatDoorWD13
import Derived.Laws.Runes
import Derived.Shelf.Strings.Builder1
import Derived.Test.YtkhjcnjicjgfiaaGreatDoorChecked
import Derived.Test.YtkhjcnjicjgfiaaGreatDoorWD15
import Derived.Tactics
import Derived.Test.YtkhjcnjicjgfiaaGreatDoorWD16
import Derived.Test.YtkhjcnjicjgfiaaGreatDoorWD14
import Derived.Test.YtkhjcnjicjgfiaaGreatDoorWD11
set_option linter.unusedSimpArgs false
set_option linter.unusedVariables false
namespace Go.Proofs.Heir
open Go Go.Am
set_option maxRecDepth 100000
set_option maxHeartbeats 8000000
theorem O0:gj Tryz.prog 224 .string (.agg #[.string ByteArray.empty,.string ByteArray.empty]):=⟨9,90,by kernel_rfl,by kernel_rfl,fun w=>Tryz.zeroValue90 w⟩
noncomputable def Ni:List (Nat×Func):=[(16,Tryz.f16),(25,Tryz.f25),(54,Tryz.f54),(174,Tryz.f174),(17,Tryz.f17),(207,Tryz.f207),(69,Tryz.f69),(114,Tryz.f114),(133,Tryz.f133),(179,Tryz.f179),(208,Tryz.f208),(55,Tryz.f55),(223,Tryz.f223),(135,Tryz.f135),(137,Tryz.f137),(173,Tryz.f173),(187,Tryz.f187),(115,Tryz.f115),(116,Tryz.f116),(117,Tryz.f117),(118,Tryz.f118),(119,Tryz.f119),(120,Tryz.f120),(127,Tryz.f127),(201,Tryz.f201),(202,Tryz.f202),(203,Tryz.f203),(204,Tryz.f204),(205,Tryz.f205),(67,Tryz.f67),(131,Tryz.f131),(136,Tryz.f136),(129,Tryz.f129),(175,Tryz.f175),(176,Tryz.f176),(177,Tryz.f177),(125,Tryz.f125),(217,Tryz.f217),(218,Tryz.f218),(219,Tryz.f219),(124,Tryz.f124),(180,Tryz.f180),(181,Tryz.f181),(182,Tryz.f182),(73,Tryz.f73),(231,Tryz.f231),(232,Tryz.f232),(183,Tryz.f183),(236,Tryz.f236)]
def G5:List (Nat×IntKind):=[(3,.i64),(5,.u8),(21,.i32),(28,.i64)]
theorem H8:∀p∈Ni,Tryz.prog.funcs[p.1]? =some p.2∧af Tryz.prog p.1:=List.forall_mem_cons.2 ⟨⟨Tryz.func16,Kq⟩,List.forall_mem_cons.2 ⟨⟨Tryz.func25,PA⟩,List.forall_mem_cons.2 ⟨⟨Tryz.func54,Pd⟩,List.forall_mem_cons.2 ⟨⟨Tryz.func174,mZ⟩,List.forall_mem_cons.2 ⟨⟨Tryz.func17,yg⟩,List.forall_mem_cons.2 ⟨⟨Tryz.func207,Nq⟩,List.forall_mem_cons.2 ⟨⟨Tryz.func69,Pu⟩,List.forall_mem_cons.2 ⟨⟨Tryz.func114,Oh⟩,List.forall_mem_cons.2 ⟨⟨Tryz.func133,Hv⟩,List.forall_mem_cons.2 ⟨⟨Tryz.func179,JW⟩,List.forall_mem_cons.2 ⟨⟨Tryz.func208,Nr⟩,List.forall_mem_cons.2 ⟨⟨Tryz.func55,NY⟩,List.forall_mem_cons.2 ⟨⟨Tryz.func223,MW⟩,List.forall_mem_cons.2 ⟨⟨Tryz.func135,Oe⟩,List.forall_mem_cons.2 ⟨⟨Tryz.func137,LF⟩,List.forall_mem_cons.2 ⟨⟨Tryz.func173,NZ⟩,List.forall_mem_cons.2 ⟨⟨Tryz.func187,MN⟩,List.forall_mem_cons.2 ⟨⟨Tryz.func115,Bl⟩,List.forall_mem_cons.2 ⟨⟨Tryz.func116,ET⟩,List.forall_mem_cons.2 ⟨⟨Tryz.func117,Gb⟩,List.forall_mem_cons.2 ⟨⟨Tryz.func118,J6⟩,List.forall_mem_cons.2 ⟨⟨Tryz.func119,LN⟩,List.forall_mem_cons.2 ⟨⟨Tryz.func120,NB⟩,List.forall_mem_cons.2 ⟨⟨Tryz.func127,LI⟩,List.forall_mem_cons.2 ⟨⟨Tryz.func201,OB⟩,List.forall_mem_cons.2 ⟨⟨Tryz.func202,N8⟩,List.forall_mem_cons.2 ⟨⟨Tryz.func203,ON⟩,List.forall_mem_cons.2 ⟨⟨Tryz.func204,OL⟩,List.forall_mem_cons.2 ⟨⟨Tryz.func205,MV⟩,List.forall_mem_cons.2 ⟨⟨Tryz.func67,E2⟩,List.forall_mem_cons.2 ⟨⟨Tryz.func131,HZ⟩,List.forall_mem_cons.2 ⟨⟨Tryz.func136,pL⟩,List.forall_mem_cons.2 ⟨⟨Tryz.func129,uN⟩,List.forall_mem_cons.2 ⟨⟨Tryz.func175,D2⟩,List.forall_mem_cons.2 ⟨⟨Tryz.func176,Mg⟩,List.forall_mem_cons.2 ⟨⟨Tryz.func177,Na⟩,List.forall_mem_cons.2 ⟨⟨Tryz.func125,AL⟩,List.forall_mem_cons.2 ⟨⟨Tryz.func217,N3⟩,List.forall_mem_cons.2 ⟨⟨Tryz.func218,N2⟩,List.forall_mem_cons.2 ⟨⟨Tryz.func219,OR⟩,List.forall_mem_cons.2 ⟨⟨Tryz.func124,M8⟩,List.forall_mem_cons.2 ⟨⟨Tryz.func180,Nl⟩,List.forall_mem_cons.2 ⟨⟨Tryz.func181,MT⟩,List.forall_mem_cons.2 ⟨⟨Tryz.func182,MB⟩,List.forall_mem_cons.2 ⟨⟨Tryz.func73,Ow⟩,List.forall_mem_cons.2 ⟨⟨Tryz.func231,Pb⟩,List.forall_mem_cons.2 ⟨⟨Tryz.func232,NL⟩,List.forall_mem_cons.2 ⟨⟨Tryz.func183,LC⟩,List.forall_mem_cons.2 ⟨⟨Tryz.func236,Ok⟩,fun _ h=>by simp at h⟩⟩⟩⟩⟩⟩⟩⟩⟩⟩⟩⟩⟩⟩⟩⟩⟩⟩⟩⟩⟩⟩⟩⟩⟩⟩⟩⟩⟩⟩⟩⟩⟩⟩⟩⟩⟩⟩⟩⟩⟩⟩⟩⟩⟩⟩⟩⟩⟩
theorem Ey:∀p∈G5,Tryz.prog.underlying p.1=some (.int p.2):=List.forall_mem_cons.2 ⟨by kernel_rfl,List.forall_mem_cons.2 ⟨by kernel_rfl,List.forall_mem_cons.2 ⟨by kernel_rfl,List.forall_mem_cons.2 ⟨by kernel_rfl,fun _ h=>by simp at h⟩⟩⟩⟩
def Kz:tw:=[(206,.int .i64,.int .i64 0),(224,.string,.agg #[.string ByteArray.empty,.string ByteArray.empty])]
theorem Fu:tw.Good Tryz.prog Kz:=List.forall_mem_cons.2 ⟨JS,List.forall_mem_cons.2 ⟨O0,fun _ h=>by simp at h⟩⟩
end Go.Proofs.Heir
namespace Go.Proofs.Heir
open Go Go.Am Go.RowKit Go.Lib
set_option maxRecDepth 100000
set_option maxHeartbeats 8000000
theorem Jk (s t:TypeId)(c:Int)(h1:Tryz.prog.underlying s=some (.int .i32))(h2:Tryz.prog.underlying t=some .string):∀w,(convert s t (.int .i32 c)).run Tryz.prog w=.ok (.string (Utf8.encode c)) w:=
  fun w=>run_convert_int_string w s t .i32 c (by rw[h1];rfl) h2
theorem zS (c:Int):(Utf8.encode c).size≤4:=by
  unfold Utf8.encode
  simp only
  repeat' split
  all_goals exact Nat.le_of_ble_eq_true rfl
@[reducible] def aB : ByteArray := ⟨#[97]⟩
def Hy (r:Nat):Bool:=!cz (aB++Utf8.encode (r:Int))
theorem Kf (c:Int):an Tryz.prog 232 [] [zR c] [] (aX (!cz (aB++Utf8.encode c))):=by
  have hsz:=zS c
  have ha:aB.size=1:=rfl
  refine an.aF (rvs:=[.tmp 2]) G aq Tryz.func232 rfl Tryz.ntmps232 rfl rfl ?_;with_reducible refine wD ?_
  refine ni.mk _ (Jk 21 9 c (by kernel_rfl) (by kernel_rfl)) ?_;with_reducible refine wK ?_
  refine aP.mk (by have:=zS c;have h1:(⟨⟨[97]⟩⟩:ByteArray).size=1:=rfl;omega) ?_;with_reducible refine wK ?_
  refine ah.lit [] (sr _) Hv ⟨rfl,trivial⟩ rfl rfl ?_;with_reducible refine wK ?_
  (refine eK ?_ ?_<;>with_reducible repeat' (first|exact trivial|(show _∧_;refine aK ?_ ?_)))
  all_goals first|rfl|trace_state
theorem Eg (s:ByteArray):an Tryz.prog 213 [] [cw s,.lit (.func (.func 232) #[] #[])] [] (ay (Lib.idxFunc Hy true s)):=
  an.iH (vs:=[.string s,.func (.func 232) #[] #[]]) fun w ht=>tM 232 NL Hy s w ht fun W x ht _=>(Kf (x:Int)).below (vs:=[.int .i32 (x:Int)]) W ht
theorem Gy:an Tryz.prog 220 [.live 2 [.agg [.lit (.pointer none),.lit (.slice none 0 0)]] false] [.ptr 0 0 0] [.live 2 [.agg [.lit (.pointer none),.lit (.slice none 0 0)]] false] (cw ⟨#[]⟩):=by
  refine an.aF (rvs:=[.tmp 2]) G aq Tryz.func220 rfl Tryz.ntmps220 rfl rfl ?_;with_reducible refine wD ?_
  refine⟨[],.lit (.pointer none),[],az.lits (ρ:=fun _=>.slice none 0 0) (r:=.pointer none) (by simp) (fun y hy=>?_) (fun w=>?_) (gr rfl),?_⟩
  · simp[Op.operands,Call.operands] at hy
    subst hy
    rfl
  ·kernel_rfl
  with_reducible refine wK ?_
  refine⟨[],.lit (.string ⟨#[]⟩),[],az.lits (ρ:=fun y=>match y with|.tmp 7=>.pointer none|_=>.int .i64 0) (r:=.string ⟨#[]⟩) (by simp) (fun y hy=>?_) (fun w=>?_) (gr rfl),?_⟩
  · simp[Op.operands,Call.operands] at hy
    rcases hy with rfl|rfl<;>rfl
  ·kernel_rfl
  with_reducible refine wK ?_
  refine dK ?_;with_reducible refine wK ?_
  (refine eK ?_ ?_<;>with_reducible repeat' (first|exact trivial|(show _∧_;refine aK ?_ ?_)))
  all_goals first|rfl|exact .inl rfl|exact⟨rfl,rfl⟩|trace_state
def La:j2:=fun g ins args=>match g with
  | 174=>match ins,args with
    |[],[.lit (.string s)]=>some ([],aX (eL s))
    |_,_=>none
  | 133=>match ins,args with
    |[],[.lit (.string s)]=>some ([],aX (cz s))
    |_,_=>none
  | 67=>match ins,args with
    |[],[.lit (.string s)]=>some ([],.tup [cw (if cz s then nW s else⟨#[]⟩),ay (if cz s then 0 else 4)])
    |_,_=>none
  | 213=>match ins,args with
    | [],[.lit (.string s),.lit (.func (.func 232) a b)]=>match a.toList,b.toList with
      |[],[]=>some ([],ay (Lib.idxFunc Hy true s))
      |_,_=>none
    |_,_=>none
  | 220=>match ins,args with
    |[.live 2 [.agg [.lit (.pointer none),.lit (.slice none 0 0)]] false],[.ptr 0 0 0]=>some ([.live 2 [.agg [.lit (.pointer none),.lit (.slice none 0 0)]] false],cw ⟨#[]⟩)
    |_,_=>none
  |_=>none
theorem Ih:∀g ins args outs res,La g ins args=some (outs,res)→an Tryz.prog g ins args outs res∧af Tryz.prog g:=by
  intro g ins args outs res h
  unfold La at h
  split at h
  · split at h
    ·cases h;exact⟨xe _,mZ⟩
    ·cases h
  · split at h
    ·cases h;exact⟨sr _,Hv⟩
    ·cases h
  · split at h
    ·cases h;exact⟨xB _,E2⟩
    ·cases h
  · split at h
    · split at h
      · rename_i ha hb
        cases h
        rename_i a b _ _
        obtain rfl:=(Array.ext' ha:_= #[])
        obtain rfl:=(Array.ext' hb:_= #[])
        exact⟨Eg _,Oc⟩
      ·cases h
    ·cases h
  · split at h
    ·cases h;exact⟨Gy,N6⟩
    ·cases h
  ·cases h
noncomputable def Ma:l9:=⟨G,Kz,Ni,G5,La,[]⟩
theorem vz:Ma.Good Tryz.prog:=⟨aq,Fu,H8,Ey,Ih,by kernel_rfl,fun _ h=>by cases h⟩
end Go.Proofs.Heir
namespace Go.Proofs
open Go.Shelf
def Tryz.rF:Go.Shelf.Ren:=⟨fun|169=>220|n=>n,fun|70=>257|9=>9|0=>0|72=>259|37=>71|127=>280|3=>3|5=>5|n=>n,fun|n=>n⟩
theorem Tryz.JK:Go.Proofs.Lays.n169 Tryz.prog Tryz.rF:={
  mixed:=by kernel_rfl
  f169:=Tryz.func220.trans (congrArg some (by kernel_rfl))
  t0:=Tryz.underlying0
  a0:=Tryz.isAgg0
  z0:=Tryz.sizeOf0
  v0:=Tryz.zeroValue0
  t3:=Tryz.underlying3
  a3:=Tryz.isAgg3
  z3:=Tryz.sizeOf3
  v3:=Tryz.zeroValue3
  t9:=Tryz.underlying9
  a9:=Tryz.isAgg9
  z9:=Tryz.sizeOf9
  v9:=Tryz.zeroValue9
  t37:=Tryz.underlying71
  a37:=Tryz.isAgg71
  z37:=Tryz.sizeOf71
  v37:=Tryz.zeroValue71
  t70:=Tryz.underlying257
  a70:=Tryz.isAgg257
  z70:=Tryz.sizeOf257
  v70:=Tryz.zeroValue257
  t72:=Tryz.underlying259
  a72:=Tryz.isAgg259
  z72:=Tryz.sizeOf259
  v72:=Tryz.zeroValue259
  t127:=Tryz.underlying280
  a127:=Tryz.isAgg280
  z127:=Tryz.sizeOf280
  v127:=Tryz.zeroValue280}
theorem Tryz.pZ:Builder.Extra Tryz.prog Tryz.rF:={
  sizeBuilder:=by kernel_rfl
  liesBuilder:=by kernel_rfl
  t5:=Tryz.underlying5
  a5:=Tryz.isAgg5
  z5:=Tryz.sizeOf5
  v5:=Tryz.zeroValue5
  infoByte:=by kernel_rfl
  cellsByte:=by kernel_rfl
  sizeByte:=by kernel_rfl
  neB5:=by decide}
open Go.RowKit in
theorem Tryz.Builder_String_any (B b:Nat)(l:List UInt8)(w:World)(h:Lib.IsBuilder 259 5 B b (Lib.byteCells l) w)(hBw:B≤w.heap.size):
    Calls Tryz.prog 220 #[.pointer (some ⟨b,0,none⟩)] w fun e w'=>e=.returned (.string ⟨l.toArray⟩)∧Below B w w':=Any.Builder_String_any Tryz.JK Tryz.pZ B b l w h hBw
def Tryz.rG:Go.Shelf.Ren:=⟨fun|167=>221|240=>233|276=>237|n=>n,fun|0=>0|4=>4|5=>5|9=>9|20=>20|37=>71|70=>257|72=>259|75=>98|80=>236|164=>239|n=>n,fun|n=>n⟩
theorem Tryz.IT:Go.Proofs.Lays.n167 Tryz.prog Tryz.rG:={
  mixed:=by kernel_rfl
  f167:=Tryz.func221.trans (congrArg some (by kernel_rfl))
  f240:=Tryz.func233.trans (congrArg some (by kernel_rfl))
  f276:=Tryz.func237.trans (congrArg some (by kernel_rfl))
  t0:=Tryz.underlying0
  a0:=Tryz.isAgg0
  z0:=Tryz.sizeOf0
  v0:=Tryz.zeroValue0
  t4:=Tryz.underlying4
  a4:=Tryz.isAgg4
  z4:=Tryz.sizeOf4
  v4:=Tryz.zeroValue4
  t5:=Tryz.underlying5
  a5:=Tryz.isAgg5
  z5:=Tryz.sizeOf5
  v5:=Tryz.zeroValue5
  t9:=Tryz.underlying9
  a9:=Tryz.isAgg9
  z9:=Tryz.sizeOf9
  v9:=Tryz.zeroValue9
  t20:=Tryz.underlying20
  a20:=Tryz.isAgg20
  z20:=Tryz.sizeOf20
  v20:=Tryz.zeroValue20
  t37:=Tryz.underlying71
  a37:=Tryz.isAgg71
  z37:=Tryz.sizeOf71
  v37:=Tryz.zeroValue71
  t70:=Tryz.underlying257
  a70:=Tryz.isAgg257
  z70:=Tryz.sizeOf257
  v70:=Tryz.zeroValue257
  t72:=Tryz.underlying259
  a72:=Tryz.isAgg259
  z72:=Tryz.sizeOf259
  v72:=Tryz.zeroValue259
  t75:=Tryz.underlying98
  a75:=Tryz.isAgg98
  z75:=Tryz.sizeOf98
  v75:=Tryz.zeroValue98
  t164:=Tryz.underlying239
  a164:=Tryz.isAgg239
  z164:=Tryz.sizeOf239
  v164:=Tryz.zeroValue239}
theorem Tryz.pz:Builder.Extra Tryz.prog Tryz.rG:={
  sizeBuilder:=by kernel_rfl
  liesBuilder:=by kernel_rfl
  t5:=Tryz.underlying5
  a5:=Tryz.isAgg5
  z5:=Tryz.sizeOf5
  v5:=Tryz.zeroValue5
  infoByte:=by kernel_rfl
  cellsByte:=by kernel_rfl
  sizeByte:=by kernel_rfl
  neB5:=by decide}
open Go.RowKit in
theorem Tryz.Builder_WriteByte (B b:Nat)(bs:List Value)(c:Int)(w:World)(h:Lib.IsBuilder 259 5 B b bs w)(hlen:bs.length+1≤140737488355328)(hBw:B≤w.heap.size):
    Calls Tryz.prog 221 #[.pointer (some ⟨b,0,none⟩),.int .u8 c] w fun e w'=>e=.returned .nilIface∧(Lib.BuilderAt 259 5 B b (.pointer (some ⟨b,0,none⟩)) (bs++ [.int .u8 c]) w'∧Below B w w'):=Any.Builder_WriteByte Tryz.IT Tryz.pz B b bs c w h hlen hBw
end Go.Proofs
namespace Go.Proofs.Heir
open Go Go.Am Go.RowKit Go.Shelf
set_option maxRecDepth 100000
set_option maxHeartbeats 8000000
theorem wU (w:World)(a:Addr)(u:Value)(k:Nat):(w.setCell a u).heap[k]? =if k=a.block then(w.heap[k]?).map (fun o=>match(w.setCell a u).heap[k]? with|some o'=>o'|none=>o) else w.heap[k]? :=by
  by_cases h:k=a.block
  · subst h
    rw[if_pos rfl]
    unfold World.setCell
    simp only[Array.getElem?_modify,if_true]
    cases w.heap[a.block]? <;>rfl
  · rw[if_neg h]
    unfold World.setCell
    simp only[Array.getElem?_modify]
    rw[if_neg (fun e=>h e.symm)]
theorem lu (w:World)(a:Addr)(u:Value){k:Nat}(h:k≠a.block):(w.setCell a u).heap[k]? =w.heap[k]? :=by rw[wU,if_neg h]
theorem xh {w w':World}(a:Addr)(u:Value)(h:w'.heap[a.block]? =w.heap[a.block]?):(w'.setCell a u).heap[a.block]? =(w.setCell a u).heap[a.block]? :=by
  unfold World.setCell
  simp only[Array.getElem?_modify,if_true,h]
theorem BZ {B:Nat}{w w':World}(h:Below B w w')(a:Addr)(u:Value)(ha:a.block<B):Below B (w.setCell a u) (w'.setCell a u) where
  os:=h.os
  tape:=h.tape
  output:=h.output
  size:=by have:=h.size;simpa[World.setCell] using this
  block k hk:=by
    by_cases e:k=a.block
    ·subst e;exact xh a u (h.block _ hk)
    ·rw[lu _ _ _ e,lu _ _ _ e];exact h.block k hk
theorem rU {T e:TypeId}{B b:Nat}{bs:List Value}{w:World}(h:Lib.IsBuilder T e B b bs w)(a:Addr)(ha:a.block<B)(u:Value):Lib.IsBuilder T e B b bs (w.setCell a u):=by
  rcases h with⟨hB,v,hb,hown,hne⟩|⟨hB,v,hb,hown,hne⟩
  ·exact .inl ⟨hB,v,(lu w a u (by omega)).trans hb,ownsRow_setCell_below hown ha u,hne⟩
  ·exact .inr ⟨hB,v,(lu w a u (by omega)).trans hb,ownsRow_setCell_below hown ha u,hne⟩
theorem xE (w:World)(b o:Nat)(body tail:List UInt8)(hb:∀c∈body,c≠34∧c≠92)(hsz:body.length+tail.length≤100000)(Q:World→Prop)
    (hm:Calls Tryz.prog 219 #[.pointer (some ⟨b,o,none⟩),.string ⟨#[34]⟩] w fun e w1=>e=.returned (.tuple #[])∧Q w1)
    (hQ:∀w1,Q w1→w1.cell? ⟨b,o+3,none⟩=some (.string ⟨(body++34::tail).toArray⟩)∧w1.frozen? ⟨b,o+3,none⟩=false):
    Calls Tryz.prog 205 #[.pointer (some ⟨b,o,none⟩)] w fun e w'=>e=.returned (.string ⟨body.toArray⟩)∧∃w1,Q w1∧Below w1.heap.size (w1.setCell ⟨b,o+3,none⟩ (.string ⟨tail.toArray⟩)) w':=by
  go_enter Tryz.func205,Tryz.ntmps205
  go_wp2_with (go_at_call 219;refine hm.mono ?_;rintro e w1 ⟨rfl,hq⟩)
  obtain⟨c1,f1⟩:=hQ w1 hq
  have hlt:=World.block_lt_of_cell? _ _ c1
  have hsl:(ByteArray.mk (body++34::tail).toArray).size=body.length+ (tail.length+1):=by simp[ByteArray.size]
  go_loopw [4] (fun i wr=> ∃k:Nat,k≤body.length∧i=.int .i64 k∧Lib.IsBuilder 259 5 w1.heap.size w1.heap.size (Lib.byteCells (body.take k)) wr∧Below w1.heap.size w1 wr∧w1.heap.size≤wr.heap.size) (fun i _=>body.length+1- (intOf i).toNat)
  case atStart=>exact⟨0,Nat.zero_le _,rfl,Lib.fresh_isBuilder 259 5 w1,(Below.refl _ w1).alloc (Nat.le_refl _) _,by simp⟩
  case round=>
    obtain⟨k,hk,rfl,hbd,hbl,hsz2⟩:=hrel
    have c2:wr.cell? ⟨b,o+3,none⟩=some (.string ⟨(body++34::tail).toArray⟩):=(hbl.cell (p:=⟨b,o+3,none⟩) hlt).trans c1
    have f2:wr.frozen? ⟨b,o+3,none⟩=false:=(hbl.frozen (p:=⟨b,o+3,none⟩) hlt).trans f1
    have hklt:k<body.length+ (tail.length+1):=by omega
    by_cases hkb:k<body.length
    · have hkS:k< (ByteArray.mk (body++34::tail).toArray).size:=by rw[hsl];omega
      have hgk:(ByteArray.mk (body++34::tail).toArray)[k]'hkS=body[k]:=by
        show(body++34::tail).toArray[k]=_
        rw[List.getElem_toArray,List.getElem_append_left hkb]
      obtain⟨m,hm⟩:∃m:UInt8,body[k]=m:=⟨_,rfl⟩
      have hmm:=hb m (by rw[←hm];exact List.getElem_mem hkb)
      have q1:((m.toNat:Int)==34)=false:=by
        rw[beq_eq_false_iff_ne];intro h;exact hmm.1 (UInt8.toNat_inj.1 (by show m.toNat=34;omega))
      have q2:((m.toNat:Int)==92)=false:=by
        rw[beq_eq_false_iff_ne];intro h;exact hmm.2 (UInt8.toNat_inj.1 (by show m.toNat=92;omega))
      have q3:¬ (m.toNat:Int)=34:=by simpa using q1
      have q4:¬ (m.toNat:Int)=92:=by simpa using q2
      rw[hm] at hgk
      have hwb:=Tryz.Builder_WriteByte w1.heap.size w1.heap.size (Lib.byteCells (body.take k)) m.toNat wr hbd (by rw[show(Lib.byteCells (body.take k)).length=(body.take k).length from bM ..,gI];omega) hsz2
      have htk:Lib.byteCells (body.take k)++ [.int .u8 (m.toNat:Int)]=Lib.byteCells (body.take (k+1)):=by
        rw[List.take_add_one,bh hkb,hm]
        simp[Lib.byteCells]
      rw[htk] at hwb
      clear hb hmm hsl
      go_wp2_with (go_at_call 221;refine hwb.mono ?_;rintro e w2 ⟨rfl,h2,h3⟩)
      exact⟨⟨k+1,hkb,by congr 1,.inr h2,hbl.trans h3,by have:=h3.size;omega⟩,by simp[intOf];omega⟩
    · obtain rfl:k=body.length:=by omega
      have hkS:body.length< (ByteArray.mk (body++34::tail).toArray).size:=by rw[hsl];omega
      have hgk:(ByteArray.mk (body++34::tail).toArray)[body.length]'hkS=34:=by
        show(body++34::tail).toArray[body.length]=_
        rw[List.getElem_toArray,List.getElem_append_right (Nat.le_refl _)]
        simp
      have hex:(ByteArray.mk (body++34::tail).toArray).extract (body.length+1) (body.length+ (tail.length+1))=⟨tail.toArray⟩:=by
        rw[EA]
        show strOf (((body++34::tail).take (body.length+ (tail.length+1))).drop (body.length+1))=strOf tail
        rw[nU (by simp),show body++34::tail=(body++ [34])++tail by simp,List.drop_left' (by simp)]
      rw[List.take_length] at hbd
      have hst:=Tryz.Builder_String_any w1.heap.size w1.heap.size body (wr.setCell ⟨b,o+3,none⟩ (.string ⟨tail.toArray⟩)) (rU hbd ⟨b,o+3,none⟩ hlt _) (by simpa[World.setCell] using hsz2)
      have h34:((34:UInt8).toNat:Int)=34:=rfl
      clear hb
      go_wp2_with (go_at_call 220;refine hst.mono ?_;rintro e w2 ⟨rfl,h3⟩)
      go_ret
      exact⟨rfl,w1,hq,(BZ hbl _ _ hlt).trans h3⟩
theorem zP {w:World}{b j:Nat}{C:Array Value}{e:TypeId}{fz:Nat×Nat}(hC:w.heap[b]? =some (.cells C e fz))(u:Value):w.setCell ⟨b,j,none⟩ u=w.setRow b (C.setIfInBounds j u):=by
  unfold World.setCell World.setRow
  congr 1
  apply Array.ext_getElem?
  intro k
  simp only[Array.getElem?_modify]
  by_cases e:b=k
  ·subst e;simp[hC]
  ·simp[e]
theorem J7 (x0 x1 x2:AV)(s0:ByteArray)(body tail:List UInt8)(rest:List MS)(hb:∀c∈body,c≠34∧c≠92)(hsz:body.length+tail.length≤100000)
    (h126:an Tryz.prog 219 (.live 5 [.agg [x0,x1,x2,.lit (.string s0),.lit (.bool false)]] false::rest) [.ptr 0 0 0,.lit (.string ⟨#[34]⟩)] (.live 5 [.agg [x0,x1,x2,.lit (.string ⟨(body++34::tail).toArray⟩),.lit (.bool false)]] false::rest) (.tup [])):
    an Tryz.prog 205 (.live 5 [.agg [x0,x1,x2,.lit (.string s0),.lit (.bool false)]] false::rest) [.ptr 0 0 0] (.live 5 [.agg [x0,x1,x2,.lit (.string ⟨tail.toArray⟩),.lit (.bool false)]] false::rest) (.lit (.string ⟨body.toArray⟩)):=by
  intro w W0 L vs hL hs hr
  obtain⟨v,us,rfl,hv,hus⟩:=bY.oZ hr
  obtain rfl:=bY.Cy hus
  obtain⟨B,hB,hmp,rfl⟩:∃B,L 0=some B∧B.mp=false∧v=.pointer (some ⟨B.b,B.o+ (0*B.wd+0),none⟩):=by cases hv with|ptr h1 h2=>exact⟨_,h1,h2,rfl⟩
  rw[Nat.zero_mul,Nat.zero_add,Nat.add_zero] at hv
  rw[Nat.zero_mul,Nat.zero_add,Nat.add_zero]
  have look:∀ (s1:ByteArray) (μ':Mu) (w1:World),bV Tryz.prog 0 w W0 L μ' (bare (.live 5 [.agg [x0,x1,x2,.lit (.string s1),.lit (.bool false)]] false::rest)) gl w1→μ' 0=some B∧eu (Wr W0 μ' (aD (.live 5 [.agg [x0,x1,x2,.lit (.string s1),.lit (.bool false)]] false::rest))) μ' w1 B 5 [.agg [x0,x1,x2,.lit (.string s1),.lit (.bool false)]] false:=by
    intro s1 μ' w1 hs1
    obtain⟨B',hB',ho⟩:=hs1.objs 0 5 _ false rfl
    have h:=hs1.lentμ 0 B (by decide) hB
    rw[h] at hB'
    cases hB'
    exact⟨h,ho⟩
  refine(xE w B.b B.o body tail hb hsz (fun w1=> ∃μ',bV Tryz.prog 0 w W0 L μ' (bare (.live 5 [.agg [x0,x1,x2,.lit (.string ⟨(body++34::tail).toArray⟩),.lit (.bool false)]] false::rest)) gl w1) ?_ ?_).mono ?_
  · refine(h126 w W0 L [.pointer (some ⟨B.b,B.o,none⟩),.string ⟨#[34]⟩] hL hs (.cons hv (.cons .lit .nil))).mono ?_
    rintro e w1 ⟨u,μ',rfl,hs1,hu⟩
    cases hu with
    | tup h1 h2=>
      rename_i vs
      obtain rfl:vs=[]:=List.eq_nil_of_length_eq_zero h1
      exact⟨rfl,μ',hs1⟩
  · rintro w1 ⟨μ',hs1⟩
    obtain⟨h1,ho⟩:=look _ μ' w1 hs1
    obtain⟨u,hu1,hu2⟩:=ho.cell hmp 3 (.lit (.string ⟨(body++34::tail).toArray⟩)) rfl
    have hvirt:=ho.real (i:=0) rfl
    obtain⟨C,e,fz,c1,c2,_⟩:=ho.blk hvirt hmp
    rw[c2 rfl] at c1
    refine⟨?_,Lib.frozen_of_heap c1 _⟩
    rw[hu1];cases hu2;rfl
  · rintro e w' ⟨rfl,w1,⟨μ',hs1⟩,hbel⟩
    obtain⟨h1,ho⟩:=look _ μ' w1 hs1
    have hvirt:=ho.real (i:=0) rfl
    obtain⟨C,e,fz,c1,c2,c3⟩:=ho.blk hvirt hmp
    rw[c2 rfl] at c1
    have hset:=hs1.setObj (t:=0) (rows':=[.agg [x0,x1,x2,.lit (.string ⟨tail.toArray⟩),.lit (.bool false)]]) (C':=C.setIfInBounds (B.o+3) (.string ⟨tail.toArray⟩)) rfl h1 hvirt hmp c1 (by simp) rfl (bB.ga fun r hr=>by rw[kX] at hr;subst hr;rfl) (fun q c hc=>?_)
    · rw [←zP c1] at hset
      refine⟨_,μ',rfl,?_,.lit⟩
      have hm:=hset.more (w':=w') ⟨hbel.os,hbel.tape,hbel.output,hbel.size,fun k hk=>hbel.block k (by simpa[World.setCell] using hk)⟩
      have e:(⟨(bare (.live 5 [.agg [x0,x1,x2,.lit (.string ⟨(body++34::tail).toArray⟩),.lit (.bool false)]] false::rest)).slots,bg (bare (.live 5 [.agg [x0,x1,x2,.lit (.string ⟨(body++34::tail).toArray⟩),.lit (.bool false)]] false::rest)).mem [(0,.live 5 [.agg [x0,x1,x2,.lit (.string ⟨tail.toArray⟩),.lit (.bool false)]] false)]⟩:au)=bare (.live 5 [.agg [x0,x1,x2,.lit (.string ⟨tail.toArray⟩),.lit (.bool false)]] false::rest):=by
        unfold bare
        congr 1
        funext t
        cases t with
        |zero=>rfl
        |succ t=>rfl
      rw[e] at hm
      exact hm
    · have hq5:q<5:=by
        have:=(br hc).1
        simpa[flat,cells] using this
      by_cases h3:q=3
      · subst h3
        obtain rfl:AV.lit (.string ⟨tail.toArray⟩)=c:=Option.some.inj hc
        refine⟨_,?_,.lit⟩
        rw[Array.getElem?_setIfInBounds_self_of_lt]
        have:[AV.agg [x0,x1,x2,.lit (.string ⟨(body++34::tail).toArray⟩),.lit (.bool false)]].length*5=5:=rfl
        omega
      · have hc':(flat [AV.agg [x0,x1,x2,.lit (.string ⟨(body++34::tail).toArray⟩),.lit (.bool false)]])[q]? =some c:=by
          rw[←hc]
          match q,hq5,h3 with
          |0,_,_=>rfl
          |1,_,_=>rfl
          |2,_,_=>rfl
          |4,_,_=>rfl
        obtain⟨u,hu1,hu2⟩:=ho.cell hmp q c hc'
        rw[Lib.cell_of_heap c1] at hu1
        exact⟨u,by rw[Array.getElem?_setIfInBounds_ne (by omega)];exact hu1,hu2⟩
end Go.Proofs.Heir
section
namespace Go.Proofs.Heir
open Go Go.Am Go.RowKit Go.Lib
set_option maxRecDepth 100000
set_option maxHeartbeats 8000000
@[reducible] def eW : ByteArray := ⟨⟨[102, 111, 114, 109]⟩⟩
@[reducible] def C9 : ByteArray := ⟨⟨[105, 100]⟩⟩
def bU (x:ai):Bool:=decide (x.kind=1)&&decide (x.name=eW)
def kz (x:ai)(w:ByteArray):Option ByteArray:=if 0≤iM x.attrs w then some (uS x.attrs w) else none
def MG (x:ai)(w:ByteArray):Option ByteArray:=if 0≤LG x.attrs w then some (((x.attrs[(LG x.attrs w).toNat]?).map AttrM.value).getD Mc) else none
def gu (l:List ai)(q:Int→Bool)(n:Int):Int:=((bk l n).tail.find? q).getD (-1)
def iZ (l:List ai)(n:Int):Int:=gu l (fun p=>bU (nd l p)) n
def Kx (l:List ai)(n:Int):Int:=gu l (fun p=>decide ((nd l p).name=eW)) n
def cT (l:List ai)(n:Int):Int:=((bk l n).getLast?).getD n
def iY (l:List ai)(t:List (ByteArray×Int))(k:Int):List (ByteArray×Int):=
 match kz (nd l k) C9 with
 | some v=>(match cM v t with
  |some _=>t
  |none=>dP v k t)
 |none=>t
def mO (l:List ai)(r:Int):List (ByteArray×Int):=(cD l l.length r).foldl (iY l) []
def xy (l:List ai)(r:Int)(v:ByteArray):Option Int:=(cD l l.length r).find? fun k=>decide (kz (nd l k) C9=some v)
def KX (l:List ai)(r:Int)(v:ByteArray):Option Int:=(cD l l.length r).find? fun k=>decide (MG (nd l k) C9=some v)
def BH (l:List ai)(n:Int):Bool:=decide ((nd l (qj l n)).kind=0)
def Ny (l:List ai)(n:Int)(v:ByteArray):Int:=
 match xy l (cT l n) v with
 |some k=>if v≠ ⟨#[]⟩∧bU (nd l k)=true then k else-1
 |none=> -1
def eC (l:List ai)(n:Int):Int:=
 if(nd l n).kind=1 then
  match kz (nd l n) eW with
  |some v=>if BH l n=true then Ny l n v else iZ l n
  |none=>iZ l n
 else-1
def ME (l:List ai)(n:Int)(v:ByteArray):Int:=
 if v=⟨#[]⟩ then-1 else
 match KX l (cT l n) v with
 |some k=>if(nd l k).name=eW then k else-1
 |none=> -1
def Ov (l:List ai)(n:Int):Int:=
 if(nd l n).kind=1 then
  match MG (nd l n) eW with
  |some v=>if BH l n=true then ME l n v else Kx l n
  |none=>Kx l n
 else-1
theorem wq (l:List ai)(v:ByteArray):∀ (ks:List Int) (t:List (ByteArray×Int)),cM v (ks.foldl (iY l) t)=match cM v t with
  |some x=>some x
  |none=>ks.find? fun k=>decide (kz (nd l k) C9=some v)
 | [],t=>by
   simp only[List.foldl_nil,List.find?_nil]
   cases cM v t<;>rfl
 | k ::r,t=>by
   rw[List.foldl_cons,wq l v r]
   rw[List.find?_cons]
   unfold iY
   cases ha:kz (nd l k) C9 with
   |none=>simp
   | some u=>
     dsimp only
     by_cases huv:u=v
     ·subst huv
      cases ht:cM u t with
      |some x=>dsimp only;rw[ht]
      |none=>dsimp only;rw[eE,if_pos rfl];simp
     ·have hne:decide (some u=some v)=false:=dQ fun h=>huv (Option.some.inj h)
      rw[hne]
      cases ht:cM u t with
      |some x=>rfl
      |none=>dsimp only;rw[eE,if_neg huv]
theorem DL (l:List ai)(r:Int)(v:ByteArray):cM v (mO l r)=xy l r v:=by
 unfold mO;rw[wq];rfl
theorem Eu (l:List ai)(t:List (ByteArray×Int))(k:Int):(iY l t k).length≤t.length+1:=by
 unfold iY
 split
 ·split
  ·omega
  ·rw[mX];split<;>omega
 ·omega
theorem yK (l:List ai):∀ (ks:List Int) (t:List (ByteArray×Int)),(ks.foldl (iY l) t).length≤t.length+ks.length
 |[],t=>Nat.le_refl _
 | k::r,t=>by
   have h1:=yK l r (iY l t k)
   have h2:=Eu l t k
   rw[List.foldl_cons,List.length_cons];omega
variable {l : List ai}
theorem sG (T:Tree l){n:Int}(hn:aa l n=true)(hp:(nd l n).parent=-1):cT l n=n:=by
 unfold cT;rw[fj T hn hp];rfl
theorem qP (T:Tree l){n:Int}(hn:aa l n=true)(hp:(nd l n).parent≠-1):cT l n=cT l (nd l n).parent:=by
 obtain⟨r,hr⟩:=dm T (T.par n hn hp).1
 unfold cT;rw[bP T hn hp,hr,List.getLast?_cons_cons]
 cases h:((nd l n).parent::r).getLast? with
 |none=>simp at h
 |some a=>rfl
theorem jy (T:Tree l):∀n,aa l n=true→aa l (cT l n)=true∧(nd l (cT l n)).parent=-1∧cT l n∈bk l n:=by
 refine kr T (fun n hn h=>?_) (fun n hn h hu ih=>?_)
 ·rw[sG T hn h];exact⟨hn,h,eV T hn⟩
 ·rw[qP T hn h];exact⟨ih.1,ih.2.1,by rw[bP T hn h];exact gy _ ih.2.2⟩
theorem GK (T:Tree l):∀n,aa l n=true→∀a∈bk l n,cT l a=cT l n:=by
 refine kr T (fun n hn h a ha=>?_) (fun n hn h hu ih a ha=>?_)
 ·rw[fj T hn h] at ha;rw[kX.1 ha]
 ·rw[bP T hn h] at ha
  rcases dZ.1 ha with rfl|h'
  ·rfl
  ·rw[qP T hn h];exact ih a h'
theorem pD (T:Tree l){r n:Int}(hr:aa l r=true)(h:n∈cD l l.length r):aa l n=true∧r∈bk l n∧cT l n=cT l r:=by
 obtain⟨h1,h2⟩:=fR T _ r hr n h
 exact⟨h1,h2,(GK T n h1 r h2).symm⟩
theorem DD (T:Tree l){n:Int}(hn:aa l n=true):cT l (cT l n)=cT l n:=by
 obtain⟨h1,h2,_⟩:=jy T n hn
 exact sG T h1 h2
theorem DJ (T:Tree l)(q:Int→Bool){n:Int}(hn:aa l n=true)(hp:(nd l n).parent≠-1):gu l q n=if q (nd l n).parent=true then(nd l n).parent else gu l q (nd l n).parent:=by
 obtain⟨r,hr⟩:=dm T (T.par n hn hp).1
 unfold gu
 rw[bP T hn hp,List.tail_cons,hr,List.find?_cons,List.tail_cons]
 cases h:q (nd l n).parent<;>simp
theorem HE (T:Tree l)(q:Int→Bool){n:Int}(hn:aa l n=true)(hp:(nd l n).parent=-1):gu l q n=-1:=by
 unfold gu;rw[fj T hn hp];rfl
theorem D8 (T:Tree l){n:Int}(hn:aa l n=true):bU (nd l n)=decide ((nd l n).name=eW):=by
 unfold bU
 rcases za T hn with h|⟨h1,h2,_⟩
 ·rw[h];simp
 ·rw[h2];simp[h1]
theorem BE {r:Int}{v:ByteArray}{k:Int}(h:xy l r v=some k):k∈cD l l.length r∧kz (nd l k) C9=some v:=
 ⟨List.mem_of_find?_eq_some h,by have:=List.find?_some h;simpa using this⟩
def D1 (l:List ai)(x:Int):List Int:=(cD l l.length (cT l x)).filter fun k=>decide (eC l k=x)
def oy (l:List ai)(x:Int):List Int:=(cD l l.length (cT l x)).filter fun k=>decide (Ov l k=x)
end Go.Proofs.Heir
end
section
namespace Go.Proofs.Heir
open Go Go.Am Go.RowKit Go.Lib
set_option maxRecDepth 100000
set_option maxHeartbeats 8000000
variable {l : List ai}
def LO (l:List ai)(n:Int):Prop:=(nd l n).kind=1∧(kz (nd l n) eW=none∨BH l n=false)
theorem Av {n:Int}(h:LO l n):eC l n=iZ l n:=by
 obtain⟨h1,h2⟩:=h
 unfold eC
 rw[if_pos h1]
 cases ha:kz (nd l n) eW with
 |none=>rfl
 | some v=>
   rcases h2 with h2|h2
   ·rw[ha] at h2;cases h2
   ·simp only[h2,Bool.false_eq_true,if_false]
def BV (l:List ai)(x:Int):List Int:=if bU (nd l x)=true then D1 l x else[]
theorem DU (T:Tree l){x:Int}(hx:aa l x=true){c:Int}(h:c∈BV l x):aa l c=true∧eC l c=x∧cT l c=cT l x∧(nd l x).name=eW:=by
 unfold BV at h
 by_cases hf:bU (nd l x)=true
 ·rw[if_pos hf] at h
  unfold D1 at h
  obtain⟨h1,h2⟩:=List.mem_filter.1 h
  obtain⟨g1,_,g3⟩:=pD T (jy T x hx).1 h1
  rw[DD T hx] at g3
  rw[D8 T hx] at hf
  exact⟨g1,by simpa using h2,g3,of_decide_eq_true hf⟩
 ·rw[if_neg hf] at h;cases h
theorem IX (T:Tree l){x:Int}(hx:aa l x=true):(BV l x).length≤l.length:=by
 unfold BV D1
 split
 ·exact Nat.le_trans (List.length_filter_le _ _) (lD T _ (jy T x hx).1)
 ·simp
end Go.Proofs.Heir
end
namespace Go.Proofs.Heir
open Go Go.Am Go.RowKit Go.Lib
set_option maxRecDepth 100000
set_option maxHeartbeats 8000000
def JZ:StateM:=⟨0,0,0,false⟩
def qh (st:List StateM)(n:Nat):StateM:=(st[n]?).getD JZ
theorem Bm {st:List StateM}{n:Nat}{s:StateM}(h:st[n]? =some s):qh st n=s:=by unfold qh;rw[h];rfl
def ia (f:ForM)(d:bw)(cs:List aM)(n:Int)(s:StateM):Bool:=((jK s d cs&&(cJ s d cs).form)&&decide (s.phase=3))&&decide ((nd f.nodes n).kind=1)
def fV (was now:Int):gi:=⟨5,0,⟨#[]⟩,false,false,⟨#[]⟩,⟨#[]⟩,was,now,false⟩
def ct (on:Bool):gi:=⟨6,0,⟨#[]⟩,false,false,⟨#[]⟩,⟨#[]⟩,0,0,on⟩
def fF:gi:=⟨7,0,⟨#[]⟩,false,false,⟨#[]⟩,⟨#[]⟩,0,0,false⟩
def fM (s:ByteArray):gi:=⟨8,0,⟨#[]⟩,false,false,⟨#[]⟩,s,0,0,false⟩
def iG (c:aM)(n:Int)(t:gi):List ej:=if cG c t.kind=true then[⟨n,t⟩] else[]
def mw (f:ForM)(d:bw)(cs:List aM)(n:Int)(s:StateM):StateM:=if ia f d cs n s=true then⟨s.phase,s.df,eC f.nodes n,jL f.nodes n⟩ else s
def s5 (f:ForM)(d:bw)(cs:List aM)(n:Int)(s:StateM):List ej:=
 if ia f d cs n s=true then
  (if s.owner=eC f.nodes n then[] else iG (cJ s d cs) n (fV s.owner (eC f.nodes n)))++ (if s.barred=jL f.nodes n then[] else iG (cJ s d cs) n (ct (jL f.nodes n)))
 else[]
def AH (f:ForM)(d:bw)(cs:List aM)(st:List StateM)(k:Nat):List StateM:=(List.range st.length).map fun n:Nat=>if n<k then mw f d cs (n:Int) (qh st n) else qh st n
def Kr (f:ForM)(d:bw)(cs:List aM)(st:List StateM)(k:Nat):List ej:=(List.range k).flatMap fun n:Nat=>s5 f d cs (n:Int) (qh st n)
theorem jZ (f:ForM)(d:bw)(cs:List aM)(st:List StateM)(k:Nat):(AH f d cs st k).length=st.length:=by unfold AH;simp
theorem nI {f:ForM}{d:bw}{cs:List aM}{st:List StateM}{k n:Nat}(h:n<st.length):(AH f d cs st k)[n]? =some (if n<k then mw f d cs (n:Int) (qh st n) else qh st n):=by
 unfold AH
 rw[dM,List.getElem?_range h];rfl
theorem Hu (f:ForM)(d:bw)(cs:List aM)(st:List StateM):AH f d cs st 0=st:=by
 apply List.ext_getElem?
 intro n
 by_cases h:n<st.length
 ·rw[nI h,if_neg (by omega)]
  unfold qh
  rw[bh h];rfl
 ·rw[mg (l:=AH f d cs st 0) (by rw[jZ];omega),mg (l:=st) (by omega)]
theorem zT (f:ForM)(d:bw)(cs:List aM)(st:List StateM){k:Nat}(h:k<st.length):AH f d cs st (k+1)=(AH f d cs st k).set k (mw f d cs (k:Int) (qh st k)):=by
 apply List.ext_getElem?
 intro n
 rw[List.getElem?_set]
 by_cases hn:n<st.length
 ·rw[nI hn]
  by_cases e:k=n
  ·subst e;rw[if_pos rfl,if_pos (by omega),if_pos (by rw[jZ];exact h)]
  ·rw[if_neg e,nI hn]
   by_cases e2:n<k
   ·rw[if_pos (by omega),if_pos e2]
   ·rw[if_neg (by omega),if_neg e2]
 ·rw[mg (l:=AH f d cs st (k+1)) (by rw[jZ];omega),if_neg (by omega),mg (l:=AH f d cs st k) (by rw[jZ];omega)]
theorem FG (f:ForM)(d:bw)(cs:List aM)(st:List StateM){k:Nat}(h:k<st.length)(hs:mw f d cs (k:Int) (qh st k)=qh st k):AH f d cs st (k+1)=AH f d cs st k:=by
 rw[zT f d cs st h,hs]
 apply List.ext_getElem?
 intro n
 rw[List.getElem?_set]
 by_cases e:k=n
 ·subst e;rw[if_pos rfl,if_pos (by rw[jZ];exact h),nI h,if_neg (by omega)]
 ·rw[if_neg e]
theorem Af (f:ForM)(d:bw)(cs:List aM)(st:List StateM)(k:Nat):Kr f d cs st (k+1)=Kr f d cs st k++s5 f d cs (k:Int) (qh st k):=by
 unfold Kr;rw[List.range_succ,List.flatMap_append];simp
theorem qL (c:aM)(n:Int)(t:gi):(iG c n t).length≤1:=by unfold iG;split<;>simp
theorem EP (f:ForM)(d:bw)(cs:List aM)(n:Int)(s:StateM):(s5 f d cs n s).length≤2:=by
 unfold s5
 split
 ·rw[j7]
  have h1:=qL (cJ s d cs) n (fV s.owner (eC f.nodes n))
  have h2:=qL (cJ s d cs) n (ct (jL f.nodes n))
  have h3:∀ (p:Prop) [Decidable p] (l:List ej),(if p then[] else l).length≤l.length:=fun p _ l=>by split<;>simp
  have h4:=h3 (s.owner=eC f.nodes n) (iG (cJ s d cs) n (fV s.owner (eC f.nodes n)))
  have h5:=h3 (s.barred=jL f.nodes n) (iG (cJ s d cs) n (ct (jL f.nodes n)))
  omega
 ·simp
theorem xp (f:ForM)(d:bw)(cs:List aM)(st:List StateM):∀k,(Kr f d cs st k).length≤2*k
 |0=>Nat.le_refl _
 | k+1=>by
   rw[Af,j7]
   have:=xp f d cs st k
   have:=EP f d cs (k:Int) (qh st k)
   omega
def fg (f:ForM)(st:List StateM)(d:bw)(cs:List aM):List StateM:=if gB f st d=true then AH f d cs st st.length else st
def iO (f:ForM)(st:List StateM)(d:bw)(cs:List aM):List ej:=if gB f st d=true then Kr f d cs st st.length else[]
def qq (f:ForM)(d:bw)(cs:List aM)(st:List StateM)(n:Int):List ej:=if ia f d cs n (qh st n.toNat)=true then iG (cJ (qh st n.toNat) d cs) n fF else[]
def nC (f:ForM)(st:List StateM)(d:bw)(cs:List aM)(x:Int):List ej:=if gB f st d=true∧aa f.nodes x=true then(BV f.nodes x).flatMap (qq f d cs st) else[]
def nQ (f:ForM)(st:List StateM)(d:bw)(cs:List aM)(n:Int)(s:ByteArray):List ej:=
 if gB f st d=true∧aa f.nodes n=true then(if ia f d cs n (qh st n.toNat)=true then iG (cJ (qh st n.toNat) d cs) n (fM s) else[]) else[]

theorem xu (x:ai):an Tryz.prog 163 [] [aR x] [] (aX (bU x)):=by
 obtain⟨a1,a2,a3,a4,a5,a6,a7,a8,a9,a10⟩:=x
 unfold bU
 refine an.aF (rvs:=[.tmp 2]) G aq Tryz.func163 rfl Tryz.ntmps163 rfl rfl ?_;with_reducible refine wD ?_
 by_cases e:a1=1
 ·(have fct:=(eq_true e);(repeat' (first
  |refine gF ?_|refine aE ?_ ?_
  |apply trivial));all_goals clear fct)
  all_goals simp[e]
 ·(have fct:=(eq_false e);(repeat' (first
  |refine gF ?_|refine aE ?_ ?_
  |apply trivial));all_goals clear fct)
  all_goals simp[e]
theorem Jc (f:ForM)(T:Tree f.nodes)(n:Int)(hn:aa f.nodes n=true):an Tryz.prog 198 [] [bF f,ay n] [] (ay (cT f.nodes n)):=by
 have hstep:=fun n h1 h2=>qP T (n:=n) h1 h2
 have htop:=fun n h1 h2=>sG T (n:=n) h1 h2
 have hwst:=fun n h1 h2=>bP T (n:=n) h1 h2
 have hpar:∀n,aa f.nodes n=true→(nd f.nodes n).parent=-1∨aa f.nodes (nd f.nodes n).parent=true:=fun n hn=>by
  by_cases h:(nd f.nodes n).parent=-1
  ·exact .inl h
  ·exact .inr (T.par n hn h).1
 obtain⟨l,m⟩:=f
 simp only at hn hstep htop hpar hwst ⊢
 refine an.aF (rvs:=[.tmp 4]) G aq Tryz.func198 rfl Tryz.ntmps198 rfl rfl ?_;with_reducible refine wD ?_
 refine bD.use G aq (fun(c:Int)=>[(1,ay c),(2,.ptr 20 0 0)]) (fun _=>[(20,.live 2 [bF ⟨l,m⟩] false)])
  (fun c=>aa l c=true∧cT l c=cT l n) (fun c=>(bk l c).length) n ⟨hn,rfl⟩
  ⟨⟨rfl,rfl⟩,⟨rfl,⟨rfl,rfl⟩,trivial⟩,⟨⟨rfl,rfl,trivial⟩,trivial⟩,trivial⟩ ?_
 rintro c ⟨hc,hr⟩
 with_reducible refine wK ?_
 obtain⟨i,y,e,hy,hny⟩:=bp.1 hc
 have hpc:=hpar c hc
 have hst:=hstep c hc
 have htp:=htop c hc
 have hws:=hwst c hc
 rw[hny] at hpc hst htp hws
 obtain⟨b1,b2,b3,b4,b5,b6,b7,b8,b9,b10⟩:=y
 simp only at hpc hst htp hws
 by_cases e6:b6=-1
 ·rw[←hr,htp e6]
  (have fct:=(eq_true e6);(repeat' (first
  |refine gF ?_|refine aE ?_ ?_
  |((refine bn.mk i (aR _) e (aI hy) ?_)<;>with_reducible refine wK ?_)
  |apply trivial));all_goals clear fct)
  all_goals rfl
 ·(have fct:=(eq_false e6);(repeat' (first
  |refine gF ?_|refine aE ?_ ?_
  | ((first
   |(refine bn.mk i (aR _) e (aI hy) ?_)
   |((with_reducible show aT _ _);refine aT.mk b6 ⟨hpc.resolve_left e6,by rw[←hst e6,hr]⟩ (by rw[hws e6];simp) ⟨⟨rfl,rfl⟩,⟨rfl,⟨rfl,rfl⟩,trivial⟩,⟨⟨rfl,rfl,trivial⟩,trivial⟩,trivial⟩))<;>with_reducible refine wK ?_)
  |apply trivial));all_goals clear fct)
theorem qO (f:ForM)(n:Int):(aU f&& !decide (0≤dI (fun n=> !aa f.nodes n) [n]))=(aU f&&aa f.nodes n):=by
 congr 1
 unfold dI
 cases h:aa f.nodes n<;>simp[List.findIdx?_cons,h]
theorem Dh (f:ForM)(hs:bO f.nodes)(hr:aU f=true)(n:Int)(hn:aa f.nodes n=true):an Tryz.prog 165 [] [bF f,ay n] [] (ay (cT f.nodes n)):=by
 have h76:=xI f hs [n] (by simp)
 rw[qO,hr,hn] at h76
 have h77:=Jc f (dY hr) n hn
 obtain⟨l,m⟩:=f
 refine an.aF (rvs:=[.tmp 4]) G aq Tryz.func165 rfl Tryz.ntmps165 rfl rfl ?_;with_reducible refine wD ?_
 refine ah.lit [71] h76 NN ⟨⟨rfl,rfl,trivial⟩,fq (l:=[n]) rfl rfl rfl rfl,trivial⟩ rfl rfl ?_;with_reducible refine wK ?_
 repeat' (first
  |refine gK ?_|refine aE ?_ ?_
  |(((with_reducible refine kQ 198 ?_);refine cL h77 OW ?_)<;>with_reducible refine wK ?_)
  |apply trivial)
 all_goals rfl
end Go.Proofs.Heir
section
namespace Go.Proofs.Heir
open Go Go.Am Go.RowKit Go.Lib
set_option maxRecDepth 100000
set_option maxHeartbeats 8000000
namespace V
variable {l : List ai}
theorem nc (T:Tree l):∀ (m:Nat) (n:Int),aa l n=true→l.length+1≤m+ (bk l n).length→cD l (m+1) n=cD l m n
 |0,n,_,h=>by have:=xn (l:=l) n;omega
 | m+1,n,hn,h=>by
   rw[cD,cD]
   congr 1
   refine fo fun k hk=>?_
   refine nc T m k (T.kid n hn k hk).1 ?_
   rw[fQ T hn hk];simp;omega
theorem ord_eq (T:Tree l){n:Int}(hn:aa l n=true):cD l l.length n=n::(nd l n).kids.flatMap (cD l l.length):=by
 have h0:=bQ hn
 obtain⟨m,hm⟩:∃m,l.length=m+1:=⟨l.length-1,by omega⟩
 have h1:∀k∈ (nd l n).kids,cD l l.length k=cD l m k:=fun k hk=>by
  rw[hm]
  refine nc T m k (T.kid n hn k hk).1 ?_
  obtain⟨r,hr⟩:=dm T hn
  rw[fQ T hn hk,hr];simp;omega
 conv=>lhs;rw[hm,cD]
 congr 1
 exact fo fun k hk=>(h1 k hk).symm
def rest (l:List ai)(st:List Int):List Int:=st.reverse.flatMap (cD l l.length)
theorem sM (T:Tree l){st:List Int}{t:Int}(ht:aa l t=true):rest l (st++ [t])=t::rest l (st++ (nd l t).kids.reverse):=by
 unfold rest
 rw[List.reverse_append,List.reverse_append,List.reverse_reverse]
 simp only[List.reverse_cons,List.reverse_nil,List.nil_append,List.cons_append,List.flatMap_cons,List.flatMap_append]
 rw[ord_eq T ht];rfl
theorem tO (T:Tree l):∀ {st:List Int},(∀c∈st,aa l c=true)→st.length≤ (rest l st).length:=by
 intro st h
 unfold rest
 have:∀s:List Int,(∀c∈s,aa l c=true)→s.length≤ (s.flatMap (cD l l.length)).length:=by
  intro s
  induction s with
  |nil=>intro _;exact Nat.le_refl _
  | cons a r ih=>
    intro h
    have h1:=ih fun c hc=>h c (gy _ hc)
    rw[List.flatMap_cons,j7,ord_eq T (h a jC),List.length_cons,List.length_cons]
    omega
 have:=this st.reverse fun c hc=>h c (by simpa using hc)
 simpa using this
end V
def Fz (f:ForM)(n:Int):List Int:=if(aU f&&aa f.nodes n)=true then cD f.nodes f.nodes.length n else[]
end Go.Proofs.Heir
end
namespace Go.Proofs.Heir
open Go Go.Am Go.RowKit Go.Lib
set_option maxRecDepth 100000
set_option maxHeartbeats 8000000
theorem Ak (f:ForM)(hs:bO f.nodes)(n:Int)(e0:(aU f&&aa f.nodes n)=true):an Tryz.prog 164 [] [bF f,ay n] [cU (cD f.nodes f.nodes.length n)] (.own 0 0 (cD f.nodes f.nodes.length n).length):=by
 have h76:=xI f hs [n] (by simp)
 rw[qO] at h76
 obtain⟨l,m⟩:=f
 simp only at h76 e0 ⊢
 have hlm:(l.map cj).length=l.length:=bM ..
 refine an.aF (rvs:=[.tmp 4]) G aq Tryz.func164 rfl Tryz.ntmps164 rfl rfl ?_;delta List.toArray;(with_reducible ((conv=>whnf);(conv=>congr<;>reduce);repeat((first|refine hK ?_|refine sK ?_);(conv=>whnf);(conv=>congr<;>reduce))))
 rw[e0] at h76
 refine ah.lit [131] h76 NN ⟨⟨rfl,rfl,trivial⟩,fq (l:=[n]) rfl rfl rfl rfl,trivial⟩ rfl rfl ?_;(with_reducible ((conv=>whnf);(conv=>congr<;>reduce);repeat((first|refine hK ?_|refine sK ?_);(conv=>whnf);(conv=>congr<;>reduce))))
 obtain⟨hr,hn⟩:aU ⟨l,m⟩=true∧aa l n=true:=by simpa using e0
 have T:=dY hr
 have hol:=lD T l.length hn
 simp only at T hol
 repeat' (first
  |(first
  |((with_reducible show aL _ _ _ _);first|refine aL.ff ?_|refine aL.tt ?_|refine aL.no (by first|exact qA|((try simp only[ak]);first|(simp[];done)|(simp[];omega))) ?_|refine aL.yes (by first|exact qA|((try simp only[ak]);first|(simp[];done)|(simp[];omega))) ?_)
  |((with_reducible show aP _ _ _ _);refine nK ?_)
  |((with_reducible show aH _ _ _ _);refine dK ?_))<;>(with_reducible ((conv=>whnf);(conv=>congr<;>reduce);repeat((first|refine hK ?_|refine sK ?_);(conv=>whnf);(conv=>congr<;>reduce))))
  |((with_reducible show(_∧_)∧_∧_);refine⟨⟨rfl,rfl⟩,?_,?_⟩<;>with_reducible ((conv=>whnf)<;>repeat' (first|exact trivial|(refine And.intro ?_ ?_<;>(conv=>whnf))))))
 refine bD.ghost 5 51 1 rfl rfl ?_
 refine bD.use G aq (fun(i:List Int×List Int×List Int)=>[(2,.ptr 20 0 0),(5,.own 51 0 i.1.length),(6,.ptr 60 0 0)])
  (fun i=>[(20,.live 2 [bF ⟨l,m⟩] false),(51,cU i.1),(60,.live 1 [.own 171 0 i.2.1.length] false),(171,cU (i.2.1++i.2.2))])
  (fun i=>cD l l.length n=i.1++V.rest l i.2.1∧∀c∈i.2.1,aa l c=true) (fun i=>l.length-i.1.length) ([],[n],[]) ⟨by simp[V.rest],fun c hc=>by rw[kX] at hc;subst hc;exact hn⟩
  (by refine⟨⟨rfl,rfl⟩,⟨⟨rfl,rfl⟩,⟨rfl,rfl⟩,⟨rfl,rfl⟩,trivial⟩,⟨⟨rfl,rfl,trivial⟩,trivial⟩,⟨.refl rfl,ae _⟩,⟨⟨rfl,rfl⟩,trivial⟩,⟨.refl rfl,ae _⟩,trivial⟩) ?_
 rintro⟨out,st,sp⟩ ⟨ho,hst⟩
 simp only at ho hst
 (with_reducible ((conv=>whnf);(conv=>congr<;>reduce);repeat((first|refine hK ?_|refine sK ?_);(conv=>whnf);(conv=>congr<;>reduce))))
 have hoL:=congrArg List.length ho
 rw[j7] at hoL
 have hol':out.length=(out.map bu).length:=(bM ..).symm
 have hrl:=V.tO T hst
 have hl60:=hs.len
 simp only at hl60
 obtain h|⟨st',t,h⟩:=List.eq_nil_or_concat st<;>(try rw[List.concat_eq_append] at h)<;>subst h
 ·repeat' (first
  |(first
  |((with_reducible show aL _ _ _ _);first|refine aL.ff ?_|refine aL.tt ?_|refine aL.no (by first|exact qA|((try simp only[ak]);first|(simp[];done)|(simp[];omega))) ?_|refine aL.yes (by first|exact qA|((try simp only[ak]);first|(simp[];done)|(simp[];omega))) ?_)
  |((with_reducible show aP _ _ _ _);refine nK ?_)
  |((with_reducible show aH _ _ _ _);refine dK ?_))<;>(with_reducible ((conv=>whnf);(conv=>congr<;>reduce);repeat((first|refine hK ?_|refine sK ?_);(conv=>whnf);(conv=>congr<;>reduce))))
  |((with_reducible show(_∧_)∧_∧_);refine⟨⟨rfl,rfl⟩,?_,?_⟩<;>with_reducible ((conv=>whnf)<;>repeat' (first|exact trivial|(refine And.intro ?_ ?_<;>(conv=>whnf))))))
  all_goals have ho':cD l l.length n=out:=by rw[ho];simp[V.rest]
  all_goals clear ho hoL
  all_goals subst ho'
  all_goals first
   |rfl
   |exact aQ (ae _)
 ·have ht:=hst t (by simp)
  have hlen:(st'++ [t]).length=st'.length+1:=by simp
  obtain⟨k,x,rfl,hx,hnx⟩:=bp.1 ht
  rw[hlen]
  rw[hlen] at hrl
  repeat' (first
  |(first
  |((with_reducible show aL _ _ _ _);first|refine aL.ff ?_|refine aL.tt ?_|refine aL.no (by first|exact qA|((try simp only[ak]);first|(simp[];done)|(simp[];omega))) ?_|refine aL.yes (by first|exact qA|((try simp only[ak]);first|(simp[];done)|(simp[];omega))) ?_)
  |((with_reducible show aP _ _ _ _);refine nK ?_)
  |((with_reducible show aH _ _ _ _);refine dK ?_))<;>(with_reducible ((conv=>whnf);(conv=>congr<;>reduce);repeat((first|refine hK ?_|refine sK ?_);(conv=>whnf);(conv=>congr<;>reduce))))
  |((with_reducible show(_∧_)∧_∧_);refine⟨⟨rfl,rfl⟩,?_,?_⟩<;>with_reducible ((conv=>whnf)<;>repeat' (first|exact trivial|(refine And.intro ?_ ?_<;>(conv=>whnf))))))
  refine gX.mk st'.length (by(try simp only[ak]);omega) (by omega) ?_;(with_reducible ((conv=>whnf);(conv=>congr<;>reduce);repeat((first|refine hK ?_|refine sK ?_);(conv=>whnf);(conv=>congr<;>reduce))))
  refine bE.mk (ay (k:Int)) (by rw[Nat.zero_add,dM,List.append_assoc,List.getElem?_append_right (Nat.le_refl _),Nat.sub_self];rfl) ?_;(with_reducible ((conv=>whnf);(conv=>congr<;>reduce);repeat((first|refine hK ?_|refine sK ?_);(conv=>whnf);(conv=>congr<;>reduce))))
  repeat' (first
  |(first
  |((with_reducible show aL _ _ _ _);first|refine aL.ff ?_|refine aL.tt ?_|refine aL.no (by first|exact qA|((try simp only[ak]);first|(simp[];done)|(simp[];omega))) ?_|refine aL.yes (by first|exact qA|((try simp only[ak]);first|(simp[];done)|(simp[];omega))) ?_)
  |((with_reducible show aP _ _ _ _);refine nK ?_)
  |((with_reducible show aH _ _ _ _);refine dK ?_))<;>(with_reducible ((conv=>whnf);(conv=>congr<;>reduce);repeat((first|refine hK ?_|refine sK ?_);(conv=>whnf);(conv=>congr<;>reduce))))
  |((with_reducible show(_∧_)∧_∧_);refine⟨⟨rfl,rfl⟩,?_,?_⟩<;>with_reducible ((conv=>whnf)<;>repeat' (first|exact trivial|(refine And.intro ?_ ?_<;>(conv=>whnf))))))
  refine uM.mk 0 st'.length rfl (by(try simp only[ak]);omega) (by omega) ?_;(with_reducible ((conv=>whnf);(conv=>congr<;>reduce);repeat((first|refine hK ?_|refine sK ?_);(conv=>whnf);(conv=>congr<;>reduce))))
  repeat' (first
  |(first
  |((with_reducible show aL _ _ _ _);first|refine aL.ff ?_|refine aL.tt ?_|refine aL.no (by first|exact qA|((try simp only[ak]);first|(simp[];done)|(simp[];omega))) ?_|refine aL.yes (by first|exact qA|((try simp only[ak]);first|(simp[];done)|(simp[];omega))) ?_)
  |((with_reducible show aP _ _ _ _);refine nK ?_)
  |((with_reducible show aH _ _ _ _);refine dK ?_))<;>(with_reducible ((conv=>whnf);(conv=>congr<;>reduce);repeat((first|refine hK ?_|refine sK ?_);(conv=>whnf);(conv=>congr<;>reduce))))
  |((with_reducible show(_∧_)∧_∧_);refine⟨⟨rfl,rfl⟩,?_,?_⟩<;>with_reducible ((conv=>whnf)<;>repeat' (first|exact trivial|(refine And.intro ?_ ?_<;>(conv=>whnf))))))
  refine jR.mk (out.map bu) [ay (k:Int)] ⟨rfl,hol',rfl⟩ ⟨rfl,rfl,rfl⟩ rfl (by simp;omega) (by simp;omega) ?_;(with_reducible ((conv=>whnf);(conv=>congr<;>reduce);repeat((first|refine hK ?_|refine sK ?_);(conv=>whnf);(conv=>congr<;>reduce))))
  repeat' (first
  |(first
  |((with_reducible show aL _ _ _ _);first|refine aL.ff ?_|refine aL.tt ?_|refine aL.no (by first|exact qA|((try simp only[ak]);first|(simp[];done)|(simp[];omega))) ?_|refine aL.yes (by first|exact qA|((try simp only[ak]);first|(simp[];done)|(simp[];omega))) ?_)
  |((with_reducible show aP _ _ _ _);refine nK ?_)
  |((with_reducible show aH _ _ _ _);refine dK ?_))<;>(with_reducible ((conv=>whnf);(conv=>congr<;>reduce);repeat((first|refine hK ?_|refine sK ?_);(conv=>whnf);(conv=>congr<;>reduce))))
  |((with_reducible show(_∧_)∧_∧_);refine⟨⟨rfl,rfl⟩,?_,?_⟩<;>with_reducible ((conv=>whnf)<;>repeat' (first|exact trivial|(refine And.intro ?_ ?_<;>(conv=>whnf))))))
  obtain⟨a1,a2,a3,a4,a5,a6,a7,a8,a9,a10⟩:=x
  refine bn.mk k (aR _) rfl (aI hx) ?_;(with_reducible ((conv=>whnf);(conv=>congr<;>reduce);repeat((first|refine hK ?_|refine sK ?_);(conv=>whnf);(conv=>congr<;>reduce))))
  repeat' (first
  |(first
  |((with_reducible show aL _ _ _ _);first|refine aL.ff ?_|refine aL.tt ?_|refine aL.no (by first|exact qA|((try simp only[ak]);first|(simp[];done)|(simp[];omega))) ?_|refine aL.yes (by first|exact qA|((try simp only[ak]);first|(simp[];done)|(simp[];omega))) ?_)
  |((with_reducible show aP _ _ _ _);refine nK ?_)
  |((with_reducible show aH _ _ _ _);refine dK ?_))<;>(with_reducible ((conv=>whnf);(conv=>congr<;>reduce);repeat((first|refine hK ?_|refine sK ?_);(conv=>whnf);(conv=>congr<;>reduce))))
  |((with_reducible show(_∧_)∧_∧_);refine⟨⟨rfl,rfl⟩,?_,?_⟩<;>with_reducible ((conv=>whnf)<;>repeat' (first|exact trivial|(refine And.intro ?_ ?_<;>(conv=>whnf))))))
  refine cV (Cd a7) M6 ?_;(with_reducible ((conv=>whnf);(conv=>congr<;>reduce);repeat((first|refine hK ?_|refine sK ?_);(conv=>whnf);(conv=>congr<;>reduce))))
  repeat' (first
  |(first
  |((with_reducible show aL _ _ _ _);first|refine aL.ff ?_|refine aL.tt ?_|refine aL.no (by first|exact qA|((try simp only[ak]);first|(simp[];done)|(simp[];omega))) ?_|refine aL.yes (by first|exact qA|((try simp only[ak]);first|(simp[];done)|(simp[];omega))) ?_)
  |((with_reducible show aP _ _ _ _);refine nK ?_)
  |((with_reducible show aH _ _ _ _);refine dK ?_))<;>(with_reducible ((conv=>whnf);(conv=>congr<;>reduce);repeat((first|refine hK ?_|refine sK ?_);(conv=>whnf);(conv=>congr<;>reduce))))
  |((with_reducible show(_∧_)∧_∧_);refine⟨⟨rfl,rfl⟩,?_,?_⟩<;>with_reducible ((conv=>whnf)<;>repeat' (first|exact trivial|(refine And.intro ?_ ?_<;>(conv=>whnf))))))
  obtain⟨spF,hs0,hs1⟩:∃spF:Nat→List Int,spF 0=(k:Int)::sp∧∀j,spF (j+1)=[]:=⟨fun j=>match j with|0=>(k:Int)::sp|_+1=>[],rfl,fun _=>rfl⟩
  have hk7:=hs.kids _ (bN hx)
  simp only at hk7
  refine bD.range G aq 3 [(2,.ptr 1 0 0),(5,.own 2 0 (out.length+1)),(6,.ptr 0 0 0),(41,.clo (.func 193) [] [.fptr (cN a7) 0])]
   (fun j=>[(0,.live 1 [.own 171 0 (st'.length+j)] false),(1,.live 2 [bF ⟨l,m⟩] false),(2,cU (out++ [(k:Int)])),(171,cU (st'++a7.reverse.take j++spF j))])
   (Cf a7 (by omega)) Nt ?_ rfl ⟨⟨rfl,rfl⟩,rfl⟩ (fun _ _=>rfl) (fun _ _=>rfl) ⟨⟨rfl,rfl⟩,rfl,rfl⟩ ?_ ?_
  ·refine⟨⟨rfl,rfl⟩,?_⟩
   (with_reducible conv=>whnf)
   repeat' (first|(with_reducible exact trivial)|(with_reducible refine And.intro ?_ ?_<;>with_reducible conv=>whnf))
   all_goals try rfl
   ·simp
   ·exact⟨.refl rfl,rfl⟩
   ·refine⟨?_,ae _⟩
    rw[←show(out++ [(k:Int)]).map bu=out.map bu++ [AV.lit (.int .i64 k)] by simp;rfl]
    exact .refl (ae _)
   ·refine⟨?_,ae _⟩
    rw[hs0,List.take_zero,List.append_nil,show st'++ [(k:Int)]++sp=st'++ (k:Int)::sp by simp];exact .refl (ae _)
  ·intro j hj
   (with_reducible ((conv=>whnf);(conv=>congr<;>reduce);repeat((first|refine hK ?_|refine sK ?_);(conv=>whnf);(conv=>congr<;>reduce))))
   refine vJ.mk rfl ?_;(with_reducible ((conv=>whnf);(conv=>congr<;>reduce);repeat((first|refine hK ?_|refine sK ?_);(conv=>whnf);(conv=>congr<;>reduce))))
   repeat' (first
  |(first
  |((with_reducible show aL _ _ _ _);first|refine aL.ff ?_|refine aL.tt ?_|refine aL.no (by first|exact qA|((try simp only[ak]);first|(simp[];done)|(simp[];omega))) ?_|refine aL.yes (by first|exact qA|((try simp only[ak]);first|(simp[];done)|(simp[];omega))) ?_)
  |((with_reducible show aP _ _ _ _);refine nK ?_)
  |((with_reducible show aH _ _ _ _);refine dK ?_))<;>(with_reducible ((conv=>whnf);(conv=>congr<;>reduce);repeat((first|refine hK ?_|refine sK ?_);(conv=>whnf);(conv=>congr<;>reduce))))
  | ((with_reducible show(_∧_)∧_∧_);refine⟨⟨rfl,rfl⟩,?_,?_⟩<;>with_reducible ((conv=>whnf)<;>repeat' (first|exact trivial|(refine And.intro ?_ ?_<;>(conv=>whnf))))))
   refine jR.take ((st'++a7.reverse.take j).map bu) [bu ((a7.reverse[j]?).getD 0)] ⟨rfl,by simp;omega,by rw[gL (l₂:=spF j),List.take_left' (by simp;omega)]⟩ ⟨rfl,rfl,rfl⟩ rfl (by simp;omega) (by simp;omega) ?_
   (with_reducible ((conv=>whnf);(conv=>congr<;>reduce);repeat((first|refine hK ?_|refine sK ?_);(conv=>whnf);(conv=>congr<;>reduce))))
   repeat' (first
  |(first
  |((with_reducible show aL _ _ _ _);first|refine aL.ff ?_|refine aL.tt ?_|refine aL.no (by first|exact qA|((try simp only[ak]);first|(simp[];done)|(simp[];omega))) ?_|refine aL.yes (by first|exact qA|((try simp only[ak]);first|(simp[];done)|(simp[];omega))) ?_)
  |((with_reducible show aP _ _ _ _);refine nK ?_)
  |((with_reducible show aH _ _ _ _);refine dK ?_))<;>(with_reducible ((conv=>whnf);(conv=>congr<;>reduce);repeat((first|refine hK ?_|refine sK ?_);(conv=>whnf);(conv=>congr<;>reduce))))
  | ((with_reducible show(_∧_)∧_∧_);refine⟨⟨rfl,rfl⟩,?_,?_⟩<;>with_reducible ((conv=>whnf)<;>repeat' (first|exact trivial|(refine And.intro ?_ ?_<;>(conv=>whnf))))))
   refine vF.mk ?_
   obtain⟨c,hc⟩:∃c,a7.reverse[j]? =some c:=⟨_,bh (by simpa using hj)⟩
   have htk:a7.reverse.take (j+1)=a7.reverse.take j++ [c]:=by rw[List.take_add_one,hc];rfl
   rw[hc,Option.getD_some]
   refine⟨⟨rfl,rfl⟩,?_⟩
   (with_reducible conv=>whnf)
   repeat' (first|(with_reducible exact trivial)|(with_reducible refine And.intro ?_ ?_<;>with_reducible conv=>whnf))
   all_goals try rfl
   ·simp;omega
   ·exact⟨.refl rfl,rfl⟩
   ·exact⟨.refl (ae _),ae _⟩
   ·refine⟨?_,ae _⟩
    rw[hs1,htk,List.append_nil,←List.append_assoc,gL (l₂:=[c])];exact .refl (by rw[←gL];exact ae _)
  ·(with_reducible ((conv=>whnf);(conv=>congr<;>reduce);repeat((first|refine hK ?_|refine sK ?_);(conv=>whnf);(conv=>congr<;>reduce))))
   have hT:nd l k=⟨a1,a2,a3,a4,a5,a6,a7,a8,a9,a10⟩:=hnx
   have hch:(nd l k).kids=a7:=by rw[hT]
   have hpop:=V.sM T (st:=st') ht
   rw[hch] at hpop
   have hkid:∀c∈a7,aa l c=true:=fun c hc=>(T.kid k ht c (by rw[hch];exact hc)).1
   have hta:a7.reverse.take a7.length=a7.reverse:=nU (by simp)
   refine aT.mk (out++ [(k:Int)],st'++a7.reverse,spF a7.length) ⟨?_,?_⟩ ?_ ?_
   ·rw[ho,hpop];simp
   ·intro c hc
    rcases List.mem_append.1 hc with h|h
    ·exact hst c (by simp[h])
    ·exact hkid c (by simpa using h)
   ·simp only[j7,List.length_singleton];omega
   ·refine⟨⟨rfl,rfl⟩,?_⟩
    (with_reducible conv=>whnf)
    repeat' (first|(with_reducible exact trivial)|(with_reducible refine And.intro ?_ ?_<;>with_reducible conv=>whnf))
    all_goals try rfl
    ·simp
    ·exact⟨.refl (ae _),ae _⟩
    ·simp
    ·refine⟨?_,ae _⟩
     rw[hta];exact .refl (ae _)
theorem DN (l:List Int):Du [(0,cU l)]=true:=by
 have:Fy 1 (l.map bu)=true:=List.all_eq_true.2 fun x hx=>by
  obtain⟨n,_,rfl⟩:=List.mem_map.1 hx;rfl
 show(Fy 1 (l.map bu)&&true)=true
 rw[this];rfl
theorem IF (f:ForM)(hs:bO f.nodes)(n:Int):an Tryz.prog 164 [] [bF f,ay n] [] (cN (Fz f n)):=by
 cases e0:(aU f&&aa f.nodes n) with
 | true=>
   unfold Fz
   rw[if_pos e0]
   refine an.frozen [(0,cU (cD f.nodes f.nodes.length n))] ?_ (DN _) (Ak f hs n e0) (fq rfl rfl rfl rfl)
   funext t
   match t with
   |0=>rfl
   |n+1=>rfl
 | false=>
   have h76:=xI f hs [n] (by simp)
   rw[qO,e0] at h76
   unfold Fz
   rw[e0]
   obtain⟨l,m⟩:=f
   refine an.aF (rvs:=[.tmp 4]) G aq Tryz.func164 rfl Tryz.ntmps164 rfl rfl ?_;delta List.toArray;(with_reducible ((conv=>whnf);(conv=>congr<;>reduce);repeat((first|refine hK ?_|refine sK ?_);(conv=>whnf);(conv=>congr<;>reduce))))
   refine ah.lit [131] h76 NN ⟨⟨rfl,rfl,trivial⟩,fq (l:=[n]) rfl rfl rfl rfl,trivial⟩ rfl rfl ?_;(with_reducible ((conv=>whnf);(conv=>congr<;>reduce);repeat((first|refine hK ?_|refine sK ?_);(conv=>whnf);(conv=>congr<;>reduce))))
   repeat' (first
  |(first
  |((with_reducible show aL _ _ _ _);first|refine aL.ff ?_|refine aL.tt ?_|refine aL.no (by first|exact qA|((try simp only[ak]);first|(simp[];done)|(simp[];omega))) ?_|refine aL.yes (by first|exact qA|((try simp only[ak]);first|(simp[];done)|(simp[];omega))) ?_)
  |((with_reducible show aP _ _ _ _);refine nK ?_)
  |((with_reducible show aH _ _ _ _);refine dK ?_))<;>(with_reducible ((conv=>whnf);(conv=>congr<;>reduce);repeat((first|refine hK ?_|refine sK ?_);(conv=>whnf);(conv=>congr<;>reduce))))
  | ((with_reducible show(_∧_)∧_∧_);refine⟨⟨rfl,rfl⟩,?_,?_⟩<;>with_reducible ((conv=>whnf)<;>repeat' (first|exact trivial|(refine And.intro ?_ ?_<;>(conv=>whnf))))))
   all_goals exact .inr (.inr ⟨1,rfl⟩)
end Go.Proofs.Heir
