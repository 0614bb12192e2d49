/- Models, plain laws and contracts of functions of the given program; conditions as stated in each theorem. By an AI agent. -/
import Derived.Shelf.Strings.Search1
import Derived.Shelf.Strings.Search2
import Derived.Shelf.Strings.Search3
import Derived.Shelf.LaysM
import Derived.Shelf.Strings.Shaped
import Derived.Shelf.Strings.Fields
import Derived.Test.YtkhjcnjicjgfiaaGreatDoorChecked
import Derived.Test.YtkhjcnjicjgfiaaGreatDoorWD12
set_option linter.unusedSimpArgs false
set_option linter.unusedVariables false
namespace Go.Proofs
open Go.Shelf
def Tryz.Aq:Go.Shelf.Ren:=⟨fun|144=>206|143=>222|219=>234|217=>238|225=>239|224=>240|267=>241|266=>244|314=>245|n=>n,fun|9=>9|4=>4|3=>3|5=>5|46=>284|146=>288|51=>287|n=>n,fun|1=>1|n=>n⟩
theorem Tryz.JQ:Go.Proofs.Lays.n144 Tryz.prog Tryz.Aq:={
  mixed:=by kernel_rfl
  f143:=Tryz.func222.trans (congrArg some (by kernel_rfl))
  f144:=Tryz.func206.trans (congrArg some (by kernel_rfl))
  f217:=Tryz.func238.trans (congrArg some (by kernel_rfl))
  f219:=Tryz.func234.trans (congrArg some (by kernel_rfl))
  f224:=Tryz.func240.trans (congrArg some (by kernel_rfl))
  f225:=Tryz.func239.trans (congrArg some (by kernel_rfl))
  f266:=Tryz.func244.trans (congrArg some (by kernel_rfl))
  f267:=Tryz.func241.trans (congrArg some (by kernel_rfl))
  f314:=Tryz.func245.trans (congrArg some (by kernel_rfl))
  t3:=Tryz.underlying3
  a3:=Tryz.isAgg3
  z3:=Tryz.sizeOf3
  v3:=Tryz.zeroValue3
  t4:=Tryz.underlying4
  a4:=Tryz.isAgg4
  z4:=Tryz.sizeOf4
  v4:=Tryz.zeroValue4
  t5:=Tryz.underlying5
  a5:=Tryz.isAgg5
  z5:=Tryz.sizeOf5
  v5:=Tryz.zeroValue5
  t9:=Tryz.underlying9
  a9:=Tryz.isAgg9
  z9:=Tryz.sizeOf9
  v9:=Tryz.zeroValue9
  t46:=Tryz.underlying284
  a46:=Tryz.isAgg284
  z46:=Tryz.sizeOf284
  v46:=Tryz.zeroValue284
  t51:=Tryz.underlying287
  a51:=Tryz.isAgg287
  z51:=Tryz.sizeOf287
  v51:=Tryz.zeroValue287
  t146:=Tryz.underlying288
  a146:=Tryz.isAgg288
  z146:=Tryz.sizeOf288
  v146:=Tryz.zeroValue288
  g1:=by kernel_rfl}
open Go.RowKit Go.Lib in
theorem Tryz.strings_Contains_one (s:ByteArray)(c:UInt8)(w:World):
    Calls Tryz.prog 206 #[.string s,.string ⟨#[c]⟩] w fun e w'=>e=.returned (.bool (decide (0≤Lib.indexByte s.data.toList c)))∧w'=w:=Any.strings_Contains_one Tryz.JQ s c w
def Tryz.yR:Go.Shelf.Ren:=⟨fun|157=>235|229=>242|199=>243|261=>246|311=>247|312=>248|n=>n,fun|9=>9|31=>152|3=>3|5=>5|4=>4|119=>285|0=>0|40=>221|152=>290|21=>21|154=>292|51=>287|141=>294|196=>298|193=>295|198=>301|49=>299|194=>296|201=>304|226=>306|46=>284|227=>307|n=>n,fun|0=>2|6=>3|n=>n⟩
theorem Tryz.Ir:Go.Proofs.Lays.n157 Tryz.prog Tryz.yR:={
  mixed:=by kernel_rfl
  f157:=Tryz.func235.trans (congrArg some (by kernel_rfl))
  f199:=Tryz.func243.trans (congrArg some (by kernel_rfl))
  f229:=Tryz.func242.trans (congrArg some (by kernel_rfl))
  f261:=Tryz.func246.trans (congrArg some (by kernel_rfl))
  f311:=Tryz.func247.trans (congrArg some (by kernel_rfl))
  f312:=Tryz.func248.trans (congrArg some (by kernel_rfl))
  t0:=Tryz.underlying0
  a0:=Tryz.isAgg0
  z0:=Tryz.sizeOf0
  v0:=Tryz.zeroValue0
  t3:=Tryz.underlying3
  a3:=Tryz.isAgg3
  z3:=Tryz.sizeOf3
  v3:=Tryz.zeroValue3
  t4:=Tryz.underlying4
  a4:=Tryz.isAgg4
  z4:=Tryz.sizeOf4
  v4:=Tryz.zeroValue4
  t5:=Tryz.underlying5
  a5:=Tryz.isAgg5
  z5:=Tryz.sizeOf5
  v5:=Tryz.zeroValue5
  t9:=Tryz.underlying9
  a9:=Tryz.isAgg9
  z9:=Tryz.sizeOf9
  v9:=Tryz.zeroValue9
  t21:=Tryz.underlying21
  a21:=Tryz.isAgg21
  z21:=Tryz.sizeOf21
  v21:=Tryz.zeroValue21
  t31:=Tryz.underlying152
  a31:=Tryz.isAgg152
  z31:=Tryz.sizeOf152
  v31:=Tryz.zeroValue152
  t40:=Tryz.underlying221
  a40:=Tryz.isAgg221
  z40:=Tryz.sizeOf221
  v40:=Tryz.zeroValue221
  t46:=Tryz.underlying284
  a46:=Tryz.isAgg284
  z46:=Tryz.sizeOf284
  v46:=Tryz.zeroValue284
  t49:=Tryz.underlying299
  a49:=Tryz.isAgg299
  z49:=Tryz.sizeOf299
  v49:=Tryz.zeroValue299
  t51:=Tryz.underlying287
  a51:=Tryz.isAgg287
  z51:=Tryz.sizeOf287
  v51:=Tryz.zeroValue287
  t119:=Tryz.underlying285
  a119:=Tryz.isAgg285
  z119:=Tryz.sizeOf285
  t141:=Tryz.underlying294
  a141:=Tryz.isAgg294
  z141:=Tryz.sizeOf294
  v141:=Tryz.zeroValue294
  t152:=Tryz.underlying290
  a152:=Tryz.isAgg290
  z152:=Tryz.sizeOf290
  v152:=Tryz.zeroValue290
  t154:=Tryz.underlying292
  a154:=Tryz.isAgg292
  z154:=Tryz.sizeOf292
  v154:=Tryz.zeroValue292
  t193:=Tryz.underlying295
  a193:=Tryz.isAgg295
  z193:=Tryz.sizeOf295
  v193:=Tryz.zeroValue295
  t194:=Tryz.underlying296
  a194:=Tryz.isAgg296
  z194:=Tryz.sizeOf296
  v194:=Tryz.zeroValue296
  t196:=Tryz.underlying298
  a196:=Tryz.isAgg298
  z196:=Tryz.sizeOf298
  v196:=Tryz.zeroValue298
  t198:=Tryz.underlying301
  a198:=Tryz.isAgg301
  z198:=Tryz.sizeOf301
  v198:=Tryz.zeroValue301
  t201:=Tryz.underlying304
  a201:=Tryz.isAgg304
  z201:=Tryz.sizeOf304
  v201:=Tryz.zeroValue304
  t226:=Tryz.underlying306
  a226:=Tryz.isAgg306
  z226:=Tryz.sizeOf306
  v226:=Tryz.zeroValue306
  t227:=Tryz.underlying307
  a227:=Tryz.isAgg307
  z227:=Tryz.sizeOf307
  v227:=Tryz.zeroValue307
  g0:=by kernel_rfl
  g6:=by kernel_rfl}
end Go.Proofs
namespace Go.Proofs.Heir
open Go Go.Am Go.RowKit Go.Lib
set_option maxRecDepth 100000
set_option maxHeartbeats 8000000
def oJ (s:ByteArray):AV:=cw s
@[reducible] def sB (l : List ByteArray) : AV := .sl 1 (l.map oJ)
@[reducible] def KG (l : List ByteArray) : MS := .live 1 (l.map oJ) false
theorem oV (l:List ByteArray):aV (l.map oJ)=true:=by
 rw[cr];intro x hx
 obtain⟨a,_,rfl⟩:=List.mem_map.1 hx
 rfl
theorem Fg {l:List ByteArray}{k:Nat}{a:ByteArray}(h:l[k]? =some a):(l.map oJ)[k]? =some (cw a):=by rw[dM,h];rfl
theorem DY (l:List ByteArray):ic [KG l]:=⟨bB.ga fun r hr=>by obtain⟨a,_,rfl⟩:=List.mem_map.1 hr;rfl,oV l,trivial⟩
theorem GP {m:ML}{fz:Nat→Bool}{tab:List (Nat×Nat)}{n t len:Nat}{ro:Bool}{rows:List AV}{l:List ByteArray}(h1:dc m t=.live 1 rows ro)(h2:fz t=true)(h3:rows=l.map oJ)(h4:len=l.length):sN m fz (MF tab fz m n) (sB l) t 0 len:=by
 subst h3;subst h4
 have e:(l.map oJ).length=l.length:=bM ..
 exact .cut h1 h2 (by omega) (by rw[List.drop_zero,nU (by omega)]) (oV l)
theorem Ja (l:List ByteArray)(hl:l.length≤100000)(s:ByteArray):an Tryz.prog 223 [] [sB l,cw s] [] (ay (dI (fun x=>decide (x=s)) l)):=by
 have hlm:(l.map oJ).length=l.length:=bM ..
 refine an.aF (rvs:=[.tmp 4]) G aq Tryz.func223 rfl Tryz.ntmps223 rfl rfl ?_;with_reducible refine wD ?_
 refine bD.use G aq (fun(k:Nat)=>[(0,sB l),(1,cw s),(7,ay l.length),(8,ay k)]) (fun _=>[]) (fun k=>k≤l.length∧∀j x,j<k→l[j]? =some x→decide (x=s)=false) (fun k=>l.length-k) 0 ⟨Nat.zero_le _,fun j x h=>by omega⟩
  ⟨⟨rfl,rfl⟩,⟨rfl,rfl,by show(l.length:Int)=((l.map oJ).length:Int);rw[hlm],rfl,trivial⟩,trivial⟩ ?_
 rintro k ⟨hk,hno⟩
 with_reducible refine wK ?_
 refine aL.mk (fun h1=>?_) (fun h1=>?_)<;>(try simp only[ak] at h1)<;>with_reducible refine wK ?_
 ·simp only[bH] at h1
  have hk':k<l.length:=by omega
  obtain⟨a,ha⟩:∃a,l[k]? =some a:=⟨_,bh hk'⟩
  refine bn.mk k (cw a) rfl (Fg ha) ?_;with_reducible refine wK ?_
  refine aL.mk (fun h2=>?_) (fun h2=>?_)<;>(try simp only[ak] at h2)<;>with_reducible refine wK ?_
  ·(refine eK ?_ ?_<;>with_reducible repeat' (first|exact trivial|(show _∧_;refine aK ?_ ?_)))
   refine kS (p:=fun x=>decide (x=s)) ha ?_ hno
   simp only[bH] at h2 ⊢;exact h2.symm
  ·refine nK ?_;with_reducible refine wK ?_
   refine aT.mk (k+1) ⟨by omega,fun j x hj hx=>?_⟩ (by omega) ⟨⟨rfl,rfl⟩,⟨rfl,rfl,rfl,by show((k+1:Nat):Int)=(k:Int)+1;omega,trivial⟩,trivial⟩
   rcases Nat.lt_or_ge j k with h3|h3
   ·exact hno j x h3 hx
   ·have:j=k:=by omega
    subst this
    rw[ha] at hx;cases hx
    simp only[dG] at h2 ⊢;exact fun e=>h2 e.symm
 ·(refine eK ?_ ?_<;>with_reducible repeat' (first|exact trivial|(show _∧_;refine aK ?_ ?_)))
  exact jm fun j x hx=>hno j x (by have:=(br hx).1;simp only[dG] at h1;omega) hx
def An (l:List ByteArray)(s:ByteArray):Bool:=l.any fun x=>decide (x=s)
theorem FC {l:List ByteArray}{s:ByteArray}:An l s=true↔s∈l:=by
 unfold An;rw[List.any_eq_true]
 exact⟨fun⟨x,hx,e⟩=>by rw[←of_decide_eq_true e];exact hx,fun h=>⟨s,h,dB rfl⟩⟩
theorem G7 {l:List ByteArray}{s:ByteArray}:decide (0≤dI (fun x=>decide (x=s)) l)=An l s:=by
 rw[Bool.eq_iff_iff,bH,FC]
 unfold dI
 cases h:l.findIdx? (fun x=>decide (x=s)) with
 | none=>
   rw[List.findIdx?_eq_none_iff] at h
   simp only
   refine⟨fun h'=>by omega,fun hs=>?_⟩
   have:=h s hs
   simp at this
 | some k=>
   rw[List.findIdx?_eq_some_iff_getElem] at h
   obtain⟨hk,h2,_⟩:=h
   simp only
   exact⟨fun _=>by rw[←of_decide_eq_true h2];exact List.getElem_mem hk,fun _=>by omega⟩
theorem Df (l:List ByteArray)(hl:l.length≤100000)(s:ByteArray):an Tryz.prog 207 [] [sB l,cw s] [] (aX (An l s)):=by
 rw[←G7]
 refine an.aF (rvs:=[.tmp 4]) G aq Tryz.func207 rfl Tryz.ntmps207 rfl rfl ?_;with_reducible refine wD ?_
 refine cL (Ja l hl s) MW ?_;with_reducible refine wK ?_
 (refine eK ?_ ?_<;>with_reducible repeat' (first|exact trivial|(show _∧_;refine aK ?_ ?_)))
def xQ (l:List UInt8):ByteArray:=⟨l.toArray⟩
def jg:List ByteArray:=[xQ [97,110,110,111,116,97,116,105,111,110,45,120,109,108],xQ [99,111,108,111,114,45,112,114,111,102,105,108,101],xQ [102,111,110,116,45,102,97,99,101],xQ [102,111,110,116,45,102,97,99,101,45,115,114,99],
 xQ [102,111,110,116,45,102,97,99,101,45,117,114,105],xQ [102,111,110,116,45,102,97,99,101,45,102,111,114,109,97,116],xQ [102,111,110,116,45,102,97,99,101,45,110,97,109,101],xQ [109,105,115,115,105,110,103,45,103,108,121,112,104]]
theorem Jh:an Tryz.prog 208 [] [] [KG jg] (.own 0 0 8):=by
 refine an.aF (rvs:=[.tmp 0]) G aq Tryz.func208 rfl Tryz.ntmps208 rfl rfl ?_;with_reducible refine wD ?_
 (refine eK ?_ ?_<;>with_reducible repeat' (first|exact trivial|(show _∧_;refine aK ?_ ?_)))
 all_goals first|rfl|exact aQ (oV jg)
theorem HX (s:ByteArray)(c:UInt8):an Tryz.prog 206 [] [cw s,cw ⟨#[c]⟩] [] (aX (decide (0≤Lib.indexByte s.data.toList c))):=
 an.iH (vs:=[.string s,.string ⟨#[c]⟩]) (v:=.bool _) fun w _=>(Go.Proofs.Tryz.strings_Contains_one s c w).mono fun e w' ⟨h1,h2⟩=>⟨h1,by rw[h2];exact Below.refl _ w⟩
theorem EA (s:ByteArray)(a b:Nat):s.extract a b=strOf ((s.data.toList.take b).drop a):=by
 obtain⟨l,rfl⟩:∃l:List UInt8,s=⟨l.toArray⟩:=⟨s.data.toList,by obtain⟨⟨l⟩⟩:=s;rfl⟩
 rw[ByteArray.extract_mk]
 unfold strOf
 rw[List.drop_take]
@[reducible] def rH : List UInt8 := [97, 32, 98, 32, 98, 117, 116, 116, 111, 110, 32, 100, 105, 118, 32, 102, 105, 101, 108, 100, 115, 101, 116, 32, 102, 111, 114, 109, 32, 105, 32, 105, 110, 112, 117, 116, 32, 108, 97, 98, 101, 108, 32, 108, 101, 103, 101, 110, 100, 32, 108, 105, 32, 111, 112, 116, 105, 111, 110, 32, 111, 117, 116, 112, 117, 116, 32, 112, 32, 115, 101, 108, 101, 99, 116, 32, 115, 112, 97, 110, 32, 116, 101, 109, 112, 108, 97, 116, 101, 32, 116, 101, 120, 116, 97, 114, 101, 97, 32, 117, 108]
def ny:List ByteArray:=(Lib.fields rH).map xQ
theorem vX:(Lib.fields rH).length=19:=by decide+kernel
theorem BW:∀ (j:Nat) b,(ByteArray.mk rH.toArray).data.toList[j]? =some b→b.toNat<128:=by
 intro j b h
 have h1:rH.all (fun b=>decide (b.toNat<128))=true:=by decide+kernel
 exact of_decide_eq_true (List.all_eq_true.1 h1 b (bN h))
theorem wc (l:List ByteArray):flat (l.map oJ)=l.map oJ:=by
 induction l with
 |nil=>rfl
 |cons a r ih=>show cells (oJ a)++flat (r.map oJ)=_;rw[ih];rfl
theorem an.JH {P:Program}{f:FuncId}{l:List ByteArray}{s:ByteArray}{b:Bool}(h:an P f [] [sB l,cw s] [] (aX b)){w:World}{blk cap:Nat}{arr:Array Value}{ty:TypeId}{fz:Nat×Nat}(hh:w.heap[blk]? =some (.cells arr ty fz))
  (harr:∀ (i:Nat) (x:ByteArray),l[i]? =some x→arr[i]? =some (.string x)) (hcap:l.length≤cap) (ht:jc P w fun _=>none):
  Calls P f #[.slice (some ⟨blk,0,none⟩) l.length cap,.string s] w fun e w'=>e=.returned (.bool b)∧Below w.heap.size w w':=by
 have hW:∀b,¬Wr (fun _=>False) (fun _=>none) (aD []) b:=by
  rintro b (h|⟨t,B,wd,rows,_,h,_⟩)
  ·exact h
  ·cases h
 have hblk:blk<w.heap.size:=(Array.getElem?_eq_some_iff.1 hh).1
 refine(h w (fun _=>False) (fun _=>none) [.slice (some ⟨blk,0,none⟩) l.length cap,.string s] (fun _ _=>rfl) (vV w ht) ⟨rfl,?_⟩).mono ?_
 ·intro j c v h1 h2
  match j with
  | 0 =>
    simp at h1 h2;subst h1;subst h2
    have key:∀ (q:Nat) (c:AV),(flat (l.map oJ))[q]? =some c→∃x,l[q]? =some x∧c=cw x:=by
     intro q c hq
     rw[wc,dM] at hq
     cases hx:l[q]? with
     |none=>rw[hx] at hq;cases hq
     |some x=>rw[hx] at hq;exact⟨x,rfl,(Option.some.inj hq).symm⟩
    refine .sl (f:=fun q=>arr.getD q undef) (hW _) hblk (by simp) hcap (fun i r hr=>?_) (fun q c hq=>?_) (fun q c hq=>?_) (fun c hc=>?_)
    ·rw[dM] at hr
     cases hx:l[i]? with
     |none=>rw[hx] at hr;cases hr
     |some x=>rw[hx] at hr;cases hr;rfl
    ·obtain⟨x,hx,rfl⟩:=key q c hq
     have:=harr q x hx
     simp[World.cell?,hh,this,Array.getD_eq_getD_getElem?]
    ·obtain⟨x,hx,rfl⟩:=key q c hq
     have:=harr q x hx
     simp only[Array.getD_eq_getD_getElem?,this,Option.getD_some]
     exact .lit
    ·rw[wc] at hc
     obtain⟨x,_,rfl⟩:=List.mem_map.1 hc
     rfl
  |1=>simp at h1 h2;subst h1;subst h2;exact .lit
  |j+2=>simp at h1
 ·rintro e w' ⟨v',μ',rfl,hs,hv⟩
  cases hv
  exact⟨rfl,hs.os,hs.tape,hs.output,hs.hsize,fun b hb=>hs.keep b hb (by rintro⟨t,B,h,_⟩;cases h)⟩
theorem BI (w:World)(ht:jc Tryz.prog w fun _=>none):Calls Tryz.prog 229 #[] w fun e w'=>e=.returned (.slice (some ⟨w.heap.size,0,none⟩) 19 19)∧w'=w.alloc (.cells (ny.map Value.string).toArray 9):=by
 have hf:=Any.strings_Fields_core Go.Proofs.Tryz.Ir (by kernel_rfl) (ByteArray.mk rH.toArray) w (by decide) BW (fun c hc=>((ht.1 _ (by kernel_rfl)).2.2 c hc))
 have e1:(ByteArray.mk rH.toArray).data.toList=rH:=rfl
 rw[e1,vX,show((Lib.fields rH).map fun l=>Value.string ⟨l.toArray⟩)=ny.map Value.string from by unfold ny;rw[List.map_map];rfl] at hf
 go_enter Tryz.func229,Tryz.ntmps229
 go_wp2_with (go_at_call 235;refine hf.mono ?_;rintro e w1 ⟨rfl,rfl⟩)
 go_ret
 exact⟨rfl,rfl⟩
theorem IL (s:ByteArray):an Tryz.prog 215 [] [cw s] [] (aX (An ny s)):=by
 refine an.iH (vs:=[.string s]) (v:=.bool (An ny s)) fun w ht=>?_
 have hl:ny.length=19:=by unfold ny;rw[bM,vX]
 have h29:=BI w ht
 have hb:Below w.heap.size w (w.alloc (.cells (ny.map Value.string).toArray 9)):=(Below.refl _ w).alloc (Nat.le_refl _) _
 have h26:=an.JH (Df ny (by omega) s) (w:=w.alloc (.cells (ny.map Value.string).toArray 9)) (blk:=w.heap.size) (cap:=19) (heap_alloc_new w _) (fun i x hx=>by simp[hx]) (by omega) (ht.below hb)
 rw[hl] at h26
 go_enter Tryz.func215,Tryz.ntmps215
 go_wp2_with (first
  |(go_at_call 229;refine h29.mono ?_;rintro e w1 ⟨rfl,rfl⟩)
  |(go_at_call 207;refine h26.mono ?_;rintro e w2 ⟨rfl,hb2⟩))
 go_ret
 exact⟨rfl,hb.trans (hb2.mono hb.size)⟩
@[reducible] def AN : List UInt8 := [97, 110, 110, 111, 116, 97, 116, 105, 111, 110, 45, 120, 109, 108, 32, 99, 111, 108, 111, 114, 45, 112, 114, 111, 102, 105, 108, 101, 32, 102, 111, 110, 116, 45, 102, 97, 99, 101, 32, 102, 111, 110, 116, 45, 102, 97, 99, 101, 45, 115, 114, 99, 32, 102, 111, 110, 116, 45, 102, 97, 99, 101, 45, 117, 114, 105, 32, 102, 111, 110, 116, 45, 102, 97, 99, 101, 45, 102, 111, 114, 109, 97, 116, 32, 102, 111, 110, 116, 45, 102, 97, 99, 101, 45, 110, 97, 109, 101, 32, 109, 105, 115, 115, 105, 110, 103, 45, 103, 108, 121, 112, 104]
def Fq (l:List UInt8):Bool:=l.any (fun b=>decide (b=45))
def Cm (l:List UInt8):Bool:=l.any (fun b=>mD (b.toNat:Int))
def yJ:List UInt8→Bool
 |[]=>false
 |b::_=>ko (b.toNat:Int)
def eL (s:ByteArray):Bool:=cz s&&(yJ s.data.toList&&(!Cm s.data.toList&&(Fq s.data.toList&& !An jg s)))
theorem BO (l:List UInt8):decide (0≤Lib.indexByte l 45)=Fq l:=by
 rw[Bool.eq_iff_iff,bH]
 unfold Fq
 rw[List.any_eq_true]
 constructor
 ·intro h
  obtain⟨o,ho⟩:∃o:Nat,Lib.indexByte l 45=o:=⟨(Lib.indexByte l 45).toNat,by omega⟩
  obtain⟨h1,_⟩:=Lib.indexByte_some ho
  exact⟨45,bN h1,rfl⟩
 ·rintro⟨b,hb,e⟩
  have:=of_decide_eq_true e;subst this
  rcases Int.lt_or_le (Lib.indexByte l 45) 0 with h|h
  ·have:Lib.indexByte l 45=-1:=by have:=Lib.indexByte_ge l 45;omega
   obtain⟨k,hk⟩:=List.getElem?_of_mem hb
   exact absurd hk (Lib.indexByte_none this k)
  ·exact h
theorem vN (p:Nat→Bool)(s:ByteArray)(hs:∀b∈s.data.toList,b.toNat<128):∀ (f pos:Nat),s.size≤pos+f→(0≤idxFuncFrom p true s f pos↔ ∃i,pos≤i∧∃b,s.data.toList[i]? =some b∧p b.toNat=true)
 | 0,pos,h=>by
   have:¬ (0:Int)≤idxFuncFrom p true s 0 pos:=by simp[idxFuncFrom]
   refine⟨fun h'=>absurd h' this,?_⟩
   rintro⟨i,h1,b,h2,_⟩
   have:=(br h2).1
   have:i<s.size:=this
   omega
 | f + 1,pos,h=>by
   by_cases hp:pos<s.size
   ·have ih:=vN p s hs f
    obtain⟨b,hb1,hb2⟩:∃b,s.data.toList[pos]? =some b∧s.get! pos=b:=⟨_,bh hp,by show s.data[pos]! =_;rw[getElem!_pos s.data pos hp];rfl⟩
    have hb3:=hs b (bN hb1)
    unfold idxFuncFrom
    rw[if_pos hp,decode_at,hb2]
    have hd:∀n b1 b2 b3,decodeN n b.toNat b1 b2 b3=(b.toNat,1):=fun n b1 b2 b3=>by rw[decodeN,if_pos hb3]
    rw[hd]
    show(0:Int)≤ (if p b.toNat=true then(pos:Int) else idxFuncFrom p true s f (pos+1))↔_
    cases hpb:p b.toNat with
    |true=>exact⟨fun _=>⟨pos,Nat.le_refl _,b,hb1,hpb⟩,fun _=>by simp⟩
    | false=>
      rw[if_neg (by simp),ih (pos+1) (by omega)]
      constructor
      ·rintro⟨i,h3,h4⟩;exact⟨i,by omega,h4⟩
      ·rintro⟨i,h3,b',h4,h5⟩
       rcases Nat.lt_or_ge pos i with h6|h6
       ·exact⟨i,h6,b',h4,h5⟩
       ·have:i=pos:=by omega
        subst this
        rw[hb1] at h4;cases h4
        rw[hpb] at h5;cases h5
   ·rw[idxFuncFrom_end _ _ _ _ _ hp]
    refine⟨fun h'=>by omega,?_⟩
    rintro⟨i,h1,b,h2,_⟩
    have:=(br h2).1
    have:i<s.size:=this
    omega
theorem yB {s:ByteArray}(h:cz s=true):∀b∈s.data.toList,b.toNat<128:=by
 intro b hb
 unfold cz qM at h
 simp only[bJ,List.all_eq_true] at h
 have:=h.1.2 b hb
 unfold oq jx ko mD at this
 simp only[Bool.or_eq_true,bJ,bH] at this
 omega
theorem A5 {s:ByteArray}(h:cz s=true):decide (0≤idxFunc (fun r=>mD (r:Int)) true s)=Cm s.data.toList:=by
 rw[Bool.eq_iff_iff,bH]
 unfold Cm
 rw[List.any_eq_true]
 have:=vN (fun r=>mD (r:Int)) s (yB h) s.size 0 (by omega)
 refine Iff.trans this ⟨?_,?_⟩
 ·rintro⟨i,_,b,h1,h2⟩;exact⟨b,bN h1,h2⟩
 ·rintro⟨b,h1,h2⟩
  obtain⟨i,hi⟩:=List.getElem?_of_mem h1
  exact⟨i,Nat.zero_le _,b,hi,h2⟩
theorem JD (s:ByteArray)(h:cz s=true):an Tryz.prog 185 [] [cw s,.lit (.func (.func 179) #[] #[])] [] (aX (Cm s.data.toList)):=by
 rw[←A5 h]
 exact an.iH (vs:=[.string s,.func (.func 179) #[] #[]]) fun w ht=>ug 179 JW (fun r=>mD (r:Int)) s w ht fun W x ht _=>(pW (x:Int)).below (vs:=[.int .i32 (x:Int)]) W ht
theorem yL {s:ByteArray}(h:cz s=true):∃b r,s.data.toList=b::r:=by
 unfold cz qM at h
 simp only[bJ,bH] at h
 obtain⟨b,r,e,_⟩:=wH h.1.1.1
 exact⟨b,r,e⟩
theorem xe (s:ByteArray):an Tryz.prog 174 [] [cw s] [] (aX (eL s)):=by
 refine an.aF (rvs:=[.tmp 2]) G aq Tryz.func174 rfl Tryz.ntmps174 rfl rfl ?_;with_reducible refine wD ?_
 refine cL (sr s) Hv ?_;with_reducible refine wK ?_
 unfold eL
 cases hr:cz s with
 | false=>
   repeat' (first
  |refine aE ?_ ?_
  |((with_reducible show aL _ _ _ _);first|refine iK ?_|(refine aL.mk (fun _=>?_) (fun _=>?_)<;>with_reducible refine wK ?_))
  | apply trivial)
   all_goals rfl
 | true=>
   obtain⟨b,r,hb⟩:=yL hr
   have hb0:s.data.toList[0]? =some b:=by rw[hb];rfl
   have hlf:yJ s.data.toList=ko (b.toNat:Int):=by rw[hb];rfl
   have hda:=BO s.data.toList
   have f25:=HX s 45
   rw[hda] at f25
   refine aL.tt ?_;with_reducible refine wK ?_
   refine vH.mk 0 b rfl hb0 ?_;with_reducible refine wK ?_
   refine ni.int (by kernel_rfl) (by kernel_rfl) (F0 _) ?_;with_reducible refine wK ?_
   refine cL (xj _) Mf ?_;with_reducible refine wK ?_
   repeat' (first
  |refine aE ?_ ?_
  |((with_reducible show aL _ _ _ _);first|refine iK ?_|(refine aL.mk (fun _=>?_) (fun _=>?_)<;>with_reducible refine wK ?_))
  |((with_reducible refine kQ 185 ?_);refine cL (JD s hr) NH ?_;with_reducible refine wK ?_)
  |((with_reducible refine kQ 206 ?_);refine cL f25 OD ?_;with_reducible refine wK ?_)
  |((with_reducible refine kQ 208 ?_);refine ah.new 211 [] Jh Nr trivial rfl rfl rfl (DY jg) rfl ?_;with_reducible refine wK ?_)
  |((with_reducible refine kQ 207 ?_);refine ah.lit [211] (Df jg (by decide) s) Nq ⟨GP rfl rfl rfl rfl,rfl,trivial⟩ rfl rfl ?_;with_reducible refine wK ?_)
  | apply trivial)
   all_goals (rw[hlf];clear hb hb0 hda f25 hlf;rw[show s.data.toList=s.1.1 from rfl];simp_all)

def bu (n:Int):AV:=ay n
def nZ (n:Int):Value:=.int .i64 n
@[reducible] def cN (l : List Int) : AV := .sl 1 (l.map bu)
theorem iy {l:List Int}{k:Nat}{x:Int}(h:l[k]? =some x):(l.map bu)[k]? =some (ay x):=by rw[dM,h];rfl
structure ai where
 kind:Int
 name:ByteArray
 is:ByteArray
 data:ByteArray
 attrs:List AttrM
 parent:Int
 kids:List Int
 host:Int
 under:Int
 doc:Int
structure ForM where
 nodes:List ai
 most:Int
def FJ:ai:=⟨0,⟨#[]⟩,⟨#[]⟩,⟨#[]⟩,[],0,[],0,0,0⟩
def nd (l:List ai)(n:Int):ai:=(l[n.toNat]?).getD FJ
def aa (l:List ai)(n:Int):Bool:=decide (0≤n)&&decide (n< (l.length:Int))
def nV (l:List ai)(n k:Int):Bool:=aa l n&&decide ((nd l n).kind=k)
def iD (k:Int):Bool:=decide (k=0)||decide (k=1)||decide (k=3)||decide (k=4)
def tE (l:List Int)(n:Int):Bool:=decide (n∈l)
def gb (x:ai):Int:=if x.parent=-1 then x.host else x.parent
def tK (l:List ai)(n:Int)(x:ai):Bool:=nV l x.doc 0&&(decide (x.kind≠0)||decide (x.doc=n))
def rA (l:List ai)(n:Int)(x:ai):Bool:=decide (x.parent=-1)||((decide (x.kind=1)||decide (x.kind=2))&&aa l x.parent&&iD (nd l x.parent).kind&&tE (nd l x.parent).kids n)
def yo (l:List ai)(n:Int)(x:ai)(pre:List Int)(c:Int):Bool:=
 aa l c&& !tE pre c&&decide ((nd l c).parent=n)&&decide ((nd l c).doc=x.doc)&&(decide ((nd l c).kind=1)||(decide ((nd l c).kind=2)&&decide (x.kind≠0)))
def j9 (l:List ai)(n:Int)(x:ai):List Int→List Int→Bool
 |_,[]=>true
 |pre,c::r=>yo l n x pre c&&j9 l n x (pre++ [c]) r
def eG (l:List ai)(cs:List Int):Nat:=cs.countP (fun c=>decide ((nd l c).kind=1))
def ou (l:List ai)(n:Int)(x:ai):Bool:=
 j9 l n x [] x.kids&&((iD x.kind||decide (x.kids=[]))&&(decide (x.kind≠0)||decide (eG l x.kids≤1)))
def j1 (l:List ai)(n:Int)(x:ai):Bool:=
 (if x.kind=4 then nV l x.host 1&&decide ((nd l x.host).under=n)&&decide ((nd l x.host).doc=x.doc) else decide (x.host=-1))&&
 (decide (x.under=-1)||(decide (x.kind=1)&&nV l x.under 4&&decide ((nd l x.under).host=n)))
def fU (l:List ai):Nat→Int→Bool
 |0,_=>false
 |m+1,n=>if gb (nd l n)=-1 then true else fU l m (gb (nd l n))
def fE (x:ai):Bool:=
 if x.kind=1 then cz x.name&&decide (nW x.name=x.name)&&(decide (x.is=⟨#[]⟩)||eL x.is)&&decide (x.data=⟨#[]⟩)&&iq x.attrs
 else if x.kind=2 then decide (x.data.size≤200)&&decide (x.name=⟨#[]⟩)&&decide (x.is=⟨#[]⟩)&&decide (x.attrs=[])
 else if x.kind=0∨x.kind=3∨x.kind=4 then decide (x.name=⟨#[]⟩)&&decide (x.is=⟨#[]⟩)&&decide (x.data=⟨#[]⟩)&&decide (x.attrs=[])
 else false
def cQ (l:List ai)(n:Int)(x:ai):Bool:=fE x&&(tK l n x&&(rA l n x&&(ou l n x&&j1 l n x)))
def oF (f:ForM):Bool:=decide (1≤f.most)&&decide (f.most≤400)&&decide (1≤f.nodes.length)&&decide ((f.nodes.length:Int)≤f.most)&&decide ((nd f.nodes 0).kind=0)
def n8 {α:Type}(p:Nat→α→Bool):Nat→List α→Bool
 |_,[]=>true
 |i,x::r=>p i x&&n8 p (i+1) r
def aU (f:ForM):Bool:=oF f&&(n8 (fun k x=>cQ f.nodes k x) 0 f.nodes&&n8 (fun k _=>fU f.nodes f.nodes.length k) 0 f.nodes)
def qQ (f:ForM):Bool:=decide (f.nodes.length≤60)&&f.nodes.all (fun x=>decide (x.kids.length≤60)&&decide (x.attrs.length≤60)&&decide (x.name.size≤300))
structure bO (l:List ai):Prop where
 len:l.length≤64
 kids:∀x∈l,x.kids.length≤60
 attrs:∀x∈l,x.attrs.length≤60
 name:∀x∈l,x.name.size≤300
theorem p7 {f:ForM}(h:qQ f=true):bO f.nodes:=by
 unfold qQ at h
 simp only[bJ,bH,List.all_eq_true] at h
 obtain⟨h1,h2⟩:=h
 exact⟨by omega,fun x hx=>(h2 x hx).1.1,fun x hx=>(h2 x hx).1.2,fun x hx=>(h2 x hx).2⟩
theorem fZ {l:List ai}{k:Nat}{x:ai}(h:l[k]? =some x):nd l (k:Int)=x:=by unfold nd;rw[Int.toNat_natCast,h];rfl
theorem eF {l:List ai}{k:Nat}{x:ai}(h:l[k]? =some x):aa l (k:Int)=true:=by
 unfold aa
 have:=(br h).1
 simp;omega
theorem bp {l:List ai}{n:Int}:aa l n=true↔ ∃ (k:Nat) (x:ai),n=(k:Int)∧l[k]? =some x∧nd l n=x:=by
 constructor
 ·intro h
  unfold aa at h
  simp only[bJ,bH] at h
  have hk:n.toNat<l.length:=by omega
  have hn:n=(n.toNat:Int):=by omega
  refine⟨n.toNat,l[n.toNat],hn,bh hk,?_⟩
  unfold nd;rw[bh hk];rfl
 ·rintro⟨k,x,rfl,h,_⟩
  exact eF h
theorem js {α:Type}{p:Nat→α→Bool}:∀ {i:Nat} {l:List α},n8 p i l=true↔ ∀k x,l[k]? =some x→p (i+k) x=true
 |i,[]=>by simp[n8]
 | i,a::r=>by
   simp only[n8,bJ,js (i:=i+1) (l:=r)]
   constructor
   ·rintro⟨h1,h2⟩ k x hx
    cases k with
    |zero=>simp at hx;subst hx;exact h1
    |succ k=>have:=h2 k x (by simpa using hx);rw[show i+ (k+1)=i+1+k from by omega];exact this
   ·intro h
    refine⟨h 0 a rfl,fun k x hx=>?_⟩
    have:=h (k+1) x (by simpa using hx)
    rw[show i+1+k=i+ (k+1) from by omega];exact this
@[reducible] def aR (x : ai) : AV := .agg [ay x.kind, cw x.name, cw x.is, cw x.data, gT x.attrs, ay x.parent, cN x.kids, ay x.host, ay x.under, ay x.doc]
def cj (x:ai):AV:=aR x
@[reducible] def gq (l : List ai) : AV := .sl 10 (l.map cj)
@[reducible] def bF (f : ForM) : AV := .agg [gq f.nodes, ay f.most]
theorem aI {l:List ai}{k:Nat}{x:ai}(h:l[k]? =some x):(l.map cj)[k]? =some (aR x):=by rw[dM,h];rfl
end Go.Proofs.Heir
section
namespace Go.Proofs.Heir
open Go Go.Am Go.RowKit Go.Lib
set_option maxRecDepth 100000
set_option maxHeartbeats 8000000
def gd (l:List ai):Nat→Int→Bool
 |0,_=>false
 |m+1,n=>if(nd l n).parent=-1 then true else gd l m (nd l n).parent
def uc (l:List ai):Nat→Int→List Int
 |0,_=>[]
 |m+1,n=>n::if(nd l n).parent=-1 then[] else uc l m (nd l n).parent
def cD (l:List ai):Nat→Int→List Int
 |0,_=>[]
 |m+1,n=>n::(nd l n).kids.flatMap (cD l m)
def bk (l:List ai)(n:Int):List Int:=uc l l.length n
theorem iJ {l:List ai}:∀ {m:Nat} {n:Int},fU l m n=true→gd l m n=true
 |0,n,h=>by simp[fU] at h
 | m +1,n,h=>by
   unfold gd
   by_cases hp:(nd l n).parent=-1
   ·rw[if_pos hp]
   ·rw[if_neg hp]
    have hu:gb (nd l n)=(nd l n).parent:=if_neg hp
    unfold fU at h
    rw[hu,if_neg hp] at h
    exact iJ h
theorem ua (l:List ai):∀ (m:Nat) (n:Int),(uc l m n).length≤m
 |0,_=>Nat.le_refl _
 | m +1,n=>by
   unfold uc
   split
   ·simp
   ·have:=ua l m (nd l n).parent
    simp;omega
theorem pH {l:List ai}:∀ {m k:Nat} {n:Int},gd l m n=true→m≤k→uc l k n=uc l m n
 |0,k,n,h,_=>by simp[gd] at h
 | m +1,k,n,h,hk=>by
   obtain⟨k,rfl⟩:∃j,k=j+1:=⟨k-1,by omega⟩
   unfold gd at h
   unfold uc
   by_cases hp:(nd l n).parent=-1
   ·rw[if_pos hp,if_pos hp]
   ·rw[if_neg hp] at h
    rw[if_neg hp,if_neg hp,pH h (by omega)]
structure Tree (l:List ai):Prop where
 par:∀n,aa l n=true→(nd l n).parent≠-1→aa l (nd l n).parent=true∧n∈ (nd l (nd l n).parent).kids
 kid:∀n,aa l n=true→∀k∈ (nd l n).kids,aa l k=true∧(nd l k).parent=n
 dup:∀n,aa l n=true→(nd l n).kids.Nodup
 fin:∀n,aa l n=true→gd l l.length n=true
 Jz:∀n,aa l n=true→fE (nd l n)=true
theorem bQ {l:List ai}{n:Int}(h:aa l n=true):0≤n∧n< (l.length:Int):=by
 unfold aa at h;simpa using h
variable {l : List ai}
theorem kr (T:Tree l){P:Int→Prop}(h0:∀n,aa l n=true→(nd l n).parent=-1→P n)(h1:∀n,aa l n=true→(nd l n).parent≠-1→aa l (nd l n).parent=true→P (nd l n).parent→P n):∀n,aa l n=true→P n:=by
 have H:∀ (m:Nat) (n:Int),aa l n=true→gd l m n=true→P n:=by
  intro m
  induction m with
  |zero=>intro n _ h;simp[gd] at h
  | succ m ih=>
    intro n hn h
    unfold gd at h
    by_cases hp:(nd l n).parent=-1
    ·exact h0 n hn hp
    ·rw[if_neg hp] at h
     have hq:=(T.par n hn hp).1
     exact h1 n hn hp hq (ih _ hq h)
 exact fun n hn=>H _ n hn (T.fin n hn)
theorem fj (T:Tree l){n:Int}(hn:aa l n=true)(hp:(nd l n).parent=-1):bk l n=[n]:=by
 have:=bQ hn
 obtain⟨m,hm⟩:∃m,l.length=m+1:=⟨l.length-1,by omega⟩
 unfold bk;rw[hm];unfold uc;rw[if_pos hp]
theorem bP (T:Tree l){n:Int}(hn:aa l n=true)(hp:(nd l n).parent≠-1):bk l n=n::bk l (nd l n).parent:=by
 have:=bQ hn
 obtain⟨m,hm⟩:∃m,l.length=m+1:=⟨l.length-1,by omega⟩
 have hf:=T.fin n hn
 unfold bk;rw[hm] at hf ⊢
 unfold gd at hf
 rw[if_neg hp] at hf
 rw[uc,if_neg hp,pH hf (Nat.le_succ m)]
theorem fQ (T:Tree l){n k:Int}(hn:aa l n=true)(hk:k∈ (nd l n).kids):bk l k=k::bk l n:=by
 have h:=T.kid n hn k hk
 have h0:=bQ hn
 have hp:(nd l k).parent≠-1:=by rw[h.2];omega
 rw[bP T h.1 hp,h.2]
theorem dm (T:Tree l){n:Int}(hn:aa l n=true):∃r,bk l n=n::r:=by
 by_cases hp:(nd l n).parent=-1
 ·exact⟨[],fj T hn hp⟩
 ·exact⟨_,bP T hn hp⟩
theorem eV (T:Tree l){n:Int}(hn:aa l n=true):n∈bk l n:=by
 obtain⟨r,hr⟩:=dm T hn;rw[hr];exact jC
theorem xn (n:Int):(bk l n).length≤l.length:=ua l _ n
theorem eB (T:Tree l):∀n,aa l n=true→∀a∈bk l n,aa l a=true:=by
 refine kr T (fun n hn hp a ha=>?_) (fun n hn hp hq ih a ha=>?_)
 ·rw[fj T hn hp] at ha;rw[kX.1 ha];exact hn
 ·rw[bP T hn hp] at ha
  rcases dZ.1 ha with rfl|h
  ·exact hn
  ·exact ih a h
theorem fO (T:Tree l):∀n,aa l n=true→∀a∈bk l n,∃t,bk l n=t++bk l a:=by
 refine kr T (fun n hn hp a ha=>?_) (fun n hn hp hq ih a ha=>?_)
 ·have h:=ha;rw[fj T hn hp] at h;rw[kX.1 h];exact⟨[],rfl⟩
 ·have h:=ha
  rw[bP T hn hp] at h
  rcases dZ.1 h with rfl|h
  ·exact⟨[],rfl⟩
  ·obtain⟨t,ht⟩:=ih a h
   exact⟨n::t,by rw[bP T hn hp,ht];rfl⟩
theorem kV (T:Tree l){a b c:Int}(hc:aa l c=true)(h1:a∈bk l b)(h2:b∈bk l c):a∈bk l c:=by
 obtain⟨t,ht⟩:=fO T c hc b h2
 rw[ht];exact List.mem_append_right _ h1
theorem Bg (T:Tree l){n a b:Int}(hn:aa l n=true)(ha:a∈bk l n)(hb:b∈bk l n)(he:(bk l a).length=(bk l b).length):a=b:=by
 obtain⟨t,ht⟩:=fO T n hn a ha
 obtain⟨s,hs⟩:=fO T n hn b hb
 rw[ht] at hs
 have h:=(List.append_inj' hs he).2
 obtain⟨r,hr⟩:=dm T (eB T n hn a ha)
 obtain⟨q,hq⟩:=dm T (eB T n hn b hb)
 rw[hr,hq] at h
 exact(List.cons.inj h).1
theorem fR (T:Tree l):∀ (m:Nat) (n:Int),aa l n=true→∀b∈cD l m n,aa l b=true∧n∈bk l b
 |0,n,_,b,hb=>by simp[cD] at hb
 | m +1,n,hn,b,hb=>by
   unfold cD at hb
   rcases dZ.1 hb with rfl|h
   ·exact⟨hn,eV T hn⟩
   ·obtain⟨k,hk,hbk⟩:=List.mem_flatMap.1 h
    have hkk:=T.kid n hn k hk
    obtain⟨h1,h2⟩:=fR T m k hkk.1 b hbk
    refine⟨h1,kV T h1 ?_ h2⟩
    rw[fQ T hn hk]
    exact gy _ (eV T hn)
theorem kW (T:Tree l):∀ (m:Nat) (n:Int),aa l n=true→(cD l m n).Nodup
 |0,_,_=>List.nodup_nil
 | m +1,n,hn=>by
   unfold cD
   refine List.nodup_cons.2 ⟨fun h=>?_,?_⟩
   ·obtain⟨k,hk,hnk⟩:=List.mem_flatMap.1 h
    have hkk:=T.kid n hn k hk
    have h1:=(fR T m k hkk.1 n hnk).2
    obtain⟨t,ht⟩:=fO T n hn k h1
    have h2:=congrArg List.length ht
    rw[fQ T hn hk] at h2
    simp at h2
    omega
   ·refine List.pairwise_flatMap.2 ⟨fun k hk=>kW T m k (T.kid n hn k hk).1,?_⟩
    refine List.Pairwise.imp_of_mem (fun{a b} ha hb hab x hx y hy e=>?_) (T.dup n hn)
    subst e
    have h1:=fR T m a (T.kid n hn a ha).1 x hx
    have h2:=fR T m b (T.kid n hn b hb).1 x hy
    refine hab (Bg T h1.1 h1.2 h2.2 ?_)
    rw[fQ T hn ha,fQ T hn hb];rfl
theorem vG:∀ (s t:List Int),t.Nodup→(∀x∈t,x∈s)→t.length≤s.length
 | [],t,_,h=>by
   cases t with
   |nil=>exact Nat.le_refl _
   |cons a r=>exact absurd (h a jC) (by simp)
 | a::s,t,hd,h=>by
   have h1:=vG s (t.erase a) (hd.erase a) (fun x hx=>by
   have h2:=(hd.mem_erase_iff).1 hx
   rcases dZ.1 (h x h2.2) with e|e
   ·exact absurd e h2.1
   ·exact e)
   have h3:t.length≤ (t.erase a).length+1:=by rw[List.length_erase];split<;>omega
   simp;omega
theorem sQ {t:List Int}{n:Nat}(hd:t.Nodup)(h:∀x∈t,0≤x∧x< (n:Int)):t.length≤n:=by
 have:=vG ((List.range n).map (fun k:Nat=>(k:Int))) t hd (fun x hx=>by
  have:=h x hx
  exact List.mem_map.2 ⟨x.toNat,List.mem_range.2 (by omega),by omega⟩)
 simpa using this
theorem lD (T:Tree l)(m:Nat){n:Int}(hn:aa l n=true):(cD l m n).length≤l.length:=
 sQ (kW T m n hn) fun x hx=>bQ (fR T m n hn x hx).1
def zy (l:List ai)(n:Int)(x:ai)(c:Int):Bool:=
 aa l c&&(decide ((nd l c).parent=n)&&(decide ((nd l c).doc=x.doc)&&(decide ((nd l c).kind=1)||(decide ((nd l c).kind=2)&&decide (x.kind≠0)))))
theorem k9 {n:Int}{x:ai}:∀ {cs pre:List Int},j9 l n x pre cs=true↔ (∀c∈cs,zy l n x c=true)∧cs.Nodup∧(∀c∈cs,c∉pre)
 |[],pre=>by simp[j9]
 | a ::r,pre=>by
   have hk:yo l n x pre a=true↔zy l n x a=true∧a∉pre:=by
    unfold yo zy tE
    simp only[bJ,Bool.or_eq_true,bH,Bool.not_eq_true',dG]
    constructor
    ·rintro⟨⟨⟨⟨h1,h2⟩,h3⟩,h4⟩,h5⟩;exact⟨⟨h1,h3,h4,h5⟩,h2⟩
    ·rintro⟨⟨h1,h3,h4,h5⟩,h2⟩;exact⟨⟨⟨⟨h1,h2⟩,h3⟩,h4⟩,h5⟩
   unfold j9
   rw[bJ,hk,k9,List.nodup_cons]
   constructor
   ·rintro⟨⟨h1,h2⟩,h3,h4,h5⟩
    refine⟨fun c hc=>?_,⟨fun h=>?_,h4⟩,fun c hc=>?_⟩
    ·rcases dZ.1 hc with rfl|h
     ·exact h1
     ·exact h3 c h
    ·exact h5 a h (by simp)
    ·rcases dZ.1 hc with rfl|h
     ·exact h2
     ·exact fun h6=>h5 c h (List.mem_append_left _ h6)
   ·rintro⟨h1,⟨h2,h3⟩,h4⟩
    refine⟨⟨h1 a jC,h4 a jC⟩,fun c hc=>h1 c (gy _ hc),h3,fun c hc h=>?_⟩
    rcases List.mem_append.1 h with h|h
    ·exact h4 c (gy _ hc) h
    ·rw[kX] at h;subst h;exact h2 hc
theorem rq {f:ForM}(h:aU f=true):∀n,aa f.nodes n=true→cQ f.nodes n (nd f.nodes n)=true:=by
 intro n hn
 obtain⟨k,x,rfl,hk,hx⟩:=bp.1 hn
 unfold aU at h
 simp only[bJ] at h
 have:=js.1 h.2.1 k x hk
 rw[hx];simpa using this
theorem sx {f:ForM}(h:aU f=true):∀n,aa f.nodes n=true→fU f.nodes f.nodes.length n=true:=by
 intro n hn
 obtain⟨k,x,rfl,hk,hx⟩:=bp.1 hn
 unfold aU at h
 simp only[bJ] at h
 simpa using js.1 h.2.2 k x hk
theorem dY {f:ForM}(h:aU f=true):Tree f.nodes:=by
 have hN:=rq h
 have hB:∀n,aa f.nodes n=true→(∀c∈ (nd f.nodes n).kids,zy f.nodes n (nd f.nodes n) c=true)∧(nd f.nodes n).kids.Nodup:=by
  intro n hn
  have h1:=hN n hn
  unfold cQ ou at h1
  simp only[bJ] at h1
  have:=k9.1 h1.2.2.2.1.1
  exact⟨this.1,this.2.1⟩
 refine⟨fun n hn hp=>?_,fun n hn k hk=>?_,fun n hn=>(hB n hn).2,fun n hn=>iJ (sx h n hn),fun n hn=>?_⟩
 ·have h1:=hN n hn
  unfold cQ rA at h1
  simp only[bJ,Bool.or_eq_true,bH] at h1
  rcases h1.2.2.1 with h2|h2
  ·exact absurd h2 hp
  ·refine⟨h2.1.1.2,?_⟩
   have:=h2.2
   unfold tE at this;simpa using this
 ·have h1:=(hB n hn).1 k hk
  unfold zy at h1
  simp only[bJ,bH] at h1
  exact⟨h1.1,h1.2.1⟩
 ·have h1:=hN n hn
  unfold cQ at h1
  simp only[bJ] at h1
  exact h1.1
end Go.Proofs.Heir
end
section
namespace Go.Proofs.Heir
open Go Go.Am Go.RowKit Go.Lib
set_option maxRecDepth 100000
set_option maxHeartbeats 8000000
@[reducible] def NK : ByteArray := ⟨⟨[100, 105, 115, 97, 98, 108, 101, 100]⟩⟩
@[reducible] def Of : ByteArray := ⟨⟨[108, 101, 103, 101, 110, 100]⟩⟩
@[reducible] def K1 : ByteArray := ⟨⟨[102, 105, 101, 108, 100, 115, 101, 116]⟩⟩
def kJ (x:ai):Bool:=decide (x.kind=1)&&decide (0≤iM x.attrs NK)
def q7 (l:List ai)(k:Int):Bool:=decide ((nd l k).kind=1)&&decide ((nd l k).name=Of)
def Hj (p:Int→Bool)(cs:List Int):Int:=if 0≤dI p cs then(cs[(dI p cs).toNat]?).getD (-1) else-1
def ux (l:List ai)(n:Int):Int:=Hj (q7 l) (nd l n).kids
def zD (l:List ai)(p b:Int):Bool:=decide ((nd l p).name=K1)&&(kJ (nd l p)&&decide (ux l p≠b))
def l7 (l:List ai):Nat→Int→Bool
 |0,_=>false
 |m+1,b=>if(nd l b).parent=-1 then false else(zD l (nd l b).parent b||l7 l m (nd l b).parent)
def jL (l:List ai)(n:Int):Bool:=kJ (nd l n)||(decide ((nd l n).kind=1)&&l7 l l.length n)
def BY (l:List ai)(a b:Int):Bool:=decide (a∈bk l b)
theorem AQ {α:Type}{p q:α→Bool}{l:List α}(h:∀x∈l,p x=q x):dI p l=dI q l:=by
 unfold dI
 rw[show l.findIdx? p=l.findIdx? q from ?_]
 induction l with
 |nil=>rfl
 | cons a r ih=>
   rw[List.findIdx?_cons,List.findIdx?_cons,h a jC,ih fun x hx=>h x (gy _ hx)]
variable {l : List ai}
theorem za (T:Tree l){n:Int}(hn:aa l n=true):(nd l n).kind=1∨((nd l n).kind≠1∧(nd l n).name=⟨#[]⟩∧(nd l n).attrs=[]):=by
 have h:=T.Jz n hn
 unfold fE at h
 by_cases e1:(nd l n).kind=1
 ·exact .inl e1
 ·right
  rw[if_neg e1] at h
  refine⟨e1,?_⟩
  split at h
  ·simp only[bJ,bH] at h
   exact⟨h.1.1.2,h.2⟩
  ·split at h
   ·simp only[bJ,bH] at h
    exact⟨h.1.1.1,h.2⟩
   ·cases h
theorem GR {x:ai}(h:kJ x=true):x.kind=1:=by
 unfold kJ at h;simp only[bJ,bH] at h;exact h.1
theorem wC (T:Tree l):∀ (m:Nat) (b:Int),gd l m b=true→(l7 l m b=true↔ ∃c∈uc l m b,(nd l c).parent≠-1∧zD l (nd l c).parent c=true)
 |0,b,h=>by simp[gd] at h
 | m +1,b,h=>by
   unfold gd at h
   unfold l7 uc
   by_cases hp:(nd l b).parent=-1
   ·rw[if_pos hp,if_pos hp]
    constructor
    ·intro h;cases h
    ·rintro⟨c,hc,h1,_⟩
     rw[kX.1 hc] at h1
     exact absurd hp h1
   ·rw[if_neg hp] at h
    rw[if_neg hp,if_neg hp,Bool.or_eq_true,wC T m _ h]
    constructor
    ·rintro(h1|⟨c,hc,h1⟩)
     ·exact⟨b,jC,hp,h1⟩
     ·exact⟨c,gy _ hc,h1⟩
    ·rintro⟨c,hc,h1,h2⟩
     rcases dZ.1 hc with rfl|hc
     ·exact .inl h2
     ·exact .inr ⟨c,hc,h1,h2⟩
end Go.Proofs.Heir
end
section
namespace Go.Proofs.Heir
open Go Go.Am Go.RowKit Go.Lib
set_option maxRecDepth 100000
set_option maxHeartbeats 8000000
def jk (g:Int→Int):Nat→Int→Bool
 |0,_=>false
 |m+1,n=>if g n=-1 then true else jk g m (g n)
def yh (g:Int→Int):Nat→Int→List Int
 |0,_=>[]
 |m+1,n=>n::if g n=-1 then[] else yh g m (g n)
theorem Db {g:Int→Int}:∀ {m k:Nat} {n:Int},jk g m n=true→m≤k→yh g k n=yh g m n∧jk g k n=true
 |0,k,n,h,_=>by simp[jk] at h
 | m +1,k,n,h,hk=>by
   obtain⟨k,rfl⟩:∃j,k=j+1:=⟨k-1,by omega⟩
   unfold jk at h ⊢
   unfold yh
   by_cases hp:g n=-1
   ·rw[if_pos hp,if_pos hp,if_pos hp];exact⟨rfl,rfl⟩
   ·rw[if_neg hp] at h
    rw[if_neg hp,if_neg hp,if_neg hp,(Db h (Nat.le_of_succ_le_succ hk)).1]
    exact⟨rfl,(Db h (Nat.le_of_succ_le_succ hk)).2⟩
theorem ND {g:Int→Int}:∀ {m:Nat} {n a:Int},jk g m n=true→a∈yh g m n→jk g m a=true∧∃t,yh g m n=t++yh g m a
 |0,n,a,h,_=>by simp[jk] at h
 | m + 1,n,a,h,ha=>by
   by_cases e:a=n
   ·subst e;exact⟨h,[],rfl⟩
   ·unfold jk at h
    unfold yh at ha
    by_cases hp:g n=-1
    ·rw[if_pos hp] at ha;exact absurd (kX.1 ha) e
    ·rw[if_neg hp] at h ha
     rcases dZ.1 ha with h1|h1
     ·exact absurd h1 e
     ·obtain⟨h2,t,ht⟩:=ND h h1
      have h3:=Db h2 (Nat.le_succ m)
      refine⟨h3.2,n::t,?_⟩
      rw[show m.succ=m+1 from rfl] at h3
      rw[h3.1,yh,if_neg hp,ht];rfl
theorem MD {g:Int→Int}:∀ {m:Nat} {n:Int},jk g m n=true→(yh g m n).Nodup
 |0,n,h=>by simp[jk] at h
 | m +1,n,h=>by
   have h0:=h
   unfold jk at h
   unfold yh
   by_cases hp:g n=-1
   ·rw[if_pos hp];simp
   ·rw[if_neg hp] at h ⊢
    refine List.nodup_cons.2 ⟨fun hin=>?_,MD h⟩
    obtain⟨h2,t,ht⟩:=ND h hin
    have h3:=(Db h2 (Nat.le_succ m)).1
    rw[show m.succ=m+1 from rfl,yh,if_neg hp,ht] at h3
    have:=congrArg List.length h3
    simp at this
    omega
theorem tY (l:List ai):∀ (m:Nat) (n:Int),fU l m n=jk (fun n=>gb (nd l n)) m n
 |0,_=>rfl
 |m+1,n=>by unfold fU jk;rw[tY l m]
def Kv (x:ai):Bool:=
 if x.kind=1 then cz x.name&&decide (nW x.name=x.name)&&(decide (x.is=⟨#[]⟩)||eL x.is)&&decide (x.data=⟨#[]⟩)&&iq x.attrs
 else decide (x.name=⟨#[]⟩)&&decide (x.is=⟨#[]⟩)&&decide (x.attrs=[])&&(decide (x.data=⟨#[]⟩)||(decide (x.kind=2)&&decide (x.data.size≤200)))
theorem Bv {x:ai}:fE x=true↔ (0≤x.kind∧x.kind≤4)∧Kv x=true:=by
 unfold fE Kv
 by_cases e1:x.kind=1
 ·rw[if_pos e1,if_pos e1]
  exact⟨fun h=>⟨by omega,h⟩,fun h=>h.2⟩
 ·rw [if_neg e1,if_neg e1]
  by_cases e2:x.kind=2
  ·rw[if_pos e2]
   simp only[bJ,Bool.or_eq_true,bH]
   constructor
   ·rintro⟨⟨⟨h1,h2⟩,h3⟩,h4⟩
    exact⟨by omega,⟨⟨h2,h3⟩,h4⟩,.inr ⟨e2,h1⟩⟩
   ·rintro⟨_,⟨⟨h2,h3⟩,h4⟩,h5⟩
    refine⟨⟨⟨?_,h2⟩,h3⟩,h4⟩
    rcases h5 with h|h
    ·rw[h];exact Nat.zero_le _
    ·exact h.2
  ·rw [if_neg e2]
   by_cases e3:x.kind=0∨x.kind=3∨x.kind=4
   ·rw[if_pos e3]
    simp only[bJ,Bool.or_eq_true,bH]
    constructor
    ·rintro⟨⟨⟨h1,h2⟩,h3⟩,h4⟩
     exact⟨by omega,⟨⟨h1,h2⟩,h4⟩,.inl h3⟩
    ·rintro⟨_,⟨⟨h1,h2⟩,h4⟩,h3|h3⟩
     ·exact⟨⟨⟨h1,h2⟩,h3⟩,h4⟩
     ·exact absurd h3.1 e2
   ·rw[if_neg e3]
    constructor
    ·intro h;cases h
    ·rintro⟨h,_⟩;omega
variable {l : List ai}
theorem I6 (h:∀n,aa l n=true→cQ l n (nd l n)=true):∀n,aa l n=true→gb (nd l n)=-1∨aa l (gb (nd l n))=true:=by
 intro n hn
 have h0:=h n hn
 unfold cQ at h0
 simp only[bJ] at h0
 obtain⟨_,_,hH,_,hS⟩:=h0
 unfold gb
 unfold rA at hH
 simp only[bJ,Bool.or_eq_true,bH] at hH
 by_cases e:(nd l n).parent=-1
 ·rw[if_pos e]
  unfold j1 at hS
  rw[bJ] at hS
  by_cases e4:(nd l n).kind=4
  ·rw[if_pos e4] at hS
   unfold nV at hS
   simp only[bJ] at hS
   exact .inr hS.1.1.1.1
  ·rw[if_neg e4] at hS
   exact .inl (by simpa using hS.1)
 ·rw[if_neg e]
  rcases hH with h|h
  ·exact absurd h e
  ·exact .inr h.1.1.2
theorem vq (p:Int→ai→Bool):n8 (fun k x=>p k x) 0 l=true↔ ∀n,aa l n=true→p n (nd l n)=true:=by
 rw[js]
 constructor
 ·intro h n hn
  obtain⟨k,x,rfl,hk,hx⟩:=bp.1 hn
  have:=h k x hk
  rw[hx];simpa using this
 ·intro h k x hk
  have:=h k (eF hk)
  rw[fZ hk] at this
  simpa using this
end Go.Proofs.Heir
end
namespace Go.Proofs.Heir
open Go Go.Am Go.RowKit Go.Lib
set_option maxRecDepth 100000
set_option maxHeartbeats 8000000
def EV (x:ai):List Int:=(if x.under=-1 then[] else[x.under])++x.kids
namespace U
def gd (l:List ai):Nat→Int→Bool
 |0,_=>false
 |m+1,n=>if(gb (nd l n))=-1 then true else gd l m (gb (nd l n))
def uc (l:List ai):Nat→Int→List Int
 |0,_=>[]
 |m+1,n=>n::if(gb (nd l n))=-1 then[] else uc l m (gb (nd l n))
def cD (l:List ai):Nat→Int→List Int
 |0,_=>[]
 |m+1,n=>n::(EV (nd l n)).flatMap (cD l m)
def bk (l:List ai)(n:Int):List Int:=uc l l.length n
theorem iJ {l:List ai}:∀ {m:Nat} {n:Int},fU l m n=true→gd l m n=true
 |0,n,h=>by simp[fU] at h
 | m+1,n,h=>by
   unfold gd;unfold fU at h
   by_cases hp:gb (nd l n)=-1
   ·rw[if_pos hp]
   ·rw[if_neg hp] at h ⊢;exact iJ h
theorem ua (l:List ai):∀ (m:Nat) (n:Int),(uc l m n).length≤m
 |0,_=>Nat.le_refl _
 | m +1,n=>by
   unfold uc
   split
   ·simp
   ·have:=ua l m (gb (nd l n))
    simp;omega
theorem pH {l:List ai}:∀ {m k:Nat} {n:Int},gd l m n=true→m≤k→uc l k n=uc l m n
 |0,k,n,h,_=>by simp[gd] at h
 | m +1,k,n,h,hk=>by
   obtain⟨k,rfl⟩:∃j,k=j+1:=⟨k-1,by omega⟩
   unfold gd at h
   unfold uc
   by_cases hp:(gb (nd l n))=-1
   ·rw[if_pos hp,if_pos hp]
   ·rw[if_neg hp] at h
    rw[if_neg hp,if_neg hp,pH h (by omega)]
structure Tree (l:List ai):Prop where
 par:∀n,aa l n=true→(gb (nd l n))≠-1→aa l (gb (nd l n))=true∧n∈ (EV (nd l (gb (nd l n))))
 kid:∀n,aa l n=true→∀k∈ (EV (nd l n)),aa l k=true∧(gb (nd l k))=n
 dup:∀n,aa l n=true→(EV (nd l n)).Nodup
 fin:∀n,aa l n=true→gd l l.length n=true
variable {l : List ai}
theorem kr (T:Tree l){P:Int→Prop}(h0:∀n,aa l n=true→(gb (nd l n))=-1→P n)(h1:∀n,aa l n=true→(gb (nd l n))≠-1→aa l (gb (nd l n))=true→P (gb (nd l n))→P n):∀n,aa l n=true→P n:=by
 have H:∀ (m:Nat) (n:Int),aa l n=true→gd l m n=true→P n:=by
  intro m
  induction m with
  |zero=>intro n _ h;simp[gd] at h
  | succ m ih=>
    intro n hn h
    unfold gd at h
    by_cases hp:(gb (nd l n))=-1
    ·exact h0 n hn hp
    ·rw[if_neg hp] at h
     have hq:=(T.par n hn hp).1
     exact h1 n hn hp hq (ih _ hq h)
 exact fun n hn=>H _ n hn (T.fin n hn)
theorem fj (T:Tree l){n:Int}(hn:aa l n=true)(hp:(gb (nd l n))=-1):bk l n=[n]:=by
 have:=bQ hn
 obtain⟨m,hm⟩:∃m,l.length=m+1:=⟨l.length-1,by omega⟩
 unfold bk;rw[hm];unfold uc;rw[if_pos hp]
theorem bP (T:Tree l){n:Int}(hn:aa l n=true)(hp:(gb (nd l n))≠-1):bk l n=n::bk l (gb (nd l n)):=by
 have:=bQ hn
 obtain⟨m,hm⟩:∃m,l.length=m+1:=⟨l.length-1,by omega⟩
 have hf:=T.fin n hn
 unfold bk;rw[hm] at hf ⊢
 unfold gd at hf
 rw[if_neg hp] at hf
 rw[uc,if_neg hp,pH hf (Nat.le_succ m)]
theorem fQ (T:Tree l){n k:Int}(hn:aa l n=true)(hk:k∈ (EV (nd l n))):bk l k=k::bk l n:=by
 have h:=T.kid n hn k hk
 have h0:=bQ hn
 have hp:(gb (nd l k))≠-1:=by rw[h.2];omega
 rw[bP T h.1 hp,h.2]
theorem dm (T:Tree l){n:Int}(hn:aa l n=true):∃r,bk l n=n::r:=by
 by_cases hp:(gb (nd l n))=-1
 ·exact⟨[],fj T hn hp⟩
 ·exact⟨_,bP T hn hp⟩
theorem eV (T:Tree l){n:Int}(hn:aa l n=true):n∈bk l n:=by
 obtain⟨r,hr⟩:=dm T hn;rw[hr];exact jC
theorem xn (n:Int):(bk l n).length≤l.length:=ua l _ n
theorem eB (T:Tree l):∀n,aa l n=true→∀a∈bk l n,aa l a=true:=by
 refine kr T (fun n hn hp a ha=>?_) (fun n hn hp hq ih a ha=>?_)
 ·rw[fj T hn hp] at ha;rw[kX.1 ha];exact hn
 ·rw[bP T hn hp] at ha
  rcases dZ.1 ha with rfl|h
  ·exact hn
  ·exact ih a h
theorem fO (T:Tree l):∀n,aa l n=true→∀a∈bk l n,∃t,bk l n=t++bk l a:=by
 refine kr T (fun n hn hp a ha=>?_) (fun n hn hp hq ih a ha=>?_)
 ·have h:=ha;rw[fj T hn hp] at h;rw[kX.1 h];exact⟨[],rfl⟩
 ·have h:=ha
  rw[bP T hn hp] at h
  rcases dZ.1 h with rfl|h
  ·exact⟨[],rfl⟩
  ·obtain⟨t,ht⟩:=ih a h
   exact⟨n::t,by rw[bP T hn hp,ht];rfl⟩
theorem kV (T:Tree l){a b c:Int}(hc:aa l c=true)(h1:a∈bk l b)(h2:b∈bk l c):a∈bk l c:=by
 obtain⟨t,ht⟩:=fO T c hc b h2
 rw[ht];exact List.mem_append_right _ h1
theorem Bg (T:Tree l){n a b:Int}(hn:aa l n=true)(ha:a∈bk l n)(hb:b∈bk l n)(he:(bk l a).length=(bk l b).length):a=b:=by
 obtain⟨t,ht⟩:=fO T n hn a ha
 obtain⟨s,hs⟩:=fO T n hn b hb
 rw[ht] at hs
 have h:=(List.append_inj' hs he).2
 obtain⟨r,hr⟩:=dm T (eB T n hn a ha)
 obtain⟨q,hq⟩:=dm T (eB T n hn b hb)
 rw[hr,hq] at h
 exact(List.cons.inj h).1
theorem fR (T:Tree l):∀ (m:Nat) (n:Int),aa l n=true→∀b∈cD l m n,aa l b=true∧n∈bk l b
 |0,n,_,b,hb=>by simp[cD] at hb
 | m +1,n,hn,b,hb=>by
   unfold cD at hb
   rcases dZ.1 hb with rfl|h
   ·exact⟨hn,eV T hn⟩
   ·obtain⟨k,hk,hbk⟩:=List.mem_flatMap.1 h
    have hkk:=T.kid n hn k hk
    obtain⟨h1,h2⟩:=fR T m k hkk.1 b hbk
    refine⟨h1,kV T h1 ?_ h2⟩
    rw[fQ T hn hk]
    exact gy _ (eV T hn)
theorem kW (T:Tree l):∀ (m:Nat) (n:Int),aa l n=true→(cD l m n).Nodup
 |0,_,_=>List.nodup_nil
 | m +1,n,hn=>by
   unfold cD
   refine List.nodup_cons.2 ⟨fun h=>?_,?_⟩
   ·obtain⟨k,hk,hnk⟩:=List.mem_flatMap.1 h
    have hkk:=T.kid n hn k hk
    have h1:=(fR T m k hkk.1 n hnk).2
    obtain⟨t,ht⟩:=fO T n hn k h1
    have h2:=congrArg List.length ht
    rw[fQ T hn hk] at h2
    simp at h2
    omega
   ·refine List.pairwise_flatMap.2 ⟨fun k hk=>kW T m k (T.kid n hn k hk).1,?_⟩
    refine List.Pairwise.imp_of_mem (fun{a b} ha hb hab x hx y hy e=>?_) (T.dup n hn)
    subst e
    have h1:=fR T m a (T.kid n hn a ha).1 x hx
    have h2:=fR T m b (T.kid n hn b hb).1 x hy
    refine hab (Bg T h1.1 h1.2 h2.2 ?_)
    rw[fQ T hn ha,fQ T hn hb];rfl
theorem lD (T:Tree l)(m:Nat){n:Int}(hn:aa l n=true):(cD l m n).length≤l.length:=
 sQ (kW T m n hn) fun x hx=>bQ (fR T m n hn x hx).1
theorem dY {f:ForM}(h:aU f=true):Tree f.nodes:=by
 have hN:=rq h
 have T:=Heir.dY h
 have kidK:∀n,aa f.nodes n=true→∀c∈ (nd f.nodes n).kids,(nd f.nodes c).kind=1∨(nd f.nodes c).kind=2:=by
  intro n hn c hc
  have h1:=hN n hn
  unfold cQ ou at h1
  simp only[bJ] at h1
  have h2:=(k9.1 h1.2.2.2.1.1).1 c hc
  unfold zy at h2
  simp only[bJ,Bool.or_eq_true,bH] at h2
  rcases h2.2.2.2 with h3|h3
  ·exact .inl h3
  ·exact .inr h3.1
 have und:∀n,aa f.nodes n=true→(nd f.nodes n).under≠-1→aa f.nodes (nd f.nodes n).under=true∧(nd f.nodes (nd f.nodes n).under).kind=4∧(nd f.nodes (nd f.nodes n).under).host=n:=by
  intro n hn hu
  have h1:=hN n hn
  unfold cQ j1 nV at h1
  simp only[bJ,Bool.or_eq_true,bH] at h1
  rcases h1.2.2.2.2.2 with h2|h2
  ·exact absurd h2 hu
  ·exact⟨h2.1.2.1,h2.1.2.2,h2.2⟩
 have top4:∀n,aa f.nodes n=true→(nd f.nodes n).kind=4→(nd f.nodes n).parent=-1:=by
  intro n hn hk
  have h1:=hN n hn
  unfold cQ rA at h1
  simp only[bJ,Bool.or_eq_true,bH] at h1
  rcases h1.2.2.1 with h2|h2
  ·exact h2
  ·rcases h2.1.1.1 with h3|h3<;>(rw[hk] at h3;cases h3)
 have mem:∀ (x:ai) (k:Int),k∈EV x↔ (x.under≠-1∧k=x.under)∨k∈x.kids:=by
  intro x k
  unfold EV
  rw[List.mem_append]
  by_cases hu:x.under=-1
  ·simp[hu]
  ·simp[hu]
 refine⟨fun n hn hp=>?_,fun n hn k hk=>?_,fun n hn=>?_,fun n hn=>iJ (sx h n hn)⟩
 ·unfold gb at hp ⊢
  by_cases hq:(nd f.nodes n).parent=-1
  ·rw[if_pos hq] at hp ⊢
   have h1:=hN n hn
   unfold cQ j1 at h1
   simp only[bJ] at h1
   have h2:=h1.2.2.2.2.1
   by_cases hk:(nd f.nodes n).kind=4
   ·rw[if_pos hk] at h2
    unfold nV at h2
    simp only[bJ,bH] at h2
    refine⟨h2.1.1.1,(mem _ _).2 (.inl ⟨?_,h2.1.2.symm⟩)⟩
    rw[h2.1.2]
    have:=bQ hn
    omega
   ·rw[if_neg hk] at h2
    exact absurd (by simpa using h2) hp
  ·rw[if_neg hq]
   have h1:=T.par n hn hq
   exact⟨h1.1,(mem _ _).2 (.inr h1.2)⟩
 ·have hn0:=bQ hn
  rcases(mem _ _).1 hk with⟨h1,rfl⟩|h1
  ·obtain⟨h2,h3,h4⟩:=und n hn h1
   exact⟨h2,by unfold gb;rw[if_pos (top4 _ h2 h3)];exact h4⟩
  ·obtain⟨h2,h3⟩:=T.kid n hn k h1
   exact⟨h2,by unfold gb;rw[if_neg (by rw[h3];omega)];exact h3⟩
 ·unfold EV
  by_cases hu:(nd f.nodes n).under=-1
  ·rw[if_pos hu];exact T.dup n hn
  ·rw[if_neg hu]
   refine List.nodup_cons.2 ⟨fun hm=>?_,T.dup n hn⟩
   have h1:=(und n hn hu).2.1
   rcases kidK n hn _ hm with h2|h2<;>(rw[h1] at h2;cases h2)
end U
theorem jR.take {rb rs:List AV}{off len off' len' bytes:Nat}{acc:Tk}{sl:SL}{m:ML}{A:List AV→Tk→SL→ML→Prop}(rows0 news:List AV)(h0:off=0∧len≤rb.length∧rows0=rb.take len)(h1:off'=0∧len'=rs.length∧news=rs)(h2:lX (flat news)=true)
  (h3:(rows0.length+news.length)*bytes≤140737488355328) (h4:rows0.length+news.length≤9223372036854775807) (h:A (rows0++news) acc sl m):jR rb off len rs off' len' bytes acc sl m (A:=A):=by
 obtain⟨rfl,hl,rfl⟩:=h0
 obtain⟨rfl,rfl,rfl⟩:=h1
 exact⟨_,_,by omega,by simp,by omega,by simp,h2,h3,h4,h⟩
theorem fo {α β:Type}{f g:α→List β}:∀ {l:List α},(∀a∈l,f a=g a)→l.flatMap f=l.flatMap g
 |[],_=>rfl
 |a::r,h=>by rw[List.flatMap_cons,List.flatMap_cons,h a jC,fo fun b hb=>h b (gy _ hb)]
namespace U
variable {l : List ai}
theorem nc (T:Tree l):∀ (m:Nat) (n:Int),aa l n=true→l.length+1≤m+ (bk l n).length→cD l (m+1) n=cD l m n
 |0,n,_,h=>by have:=xn (l:=l) n;omega
 | m+1,n,hn,h=>by
   rw[cD,cD]
   congr 1
   refine fo fun k hk=>?_
   refine nc T m k (T.kid n hn k hk).1 ?_
   rw[fQ T hn hk];simp;omega
theorem ord_eq (T:Tree l){n:Int}(hn:aa l n=true):cD l l.length n=n::(EV (nd l n)).flatMap (cD l l.length):=by
 have h0:=bQ hn
 obtain⟨m,hm⟩:∃m,l.length=m+1:=⟨l.length-1,by omega⟩
 have h1:∀k∈EV (nd l n),cD l l.length k=cD l m k:=fun k hk=>by
  rw[hm]
  refine nc T m k (T.kid n hn k hk).1 ?_
  obtain⟨r,hr⟩:=dm T hn
  rw[fQ T hn hk,hr];simp;omega
 conv=>lhs;rw[hm,cD]
 congr 1
 exact fo fun k hk=>(h1 k hk).symm
def rest (l:List ai)(st:List Int):List Int:=st.reverse.flatMap (cD l l.length)
theorem sM (T:Tree l){st:List Int}{t:Int}(ht:aa l t=true):rest l (st++ [t])=t::rest l (st++ (EV (nd l t)).reverse):=by
 unfold rest
 rw[List.reverse_append,List.reverse_append,List.reverse_reverse]
 simp only[List.reverse_cons,List.reverse_nil,List.nil_append,List.cons_append,List.flatMap_cons,List.flatMap_append]
 rw[ord_eq T ht];rfl
theorem tO (T:Tree l):∀ {st:List Int},(∀c∈st,aa l c=true)→st.length≤ (rest l st).length:=by
 intro st h
 unfold rest
 have:∀s:List Int,(∀c∈s,aa l c=true)→s.length≤ (s.flatMap (cD l l.length)).length:=by
  intro s
  induction s with
  |nil=>intro _;exact Nat.le_refl _
  | cons a r ih=>
    intro h
    have h1:=ih fun c hc=>h c (gy _ hc)
    rw[List.flatMap_cons,j7,ord_eq T (h a jC),List.length_cons,List.length_cons]
    omega
 have:=this st.reverse fun c hc=>h c (by simpa using hc)
 simpa using this
end U

end Go.Proofs.Heir
