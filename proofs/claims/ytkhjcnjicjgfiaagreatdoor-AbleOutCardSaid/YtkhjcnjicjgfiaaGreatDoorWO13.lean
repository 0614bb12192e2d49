/- Models, plain laws and contracts of functions of the given program; conditions as stated in each theorem. By an AI agent. -/
import Derived.Test.YtkhjcnjicjgfiaaGreatDoorWO12
set_option linter.unusedSimpArgs false
set_option linter.unusedVariables false
namespace Go.Proofs.Heir
open Go Go.Am Go.RowKit Go.Lib
set_option maxRecDepth 100000
set_option maxHeartbeats 8000000
def Ai (s:ByteArray):AV:=cu s
@[reducible] def CY (l : List ByteArray) : AV := .sl 1 (l.map Ai)
@[reducible] def Kj (l : List ByteArray) : MS := .live 1 (l.map Ai) false
theorem ou (l:List ByteArray):br (l.map Ai)=true:=by
 rw[cO];intro x hx
 obtain⟨a,_,rfl⟩:=List.mem_map.1 hx
 rfl
theorem E3 {l:List ByteArray}{k:Nat}{a:ByteArray}(h:l[k]? =some a):(l.map Ai)[k]? =some (cu a):=by rw[fH,h];rfl
theorem DN (l:List ByteArray):jC [Kj l]:=⟨bD.ia fun r hr=>by obtain⟨a,_,rfl⟩:=List.mem_map.1 hr;rfl,ou l,trivial⟩
theorem Fq {m:ML}{fz:Nat→Bool}{tab:List (Nat×Nat)}{n t len:Nat}{ro:Bool}{rows:List AV}{l:List ByteArray}(h1:dX m t=.live 1 rows ro)(h2:fz t=true)(h3:rows=l.map Ai)(h4:len=l.length):xU m fz (MF tab fz m n) (CY l) t 0 len:=by
 subst h3;subst h4
 have e:(l.map Ai).length=l.length:=cj ..
 exact .cut h1 h2 (by omega) (by rw[List.drop_zero,qB (by omega)]) (ou l)
theorem ID (l:List ByteArray)(hl:l.length≤100000)(s:ByteArray):an Tryz.prog 223 [] [CY l,cu s] [] (aj (eC (fun x=>decide (x=s)) l)):=by
 have hlm:(l.map Ai).length=l.length:=cj ..
 refine an.aF (rvs:=[.tmp 4]) G au Tryz.func223 rfl Tryz.ntmps223 rfl rfl ?_;with_reducible refine wD ?_
 refine cn.use G au (fun(k:Nat)=>[(0,CY l),(1,cu s),(7,aj l.length),(8,aj k)]) (fun _=>[]) (fun k=>k≤l.length∧∀j x,j<k→l[j]? =some x→decide (x=s)=false) (fun k=>l.length-k) 0 ⟨Nat.zero_le _,fun j x h=>by omega⟩
  ⟨⟨rfl,rfl⟩,⟨rfl,rfl,by show(l.length:Int)=((l.map Ai).length:Int);rw[hlm],rfl,trivial⟩,trivial⟩ ?_
 rintro k ⟨hk,hno⟩
 with_reducible refine wK ?_
 refine bk.mk (fun h1=>?_) (fun h1=>?_)<;>(try simp only[ay] at h1)<;>with_reducible refine wK ?_
 ·simp only[bO] at h1
  have hk':k<l.length:=by omega
  obtain⟨a,ha⟩:∃a,l[k]? =some a:=⟨_,bz hk'⟩
  refine aG.mk k (cu a) rfl (E3 ha) ?_;with_reducible refine wK ?_
  refine bk.mk (fun h2=>?_) (fun h2=>?_)<;>(try simp only[ay] at h2)<;>with_reducible refine wK ?_
  ·(refine eK ?_ ?_<;>with_reducible repeat' (first|exact trivial|(show _∧_;refine aK ?_ ?_)))
   refine fO (p:=fun x=>decide (x=s)) ha ?_ hno
   simp only[bO] at h2 ⊢;exact h2.symm
  ·refine nK ?_;with_reducible refine wK ?_
   refine cm.mk (k+1) ⟨by omega,fun j x hj hx=>?_⟩ (by omega) ⟨⟨rfl,rfl⟩,⟨rfl,rfl,rfl,by show((k+1:Nat):Int)=(k:Int)+1;omega,trivial⟩,trivial⟩
   rcases Nat.lt_or_ge j k with h3|h3
   ·exact hno j x h3 hx
   ·have:j=k:=by omega
    subst this
    rw[ha] at hx;cases hx
    simp only[dh] at h2 ⊢;exact fun e=>h2 e.symm
 ·(refine eK ?_ ?_<;>with_reducible repeat' (first|exact trivial|(show _∧_;refine aK ?_ ?_)))
  exact jj fun j x hx=>hno j x (by have:=(bg hx).1;simp only[dh] at h1;omega) hx
def DC (l:List ByteArray)(s:ByteArray):Bool:=l.any fun x=>decide (x=s)
theorem GB {l:List ByteArray}{s:ByteArray}:DC l s=true↔s∈l:=by
 unfold DC;rw[List.any_eq_true]
 exact⟨fun⟨x,hx,e⟩=>by rw[←of_decide_eq_true e];exact hx,fun h=>⟨s,h,dV rfl⟩⟩
theorem Fp {l:List ByteArray}{s:ByteArray}:decide (0≤eC (fun x=>decide (x=s)) l)=DC l s:=by
 rw[Bool.eq_iff_iff,bO,GB]
 unfold eC
 cases h:l.findIdx? (fun x=>decide (x=s)) with
 | none=>
   rw[List.findIdx?_eq_none_iff] at h
   simp only
   refine⟨fun h'=>by omega,fun hs=>?_⟩
   have:=h s hs
   simp at this
 | some k=>
   rw[List.findIdx?_eq_some_iff_getElem] at h
   obtain⟨hk,h2,_⟩:=h
   simp only
   exact⟨fun _=>by rw[←of_decide_eq_true h2];exact List.getElem_mem hk,fun _=>by omega⟩
theorem Ja (l:List ByteArray)(hl:l.length≤100000)(s:ByteArray):an Tryz.prog 207 [] [CY l,cu s] [] (bB (DC l s)):=by
 rw[←Fp]
 refine an.aF (rvs:=[.tmp 4]) G au Tryz.func207 rfl Tryz.ntmps207 rfl rfl ?_;with_reducible refine wD ?_
 refine cL (ID l hl s) MD ?_;with_reducible refine wK ?_
 (refine eK ?_ ?_<;>with_reducible repeat' (first|exact trivial|(show _∧_;refine aK ?_ ?_)))
def xS (l:List UInt8):ByteArray:=⟨l.toArray⟩
def n3:List ByteArray:=[xS [97,110,110,111,116,97,116,105,111,110,45,120,109,108],xS [99,111,108,111,114,45,112,114,111,102,105,108,101],xS [102,111,110,116,45,102,97,99,101],xS [102,111,110,116,45,102,97,99,101,45,115,114,99],
 xS [102,111,110,116,45,102,97,99,101,45,117,114,105],xS [102,111,110,116,45,102,97,99,101,45,102,111,114,109,97,116],xS [102,111,110,116,45,102,97,99,101,45,110,97,109,101],xS [109,105,115,115,105,110,103,45,103,108,121,112,104]]
theorem IU:an Tryz.prog 208 [] [] [Kj n3] (.own 0 0 8):=by
 refine an.aF (rvs:=[.tmp 0]) G au Tryz.func208 rfl Tryz.ntmps208 rfl rfl ?_;with_reducible refine wD ?_
 (refine eK ?_ ?_<;>with_reducible repeat' (first|exact trivial|(show _∧_;refine aK ?_ ?_)))
 all_goals first|rfl|exact bP (ou n3)
theorem Iz (s:ByteArray)(c:UInt8):an Tryz.prog 206 [] [cu s,cu ⟨#[c]⟩] [] (bB (decide (0≤Lib.indexByte s.data.toList c))):=
 an.iN (vs:=[.string s,.string ⟨#[c]⟩]) (v:=.bool _) fun w _=>(Go.Proofs.Tryz.strings_Contains_one s c w).mono fun e w' ⟨h1,h2⟩=>⟨h1,by rw[h2];exact Below.refl _ w⟩
theorem Eg (s:ByteArray)(a b:Nat):s.extract a b=strOf ((s.data.toList.take b).drop a):=by
 obtain⟨l,rfl⟩:∃l:List UInt8,s=⟨l.toArray⟩:=⟨s.data.toList,by obtain⟨⟨l⟩⟩:=s;rfl⟩
 rw[ByteArray.extract_mk]
 unfold strOf
 rw[List.drop_take]
@[reducible] def MX : List UInt8 := [97, 32, 98, 32, 98, 117, 116, 116, 111, 110, 32, 100, 105, 118, 32, 102, 105, 101, 108, 100, 115, 101, 116, 32, 102, 111, 114, 109, 32, 105, 32, 105, 110, 112, 117, 116, 32, 108, 97, 98, 101, 108, 32, 108, 101, 103, 101, 110, 100, 32, 108, 105, 32, 111, 112, 116, 105, 111, 110, 32, 111, 117, 116, 112, 117, 116, 32, 112, 32, 115, 101, 108, 101, 99, 116, 32, 115, 112, 97, 110, 32, 116, 101, 109, 112, 108, 97, 116, 101, 32, 116, 101, 120, 116, 97, 114, 101, 97, 32, 117, 108]
def Mo:List ByteArray:=(Lib.fields MX).map xS
@[reducible] def Dy : List UInt8 := [97, 110, 110, 111, 116, 97, 116, 105, 111, 110, 45, 120, 109, 108, 32, 99, 111, 108, 111, 114, 45, 112, 114, 111, 102, 105, 108, 101, 32, 102, 111, 110, 116, 45, 102, 97, 99, 101, 32, 102, 111, 110, 116, 45, 102, 97, 99, 101, 45, 115, 114, 99, 32, 102, 111, 110, 116, 45, 102, 97, 99, 101, 45, 117, 114, 105, 32, 102, 111, 110, 116, 45, 102, 97, 99, 101, 45, 102, 111, 114, 109, 97, 116, 32, 102, 111, 110, 116, 45, 102, 97, 99, 101, 45, 110, 97, 109, 101, 32, 109, 105, 115, 115, 105, 110, 103, 45, 103, 108, 121, 112, 104]
def Fs (l:List UInt8):Bool:=l.any (fun b=>decide (b=45))
def CH (l:List UInt8):Bool:=l.any (fun b=>mg (b.toNat:Int))
def Aj:List UInt8→Bool
 |[]=>false
 |b::_=>j5 (b.toNat:Int)
def jO (s:ByteArray):Bool:=bH s&&(Aj s.data.toList&&(!CH s.data.toList&&(Fs s.data.toList&& !DC n3 s)))
theorem Be (l:List UInt8):decide (0≤Lib.indexByte l 45)=Fs l:=by
 rw[Bool.eq_iff_iff,bO]
 unfold Fs
 rw[List.any_eq_true]
 constructor
 ·intro h
  obtain⟨o,ho⟩:∃o:Nat,Lib.indexByte l 45=o:=⟨(Lib.indexByte l 45).toNat,by omega⟩
  obtain⟨h1,_⟩:=Lib.indexByte_some ho
  exact⟨45,bT h1,rfl⟩
 ·rintro⟨b,hb,e⟩
  have:=of_decide_eq_true e;subst this
  rcases Int.lt_or_le (Lib.indexByte l 45) 0 with h|h
  ·have:Lib.indexByte l 45=-1:=by have:=Lib.indexByte_ge l 45;omega
   obtain⟨k,hk⟩:=List.getElem?_of_mem hb
   exact absurd hk (Lib.indexByte_none this k)
  ·exact h
theorem vi (p:Nat→Bool)(s:ByteArray)(hs:∀b∈s.data.toList,b.toNat<128):∀ (f pos:Nat),s.size≤pos+f→(0≤idxFuncFrom p true s f pos↔ ∃i,pos≤i∧∃b,s.data.toList[i]? =some b∧p b.toNat=true)
 | 0,pos,h=>by
   have:¬ (0:Int)≤idxFuncFrom p true s 0 pos:=by simp[idxFuncFrom]
   refine⟨fun h'=>absurd h' this,?_⟩
   rintro⟨i,h1,b,h2,_⟩
   have:=(bg h2).1
   have:i<s.size:=this
   omega
 | f + 1,pos,h=>by
   by_cases hp:pos<s.size
   ·have ih:=vi p s hs f
    obtain⟨b,hb1,hb2⟩:∃b,s.data.toList[pos]? =some b∧s.get! pos=b:=⟨_,bz hp,by show s.data[pos]! =_;rw[getElem!_pos s.data pos hp];rfl⟩
    have hb3:=hs b (bT hb1)
    unfold idxFuncFrom
    rw[if_pos hp,decode_at,hb2]
    have hd:∀n b1 b2 b3,decodeN n b.toNat b1 b2 b3=(b.toNat,1):=fun n b1 b2 b3=>by rw[decodeN,if_pos hb3]
    rw[hd]
    show(0:Int)≤ (if p b.toNat=true then(pos:Int) else idxFuncFrom p true s f (pos+1))↔_
    cases hpb:p b.toNat with
    |true=>exact⟨fun _=>⟨pos,Nat.le_refl _,b,hb1,hpb⟩,fun _=>by simp⟩
    | false=>
      rw[if_neg (by simp),ih (pos+1) (by omega)]
      constructor
      ·rintro⟨i,h3,h4⟩;exact⟨i,by omega,h4⟩
      ·rintro⟨i,h3,b',h4,h5⟩
       rcases Nat.lt_or_ge pos i with h6|h6
       ·exact⟨i,h6,b',h4,h5⟩
       ·have:i=pos:=by omega
        subst this
        rw[hb1] at h4;cases h4
        rw[hpb] at h5;cases h5
   ·rw[idxFuncFrom_end _ _ _ _ _ hp]
    refine⟨fun h'=>by omega,?_⟩
    rintro⟨i,h1,b,h2,_⟩
    have:=(bg h2).1
    have:i<s.size:=this
    omega
theorem AG {s:ByteArray}(h:bH s=true):∀b∈s.data.toList,b.toNat<128:=by
 intro b hb
 unfold bH qZ at h
 simp only[bQ,List.all_eq_true] at h
 have:=h.1.2 b hb
 unfold om jx j5 mg at this
 simp only[jK,bQ,bO] at this
 omega
theorem Bq {s:ByteArray}(h:bH s=true):decide (0≤idxFunc (fun r=>mg (r:Int)) true s)=CH s.data.toList:=by
 rw[Bool.eq_iff_iff,bO]
 unfold CH
 rw[List.any_eq_true]
 have:=vi (fun r=>mg (r:Int)) s (AG h) s.size 0 (by omega)
 refine Iff.trans this ⟨?_,?_⟩
 ·rintro⟨i,_,b,h1,h2⟩;exact⟨b,bT h1,h2⟩
 ·rintro⟨b,h1,h2⟩
  obtain⟨i,hi⟩:=List.getElem?_of_mem h1
  exact⟨i,Nat.zero_le _,b,hi,h2⟩
theorem JL (s:ByteArray)(h:bH s=true):an Tryz.prog 185 [] [cu s,.lit (.func (.func 179) #[] #[])] [] (bB (CH s.data.toList)):=by
 rw[←Bq h]
 exact an.iN (vs:=[.string s,.func (.func 179) #[] #[]]) fun w ht=>uQ 179 JK (fun r=>mg (r:Int)) s w ht fun W x ht _=>(pE (x:Int)).below (vs:=[.int .i32 (x:Int)]) W ht
theorem Ae {s:ByteArray}(h:bH s=true):∃b r,s.data.toList=b::r:=by
 unfold bH qZ at h
 simp only[bQ,bO] at h
 obtain⟨b,r,e,_⟩:=u7 h.1.1.1
 exact⟨b,r,e⟩
theorem C3 (s:ByteArray):an Tryz.prog 174 [] [cu s] [] (bB (jO s)):=by
 refine an.aF (rvs:=[.tmp 2]) G au Tryz.func174 rfl Tryz.ntmps174 rfl rfl ?_;with_reducible refine wD ?_
 refine cL (sw s) FL ?_;with_reducible refine wK ?_
 unfold jO
 cases hr:bH s with
 | false=>
   repeat' (first
  |refine aE ?_ ?_
  |((with_reducible show bk _ _ _ _);first|refine iK ?_|(refine bk.mk (fun _=>?_) (fun _=>?_)<;>with_reducible refine wK ?_))
  | apply trivial)
   all_goals rfl
 | true=>
   obtain⟨b,r,hb⟩:=Ae hr
   have hb0:s.data.toList[0]? =some b:=by rw[hb];rfl
   have hlf:Aj s.data.toList=j5 (b.toNat:Int):=by rw[hb];rfl
   have hda:=Be s.data.toList
   have f25:=Iz s 45
   rw[hda] at f25
   refine bk.tt ?_;with_reducible refine wK ?_
   refine vn.mk 0 b rfl hb0 ?_;with_reducible refine wK ?_
   refine cT.int (by kernel_rfl) (by kernel_rfl) (Ga _) ?_;with_reducible refine wK ?_
   refine cL (xY _) KS ?_;with_reducible refine wK ?_
   repeat' (first
  |refine aE ?_ ?_
  |((with_reducible show bk _ _ _ _);first|refine iK ?_|(refine bk.mk (fun _=>?_) (fun _=>?_)<;>with_reducible refine wK ?_))
  |((with_reducible refine kQ 185 ?_);refine cL (JL s hr) MW ?_;with_reducible refine wK ?_)
  |((with_reducible refine kQ 206 ?_);refine cL f25 Nn ?_;with_reducible refine wK ?_)
  |((with_reducible refine kQ 208 ?_);refine aa.new 211 [] IU MV trivial rfl rfl rfl (DN n3) rfl ?_;with_reducible refine wK ?_)
  |((with_reducible refine kQ 207 ?_);refine aa.lit [211] (Ja n3 (by decide) s) Me ⟨Fq rfl rfl rfl rfl,rfl,trivial⟩ rfl rfl ?_;with_reducible refine wK ?_)
  | apply trivial)
   all_goals (rw[hlf];clear hb hb0 hda f25 hlf;rw[show s.data.toList=s.1.1 from rfl];simp_all)

def bV (n:Int):AV:=aj n
def Gl (n:Int):Value:=.int .i64 n
@[reducible] def cF (l : List Int) : AV := .sl 1 (l.map bV)
theorem bK {l:List Int}{k:Nat}{x:Int}(h:l[k]? =some x):(l.map bV)[k]? =some (aj x):=by rw[fH,h];rfl
structure ai where
 kind:Int
 name:ByteArray
 is:ByteArray
 data:ByteArray
 attrs:List AttrM
 parent:Int
 kids:List Int
 host:Int
 under:Int
 doc:Int
structure ForM where
 nodes:List ai
 most:Int
def FW:ai:=⟨0,⟨#[]⟩,⟨#[]⟩,⟨#[]⟩,[],0,[],0,0,0⟩
def nd (l:List ai)(n:Int):ai:=(l[n.toNat]?).getD FW
def af (l:List ai)(n:Int):Bool:=decide (0≤n)&&decide (n< (l.length:Int))
def jY (l:List ai)(n k:Int):Bool:=af l n&&decide ((nd l n).kind=k)
def eN (k:Int):Bool:=decide (k=0)||decide (k=1)||decide (k=3)||decide (k=4)
def me (l:List Int)(n:Int):Bool:=decide (n∈l)
def c8 (x:ai):Int:=if x.parent=-1 then x.host else x.parent
def uc (l:List ai)(n:Int)(x:ai):Bool:=jY l x.doc 0&&(decide (x.kind≠0)||decide (x.doc=n))
def rG (l:List ai)(n:Int)(x:ai):Bool:=decide (x.parent=-1)||((decide (x.kind=1)||decide (x.kind=2))&&af l x.parent&&eN (nd l x.parent).kind&&me (nd l x.parent).kids n)
def zZ (l:List ai)(n:Int)(x:ai)(pre:List Int)(c:Int):Bool:=
 af l c&& !me pre c&&decide ((nd l c).parent=n)&&decide ((nd l c).doc=x.doc)&&(decide ((nd l c).kind=1)||(decide ((nd l c).kind=2)&&decide (x.kind≠0)))
def j8 (l:List ai)(n:Int)(x:ai):List Int→List Int→Bool
 |_,[]=>true
 |pre,c::r=>zZ l n x pre c&&j8 l n x (pre++ [c]) r
def cZ (l:List ai)(cs:List Int):Nat:=cs.countP (fun c=>decide ((nd l c).kind=1))
def oS (l:List ai)(n:Int)(x:ai):Bool:=
 j8 l n x [] x.kids&&((eN x.kind||decide (x.kids=[]))&&(decide (x.kind≠0)||decide (cZ l x.kids≤1)))
def jT (l:List ai)(n:Int)(x:ai):Bool:=
 (if x.kind=4 then jY l x.host 1&&decide ((nd l x.host).under=n)&&decide ((nd l x.host).doc=x.doc) else decide (x.host=-1))&&
 (decide (x.under=-1)||(decide (x.kind=1)&&jY l x.under 4&&decide ((nd l x.under).host=n)))
def fE (l:List ai):Nat→Int→Bool
 |0,_=>false
 |m+1,n=>if c8 (nd l n)=-1 then true else fE l m (c8 (nd l n))
def fq (x:ai):Bool:=
 if x.kind=1 then bH x.name&&decide (fR x.name=x.name)&&(decide (x.is=⟨#[]⟩)||jO x.is)&&decide (x.data=⟨#[]⟩)&&cE x.attrs
 else if x.kind=2 then decide (x.data.size≤200)&&decide (x.name=⟨#[]⟩)&&decide (x.is=⟨#[]⟩)&&decide (x.attrs=[])
 else if x.kind=0∨x.kind=3∨x.kind=4 then decide (x.name=⟨#[]⟩)&&decide (x.is=⟨#[]⟩)&&decide (x.data=⟨#[]⟩)&&decide (x.attrs=[])
 else false
def dx (l:List ai)(n:Int)(x:ai):Bool:=fq x&&(uc l n x&&(rG l n x&&(oS l n x&&jT l n x)))
def oV (f:ForM):Bool:=decide (1≤f.most)&&decide (f.most≤400)&&decide (1≤f.nodes.length)&&decide ((f.nodes.length:Int)≤f.most)&&decide ((nd f.nodes 0).kind=0)
def n7 {α:Type}(p:Nat→α→Bool):Nat→List α→Bool
 |_,[]=>true
 |i,x::r=>p i x&&n7 p (i+1) r
def aX (f:ForM):Bool:=oV f&&(n7 (fun k x=>dx f.nodes k x) 0 f.nodes&&n7 (fun k _=>fE f.nodes f.nodes.length k) 0 f.nodes)
def tJ (f:ForM):Bool:=decide (f.nodes.length≤60)&&f.nodes.all (fun x=>decide (x.kids.length≤60)&&decide (x.attrs.length≤60)&&decide (x.name.size≤300))
structure bE (l:List ai):Prop where
 len:l.length≤64
 kids:∀x∈l,x.kids.length≤60
 attrs:∀x∈l,x.attrs.length≤60
 name:∀x∈l,x.name.size≤300
theorem xQ {f:ForM}(h:tJ f=true):bE f.nodes:=by
 unfold tJ at h
 simp only[bQ,bO,List.all_eq_true] at h
 obtain⟨h1,h2⟩:=h
 exact⟨by omega,fun x hx=>(h2 x hx).1.1,fun x hx=>(h2 x hx).1.2,fun x hx=>(h2 x hx).2⟩
theorem cz {l:List ai}{k:Nat}{x:ai}(h:l[k]? =some x):nd l (k:Int)=x:=by unfold nd;rw[Int.toNat_natCast,h];rfl
theorem dM {l:List ai}{k:Nat}{x:ai}(h:l[k]? =some x):af l (k:Int)=true:=by
 unfold af
 have:=(bg h).1
 simp;omega
theorem aU {l:List ai}{n:Int}:af l n=true↔ ∃ (k:Nat) (x:ai),n=(k:Int)∧l[k]? =some x∧nd l n=x:=by
 constructor
 ·intro h
  unfold af at h
  simp only[bQ,bO] at h
  have hk:n.toNat<l.length:=by omega
  have hn:n=(n.toNat:Int):=by omega
  refine⟨n.toNat,l[n.toNat],hn,bz hk,?_⟩
  unfold nd;rw[bz hk];rfl
 ·rintro⟨k,x,rfl,h,_⟩
  exact dM h
theorem jn {α:Type}{p:Nat→α→Bool}:∀ {i:Nat} {l:List α},n7 p i l=true↔ ∀k x,l[k]? =some x→p (i+k) x=true
 |i,[]=>by simp[n7]
 | i,a::r=>by
   simp only[n7,bQ,jn (i:=i+1) (l:=r)]
   constructor
   ·rintro⟨h1,h2⟩ k x hx
    cases k with
    |zero=>simp at hx;subst hx;exact h1
    |succ k=>have:=h2 k x (by simpa using hx);rw[show i+ (k+1)=i+1+k from by omega];exact this
   ·intro h
    refine⟨h 0 a rfl,fun k x hx=>?_⟩
    have:=h (k+1) x (by simpa using hx)
    rw[show i+1+k=i+ (k+1) from by omega];exact this
@[reducible] def az (x : ai) : AV := .agg [aj x.kind, cu x.name, cu x.is, cu x.data, dG x.attrs, aj x.parent, cF x.kids, aj x.host, aj x.under, aj x.doc]
def bJ (x:ai):AV:=az x
@[reducible] def rE (l : List ai) : AV := .sl 10 (l.map bJ)
@[reducible] def aY (f : ForM) : AV := .agg [rE f.nodes, aj f.most]
theorem ah {l:List ai}{k:Nat}{x:ai}(h:l[k]? =some x):(l.map bJ)[k]? =some (az x):=by rw[fH,h];rfl
theorem xB (f:ForM)(n:Int):an Tryz.prog 129 [] [aY f,aj n] [] (bB (af f.nodes n)):=by
 obtain⟨l,m⟩:=f
 have hlm:(l.map bJ).length=l.length:=cj ..
 refine an.aF (rvs:=[.tmp 4]) G au Tryz.func129 rfl Tryz.ntmps129 rfl rfl ?_;with_reducible refine wD ?_
 by_cases h:(0:Int)≤n
 ·(have fct:=h;(repeat' (first
  |refine gF ?_|refine aE ?_ ?_
  |apply trivial));all_goals clear fct)
  all_goals simp[af,h]
 ·(have fct:=(eq_false h);(repeat' (first
  |refine gF ?_|refine aE ?_ ?_
  |apply trivial));all_goals clear fct)
  all_goals simp[af,h]
theorem Cp (k:Int):an Tryz.prog 175 [] [aj k] [] (bB (eN k)):=by
 refine an.aF (rvs:=[.tmp 2]) G au Tryz.func175 rfl Tryz.ntmps175 rfl rfl ?_;with_reducible refine wD ?_
 by_cases e0:k=0
 ·(have fct:=e0;(repeat' (first
  |refine gF ?_|refine aE ?_ ?_
  |apply trivial));all_goals clear fct)
  all_goals simp[eN,e0]
 ·by_cases e1:k=1
  ·(have fct:=e1;(repeat' (first
  |refine gF ?_|refine aE ?_ ?_
  | apply trivial));all_goals clear fct)
   all_goals simp[eN,e1]
  ·by_cases e3:k=3
   ·(have fct:=e3;(repeat' (first
  |refine gF ?_|refine aE ?_ ?_
  | apply trivial));all_goals clear fct)
    all_goals simp[eN,e3]
   ·by_cases e4:k=4
    ·(have fct:=e4;(repeat' (first
  |refine gF ?_|refine aE ?_ ?_
  | apply trivial));all_goals clear fct)
     all_goals simp[eN,e4]
    ·(have fct:=And.intro e0 (And.intro e1 (And.intro e3 (e4)));(repeat' (first
  |refine gF ?_|refine aE ?_ ?_
  |apply trivial));all_goals clear fct)
     all_goals simp[eN,e0,e1,e3,e4]
theorem xj (f:ForM)(n k:Int):an Tryz.prog 136 [] [aY f,aj n,aj k] [] (bB (jY f.nodes n k)):=by
 have h49:=xB f n
 obtain⟨l,m⟩:=f
 refine an.aF (rvs:=[.tmp 6]) G au Tryz.func136 rfl Tryz.ntmps136 rfl rfl ?_;with_reducible refine wD ?_
 refine cL h49 xy ?_;with_reducible refine wK ?_
 cases ht:af l n with
 | false=>
   (have fct:=ht;(repeat' (first
  |refine gF ?_|refine aE ?_ ?_
  | apply trivial));all_goals clear fct)
   all_goals simp[jY,ht]
 | true=>
   obtain⟨i,x,rfl,hx,hnd⟩:=aU.1 ht
   obtain⟨a1,a2,a3,a4,a5,a6,a7,a8,a9,a10⟩:=x
   (have fct:=ht;(repeat' (first
  |refine gF ?_|refine aE ?_ ?_
  |((refine aG.mk i (az _) rfl (ah hx) ?_)<;>with_reducible refine wK ?_)
  | apply trivial));all_goals clear fct)
   all_goals simp[jY,ht,hnd]
theorem tW (l:List Int)(hl:l.length≤100000)(n:Int):an Tryz.prog 73 [] [cF l,aj n] [] (aj (eC (fun x=>decide (x=n)) l)):=by
 have hlm:(l.map bV).length=l.length:=cj ..
 refine an.aF (rvs:=[.tmp 4]) G au Tryz.func73 rfl Tryz.ntmps73 rfl rfl ?_;with_reducible refine wD ?_
 refine cn.use G au (fun(k:Nat)=>[(0,cF l),(1,aj n),(7,aj l.length),(8,aj k)]) (fun _=>[]) (fun k=>k≤l.length∧∀j x,j<k→l[j]? =some x→decide (x=n)=false) (fun k=>l.length-k) 0 ⟨Nat.zero_le _,fun j x h=>by omega⟩
  ⟨⟨rfl,rfl⟩,⟨rfl,rfl,by show(l.length:Int)=((l.map bV).length:Int);rw[hlm],rfl,trivial⟩,trivial⟩ ?_
 rintro k ⟨hk,hno⟩
 with_reducible refine wK ?_
 refine bk.mk (fun h1=>?_) (fun h1=>?_)<;>(try simp only[ay] at h1)<;>with_reducible refine wK ?_
 ·have hk':k<l.length:=by simp only[bO] at h1;omega
  obtain⟨a,ha⟩:∃a,l[k]? =some a:=⟨_,bz hk'⟩
  refine aG.mk k (aj a) rfl (bK ha) ?_;with_reducible refine wK ?_
  refine bk.mk (fun h2=>?_) (fun h2=>?_)<;>(try simp only[ay] at h2)<;>with_reducible refine wK ?_
  ·(refine eK ?_ ?_<;>with_reducible repeat' (first|exact trivial|(show _∧_;refine aK ?_ ?_)))
   refine fO (p:=fun x=>decide (x=n)) ha ?_ hno
   simp only[bO] at h2 ⊢;exact h2.symm
  ·refine nK ?_;with_reducible refine wK ?_
   refine cm.mk (k+1) ⟨by omega,fun j x hj hx=>?_⟩ (by omega) ⟨⟨rfl,rfl⟩,⟨rfl,rfl,rfl,by show((k+1:Nat):Int)=(k:Int)+1;omega,trivial⟩,trivial⟩
   rcases Nat.lt_or_ge j k with h3|h3
   ·exact hno j x h3 hx
   ·have:j=k:=by omega
    subst this
    rw[ha] at hx;cases hx
    simp only[dh] at h2 ⊢;exact fun e=>h2 e.symm
 ·(refine eK ?_ ?_<;>with_reducible repeat' (first|exact trivial|(show _∧_;refine aK ?_ ?_)))
  exact jj fun j x hx=>hno j x (by have:=(bg hx).1;simp only[dh] at h1;omega) hx
theorem Gd {l:List Int}{n:Int}:decide (0≤eC (fun x=>decide (x=n)) l)=me l n:=by
 rw[Bool.eq_iff_iff,bO]
 unfold me
 rw[bO]
 unfold eC
 cases h:l.findIdx? (fun x=>decide (x=n)) with
 | none=>
   rw[List.findIdx?_eq_none_iff] at h
   simp only
   refine⟨fun h'=>by omega,fun hs=>?_⟩
   have:=h n hs
   simp at this
 | some k=>
   rw[List.findIdx?_eq_some_iff_getElem] at h
   obtain⟨hk,h2,_⟩:=h
   simp only
   exact⟨fun _=>by rw[←of_decide_eq_true h2];exact List.getElem_mem hk,fun _=>by omega⟩
theorem IX (l:List Int)(hl:l.length≤100000)(n:Int):an Tryz.prog 176 [] [cF l,aj n] [] (bB (me l n)):=by
 rw[←Gd]
 refine an.aF (rvs:=[.tmp 4]) G au Tryz.func176 rfl Tryz.ntmps176 rfl rfl ?_;with_reducible refine wD ?_
 refine cL (tW l hl n) Ju ?_;with_reducible refine wK ?_
 (refine eK ?_ ?_<;>with_reducible repeat' (first|exact trivial|(show _∧_;refine aK ?_ ?_)))
theorem Jj (f:ForM)(k:Nat)(x:ai)(hx:f.nodes[k]? =some x):an Tryz.prog 177 [] [aY f,aj k] [] (aj (c8 x)):=by
 obtain⟨l,m⟩:=f
 obtain⟨a1,a2,a3,a4,a5,a6,a7,a8,a9,a10⟩:=x
 refine an.aF (rvs:=[.tmp 4]) G au Tryz.func177 rfl Tryz.ntmps177 rfl rfl ?_;with_reducible refine wD ?_
 refine aG.mk k (az _) rfl (ah hx) ?_;with_reducible refine wK ?_
 unfold c8
 by_cases e:a6=-1
 ·(have fct:=e;(repeat' (first
  |refine gF ?_|refine aE ?_ ?_
  |((refine aG.mk k (az _) rfl (ah hx) ?_)<;>with_reducible refine wK ?_)
  |apply trivial));all_goals clear fct)
  all_goals simp[e]
 ·(have fct:=(eq_false e);(repeat' (first
  |refine gF ?_|refine aE ?_ ?_
  |((refine aG.mk k (az _) rfl (ah hx) ?_)<;>with_reducible refine wK ?_)
  |apply trivial));all_goals clear fct)
  all_goals simp[e]
theorem Ih (f:ForM)(k:Nat)(x:ai)(hx:f.nodes[k]? =some x):an Tryz.prog 116 [] [aY f,aj k] [] (bB (uc f.nodes k x)):=by
 have h55:=xj f x.doc 0
 obtain⟨l,m⟩:=f
 obtain⟨a1,a2,a3,a4,a5,a6,a7,a8,a9,a10⟩:=x
 unfold uc
 simp only at h55 hx ⊢
 refine an.aF (rvs:=[.tmp 4]) G au Tryz.func116 rfl Tryz.ntmps116 rfl rfl ?_;with_reducible refine wD ?_
 refine aG.mk k (az _) rfl (ah hx) ?_;with_reducible refine wK ?_
 refine cL h55 qg ?_;with_reducible refine wK ?_
 cases hi:jY l a10 0 with
 | false=>
   (have fct:=hi;(repeat' (first
  |refine gF ?_|refine aE ?_ ?_
  | apply trivial));all_goals clear fct)
   all_goals simp[hi]
 | true=>
   by_cases e:a1=0
   ·(have fct:=And.intro hi (e);(repeat' (first
  |refine gF ?_|refine aE ?_ ?_
  | apply trivial));all_goals clear fct)
    all_goals simp[hi,e]
   ·(have fct:=And.intro hi ((eq_false e));(repeat' (first
  |refine gF ?_|refine aE ?_ ?_
  | apply trivial));all_goals clear fct)
    all_goals simp[hi,e]
theorem I8 (f:ForM)(hs:bE f.nodes)(k:Nat)(x:ai)(hx:f.nodes[k]? =some x):an Tryz.prog 117 [] [aY f,aj k] [] (bB (rG f.nodes k x)):=by
 have h49:=xB f x.parent
 have h56:=Cp (nd f.nodes x.parent).kind
 have h57:af f.nodes x.parent=true→an Tryz.prog 176 [] [cF (nd f.nodes x.parent).kids,aj k] [] (bB (me (nd f.nodes x.parent).kids k)):=fun ht=>by
  obtain⟨i,y,_,hy,hnd⟩:=aU.1 ht
  rw[hnd]
  exact IX y.kids (by have:=hs.kids y (bT hy);omega) k
 obtain⟨l,m⟩:=f
 obtain⟨a1,a2,a3,a4,a5,a6,a7,a8,a9,a10⟩:=x
 unfold rG
 simp only at h49 h56 h57 hx ⊢
 refine an.aF (rvs:=[.tmp 4]) G au Tryz.func117 rfl Tryz.ntmps117 rfl rfl ?_;with_reducible refine wD ?_
 refine aG.mk k (az _) rfl (ah hx) ?_;with_reducible refine wK ?_
 by_cases e6:a6=-1
 ·(have fct:=e6;(repeat' (first
  |refine gF ?_|refine aE ?_ ?_
  |apply trivial));all_goals clear fct)
  all_goals simp[e6]
 ·refine bk.no (by simp[e6]) ?_;with_reducible refine wK ?_
  have rest:∀b:Bool,(decide (a1=1)||decide (a1=2))=b→(b=false∨b=true):=fun b _=>by cases b<;>simp
  cases ht:af l a6 with
  | false=>
    by_cases e1:a1=1
    ·(have fct:=And.intro e1 (And.intro ht ((eq_false e6)));(repeat' (first
  |refine gF ?_|refine aE ?_ ?_
  |(((with_reducible refine kQ 129 ?_);refine cL h49 xy ?_)<;>with_reducible refine wK ?_)
  | apply trivial));all_goals clear fct)
     all_goals simp[e1,ht,e6]
    ·by_cases e2:a1=2
     ·(have fct:=And.intro e2 (And.intro ht ((eq_false e6)));(repeat' (first
  |refine gF ?_|refine aE ?_ ?_
  |(((with_reducible refine kQ 129 ?_);refine cL h49 xy ?_)<;>with_reducible refine wK ?_)
  |apply trivial));all_goals clear fct)
      all_goals simp[e2,ht,e6]
     ·(have fct:=And.intro (eq_false e1) (And.intro (eq_false e2) (And.intro ht ((eq_false e6))));(repeat' (first
  |refine gF ?_|refine aE ?_ ?_
  |apply trivial));all_goals clear fct)
      all_goals simp[e1,e2,ht,e6]
  | true=>
    obtain⟨i,y,rfl,hy,hnd⟩:=aU.1 ht
    have h57':=h57 ht
    rw[hnd] at h56 h57' ⊢
    obtain⟨b1,b2,b3,b4,b5,b6,b7,b8,b9,b10⟩:=y
    simp only at h56 h57'
    cases hh:eN b1 with
    | false=>
      by_cases e1:a1=1
      ·(have fct:=And.intro e1 (And.intro ht (And.intro hh ((eq_false e6))));(repeat' (first
  |refine gF ?_|refine aE ?_ ?_
  | ((first
   |((with_reducible refine kQ 129 ?_);refine cL h49 xy ?_)
   |((with_reducible refine kQ 175 ?_);refine cL h56 Eo ?_)
   |(refine aG.mk i (az _) rfl (ah hy) ?_))<;>with_reducible refine wK ?_)
  |apply trivial));all_goals clear fct)
       all_goals simp[e1,ht,e6,hh]
      ·by_cases e2:a1=2
       ·(have fct:=And.intro e2 (And.intro ht (And.intro hh ((eq_false e6))));(repeat' (first
  |refine gF ?_|refine aE ?_ ?_
  | ((first
   |((with_reducible refine kQ 129 ?_);refine cL h49 xy ?_)
   |((with_reducible refine kQ 175 ?_);refine cL h56 Eo ?_)
   |(refine aG.mk i (az _) rfl (ah hy) ?_))<;>with_reducible refine wK ?_)
  |apply trivial));all_goals clear fct)
        all_goals simp[e2,ht,e6,hh]
       ·(have fct:=And.intro (eq_false e1) (And.intro (eq_false e2) (And.intro ht (And.intro hh ((eq_false e6)))));(repeat' (first
  |refine gF ?_|refine aE ?_ ?_
  | apply trivial));all_goals clear fct)
        all_goals simp[e1,e2,ht,e6]
    | true=>
      by_cases e1:a1=1
      ·(have fct:=And.intro e1 (And.intro ht (And.intro hh ((eq_false e6))));(repeat' (first
  |refine gF ?_|refine aE ?_ ?_
  | ((first
   |((with_reducible refine kQ 129 ?_);refine cL h49 xy ?_)
   |((with_reducible refine kQ 175 ?_);refine cL h56 Eo ?_)
   |((with_reducible refine kQ 176 ?_);refine cL h57' K0 ?_)
   |(refine aG.mk i (az _) rfl (ah hy) ?_))<;>with_reducible refine wK ?_)
  |apply trivial));all_goals clear fct)
       all_goals simp[e1,ht,e6,hh]
      ·by_cases e2:a1=2
       ·(have fct:=And.intro e2 (And.intro ht (And.intro hh ((eq_false e6))));(repeat' (first
  |refine gF ?_|refine aE ?_ ?_
  | ((first
   |((with_reducible refine kQ 129 ?_);refine cL h49 xy ?_)
   |((with_reducible refine kQ 175 ?_);refine cL h56 Eo ?_)
   |((with_reducible refine kQ 176 ?_);refine cL h57' K0 ?_)
   |(refine aG.mk i (az _) rfl (ah hy) ?_))<;>with_reducible refine wK ?_)
  |apply trivial));all_goals clear fct)
        all_goals simp[e2,ht,e6,hh]
       ·(have fct:=And.intro (eq_false e1) (And.intro (eq_false e2) (And.intro ht (And.intro hh ((eq_false e6)))));(repeat' (first
  |refine gF ?_|refine aE ?_ ?_
  |apply trivial));all_goals clear fct)
        all_goals simp[e1,e2,ht,e6]
theorem BH (l:List ai)(m:Nat)(n:Int):fE l (m+1) n=if c8 (nd l n)=-1 then true else fE l m (c8 (nd l n)):=rfl
theorem IL (f:ForM)(hl:f.nodes.length≤100000)(hup:∀ (k:Nat) (x:ai),f.nodes[k]? =some x→c8 x=-1∨af f.nodes (c8 x)=true)(k:Nat)(hk:k<f.nodes.length):an Tryz.prog 120 [] [aY f,aj k] [] (bB (fE f.nodes f.nodes.length k)):=by
 have h58:=Jj f
 obtain⟨l,m⟩:=f
 simp only at h58 hup hk hl ⊢
 have hlm:(l.map bJ).length=l.length:=cj ..
 refine an.aF (rvs:=[.tmp 4]) G au Tryz.func120 rfl Tryz.ntmps120 rfl rfl ?_;with_reducible refine wD ?_
 refine cn.use G au (fun(i:Nat×Nat)=>[(1,aj i.2),(2,.ptr 20 0 0),(8,aj l.length),(9,aj i.1)]) (fun _=>[(20,.live 2 [aY ⟨l,m⟩] false)]) (fun i=>i.1≤l.length∧i.2<l.length∧fE l l.length k=fE l (l.length-i.1) i.2) (fun i=>l.length-i.1) (0,k) ⟨Nat.zero_le _,hk,rfl⟩
  ⟨⟨rfl,rfl⟩,⟨rfl,⟨rfl,rfl⟩,by show(l.length:Int)=((l.map bJ).length:Int);rw[hlm],rfl,trivial⟩,⟨⟨rfl,rfl,trivial⟩,trivial⟩,trivial⟩ ?_
 rintro⟨i,j⟩ ⟨hi,hj,he⟩
 simp only at hi hj he
 with_reducible refine wK ?_
 refine bk.mk (fun h1=>?_) (fun h1=>?_)<;>(try simp only[ay] at h1)<;>with_reducible refine wK ?_
 ·have hi':i<l.length:=by simp only[bO] at h1;omega
  obtain⟨x,hx⟩:∃x,l[j]? =some x:=⟨_,bz hj⟩
  have h58':=h58 j x hx
  refine cL h58' L8 ?_;with_reducible refine wK ?_
  rw[show l.length-i=(l.length- (i+1))+1 from by omega] at he
  rw[BH,cz hx] at he
  by_cases e:c8 x=-1
  ·rw[if_pos e] at he
   (have fct:=e;(repeat' (first
  |refine gF ?_|refine aE ?_ ?_
  | apply trivial));all_goals clear fct)
   all_goals rw[he]
  ·rw[if_neg e] at he
   rcases hup j x hx with h|h
   ·exact absurd h e
   obtain⟨j',y,hj1,hj2,_⟩:=aU.1 h
   rw[hj1] at he
   have hlt:=(bg hj2).1
   refine bk.no (bY e) ?_;with_reducible refine wK ?_
   refine nK ?_;with_reducible refine wK ?_
   refine cm.mk (i+1,j') ⟨by show i+1≤l.length;omega,hlt,he⟩ (by show l.length- (i+1)<l.length-i;omega) ⟨⟨rfl,rfl⟩,⟨hj1.symm,⟨rfl,rfl⟩,rfl,by show((i+1:Nat):Int)=(i:Int)+1;omega,trivial⟩,⟨⟨rfl,rfl,trivial⟩,trivial⟩,trivial⟩
 ·(refine eK ?_ ?_<;>with_reducible repeat' (first|exact trivial|(show _∧_;refine aK ?_ ?_)))
  have:i=l.length:=by simp only[dh] at h1;omega
  rw[he,this,Nat.sub_self];rfl
theorem uH {l:List ai}{n k:Int}(h:jY l n k=true):∃ (i:Nat) (x:ai),n=(i:Int)∧l[i]? =some x∧nd l n=x:=by
 unfold jY at h
 simp only[bQ] at h
 exact aU.1 h.1
theorem IT (f:ForM)(k:Nat)(x:ai)(hx:f.nodes[k]? =some x):an Tryz.prog 119 [] [aY f,aj k] [] (bB (jT f.nodes k x)):=by
 have h1:=xj f x.host 1
 have h4:=xj f x.under 4
 obtain⟨l,m⟩:=f
 obtain⟨a1,a2,a3,a4,a5,a6,a7,a8,a9,a10⟩:=x
 unfold jT
 simp only at h1 h4 hx ⊢
 refine an.aF (rvs:=[.tmp 4]) G au Tryz.func119 rfl Tryz.ntmps119 rfl rfl ?_;with_reducible refine wD ?_
 refine aG.mk k (az _) rfl (ah hx) ?_;with_reducible refine wK ?_
 by_cases e4:a1=4
 ·have e1:¬a1=1:=by omega
  refine bk.yes (by simp[e4]) ?_;with_reducible refine wK ?_
  rw[if_pos e4]
  cases hi:jY l a8 1 with
  | false=>
    rw[hi] at h1
    by_cases e9:a9=-1
    ·(have fct:=And.intro e4 (e9);(repeat' (first
  |refine gF ?_|refine aE ?_ ?_
  |(((with_reducible refine kQ 136 ?_);refine cL h1 qg ?_)<;>with_reducible refine wK ?_)
  | apply trivial));all_goals clear fct)
     all_goals simp[e9]
    ·(have fct:=And.intro e4 (And.intro (eq_false e9) ((eq_false e1)));(repeat' (first
  |refine gF ?_|refine aE ?_ ?_
  |(((with_reducible refine kQ 136 ?_);refine cL h1 qg ?_)<;>with_reducible refine wK ?_)
  |apply trivial));all_goals clear fct)
     all_goals simp[e9,e1]
  | true=>
    rw[hi] at h1
    obtain⟨i,y,rfl,hy,hnd⟩:=uH hi
    rw[hnd]
    obtain⟨b1,b2,b3,b4,b5,b6,b7,b8,b9,b10⟩:=y
    by_cases e9:a9=-1
    ·by_cases u9:b9=k
     ·by_cases u10:b10=a10
      ·(have fct:=And.intro e4 (And.intro e9 (And.intro u9 (u10)));(repeat' (first
  |refine gF ?_|refine aE ?_ ?_
  | ((first
   |((with_reducible refine kQ 136 ?_);refine cL h1 qg ?_)
   |(refine aG.mk i (az _) rfl (ah hy) ?_))<;>with_reducible refine wK ?_)
  |apply trivial));all_goals clear fct)
       all_goals simp[e9,u9,u10]
      ·(have fct:=And.intro e4 (And.intro e9 (And.intro u9 ((eq_false u10))));(repeat' (first
  |refine gF ?_|refine aE ?_ ?_
  | ((first
   |((with_reducible refine kQ 136 ?_);refine cL h1 qg ?_)
   |(refine aG.mk i (az _) rfl (ah hy) ?_))<;>with_reducible refine wK ?_)
  |apply trivial));all_goals clear fct)
       all_goals simp[e9,u9,u10]
     ·(have fct:=And.intro e4 (And.intro e9 ((eq_false u9)));(repeat' (first
  |refine gF ?_|refine aE ?_ ?_
  | ((first
   |((with_reducible refine kQ 136 ?_);refine cL h1 qg ?_)
   |(refine aG.mk i (az _) rfl (ah hy) ?_))<;>with_reducible refine wK ?_)
  | apply trivial));all_goals clear fct)
      all_goals simp[e9,u9]
    ·by_cases u9:b9=k
     ·by_cases u10:b10=a10
      ·(have fct:=And.intro e4 (And.intro (eq_false e9) (And.intro (eq_false e1) (And.intro u9 (u10))));(repeat' (first
  |refine gF ?_|refine aE ?_ ?_
  | ((first
   |((with_reducible refine kQ 136 ?_);refine cL h1 qg ?_)
   |(refine aG.mk i (az _) rfl (ah hy) ?_))<;>with_reducible refine wK ?_)
  |apply trivial));all_goals clear fct)
       all_goals simp[e9,e1,u9,u10]
      ·(have fct:=And.intro e4 (And.intro (eq_false e9) (And.intro (eq_false e1) (And.intro u9 ((eq_false u10)))));(repeat' (first
  |refine gF ?_|refine aE ?_ ?_
  | ((first
   |((with_reducible refine kQ 136 ?_);refine cL h1 qg ?_)
   |(refine aG.mk i (az _) rfl (ah hy) ?_))<;>with_reducible refine wK ?_)
  |apply trivial));all_goals clear fct)
       all_goals simp[e9,e1,u9,u10]
     ·(have fct:=And.intro e4 (And.intro (eq_false e9) (And.intro (eq_false e1) ((eq_false u9))));(repeat' (first
  |refine gF ?_|refine aE ?_ ?_
  | ((first
   |((with_reducible refine kQ 136 ?_);refine cL h1 qg ?_)
   |(refine aG.mk i (az _) rfl (ah hy) ?_))<;>with_reducible refine wK ?_)
  |apply trivial));all_goals clear fct)
      all_goals simp[e9,e1,u9]
 ·refine bk.no (by simp[e4]) ?_;with_reducible refine wK ?_
  rw[if_neg e4]
  by_cases e8:a8=-1
  ·by_cases e9:a9=-1
   ·(have fct:=And.intro (eq_false e4) (And.intro e8 (e9));(repeat' (first
  |refine gF ?_|refine aE ?_ ?_
  | apply trivial));all_goals clear fct)
    all_goals simp[e9,e8]
   ·by_cases e1:a1=1
    ·cases hu:jY l a9 4 with
     | false=>
       rw[hu] at h4
       (have fct:=And.intro (eq_false e4) (And.intro e8 (And.intro (eq_false e9) (e1)));(repeat' (first
  |refine gF ?_|refine aE ?_ ?_
  |(((with_reducible refine kQ 136 ?_);refine cL h4 qg ?_)<;>with_reducible refine wK ?_)
  |apply trivial));all_goals clear fct)
       all_goals simp[e9,e8,e1]
     | true=>
       rw[hu] at h4
       obtain⟨j,z,rfl,hz,hnd⟩:=uH hu
       rw[hnd]
       obtain⟨d1,d2,d3,d4,d5,d6,d7,d8,d9,d10⟩:=z
       (have fct:=And.intro (eq_false e4) (And.intro e8 (And.intro (eq_false e9) (e1)));(repeat' (first
  |refine gF ?_|refine aE ?_ ?_
  | ((first
   |((with_reducible refine kQ 136 ?_);refine cL h4 qg ?_)
   |(refine aG.mk j (az ⟨d1,d2,d3,d4,d5,d6,d7,d8,d9,d10⟩) rfl (ah hz) ?_))<;>with_reducible refine wK ?_)
  | apply trivial));all_goals clear fct)
       all_goals simp[e9,e8,e1]
    ·(have fct:=And.intro (eq_false e4) (And.intro e8 (And.intro (eq_false e9) ((eq_false e1))));(repeat' (first
  |refine gF ?_|refine aE ?_ ?_
  |apply trivial));all_goals clear fct)
     all_goals simp[e9,e8,e1]
  ·by_cases e9:a9=-1
   ·(have fct:=And.intro (eq_false e4) (And.intro (eq_false e8) (e9));(repeat' (first
  |refine gF ?_|refine aE ?_ ?_
  | apply trivial));all_goals clear fct)
    all_goals simp[e9,e8]
   ·by_cases e1:a1=1
    ·cases hu:jY l a9 4 with
     | false=>
       rw[hu] at h4
       (have fct:=And.intro (eq_false e4) (And.intro (eq_false e8) (And.intro (eq_false e9) (e1)));(repeat' (first
  |refine gF ?_|refine aE ?_ ?_
  |(((with_reducible refine kQ 136 ?_);refine cL h4 qg ?_)<;>with_reducible refine wK ?_)
  |apply trivial));all_goals clear fct)
       all_goals simp[e9,e8,e1]
     | true=>
       rw[hu] at h4
       obtain⟨j,z,rfl,hz,hnd⟩:=uH hu
       rw[hnd]
       obtain⟨d1,d2,d3,d4,d5,d6,d7,d8,d9,d10⟩:=z
       (have fct:=And.intro (eq_false e4) (And.intro (eq_false e8) (And.intro (eq_false e9) (e1)));(repeat' (first
  |refine gF ?_|refine aE ?_ ?_
  | ((first
   |((with_reducible refine kQ 136 ?_);refine cL h4 qg ?_)
   |(refine aG.mk j (az ⟨d1,d2,d3,d4,d5,d6,d7,d8,d9,d10⟩) rfl (ah hz) ?_))<;>with_reducible refine wK ?_)
  | apply trivial));all_goals clear fct)
       all_goals simp[e9,e8,e1]
    ·(have fct:=And.intro (eq_false e4) (And.intro (eq_false e8) (And.intro (eq_false e9) ((eq_false e1))));(repeat' (first
  |refine gF ?_|refine aE ?_ ?_
  |apply trivial));all_goals clear fct)
     all_goals simp[e9,e8,e1]
theorem Jv (x:ai)(hx:x.attrs.length≤100000):an Tryz.prog 115 [] [az x] [] (bB (fq x)):=by
 have h45:=o3 x.name
 have h54:=C3 x.is
 have h44:=CD x.attrs hx
 obtain⟨a1,a2,a3,a4,a5,a6,a7,a8,a9,a10⟩:=x
 have hlm:(a5.map dI).length=a5.length:=cj ..
 unfold fq
 simp only at h45 h54 h44 hx ⊢
 refine an.aF (rvs:=[.tmp 2]) G au Tryz.func115 rfl Tryz.ntmps115 rfl rfl ?_;with_reducible refine wD ?_
 by_cases e1:a1=1
 ·rw [if_pos e1]
  cases hr:bH a2 with
  | false=>
    rw[hr] at h45
    simp only[Bool.false_eq_true,if_false] at h45
    (have fct:=And.intro e1 (hr);(repeat' (first
  |refine gF ?_|refine aE ?_ ?_
  |(((with_reducible refine kQ 67 ?_);refine cL h45 CB ?_)<;>with_reducible refine wK ?_)
  | apply trivial));all_goals clear fct)
    all_goals simp[hr]
  | true=>
    rw[hr] at h45
    simp only[if_true] at h45
    by_cases hl:fR a2=a2
    ·by_cases h3:a3=⟨#[]⟩
     ·by_cases h4:a4=⟨#[]⟩
      ·(have fct:=And.intro e1 (And.intro hr (And.intro hl (And.intro h3 (h4))));(repeat' (first
  |refine gF ?_|refine aE ?_ ?_
  | ((first
   |((with_reducible refine kQ 67 ?_);refine cL h45 CB ?_)
   |((with_reducible refine kQ 131 ?_);refine cL h44 HV ?_))<;>with_reducible refine wK ?_)
  |apply trivial));all_goals clear fct)
       all_goals simp[hr,hl,h3,h4]
      ·(have fct:=And.intro e1 (And.intro hr (And.intro hl (And.intro h3 ((eq_false h4)))));(repeat' (first
  |refine gF ?_|refine aE ?_ ?_
  |(((with_reducible refine kQ 67 ?_);refine cL h45 CB ?_)<;>with_reducible refine wK ?_)
  |apply trivial));all_goals clear fct)
       all_goals simp[hr,hl,h3,h4]
     ·cases hc:jO a3 with
      | false=>
        rw[hc] at h54
        (have fct:=And.intro e1 (And.intro hr (And.intro hl (And.intro (eq_false h3) (hc))));(repeat' (first
  |refine gF ?_|refine aE ?_ ?_
  | ((first
   |((with_reducible refine kQ 67 ?_);refine cL h45 CB ?_)
   |((with_reducible refine kQ 174 ?_);refine cL h54 EI ?_))<;>with_reducible refine wK ?_)
  |apply trivial));all_goals clear fct)
        all_goals simp[hr,hl,h3,hc]
      | true=>
        rw[hc] at h54
        by_cases h4:a4=⟨#[]⟩
        ·(have fct:=And.intro e1 (And.intro hr (And.intro hl (And.intro (eq_false h3) (And.intro hc (h4)))));(repeat' (first
  |refine gF ?_|refine aE ?_ ?_
  | ((first
   |((with_reducible refine kQ 67 ?_);refine cL h45 CB ?_)
   |((with_reducible refine kQ 174 ?_);refine cL h54 EI ?_)
   |((with_reducible refine kQ 131 ?_);refine cL h44 HV ?_))<;>with_reducible refine wK ?_)
  |apply  trivial));all_goals clear fct)
         all_goals simp[hr,hl,h3,hc,h4]
        ·(have fct:=And.intro e1 (And.intro hr (And.intro hl (And.intro (eq_false h3) (And.intro hc ((eq_false h4))))));(repeat' (first
  |refine gF ?_|refine aE ?_ ?_
  | ((first
   |((with_reducible refine kQ 67 ?_);refine cL h45 CB ?_)
   |((with_reducible refine kQ 174 ?_);refine cL h54 EI ?_))<;>with_reducible refine wK ?_)
  | apply trivial));all_goals clear fct)
         all_goals simp[hr,hl,h3,hc,h4]
    ·(have fct:=And.intro e1 (And.intro hr ((eq_false hl)));(repeat' (first
  |refine gF ?_|refine aE ?_ ?_
  |(((with_reducible refine kQ 67 ?_);refine cL h45 CB ?_)<;>with_reducible refine wK ?_)
  |apply trivial));all_goals clear fct)
     all_goals simp[hr,hl]
 ·rw [if_neg e1]
  by_cases e2:a1=2
  ·rw [if_pos e2]
   by_cases hd:a4.size≤200
   ·by_cases h2:a2=⟨#[]⟩
    ·by_cases h3:a3=⟨#[]⟩
     ·(have fct:=And.intro e2 (And.intro hd (And.intro h2 (h3)));(repeat' (first
  |refine gF ?_|refine aE ?_ ?_
  |apply trivial));all_goals clear fct)
      all_goals simp[hd,h2,h3]
     ·(have fct:=And.intro e2 (And.intro hd (And.intro h2 ((eq_false h3))));(repeat' (first
  |refine gF ?_|refine aE ?_ ?_
  | apply trivial));all_goals clear fct)
      all_goals simp[hd,h2,h3]
    ·(have fct:=And.intro e2 (And.intro hd ((eq_false h2)));(repeat' (first
  |refine gF ?_|refine aE ?_ ?_
  | apply trivial));all_goals clear fct)
     all_goals simp[hd,h2]
   ·(have fct:=And.intro e2 ((eq_false hd));(repeat' (first
  |refine gF ?_|refine aE ?_ ?_
  | apply trivial));all_goals clear fct)
    all_goals simp[hd]
  ·rw [if_neg e2]
   by_cases ho:a1=0∨a1=3∨a1=4
   ·rw [if_pos ho]
    by_cases h2:a2=⟨#[]⟩
    ·by_cases h3:a3=⟨#[]⟩
     ·by_cases h4:a4=⟨#[]⟩
      ·rcases ho with e|e|e
       ·(have fct:=And.intro e (And.intro h2 (And.intro h3 (h4)));(repeat' (first
  |refine gF ?_|refine aE ?_ ?_
  |apply trivial));all_goals clear fct)
        all_goals simp[h2,h3,h4]
       ·(have fct:=And.intro e (And.intro h2 (And.intro h3 (h4)));(repeat' (first
  |refine gF ?_|refine aE ?_ ?_
  |apply trivial));all_goals clear fct)
        all_goals simp[h2,h3,h4]
       ·(have fct:=And.intro e (And.intro h2 (And.intro h3 (h4)));(repeat' (first
  |refine gF ?_|refine aE ?_ ?_
  |apply trivial));all_goals clear fct)
        all_goals simp[h2,h3,h4]
      ·rcases ho with e|e|e
       ·(have fct:=And.intro e (And.intro h2 (And.intro h3 ((eq_false h4))));(repeat' (first
  |refine gF ?_|refine aE ?_ ?_
  |apply trivial));all_goals clear fct)
        all_goals simp[h2,h3,h4]
       ·(have fct:=And.intro e (And.intro h2 (And.intro h3 ((eq_false h4))));(repeat' (first
  |refine gF ?_|refine aE ?_ ?_
  |apply trivial));all_goals clear fct)
        all_goals simp[h2,h3,h4]
       ·(have fct:=And.intro e (And.intro h2 (And.intro h3 ((eq_false h4))));(repeat' (first
  |refine gF ?_|refine aE ?_ ?_
  |apply trivial));all_goals clear fct)
        all_goals simp[h2,h3,h4]
     ·rcases ho with e|e|e
      ·(have fct:=And.intro e (And.intro h2 ((eq_false h3)));(repeat' (first
  |refine gF ?_|refine aE ?_ ?_
  |apply trivial));all_goals clear fct)
       all_goals simp[h2,h3]
      ·(have fct:=And.intro e (And.intro h2 ((eq_false h3)));(repeat' (first
  |refine gF ?_|refine aE ?_ ?_
  |apply trivial));all_goals clear fct)
       all_goals simp[h2,h3]
      ·(have fct:=And.intro e (And.intro h2 ((eq_false h3)));(repeat' (first
  |refine gF ?_|refine aE ?_ ?_
  | apply trivial));all_goals clear fct)
       all_goals simp[h2,h3]
    ·rcases ho with e|e|e
     ·(have fct:=And.intro e ((eq_false h2));(repeat' (first
  |refine gF ?_|refine aE ?_ ?_
  |apply trivial));all_goals clear fct)
      all_goals simp[h2]
     ·(have fct:=And.intro e ((eq_false h2));(repeat' (first
  |refine gF ?_|refine aE ?_ ?_
  |apply trivial));all_goals clear fct)
      all_goals simp[h2]
     ·(have fct:=And.intro e ((eq_false h2));(repeat' (first
  |refine gF ?_|refine aE ?_ ?_
  | apply trivial));all_goals clear fct)
      all_goals simp[h2]
   ·rw[if_neg ho]
    have e0:¬a1=0:=fun h=>ho (.inl h)
    have e3:¬a1=3:=fun h=>ho (.inr (.inl h))
    have e4:¬a1=4:=fun h=>ho (.inr (.inr h))
    (have fct:=And.intro e0 (And.intro e1 (And.intro e2 (And.intro e3 (e4))));(repeat' (first
  |refine gF ?_|refine aE ?_ ?_
  |apply trivial));all_goals clear fct)
def nv (l:List Int):List (Int×Int):=l.map fun c=>(c,1)
theorem qF (c:Int):∀l:List Int,iG c (nv l)=if c∈l then some 1 else none
 |[]=>rfl
 | a ::r=>by
   show(if a=c then some 1 else iG c (nv r))=_
   rw[qF c r]
   by_cases e:a=c
   ·rw[if_pos e,if_pos (by simp[e])]
   ·rw[if_neg e]
    by_cases h:c∈r
    ·rw[if_pos h,if_pos (c7 _ h)]
    ·rw[if_neg h,if_neg (by simp[h];exact fun e'=>e e'.symm)]
theorem DQ {l:List Int}{c:Int}(h:c∉l):ju c 1 (nv l)=nv (l++ [c]):=by
 rw[s9 (by rw[qF,if_neg h])]
 simp[nv]
theorem oK {α:Type}{l:List α}{k:Nat}{x:α}(h:l[k]? =some x):l.take (k+1)=l.take k++ [x]:=by
 obtain⟨hk,rfl⟩:=bg h
 rw[List.take_add_one,bz hk];rfl
theorem En {l:List ai}{n:Int}{x:ai}{cs:List Int}{j:Nat}{c:Int}(h:cs[j]? =some c):j8 l n x (cs.take j) (cs.drop j)=(zZ l n x (cs.take j) c&&j8 l n x (cs.take (j+1)) (cs.drop (j+1))):=by
 obtain⟨hk,rfl⟩:=bg h
 rw[List.drop_eq_getElem_cons hk,oK h]
 rfl
theorem BC {l:List ai}{cs:List Int}{j:Nat}{c:Int}(h:cs[j]? =some c):cZ l (cs.take (j+1))=cZ l (cs.take j)+if(nd l c).kind=1 then 1 else 0:=by
 rw[oK h]
 unfold cZ
 rw[List.countP_append,List.countP_cons];simp
theorem Gu (l:List ai)(cs:List Int)(j:Nat):cZ l (cs.take j)≤j:=by
 unfold cZ
 refine Nat.le_trans List.countP_le_length ?_
 simp;omega
@[reducible] def Mn (t : List (Int × Int)) : MS := .live 2 (iJ Gl bV t) false
theorem k7 (t:List (Int×Int)):br (iJ Gl bV t)=true:=by
 rw[cO];intro x hx
 obtain⟨a,_,rfl⟩:=List.mem_map.1 hx
 rfl
theorem HC (f:ForM)(hs:bE f.nodes)(k:Nat)(x:ai)(hx:f.nodes[k]? =some x):an Tryz.prog 118 [] [aY f,aj k] [] (bB (oS f.nodes k x)):=by
 have h49:=xB f
 have h56:=Cp x.kind
 have h7:=hs.kids x (bT hx)
 have hl:=hs.len
 obtain⟨l,m⟩:=f
 have hst:=fun j c=> @En l k x x.kids j c
 have hse:=fun j c=> @BC l x.kids j c
 unfold oS
 simp only at h49 h56 hx h7 hl ⊢
 obtain⟨⟨a1,a2,a3,a4,a5,a6,a7,a8,a9,a10⟩,hx0⟩:∃y,y=x:=⟨x,rfl⟩
 rw[←hx0] at hx h56 h7 hst hse ⊢
 simp only at h56 h7 hst hse ⊢
 have hlm:(a7.map bV).length=a7.length:=cj ..
 refine an.aF (rvs:=[.tmp 4]) G au Tryz.func118 rfl Tryz.ntmps118 rfl rfl ?_;with_reducible refine wD ?_
 refine aG.mk k (az _) rfl (ah hx) ?_;with_reducible refine wK ?_
 refine cn.use G au (fun(j:Nat)=>[(1,aj k),(2,.ptr 20 0 0),(5,.ptr 50 0 0),(6,.mapr 161),(7,aj (cZ l (a7.take j))),(18,cF a7),(19,aj a7.length),(20,aj j)])
  (fun j=>[(20,.live 2 [aY ⟨l,m⟩] false),(50,.live 10 [az ⟨a1,a2,a3,a4,a5,a6,a7,a8,a9,a10⟩] false),(161,Mn (nv (a7.take j)))])
  (fun j=>j≤a7.length∧j8 l k ⟨a1,a2,a3,a4,a5,a6,a7,a8,a9,a10⟩ [] a7=j8 l k ⟨a1,a2,a3,a4,a5,a6,a7,a8,a9,a10⟩ (a7.take j) (a7.drop j)) (fun j=>a7.length-j) 0 ⟨Nat.zero_le _,rfl⟩
  ⟨⟨rfl,rfl⟩,⟨rfl,⟨rfl,rfl⟩,⟨rfl,rfl⟩,trivial,rfl,rfl,by show(a7.length:Int)=((a7.map bV).length:Int);rw[hlm],rfl,trivial⟩,⟨⟨rfl,rfl,trivial⟩,trivial⟩,⟨⟨rfl,rfl,rfl,rfl,rfl,rfl,rfl,rfl,rfl,rfl,trivial⟩,trivial⟩,⟨.refl rfl,rfl⟩,trivial⟩ ?_
 rintro j ⟨hj,hok⟩
 with_reducible refine wK ?_
 refine bk.mk (fun h1=>?_) (fun h1=>?_)<;>(try simp only[ay] at h1)<;>with_reducible refine wK ?_
 ·have hj' :j<a7.length:=by simp only[bO] at h1;omega
  obtain⟨c,hc⟩:∃c,a7[j]? =some c:=⟨_,bz hj'⟩
  rw[hst j c hc] at hok
  have hse':=hse j c hc
  have hel:=Gu l a7 j
  have h49':=h49 c
  unfold zZ at hok
  refine aG.mk j (aj c) rfl (bK hc) ?_;with_reducible refine wK ?_
  refine cL h49' xy ?_;with_reducible refine wK ?_
  cases ht:af l c with
  | false=>
    rw[ht] at hok
    simp only[Bool.false_and] at hok
    rw[hok,Bool.false_and]
    (have fct:=ht;(repeat' (first
  |refine gF ?_|refine aE ?_ ?_
  |apply trivial));all_goals clear fct)
  | true=>
    obtain⟨i,y,rfl,hy,hnd⟩:=aU.1 ht
    rw[ht,hnd] at hok
    rw[hnd] at hse'
    obtain⟨b1,b2,b3,b4,b5,b6,b7,b8,b9,b10⟩:=y
    simp only[Bool.true_and] at hok hse'
    refine bk.ff ?_;with_reducible refine wK ?_
    have hts:=qF (i:Int) (a7.take j)
    refine qk.tab Gl bV (nv (a7.take j)) (k:=(i:Int)) (zv:=aj 0) I6 ⟨_,_,rfl⟩ xg wY rfl rfl (fun z hxx=>?_) (fun hxx=>?_)
    ·rw[hxx] at hts
     have hin:(i:Int)∈a7.take j:=by by_cases h:(i:Int)∈a7.take j;exact h;rw[if_neg h] at hts;cases hts
     rw[if_pos hin] at hts
     cases hts
     rw[show me (a7.take j) (i:Int)=true from dV hin] at hok
     simp only[Bool.not_true,Bool.false_and] at hok
     rw[hok,Bool.false_and]
     rw[show bV 1=aj 1 from rfl]
     with_reducible refine wK ?_
     (have fct:=ht;(repeat' (first
  |refine gF ?_|refine aE ?_ ?_
  | apply trivial));all_goals clear fct)
    ·rw [hxx] at hts
     have hin:(i:Int)∉a7.take j:=by intro h;rw[if_pos h] at hts;cases hts
     rw[show me (a7.take j) (i:Int)=false from bY hin] at hok
     simp only[Bool.not_false,Bool.true_and] at hok
     with_reducible refine wK ?_
     by_cases e6:b6=k
     ·by_cases e10:b10=a10
      ·simp only[e6,e10,decide_true,Bool.true_and] at hok
       (have fct:=And.intro e6 (e10);(repeat' (first
  |refine gF ?_|refine aE ?_ ?_
  |((refine aG.mk i (az _) rfl (ah hy) ?_)<;>with_reducible refine wK ?_)
  |apply trivial));all_goals clear fct)
       refine qk.tab Gl bV (nv (a7.take j)) (k:=(i:Int)) (zv:=aj 0) I6 ⟨_,_,rfl⟩ xg wY rfl rfl (fun z hyy=>?_) (fun hyy=>?_)
       ·rw[hxx] at hyy;cases hyy
       with_reducible refine wK ?_
       have hln:(nv (a7.take j)).length≤j:=by unfold nv;simp;omega
       have hsn:=DQ hin
       rw[←oK hc] at hsn
       refine nK ?_;with_reducible refine wK ?_
       refine xO.tab Gl bV (nv (a7.take j)) (k:=(i:Int)) (1:Int) I6 rfl xg wY (by unfold maxLen;omega) rfl ?_;with_reducible refine wK ?_
       rw[hsn]
       refine aG.mk i (az _) rfl (ah hy) ?_;with_reducible refine wK ?_
       by_cases f1:b1=1
       ·have hs1:(cZ l (a7.take (j+1)):Int)=cZ l (a7.take j)+1:=by rw[hse',if_pos f1];rfl
        simp only[f1,decide_true,Bool.true_or,Bool.true_and] at hok
        (have fct:=f1;(repeat' (first
  |refine gF ?_|refine aE ?_ ?_
  |(((with_reducible show cm _ _);refine cm.mk (j+1) ⟨by omega,hok⟩ (by omega) ⟨⟨rfl,rfl⟩,⟨rfl,⟨rfl,rfl⟩,⟨rfl,rfl⟩,trivial,hs1,rfl,rfl,by show((j+1:Nat):Int)=(j:Int)+1;omega,trivial⟩,⟨⟨rfl,rfl,trivial⟩,trivial⟩,⟨⟨rfl,rfl,rfl,rfl,rfl,rfl,rfl,rfl,rfl,rfl,trivial⟩,trivial⟩,⟨.refl (k7 _),k7 _⟩,trivial⟩)<;>with_reducible refine wK ?_)
  |apply  trivial));all_goals clear fct)
       ·have hs1:(cZ l (a7.take (j+1)):Int)=cZ l (a7.take j):=by rw[hse',if_neg f1];rfl
        by_cases f2:b1=2
        ·by_cases e0:a1=0
         ·have hkk:(decide (b1=1)||decide (b1=2)&&decide (a1≠0))=false:=by simp[f2,e0]
          rw[hkk,Bool.false_and] at hok
          rw[hok,Bool.false_and]
          (have fct:=And.intro (eq_false f1) (And.intro f2 (e0));(repeat' (first
  |refine gF ?_|refine aE ?_ ?_
  |apply  trivial));all_goals clear fct)
         ·have hkk:(decide (b1=1)||decide (b1=2)&&decide (a1≠0))=true:=by simp[f2,e0]
          rw[hkk,Bool.true_and] at hok
          (have fct:=And.intro (eq_false f1) (And.intro f2 ((eq_false e0)));(repeat' (first
  |refine gF ?_|refine aE ?_ ?_
  |(((with_reducible show cm _ _);refine cm.mk (j+1) ⟨by omega,hok⟩ (by omega) ⟨⟨rfl,rfl⟩,⟨rfl,⟨rfl,rfl⟩,⟨rfl,rfl⟩,trivial,hs1,rfl,rfl,by show((j+1:Nat):Int)=(j:Int)+1;omega,trivial⟩,⟨⟨rfl,rfl,trivial⟩,trivial⟩,⟨⟨rfl,rfl,rfl,rfl,rfl,rfl,rfl,rfl,rfl,rfl,trivial⟩,trivial⟩,⟨.refl (k7 _),k7 _⟩,trivial⟩)<;>with_reducible refine wK ?_)
  |apply  trivial));all_goals clear fct)
        ·simp only[eq_false f1,eq_false f2,decide_false,Bool.false_and,Bool.or_false] at hok
         rw[hok,Bool.false_and]
         (have fct:=And.intro f1 (f2);(repeat' (first
  |refine gF ?_|refine aE ?_ ?_
  |apply trivial));all_goals clear fct)
      ·simp only[e6,eq_false e10,decide_true,decide_false,Bool.true_and,Bool.false_and] at hok
       rw[hok,Bool.false_and]
       (have fct:=And.intro e6 ((eq_false e10));(repeat' (first
  |refine gF ?_|refine aE ?_ ?_
  |((refine aG.mk i (az _) rfl (ah hy) ?_)<;>with_reducible refine wK ?_)
  |apply trivial));all_goals clear fct)
     ·simp only[eq_false e6,decide_false,Bool.false_and] at hok
      rw[hok,Bool.false_and]
      (have fct:=(eq_false e6);(repeat' (first
  |refine gF ?_|refine aE ?_ ?_
  |((refine aG.mk i (az _) rfl (ah hy) ?_)<;>with_reducible refine wK ?_)
  |apply trivial));all_goals clear fct)
 ·have hjl:j=a7.length:=by simp only[dh] at h1;omega
  rw[hjl,List.take_length,List.drop_length] at hok
  rw[hjl,List.take_length]
  rw[hok]
  simp only[j8,Bool.true_and]
  refine cL h56 Eo ?_;with_reducible refine wK ?_
  by_cases e7:a7.length=0
  ·have e7':a7=[]:=List.eq_nil_of_length_eq_zero e7
   cases hh:eN a1 with
   | false=>
     by_cases e0:a1=0
     ·(have fct:=And.intro hh (And.intro e0 (And.intro e7 (hlm)));(repeat' (first
  |refine gF ?_|refine aE ?_ ?_
  |apply trivial));all_goals clear fct)
      all_goals first|(simp[hh,e0,e7'];done)|((try simp only[ay]);simp[hh,e0,e7'];omega)
     ·(have fct:=And.intro hh (And.intro (eq_false e0) (And.intro e7 (hlm)));(repeat' (first
  |refine gF ?_|refine aE ?_ ?_
  | apply trivial));all_goals clear fct)
      all_goals first|(simp[hh,e0,e7'];done)|((try simp only[ay]);simp[hh,e0,e7'];omega)
   | true=>
     by_cases e0:a1=0
     ·(have fct:=And.intro hh (And.intro e0 (And.intro e7 (hlm)));(repeat' (first
  |refine gF ?_|refine aE ?_ ?_
  |apply trivial));all_goals clear fct)
      all_goals first|(simp[hh,e0,e7'];done)|((try simp only[ay]);simp[hh,e0,e7'];omega)
     ·(have fct:=And.intro hh (And.intro (eq_false e0) (And.intro e7 (hlm)));(repeat' (first
  |refine gF ?_|refine aE ?_ ?_
  |apply trivial));all_goals clear fct)
      all_goals first|(simp[hh,e0,e7'];done)|((try simp only[ay]);simp[hh,e0,e7'];omega)
  ·have e7':¬a7=[]:=fun h=>e7 (by rw[h];rfl)
   cases hh:eN a1 with
   | false=>
     by_cases e0:a1=0
     ·(have fct:=And.intro hh (And.intro e0 (And.intro e7 (hlm)));(repeat' (first
  |refine gF ?_|refine aE ?_ ?_
  |apply trivial));all_goals clear fct)
      all_goals first|(simp[hh,e0,e7'];done)|((try simp only[ay]);simp[hh,e0,e7'];omega)
     ·(have fct:=And.intro hh (And.intro (eq_false e0) (And.intro e7 (hlm)));(repeat' (first
  |refine gF ?_|refine aE ?_ ?_
  | apply trivial));all_goals clear fct)
      all_goals first|(simp[hh,e0,e7'];done)|((try simp only[ay]);simp[hh,e0,e7'];omega)
   | true=>
     by_cases e0:a1=0
     ·(have fct:=And.intro hh (And.intro e0 (And.intro e7 (hlm)));(repeat' (first
  |refine gF ?_|refine aE ?_ ?_
  |apply trivial));all_goals clear fct)
      all_goals first|(simp[hh,e0,e7'];done)|((try simp only[ay]);simp[hh,e0,e7'];omega)
     ·(have fct:=And.intro hh (And.intro (eq_false e0) (And.intro e7 (hlm)));(repeat' (first
  |refine gF ?_|refine aE ?_ ?_
  |apply trivial));all_goals clear fct)
      all_goals first|(simp[hh,e0,e7'];done)|((try simp only[ay]);simp[hh,e0,e7'];omega)
end Go.Proofs.Heir
