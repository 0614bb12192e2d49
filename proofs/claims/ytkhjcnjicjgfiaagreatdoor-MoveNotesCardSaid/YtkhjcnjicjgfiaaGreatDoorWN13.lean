/- Models, plain laws and contracts of functions of the given program; conditions as stated in each theorem. By an AI agent. -/
import Derived.Test.YtkhjcnjicjgfiaaGreatDoorWN12
set_option linter.unusedSimpArgs false
set_option linter.unusedVariables false
namespace Go.Proofs.Heir
open Go Go.Am Go.RowKit Go.Lib
set_option maxRecDepth 100000
set_option maxHeartbeats 8000000
def yC (s:ByteArray):AV:=bS s
@[reducible] def Bo (l : List ByteArray) : AV := .sl 1 (l.map yC)
@[reducible] def Ir (l : List ByteArray) : MS := .live 1 (l.map yC) false
theorem o4 (l:List ByteArray):br (l.map yC)=true:=by
 rw[cT];intro x hx
 obtain⟨a,_,rfl⟩:=List.mem_map.1 hx
 rfl
theorem Ev {l:List ByteArray}{k:Nat}{a:ByteArray}(h:l[k]? =some a):(l.map yC)[k]? =some (bS a):=by rw[fI,h];rfl
theorem Dr (l:List ByteArray):jL [Ir l]:=⟨bG.ja fun r hr=>by obtain⟨a,_,rfl⟩:=List.mem_map.1 hr;rfl,o4 l,trivial⟩
theorem D7 {m:ML}{fz:Nat→Bool}{tab:List (Nat×Nat)}{n t len:Nat}{ro:Bool}{rows:List AV}{l:List ByteArray}(h1:eD m t=.live 1 rows ro)(h2:fz t=true)(h3:rows=l.map yC)(h4:len=l.length):xd m fz (MF tab fz m n) (Bo l) t 0 len:=by
 subst h3;subst h4
 have e:(l.map yC).length=l.length:=bW ..
 exact .cut h1 h2 (by omega) (by rw[List.drop_zero,qL (by omega)]) (o4 l)
theorem GY (l:List ByteArray)(hl:l.length≤100000)(s:ByteArray):ak Tryz.prog 223 [] [Bo l,bS s] [] (ah (fU (fun x=>decide (x=s)) l)):=by
 have hlm:(l.map yC).length=l.length:=bW ..
 refine ak.aD (rvs:=[.tmp 4]) G au Tryz.func223 rfl Tryz.ntmps223 rfl rfl ?_;with_reducible refine wD ?_
 refine bX.use G au (fun(k:Nat)=>[(0,Bo l),(1,bS s),(7,ah l.length),(8,ah k)]) (fun _=>[]) (fun k=>k≤l.length∧∀j x,j<k→l[j]? =some x→decide (x=s)=false) (fun k=>l.length-k) 0 ⟨Nat.zero_le _,fun j x h=>by omega⟩
  ⟨⟨rfl,rfl⟩,⟨rfl,rfl,by show(l.length:Int)=((l.map yC).length:Int);rw[hlm],rfl,trivial⟩,trivial⟩ ?_
 rintro k ⟨hk,hno⟩
 with_reducible refine wK ?_
 refine aX.mk (fun h1=>?_) (fun h1=>?_)<;>(try simp only[ay] at h1)<;>with_reducible refine wK ?_
 ·simp only[bH] at h1
  have hk':k<l.length:=by omega
  obtain⟨a,ha⟩:∃a,l[k]? =some a:=⟨_,bD hk'⟩
  refine bg.mk k (bS a) rfl (Ev ha) ?_;with_reducible refine wK ?_
  refine aX.mk (fun h2=>?_) (fun h2=>?_)<;>(try simp only[ay] at h2)<;>with_reducible refine wK ?_
  ·(refine eK ?_ ?_<;>with_reducible repeat' (first|exact trivial|(show _∧_;refine aK ?_ ?_)))
   refine fJ (p:=fun x=>decide (x=s)) ha ?_ hno
   simp only[bH] at h2 ⊢;exact h2.symm
  ·refine nK ?_;with_reducible refine wK ?_
   refine bR.mk (k+1) ⟨by omega,fun j x hj hx=>?_⟩ (by omega) ⟨⟨rfl,rfl⟩,⟨rfl,rfl,rfl,by show((k+1:Nat):Int)=(k:Int)+1;omega,trivial⟩,trivial⟩
   rcases Nat.lt_or_ge j k with h3|h3
   ·exact hno j x h3 hx
   ·have:j=k:=by omega
    subst this
    rw[ha] at hx;cases hx
    simp only[cR] at h2 ⊢;exact fun e=>h2 e.symm
 ·(refine eK ?_ ?_<;>with_reducible repeat' (first|exact trivial|(show _∧_;refine aK ?_ ?_)))
  exact jB fun j x hx=>hno j x (by have:=(aY hx).1;simp only[cR] at h1;omega) hx
def CI (l:List ByteArray)(s:ByteArray):Bool:=l.any fun x=>decide (x=s)
theorem F9 {l:List ByteArray}{s:ByteArray}:CI l s=true↔s∈l:=by
 unfold CI;rw[List.any_eq_true]
 exact⟨fun⟨x,hx,e⟩=>by rw[←of_decide_eq_true e];exact hx,fun h=>⟨s,h,dJ rfl⟩⟩
theorem E6 {l:List ByteArray}{s:ByteArray}:decide (0≤fU (fun x=>decide (x=s)) l)=CI l s:=by
 rw[Bool.eq_iff_iff,bH,F9]
 unfold fU
 cases h:l.findIdx? (fun x=>decide (x=s)) with
 | none=>
   rw[List.findIdx?_eq_none_iff] at h
   simp only
   refine⟨fun h'=>by omega,fun hs=>?_⟩
   have:=h s hs
   simp at this
 | some k=>
   rw[List.findIdx?_eq_some_iff_getElem] at h
   obtain⟨hk,h2,_⟩:=h
   simp only
   exact⟨fun _=>by rw[←of_decide_eq_true h2];exact List.getElem_mem hk,fun _=>by omega⟩
theorem HU (l:List ByteArray)(hl:l.length≤100000)(s:ByteArray):ak Tryz.prog 207 [] [Bo l,bS s] [] (bC (CI l s)):=by
 rw[←E6]
 refine ak.aD (rvs:=[.tmp 4]) G au Tryz.func207 rfl Tryz.ntmps207 rfl rfl ?_;with_reducible refine wD ?_
 refine cL (GY l hl s) LA ?_;with_reducible refine wK ?_
 (refine eK ?_ ?_<;>with_reducible repeat' (first|exact trivial|(show _∧_;refine aK ?_ ?_)))
def xF (l:List UInt8):ByteArray:=⟨l.toArray⟩
def n3:List ByteArray:=[xF [97,110,110,111,116,97,116,105,111,110,45,120,109,108],xF [99,111,108,111,114,45,112,114,111,102,105,108,101],xF [102,111,110,116,45,102,97,99,101],xF [102,111,110,116,45,102,97,99,101,45,115,114,99],
 xF [102,111,110,116,45,102,97,99,101,45,117,114,105],xF [102,111,110,116,45,102,97,99,101,45,102,111,114,109,97,116],xF [102,111,110,116,45,102,97,99,101,45,110,97,109,101],xF [109,105,115,115,105,110,103,45,103,108,121,112,104]]
theorem H7:ak Tryz.prog 208 [] [] [Ir n3] (.own 0 0 8):=by
 refine ak.aD (rvs:=[.tmp 0]) G au Tryz.func208 rfl Tryz.ntmps208 rfl rfl ?_;with_reducible refine wD ?_
 (refine eK ?_ ?_<;>with_reducible repeat' (first|exact trivial|(show _∧_;refine aK ?_ ?_)))
 all_goals first|rfl|exact bP (o4 n3)
theorem GP (s:ByteArray)(c:UInt8):ak Tryz.prog 206 [] [bS s,bS ⟨#[c]⟩] [] (bC (decide (0≤Lib.indexByte s.data.toList c))):=
 ak.jG (vs:=[.string s,.string ⟨#[c]⟩]) (v:=.bool _) fun w _=>(Go.Proofs.Tryz.strings_Contains_one s c w).mono fun e w' ⟨h1,h2⟩=>⟨h1,by rw[h2];exact Below.refl _ w⟩

@[reducible] def KY : List UInt8 := [97, 32, 98, 32, 98, 117, 116, 116, 111, 110, 32, 100, 105, 118, 32, 102, 105, 101, 108, 100, 115, 101, 116, 32, 102, 111, 114, 109, 32, 105, 32, 105, 110, 112, 117, 116, 32, 108, 97, 98, 101, 108, 32, 108, 101, 103, 101, 110, 100, 32, 108, 105, 32, 111, 112, 116, 105, 111, 110, 32, 111, 117, 116, 112, 117, 116, 32, 112, 32, 115, 101, 108, 101, 99, 116, 32, 115, 112, 97, 110, 32, 116, 101, 109, 112, 108, 97, 116, 101, 32, 116, 101, 120, 116, 97, 114, 101, 97, 32, 117, 108]
def Ky:List ByteArray:=(Lib.fields KY).map xF
@[reducible] def DN : List UInt8 := [97, 110, 110, 111, 116, 97, 116, 105, 111, 110, 45, 120, 109, 108, 32, 99, 111, 108, 111, 114, 45, 112, 114, 111, 102, 105, 108, 101, 32, 102, 111, 110, 116, 45, 102, 97, 99, 101, 32, 102, 111, 110, 116, 45, 102, 97, 99, 101, 45, 115, 114, 99, 32, 102, 111, 110, 116, 45, 102, 97, 99, 101, 45, 117, 114, 105, 32, 102, 111, 110, 116, 45, 102, 97, 99, 101, 45, 102, 111, 114, 109, 97, 116, 32, 102, 111, 110, 116, 45, 102, 97, 99, 101, 45, 110, 97, 109, 101, 32, 109, 105, 115, 115, 105, 110, 103, 45, 103, 108, 121, 112, 104]
def DZ (l:List UInt8):Bool:=l.any (fun b=>decide (b=45))
def BX (l:List UInt8):Bool:=l.any (fun b=>mM (b.toNat:Int))
def yA:List UInt8→Bool
 |[]=>false
 |b::_=>kJ (b.toNat:Int)
def lN (s:ByteArray):Bool:=bJ s&&(yA s.data.toList&&(!BX s.data.toList&&(DZ s.data.toList&& !CI n3 s)))
theorem A5 (l:List UInt8):decide (0≤Lib.indexByte l 45)=DZ l:=by
 rw[Bool.eq_iff_iff,bH]
 unfold DZ
 rw[List.any_eq_true]
 constructor
 ·intro h
  obtain⟨o,ho⟩:∃o:Nat,Lib.indexByte l 45=o:=⟨(Lib.indexByte l 45).toNat,by omega⟩
  obtain⟨h1,_⟩:=Lib.indexByte_some ho
  exact⟨45,bO h1,rfl⟩
 ·rintro⟨b,hb,e⟩
  have:=of_decide_eq_true e;subst this
  rcases Int.lt_or_le (Lib.indexByte l 45) 0 with h|h
  ·have:Lib.indexByte l 45=-1:=by have:=Lib.indexByte_ge l 45;omega
   obtain⟨k,hk⟩:=List.getElem?_of_mem hb
   exact absurd hk (Lib.indexByte_none this k)
  ·exact h
theorem vK (p:Nat→Bool)(s:ByteArray)(hs:∀b∈s.data.toList,b.toNat<128):∀ (f pos:Nat),s.size≤pos+f→(0≤idxFuncFrom p true s f pos↔ ∃i,pos≤i∧∃b,s.data.toList[i]? =some b∧p b.toNat=true)
 | 0,pos,h=>by
   have:¬ (0:Int)≤idxFuncFrom p true s 0 pos:=by simp[idxFuncFrom]
   refine⟨fun h'=>absurd h' this,?_⟩
   rintro⟨i,h1,b,h2,_⟩
   have:=(aY h2).1
   have:i<s.size:=this
   omega
 | f + 1,pos,h=>by
   by_cases hp:pos<s.size
   ·have ih:=vK p s hs f
    obtain⟨b,hb1,hb2⟩:∃b,s.data.toList[pos]? =some b∧s.get! pos=b:=⟨_,bD hp,by show s.data[pos]! =_;rw[getElem!_pos s.data pos hp];rfl⟩
    have hb3:=hs b (bO hb1)
    unfold idxFuncFrom
    rw[if_pos hp,decode_at,hb2]
    have hd:∀n b1 b2 b3,decodeN n b.toNat b1 b2 b3=(b.toNat,1):=fun n b1 b2 b3=>by rw[decodeN,if_pos hb3]
    rw[hd]
    show(0:Int)≤ (if p b.toNat=true then(pos:Int) else idxFuncFrom p true s f (pos+1))↔_
    cases hpb:p b.toNat with
    |true=>exact⟨fun _=>⟨pos,Nat.le_refl _,b,hb1,hpb⟩,fun _=>by simp⟩
    | false=>
      rw[if_neg (by simp),ih (pos+1) (by omega)]
      constructor
      ·rintro⟨i,h3,h4⟩;exact⟨i,by omega,h4⟩
      ·rintro⟨i,h3,b',h4,h5⟩
       rcases Nat.lt_or_ge pos i with h6|h6
       ·exact⟨i,h6,b',h4,h5⟩
       ·have:i=pos:=by omega
        subst this
        rw[hb1] at h4;cases h4
        rw[hpb] at h5;cases h5
   ·rw[idxFuncFrom_end _ _ _ _ _ hp]
    refine⟨fun h'=>by omega,?_⟩
    rintro⟨i,h1,b,h2,_⟩
    have:=(aY h2).1
    have:i<s.size:=this
    omega
theorem xK {s:ByteArray}(h:bJ s=true):∀b∈s.data.toList,b.toNat<128:=by
 intro b hb
 unfold bJ ow at h
 simp only[bN,List.all_eq_true] at h
 have:=h.1.2 b hb
 unfold ji jP kJ mM at this
 simp only[j8,bN,bH] at this
 omega
theorem AY {s:ByteArray}(h:bJ s=true):decide (0≤idxFunc (fun r=>mM (r:Int)) true s)=BX s.data.toList:=by
 rw[Bool.eq_iff_iff,bH]
 unfold BX
 rw[List.any_eq_true]
 have:=vK (fun r=>mM (r:Int)) s (xK h) s.size 0 (by omega)
 refine Iff.trans this ⟨?_,?_⟩
 ·rintro⟨i,_,b,h1,h2⟩;exact⟨b,bO h1,h2⟩
 ·rintro⟨b,h1,h2⟩
  obtain⟨i,hi⟩:=List.getElem?_of_mem h1
  exact⟨i,Nat.zero_le _,b,hi,h2⟩
theorem G4 (s:ByteArray)(h:bJ s=true):ak Tryz.prog 185 [] [bS s,.lit (.func (.func 179) #[] #[])] [] (bC (BX s.data.toList)):=by
 rw[←AY h]
 exact ak.jG (vs:=[.string s,.func (.func 179) #[] #[]]) fun w ht=>uq 179 I4 (fun r=>mM (r:Int)) s w ht fun W x ht _=>(qi (x:Int)).below (vs:=[.int .i32 (x:Int)]) W ht
theorem xO {s:ByteArray}(h:bJ s=true):∃b r,s.data.toList=b::r:=by
 unfold bJ ow at h
 simp only[bN,bH] at h
 obtain⟨b,r,e,_⟩:=vM h.1.1.1
 exact⟨b,r,e⟩
theorem H6 (s:ByteArray):ak Tryz.prog 174 [] [bS s] [] (bC (lN s)):=by
 refine ak.aD (rvs:=[.tmp 2]) G au Tryz.func174 rfl Tryz.ntmps174 rfl rfl ?_;with_reducible refine wD ?_
 refine cL (BC s) Kk ?_;with_reducible refine wK ?_
 unfold lN
 cases hr:bJ s with
 | false=>
   repeat' (first
  |refine aE ?_ ?_
  |((with_reducible show aX _ _ _ _);first|refine iK ?_|(refine aX.mk (fun _=>?_) (fun _=>?_)<;>with_reducible refine wK ?_))
  | apply trivial)
   all_goals rfl
 | true=>
   obtain⟨b,r,hb⟩:=xO hr
   have hb0:s.data.toList[0]? =some b:=by rw[hb];rfl
   have hlf:yA s.data.toList=kJ (b.toNat:Int):=by rw[hb];rfl
   have hda:=A5 s.data.toList
   have f25:=GP s 45
   rw[hda] at f25
   refine aX.tt ?_;with_reducible refine wK ?_
   refine u7.mk 0 b rfl hb0 ?_;with_reducible refine wK ?_
   refine oh.int (by kernel_rfl) (by kernel_rfl) (Fv _) ?_;with_reducible refine wK ?_
   refine cL (xG _) JG ?_;with_reducible refine wK ?_
   repeat' (first
  |refine aE ?_ ?_
  |((with_reducible show aX _ _ _ _);first|refine iK ?_|(refine aX.mk (fun _=>?_) (fun _=>?_)<;>with_reducible refine wK ?_))
  |((with_reducible refine kQ 185 ?_);refine cL (G4 s hr) KI ?_;with_reducible refine wK ?_)
  |((with_reducible refine kQ 206 ?_);refine cL f25 Me ?_;with_reducible refine wK ?_)
  |((with_reducible refine kQ 208 ?_);refine af.new 211 [] H7 Ma trivial rfl rfl rfl (Dr n3) rfl ?_;with_reducible refine wK ?_)
  |((with_reducible refine kQ 207 ?_);refine af.lit [211] (HU n3 (by decide) s) Mb ⟨D7 rfl rfl rfl rfl,rfl,trivial⟩ rfl rfl ?_;with_reducible refine wK ?_)
  | apply trivial)
   all_goals (rw[hlf];clear hb hb0 hda f25 hlf;rw[show s.data.toList=s.1.1 from rfl];simp_all)
theorem tE (p:UInt8→Bool)(h:(List.range 256).all (fun n=>p (UInt8.ofNat n))=true)(c:UInt8):p c=true:=by
 have:=List.all_eq_true.1 h c.toNat (List.mem_range.2 (UInt8.toNat_lt c))
 simpa using this
theorem Fa (c:UInt8):mz (mz c)=mz c:=by
 have:=tE (fun c=>decide (mz (mz c)=mz c)) (by decide+kernel) c
 simpa using this
theorem CW (c:UInt8):ji (mz c)=ji c:=by
 have:=tE (fun c=>decide (ji (mz c)=ji c)) (by decide+kernel) c
 simpa using this
theorem FH (s:ByteArray):dy (dy s)=dy s:=by
 unfold dy oJ
 simp only[List.map_map]
 congr 2
 apply List.map_congr_left
 intro c _
 exact Fa c
theorem Az (l:List UInt8):ru (oJ l)=ru l:=by
 cases l with
 |nil=>rfl
 | cons c r=>
   have:=tE (fun c=>decide (ru [mz c]=ru [c])) (by decide+kernel) c
   exact of_decide_eq_true this
theorem AL (s:ByteArray):bJ (dy s)=bJ s:=by
 unfold bJ ow
 have h1:(dy s).data.toList=oJ s.data.toList:=rfl
 rw[h1,Az]
 have h2:(oJ s.data.toList).length=s.data.toList.length:=by unfold oJ;simp
 have h3:(oJ s.data.toList).all ji=s.data.toList.all ji:=by
  unfold oJ
  rw[List.all_map]
  congr 1
  funext c
  exact CW c
 rw[h2,h3]
def bU (n:Int):AV:=ah n
def Ft (n:Int):Value:=.int .i64 n
@[reducible] def cN (l : List Int) : AV := .sl 1 (l.map bU)
theorem gr {l:List Int}{k:Nat}{x:Int}(h:l[k]? =some x):(l.map bU)[k]? =some (ah x):=by rw[fI,h];rfl
structure ai where
 kind:Int
 name:ByteArray
 is:ByteArray
 data:ByteArray
 attrs:List AttrM
 parent:Int
 kids:List Int
 host:Int
 under:Int
 doc:Int
structure ForM where
 nodes:List ai
 most:Int
def Fs:ai:=⟨0,⟨#[]⟩,⟨#[]⟩,⟨#[]⟩,[],0,[],0,0,0⟩
def nd (l:List ai)(n:Int):ai:=(l[n.toNat]?).getD Fs
def ae (l:List ai)(n:Int):Bool:=decide (0≤n)&&decide (n< (l.length:Int))
def j7 (l:List ai)(n k:Int):Bool:=ae l n&&decide ((nd l n).kind=k)
def eN (k:Int):Bool:=decide (k=0)||decide (k=1)||decide (k=3)||decide (k=4)
def tu (l:List Int)(n:Int):Bool:=decide (n∈l)
def cP (x:ai):Int:=if x.parent=-1 then x.host else x.parent
def sX (l:List ai)(n:Int)(x:ai):Bool:=j7 l x.doc 0&&(decide (x.kind≠0)||decide (x.doc=n))
def rK (l:List ai)(n:Int)(x:ai):Bool:=decide (x.parent=-1)||((decide (x.kind=1)||decide (x.kind=2))&&ae l x.parent&&eN (nd l x.parent).kind&&tu (nd l x.parent).kids n)
def zz (l:List ai)(n:Int)(x:ai)(pre:List Int)(c:Int):Bool:=
 ae l c&& !tu pre c&&decide ((nd l c).parent=n)&&decide ((nd l c).doc=x.doc)&&(decide ((nd l c).kind=1)||(decide ((nd l c).kind=2)&&decide (x.kind≠0)))
def kI (l:List ai)(n:Int)(x:ai):List Int→List Int→Bool
 |_,[]=>true
 |pre,c::r=>zz l n x pre c&&kI l n x (pre++ [c]) r
def cC (l:List ai)(cs:List Int):Nat:=cs.countP (fun c=>decide ((nd l c).kind=1))
def oW (l:List ai)(n:Int)(x:ai):Bool:=
 kI l n x [] x.kids&&((eN x.kind||decide (x.kids=[]))&&(decide (x.kind≠0)||decide (cC l x.kids≤1)))
def kF (l:List ai)(n:Int)(x:ai):Bool:=
 (if x.kind=4 then j7 l x.host 1&&decide ((nd l x.host).under=n)&&decide ((nd l x.host).doc=x.doc) else decide (x.host=-1))&&
 (decide (x.under=-1)||(decide (x.kind=1)&&j7 l x.under 4&&decide ((nd l x.under).host=n)))
def fQ (l:List ai):Nat→Int→Bool
 |0,_=>false
 |m+1,n=>if cP (nd l n)=-1 then true else fQ l m (cP (nd l n))
def fo (x:ai):Bool:=
 if x.kind=1 then bJ x.name&&decide (dy x.name=x.name)&&(decide (x.is=⟨#[]⟩)||lN x.is)&&decide (x.data=⟨#[]⟩)&&cn x.attrs
 else if x.kind=2 then decide (x.data.size≤200)&&decide (x.name=⟨#[]⟩)&&decide (x.is=⟨#[]⟩)&&decide (x.attrs=[])
 else if x.kind=0∨x.kind=3∨x.kind=4 then decide (x.name=⟨#[]⟩)&&decide (x.is=⟨#[]⟩)&&decide (x.data=⟨#[]⟩)&&decide (x.attrs=[])
 else false
def dB (l:List ai)(n:Int)(x:ai):Bool:=fo x&&(sX l n x&&(rK l n x&&(oW l n x&&kF l n x)))
def oz (f:ForM):Bool:=decide (1≤f.most)&&decide (f.most≤400)&&decide (1≤f.nodes.length)&&decide ((f.nodes.length:Int)≤f.most)&&decide ((nd f.nodes 0).kind=0)
def oc {α:Type}(p:Nat→α→Bool):Nat→List α→Bool
 |_,[]=>true
 |i,x::r=>p i x&&oc p (i+1) r
def bt (f:ForM):Bool:=oz f&&(oc (fun k x=>dB f.nodes k x) 0 f.nodes&&oc (fun k _=>fQ f.nodes f.nodes.length k) 0 f.nodes)
def tW (f:ForM):Bool:=decide (f.nodes.length≤60)&&f.nodes.all (fun x=>decide (x.kids.length≤60)&&decide (x.attrs.length≤60)&&decide (x.name.size≤300))
structure bw (l:List ai):Prop where
 len:l.length≤64
 kids:∀x∈l,x.kids.length≤60
 attrs:∀x∈l,x.attrs.length≤60
 name:∀x∈l,x.name.size≤300
theorem xE {f:ForM}(h:tW f=true):bw f.nodes:=by
 unfold tW at h
 simp only[bN,bH,List.all_eq_true] at h
 obtain⟨h1,h2⟩:=h
 exact⟨by omega,fun x hx=>(h2 x hx).1.1,fun x hx=>(h2 x hx).1.2,fun x hx=>(h2 x hx).2⟩
theorem cU {l:List ai}{k:Nat}{x:ai}(h:l[k]? =some x):nd l (k:Int)=x:=by unfold nd;rw[Int.toNat_natCast,h];rfl
theorem iz {l:List ai}{k:Nat}{x:ai}(h:l[k]? =some x):ae l (k:Int)=true:=by
 unfold ae
 have:=(aY h).1
 simp;omega
theorem aU {l:List ai}{n:Int}:ae l n=true↔ ∃ (k:Nat) (x:ai),n=(k:Int)∧l[k]? =some x∧nd l n=x:=by
 constructor
 ·intro h
  unfold ae at h
  simp only[bN,bH] at h
  have hk:n.toNat<l.length:=by omega
  have hn:n=(n.toNat:Int):=by omega
  refine⟨n.toNat,l[n.toNat],hn,bD hk,?_⟩
  unfold nd;rw[bD hk];rfl
 ·rintro⟨k,x,rfl,h,_⟩
  exact iz h
theorem jA {α:Type}{p:Nat→α→Bool}:∀ {i:Nat} {l:List α},oc p i l=true↔ ∀k x,l[k]? =some x→p (i+k) x=true
 |i,[]=>by simp[oc]
 | i,a::r=>by
   simp only[oc,bN,jA (i:=i+1) (l:=r)]
   constructor
   ·rintro⟨h1,h2⟩ k x hx
    cases k with
    |zero=>simp at hx;subst hx;exact h1
    |succ k=>have:=h2 k x (by simpa using hx);rw[show i+ (k+1)=i+1+k from by omega];exact this
   ·intro h
    refine⟨h 0 a rfl,fun k x hx=>?_⟩
    have:=h (k+1) x (by simpa using hx)
    rw[show i+1+k=i+ (k+1) from by omega];exact this
@[reducible] def aP (x : ai) : AV := .agg [ah x.kind, bS x.name, bS x.is, bS x.data, cJ x.attrs, ah x.parent, cN x.kids, ah x.host, ah x.under, ah x.doc]
def bF (x:ai):AV:=aP x
@[reducible] def qD (l : List ai) : AV := .sl 10 (l.map bF)
@[reducible] def aM (f : ForM) : AV := .agg [qD f.nodes, ah f.most]
theorem aB {l:List ai}{k:Nat}{x:ai}(h:l[k]? =some x):(l.map bF)[k]? =some (aP x):=by rw[fI,h];rfl
end Go.Proofs.Heir
section
namespace Go.Proofs.Heir
open Go Go.Am Go.RowKit Go.Lib
set_option maxRecDepth 100000
set_option maxHeartbeats 8000000
def jJ (l:List ai):Nat→Int→Bool
 |0,_=>false
 |m+1,n=>if(nd l n).parent=-1 then true else jJ l m (nd l n).parent
def uL (l:List ai):Nat→Int→List Int
 |0,_=>[]
 |m+1,n=>n::if(nd l n).parent=-1 then[] else uL l m (nd l n).parent
def bT (l:List ai):Nat→Int→List Int
 |0,_=>[]
 |m+1,n=>n::(nd l n).kids.flatMap (bT l m)
def bf (l:List ai)(n:Int):List Int:=uL l l.length n
theorem iS {l:List ai}:∀ {m:Nat} {n:Int},fQ l m n=true→jJ l m n=true
 |0,n,h=>by simp[fQ] at h
 | m +1,n,h=>by
   unfold jJ
   by_cases hp:(nd l n).parent=-1
   ·rw[if_pos hp]
   ·rw[if_neg hp]
    have hu:cP (nd l n)=(nd l n).parent:=if_neg hp
    unfold fQ at h
    rw[hu,if_neg hp] at h
    exact iS h
theorem tU (l:List ai):∀ (m:Nat) (n:Int),(uL l m n).length≤m
 |0,_=>Nat.le_refl _
 | m +1,n=>by
   unfold uL
   split
   ·simp
   ·have:=tU l m (nd l n).parent
    simp;omega
theorem pN {l:List ai}:∀ {m k:Nat} {n:Int},jJ l m n=true→m≤k→uL l k n=uL l m n
 |0,k,n,h,_=>by simp[jJ] at h
 | m +1,k,n,h,hk=>by
   obtain⟨k,rfl⟩:∃j,k=j+1:=⟨k-1,by omega⟩
   unfold jJ at h
   unfold uL
   by_cases hp:(nd l n).parent=-1
   ·rw[if_pos hp,if_pos hp]
   ·rw[if_neg hp] at h
    rw[if_neg hp,if_neg hp,pN h (by omega)]
structure Tree (l:List ai):Prop where
 par:∀n,ae l n=true→(nd l n).parent≠-1→ae l (nd l n).parent=true∧n∈ (nd l (nd l n).parent).kids
 kid:∀n,ae l n=true→∀k∈ (nd l n).kids,ae l k=true∧(nd l k).parent=n
 dup:∀n,ae l n=true→(nd l n).kids.Nodup
 fin:∀n,ae l n=true→jJ l l.length n=true
 Gl:∀n,ae l n=true→fo (nd l n)=true
theorem bj {l:List ai}{n:Int}(h:ae l n=true):0≤n∧n< (l.length:Int):=by
 unfold ae at h;simpa using h
variable {l : List ai}
theorem gB (T:Tree l){P:Int→Prop}(h0:∀n,ae l n=true→(nd l n).parent=-1→P n)(h1:∀n,ae l n=true→(nd l n).parent≠-1→ae l (nd l n).parent=true→P (nd l n).parent→P n):∀n,ae l n=true→P n:=by
 have H:∀ (m:Nat) (n:Int),ae l n=true→jJ l m n=true→P n:=by
  intro m
  induction m with
  |zero=>intro n _ h;simp[jJ] at h
  | succ m ih=>
    intro n hn h
    unfold jJ at h
    by_cases hp:(nd l n).parent=-1
    ·exact h0 n hn hp
    ·rw[if_neg hp] at h
     have hq:=(T.par n hn hp).1
     exact h1 n hn hp hq (ih _ hq h)
 exact fun n hn=>H _ n hn (T.fin n hn)
theorem dL (T:Tree l){n:Int}(hn:ae l n=true)(hp:(nd l n).parent=-1):bf l n=[n]:=by
 have:=bj hn
 obtain⟨m,hm⟩:∃m,l.length=m+1:=⟨l.length-1,by omega⟩
 unfold bf;rw[hm];unfold uL;rw[if_pos hp]
theorem bQ (T:Tree l){n:Int}(hn:ae l n=true)(hp:(nd l n).parent≠-1):bf l n=n::bf l (nd l n).parent:=by
 have:=bj hn
 obtain⟨m,hm⟩:∃m,l.length=m+1:=⟨l.length-1,by omega⟩
 have hf:=T.fin n hn
 unfold bf;rw[hm] at hf ⊢
 unfold jJ at hf
 rw[if_neg hp] at hf
 rw[uL,if_neg hp,pN hf (Nat.le_succ m)]
theorem eI (T:Tree l){n k:Int}(hn:ae l n=true)(hk:k∈ (nd l n).kids):bf l k=k::bf l n:=by
 have h:=T.kid n hn k hk
 have h0:=bj hn
 have hp:(nd l k).parent≠-1:=by rw[h.2];omega
 rw[bQ T h.1 hp,h.2]
theorem dI (T:Tree l){n:Int}(hn:ae l n=true):∃r,bf l n=n::r:=by
 by_cases hp:(nd l n).parent=-1
 ·exact⟨[],dL T hn hp⟩
 ·exact⟨_,bQ T hn hp⟩
theorem cj (T:Tree l){n:Int}(hn:ae l n=true):n∈bf l n:=by
 obtain⟨r,hr⟩:=dI T hn;rw[hr];exact gj
theorem l7 (n:Int):(bf l n).length≤l.length:=tU l _ n
theorem iE (T:Tree l):∀n,ae l n=true→∀a∈bf l n,ae l a=true:=by
 refine gB T (fun n hn hp a ha=>?_) (fun n hn hp hq ih a ha=>?_)
 ·rw[dL T hn hp] at ha;rw[gA.1 ha];exact hn
 ·rw[bQ T hn hp] at ha
  rcases dU.1 ha with rfl|h
  ·exact hn
  ·exact ih a h
theorem gw (T:Tree l):∀n,ae l n=true→∀a∈bf l n,∃t,bf l n=t++bf l a:=by
 refine gB T (fun n hn hp a ha=>?_) (fun n hn hp hq ih a ha=>?_)
 ·have h:=ha;rw[dL T hn hp] at h;rw[gA.1 h];exact⟨[],rfl⟩
 ·have h:=ha
  rw[bQ T hn hp] at h
  rcases dU.1 h with rfl|h
  ·exact⟨[],rfl⟩
  ·obtain⟨t,ht⟩:=ih a h
   exact⟨n::t,by rw[bQ T hn hp,ht];rfl⟩
theorem nH (T:Tree l){a b c:Int}(hc:ae l c=true)(h1:a∈bf l b)(h2:b∈bf l c):a∈bf l c:=by
 obtain⟨t,ht⟩:=gw T c hc b h2
 rw[ht];exact List.mem_append_right _ h1
theorem A4 (T:Tree l){n a b:Int}(hn:ae l n=true)(ha:a∈bf l n)(hb:b∈bf l n)(he:(bf l a).length=(bf l b).length):a=b:=by
 obtain⟨t,ht⟩:=gw T n hn a ha
 obtain⟨s,hs⟩:=gw T n hn b hb
 rw[ht] at hs
 have h:=(List.append_inj' hs he).2
 obtain⟨r,hr⟩:=dI T (iE T n hn a ha)
 obtain⟨q,hq⟩:=dI T (iE T n hn b hb)
 rw[hr,hq] at h
 exact(List.cons.inj h).1
theorem dM (T:Tree l):∀ (m:Nat) (n:Int),ae l n=true→∀b∈bT l m n,ae l b=true∧n∈bf l b
 |0,n,_,b,hb=>by simp[bT] at hb
 | m +1,n,hn,b,hb=>by
   unfold bT at hb
   rcases dU.1 hb with rfl|h
   ·exact⟨hn,cj T hn⟩
   ·obtain⟨k,hk,hbk⟩:=List.mem_flatMap.1 h
    have hkk:=T.kid n hn k hk
    obtain⟨h1,h2⟩:=dM T m k hkk.1 b hbk
    refine⟨h1,nH T h1 ?_ h2⟩
    rw[eI T hn hk]
    exact eP _ (cj T hn)
theorem qp (T:Tree l):∀ (m:Nat) (n:Int),ae l n=true→l.length+1≤m+ (bf l n).length→∀x∈bT l m n,∀k∈ (nd l x).kids,k∈bT l m n
 |0,n,_,_,x,hx,_,_=>by simp[bT] at hx
 | m +1,n,hn,hm,x,hx,k,hk=>by
   unfold bT at hx ⊢
   refine eP _ (List.mem_flatMap.2 ?_)
   rcases dU.1 hx with rfl|h
   ·have hkk:=T.kid x hn k hk
    have h1:=l7 (l:=l) k
    rw[eI T hn hk] at h1
    have h2:(bf l x).length+1≤l.length:=h1
    obtain⟨j,hj⟩:∃j,m=j+1:=⟨m-1,by omega⟩
    refine⟨k,hk,?_⟩
    rw[hj];unfold bT;exact gj
   ·obtain⟨c,hc,hxc⟩:=List.mem_flatMap.1 h
    have hcc:=T.kid n hn c hc
    refine⟨c,hc,qp T m c hcc.1 ?_ x hxc k hk⟩
    rw[eI T hn hc];simp;omega
theorem wP (T:Tree l){m:Nat}{n:Int}(hn:ae l n=true)(hm:l.length+1≤m+ (bf l n).length):∀b,ae l b=true→n∈bf l b→b∈bT l m n:=by
 have hself:n∈bT l m n:=by
  have:=l7 (l:=l) n
  obtain⟨j,hj⟩:∃j,m=j+1:=⟨m-1,by omega⟩
  rw[hj];unfold bT;exact gj
 refine gB T (fun b hb hp h=>?_) (fun b hb hp hq ih h=>?_)
 ·rw[dL T hb hp] at h;rw[←gA.1 h];exact hself
 ·rw[bQ T hb hp] at h
  rcases dU.1 h with rfl|h
  ·exact hself
  ·exact qp T m n hn hm _ (ih h) _ (T.par b hb hp).2
theorem ug (T:Tree l){n:Int}(hn:ae l n=true):l.length+1≤l.length+ (bf l n).length:=by
 obtain⟨r,hr⟩:=dI T hn
 rw[hr];simp
theorem ju (T:Tree l){a b:Int}(ha:ae l a=true)(hb:ae l b=true):b∈bT l l.length a↔a∈bf l b:=
 ⟨fun h=>(dM T _ a ha b h).2,fun h=>wP T ha (ug T ha) b hb h⟩
theorem jD (T:Tree l):∀ (m:Nat) (n:Int),ae l n=true→(bT l m n).Nodup
 |0,_,_=>List.nodup_nil
 | m +1,n,hn=>by
   unfold bT
   refine List.nodup_cons.2 ⟨fun h=>?_,?_⟩
   ·obtain⟨k,hk,hnk⟩:=List.mem_flatMap.1 h
    have hkk:=T.kid n hn k hk
    have h1:=(dM T m k hkk.1 n hnk).2
    obtain⟨t,ht⟩:=gw T n hn k h1
    have h2:=congrArg List.length ht
    rw[eI T hn hk] at h2
    simp at h2
    omega
   ·refine List.pairwise_flatMap.2 ⟨fun k hk=>jD T m k (T.kid n hn k hk).1,?_⟩
    refine List.Pairwise.imp_of_mem (fun{a b} ha hb hab x hx y hy e=>?_) (T.dup n hn)
    subst e
    have h1:=dM T m a (T.kid n hn a ha).1 x hx
    have h2:=dM T m b (T.kid n hn b hb).1 x hy
    refine hab (A4 T h1.1 h1.2 h2.2 ?_)
    rw[eI T hn ha,eI T hn hb];rfl
theorem vG:∀ (s t:List Int),t.Nodup→(∀x∈t,x∈s)→t.length≤s.length
 | [],t,_,h=>by
   cases t with
   |nil=>exact Nat.le_refl _
   |cons a r=>exact absurd (h a gj) (by simp)
 | a::s,t,hd,h=>by
   have h1:=vG s (t.erase a) (hd.erase a) (fun x hx=>by
   have h2:=(hd.mem_erase_iff).1 hx
   rcases dU.1 (h x h2.2) with e|e
   ·exact absurd e h2.1
   ·exact e)
   have h3:t.length≤ (t.erase a).length+1:=by rw[List.length_erase];split<;>omega
   simp;omega
theorem qf {t:List Int}{n:Nat}(hd:t.Nodup)(h:∀x∈t,0≤x∧x< (n:Int)):t.length≤n:=by
 have:=vG ((List.range n).map (fun k:Nat=>(k:Int))) t hd (fun x hx=>by
  have:=h x hx
  exact List.mem_map.2 ⟨x.toNat,List.mem_range.2 (by omega),by omega⟩)
 simpa using this
theorem sA (T:Tree l)(m:Nat){n:Int}(hn:ae l n=true):(bT l m n).length≤l.length:=
 qf (jD T m n hn) fun x hx=>bj (dM T m n hn x hx).1
def zq (l:List ai)(n:Int)(x:ai)(c:Int):Bool:=
 ae l c&&(decide ((nd l c).parent=n)&&(decide ((nd l c).doc=x.doc)&&(decide ((nd l c).kind=1)||(decide ((nd l c).kind=2)&&decide (x.kind≠0)))))
theorem mc {n:Int}{x:ai}:∀ {cs pre:List Int},kI l n x pre cs=true↔ (∀c∈cs,zq l n x c=true)∧cs.Nodup∧(∀c∈cs,c∉pre)
 |[],pre=>by simp[kI]
 | a ::r,pre=>by
   have hk:zz l n x pre a=true↔zq l n x a=true∧a∉pre:=by
    unfold zz zq tu
    simp only[bN,j8,bH,Bool.not_eq_true',cR]
    constructor
    ·rintro⟨⟨⟨⟨h1,h2⟩,h3⟩,h4⟩,h5⟩;exact⟨⟨h1,h3,h4,h5⟩,h2⟩
    ·rintro⟨⟨h1,h3,h4,h5⟩,h2⟩;exact⟨⟨⟨⟨h1,h2⟩,h3⟩,h4⟩,h5⟩
   unfold kI
   rw[bN,hk,mc,List.nodup_cons]
   constructor
   ·rintro⟨⟨h1,h2⟩,h3,h4,h5⟩
    refine⟨fun c hc=>?_,⟨fun h=>?_,h4⟩,fun c hc=>?_⟩
    ·rcases dU.1 hc with rfl|h
     ·exact h1
     ·exact h3 c h
    ·exact h5 a h (by simp)
    ·rcases dU.1 hc with rfl|h
     ·exact h2
     ·exact fun h6=>h5 c h (List.mem_append_left _ h6)
   ·rintro⟨h1,⟨h2,h3⟩,h4⟩
    refine⟨⟨h1 a gj,h4 a gj⟩,fun c hc=>h1 c (eP _ hc),h3,fun c hc h=>?_⟩
    rcases List.mem_append.1 h with h|h
    ·exact h4 c (eP _ hc) h
    ·rw[gA] at h;subst h;exact h2 hc
theorem rE {f:ForM}(h:bt f=true):∀n,ae f.nodes n=true→dB f.nodes n (nd f.nodes n)=true:=by
 intro n hn
 obtain⟨k,x,rfl,hk,hx⟩:=aU.1 hn
 unfold bt at h
 simp only[bN] at h
 have:=jA.1 h.2.1 k x hk
 rw[hx];simpa using this
theorem sM {f:ForM}(h:bt f=true):∀n,ae f.nodes n=true→fQ f.nodes f.nodes.length n=true:=by
 intro n hn
 obtain⟨k,x,rfl,hk,hx⟩:=aU.1 hn
 unfold bt at h
 simp only[bN] at h
 simpa using jA.1 h.2.2 k x hk
theorem jv {f:ForM}(h:bt f=true):Tree f.nodes:=by
 have hN:=rE h
 have hB:∀n,ae f.nodes n=true→(∀c∈ (nd f.nodes n).kids,zq f.nodes n (nd f.nodes n) c=true)∧(nd f.nodes n).kids.Nodup:=by
  intro n hn
  have h1:=hN n hn
  unfold dB oW at h1
  simp only[bN] at h1
  have:=mc.1 h1.2.2.2.1.1
  exact⟨this.1,this.2.1⟩
 refine⟨fun n hn hp=>?_,fun n hn k hk=>?_,fun n hn=>(hB n hn).2,fun n hn=>iS (sM h n hn),fun n hn=>?_⟩
 ·have h1:=hN n hn
  unfold dB rK at h1
  simp only[bN,j8,bH] at h1
  rcases h1.2.2.1 with h2|h2
  ·exact absurd h2 hp
  ·refine⟨h2.1.1.2,?_⟩
   have:=h2.2
   unfold tu at this;simpa using this
 ·have h1:=(hB n hn).1 k hk
  unfold zq at h1
  simp only[bN,bH] at h1
  exact⟨h1.1,h1.2.1⟩
 ·have h1:=hN n hn
  unfold dB at h1
  simp only[bN] at h1
  exact h1.1
end Go.Proofs.Heir
end
section
namespace Go.Proofs.Heir
open Go Go.Am Go.RowKit Go.Lib
set_option maxRecDepth 100000
set_option maxHeartbeats 8000000
variable {l : List ai}
theorem zM (T:Tree l){n:Int}(hn:ae l n=true):(nd l n).kind=1∨((nd l n).kind≠1∧(nd l n).name=⟨#[]⟩∧(nd l n).attrs=[]):=by
 have h:=T.Gl n hn
 unfold fo at h
 by_cases e1:(nd l n).kind=1
 ·exact .inl e1
 ·right
  rw[if_neg e1] at h
  refine⟨e1,?_⟩
  split at h
  ·simp only[bN,bH] at h
   exact⟨h.1.1.2,h.2⟩
  ·split at h
   ·simp only[bN,bH] at h
    exact⟨h.1.1.1,h.2⟩
   ·cases h
end Go.Proofs.Heir
end
section
namespace Go.Proofs.Heir
open Go Go.Am Go.RowKit Go.Lib
set_option maxRecDepth 100000
set_option maxHeartbeats 8000000
def fZ (g:Int→Int):Nat→Int→Bool
 |0,_=>false
 |m+1,n=>if g n=-1 then true else fZ g m (g n)
def r5 (g:Int→Int):Nat→Int→List Int
 |0,_=>[]
 |m+1,n=>n::if g n=-1 then[] else r5 g m (g n)
theorem zk {g:Int→Int}:∀ {m k:Nat} {n:Int},fZ g m n=true→m≤k→r5 g k n=r5 g m n∧fZ g k n=true
 |0,k,n,h,_=>by simp[fZ] at h
 | m +1,k,n,h,hk=>by
   obtain⟨k,rfl⟩:∃j,k=j+1:=⟨k-1,by omega⟩
   unfold fZ at h ⊢
   unfold r5
   by_cases hp:g n=-1
   ·rw[if_pos hp,if_pos hp,if_pos hp];exact⟨rfl,rfl⟩
   ·rw[if_neg hp] at h
    rw[if_neg hp,if_neg hp,if_neg hp,(zk h (Nat.le_of_succ_le_succ hk)).1]
    exact⟨rfl,(zk h (Nat.le_of_succ_le_succ hk)).2⟩
theorem KO {g:Int→Int}:∀ {m:Nat} {n a:Int},fZ g m n=true→a∈r5 g m n→fZ g m a=true∧∃t,r5 g m n=t++r5 g m a
 |0,n,a,h,_=>by simp[fZ] at h
 | m + 1,n,a,h,ha=>by
   by_cases e:a=n
   ·subst e;exact⟨h,[],rfl⟩
   ·unfold fZ at h
    unfold r5 at ha
    by_cases hp:g n=-1
    ·rw[if_pos hp] at ha;exact absurd (gA.1 ha) e
    ·rw[if_neg hp] at h ha
     rcases dU.1 ha with h1|h1
     ·exact absurd h1 e
     ·obtain⟨h2,t,ht⟩:=KO h h1
      have h3:=zk h2 (Nat.le_succ m)
      refine⟨h3.2,n::t,?_⟩
      rw[show m.succ=m+1 from rfl] at h3
      rw[h3.1,r5,if_neg hp,ht];rfl
theorem KJ {g:Int→Int}:∀ {m:Nat} {n:Int},fZ g m n=true→(r5 g m n).Nodup
 |0,n,h=>by simp[fZ] at h
 | m +1,n,h=>by
   have h0:=h
   unfold fZ at h
   unfold r5
   by_cases hp:g n=-1
   ·rw[if_pos hp];simp
   ·rw[if_neg hp] at h ⊢
    refine List.nodup_cons.2 ⟨fun hin=>?_,KJ h⟩
    obtain⟨h2,t,ht⟩:=KO h hin
    have h3:=(zk h2 (Nat.le_succ m)).1
    rw[show m.succ=m+1 from rfl,r5,if_neg hp,ht] at h3
    have:=congrArg List.length h3
    simp at this
    omega
theorem Ki {g:Int→Int}:∀ {m k:Nat} {n:Int},fZ g m n=true→(r5 g m n).length≤k→fZ g k n=true
 |0,k,n,h,_=>by simp[fZ] at h
 |m+1,0,n,_,hk=>by unfold r5 at hk;simp at hk
 | m +1,k+1,n,h,hk=>by
   unfold fZ at h ⊢
   unfold r5 at hk
   by_cases hp:g n=-1
   ·rw[if_pos hp]
   ·rw[if_neg hp] at h hk ⊢
    exact Ki h (by simp at hk;omega)
theorem Lb {g:Int→Int}{P:Int→Prop}(hg:∀n,P n→g n≠-1→P (g n)):∀ {m:Nat} {n:Int},P n→∀a∈r5 g m n,P a
 |0,n,_,a,ha=>by simp[r5] at ha
 | m +1,n,hn,a,ha=>by
   unfold r5 at ha
   rcases dU.1 ha with rfl|h
   ·exact hn
   ·by_cases hp:g n=-1
    ·rw[if_pos hp] at h;simp at h
    ·rw[if_neg hp] at h
     exact Lb hg (hg n hn hp) a h
theorem gU (l:List ai):∀ (m:Nat) (n:Int),fQ l m n=fZ (fun n=>cP (nd l n)) m n
 |0,_=>rfl
 |m+1,n=>by unfold fQ fZ;rw[gU l m]
def Io (x:ai):Bool:=
 if x.kind=1 then bJ x.name&&decide (dy x.name=x.name)&&(decide (x.is=⟨#[]⟩)||lN x.is)&&decide (x.data=⟨#[]⟩)&&cn x.attrs
 else decide (x.name=⟨#[]⟩)&&decide (x.is=⟨#[]⟩)&&decide (x.attrs=[])&&(decide (x.data=⟨#[]⟩)||(decide (x.kind=2)&&decide (x.data.size≤200)))
theorem zW {x:ai}:fo x=true↔ (0≤x.kind∧x.kind≤4)∧Io x=true:=by
 unfold fo Io
 by_cases e1:x.kind=1
 ·rw[if_pos e1,if_pos e1]
  exact⟨fun h=>⟨by omega,h⟩,fun h=>h.2⟩
 ·rw [if_neg e1,if_neg e1]
  by_cases e2:x.kind=2
  ·rw[if_pos e2]
   simp only[bN,j8,bH]
   constructor
   ·rintro⟨⟨⟨h1,h2⟩,h3⟩,h4⟩
    exact⟨by omega,⟨⟨h2,h3⟩,h4⟩,.inr ⟨e2,h1⟩⟩
   ·rintro⟨_,⟨⟨h2,h3⟩,h4⟩,h5⟩
    refine⟨⟨⟨?_,h2⟩,h3⟩,h4⟩
    rcases h5 with h|h
    ·rw[h];exact Nat.zero_le _
    ·exact h.2
  ·rw [if_neg e2]
   by_cases e3:x.kind=0∨x.kind=3∨x.kind=4
   ·rw[if_pos e3]
    simp only[bN,j8,bH]
    constructor
    ·rintro⟨⟨⟨h1,h2⟩,h3⟩,h4⟩
     exact⟨by omega,⟨⟨h1,h2⟩,h4⟩,.inl h3⟩
    ·rintro⟨_,⟨⟨h1,h2⟩,h4⟩,h3|h3⟩
     ·exact⟨⟨⟨h1,h2⟩,h3⟩,h4⟩
     ·exact absurd h3.1 e2
   ·rw[if_neg e3]
    constructor
    ·intro h;cases h
    ·rintro⟨h,_⟩;omega
variable {l : List ai}
theorem GX (h:∀n,ae l n=true→dB l n (nd l n)=true):∀n,ae l n=true→cP (nd l n)=-1∨ae l (cP (nd l n))=true:=by
 intro n hn
 have h0:=h n hn
 unfold dB at h0
 simp only[bN] at h0
 obtain⟨_,_,hH,_,hS⟩:=h0
 unfold cP
 unfold rK at hH
 simp only[bN,j8,bH] at hH
 by_cases e:(nd l n).parent=-1
 ·rw[if_pos e]
  unfold kF at hS
  rw[bN] at hS
  by_cases e4:(nd l n).kind=4
  ·rw[if_pos e4] at hS
   unfold j7 at hS
   simp only[bN] at hS
   exact .inr hS.1.1.1.1
  ·rw[if_neg e4] at hS
   exact .inl (by simpa using hS.1)
 ·rw[if_neg e]
  rcases hH with h|h
  ·exact absurd h e
  ·exact .inr h.1.1.2
theorem vn (p:Int→ai→Bool):oc (fun k x=>p k x) 0 l=true↔ ∀n,ae l n=true→p n (nd l n)=true:=by
 rw[jA]
 constructor
 ·intro h n hn
  obtain⟨k,x,rfl,hk,hx⟩:=aU.1 hn
  have:=h k x hk
  rw[hx];simpa using this
 ·intro h k x hk
  have:=h k (iz hk)
  rw[cU hk] at this
  simpa using this
end Go.Proofs.Heir
end
namespace Go.Proofs.Heir
open Go Go.Am Go.RowKit Go.Lib
set_option maxRecDepth 100000
set_option maxHeartbeats 8000000
def CY (x:ai):List Int:=(if x.under=-1 then[] else[x.under])++x.kids
namespace U
def jJ (l:List ai):Nat→Int→Bool
 |0,_=>false
 |m+1,n=>if(cP (nd l n))=-1 then true else jJ l m (cP (nd l n))
def uL (l:List ai):Nat→Int→List Int
 |0,_=>[]
 |m+1,n=>n::if(cP (nd l n))=-1 then[] else uL l m (cP (nd l n))
def bT (l:List ai):Nat→Int→List Int
 |0,_=>[]
 |m+1,n=>n::(CY (nd l n)).flatMap (bT l m)
def bf (l:List ai)(n:Int):List Int:=uL l l.length n
theorem iS {l:List ai}:∀ {m:Nat} {n:Int},fQ l m n=true→jJ l m n=true
 |0,n,h=>by simp[fQ] at h
 | m+1,n,h=>by
   unfold jJ;unfold fQ at h
   by_cases hp:cP (nd l n)=-1
   ·rw[if_pos hp]
   ·rw[if_neg hp] at h ⊢;exact iS h
theorem tU (l:List ai):∀ (m:Nat) (n:Int),(uL l m n).length≤m
 |0,_=>Nat.le_refl _
 | m +1,n=>by
   unfold uL
   split
   ·simp
   ·have:=tU l m (cP (nd l n))
    simp;omega
theorem pN {l:List ai}:∀ {m k:Nat} {n:Int},jJ l m n=true→m≤k→uL l k n=uL l m n
 |0,k,n,h,_=>by simp[jJ] at h
 | m +1,k,n,h,hk=>by
   obtain⟨k,rfl⟩:∃j,k=j+1:=⟨k-1,by omega⟩
   unfold jJ at h
   unfold uL
   by_cases hp:(cP (nd l n))=-1
   ·rw[if_pos hp,if_pos hp]
   ·rw[if_neg hp] at h
    rw[if_neg hp,if_neg hp,pN h (by omega)]
structure Tree (l:List ai):Prop where
 par:∀n,ae l n=true→(cP (nd l n))≠-1→ae l (cP (nd l n))=true∧n∈ (CY (nd l (cP (nd l n))))
 kid:∀n,ae l n=true→∀k∈ (CY (nd l n)),ae l k=true∧(cP (nd l k))=n
 dup:∀n,ae l n=true→(CY (nd l n)).Nodup
 fin:∀n,ae l n=true→jJ l l.length n=true
variable {l : List ai}
theorem gB (T:Tree l){P:Int→Prop}(h0:∀n,ae l n=true→(cP (nd l n))=-1→P n)(h1:∀n,ae l n=true→(cP (nd l n))≠-1→ae l (cP (nd l n))=true→P (cP (nd l n))→P n):∀n,ae l n=true→P n:=by
 have H:∀ (m:Nat) (n:Int),ae l n=true→jJ l m n=true→P n:=by
  intro m
  induction m with
  |zero=>intro n _ h;simp[jJ] at h
  | succ m ih=>
    intro n hn h
    unfold jJ at h
    by_cases hp:(cP (nd l n))=-1
    ·exact h0 n hn hp
    ·rw[if_neg hp] at h
     have hq:=(T.par n hn hp).1
     exact h1 n hn hp hq (ih _ hq h)
 exact fun n hn=>H _ n hn (T.fin n hn)
theorem dL (T:Tree l){n:Int}(hn:ae l n=true)(hp:(cP (nd l n))=-1):bf l n=[n]:=by
 have:=bj hn
 obtain⟨m,hm⟩:∃m,l.length=m+1:=⟨l.length-1,by omega⟩
 unfold bf;rw[hm];unfold uL;rw[if_pos hp]
theorem bQ (T:Tree l){n:Int}(hn:ae l n=true)(hp:(cP (nd l n))≠-1):bf l n=n::bf l (cP (nd l n)):=by
 have:=bj hn
 obtain⟨m,hm⟩:∃m,l.length=m+1:=⟨l.length-1,by omega⟩
 have hf:=T.fin n hn
 unfold bf;rw[hm] at hf ⊢
 unfold jJ at hf
 rw[if_neg hp] at hf
 rw[uL,if_neg hp,pN hf (Nat.le_succ m)]
theorem eI (T:Tree l){n k:Int}(hn:ae l n=true)(hk:k∈ (CY (nd l n))):bf l k=k::bf l n:=by
 have h:=T.kid n hn k hk
 have h0:=bj hn
 have hp:(cP (nd l k))≠-1:=by rw[h.2];omega
 rw[bQ T h.1 hp,h.2]
theorem dI (T:Tree l){n:Int}(hn:ae l n=true):∃r,bf l n=n::r:=by
 by_cases hp:(cP (nd l n))=-1
 ·exact⟨[],dL T hn hp⟩
 ·exact⟨_,bQ T hn hp⟩
theorem cj (T:Tree l){n:Int}(hn:ae l n=true):n∈bf l n:=by
 obtain⟨r,hr⟩:=dI T hn;rw[hr];exact gj
theorem l7 (n:Int):(bf l n).length≤l.length:=tU l _ n
theorem iE (T:Tree l):∀n,ae l n=true→∀a∈bf l n,ae l a=true:=by
 refine gB T (fun n hn hp a ha=>?_) (fun n hn hp hq ih a ha=>?_)
 ·rw[dL T hn hp] at ha;rw[gA.1 ha];exact hn
 ·rw[bQ T hn hp] at ha
  rcases dU.1 ha with rfl|h
  ·exact hn
  ·exact ih a h
theorem gw (T:Tree l):∀n,ae l n=true→∀a∈bf l n,∃t,bf l n=t++bf l a:=by
 refine gB T (fun n hn hp a ha=>?_) (fun n hn hp hq ih a ha=>?_)
 ·have h:=ha;rw[dL T hn hp] at h;rw[gA.1 h];exact⟨[],rfl⟩
 ·have h:=ha
  rw[bQ T hn hp] at h
  rcases dU.1 h with rfl|h
  ·exact⟨[],rfl⟩
  ·obtain⟨t,ht⟩:=ih a h
   exact⟨n::t,by rw[bQ T hn hp,ht];rfl⟩
theorem nH (T:Tree l){a b c:Int}(hc:ae l c=true)(h1:a∈bf l b)(h2:b∈bf l c):a∈bf l c:=by
 obtain⟨t,ht⟩:=gw T c hc b h2
 rw[ht];exact List.mem_append_right _ h1
theorem A4 (T:Tree l){n a b:Int}(hn:ae l n=true)(ha:a∈bf l n)(hb:b∈bf l n)(he:(bf l a).length=(bf l b).length):a=b:=by
 obtain⟨t,ht⟩:=gw T n hn a ha
 obtain⟨s,hs⟩:=gw T n hn b hb
 rw[ht] at hs
 have h:=(List.append_inj' hs he).2
 obtain⟨r,hr⟩:=dI T (iE T n hn a ha)
 obtain⟨q,hq⟩:=dI T (iE T n hn b hb)
 rw[hr,hq] at h
 exact(List.cons.inj h).1
theorem dM (T:Tree l):∀ (m:Nat) (n:Int),ae l n=true→∀b∈bT l m n,ae l b=true∧n∈bf l b
 |0,n,_,b,hb=>by simp[bT] at hb
 | m +1,n,hn,b,hb=>by
   unfold bT at hb
   rcases dU.1 hb with rfl|h
   ·exact⟨hn,cj T hn⟩
   ·obtain⟨k,hk,hbk⟩:=List.mem_flatMap.1 h
    have hkk:=T.kid n hn k hk
    obtain⟨h1,h2⟩:=dM T m k hkk.1 b hbk
    refine⟨h1,nH T h1 ?_ h2⟩
    rw[eI T hn hk]
    exact eP _ (cj T hn)
theorem qp (T:Tree l):∀ (m:Nat) (n:Int),ae l n=true→l.length+1≤m+ (bf l n).length→∀x∈bT l m n,∀k∈ (CY (nd l x)),k∈bT l m n
 |0,n,_,_,x,hx,_,_=>by simp[bT] at hx
 | m +1,n,hn,hm,x,hx,k,hk=>by
   unfold bT at hx ⊢
   refine eP _ (List.mem_flatMap.2 ?_)
   rcases dU.1 hx with rfl|h
   ·have hkk:=T.kid x hn k hk
    have h1:=l7 (l:=l) k
    rw[eI T hn hk] at h1
    have h2:(bf l x).length+1≤l.length:=h1
    obtain⟨j,hj⟩:∃j,m=j+1:=⟨m-1,by omega⟩
    refine⟨k,hk,?_⟩
    rw[hj];unfold bT;exact gj
   ·obtain⟨c,hc,hxc⟩:=List.mem_flatMap.1 h
    have hcc:=T.kid n hn c hc
    refine⟨c,hc,qp T m c hcc.1 ?_ x hxc k hk⟩
    rw[eI T hn hc];simp;omega
theorem wP (T:Tree l){m:Nat}{n:Int}(hn:ae l n=true)(hm:l.length+1≤m+ (bf l n).length):∀b,ae l b=true→n∈bf l b→b∈bT l m n:=by
 have hself:n∈bT l m n:=by
  have:=l7 (l:=l) n
  obtain⟨j,hj⟩:∃j,m=j+1:=⟨m-1,by omega⟩
  rw[hj];unfold bT;exact gj
 refine gB T (fun b hb hp h=>?_) (fun b hb hp hq ih h=>?_)
 ·rw[dL T hb hp] at h;rw[←gA.1 h];exact hself
 ·rw[bQ T hb hp] at h
  rcases dU.1 h with rfl|h
  ·exact hself
  ·exact qp T m n hn hm _ (ih h) _ (T.par b hb hp).2
theorem ug (T:Tree l){n:Int}(hn:ae l n=true):l.length+1≤l.length+ (bf l n).length:=by
 obtain⟨r,hr⟩:=dI T hn
 rw[hr];simp
theorem ju (T:Tree l){a b:Int}(ha:ae l a=true)(hb:ae l b=true):b∈bT l l.length a↔a∈bf l b:=
 ⟨fun h=>(dM T _ a ha b h).2,fun h=>wP T ha (ug T ha) b hb h⟩
theorem jD (T:Tree l):∀ (m:Nat) (n:Int),ae l n=true→(bT l m n).Nodup
 |0,_,_=>List.nodup_nil
 | m +1,n,hn=>by
   unfold bT
   refine List.nodup_cons.2 ⟨fun h=>?_,?_⟩
   ·obtain⟨k,hk,hnk⟩:=List.mem_flatMap.1 h
    have hkk:=T.kid n hn k hk
    have h1:=(dM T m k hkk.1 n hnk).2
    obtain⟨t,ht⟩:=gw T n hn k h1
    have h2:=congrArg List.length ht
    rw[eI T hn hk] at h2
    simp at h2
    omega
   ·refine List.pairwise_flatMap.2 ⟨fun k hk=>jD T m k (T.kid n hn k hk).1,?_⟩
    refine List.Pairwise.imp_of_mem (fun{a b} ha hb hab x hx y hy e=>?_) (T.dup n hn)
    subst e
    have h1:=dM T m a (T.kid n hn a ha).1 x hx
    have h2:=dM T m b (T.kid n hn b hb).1 x hy
    refine hab (A4 T h1.1 h1.2 h2.2 ?_)
    rw[eI T hn ha,eI T hn hb];rfl
theorem sA (T:Tree l)(m:Nat){n:Int}(hn:ae l n=true):(bT l m n).length≤l.length:=
 qf (jD T m n hn) fun x hx=>bj (dM T m n hn x hx).1
theorem jv {f:ForM}(h:bt f=true):Tree f.nodes:=by
 have hN:=rE h
 have T:=Heir.jv h
 have kidK:∀n,ae f.nodes n=true→∀c∈ (nd f.nodes n).kids,(nd f.nodes c).kind=1∨(nd f.nodes c).kind=2:=by
  intro n hn c hc
  have h1:=hN n hn
  unfold dB oW at h1
  simp only[bN] at h1
  have h2:=(mc.1 h1.2.2.2.1.1).1 c hc
  unfold zq at h2
  simp only[bN,j8,bH] at h2
  rcases h2.2.2.2 with h3|h3
  ·exact .inl h3
  ·exact .inr h3.1
 have und:∀n,ae f.nodes n=true→(nd f.nodes n).under≠-1→ae f.nodes (nd f.nodes n).under=true∧(nd f.nodes (nd f.nodes n).under).kind=4∧(nd f.nodes (nd f.nodes n).under).host=n:=by
  intro n hn hu
  have h1:=hN n hn
  unfold dB kF j7 at h1
  simp only[bN,j8,bH] at h1
  rcases h1.2.2.2.2.2 with h2|h2
  ·exact absurd h2 hu
  ·exact⟨h2.1.2.1,h2.1.2.2,h2.2⟩
 have top4:∀n,ae f.nodes n=true→(nd f.nodes n).kind=4→(nd f.nodes n).parent=-1:=by
  intro n hn hk
  have h1:=hN n hn
  unfold dB rK at h1
  simp only[bN,j8,bH] at h1
  rcases h1.2.2.1 with h2|h2
  ·exact h2
  ·rcases h2.1.1.1 with h3|h3<;>(rw[hk] at h3;cases h3)
 have mem:∀ (x:ai) (k:Int),k∈CY x↔ (x.under≠-1∧k=x.under)∨k∈x.kids:=by
  intro x k
  unfold CY
  rw[List.mem_append]
  by_cases hu:x.under=-1
  ·simp[hu]
  ·simp[hu]
 refine⟨fun n hn hp=>?_,fun n hn k hk=>?_,fun n hn=>?_,fun n hn=>iS (sM h n hn)⟩
 ·unfold cP at hp ⊢
  by_cases hq:(nd f.nodes n).parent=-1
  ·rw[if_pos hq] at hp ⊢
   have h1:=hN n hn
   unfold dB kF at h1
   simp only[bN] at h1
   have h2:=h1.2.2.2.2.1
   by_cases hk:(nd f.nodes n).kind=4
   ·rw[if_pos hk] at h2
    unfold j7 at h2
    simp only[bN,bH] at h2
    refine⟨h2.1.1.1,(mem _ _).2 (.inl ⟨?_,h2.1.2.symm⟩)⟩
    rw[h2.1.2]
    have:=bj hn
    omega
   ·rw[if_neg hk] at h2
    exact absurd (by simpa using h2) hp
  ·rw[if_neg hq]
   have h1:=T.par n hn hq
   exact⟨h1.1,(mem _ _).2 (.inr h1.2)⟩
 ·have hn0:=bj hn
  rcases(mem _ _).1 hk with⟨h1,rfl⟩|h1
  ·obtain⟨h2,h3,h4⟩:=und n hn h1
   exact⟨h2,by unfold cP;rw[if_pos (top4 _ h2 h3)];exact h4⟩
  ·obtain⟨h2,h3⟩:=T.kid n hn k h1
   exact⟨h2,by unfold cP;rw[if_neg (by rw[h3];omega)];exact h3⟩
 ·unfold CY
  by_cases hu:(nd f.nodes n).under=-1
  ·rw[if_pos hu];exact T.dup n hn
  ·rw[if_neg hu]
   refine List.nodup_cons.2 ⟨fun hm=>?_,T.dup n hn⟩
   have h1:=(und n hn hu).2.1
   rcases kidK n hn _ hm with h2|h2<;>(rw[h1] at h2;cases h2)
end U
theorem iT.take {rb rs:List AV}{off len off' len' bytes:Nat}{acc:Tk}{sl:SL}{m:ML}{A:List AV→Tk→SL→ML→Prop}(rows0 news:List AV)(h0:off=0∧len≤rb.length∧rows0=rb.take len)(h1:off'=0∧len'=rs.length∧news=rs)(h2:kP (flat news)=true)
  (h3:(rows0.length+news.length)*bytes≤140737488355328) (h4:rows0.length+news.length≤9223372036854775807) (h:A (rows0++news) acc sl m):iT rb off len rs off' len' bytes acc sl m (A:=A):=by
 obtain⟨rfl,hl,rfl⟩:=h0
 obtain⟨rfl,rfl,rfl⟩:=h1
 exact⟨_,_,by omega,by simp,by omega,by simp,h2,h3,h4,h⟩
theorem gg {α β:Type}{f g:α→List β}:∀ {l:List α},(∀a∈l,f a=g a)→l.flatMap f=l.flatMap g
 |[],_=>rfl
 |a::r,h=>by rw[List.flatMap_cons,List.flatMap_cons,h a gj,gg fun b hb=>h b (eP _ hb)]
namespace U
variable {l : List ai}
theorem nh (T:Tree l):∀ (m:Nat) (n:Int),ae l n=true→l.length+1≤m+ (bf l n).length→bT l (m+1) n=bT l m n
 |0,n,_,h=>by have:=l7 (l:=l) n;omega
 | m+1,n,hn,h=>by
   rw[bT,bT]
   congr 1
   refine gg fun k hk=>?_
   refine nh T m k (T.kid n hn k hk).1 ?_
   rw[eI T hn hk];simp;omega
theorem ord_eq (T:Tree l){n:Int}(hn:ae l n=true):bT l l.length n=n::(CY (nd l n)).flatMap (bT l l.length):=by
 have h0:=bj hn
 obtain⟨m,hm⟩:∃m,l.length=m+1:=⟨l.length-1,by omega⟩
 have h1:∀k∈CY (nd l n),bT l l.length k=bT l m k:=fun k hk=>by
  rw[hm]
  refine nh T m k (T.kid n hn k hk).1 ?_
  obtain⟨r,hr⟩:=dI T hn
  rw[eI T hn hk,hr];simp;omega
 conv=>lhs;rw[hm,bT]
 congr 1
 exact gg fun k hk=>(h1 k hk).symm
def rest (l:List ai)(st:List Int):List Int:=st.reverse.flatMap (bT l l.length)
theorem yL (T:Tree l){st:List Int}{t:Int}(ht:ae l t=true):rest l (st++ [t])=t::rest l (st++ (CY (nd l t)).reverse):=by
 unfold rest
 rw[List.reverse_append,List.reverse_append,List.reverse_reverse]
 simp only[List.reverse_cons,List.reverse_nil,List.nil_append,List.cons_append,List.flatMap_cons,List.flatMap_append]
 rw[ord_eq T ht];rfl
theorem zi (T:Tree l):∀ {st:List Int},(∀c∈st,ae l c=true)→st.length≤ (rest l st).length:=by
 intro st h
 unfold rest
 have:∀s:List Int,(∀c∈s,ae l c=true)→s.length≤ (s.flatMap (bT l l.length)).length:=by
  intro s
  induction s with
  |nil=>intro _;exact Nat.le_refl _
  | cons a r ih=>
    intro h
    have h1:=ih fun c hc=>h c (eP _ hc)
    rw[List.flatMap_cons,kf,ord_eq T (h a gj),List.length_cons,List.length_cons]
    omega
 have:=this st.reverse fun c hc=>h c (by simpa using hc)
 simpa using this
end U

theorem xq (f:ForM)(n:Int):ak Tryz.prog 129 [] [aM f,ah n] [] (bC (ae f.nodes n)):=by
 obtain⟨l,m⟩:=f
 have hlm:(l.map bF).length=l.length:=bW ..
 refine ak.aD (rvs:=[.tmp 4]) G au Tryz.func129 rfl Tryz.ntmps129 rfl rfl ?_;with_reducible refine wD ?_
 by_cases h:(0:Int)≤n
 ·(have fct:=h;(repeat' (first
  |refine gF ?_|refine aE ?_ ?_
  |apply trivial));all_goals clear fct)
  all_goals simp[ae,h]
 ·(have fct:=(eq_false h);(repeat' (first
  |refine gF ?_|refine aE ?_ ?_
  |apply trivial));all_goals clear fct)
  all_goals simp[ae,h]
theorem BS (k:Int):ak Tryz.prog 175 [] [ah k] [] (bC (eN k)):=by
 refine ak.aD (rvs:=[.tmp 2]) G au Tryz.func175 rfl Tryz.ntmps175 rfl rfl ?_;with_reducible refine wD ?_
 by_cases e0:k=0
 ·(have fct:=e0;(repeat' (first
  |refine gF ?_|refine aE ?_ ?_
  |apply trivial));all_goals clear fct)
  all_goals simp[eN,e0]
 ·by_cases e1:k=1
  ·(have fct:=e1;(repeat' (first
  |refine gF ?_|refine aE ?_ ?_
  | apply trivial));all_goals clear fct)
   all_goals simp[eN,e1]
  ·by_cases e3:k=3
   ·(have fct:=e3;(repeat' (first
  |refine gF ?_|refine aE ?_ ?_
  | apply trivial));all_goals clear fct)
    all_goals simp[eN,e3]
   ·by_cases e4:k=4
    ·(have fct:=e4;(repeat' (first
  |refine gF ?_|refine aE ?_ ?_
  | apply trivial));all_goals clear fct)
     all_goals simp[eN,e4]
    ·(have fct:=And.intro e0 (And.intro e1 (And.intro e3 (e4)));(repeat' (first
  |refine gF ?_|refine aE ?_ ?_
  |apply trivial));all_goals clear fct)
     all_goals simp[eN,e0,e1,e3,e4]
theorem sI (f:ForM)(n k:Int):ak Tryz.prog 136 [] [aM f,ah n,ah k] [] (bC (j7 f.nodes n k)):=by
 have h49:=xq f n
 obtain⟨l,m⟩:=f
 refine ak.aD (rvs:=[.tmp 6]) G au Tryz.func136 rfl Tryz.ntmps136 rfl rfl ?_;with_reducible refine wD ?_
 refine cL h49 yT ?_;with_reducible refine wK ?_
 cases ht:ae l n with
 | false=>
   (have fct:=ht;(repeat' (first
  |refine gF ?_|refine aE ?_ ?_
  | apply trivial));all_goals clear fct)
   all_goals simp[j7,ht]
 | true=>
   obtain⟨i,x,rfl,hx,hnd⟩:=aU.1 ht
   obtain⟨a1,a2,a3,a4,a5,a6,a7,a8,a9,a10⟩:=x
   (have fct:=ht;(repeat' (first
  |refine gF ?_|refine aE ?_ ?_
  |((refine bg.mk i (aP _) rfl (aB hx) ?_)<;>with_reducible refine wK ?_)
  | apply trivial));all_goals clear fct)
   all_goals simp[j7,ht,hnd]
theorem qu (l:List Int)(hl:l.length≤100000)(n:Int):ak Tryz.prog 73 [] [cN l,ah n] [] (ah (fU (fun x=>decide (x=n)) l)):=by
 have hlm:(l.map bU).length=l.length:=bW ..
 refine ak.aD (rvs:=[.tmp 4]) G au Tryz.func73 rfl Tryz.ntmps73 rfl rfl ?_;with_reducible refine wD ?_
 refine bX.use G au (fun(k:Nat)=>[(0,cN l),(1,ah n),(7,ah l.length),(8,ah k)]) (fun _=>[]) (fun k=>k≤l.length∧∀j x,j<k→l[j]? =some x→decide (x=n)=false) (fun k=>l.length-k) 0 ⟨Nat.zero_le _,fun j x h=>by omega⟩
  ⟨⟨rfl,rfl⟩,⟨rfl,rfl,by show(l.length:Int)=((l.map bU).length:Int);rw[hlm],rfl,trivial⟩,trivial⟩ ?_
 rintro k ⟨hk,hno⟩
 with_reducible refine wK ?_
 refine aX.mk (fun h1=>?_) (fun h1=>?_)<;>(try simp only[ay] at h1)<;>with_reducible refine wK ?_
 ·have hk':k<l.length:=by simp only[bH] at h1;omega
  obtain⟨a,ha⟩:∃a,l[k]? =some a:=⟨_,bD hk'⟩
  refine bg.mk k (ah a) rfl (gr ha) ?_;with_reducible refine wK ?_
  refine aX.mk (fun h2=>?_) (fun h2=>?_)<;>(try simp only[ay] at h2)<;>with_reducible refine wK ?_
  ·(refine eK ?_ ?_<;>with_reducible repeat' (first|exact trivial|(show _∧_;refine aK ?_ ?_)))
   refine fJ (p:=fun x=>decide (x=n)) ha ?_ hno
   simp only[bH] at h2 ⊢;exact h2.symm
  ·refine nK ?_;with_reducible refine wK ?_
   refine bR.mk (k+1) ⟨by omega,fun j x hj hx=>?_⟩ (by omega) ⟨⟨rfl,rfl⟩,⟨rfl,rfl,rfl,by show((k+1:Nat):Int)=(k:Int)+1;omega,trivial⟩,trivial⟩
   rcases Nat.lt_or_ge j k with h3|h3
   ·exact hno j x h3 hx
   ·have:j=k:=by omega
    subst this
    rw[ha] at hx;cases hx
    simp only[cR] at h2 ⊢;exact fun e=>h2 e.symm
 ·(refine eK ?_ ?_<;>with_reducible repeat' (first|exact trivial|(show _∧_;refine aK ?_ ?_)))
  exact jB fun j x hx=>hno j x (by have:=(aY hx).1;simp only[cR] at h1;omega) hx
theorem Ge {l:List Int}{n:Int}:decide (0≤fU (fun x=>decide (x=n)) l)=tu l n:=by
 rw[Bool.eq_iff_iff,bH]
 unfold tu
 rw[bH]
 unfold fU
 cases h:l.findIdx? (fun x=>decide (x=n)) with
 | none=>
   rw[List.findIdx?_eq_none_iff] at h
   simp only
   refine⟨fun h'=>by omega,fun hs=>?_⟩
   have:=h n hs
   simp at this
 | some k=>
   rw[List.findIdx?_eq_some_iff_getElem] at h
   obtain⟨hk,h2,_⟩:=h
   simp only
   exact⟨fun _=>by rw[←of_decide_eq_true h2];exact List.getElem_mem hk,fun _=>by omega⟩
theorem HA (l:List Int)(hl:l.length≤100000)(n:Int):ak Tryz.prog 176 [] [cN l,ah n] [] (bC (tu l n)):=by
 rw[←Ge]
 refine ak.aD (rvs:=[.tmp 4]) G au Tryz.func176 rfl Tryz.ntmps176 rfl rfl ?_;with_reducible refine wD ?_
 refine cL (qu l hl n) GW ?_;with_reducible refine wK ?_
 (refine eK ?_ ?_<;>with_reducible repeat' (first|exact trivial|(show _∧_;refine aK ?_ ?_)))
theorem Gr (f:ForM)(k:Nat)(x:ai)(hx:f.nodes[k]? =some x):ak Tryz.prog 177 [] [aM f,ah k] [] (ah (cP x)):=by
 obtain⟨l,m⟩:=f
 obtain⟨a1,a2,a3,a4,a5,a6,a7,a8,a9,a10⟩:=x
 refine ak.aD (rvs:=[.tmp 4]) G au Tryz.func177 rfl Tryz.ntmps177 rfl rfl ?_;with_reducible refine wD ?_
 refine bg.mk k (aP _) rfl (aB hx) ?_;with_reducible refine wK ?_
 unfold cP
 by_cases e:a6=-1
 ·(have fct:=e;(repeat' (first
  |refine gF ?_|refine aE ?_ ?_
  |((refine bg.mk k (aP _) rfl (aB hx) ?_)<;>with_reducible refine wK ?_)
  |apply trivial));all_goals clear fct)
  all_goals simp[e]
 ·(have fct:=(eq_false e);(repeat' (first
  |refine gF ?_|refine aE ?_ ?_
  |((refine bg.mk k (aP _) rfl (aB hx) ?_)<;>with_reducible refine wK ?_)
  |apply trivial));all_goals clear fct)
  all_goals simp[e]
end Go.Proofs.Heir
