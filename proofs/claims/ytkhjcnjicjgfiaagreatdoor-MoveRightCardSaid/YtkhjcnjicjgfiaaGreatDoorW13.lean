/- Models, plain laws and contracts of functions of the given program; conditions as stated in each theorem. By an AI agent. -/
import Derived.Test.YtkhjcnjicjgfiaaGreatDoorW12
import Derived.Shelf.Strings.Search1
import Derived.Shelf.Strings.Search2
import Derived.Shelf.Strings.Search3
import Derived.Shelf.LaysM
import Derived.Shelf.Strings.Shaped
import Derived.Shelf.Strings.Fields
import Derived.Test.YtkhjcnjicjgfiaaGreatDoorChecked
set_option linter.unusedSimpArgs false
set_option linter.unusedVariables false
namespace Go.Proofs.Heir
open Go Go.Am Go.RowKit Go.Lib
set_option maxRecDepth 100000
set_option maxHeartbeats 8000000
def Kc:ByteArray:=⟨#[]⟩
def pq (l:List AttrM)(n:ByteArray):Int:=if c6 l then(if cm n then 0 else 4) else 1
def Cd (l:List AttrM)(n:ByteArray):ByteArray:=if c6 l&&cm n then dQ n else Kc
def eW (l:List AttrM)(n:ByteArray):Int:=if c6 l&&cm n then sP l (dQ n) else-1
theorem EK (l:List AttrM)(hl:l.length≤100000)(n:ByteArray):aj Tryz.prog 65 [] [cO l,cn n] [] (.tup [cn (Cd l n),ah (eW l n),ah (pq l n)]):=by
 refine aj.aA (rvs:=[.tmp 4,.tmp 5,.tmp 6]) G ak Tryz.func65 rfl Tryz.ntmps65 rfl rfl ?_;with_reducible refine wD ?_
 repeat' (first
  |refine aE ?_ ?_
  |((with_reducible show aM _ _ _ _);first|refine iK ?_|(refine aM.mk (fun _=>?_) (fun _=>?_)<;>with_reducible refine wK ?_))
  |((with_reducible refine kQ 131 ?_);refine cL (B7 l hl) J6 ?_;with_reducible refine wK ?_)
  |((with_reducible refine kQ 67 ?_);refine cL (AW _) Iz ?_;with_reducible refine wK ?_)
  |((with_reducible refine kQ 132 ?_);refine cL (Hh l hl _) My ?_;with_reducible refine wK ?_)
  |apply trivial)
 all_goals (cases h1:c6 l<;>cases h2:cm n<;>simp_all[pq,Cd,eW,Kc])
 rfl
def yP (l:List AttrM)(n:ByteArray):ByteArray:=if 0≤eW l n then((l[(eW l n).toNat]?).map AttrM.value).getD Kc else Kc
theorem sH {α:Type}(p:α→Bool)(l:List α):fU p l=-1∨∃ (k:Nat) (a:α),fU p l=k∧l[k]? =some a∧p a=true:=by
 unfold fU
 cases h:l.findIdx? p with
 |none=>exact .inl rfl
 | some k=>
   rw[List.findIdx?_eq_some_iff_getElem] at h
   obtain⟨hk,h1,_⟩:=h
   exact .inr ⟨k,_,rfl,bH hk,h1⟩
theorem nE (l:List AttrM)(n:ByteArray):eW l n=-1∨∃ (k:Nat) (a:AttrM),eW l n=k∧l[k]? =some a∧a.name=dQ n:=by
 unfold eW
 split
 ·rcases sH (hasName (dQ n)) l with h|⟨k,a,h1,h2,h3⟩
  ·exact .inl h
  ·exact .inr ⟨k,a,h1,h2,by simpa[hasName] using h3⟩
 ·exact .inl rfl
theorem oS {l:List AttrM}{n:ByteArray}(h:pq l n=0):c6 l=true∧cm n=true∧Cd l n=dQ n:=by
 unfold pq at h
 cases h1:c6 l<;>cases h2:cm n<;>rw[h1,h2] at h<;>simp at h
 simp[Cd,h1,h2]
theorem ED (l:List AttrM)(hl:l.length≤100000)(n:ByteArray):aj Tryz.prog 23 [] [cO l,cn n] [] (.tup [cn (yP l n),bA (decide (0≤eW l n))]):=by
 refine aj.aA (rvs:=[.tmp 4,.tmp 5]) G ak Tryz.func23 rfl Tryz.ntmps23 rfl rfl ?_;with_reducible refine wD ?_
 refine cL (EK l hl n) MZ ?_;with_reducible refine wK ?_
 rcases nE l n with h|⟨k,a,h,ha,hn⟩
 ·simp only[h]
  refine aM.yes rfl ?_;with_reducible refine wK ?_
  (refine eK ?_ ?_<;>with_reducible repeat' (first|exact trivial|(show _∧_;refine aK ?_ ?_)))
  ·unfold yP;rw[h];rfl
  ·rfl
 ·simp only[h]
  refine aM.no (bB (by(try simp only[aq]);omega)) ?_;with_reducible refine wK ?_
  refine aH.mk k (iN a) rfl (iO ha) ?_;with_reducible refine wK ?_
  (refine eK ?_ ?_<;>with_reducible repeat' (first|exact trivial|(show _∧_;refine aK ?_ ?_)))
  ·unfold yP;rw[h,if_pos (by omega),Int.toNat_natCast,ha];rfl
  ·exact bO (by omega)
theorem jC {m:ML}{fz:Nat→Bool}{tab:List (Nat×Nat)}{n t len:Nat}{ro:Bool}{rows:List AV}{l:List AttrM}(h1:eM m t=.live 2 rows ro)(h2:fz t=true)(h3:rows=l.map dn)(h4:len=l.length):xq m fz (MF tab fz m n) (cO l) t 0 len:=by
 subst h3;subst h4
 have e:(l.map dn).length=l.length:=bP ..
 exact .cut h1 h2 (by omega) (by rw[List.drop_zero,qV (by omega)]) (kD l)
def eV (l:List AttrM)(n v:ByteArray):List AttrM×Int:=
 if pq l n=0 then(if v.size≤200 then(if 0≤eW l n then(l.set (eW l n).toNat ⟨dQ n,v⟩,0) else if l.length=40 then(l,3) else(l++ [⟨dQ n,v⟩],0)) else(l,3)) else(l,pq l n)
theorem C6 (l:List AttrM)(k:Nat)(n v:ByteArray):(l.map dn).set k (iN ⟨n,v⟩)=(l.set k ⟨n,v⟩).map dn:=by rw[List.map_set];rfl
theorem AJ (l:List AttrM)(n v:ByteArray):l.map dn++ [iN ⟨n,v⟩]=(l++ [(⟨n,v⟩:AttrM)]).map dn:=by rw[gm];rfl
theorem ye (s:ByteArray):aj Tryz.prog 98 [] [cn s] [] (bA (cm s)):=by
 have hsz:s.size=s.data.toList.length:=iq s
 refine aj.aA (rvs:=[.tmp 2]) G ak Tryz.func98 rfl Tryz.ntmps98 rfl rfl ?_;with_reducible refine wD ?_
 repeat' (first
  |refine aE ?_ ?_
  |((with_reducible show aM _ _ _ _);first|refine iK ?_|(refine aM.mk (fun _=>?_) (fun _=>?_)<;>with_reducible refine wK ?_))
  |apply trivial)
 all_goals (simp only[aP,cj,hsz] at*)
 ·unfold cm iz
  rw[show decide (1≤s.data.toList.length)=false from bB (by omega)];rfl
 ·unfold cm iz
  rw[show decide (s.data.toList.length≤40)=false from bB (by omega)];simp
 ·have hr:=CL (l:=s.data.toList) (by omega) (by omega)
  refine bE.use G ak (fun(k:Nat)=>[(0,cn s),(3,ah k)]) (fun _=>[]) (fun k=>k≤s.data.toList.length∧∀i b,i<k→s.data.toList[i]? =some b→tv i b=true) (fun k=>s.data.toList.length-k) 0 ⟨Nat.zero_le _,fun i _ h=>by omega⟩ ⟨⟨rfl,rfl⟩,⟨rfl,rfl,trivial⟩,trivial⟩ ?_
  rintro k ⟨hk,hok⟩
  with_reducible refine wK ?_
  refine aM.mk (fun h1=>?_) (fun h1=>?_)<;>(try simp only[aq] at h1)<;>with_reducible refine wK ?_
  ·simp only[aP] at h1
   have hk':k<s.data.toList.length:=by rw[←iq s];omega
   obtain⟨b,hb⟩:∃b,s.data.toList[k]? =some b:=⟨_,bH hk'⟩
   refine kZ.mk k b rfl hb ?_;with_reducible refine wK ?_
   have next:tv k b=true→∀i c,i<k+1→s.data.toList[i]? =some c→tv i c=true:=by
    intro h i c hi hc
    rcases Nat.lt_or_ge i k with h6|h6
    ·exact hok i c h6 hc
    ·have:i=k:=by omega
     subst this
     rw[hb] at hc;cases hc;exact h
   have no:tv k b=false→cm s=false:=by
    intro h
    cases h':cm s with
    |false=>rfl
    |true=>rw[hr.1 h' k b hb] at h;cases h
   have hb256:b.toNat<256:=UInt8.toNat_lt b
   obtain⟨c,hcb⟩:∃c:Int,(b.toNat:Int)=c:=⟨_,rfl⟩
   have hc:(0≤c∧c≤44)∨(45≤c∧c≤45)∨(46≤c∧c≤46)∨(47≤c∧c≤47)∨(48≤c∧c≤57)∨(58≤c∧c≤64)∨(65≤c∧c≤90)∨(91≤c∧c≤94)∨(95≤c∧c≤95)∨(96≤c∧c≤96)∨(97≤c∧c≤122)∨(123≤c∧c≤255):=by omega
   have hok':tv k b=((decide (97≤c)&&decide (c≤122)||decide (65≤c)&&decide (c≤90))||decide (c=95)||(decide (0<k)&&((decide (97≤c)&&decide (c≤122))||(decide (65≤c)&&decide (c≤90))||(decide (48≤c)&&decide (c≤57))||decide (c=45)||decide (c=95)||decide (c=46)))):=by
    simp only[tv,ij,iT,gM,gD,hcb]
   simp only[hcb]
   have n1:(!false)=true:=rfl
   have n2:(!true)=false:=rfl
   obtain⟨K0,hK0⟩:∃K0,decide ((k:Int)=0)=K0:=⟨_,rfl⟩
   have hk0:decide (0<k)=!K0:=by
    rw[←hK0]
    rcases Nat.eq_zero_or_pos k with h|h
    ·subst h;rfl
    ·rw[bO h,bB (by omega)];rfl
   rw[hk0] at hok'
   rcases hc with⟨u1,u2⟩|⟨u1,u2⟩|⟨u1,u2⟩|⟨u1,u2⟩|⟨u1,u2⟩|⟨u1,u2⟩|⟨u1,u2⟩|⟨u1,u2⟩|⟨u1,u2⟩|⟨u1,u2⟩|⟨u1,u2⟩|⟨u1,u2⟩
   ·have e0:decide (97≤c)=false:=bB (by omega)
    have e1:decide (c≤122)=true:=bO (by omega)
    have e2:decide (65≤c)=false:=bB (by omega)
    have e3:decide (c≤90)=true:=bO (by omega)
    have e4:decide (48≤c)=false:=bB (by omega)
    have e5:decide (c≤57)=true:=bO (by omega)
    have e6:decide (c=45)=false:=bB (by omega)
    have e7:decide (c=46)=false:=bB (by omega)
    have e8:decide (c=95)=false:=bB (by omega)
    have e9:(!decide (c=95))=true:=by rw[e8];rfl
    have f5:(!decide (c≤57))=!(decide (c≤57)):=rfl
    rw[e5] at f5
    have f6:(!decide (c=45))=!(decide (c=45)):=rfl
    rw[e6] at f6
    have f7:(!decide (c=46))=!(decide (c=46)):=rfl
    rw[e7] at f7
    simp only[Bool.not_true,Bool.not_false] at f5
    simp only[Bool.not_true,Bool.not_false] at f6
    simp only[Bool.not_true,Bool.not_false] at f7
    simp only[e0,e1,e2,e3,e4,e5,e6,e7,e8,Bool.and_true,Bool.true_and,Bool.and_false,Bool.false_and,Bool.or_true,Bool.true_or,Bool.or_false,Bool.false_or] at hok'
    cases K0
    all_goals (try simp only[Bool.not_true,Bool.not_false] at hok')
    repeat' (first
  |refine aE ?_ ?_
  |((with_reducible show aM _ _ _ _);first|refine iK ?_|(refine aM.mk (fun _=>?_) (fun _=>?_)<;>with_reducible refine wK ?_))
  |((with_reducible show aY _ _ _ _);refine nK ?_;with_reducible refine wK ?_)
  |((with_reducible show aW _ _);refine aW.mk (k+1) ⟨by omega,next ?_⟩ (by omega) ⟨⟨rfl,rfl⟩,⟨rfl,by show((k+1:Nat):Int)=(k:Int)+1;omega,trivial⟩,trivial⟩)
  | apply trivial)
    all_goals first
     |exact no hok'
     |exact hok'
   ·have e0:decide (97≤c)=false:=bB (by omega)
    have e1:decide (c≤122)=true:=bO (by omega)
    have e2:decide (65≤c)=false:=bB (by omega)
    have e3:decide (c≤90)=true:=bO (by omega)
    have e4:decide (48≤c)=false:=bB (by omega)
    have e5:decide (c≤57)=true:=bO (by omega)
    have e6:decide (c=45)=true:=bO (by omega)
    have e7:decide (c=46)=false:=bB (by omega)
    have e8:decide (c=95)=false:=bB (by omega)
    have e9:(!decide (c=95))=true:=by rw[e8];rfl
    have f5:(!decide (c≤57))=!(decide (c≤57)):=rfl
    rw[e5] at f5
    have f6:(!decide (c=45))=!(decide (c=45)):=rfl
    rw[e6] at f6
    have f7:(!decide (c=46))=!(decide (c=46)):=rfl
    rw[e7] at f7
    simp only[Bool.not_true,Bool.not_false] at f5
    simp only[Bool.not_true,Bool.not_false] at f6
    simp only[Bool.not_true,Bool.not_false] at f7
    simp only[e0,e1,e2,e3,e4,e5,e6,e7,e8,Bool.and_true,Bool.true_and,Bool.and_false,Bool.false_and,Bool.or_true,Bool.true_or,Bool.or_false,Bool.false_or] at hok'
    cases K0
    all_goals (try simp only[Bool.not_true,Bool.not_false] at hok')
    repeat' (first
  |refine aE ?_ ?_
  |((with_reducible show aM _ _ _ _);first|refine iK ?_|(refine aM.mk (fun _=>?_) (fun _=>?_)<;>with_reducible refine wK ?_))
  |((with_reducible show aY _ _ _ _);refine nK ?_;with_reducible refine wK ?_)
  |((with_reducible show aW _ _);refine aW.mk (k+1) ⟨by omega,next ?_⟩ (by omega) ⟨⟨rfl,rfl⟩,⟨rfl,by show((k+1:Nat):Int)=(k:Int)+1;omega,trivial⟩,trivial⟩)
  | apply trivial)
    all_goals first
     |exact no hok'
     |exact hok'
   ·have e0:decide (97≤c)=false:=bB (by omega)
    have e1:decide (c≤122)=true:=bO (by omega)
    have e2:decide (65≤c)=false:=bB (by omega)
    have e3:decide (c≤90)=true:=bO (by omega)
    have e4:decide (48≤c)=false:=bB (by omega)
    have e5:decide (c≤57)=true:=bO (by omega)
    have e6:decide (c=45)=false:=bB (by omega)
    have e7:decide (c=46)=true:=bO (by omega)
    have e8:decide (c=95)=false:=bB (by omega)
    have e9:(!decide (c=95))=true:=by rw[e8];rfl
    have f5:(!decide (c≤57))=!(decide (c≤57)):=rfl
    rw[e5] at f5
    have f6:(!decide (c=45))=!(decide (c=45)):=rfl
    rw[e6] at f6
    have f7:(!decide (c=46))=!(decide (c=46)):=rfl
    rw[e7] at f7
    simp only[Bool.not_true,Bool.not_false] at f5
    simp only[Bool.not_true,Bool.not_false] at f6
    simp only[Bool.not_true,Bool.not_false] at f7
    simp only[e0,e1,e2,e3,e4,e5,e6,e7,e8,Bool.and_true,Bool.true_and,Bool.and_false,Bool.false_and,Bool.or_true,Bool.true_or,Bool.or_false,Bool.false_or] at hok'
    cases K0
    all_goals (try simp only[Bool.not_true,Bool.not_false] at hok')
    repeat' (first
  |refine aE ?_ ?_
  |((with_reducible show aM _ _ _ _);first|refine iK ?_|(refine aM.mk (fun _=>?_) (fun _=>?_)<;>with_reducible refine wK ?_))
  |((with_reducible show aY _ _ _ _);refine nK ?_;with_reducible refine wK ?_)
  |((with_reducible show aW _ _);refine aW.mk (k+1) ⟨by omega,next ?_⟩ (by omega) ⟨⟨rfl,rfl⟩,⟨rfl,by show((k+1:Nat):Int)=(k:Int)+1;omega,trivial⟩,trivial⟩)
  | apply trivial)
    all_goals first
     |exact no hok'
     |exact hok'
   ·have e0:decide (97≤c)=false:=bB (by omega)
    have e1:decide (c≤122)=true:=bO (by omega)
    have e2:decide (65≤c)=false:=bB (by omega)
    have e3:decide (c≤90)=true:=bO (by omega)
    have e4:decide (48≤c)=false:=bB (by omega)
    have e5:decide (c≤57)=true:=bO (by omega)
    have e6:decide (c=45)=false:=bB (by omega)
    have e7:decide (c=46)=false:=bB (by omega)
    have e8:decide (c=95)=false:=bB (by omega)
    have e9:(!decide (c=95))=true:=by rw[e8];rfl
    have f5:(!decide (c≤57))=!(decide (c≤57)):=rfl
    rw[e5] at f5
    have f6:(!decide (c=45))=!(decide (c=45)):=rfl
    rw[e6] at f6
    have f7:(!decide (c=46))=!(decide (c=46)):=rfl
    rw[e7] at f7
    simp only[Bool.not_true,Bool.not_false] at f5
    simp only[Bool.not_true,Bool.not_false] at f6
    simp only[Bool.not_true,Bool.not_false] at f7
    simp only[e0,e1,e2,e3,e4,e5,e6,e7,e8,Bool.and_true,Bool.true_and,Bool.and_false,Bool.false_and,Bool.or_true,Bool.true_or,Bool.or_false,Bool.false_or] at hok'
    cases K0
    all_goals (try simp only[Bool.not_true,Bool.not_false] at hok')
    repeat' (first
  |refine aE ?_ ?_
  |((with_reducible show aM _ _ _ _);first|refine iK ?_|(refine aM.mk (fun _=>?_) (fun _=>?_)<;>with_reducible refine wK ?_))
  |((with_reducible show aY _ _ _ _);refine nK ?_;with_reducible refine wK ?_)
  |((with_reducible show aW _ _);refine aW.mk (k+1) ⟨by omega,next ?_⟩ (by omega) ⟨⟨rfl,rfl⟩,⟨rfl,by show((k+1:Nat):Int)=(k:Int)+1;omega,trivial⟩,trivial⟩)
  | apply trivial)
    all_goals first
     |exact no hok'
     |exact hok'
   ·have e0:decide (97≤c)=false:=bB (by omega)
    have e1:decide (c≤122)=true:=bO (by omega)
    have e2:decide (65≤c)=false:=bB (by omega)
    have e3:decide (c≤90)=true:=bO (by omega)
    have e4:decide (48≤c)=true:=bO (by omega)
    have e5:decide (c≤57)=true:=bO (by omega)
    have e6:decide (c=45)=false:=bB (by omega)
    have e7:decide (c=46)=false:=bB (by omega)
    have e8:decide (c=95)=false:=bB (by omega)
    have e9:(!decide (c=95))=true:=by rw[e8];rfl
    have f5:(!decide (c≤57))=!(decide (c≤57)):=rfl
    rw[e5] at f5
    have f6:(!decide (c=45))=!(decide (c=45)):=rfl
    rw[e6] at f6
    have f7:(!decide (c=46))=!(decide (c=46)):=rfl
    rw[e7] at f7
    simp only[Bool.not_true,Bool.not_false] at f5
    simp only[Bool.not_true,Bool.not_false] at f6
    simp only[Bool.not_true,Bool.not_false] at f7
    simp only[e0,e1,e2,e3,e4,e5,e6,e7,e8,Bool.and_true,Bool.true_and,Bool.and_false,Bool.false_and,Bool.or_true,Bool.true_or,Bool.or_false,Bool.false_or] at hok'
    cases K0
    all_goals (try simp only[Bool.not_true,Bool.not_false] at hok')
    repeat' (first
  |refine aE ?_ ?_
  |((with_reducible show aM _ _ _ _);first|refine iK ?_|(refine aM.mk (fun _=>?_) (fun _=>?_)<;>with_reducible refine wK ?_))
  |((with_reducible show aY _ _ _ _);refine nK ?_;with_reducible refine wK ?_)
  |((with_reducible show aW _ _);refine aW.mk (k+1) ⟨by omega,next ?_⟩ (by omega) ⟨⟨rfl,rfl⟩,⟨rfl,by show((k+1:Nat):Int)=(k:Int)+1;omega,trivial⟩,trivial⟩)
  | apply trivial)
    all_goals first
     |exact no hok'
     |exact hok'
   ·have e0:decide (97≤c)=false:=bB (by omega)
    have e1:decide (c≤122)=true:=bO (by omega)
    have e2:decide (65≤c)=false:=bB (by omega)
    have e3:decide (c≤90)=true:=bO (by omega)
    have e4:decide (48≤c)=true:=bO (by omega)
    have e5:decide (c≤57)=false:=bB (by omega)
    have e6:decide (c=45)=false:=bB (by omega)
    have e7:decide (c=46)=false:=bB (by omega)
    have e8:decide (c=95)=false:=bB (by omega)
    have e9:(!decide (c=95))=true:=by rw[e8];rfl
    have f5:(!decide (c≤57))=!(decide (c≤57)):=rfl
    rw[e5] at f5
    have f6:(!decide (c=45))=!(decide (c=45)):=rfl
    rw[e6] at f6
    have f7:(!decide (c=46))=!(decide (c=46)):=rfl
    rw[e7] at f7
    simp only[Bool.not_true,Bool.not_false] at f5
    simp only[Bool.not_true,Bool.not_false] at f6
    simp only[Bool.not_true,Bool.not_false] at f7
    simp only[e0,e1,e2,e3,e4,e5,e6,e7,e8,Bool.and_true,Bool.true_and,Bool.and_false,Bool.false_and,Bool.or_true,Bool.true_or,Bool.or_false,Bool.false_or] at hok'
    cases K0
    all_goals (try simp only[Bool.not_true,Bool.not_false] at hok')
    repeat' (first
  |refine aE ?_ ?_
  |((with_reducible show aM _ _ _ _);first|refine iK ?_|(refine aM.mk (fun _=>?_) (fun _=>?_)<;>with_reducible refine wK ?_))
  |((with_reducible show aY _ _ _ _);refine nK ?_;with_reducible refine wK ?_)
  |((with_reducible show aW _ _);refine aW.mk (k+1) ⟨by omega,next ?_⟩ (by omega) ⟨⟨rfl,rfl⟩,⟨rfl,by show((k+1:Nat):Int)=(k:Int)+1;omega,trivial⟩,trivial⟩)
  | apply trivial)
    all_goals first
     |exact no hok'
     |exact hok'
   ·have e0:decide (97≤c)=false:=bB (by omega)
    have e1:decide (c≤122)=true:=bO (by omega)
    have e2:decide (65≤c)=true:=bO (by omega)
    have e3:decide (c≤90)=true:=bO (by omega)
    have e4:decide (48≤c)=true:=bO (by omega)
    have e5:decide (c≤57)=false:=bB (by omega)
    have e6:decide (c=45)=false:=bB (by omega)
    have e7:decide (c=46)=false:=bB (by omega)
    have e8:decide (c=95)=false:=bB (by omega)
    have e9:(!decide (c=95))=true:=by rw[e8];rfl
    have f5:(!decide (c≤57))=!(decide (c≤57)):=rfl
    rw[e5] at f5
    have f6:(!decide (c=45))=!(decide (c=45)):=rfl
    rw[e6] at f6
    have f7:(!decide (c=46))=!(decide (c=46)):=rfl
    rw[e7] at f7
    simp only[Bool.not_true,Bool.not_false] at f5
    simp only[Bool.not_true,Bool.not_false] at f6
    simp only[Bool.not_true,Bool.not_false] at f7
    simp only[e0,e1,e2,e3,e4,e5,e6,e7,e8,Bool.and_true,Bool.true_and,Bool.and_false,Bool.false_and,Bool.or_true,Bool.true_or,Bool.or_false,Bool.false_or] at hok'
    cases K0
    all_goals (try simp only[Bool.not_true,Bool.not_false] at hok')
    repeat' (first
  |refine aE ?_ ?_
  |((with_reducible show aM _ _ _ _);first|refine iK ?_|(refine aM.mk (fun _=>?_) (fun _=>?_)<;>with_reducible refine wK ?_))
  |((with_reducible show aY _ _ _ _);refine nK ?_;with_reducible refine wK ?_)
  |((with_reducible show aW _ _);refine aW.mk (k+1) ⟨by omega,next ?_⟩ (by omega) ⟨⟨rfl,rfl⟩,⟨rfl,by show((k+1:Nat):Int)=(k:Int)+1;omega,trivial⟩,trivial⟩)
  | apply trivial)
    all_goals first
     |exact no hok'
     |exact hok'
   ·have e0:decide (97≤c)=false:=bB (by omega)
    have e1:decide (c≤122)=true:=bO (by omega)
    have e2:decide (65≤c)=true:=bO (by omega)
    have e3:decide (c≤90)=false:=bB (by omega)
    have e4:decide (48≤c)=true:=bO (by omega)
    have e5:decide (c≤57)=false:=bB (by omega)
    have e6:decide (c=45)=false:=bB (by omega)
    have e7:decide (c=46)=false:=bB (by omega)
    have e8:decide (c=95)=false:=bB (by omega)
    have e9:(!decide (c=95))=true:=by rw[e8];rfl
    have f5:(!decide (c≤57))=!(decide (c≤57)):=rfl
    rw[e5] at f5
    have f6:(!decide (c=45))=!(decide (c=45)):=rfl
    rw[e6] at f6
    have f7:(!decide (c=46))=!(decide (c=46)):=rfl
    rw[e7] at f7
    simp only[Bool.not_true,Bool.not_false] at f5
    simp only[Bool.not_true,Bool.not_false] at f6
    simp only[Bool.not_true,Bool.not_false] at f7
    simp only[e0,e1,e2,e3,e4,e5,e6,e7,e8,Bool.and_true,Bool.true_and,Bool.and_false,Bool.false_and,Bool.or_true,Bool.true_or,Bool.or_false,Bool.false_or] at hok'
    cases K0
    all_goals (try simp only[Bool.not_true,Bool.not_false] at hok')
    repeat' (first
  |refine aE ?_ ?_
  |((with_reducible show aM _ _ _ _);first|refine iK ?_|(refine aM.mk (fun _=>?_) (fun _=>?_)<;>with_reducible refine wK ?_))
  |((with_reducible show aY _ _ _ _);refine nK ?_;with_reducible refine wK ?_)
  |((with_reducible show aW _ _);refine aW.mk (k+1) ⟨by omega,next ?_⟩ (by omega) ⟨⟨rfl,rfl⟩,⟨rfl,by show((k+1:Nat):Int)=(k:Int)+1;omega,trivial⟩,trivial⟩)
  | apply trivial)
    all_goals first
     |exact no hok'
     |exact hok'
   ·have e0:decide (97≤c)=false:=bB (by omega)
    have e1:decide (c≤122)=true:=bO (by omega)
    have e2:decide (65≤c)=true:=bO (by omega)
    have e3:decide (c≤90)=false:=bB (by omega)
    have e4:decide (48≤c)=true:=bO (by omega)
    have e5:decide (c≤57)=false:=bB (by omega)
    have e6:decide (c=45)=false:=bB (by omega)
    have e7:decide (c=46)=false:=bB (by omega)
    have e8:decide (c=95)=true:=bO (by omega)
    have e9:(!decide (c=95))=false:=by rw[e8];rfl
    have f5:(!decide (c≤57))=!(decide (c≤57)):=rfl
    rw[e5] at f5
    have f6:(!decide (c=45))=!(decide (c=45)):=rfl
    rw[e6] at f6
    have f7:(!decide (c=46))=!(decide (c=46)):=rfl
    rw[e7] at f7
    simp only[Bool.not_true,Bool.not_false] at f5
    simp only[Bool.not_true,Bool.not_false] at f6
    simp only[Bool.not_true,Bool.not_false] at f7
    simp only[e0,e1,e2,e3,e4,e5,e6,e7,e8,Bool.and_true,Bool.true_and,Bool.and_false,Bool.false_and,Bool.or_true,Bool.true_or,Bool.or_false,Bool.false_or] at hok'
    cases K0
    all_goals (try simp only[Bool.not_true,Bool.not_false] at hok')
    repeat' (first
  |refine aE ?_ ?_
  |((with_reducible show aM _ _ _ _);first|refine iK ?_|(refine aM.mk (fun _=>?_) (fun _=>?_)<;>with_reducible refine wK ?_))
  |((with_reducible show aY _ _ _ _);refine nK ?_;with_reducible refine wK ?_)
  |((with_reducible show aW _ _);refine aW.mk (k+1) ⟨by omega,next ?_⟩ (by omega) ⟨⟨rfl,rfl⟩,⟨rfl,by show((k+1:Nat):Int)=(k:Int)+1;omega,trivial⟩,trivial⟩)
  | apply trivial)
    all_goals first
     |exact no hok'
     |exact hok'
   ·have e0:decide (97≤c)=false:=bB (by omega)
    have e1:decide (c≤122)=true:=bO (by omega)
    have e2:decide (65≤c)=true:=bO (by omega)
    have e3:decide (c≤90)=false:=bB (by omega)
    have e4:decide (48≤c)=true:=bO (by omega)
    have e5:decide (c≤57)=false:=bB (by omega)
    have e6:decide (c=45)=false:=bB (by omega)
    have e7:decide (c=46)=false:=bB (by omega)
    have e8:decide (c=95)=false:=bB (by omega)
    have e9:(!decide (c=95))=true:=by rw[e8];rfl
    have f5:(!decide (c≤57))=!(decide (c≤57)):=rfl
    rw[e5] at f5
    have f6:(!decide (c=45))=!(decide (c=45)):=rfl
    rw[e6] at f6
    have f7:(!decide (c=46))=!(decide (c=46)):=rfl
    rw[e7] at f7
    simp only[Bool.not_true,Bool.not_false] at f5
    simp only[Bool.not_true,Bool.not_false] at f6
    simp only[Bool.not_true,Bool.not_false] at f7
    simp only[e0,e1,e2,e3,e4,e5,e6,e7,e8,Bool.and_true,Bool.true_and,Bool.and_false,Bool.false_and,Bool.or_true,Bool.true_or,Bool.or_false,Bool.false_or] at hok'
    cases K0
    all_goals (try simp only[Bool.not_true,Bool.not_false] at hok')
    repeat' (first
  |refine aE ?_ ?_
  |((with_reducible show aM _ _ _ _);first|refine iK ?_|(refine aM.mk (fun _=>?_) (fun _=>?_)<;>with_reducible refine wK ?_))
  |((with_reducible show aY _ _ _ _);refine nK ?_;with_reducible refine wK ?_)
  |((with_reducible show aW _ _);refine aW.mk (k+1) ⟨by omega,next ?_⟩ (by omega) ⟨⟨rfl,rfl⟩,⟨rfl,by show((k+1:Nat):Int)=(k:Int)+1;omega,trivial⟩,trivial⟩)
  | apply trivial)
    all_goals first
     |exact no hok'
     |exact hok'
   ·have e0:decide (97≤c)=true:=bO (by omega)
    have e1:decide (c≤122)=true:=bO (by omega)
    have e2:decide (65≤c)=true:=bO (by omega)
    have e3:decide (c≤90)=false:=bB (by omega)
    have e4:decide (48≤c)=true:=bO (by omega)
    have e5:decide (c≤57)=false:=bB (by omega)
    have e6:decide (c=45)=false:=bB (by omega)
    have e7:decide (c=46)=false:=bB (by omega)
    have e8:decide (c=95)=false:=bB (by omega)
    have e9:(!decide (c=95))=true:=by rw[e8];rfl
    have f5:(!decide (c≤57))=!(decide (c≤57)):=rfl
    rw[e5] at f5
    have f6:(!decide (c=45))=!(decide (c=45)):=rfl
    rw[e6] at f6
    have f7:(!decide (c=46))=!(decide (c=46)):=rfl
    rw[e7] at f7
    simp only[Bool.not_true,Bool.not_false] at f5
    simp only[Bool.not_true,Bool.not_false] at f6
    simp only[Bool.not_true,Bool.not_false] at f7
    simp only[e0,e1,e2,e3,e4,e5,e6,e7,e8,Bool.and_true,Bool.true_and,Bool.and_false,Bool.false_and,Bool.or_true,Bool.true_or,Bool.or_false,Bool.false_or] at hok'
    cases K0
    all_goals (try simp only[Bool.not_true,Bool.not_false] at hok')
    repeat' (first
  |refine aE ?_ ?_
  |((with_reducible show aM _ _ _ _);first|refine iK ?_|(refine aM.mk (fun _=>?_) (fun _=>?_)<;>with_reducible refine wK ?_))
  |((with_reducible show aY _ _ _ _);refine nK ?_;with_reducible refine wK ?_)
  |((with_reducible show aW _ _);refine aW.mk (k+1) ⟨by omega,next ?_⟩ (by omega) ⟨⟨rfl,rfl⟩,⟨rfl,by show((k+1:Nat):Int)=(k:Int)+1;omega,trivial⟩,trivial⟩)
  | apply trivial)
    all_goals first
     |exact no hok'
     |exact hok'
   ·have e0:decide (97≤c)=true:=bO (by omega)
    have e1:decide (c≤122)=false:=bB (by omega)
    have e2:decide (65≤c)=true:=bO (by omega)
    have e3:decide (c≤90)=false:=bB (by omega)
    have e4:decide (48≤c)=true:=bO (by omega)
    have e5:decide (c≤57)=false:=bB (by omega)
    have e6:decide (c=45)=false:=bB (by omega)
    have e7:decide (c=46)=false:=bB (by omega)
    have e8:decide (c=95)=false:=bB (by omega)
    have e9:(!decide (c=95))=true:=by rw[e8];rfl
    have f5:(!decide (c≤57))=!(decide (c≤57)):=rfl
    rw[e5] at f5
    have f6:(!decide (c=45))=!(decide (c=45)):=rfl
    rw[e6] at f6
    have f7:(!decide (c=46))=!(decide (c=46)):=rfl
    rw[e7] at f7
    simp only[Bool.not_true,Bool.not_false] at f5
    simp only[Bool.not_true,Bool.not_false] at f6
    simp only[Bool.not_true,Bool.not_false] at f7
    simp only[e0,e1,e2,e3,e4,e5,e6,e7,e8,Bool.and_true,Bool.true_and,Bool.and_false,Bool.false_and,Bool.or_true,Bool.true_or,Bool.or_false,Bool.false_or] at hok'
    cases K0
    all_goals (try simp only[Bool.not_true,Bool.not_false] at hok')
    repeat' (first
  |refine aE ?_ ?_
  |((with_reducible show aM _ _ _ _);first|refine iK ?_|(refine aM.mk (fun _=>?_) (fun _=>?_)<;>with_reducible refine wK ?_))
  |((with_reducible show aY _ _ _ _);refine nK ?_;with_reducible refine wK ?_)
  |((with_reducible show aW _ _);refine aW.mk (k+1) ⟨by omega,next ?_⟩ (by omega) ⟨⟨rfl,rfl⟩,⟨rfl,by show((k+1:Nat):Int)=(k:Int)+1;omega,trivial⟩,trivial⟩)
  | apply trivial)
    all_goals first
     |exact no hok'
     |exact hok'
  ·(refine eK ?_ ?_<;>with_reducible repeat' (first|exact trivial|(show _∧_;refine aK ?_ ?_)))
   exact hr.2 fun i b hb=>hok i b (by have:=(aZ hb).1;simp only[cj] at h1;have:=iq s;omega) hb
theorem HS (l:List AttrM)(hl:l.length≤100000)(n:ByteArray):aj Tryz.prog 162 [] [cO l,cn n] [] (ah (sP l n)):=by
 have hlm:(l.map dn).length=l.length:=bP ..
 refine aj.aA (rvs:=[.tmp 4]) G ak Tryz.func162 rfl Tryz.ntmps162 rfl rfl ?_;with_reducible refine wD ?_
 refine bE.use G ak (fun(k:Nat)=>[(0,cO l),(1,cn n),(5,ah k)]) (fun _=>[]) (fun k=>k≤l.length∧∀j x,j<k→l[j]? =some x→hasName n x=false) (fun k=>l.length-k) 0 ⟨Nat.zero_le _,fun j x h=>by omega⟩
  ⟨⟨rfl,rfl⟩,⟨rfl,rfl,rfl,trivial⟩,trivial⟩ ?_
 rintro k ⟨hk,hno⟩
 with_reducible refine wK ?_
 refine aM.mk (fun h1=>?_) (fun h1=>?_)<;>(try simp only[aq] at h1)<;>with_reducible refine wK ?_
 ·simp only[aP] at h1
  have hk':k<l.length:=by omega
  obtain⟨⟨an,av⟩,ha⟩:∃a,l[k]? =some a:=⟨_,bH hk'⟩
  refine aH.mk k (iN ⟨an,av⟩) rfl (iO ha) ?_;with_reducible refine wK ?_
  refine aM.mk (fun h2=>?_) (fun h2=>?_)<;>(try simp only[aq] at h2)<;>with_reducible refine wK ?_
  ·(refine eK ?_ ?_<;>with_reducible repeat' (first|exact trivial|(show _∧_;refine aK ?_ ?_)))
   exact fo (p:=hasName n) ha h2 hno
  ·refine nK ?_;with_reducible refine wK ?_
   refine aW.mk (k+1) ⟨by omega,fun j x hj hx=>?_⟩ (by omega) ⟨⟨rfl,rfl⟩,⟨rfl,rfl,by show((k+1:Nat):Int)=(k:Int)+1;omega,trivial⟩,trivial⟩
   rcases Nat.lt_or_ge j k with h6|h6
   ·exact hno j x h6 hx
   ·have:j=k:=by omega
    subst this
    rw[ha] at hx;cases hx;exact h2
 ·(refine eK ?_ ?_<;>with_reducible repeat' (first|exact trivial|(show _∧_;refine aK ?_ ?_)))
  have:k=l.length:=by simp only[cj] at h1;omega
  exact gx fun j x hx=>hno j x (by have:=(aZ hx).1;omega) hx
def mT (l:List AttrM)(i:Nat)(a:AttrM):Bool:=D3 a&&decide (sP l a.name=(i:Int))
theorem vG (l:List AttrM):(l.map AttrM.name).Nodup↔ ∀ (i:Nat) (a:AttrM),l[i]? =some a→sP l a.name=(i:Int):=by
 constructor
 ·intro hn i a ha
  refine fo ha (by simp[hasName]) fun j x hj hx=>?_
  simp only[hasName,cj]
  intro e
  have h1:(l.map AttrM.name)[j]? =some x.name:=by rw[fZ,hx];rfl
  have h2:(l.map AttrM.name)[i]? =some a.name:=by rw[fZ,ha];rfl
  have hjl:=(aZ h1).1
  have:=(List.getElem?_inj hjl hn (j:=i)).1 (h1.trans ((congrArg some e).trans h2.symm))
  omega
 ·intro h
  rw[List.nodup_iff_pairwise_ne,List.pairwise_iff_getElem]
  intro i j hi hj hij e
  rw[bP] at hi hj
  have h1:=h i _ (bH hi)
  have h2:=h j _ (bH hj)
  rw[List.getElem_map,List.getElem_map] at e
  rw[e,h2] at h1
  omega
theorem Bj (l:List AttrM)(h:l.length≤40):c6 l=true↔ ∀ (i:Nat) (a:AttrM),l[i]? =some a→mT l i a=true:=by
 unfold c6 mT
 rw[bO h]
 simp only[Bool.true_and,bg,List.all_eq_true,aP]
 rw[vG]
 constructor
 ·rintro⟨h1,h2⟩ i a ha
  exact⟨h1 a (bV ha),h2 i a ha⟩
 ·intro h
  refine⟨fun a ha=>?_,fun i a ha=>(h i a ha).2⟩
  obtain⟨i,hi⟩:=List.getElem?_of_mem ha
  exact(h i a hi).1
theorem Hz (l:List AttrM)(hl:l.length≤100000):aj Tryz.prog 153 [] [cO l] [] (bA (c6 l)):=by
 have hlm:(l.map dn).length=l.length:=bP ..
 refine aj.aA (rvs:=[.tmp 2]) G ak Tryz.func153 rfl Tryz.ntmps153 rfl rfl ?_;with_reducible refine wD ?_
 refine aM.mk (fun h0=>?_) (fun h0=>?_)<;>(try simp only[aq] at h0)<;>with_reducible refine wK ?_
 ·(refine eK ?_ ?_<;>with_reducible repeat' (first|exact trivial|(show _∧_;refine aK ?_ ?_)))
  simp only[hlm,aP] at h0
  unfold c6;rw[bB (by omega)];rfl
 ·simp only[hlm,cj] at h0
  have hr:=Bj l (by omega)
  refine bE.use G ak (fun(k:Nat)=>[(0,cO l),(3,ah k)]) (fun _=>[]) (fun k=>k≤l.length∧∀j x,j<k→l[j]? =some x→mT l j x=true) (fun k=>l.length-k) 0 ⟨Nat.zero_le _,fun j x h=>by omega⟩
   ⟨⟨rfl,rfl⟩,⟨rfl,rfl,trivial⟩,trivial⟩ ?_
  rintro k ⟨hk,hok⟩
  with_reducible refine wK ?_
  refine aM.mk (fun h1=>?_) (fun h1=>?_)<;>(try simp only[aq] at h1)<;>with_reducible refine wK ?_
  ·simp only[aP] at h1
   have hk':k<l.length:=by omega
   obtain⟨⟨an,av⟩,ha⟩:∃a,l[k]? =some a:=⟨_,bH hk'⟩
   have next:mT l k ⟨an,av⟩=true→∀j x,j<k+1→l[j]? =some x→mT l j x=true:=by
    intro h j x hj hx
    rcases Nat.lt_or_ge j k with h6|h6
    ·exact hok j x h6 hx
    ·have:j=k:=by omega
     subst this
     rw[ha] at hx;cases hx;exact h
   have no:mT l k ⟨an,av⟩=false→c6 l=false:=by
    intro h
    cases h':c6 l with
    |false=>rfl
    |true=>rw[hr.1 h' k _ ha] at h;cases h
   repeat' (first
  |refine aE ?_ ?_
  |((with_reducible show aM _ _ _ _);first|refine iK ?_|(refine aM.mk (fun _=>?_) (fun _=>?_)<;>with_reducible refine wK ?_))
  |((with_reducible show aH _ _ _ _ _);refine aH.mk k (iN ⟨an,av⟩) rfl (iO ha) ?_;with_reducible refine wK ?_)
  |((with_reducible refine kQ 98 ?_);refine cL (ye _) LV ?_;with_reducible refine wK ?_)
  |((with_reducible refine kQ 151 ?_);refine ae.lit [] (wX _ (rF (by assumption))) JA ⟨rfl,trivial⟩ rfl rfl ?_;with_reducible refine wK ?_)
  |((with_reducible refine kQ 162 ?_);refine cL (HS l hl _) Ma ?_;with_reducible refine wK ?_)
  |((with_reducible show aB _ _ _ _);refine dK ?_;with_reducible refine wK ?_)
  |((with_reducible show aY _ _ _ _);refine nK ?_;with_reducible refine wK ?_)
  |((with_reducible show aW _ _);refine aW.mk (k+1) ⟨by omega,next ?_⟩ (by omega) ⟨⟨rfl,rfl⟩,⟨rfl,by show((k+1:Nat):Int)=(k:Int)+1;omega,trivial⟩,trivial⟩)
  | apply trivial)
   all_goals first
    |(refine no ?_;unfold mT D3;(try simp only[aq] at*);simp_all<;>omega)
    |(unfold mT D3;(try simp only[aq] at*);simp_all<;>omega)
  ·(refine eK ?_ ?_<;>with_reducible repeat' (first|exact trivial|(show _∧_;refine aK ?_ ?_)))
   refine hr.2 fun j x hx=>hok j x ?_ hx
   have:=(aZ hx).1
   simp only[cj] at h1;omega
theorem qw {l:List AttrM}{n:ByteArray}(h1:c6 l=true)(h2:cm n=true):eW l n=sP l (dQ n):=by unfold eW;rw[h1,h2];rfl
end Go.Proofs.Heir
namespace Go.Proofs
open Go.Shelf
def Tryz.yN:Go.Shelf.Ren:=⟨fun|144=>206|143=>222|219=>234|217=>238|225=>239|224=>240|267=>241|266=>244|314=>245|n=>n,fun|9=>9|4=>4|3=>3|5=>5|46=>284|146=>288|51=>287|n=>n,fun|1=>1|n=>n⟩
theorem Tryz.HZ:Go.Proofs.Lays.n144 Tryz.prog Tryz.yN:={
  mixed:=by kernel_rfl
  f143:=Tryz.func222.trans (congrArg some (by kernel_rfl))
  f144:=Tryz.func206.trans (congrArg some (by kernel_rfl))
  f217:=Tryz.func238.trans (congrArg some (by kernel_rfl))
  f219:=Tryz.func234.trans (congrArg some (by kernel_rfl))
  f224:=Tryz.func240.trans (congrArg some (by kernel_rfl))
  f225:=Tryz.func239.trans (congrArg some (by kernel_rfl))
  f266:=Tryz.func244.trans (congrArg some (by kernel_rfl))
  f267:=Tryz.func241.trans (congrArg some (by kernel_rfl))
  f314:=Tryz.func245.trans (congrArg some (by kernel_rfl))
  t3:=Tryz.underlying3
  a3:=Tryz.isAgg3
  z3:=Tryz.sizeOf3
  v3:=Tryz.zeroValue3
  t4:=Tryz.underlying4
  a4:=Tryz.isAgg4
  z4:=Tryz.sizeOf4
  v4:=Tryz.zeroValue4
  t5:=Tryz.underlying5
  a5:=Tryz.isAgg5
  z5:=Tryz.sizeOf5
  v5:=Tryz.zeroValue5
  t9:=Tryz.underlying9
  a9:=Tryz.isAgg9
  z9:=Tryz.sizeOf9
  v9:=Tryz.zeroValue9
  t46:=Tryz.underlying284
  a46:=Tryz.isAgg284
  z46:=Tryz.sizeOf284
  v46:=Tryz.zeroValue284
  t51:=Tryz.underlying287
  a51:=Tryz.isAgg287
  z51:=Tryz.sizeOf287
  v51:=Tryz.zeroValue287
  t146:=Tryz.underlying288
  a146:=Tryz.isAgg288
  z146:=Tryz.sizeOf288
  v146:=Tryz.zeroValue288
  g1:=by kernel_rfl}
open Go.RowKit Go.Lib in
theorem Tryz.strings_Contains_one (s:ByteArray)(c:UInt8)(w:World):
    Calls Tryz.prog 206 #[.string s,.string ⟨#[c]⟩] w fun e w'=>e=.returned (.bool (decide (0≤Lib.indexByte s.data.toList c)))∧w'=w:=Any.strings_Contains_one Tryz.HZ s c w
end Go.Proofs
namespace Go.Proofs.Heir
open Go Go.Am Go.RowKit Go.Lib
set_option maxRecDepth 100000
set_option maxHeartbeats 8000000
def yy (s:ByteArray):AV:=cn s
@[reducible] def Cc (l : List ByteArray) : AV := .sl 1 (l.map yy)
@[reducible] def Je (l : List ByteArray) : MS := .live 1 (l.map yy) false
theorem oW (l:List ByteArray):bz (l.map yy)=true:=by
 rw[cT];intro x hx
 obtain⟨a,_,rfl⟩:=List.mem_map.1 hx
 rfl
theorem FJ {l:List ByteArray}{k:Nat}{a:ByteArray}(h:l[k]? =some a):(l.map yy)[k]? =some (cn a):=by rw[fZ,h];rfl
theorem CP (l:List ByteArray):jT [Je l]:=⟨bS.jj fun r hr=>by obtain⟨a,_,rfl⟩:=List.mem_map.1 hr;rfl,oW l,trivial⟩
theorem D8 {m:ML}{fz:Nat→Bool}{tab:List (Nat×Nat)}{n t len:Nat}{ro:Bool}{rows:List AV}{l:List ByteArray}(h1:eM m t=.live 1 rows ro)(h2:fz t=true)(h3:rows=l.map yy)(h4:len=l.length):xq m fz (MF tab fz m n) (Cc l) t 0 len:=by
 subst h3;subst h4
 have e:(l.map yy).length=l.length:=bP ..
 exact .cut h1 h2 (by omega) (by rw[List.drop_zero,qV (by omega)]) (oW l)
theorem GH (l:List ByteArray)(hl:l.length≤100000)(s:ByteArray):aj Tryz.prog 223 [] [Cc l,cn s] [] (ah (fU (fun x=>decide (x=s)) l)):=by
 have hlm:(l.map yy).length=l.length:=bP ..
 refine aj.aA (rvs:=[.tmp 4]) G ak Tryz.func223 rfl Tryz.ntmps223 rfl rfl ?_;with_reducible refine wD ?_
 refine bE.use G ak (fun(k:Nat)=>[(0,Cc l),(1,cn s),(7,ah l.length),(8,ah k)]) (fun _=>[]) (fun k=>k≤l.length∧∀j x,j<k→l[j]? =some x→decide (x=s)=false) (fun k=>l.length-k) 0 ⟨Nat.zero_le _,fun j x h=>by omega⟩
  ⟨⟨rfl,rfl⟩,⟨rfl,rfl,by show(l.length:Int)=((l.map yy).length:Int);rw[hlm],rfl,trivial⟩,trivial⟩ ?_
 rintro k ⟨hk,hno⟩
 with_reducible refine wK ?_
 refine aM.mk (fun h1=>?_) (fun h1=>?_)<;>(try simp only[aq] at h1)<;>with_reducible refine wK ?_
 ·simp only[aP] at h1
  have hk':k<l.length:=by omega
  obtain⟨a,ha⟩:∃a,l[k]? =some a:=⟨_,bH hk'⟩
  refine aH.mk k (cn a) rfl (FJ ha) ?_;with_reducible refine wK ?_
  refine aM.mk (fun h2=>?_) (fun h2=>?_)<;>(try simp only[aq] at h2)<;>with_reducible refine wK ?_
  ·(refine eK ?_ ?_<;>with_reducible repeat' (first|exact trivial|(show _∧_;refine aK ?_ ?_)))
   refine fo (p:=fun x=>decide (x=s)) ha ?_ hno
   simp only[aP] at h2 ⊢;exact h2.symm
  ·refine nK ?_;with_reducible refine wK ?_
   refine aW.mk (k+1) ⟨by omega,fun j x hj hx=>?_⟩ (by omega) ⟨⟨rfl,rfl⟩,⟨rfl,rfl,rfl,by show((k+1:Nat):Int)=(k:Int)+1;omega,trivial⟩,trivial⟩
   rcases Nat.lt_or_ge j k with h3|h3
   ·exact hno j x h3 hx
   ·have:j=k:=by omega
    subst this
    rw[ha] at hx;cases hx
    simp only[cj] at h2 ⊢;exact fun e=>h2 e.symm
 ·(refine eK ?_ ?_<;>with_reducible repeat' (first|exact trivial|(show _∧_;refine aK ?_ ?_)))
  exact gx fun j x hx=>hno j x (by have:=(aZ hx).1;simp only[cj] at h1;omega) hx
def u5 (l:List ByteArray)(s:ByteArray):Bool:=l.any fun x=>decide (x=s)
theorem Fe {l:List ByteArray}{s:ByteArray}:u5 l s=true↔s∈l:=by
 unfold u5;rw[List.any_eq_true]
 exact⟨fun⟨x,hx,e⟩=>by rw[←of_decide_eq_true e];exact hx,fun h=>⟨s,h,bO rfl⟩⟩
theorem En {l:List ByteArray}{s:ByteArray}:decide (0≤fU (fun x=>decide (x=s)) l)=u5 l s:=by
 rw[Bool.eq_iff_iff,aP,Fe]
 unfold fU
 cases h:l.findIdx? (fun x=>decide (x=s)) with
 | none=>
   rw[List.findIdx?_eq_none_iff] at h
   simp only
   refine⟨fun h'=>by omega,fun hs=>?_⟩
   have:=h s hs
   simp at this
 | some k=>
   rw[List.findIdx?_eq_some_iff_getElem] at h
   obtain⟨hk,h2,_⟩:=h
   simp only
   exact⟨fun _=>by rw[←of_decide_eq_true h2];exact List.getElem_mem hk,fun _=>by omega⟩
theorem Ia (l:List ByteArray)(hl:l.length≤100000)(s:ByteArray):aj Tryz.prog 207 [] [Cc l,cn s] [] (bA (u5 l s)):=by
 rw[←En]
 refine aj.aA (rvs:=[.tmp 4]) G ak Tryz.func207 rfl Tryz.ntmps207 rfl rfl ?_;with_reducible refine wD ?_
 refine cL (GH l hl s) L2 ?_;with_reducible refine wK ?_
 (refine eK ?_ ?_<;>with_reducible repeat' (first|exact trivial|(show _∧_;refine aK ?_ ?_)))
def xX (l:List UInt8):ByteArray:=⟨l.toArray⟩
def lG:List ByteArray:=[xX [97,110,110,111,116,97,116,105,111,110,45,120,109,108],xX [99,111,108,111,114,45,112,114,111,102,105,108,101],xX [102,111,110,116,45,102,97,99,101],xX [102,111,110,116,45,102,97,99,101,45,115,114,99],
 xX [102,111,110,116,45,102,97,99,101,45,117,114,105],xX [102,111,110,116,45,102,97,99,101,45,102,111,114,109,97,116],xX [102,111,110,116,45,102,97,99,101,45,110,97,109,101],xX [109,105,115,115,105,110,103,45,103,108,121,112,104]]
theorem HI:aj Tryz.prog 208 [] [] [Je lG] (.own 0 0 8):=by
 refine aj.aA (rvs:=[.tmp 0]) G ak Tryz.func208 rfl Tryz.ntmps208 rfl rfl ?_;with_reducible refine wD ?_
 (refine eK ?_ ?_<;>with_reducible repeat' (first|exact trivial|(show _∧_;refine aK ?_ ?_)))
 all_goals first|rfl|exact cq (oW lG)
theorem Hf (s:ByteArray)(c:UInt8):aj Tryz.prog 206 [] [cn s,cn ⟨#[c]⟩] [] (bA (decide (0≤Lib.indexByte s.data.toList c))):=
 aj.jY (vs:=[.string s,.string ⟨#[c]⟩]) (v:=.bool _) fun w _=>(Go.Proofs.Tryz.strings_Contains_one s c w).mono fun e w' ⟨h1,h2⟩=>⟨h1,by rw[h2];exact Below.refl _ w⟩
def kL (cur:List UInt8):List UInt8→List (List UInt8)
 |[]=>[cur]
 |c::r=>if c=32 then cur::kL [] r else kL (cur++ [c]) r
def Jl (s:ByteArray)(g:List UInt8):Bool:=decide (strOf g=s)
def Ee (s:ByteArray)(ws:List UInt8):Bool:=(kL [] ws).any (Jl s)
theorem Dd (s:ByteArray)(a b:Nat):s.extract a b=strOf ((s.data.toList.take b).drop a):=by
 obtain⟨l,rfl⟩:∃l:List UInt8,s=⟨l.toArray⟩:=⟨s.data.toList,by obtain⟨⟨l⟩⟩:=s;rfl⟩
 rw[ByteArray.extract_mk]
 unfold strOf
 rw[List.drop_take]
theorem FN {l:List UInt8}{i:Nat}{c:UInt8}(h:l[i]? =some c)(cur:List UInt8):kL cur (l.drop i)=if c=32 then cur::kL [] (l.drop (i+1)) else kL (cur++ [c]) (l.drop (i+1)):=by
 have hk:=(aZ h).1
 rw[List.drop_eq_getElem_cons hk,(aZ h).2];rfl
theorem Fy {l:List UInt8}{i a:Nat}{c:UInt8}(h:l[i]? =some c)(ha:a≤i):(l.take (i+1)).drop a=(l.take i).drop a++ [c]:=by
 have hk:=(aZ h).1
 rw[List.take_succ_eq_append_getElem hk,(aZ h).2,List.drop_append_of_le_length (by simp;omega)]
structure MD (s:ByteArray) (l:List UInt8) (i a:Nat):Prop where
 le:a≤i
 hi:i≤l.length+1
 mid:i≤l.length→Ee s l=(kL ((l.take i).drop a) (l.drop i)).any (Jl s)
 fin:l.length<i→Ee s l=false
theorem La {c:UInt8}:decide ((c.toNat     :Int)=32)=decide (c=32):=by
 rw[decide_eq_decide]
 constructor
 ·intro h
  have:c.toNat=(32:UInt8).toNat:=by         have:(32:UInt8).toNat=32:=rfl
                                            omega
  exact UInt8.toNat_inj.1 this
 ·rintro rfl;rfl
theorem HE (s w:ByteArray)(hw:w.size≤100000):aj Tryz.prog 194 [] [cn s,cn w] [] (bA (Ee s w.data.toList)):=by
 have hsz:w.size=w.data.toList.length:=iq w
 have hcut:=Dd w
 obtain⟨l,hl⟩:∃l,w.data.toList=l:=⟨_,rfl⟩
 rw[hl] at hsz hcut ⊢
 refine aj.aA (rvs:=[.tmp 4]) G ak Tryz.func194 rfl Tryz.ntmps194 rfl rfl ?_;with_reducible refine wD ?_
 refine bE.use G ak (fun(p:Nat×Nat)=>[(0,cn s),(1,cn w),(5,ah p.2),(6,ah p.1)]) (fun _=>[]) (fun p=>MD s l p.1 p.2) (fun p=>l.length+1-p.1) (0,0) ⟨Nat.le_refl _,Nat.zero_le _,fun _=>rfl,fun h=>by omega⟩
  ⟨⟨rfl,rfl⟩,⟨rfl,rfl,rfl,rfl,trivial⟩,trivial⟩ ?_
 rintro⟨i,a⟩ hI
 have h1:=hI.le
 have h2:=hI.hi
 simp only at h1 h2
 with_reducible refine wK ?_
 refine aM.mk (fun g1=>?_) (fun g1=>?_)<;>(try simp only[aq] at g1)<;>with_reducible refine wK ?_
 ·simp only[aP] at g1
  have hil:i≤l.length:=by omega
  have hm:=hI.mid hil
  simp only at hm
  refine aM.mk (fun g2=>?_) (fun g2=>?_)<;>(try simp only[aq] at g2)<;>with_reducible refine wK ?_
  ·simp only[aP] at g2
   have hie:i=l.length:=by omega
   have hd:l.drop i=[]:=by rw[hie];exact List.drop_length
   rw[hd] at hm
   refine aM.tt ?_;with_reducible refine wK ?_
   refine tg.mk a i rfl rfl h1 (by show i≤w.size;omega) ?_;with_reducible refine wK ?_
   rw[hcut]
   refine aM.mk (fun g3=>?_) (fun g3=>?_)<;>(try simp only[aq] at g3)<;>with_reducible refine wK ?_
   ·(refine eK ?_ ?_<;>with_reducible repeat' (first|exact trivial|(show _∧_;refine aK ?_ ?_)))
    rw[hm]
    simp only[kL,List.any_cons,List.any_nil,Bool.or_false,Jl]
    simpa using g3
   ·refine nK ?_;with_reducible refine wK ?_
    refine nK ?_;with_reducible refine wK ?_
    refine aW.mk (i+1,i+1) ⟨Nat.le_refl _,by show i+1≤l.length+1;omega,fun h=>?_,fun _=>?_⟩ (by show l.length+1- (i+1)<l.length+1-i;omega) ⟨⟨rfl,rfl⟩,⟨rfl,rfl,by show((i+1:Nat):Int)=(i:Int)+1;omega,by show((i+1:Nat):Int)=(i:Int)+1;omega,trivial⟩,trivial⟩
    ·simp only at h;omega
    ·rw[hm]
     simp only[kL,List.any_cons,List.any_nil,Bool.or_false,Jl]
     simpa using g3
  ·have hi2:i<l.length:=by simp only[cj] at g2;omega
   obtain⟨c,hc⟩:∃c,l[i]? =some c:=⟨_,bH hi2⟩
   refine kZ.mk i c rfl (by rw[hl];exact hc) ?_;with_reducible refine wK ?_
   rw[La]
   have hsg:=FN hc ((l.take i).drop a)
   rw[hsg] at hm
   by_cases hb:c=32
   ·rw [if_pos hb] at hm
    refine aM.yes (by simp[hb]) ?_;with_reducible refine wK ?_
    refine tg.mk a i rfl rfl h1 (by show i≤w.size;omega) ?_;with_reducible refine wK ?_
    rw[hcut]
    refine aM.mk (fun g3=>?_) (fun g3=>?_)<;>(try simp only[aq] at g3)<;>with_reducible refine wK ?_
    ·(refine eK ?_ ?_<;>with_reducible repeat' (first|exact trivial|(show _∧_;refine aK ?_ ?_)))
     rw[hm]
     simp only[List.any_cons,Jl]
     simp at g3
     simp[g3]
    ·refine nK ?_;with_reducible refine wK ?_
     refine nK ?_;with_reducible refine wK ?_
     refine aW.mk (i+1,i+1) ⟨Nat.le_refl _,by show i+1≤l.length+1;omega,fun h=>?_,fun h=>?_⟩ (by show l.length+1- (i+1)<l.length+1-i;omega) ⟨⟨rfl,rfl⟩,⟨rfl,rfl,by show((i+1:Nat):Int)=(i:Int)+1;omega,by show((i+1:Nat):Int)=(i:Int)+1;omega,trivial⟩,trivial⟩
     ·rw[hm]
      simp only[List.any_cons]
      have:Jl s ((l.take i).drop a)=false:=by unfold Jl;simpa using g3
      rw[this,Bool.false_or,show(l.take (i+1)).drop (i+1)=[] from List.drop_eq_nil_of_le (by simp;omega)]
     ·simp only at h;omega
   ·rw[if_neg hb] at hm
    refine aM.no (by simp[hb]) ?_;with_reducible refine wK ?_
    refine nK ?_;with_reducible refine wK ?_
    refine aW.mk (i+1,a) ⟨by show a≤i+1;omega,by show i+1≤l.length+1;omega,fun h=>?_,fun h=>?_⟩ (by show l.length+1- (i+1)<l.length+1-i;omega) ⟨⟨rfl,rfl⟩,⟨rfl,rfl,rfl,by show((i+1:Nat):Int)=(i:Int)+1;omega,trivial⟩,trivial⟩
    ·rw[hm,Fy hc h1]
    ·simp only at h;omega
 ·(refine eK ?_ ?_<;>with_reducible repeat' (first|exact trivial|(show _∧_;refine aK ?_ ?_)))
  exact hI.fin (by simp only[cj] at g1;show l.length<i;omega)
@[reducible] def LA : List UInt8 := [97, 32, 98, 32, 98, 117, 116, 116, 111, 110, 32, 100, 105, 118, 32, 102, 105, 101, 108, 100, 115, 101, 116, 32, 102, 111, 114, 109, 32, 105, 32, 105, 110, 112, 117, 116, 32, 108, 97, 98, 101, 108, 32, 108, 101, 103, 101, 110, 100, 32, 108, 105, 32, 111, 112, 116, 105, 111, 110, 32, 111, 117, 116, 112, 117, 116, 32, 112, 32, 115, 101, 108, 101, 99, 116, 32, 115, 112, 97, 110, 32, 116, 101, 109, 112, 108, 97, 116, 101, 32, 116, 101, 120, 116, 97, 114, 101, 97, 32, 117, 108]
def K8:List ByteArray:=(Lib.fields LA).map xX
@[reducible] def uW : List UInt8 := [97, 110, 110, 111, 116, 97, 116, 105, 111, 110, 45, 120, 109, 108, 32, 99, 111, 108, 111, 114, 45, 112, 114, 111, 102, 105, 108, 101, 32, 102, 111, 110, 116, 45, 102, 97, 99, 101, 32, 102, 111, 110, 116, 45, 102, 97, 99, 101, 45, 115, 114, 99, 32, 102, 111, 110, 116, 45, 102, 97, 99, 101, 45, 117, 114, 105, 32, 102, 111, 110, 116, 45, 102, 97, 99, 101, 45, 102, 111, 114, 109, 97, 116, 32, 102, 111, 110, 116, 45, 102, 97, 99, 101, 45, 110, 97, 109, 101, 32, 109, 105, 115, 115, 105, 110, 103, 45, 103, 108, 121, 112, 104]
def vM (l:List UInt8):Bool:=l.any (fun b=>decide (b=45))
def oq (l:List UInt8):Bool:=l.any (fun b=>gD (b.toNat:Int))
def tU:List UInt8→Bool
 |[]=>false
 |b::_=>gM (b.toNat:Int)
def dA (s:ByteArray):Bool:=cm s&&(tU s.data.toList&&(!oq s.data.toList&&(vM s.data.toList&& !u5 lG s)))
theorem CZ (s:ByteArray):Ee s uW=u5 lG s:=by
 have e:(kL [] uW).map strOf=lG:=by decide+kernel
 unfold Ee u5
 rw[←e,List.any_map]
 rfl
theorem AB (l:List UInt8):decide (0≤Lib.indexByte l 45)=vM l:=by
 rw[Bool.eq_iff_iff,aP]
 unfold vM
 rw[List.any_eq_true]
 constructor
 ·intro h
  obtain⟨o,ho⟩:∃o:Nat,Lib.indexByte l 45=o:=⟨(Lib.indexByte l 45).toNat,by omega⟩
  obtain⟨h1,_⟩:=Lib.indexByte_some ho
  exact⟨45,bV h1,rfl⟩
 ·rintro⟨b,hb,e⟩
  have:=of_decide_eq_true e;subst this
  rcases Int.lt_or_le (Lib.indexByte l 45) 0 with h|h
  ·have:Lib.indexByte l 45=-1:=by have:=Lib.indexByte_ge l 45;omega
   obtain⟨k,hk⟩:=List.getElem?_of_mem hb
   exact absurd hk (Lib.indexByte_none this k)
  ·exact h
theorem wL (p:Nat→Bool)(s:ByteArray)(hs:∀b∈s.data.toList,b.toNat<128):∀ (f pos:Nat),s.size≤pos+f→(0≤idxFuncFrom p true s f pos↔ ∃i,pos≤i∧∃b,s.data.toList[i]? =some b∧p b.toNat=true)
 | 0,pos,h=>by
   have:¬ (0:Int)≤idxFuncFrom p true s 0 pos:=by simp[idxFuncFrom]
   refine⟨fun h'=>absurd h' this,?_⟩
   rintro⟨i,h1,b,h2,_⟩
   have:=(aZ h2).1
   have:i<s.size:=this
   omega
 | f + 1,pos,h=>by
   by_cases hp:pos<s.size
   ·have ih:=wL p s hs f
    obtain⟨b,hb1,hb2⟩:∃b,s.data.toList[pos]? =some b∧s.get! pos=b:=⟨_,bH hp,by show s.data[pos]! =_;rw[getElem!_pos s.data pos hp];rfl⟩
    have hb3:=hs b (bV hb1)
    unfold idxFuncFrom
    rw[if_pos hp,decode_at,hb2]
    have hd:∀n b1 b2 b3,decodeN n b.toNat b1 b2 b3=(b.toNat,1):=fun n b1 b2 b3=>by rw[decodeN,if_pos hb3]
    rw[hd]
    show(0:Int)≤ (if p b.toNat=true then(pos:Int) else idxFuncFrom p true s f (pos+1))↔_
    cases hpb:p b.toNat with
    |true=>exact⟨fun _=>⟨pos,Nat.le_refl _,b,hb1,hpb⟩,fun _=>by simp⟩
    | false=>
      rw[if_neg (by simp),ih (pos+1) (by omega)]
      constructor
      ·rintro⟨i,h3,h4⟩;exact⟨i,by omega,h4⟩
      ·rintro⟨i,h3,b',h4,h5⟩
       rcases Nat.lt_or_ge pos i with h6|h6
       ·exact⟨i,h6,b',h4,h5⟩
       ·have:i=pos:=by omega
        subst this
        rw[hb1] at h4;cases h4
        rw[hpb] at h5;cases h5
   ·rw[idxFuncFrom_end _ _ _ _ _ hp]
    refine⟨fun h'=>by omega,?_⟩
    rintro⟨i,h1,b,h2,_⟩
    have:=(aZ h2).1
    have:i<s.size:=this
    omega
theorem yz {s:ByteArray}(h:cm s=true):∀b∈s.data.toList,b.toNat<128:=by
 intro b hb
 unfold cm iz at h
 simp only[bg,List.all_eq_true] at h
 have:=h.1.2 b hb
 unfold ij iT gM gD at this
 simp only[dw,bg,aP] at this
 omega
theorem Af {s:ByteArray}(h:cm s=true):decide (0≤idxFunc (fun r=>gD (r:Int)) true s)=oq s.data.toList:=by
 rw[Bool.eq_iff_iff,aP]
 unfold oq
 rw[List.any_eq_true]
 have:=wL (fun r=>gD (r:Int)) s (yz h) s.size 0 (by omega)
 refine Iff.trans this ⟨?_,?_⟩
 ·rintro⟨i,_,b,h1,h2⟩;exact⟨b,bV h1,h2⟩
 ·rintro⟨b,h1,h2⟩
  obtain⟨i,hi⟩:=List.getElem?_of_mem h1
  exact⟨i,Nat.zero_le _,b,hi,h2⟩
theorem HM (s:ByteArray)(h:cm s=true):aj Tryz.prog 185 [] [cn s,.lit (.func (.func 179) #[] #[])] [] (bA (oq s.data.toList)):=by
 rw[←Af h]
 exact aj.jY (vs:=[.string s,.func (.func 179) #[] #[]]) fun w ht=>tf 179 J5 (fun r=>gD (r:Int)) s w ht fun W x ht _=>(pU (x:Int)).below (vs:=[.int .i32 (x:Int)]) W ht
theorem rH {s:ByteArray}(h:cm s=true):∃b r,s.data.toList=b::r:=by
 unfold cm iz at h
 simp only[bg,aP] at h
 obtain⟨b,r,e,_⟩:=we h.1.1.1
 exact⟨b,r,e⟩
theorem Iy (s:ByteArray):aj Tryz.prog 174 [] [cn s] [] (bA (dA s)):=by
 refine aj.aA (rvs:=[.tmp 2]) G ak Tryz.func174 rfl Tryz.ntmps174 rfl rfl ?_;with_reducible refine wD ?_
 refine cL (Bu s) LC ?_;with_reducible refine wK ?_
 unfold dA
 cases hr:cm s with
 | false=>
   repeat' (first
  |refine aE ?_ ?_
  |((with_reducible show aM _ _ _ _);first|refine iK ?_|(refine aM.mk (fun _=>?_) (fun _=>?_)<;>with_reducible refine wK ?_))
  | apply trivial)
   all_goals rfl
 | true=>
   obtain⟨b,r,hb⟩:=rH hr
   have hb0:s.data.toList[0]? =some b:=by rw[hb];rfl
   have hlf:tU s.data.toList=gM (b.toNat:Int):=by rw[hb];rfl
   have hda:=AB s.data.toList
   have f25:=Hf s 45
   rw[hda] at f25
   refine aM.tt ?_;with_reducible refine wK ?_
   refine kZ.mk 0 b rfl hb0 ?_;with_reducible refine wK ?_
   refine rD.int (by kernel_rfl) (by kernel_rfl) (Gq _) ?_;with_reducible refine wK ?_
   refine cL (xH _) KL ?_;with_reducible refine wK ?_
   repeat' (first
  |refine aE ?_ ?_
  |((with_reducible show aM _ _ _ _);first|refine iK ?_|(refine aM.mk (fun _=>?_) (fun _=>?_)<;>with_reducible refine wK ?_))
  |((with_reducible refine kQ 185 ?_);refine cL (HM s hr) LB ?_;with_reducible refine wK ?_)
  |((with_reducible refine kQ 206 ?_);refine cL f25 MH ?_;with_reducible refine wK ?_)
  |((with_reducible refine kQ 208 ?_);refine ae.new 211 [] HI Mf trivial rfl rfl rfl (CP lG) rfl ?_;with_reducible refine wK ?_)
  |((with_reducible refine kQ 207 ?_);refine ae.lit [211] (Ia lG (by decide) s) L8 ⟨D8 rfl rfl rfl rfl,rfl,trivial⟩ rfl rfl ?_;with_reducible refine wK ?_)
  | apply trivial)
   all_goals (rw[hlf];clear hb hb0 hda f25 hlf;rw[show s.data.toList=s.1.1 from rfl];simp_all)
theorem Ip (l:List UInt8):gA l=l↔oq l=false:=by
 unfold oq
 induction l with
 |nil=>simp[gA]
 | cons c r ih=>
   have hc:jk c=c↔gD (c.toNat:Int)=false:=by
    unfold jk
    cases h:gD (c.toNat:Int) with
    |false=>simp
    | true=>
      simp only[if_true,Bool.true_eq_false,iff_false]
      intro e
      have:(c+32).toNat=c.toNat:=by rw[e]
      rw[UInt8.toNat_add] at this
      have h3:=UInt8.toNat_lt c
      have:(32:UInt8).toNat=32:=rfl
      omega
   simp only[gA,List.map_cons,List.cons.injEq,List.any_cons,Bool.or_eq_false_iff]
   rw[hc]
   exact and_congr_right fun _=>ih
theorem Ce (s:ByteArray):dQ s=s↔oq s.data.toList=false:=by
 rw[←Ip]
 constructor
 ·intro h
  have:(dQ s).data.toList=s.data.toList:=by rw[h]
  exact this
 ·intro h
  unfold dQ
  rw[h]
theorem AI {s:ByteArray}{b:UInt8}{r:List UInt8}(hr:cm s=true)(hb:s.data.toList=b::r)(hc:oq s.data.toList=false):gM (b.toNat:Int)=!decide (b=95):=by
 unfold cm iz at hr
 rw[hb] at hr hc
 unfold oq at hc
 simp only[List.any_cons,Bool.or_eq_false_iff] at hc
 simp only[bg,lW,hc.1,Bool.or_false,dw,aP] at hr
 rcases hr.2 with h|h
 ·rw[h]
  symm
  rw[Bool.not_eq_true',cj]
  rintro rfl
  revert h;decide
 ·have:b=95:=by
   have e:b.toNat=(95:UInt8).toNat:=by
    have:(95:UInt8).toNat=95:=rfl
    omega
   exact UInt8.toNat_inj.1 e
  subst this;decide
theorem LR {c d:UInt8}:decide ((c.toNat:Int)=(d.toNat:Int))=decide (c=d):=by
 rw[decide_eq_decide]
 exact⟨fun h=>UInt8.toNat_inj.1 (by omega),fun h=>by rw[h]⟩
theorem GA (s:ByteArray):aj Tryz.prog 194 [] [cn s,cn ⟨uW.toArray⟩] [] (bA (u5 lG s)):=by
 rw[←CZ];exact HE s ⟨uW.toArray⟩ (by decide)
theorem IF (s:ByteArray)(hs:s.size≤100000):aj Tryz.prog 152 [] [cn s] [] (bA (dA s)):=by
 have hsz:s.size=s.data.toList.length:=iq s
 refine aj.aA (rvs:=[.tmp 2]) G ak Tryz.func152 rfl Tryz.ntmps152 rfl rfl ?_;with_reducible refine wD ?_
 refine cL (ye s) LV ?_;with_reducible refine wK ?_
 cases hr:cm s with
 | false=>
   have e:dA s=false:=by unfold dA;rw[hr];rfl
   rw[e]
   repeat' (first
  |refine aE ?_ ?_
  |((with_reducible show aM _ _ _ _);first|refine iK ?_|(refine aM.mk (fun _=>?_) (fun _=>?_)<;>with_reducible refine wK ?_))
  |apply trivial)
 | true =>
   obtain⟨b,r,hb⟩:=rH hr
   have hb0:s.data.toList[0]? =some b:=by rw[hb];rfl
   refine aM.ff ?_;with_reducible refine wK ?_
   refine cL (wX s hs) JA ?_;with_reducible refine wK ?_
   have hlf:tU s.data.toList=gM (b.toNat:Int):=by rw[hb];rfl
   cases hc:oq s.data.toList with
   | true=>
     have e:dA s=false:=by unfold dA;rw[hc];simp
     have hne:¬s=dQ s:=fun h=>by rw[(Ce s).1 h.symm] at hc;cases hc
     rw[e]
     refine aM.yes (by simp[hne]) ?_;with_reducible refine wK ?_
     repeat' (first
  |refine aE ?_ ?_
  |((with_reducible show aM _ _ _ _);first|refine iK ?_|(refine aM.mk (fun _=>?_) (fun _=>?_)<;>with_reducible refine wK ?_))
  | apply trivial)
   | false=>
     have hfk:=AI hr hb hc
     have heq:s=dQ s:=((Ce s).2 hc).symm
     refine aM.no (by simp[←heq]) ?_;with_reducible refine wK ?_
     refine kZ.mk 0 b rfl hb0 ?_;with_reducible refine wK ?_
     rw[show decide ((b.toNat:Int)=95)=decide (b=95) from LR (d:=95)]
     cases h9:decide (b=95) with
     | true=>
       have e:dA s=false:=by unfold dA;rw[hlf,hfk,h9];simp
       rw[e]
       repeat' (first
  |refine aE ?_ ?_
  |((with_reducible show aM _ _ _ _);first|refine iK ?_|(refine aM.mk (fun _=>?_) (fun _=>?_)<;>with_reducible refine wK ?_))
  |apply  trivial)
     | false=>
       refine aM.ff ?_;with_reducible refine wK ?_
       refine cL (GA s) MI ?_;with_reducible refine wK ?_
       cases hw:u5 lG s with
       | true=>
         have e:dA s=false:=by unfold dA;rw[hw];simp
         rw[e]
         repeat' (first
  |refine aE ?_ ?_
  |((with_reducible show aM _ _ _ _);first|refine iK ?_|(refine aM.mk (fun _=>?_) (fun _=>?_)<;>with_reducible refine wK ?_))
  |apply  trivial)
       | false=>
         have e:dA s=vM s.data.toList:=by unfold dA;rw[hw,hr,hlf,hfk,h9,hc];simp
         rw[e]
         obtain⟨l,hl⟩:∃l,s.data.toList=l:=⟨_,rfl⟩
         rw[hl] at hsz ⊢
         refine aM.ff ?_;with_reducible refine wK ?_
         refine bE.use G ak (fun(k:Nat)=>[(0,cn s),(3,ah k)]) (fun _=>[]) (fun k=>k≤l.length∧∀j x,j<k→l[j]? =some x→decide (x=45)=false) (fun k=>l.length-k) 0 ⟨Nat.zero_le _,fun j x h=>by omega⟩
          ⟨⟨rfl,rfl⟩,⟨rfl,rfl,trivial⟩,trivial⟩ ?_
         rintro k ⟨hk,hno⟩
         with_reducible refine wK ?_
         refine aM.mk (fun g1=>?_) (fun g1=>?_)<;>(try simp only[aq] at g1)<;>with_reducible refine wK ?_
         ·simp only[aP] at g1
          have hk':k<l.length:=by omega
          obtain⟨c,hcc⟩:∃c,l[k]? =some c:=⟨_,bH hk'⟩
          refine kZ.mk k c rfl (by rw[hl];exact hcc) ?_;with_reducible refine wK ?_
          rw[show decide ((c.toNat:Int)=45)=decide (c=45) from LR (d:=45)]
          cases h4:decide (c=45) with
          | true=>
            refine aM.tt ?_;with_reducible refine wK ?_
            (refine eK ?_ ?_<;>with_reducible repeat' (first|exact trivial|(show _∧_;refine aK ?_ ?_)))
            unfold vM
            rw[List.any_eq_true]
            exact⟨c,bV hcc,h4⟩
          | false=>
            refine aM.ff ?_;with_reducible refine wK ?_
            refine nK ?_;with_reducible refine wK ?_
            refine aW.mk (k+1) ⟨by omega,fun j x hj hx=>?_⟩ (by omega) ⟨⟨rfl,rfl⟩,⟨rfl,by show((k+1:Nat):Int)=(k:Int)+1;omega,trivial⟩,trivial⟩
            rcases Nat.lt_or_ge j k with h3|h3
            ·exact hno j x h3 hx
            ·have:j=k:=by omega
             subst this
             rw[hcc] at hx;cases hx;exact h4
         ·(refine eK ?_ ?_<;>with_reducible repeat' (first|exact trivial|(show _∧_;refine aK ?_ ?_)))
          unfold vM
          rw[List.any_eq_false]
          intro x hx
          obtain⟨j,hj⟩:=List.getElem?_of_mem hx
          have:=hno j x (by have:=(aZ hj).1;simp only[cj] at g1;omega) hj
          simp[this]
end Go.Proofs.Heir
