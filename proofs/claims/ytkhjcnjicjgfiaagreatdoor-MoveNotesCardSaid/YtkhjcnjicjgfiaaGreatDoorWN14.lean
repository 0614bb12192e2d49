/- Models, plain laws and contracts of functions of the given program; conditions as stated in each theorem. By an AI agent. -/
import Derived.Test.YtkhjcnjicjgfiaaGreatDoorWN13
import Derived.RangeFuncNested
import Derived.RangeFuncBound
import Derived.RangeFuncCalls
import Derived.Shelf.Abstract
import Derived.Shelf.RegionOpen
import Derived.WalkKit
import Derived.OwnWalkIn
import Derived.TacticsInMore
import Derived.LoopNIn
import Derived.LoopIn
set_option linter.unusedSimpArgs false
set_option linter.unusedVariables false
namespace Go.Proofs.Heir
open Go Go.Am Go.RowKit Go.Lib
set_option maxRecDepth 100000
set_option maxHeartbeats 8000000
theorem G7 (f:ForM)(k:Nat)(x:ai)(hx:f.nodes[k]? =some x):ak Tryz.prog 116 [] [aM f,ah k] [] (bC (sX f.nodes k x)):=by
 have h55:=sI f x.doc 0
 obtain⟨l,m⟩:=f
 obtain⟨a1,a2,a3,a4,a5,a6,a7,a8,a9,a10⟩:=x
 unfold sX
 simp only at h55 hx ⊢
 refine ak.aD (rvs:=[.tmp 4]) G au Tryz.func116 rfl Tryz.ntmps116 rfl rfl ?_;with_reducible refine wD ?_
 refine bg.mk k (aP _) rfl (aB hx) ?_;with_reducible refine wK ?_
 refine cL h55 qe ?_;with_reducible refine wK ?_
 cases hi:j7 l a10 0 with
 | false=>
   (have fct:=hi;(repeat' (first
  |refine gF ?_|refine aE ?_ ?_
  | apply trivial));all_goals clear fct)
   all_goals simp[hi]
 | true=>
   by_cases e:a1=0
   ·(have fct:=And.intro hi (e);(repeat' (first
  |refine gF ?_|refine aE ?_ ?_
  | apply trivial));all_goals clear fct)
    all_goals simp[hi,e]
   ·(have fct:=And.intro hi ((eq_false e));(repeat' (first
  |refine gF ?_|refine aE ?_ ?_
  | apply trivial));all_goals clear fct)
    all_goals simp[hi,e]
theorem GH (f:ForM)(hs:bw f.nodes)(k:Nat)(x:ai)(hx:f.nodes[k]? =some x):ak Tryz.prog 117 [] [aM f,ah k] [] (bC (rK f.nodes k x)):=by
 have h49:=xq f x.parent
 have h56:=BS (nd f.nodes x.parent).kind
 have h57:ae f.nodes x.parent=true→ak Tryz.prog 176 [] [cN (nd f.nodes x.parent).kids,ah k] [] (bC (tu (nd f.nodes x.parent).kids k)):=fun ht=>by
  obtain⟨i,y,_,hy,hnd⟩:=aU.1 ht
  rw[hnd]
  exact HA y.kids (by have:=hs.kids y (bO hy);omega) k
 obtain⟨l,m⟩:=f
 obtain⟨a1,a2,a3,a4,a5,a6,a7,a8,a9,a10⟩:=x
 unfold rK
 simp only at h49 h56 h57 hx ⊢
 refine ak.aD (rvs:=[.tmp 4]) G au Tryz.func117 rfl Tryz.ntmps117 rfl rfl ?_;with_reducible refine wD ?_
 refine bg.mk k (aP _) rfl (aB hx) ?_;with_reducible refine wK ?_
 by_cases e6:a6=-1
 ·(have fct:=e6;(repeat' (first
  |refine gF ?_|refine aE ?_ ?_
  |apply trivial));all_goals clear fct)
  all_goals simp[e6]
 ·refine aX.no (by simp[e6]) ?_;with_reducible refine wK ?_
  have rest:∀b:Bool,(decide (a1=1)||decide (a1=2))=b→(b=false∨b=true):=fun b _=>by cases b<;>simp
  cases ht:ae l a6 with
  | false=>
    by_cases e1:a1=1
    ·(have fct:=And.intro e1 (And.intro ht ((eq_false e6)));(repeat' (first
  |refine gF ?_|refine aE ?_ ?_
  |(((with_reducible refine kQ 129 ?_);refine cL h49 yT ?_)<;>with_reducible refine wK ?_)
  | apply trivial));all_goals clear fct)
     all_goals simp[e1,ht,e6]
    ·by_cases e2:a1=2
     ·(have fct:=And.intro e2 (And.intro ht ((eq_false e6)));(repeat' (first
  |refine gF ?_|refine aE ?_ ?_
  |(((with_reducible refine kQ 129 ?_);refine cL h49 yT ?_)<;>with_reducible refine wK ?_)
  |apply trivial));all_goals clear fct)
      all_goals simp[e2,ht,e6]
     ·(have fct:=And.intro (eq_false e1) (And.intro (eq_false e2) (And.intro ht ((eq_false e6))));(repeat' (first
  |refine gF ?_|refine aE ?_ ?_
  |apply trivial));all_goals clear fct)
      all_goals simp[e1,e2,ht,e6]
  | true=>
    obtain⟨i,y,rfl,hy,hnd⟩:=aU.1 ht
    have h57':=h57 ht
    rw[hnd] at h56 h57' ⊢
    obtain⟨b1,b2,b3,b4,b5,b6,b7,b8,b9,b10⟩:=y
    simp only at h56 h57'
    cases hh:eN b1 with
    | false=>
      by_cases e1:a1=1
      ·(have fct:=And.intro e1 (And.intro ht (And.intro hh ((eq_false e6))));(repeat' (first
  |refine gF ?_|refine aE ?_ ?_
  | ((first
   |((with_reducible refine kQ 129 ?_);refine cL h49 yT ?_)
   |((with_reducible refine kQ 175 ?_);refine cL h56 Eh ?_)
   |(refine bg.mk i (aP _) rfl (aB hy) ?_))<;>with_reducible refine wK ?_)
  |apply trivial));all_goals clear fct)
       all_goals simp[e1,ht,e6,hh]
      ·by_cases e2:a1=2
       ·(have fct:=And.intro e2 (And.intro ht (And.intro hh ((eq_false e6))));(repeat' (first
  |refine gF ?_|refine aE ?_ ?_
  | ((first
   |((with_reducible refine kQ 129 ?_);refine cL h49 yT ?_)
   |((with_reducible refine kQ 175 ?_);refine cL h56 Eh ?_)
   |(refine bg.mk i (aP _) rfl (aB hy) ?_))<;>with_reducible refine wK ?_)
  |apply trivial));all_goals clear fct)
        all_goals simp[e2,ht,e6,hh]
       ·(have fct:=And.intro (eq_false e1) (And.intro (eq_false e2) (And.intro ht (And.intro hh ((eq_false e6)))));(repeat' (first
  |refine gF ?_|refine aE ?_ ?_
  | apply trivial));all_goals clear fct)
        all_goals simp[e1,e2,ht,e6]
    | true=>
      by_cases e1:a1=1
      ·(have fct:=And.intro e1 (And.intro ht (And.intro hh ((eq_false e6))));(repeat' (first
  |refine gF ?_|refine aE ?_ ?_
  | ((first
   |((with_reducible refine kQ 129 ?_);refine cL h49 yT ?_)
   |((with_reducible refine kQ 175 ?_);refine cL h56 Eh ?_)
   |((with_reducible refine kQ 176 ?_);refine cL h57' K5 ?_)
   |(refine bg.mk i (aP _) rfl (aB hy) ?_))<;>with_reducible refine wK ?_)
  |apply trivial));all_goals clear fct)
       all_goals simp[e1,ht,e6,hh]
      ·by_cases e2:a1=2
       ·(have fct:=And.intro e2 (And.intro ht (And.intro hh ((eq_false e6))));(repeat' (first
  |refine gF ?_|refine aE ?_ ?_
  | ((first
   |((with_reducible refine kQ 129 ?_);refine cL h49 yT ?_)
   |((with_reducible refine kQ 175 ?_);refine cL h56 Eh ?_)
   |((with_reducible refine kQ 176 ?_);refine cL h57' K5 ?_)
   |(refine bg.mk i (aP _) rfl (aB hy) ?_))<;>with_reducible refine wK ?_)
  |apply trivial));all_goals clear fct)
        all_goals simp[e2,ht,e6,hh]
       ·(have fct:=And.intro (eq_false e1) (And.intro (eq_false e2) (And.intro ht (And.intro hh ((eq_false e6)))));(repeat' (first
  |refine gF ?_|refine aE ?_ ?_
  |apply trivial));all_goals clear fct)
        all_goals simp[e1,e2,ht,e6]
theorem zT (l:List ai)(m:Nat)(n:Int):fQ l (m+1) n=if cP (nd l n)=-1 then true else fQ l m (cP (nd l n)):=rfl
theorem GF (f:ForM)(hl:f.nodes.length≤100000)(hup:∀ (k:Nat) (x:ai),f.nodes[k]? =some x→cP x=-1∨ae f.nodes (cP x)=true)(k:Nat)(hk:k<f.nodes.length):ak Tryz.prog 120 [] [aM f,ah k] [] (bC (fQ f.nodes f.nodes.length k)):=by
 have h58:=Gr f
 obtain⟨l,m⟩:=f
 simp only at h58 hup hk hl ⊢
 have hlm:(l.map bF).length=l.length:=bW ..
 refine ak.aD (rvs:=[.tmp 4]) G au Tryz.func120 rfl Tryz.ntmps120 rfl rfl ?_;with_reducible refine wD ?_
 refine bX.use G au (fun(i:Nat×Nat)=>[(1,ah i.2),(2,.ptr 20 0 0),(8,ah l.length),(9,ah i.1)]) (fun _=>[(20,.live 2 [aM ⟨l,m⟩] false)]) (fun i=>i.1≤l.length∧i.2<l.length∧fQ l l.length k=fQ l (l.length-i.1) i.2) (fun i=>l.length-i.1) (0,k) ⟨Nat.zero_le _,hk,rfl⟩
  ⟨⟨rfl,rfl⟩,⟨rfl,⟨rfl,rfl⟩,by show(l.length:Int)=((l.map bF).length:Int);rw[hlm],rfl,trivial⟩,⟨⟨rfl,rfl,trivial⟩,trivial⟩,trivial⟩ ?_
 rintro⟨i,j⟩ ⟨hi,hj,he⟩
 simp only at hi hj he
 with_reducible refine wK ?_
 refine aX.mk (fun h1=>?_) (fun h1=>?_)<;>(try simp only[ay] at h1)<;>with_reducible refine wK ?_
 ·have hi':i<l.length:=by simp only[bH] at h1;omega
  obtain⟨x,hx⟩:∃x,l[j]? =some x:=⟨_,bD hj⟩
  have h58':=h58 j x hx
  refine cL h58' L6 ?_;with_reducible refine wK ?_
  rw[show l.length-i=(l.length- (i+1))+1 from by omega] at he
  rw[zT,cU hx] at he
  by_cases e:cP x=-1
  ·rw[if_pos e] at he
   (have fct:=e;(repeat' (first
  |refine gF ?_|refine aE ?_ ?_
  | apply trivial));all_goals clear fct)
   all_goals rw[he]
  ·rw[if_neg e] at he
   rcases hup j x hx with h|h
   ·exact absurd h e
   obtain⟨j',y,hj1,hj2,_⟩:=aU.1 h
   rw[hj1] at he
   have hlt:=(aY hj2).1
   refine aX.no (dx e) ?_;with_reducible refine wK ?_
   refine nK ?_;with_reducible refine wK ?_
   refine bR.mk (i+1,j') ⟨by show i+1≤l.length;omega,hlt,he⟩ (by show l.length- (i+1)<l.length-i;omega) ⟨⟨rfl,rfl⟩,⟨hj1.symm,⟨rfl,rfl⟩,rfl,by show((i+1:Nat):Int)=(i:Int)+1;omega,trivial⟩,⟨⟨rfl,rfl,trivial⟩,trivial⟩,trivial⟩
 ·(refine eK ?_ ?_<;>with_reducible repeat' (first|exact trivial|(show _∧_;refine aK ?_ ?_)))
  have:i=l.length:=by simp only[cR] at h1;omega
  rw[he,this,Nat.sub_self];rfl
theorem uC {l:List ai}{n k:Int}(h:j7 l n k=true):∃ (i:Nat) (x:ai),n=(i:Int)∧l[i]? =some x∧nd l n=x:=by
 unfold j7 at h
 simp only[bN] at h
 exact aU.1 h.1
theorem HC (f:ForM)(k:Nat)(x:ai)(hx:f.nodes[k]? =some x):ak Tryz.prog 119 [] [aM f,ah k] [] (bC (kF f.nodes k x)):=by
 have h1:=sI f x.host 1
 have h4:=sI f x.under 4
 obtain⟨l,m⟩:=f
 obtain⟨a1,a2,a3,a4,a5,a6,a7,a8,a9,a10⟩:=x
 unfold kF
 simp only at h1 h4 hx ⊢
 refine ak.aD (rvs:=[.tmp 4]) G au Tryz.func119 rfl Tryz.ntmps119 rfl rfl ?_;with_reducible refine wD ?_
 refine bg.mk k (aP _) rfl (aB hx) ?_;with_reducible refine wK ?_
 by_cases e4:a1=4
 ·have e1:¬a1=1:=by omega
  refine aX.yes (by simp[e4]) ?_;with_reducible refine wK ?_
  rw[if_pos e4]
  cases hi:j7 l a8 1 with
  | false=>
    rw[hi] at h1
    by_cases e9:a9=-1
    ·(have fct:=And.intro e4 (e9);(repeat' (first
  |refine gF ?_|refine aE ?_ ?_
  |(((with_reducible refine kQ 136 ?_);refine cL h1 qe ?_)<;>with_reducible refine wK ?_)
  | apply trivial));all_goals clear fct)
     all_goals simp[e9]
    ·(have fct:=And.intro e4 (And.intro (eq_false e9) ((eq_false e1)));(repeat' (first
  |refine gF ?_|refine aE ?_ ?_
  |(((with_reducible refine kQ 136 ?_);refine cL h1 qe ?_)<;>with_reducible refine wK ?_)
  |apply trivial));all_goals clear fct)
     all_goals simp[e9,e1]
  | true=>
    rw[hi] at h1
    obtain⟨i,y,rfl,hy,hnd⟩:=uC hi
    rw[hnd]
    obtain⟨b1,b2,b3,b4,b5,b6,b7,b8,b9,b10⟩:=y
    by_cases e9:a9=-1
    ·by_cases u9:b9=k
     ·by_cases u10:b10=a10
      ·(have fct:=And.intro e4 (And.intro e9 (And.intro u9 (u10)));(repeat' (first
  |refine gF ?_|refine aE ?_ ?_
  | ((first
   |((with_reducible refine kQ 136 ?_);refine cL h1 qe ?_)
   |(refine bg.mk i (aP _) rfl (aB hy) ?_))<;>with_reducible refine wK ?_)
  |apply trivial));all_goals clear fct)
       all_goals simp[e9,u9,u10]
      ·(have fct:=And.intro e4 (And.intro e9 (And.intro u9 ((eq_false u10))));(repeat' (first
  |refine gF ?_|refine aE ?_ ?_
  | ((first
   |((with_reducible refine kQ 136 ?_);refine cL h1 qe ?_)
   |(refine bg.mk i (aP _) rfl (aB hy) ?_))<;>with_reducible refine wK ?_)
  |apply trivial));all_goals clear fct)
       all_goals simp[e9,u9,u10]
     ·(have fct:=And.intro e4 (And.intro e9 ((eq_false u9)));(repeat' (first
  |refine gF ?_|refine aE ?_ ?_
  | ((first
   |((with_reducible refine kQ 136 ?_);refine cL h1 qe ?_)
   |(refine bg.mk i (aP _) rfl (aB hy) ?_))<;>with_reducible refine wK ?_)
  | apply trivial));all_goals clear fct)
      all_goals simp[e9,u9]
    ·by_cases u9:b9=k
     ·by_cases u10:b10=a10
      ·(have fct:=And.intro e4 (And.intro (eq_false e9) (And.intro (eq_false e1) (And.intro u9 (u10))));(repeat' (first
  |refine gF ?_|refine aE ?_ ?_
  | ((first
   |((with_reducible refine kQ 136 ?_);refine cL h1 qe ?_)
   |(refine bg.mk i (aP _) rfl (aB hy) ?_))<;>with_reducible refine wK ?_)
  |apply trivial));all_goals clear fct)
       all_goals simp[e9,e1,u9,u10]
      ·(have fct:=And.intro e4 (And.intro (eq_false e9) (And.intro (eq_false e1) (And.intro u9 ((eq_false u10)))));(repeat' (first
  |refine gF ?_|refine aE ?_ ?_
  | ((first
   |((with_reducible refine kQ 136 ?_);refine cL h1 qe ?_)
   |(refine bg.mk i (aP _) rfl (aB hy) ?_))<;>with_reducible refine wK ?_)
  |apply trivial));all_goals clear fct)
       all_goals simp[e9,e1,u9,u10]
     ·(have fct:=And.intro e4 (And.intro (eq_false e9) (And.intro (eq_false e1) ((eq_false u9))));(repeat' (first
  |refine gF ?_|refine aE ?_ ?_
  | ((first
   |((with_reducible refine kQ 136 ?_);refine cL h1 qe ?_)
   |(refine bg.mk i (aP _) rfl (aB hy) ?_))<;>with_reducible refine wK ?_)
  |apply trivial));all_goals clear fct)
      all_goals simp[e9,e1,u9]
 ·refine aX.no (by simp[e4]) ?_;with_reducible refine wK ?_
  rw[if_neg e4]
  by_cases e8:a8=-1
  ·by_cases e9:a9=-1
   ·(have fct:=And.intro (eq_false e4) (And.intro e8 (e9));(repeat' (first
  |refine gF ?_|refine aE ?_ ?_
  | apply trivial));all_goals clear fct)
    all_goals simp[e9,e8]
   ·by_cases e1:a1=1
    ·cases hu:j7 l a9 4 with
     | false=>
       rw[hu] at h4
       (have fct:=And.intro (eq_false e4) (And.intro e8 (And.intro (eq_false e9) (e1)));(repeat' (first
  |refine gF ?_|refine aE ?_ ?_
  |(((with_reducible refine kQ 136 ?_);refine cL h4 qe ?_)<;>with_reducible refine wK ?_)
  |apply trivial));all_goals clear fct)
       all_goals simp[e9,e8,e1]
     | true=>
       rw[hu] at h4
       obtain⟨j,z,rfl,hz,hnd⟩:=uC hu
       rw[hnd]
       obtain⟨d1,d2,d3,d4,d5,d6,d7,d8,d9,d10⟩:=z
       (have fct:=And.intro (eq_false e4) (And.intro e8 (And.intro (eq_false e9) (e1)));(repeat' (first
  |refine gF ?_|refine aE ?_ ?_
  | ((first
   |((with_reducible refine kQ 136 ?_);refine cL h4 qe ?_)
   |(refine bg.mk j (aP ⟨d1,d2,d3,d4,d5,d6,d7,d8,d9,d10⟩) rfl (aB hz) ?_))<;>with_reducible refine wK ?_)
  | apply trivial));all_goals clear fct)
       all_goals simp[e9,e8,e1]
    ·(have fct:=And.intro (eq_false e4) (And.intro e8 (And.intro (eq_false e9) ((eq_false e1))));(repeat' (first
  |refine gF ?_|refine aE ?_ ?_
  |apply trivial));all_goals clear fct)
     all_goals simp[e9,e8,e1]
  ·by_cases e9:a9=-1
   ·(have fct:=And.intro (eq_false e4) (And.intro (eq_false e8) (e9));(repeat' (first
  |refine gF ?_|refine aE ?_ ?_
  | apply trivial));all_goals clear fct)
    all_goals simp[e9,e8]
   ·by_cases e1:a1=1
    ·cases hu:j7 l a9 4 with
     | false=>
       rw[hu] at h4
       (have fct:=And.intro (eq_false e4) (And.intro (eq_false e8) (And.intro (eq_false e9) (e1)));(repeat' (first
  |refine gF ?_|refine aE ?_ ?_
  |(((with_reducible refine kQ 136 ?_);refine cL h4 qe ?_)<;>with_reducible refine wK ?_)
  |apply trivial));all_goals clear fct)
       all_goals simp[e9,e8,e1]
     | true=>
       rw[hu] at h4
       obtain⟨j,z,rfl,hz,hnd⟩:=uC hu
       rw[hnd]
       obtain⟨d1,d2,d3,d4,d5,d6,d7,d8,d9,d10⟩:=z
       (have fct:=And.intro (eq_false e4) (And.intro (eq_false e8) (And.intro (eq_false e9) (e1)));(repeat' (first
  |refine gF ?_|refine aE ?_ ?_
  | ((first
   |((with_reducible refine kQ 136 ?_);refine cL h4 qe ?_)
   |(refine bg.mk j (aP ⟨d1,d2,d3,d4,d5,d6,d7,d8,d9,d10⟩) rfl (aB hz) ?_))<;>with_reducible refine wK ?_)
  | apply trivial));all_goals clear fct)
       all_goals simp[e9,e8,e1]
    ·(have fct:=And.intro (eq_false e4) (And.intro (eq_false e8) (And.intro (eq_false e9) ((eq_false e1))));(repeat' (first
  |refine gF ?_|refine aE ?_ ?_
  |apply trivial));all_goals clear fct)
     all_goals simp[e9,e8,e1]
theorem B8 (x:ai)(hx:x.attrs.length≤100000):ak Tryz.prog 115 [] [aP x] [] (bC (fo x)):=by
 have h45:=rB x.name
 have h54:=H6 x.is
 have h44:=BU x.attrs hx
 obtain⟨a1,a2,a3,a4,a5,a6,a7,a8,a9,a10⟩:=x
 have hlm:(a5.map cV).length=a5.length:=bW ..
 unfold fo
 simp only at h45 h54 h44 hx ⊢
 refine ak.aD (rvs:=[.tmp 2]) G au Tryz.func115 rfl Tryz.ntmps115 rfl rfl ?_;with_reducible refine wD ?_
 by_cases e1:a1=1
 ·rw [if_pos e1]
  cases hr:bJ a2 with
  | false=>
    rw[hr] at h45
    simp only[Bool.false_eq_true,if_false] at h45
    (have fct:=And.intro e1 (hr);(repeat' (first
  |refine gF ?_|refine aE ?_ ?_
  |(((with_reducible refine kQ 67 ?_);refine cL h45 DT ?_)<;>with_reducible refine wK ?_)
  | apply trivial));all_goals clear fct)
    all_goals simp[hr]
  | true=>
    rw[hr] at h45
    simp only[if_true] at h45
    by_cases hl:dy a2=a2
    ·by_cases h3:a3=⟨#[]⟩
     ·by_cases h4:a4=⟨#[]⟩
      ·(have fct:=And.intro e1 (And.intro hr (And.intro hl (And.intro h3 (h4))));(repeat' (first
  |refine gF ?_|refine aE ?_ ?_
  | ((first
   |((with_reducible refine kQ 67 ?_);refine cL h45 DT ?_)
   |((with_reducible refine kQ 131 ?_);refine cL h44 I9 ?_))<;>with_reducible refine wK ?_)
  |apply trivial));all_goals clear fct)
       all_goals simp[hr,hl,h3,h4]
      ·(have fct:=And.intro e1 (And.intro hr (And.intro hl (And.intro h3 ((eq_false h4)))));(repeat' (first
  |refine gF ?_|refine aE ?_ ?_
  |(((with_reducible refine kQ 67 ?_);refine cL h45 DT ?_)<;>with_reducible refine wK ?_)
  |apply trivial));all_goals clear fct)
       all_goals simp[hr,hl,h3,h4]
     ·cases hc:lN a3 with
      | false=>
        rw[hc] at h54
        (have fct:=And.intro e1 (And.intro hr (And.intro hl (And.intro (eq_false h3) (hc))));(repeat' (first
  |refine gF ?_|refine aE ?_ ?_
  | ((first
   |((with_reducible refine kQ 67 ?_);refine cL h45 DT ?_)
   |((with_reducible refine kQ 174 ?_);refine cL h54 I8 ?_))<;>with_reducible refine wK ?_)
  |apply trivial));all_goals clear fct)
        all_goals simp[hr,hl,h3,hc]
      | true=>
        rw[hc] at h54
        by_cases h4:a4=⟨#[]⟩
        ·(have fct:=And.intro e1 (And.intro hr (And.intro hl (And.intro (eq_false h3) (And.intro hc (h4)))));(repeat' (first
  |refine gF ?_|refine aE ?_ ?_
  | ((first
   |((with_reducible refine kQ 67 ?_);refine cL h45 DT ?_)
   |((with_reducible refine kQ 174 ?_);refine cL h54 I8 ?_)
   |((with_reducible refine kQ 131 ?_);refine cL h44 I9 ?_))<;>with_reducible refine wK ?_)
  |apply  trivial));all_goals clear fct)
         all_goals simp[hr,hl,h3,hc,h4]
        ·(have fct:=And.intro e1 (And.intro hr (And.intro hl (And.intro (eq_false h3) (And.intro hc ((eq_false h4))))));(repeat' (first
  |refine gF ?_|refine aE ?_ ?_
  | ((first
   |((with_reducible refine kQ 67 ?_);refine cL h45 DT ?_)
   |((with_reducible refine kQ 174 ?_);refine cL h54 I8 ?_))<;>with_reducible refine wK ?_)
  | apply trivial));all_goals clear fct)
         all_goals simp[hr,hl,h3,hc,h4]
    ·(have fct:=And.intro e1 (And.intro hr ((eq_false hl)));(repeat' (first
  |refine gF ?_|refine aE ?_ ?_
  |(((with_reducible refine kQ 67 ?_);refine cL h45 DT ?_)<;>with_reducible refine wK ?_)
  |apply trivial));all_goals clear fct)
     all_goals simp[hr,hl]
 ·rw [if_neg e1]
  by_cases e2:a1=2
  ·rw [if_pos e2]
   by_cases hd:a4.size≤200
   ·by_cases h2:a2=⟨#[]⟩
    ·by_cases h3:a3=⟨#[]⟩
     ·(have fct:=And.intro e2 (And.intro hd (And.intro h2 (h3)));(repeat' (first
  |refine gF ?_|refine aE ?_ ?_
  |apply trivial));all_goals clear fct)
      all_goals simp[hd,h2,h3]
     ·(have fct:=And.intro e2 (And.intro hd (And.intro h2 ((eq_false h3))));(repeat' (first
  |refine gF ?_|refine aE ?_ ?_
  | apply trivial));all_goals clear fct)
      all_goals simp[hd,h2,h3]
    ·(have fct:=And.intro e2 (And.intro hd ((eq_false h2)));(repeat' (first
  |refine gF ?_|refine aE ?_ ?_
  | apply trivial));all_goals clear fct)
     all_goals simp[hd,h2]
   ·(have fct:=And.intro e2 ((eq_false hd));(repeat' (first
  |refine gF ?_|refine aE ?_ ?_
  | apply trivial));all_goals clear fct)
    all_goals simp[hd]
  ·rw [if_neg e2]
   by_cases ho:a1=0∨a1=3∨a1=4
   ·rw [if_pos ho]
    by_cases h2:a2=⟨#[]⟩
    ·by_cases h3:a3=⟨#[]⟩
     ·by_cases h4:a4=⟨#[]⟩
      ·rcases ho with e|e|e
       ·(have fct:=And.intro e (And.intro h2 (And.intro h3 (h4)));(repeat' (first
  |refine gF ?_|refine aE ?_ ?_
  |apply trivial));all_goals clear fct)
        all_goals simp[h2,h3,h4]
       ·(have fct:=And.intro e (And.intro h2 (And.intro h3 (h4)));(repeat' (first
  |refine gF ?_|refine aE ?_ ?_
  |apply trivial));all_goals clear fct)
        all_goals simp[h2,h3,h4]
       ·(have fct:=And.intro e (And.intro h2 (And.intro h3 (h4)));(repeat' (first
  |refine gF ?_|refine aE ?_ ?_
  |apply trivial));all_goals clear fct)
        all_goals simp[h2,h3,h4]
      ·rcases ho with e|e|e
       ·(have fct:=And.intro e (And.intro h2 (And.intro h3 ((eq_false h4))));(repeat' (first
  |refine gF ?_|refine aE ?_ ?_
  |apply trivial));all_goals clear fct)
        all_goals simp[h2,h3,h4]
       ·(have fct:=And.intro e (And.intro h2 (And.intro h3 ((eq_false h4))));(repeat' (first
  |refine gF ?_|refine aE ?_ ?_
  |apply trivial));all_goals clear fct)
        all_goals simp[h2,h3,h4]
       ·(have fct:=And.intro e (And.intro h2 (And.intro h3 ((eq_false h4))));(repeat' (first
  |refine gF ?_|refine aE ?_ ?_
  |apply trivial));all_goals clear fct)
        all_goals simp[h2,h3,h4]
     ·rcases ho with e|e|e
      ·(have fct:=And.intro e (And.intro h2 ((eq_false h3)));(repeat' (first
  |refine gF ?_|refine aE ?_ ?_
  |apply trivial));all_goals clear fct)
       all_goals simp[h2,h3]
      ·(have fct:=And.intro e (And.intro h2 ((eq_false h3)));(repeat' (first
  |refine gF ?_|refine aE ?_ ?_
  |apply trivial));all_goals clear fct)
       all_goals simp[h2,h3]
      ·(have fct:=And.intro e (And.intro h2 ((eq_false h3)));(repeat' (first
  |refine gF ?_|refine aE ?_ ?_
  | apply trivial));all_goals clear fct)
       all_goals simp[h2,h3]
    ·rcases ho with e|e|e
     ·(have fct:=And.intro e ((eq_false h2));(repeat' (first
  |refine gF ?_|refine aE ?_ ?_
  |apply trivial));all_goals clear fct)
      all_goals simp[h2]
     ·(have fct:=And.intro e ((eq_false h2));(repeat' (first
  |refine gF ?_|refine aE ?_ ?_
  |apply trivial));all_goals clear fct)
      all_goals simp[h2]
     ·(have fct:=And.intro e ((eq_false h2));(repeat' (first
  |refine gF ?_|refine aE ?_ ?_
  | apply trivial));all_goals clear fct)
      all_goals simp[h2]
   ·rw[if_neg ho]
    have e0:¬a1=0:=fun h=>ho (.inl h)
    have e3:¬a1=3:=fun h=>ho (.inr (.inl h))
    have e4:¬a1=4:=fun h=>ho (.inr (.inr h))
    (have fct:=And.intro e0 (And.intro e1 (And.intro e2 (And.intro e3 (e4))));(repeat' (first
  |refine gF ?_|refine aE ?_ ?_
  |apply trivial));all_goals clear fct)
def nw (l:List Int):List (Int×Int):=l.map fun c=>(c,1)
theorem qy (c:Int):∀l:List Int,iQ c (nw l)=if c∈l then some 1 else none
 |[]=>rfl
 | a ::r=>by
   show(if a=c then some 1 else iQ c (nw r))=_
   rw[qy c r]
   by_cases e:a=c
   ·rw[if_pos e,if_pos (by simp[e])]
   ·rw[if_neg e]
    by_cases h:c∈r
    ·rw[if_pos h,if_pos (eP _ h)]
    ·rw[if_neg h,if_neg (by simp[h];exact fun e'=>e e'.symm)]
theorem CM {l:List Int}{c:Int}(h:c∉l):jO c 1 (nw l)=nw (l++ [c]):=by
 rw[sZ (by rw[qy,if_neg h])]
 simp[nw]
theorem oI {α:Type}{l:List α}{k:Nat}{x:α}(h:l[k]? =some x):l.take (k+1)=l.take k++ [x]:=by
 obtain⟨hk,rfl⟩:=aY h
 rw[List.take_add_one,bD hk];rfl
theorem C5 {l:List ai}{n:Int}{x:ai}{cs:List Int}{j:Nat}{c:Int}(h:cs[j]? =some c):kI l n x (cs.take j) (cs.drop j)=(zz l n x (cs.take j) c&&kI l n x (cs.take (j+1)) (cs.drop (j+1))):=by
 obtain⟨hk,rfl⟩:=aY h
 rw[List.drop_eq_getElem_cons hk,oI h]
 rfl
theorem Ae {l:List ai}{cs:List Int}{j:Nat}{c:Int}(h:cs[j]? =some c):cC l (cs.take (j+1))=cC l (cs.take j)+if(nd l c).kind=1 then 1 else 0:=by
 rw[oI h]
 unfold cC
 rw[List.countP_append,List.countP_cons];simp
theorem Fk (l:List ai)(cs:List Int)(j:Nat):cC l (cs.take j)≤j:=by
 unfold cC
 refine Nat.le_trans List.countP_le_length ?_
 simp;omega
@[reducible] def KP (t : List (Int × Int)) : MS := .live 2 (iW Ft bU t) false
theorem lT (t:List (Int×Int)):br (iW Ft bU t)=true:=by
 rw[cT];intro x hx
 obtain⟨a,_,rfl⟩:=List.mem_map.1 hx
 rfl
theorem Gp (f:ForM)(hs:bw f.nodes)(k:Nat)(x:ai)(hx:f.nodes[k]? =some x):ak Tryz.prog 118 [] [aM f,ah k] [] (bC (oW f.nodes k x)):=by
 have h49:=xq f
 have h56:=BS x.kind
 have h7:=hs.kids x (bO hx)
 have hl:=hs.len
 obtain⟨l,m⟩:=f
 have hst:=fun j c=> @C5 l k x x.kids j c
 have hse:=fun j c=> @Ae l x.kids j c
 unfold oW
 simp only at h49 h56 hx h7 hl ⊢
 obtain⟨⟨a1,a2,a3,a4,a5,a6,a7,a8,a9,a10⟩,hx0⟩:∃y,y=x:=⟨x,rfl⟩
 rw[←hx0] at hx h56 h7 hst hse ⊢
 simp only at h56 h7 hst hse ⊢
 have hlm:(a7.map bU).length=a7.length:=bW ..
 refine ak.aD (rvs:=[.tmp 4]) G au Tryz.func118 rfl Tryz.ntmps118 rfl rfl ?_;with_reducible refine wD ?_
 refine bg.mk k (aP _) rfl (aB hx) ?_;with_reducible refine wK ?_
 refine bX.use G au (fun(j:Nat)=>[(1,ah k),(2,.ptr 20 0 0),(5,.ptr 50 0 0),(6,.mapr 161),(7,ah (cC l (a7.take j))),(18,cN a7),(19,ah a7.length),(20,ah j)])
  (fun j=>[(20,.live 2 [aM ⟨l,m⟩] false),(50,.live 10 [aP ⟨a1,a2,a3,a4,a5,a6,a7,a8,a9,a10⟩] false),(161,KP (nw (a7.take j)))])
  (fun j=>j≤a7.length∧kI l k ⟨a1,a2,a3,a4,a5,a6,a7,a8,a9,a10⟩ [] a7=kI l k ⟨a1,a2,a3,a4,a5,a6,a7,a8,a9,a10⟩ (a7.take j) (a7.drop j)) (fun j=>a7.length-j) 0 ⟨Nat.zero_le _,rfl⟩
  ⟨⟨rfl,rfl⟩,⟨rfl,⟨rfl,rfl⟩,⟨rfl,rfl⟩,trivial,rfl,rfl,by show(a7.length:Int)=((a7.map bU).length:Int);rw[hlm],rfl,trivial⟩,⟨⟨rfl,rfl,trivial⟩,trivial⟩,⟨⟨rfl,rfl,rfl,rfl,rfl,rfl,rfl,rfl,rfl,rfl,trivial⟩,trivial⟩,⟨.refl rfl,rfl⟩,trivial⟩ ?_
 rintro j ⟨hj,hok⟩
 with_reducible refine wK ?_
 refine aX.mk (fun h1=>?_) (fun h1=>?_)<;>(try simp only[ay] at h1)<;>with_reducible refine wK ?_
 ·have hj' :j<a7.length:=by simp only[bH] at h1;omega
  obtain⟨c,hc⟩:∃c,a7[j]? =some c:=⟨_,bD hj'⟩
  rw[hst j c hc] at hok
  have hse':=hse j c hc
  have hel:=Fk l a7 j
  have h49':=h49 c
  unfold zz at hok
  refine bg.mk j (ah c) rfl (gr hc) ?_;with_reducible refine wK ?_
  refine cL h49' yT ?_;with_reducible refine wK ?_
  cases ht:ae l c with
  | false=>
    rw[ht] at hok
    simp only[Bool.false_and] at hok
    rw[hok,Bool.false_and]
    (have fct:=ht;(repeat' (first
  |refine gF ?_|refine aE ?_ ?_
  |apply trivial));all_goals clear fct)
  | true=>
    obtain⟨i,y,rfl,hy,hnd⟩:=aU.1 ht
    rw[ht,hnd] at hok
    rw[hnd] at hse'
    obtain⟨b1,b2,b3,b4,b5,b6,b7,b8,b9,b10⟩:=y
    simp only[Bool.true_and] at hok hse'
    refine aX.ff ?_;with_reducible refine wK ?_
    have hts:=qy (i:Int) (a7.take j)
    refine pQ.tab Ft bU (nw (a7.take j)) (k:=(i:Int)) (zv:=ah 0) I2 ⟨_,_,rfl⟩ wZ xA rfl rfl (fun z hxx=>?_) (fun hxx=>?_)
    ·rw[hxx] at hts
     have hin:(i:Int)∈a7.take j:=by by_cases h:(i:Int)∈a7.take j;exact h;rw[if_neg h] at hts;cases hts
     rw[if_pos hin] at hts
     cases hts
     rw[show tu (a7.take j) (i:Int)=true from dJ hin] at hok
     simp only[Bool.not_true,Bool.false_and] at hok
     rw[hok,Bool.false_and]
     rw[show bU 1=ah 1 from rfl]
     with_reducible refine wK ?_
     (have fct:=ht;(repeat' (first
  |refine gF ?_|refine aE ?_ ?_
  | apply trivial));all_goals clear fct)
    ·rw [hxx] at hts
     have hin:(i:Int)∉a7.take j:=by intro h;rw[if_pos h] at hts;cases hts
     rw[show tu (a7.take j) (i:Int)=false from dx hin] at hok
     simp only[Bool.not_false,Bool.true_and] at hok
     with_reducible refine wK ?_
     by_cases e6:b6=k
     ·by_cases e10:b10=a10
      ·simp only[e6,e10,decide_true,Bool.true_and] at hok
       (have fct:=And.intro e6 (e10);(repeat' (first
  |refine gF ?_|refine aE ?_ ?_
  |((refine bg.mk i (aP _) rfl (aB hy) ?_)<;>with_reducible refine wK ?_)
  |apply trivial));all_goals clear fct)
       refine pQ.tab Ft bU (nw (a7.take j)) (k:=(i:Int)) (zv:=ah 0) I2 ⟨_,_,rfl⟩ wZ xA rfl rfl (fun z hyy=>?_) (fun hyy=>?_)
       ·rw[hxx] at hyy;cases hyy
       with_reducible refine wK ?_
       have hln:(nw (a7.take j)).length≤j:=by unfold nw;simp;omega
       have hsn:=CM hin
       rw[←oI hc] at hsn
       refine nK ?_;with_reducible refine wK ?_
       refine wL.tab Ft bU (nw (a7.take j)) (k:=(i:Int)) (1:Int) I2 rfl wZ xA (by unfold maxLen;omega) rfl ?_;with_reducible refine wK ?_
       rw[hsn]
       refine bg.mk i (aP _) rfl (aB hy) ?_;with_reducible refine wK ?_
       by_cases f1:b1=1
       ·have hs1:(cC l (a7.take (j+1)):Int)=cC l (a7.take j)+1:=by rw[hse',if_pos f1];rfl
        simp only[f1,decide_true,Bool.true_or,Bool.true_and] at hok
        (have fct:=f1;(repeat' (first
  |refine gF ?_|refine aE ?_ ?_
  |(((with_reducible show bR _ _);refine bR.mk (j+1) ⟨by omega,hok⟩ (by omega) ⟨⟨rfl,rfl⟩,⟨rfl,⟨rfl,rfl⟩,⟨rfl,rfl⟩,trivial,hs1,rfl,rfl,by show((j+1:Nat):Int)=(j:Int)+1;omega,trivial⟩,⟨⟨rfl,rfl,trivial⟩,trivial⟩,⟨⟨rfl,rfl,rfl,rfl,rfl,rfl,rfl,rfl,rfl,rfl,trivial⟩,trivial⟩,⟨.refl (lT _),lT _⟩,trivial⟩)<;>with_reducible refine wK ?_)
  |apply  trivial));all_goals clear fct)
       ·have hs1:(cC l (a7.take (j+1)):Int)=cC l (a7.take j):=by rw[hse',if_neg f1];rfl
        by_cases f2:b1=2
        ·by_cases e0:a1=0
         ·have hkk:(decide (b1=1)||decide (b1=2)&&decide (a1≠0))=false:=by simp[f2,e0]
          rw[hkk,Bool.false_and] at hok
          rw[hok,Bool.false_and]
          (have fct:=And.intro (eq_false f1) (And.intro f2 (e0));(repeat' (first
  |refine gF ?_|refine aE ?_ ?_
  |apply  trivial));all_goals clear fct)
         ·have hkk:(decide (b1=1)||decide (b1=2)&&decide (a1≠0))=true:=by simp[f2,e0]
          rw[hkk,Bool.true_and] at hok
          (have fct:=And.intro (eq_false f1) (And.intro f2 ((eq_false e0)));(repeat' (first
  |refine gF ?_|refine aE ?_ ?_
  |(((with_reducible show bR _ _);refine bR.mk (j+1) ⟨by omega,hok⟩ (by omega) ⟨⟨rfl,rfl⟩,⟨rfl,⟨rfl,rfl⟩,⟨rfl,rfl⟩,trivial,hs1,rfl,rfl,by show((j+1:Nat):Int)=(j:Int)+1;omega,trivial⟩,⟨⟨rfl,rfl,trivial⟩,trivial⟩,⟨⟨rfl,rfl,rfl,rfl,rfl,rfl,rfl,rfl,rfl,rfl,trivial⟩,trivial⟩,⟨.refl (lT _),lT _⟩,trivial⟩)<;>with_reducible refine wK ?_)
  |apply  trivial));all_goals clear fct)
        ·simp only[eq_false f1,eq_false f2,decide_false,Bool.false_and,Bool.or_false] at hok
         rw[hok,Bool.false_and]
         (have fct:=And.intro f1 (f2);(repeat' (first
  |refine gF ?_|refine aE ?_ ?_
  |apply trivial));all_goals clear fct)
      ·simp only[e6,eq_false e10,decide_true,decide_false,Bool.true_and,Bool.false_and] at hok
       rw[hok,Bool.false_and]
       (have fct:=And.intro e6 ((eq_false e10));(repeat' (first
  |refine gF ?_|refine aE ?_ ?_
  |((refine bg.mk i (aP _) rfl (aB hy) ?_)<;>with_reducible refine wK ?_)
  |apply trivial));all_goals clear fct)
     ·simp only[eq_false e6,decide_false,Bool.false_and] at hok
      rw[hok,Bool.false_and]
      (have fct:=(eq_false e6);(repeat' (first
  |refine gF ?_|refine aE ?_ ?_
  |((refine bg.mk i (aP _) rfl (aB hy) ?_)<;>with_reducible refine wK ?_)
  |apply trivial));all_goals clear fct)
 ·have hjl:j=a7.length:=by simp only[cR] at h1;omega
  rw[hjl,List.take_length,List.drop_length] at hok
  rw[hjl,List.take_length]
  rw[hok]
  simp only[kI,Bool.true_and]
  refine cL h56 Eh ?_;with_reducible refine wK ?_
  by_cases e7:a7.length=0
  ·have e7':a7=[]:=List.eq_nil_of_length_eq_zero e7
   cases hh:eN a1 with
   | false=>
     by_cases e0:a1=0
     ·(have fct:=And.intro hh (And.intro e0 (And.intro e7 (hlm)));(repeat' (first
  |refine gF ?_|refine aE ?_ ?_
  |apply trivial));all_goals clear fct)
      all_goals first|(simp[hh,e0,e7'];done)|((try simp only[ay]);simp[hh,e0,e7'];omega)
     ·(have fct:=And.intro hh (And.intro (eq_false e0) (And.intro e7 (hlm)));(repeat' (first
  |refine gF ?_|refine aE ?_ ?_
  | apply trivial));all_goals clear fct)
      all_goals first|(simp[hh,e0,e7'];done)|((try simp only[ay]);simp[hh,e0,e7'];omega)
   | true=>
     by_cases e0:a1=0
     ·(have fct:=And.intro hh (And.intro e0 (And.intro e7 (hlm)));(repeat' (first
  |refine gF ?_|refine aE ?_ ?_
  |apply trivial));all_goals clear fct)
      all_goals first|(simp[hh,e0,e7'];done)|((try simp only[ay]);simp[hh,e0,e7'];omega)
     ·(have fct:=And.intro hh (And.intro (eq_false e0) (And.intro e7 (hlm)));(repeat' (first
  |refine gF ?_|refine aE ?_ ?_
  |apply trivial));all_goals clear fct)
      all_goals first|(simp[hh,e0,e7'];done)|((try simp only[ay]);simp[hh,e0,e7'];omega)
  ·have e7':¬a7=[]:=fun h=>e7 (by rw[h];rfl)
   cases hh:eN a1 with
   | false=>
     by_cases e0:a1=0
     ·(have fct:=And.intro hh (And.intro e0 (And.intro e7 (hlm)));(repeat' (first
  |refine gF ?_|refine aE ?_ ?_
  |apply trivial));all_goals clear fct)
      all_goals first|(simp[hh,e0,e7'];done)|((try simp only[ay]);simp[hh,e0,e7'];omega)
     ·(have fct:=And.intro hh (And.intro (eq_false e0) (And.intro e7 (hlm)));(repeat' (first
  |refine gF ?_|refine aE ?_ ?_
  | apply trivial));all_goals clear fct)
      all_goals first|(simp[hh,e0,e7'];done)|((try simp only[ay]);simp[hh,e0,e7'];omega)
   | true=>
     by_cases e0:a1=0
     ·(have fct:=And.intro hh (And.intro e0 (And.intro e7 (hlm)));(repeat' (first
  |refine gF ?_|refine aE ?_ ?_
  |apply trivial));all_goals clear fct)
      all_goals first|(simp[hh,e0,e7'];done)|((try simp only[ay]);simp[hh,e0,e7'];omega)
     ·(have fct:=And.intro hh (And.intro (eq_false e0) (And.intro e7 (hlm)));(repeat' (first
  |refine gF ?_|refine aE ?_ ?_
  |apply trivial));all_goals clear fct)
      all_goals first|(simp[hh,e0,e7'];done)|((try simp only[ay]);simp[hh,e0,e7'];omega)
theorem zn {α:Type}{p:Nat→α→Bool}{l:List α}{k:Nat}{x:α}(h:l[k]? =some x)(hp:p k x=false):oc p 0 l=false:=by
 rw[Bool.eq_false_iff]
 intro h1
 have:=jA.1 h1 k x h
 rw[Nat.zero_add,hp] at this
 cases this
theorem wm {α:Type}{p:Nat→α→Bool}{l:List α}(h:∀k x,l[k]? =some x→p k x=true):oc p 0 l=true:=
 jA.2 fun k x hx=>by rw[Nat.zero_add];exact h k x hx
theorem FE (f:ForM)(hs:bw f.nodes):ak Tryz.prog 55 [] [aM f] [] (bC (bt f)):=by
 have hl:=hs.len
 have h38:∀x∈f.nodes,ak Tryz.prog 115 [] [aP x] [] (bC (fo x)):=fun x hx=>B8 x (by have:=hs.attrs x hx;omega)
 have h39:=G7 f
 have h40:=GH f hs
 have h41:=Gp f hs
 have h42:=HC f
 have h43:(∀n,ae f.nodes n=true→dB f.nodes n (nd f.nodes n)=true)→∀k,k<f.nodes.length→ak Tryz.prog 120 [] [aM f,ah k] [] (bC (fQ f.nodes f.nodes.length k)):=fun hN k hk=>GF f (by omega) (fun k x hx=>by have:=GX hN k (iz hx);rwa [cU hx] at this) k hk
 obtain⟨l,m⟩:=f
 unfold bt oz
 simp only at hl h38 h39 h40 h41 h42 h43 ⊢
 have hlm:(l.map bF).length=l.length:=bW ..
 refine ak.aD (rvs:=[.tmp 2]) G au Tryz.func55 rfl Tryz.ntmps55 rfl rfl ?_;with_reducible refine wD ?_
 by_cases e1:m<1
 ·have c1:decide (1≤m)=false:=dx (by omega)
  rw[c1]
  (have fct:=e1;(repeat' (first
  |refine gF ?_|refine aE ?_ ?_
  |apply trivial));all_goals clear fct)
  all_goals simp
 by_cases e2:400<m
 ·have c1:decide (m≤400)=false:=dx (by omega)
  rw[c1]
  (have fct:=And.intro (eq_false e1) (e2);(repeat' (first
  |refine gF ?_|refine aE ?_ ?_
  |apply trivial));all_goals clear fct)
  all_goals simp
 by_cases e3:l.length<1
 ·have c1:decide (1≤l.length)=false:=dx (by omega)
  have e3':(l.length:Int)<1:=by omega
  rw[c1]
  (have fct:=And.intro (eq_false e1) (And.intro (eq_false e2) (And.intro hlm (e3')));(repeat' (first
  |refine gF ?_|refine aE ?_ ?_
  |apply trivial));all_goals clear fct)
  all_goals simp
 have e3':¬ (l.length:Int)<1:=by omega
 by_cases e4:m< (l.length:Int)
 ·have c1:decide ((l.length:Int)≤m)=false:=dx (by omega)
  rw[c1]
  (have fct:=And.intro (eq_false e1) (And.intro (eq_false e2) (And.intro hlm (And.intro (eq_false e3') (e4))));(repeat' (first
  |refine gF ?_|refine aE ?_ ?_
  |apply trivial));all_goals clear fct)
  all_goals simp
 obtain⟨x0,hx0⟩:∃x,l[0]? =some x:=⟨_,bD (by omega)⟩
 have hn0:nd l 0=x0:=cU (k:=0) hx0
 rw[hn0]
 obtain⟨z1,z2,z3,z4,z5,z6,z7,z8,z9,z10⟩:=x0
 by_cases e5:¬z1=0
 ·(have fct:=And.intro (eq_false e1) (And.intro (eq_false e2) (And.intro hlm (And.intro (eq_false e3') (And.intro (eq_false e4) ((eq_false e5))))));(repeat' (first
  |refine gF ?_|refine aE ?_ ?_
  |((refine bg.mk 0 (aP ⟨z1,z2,z3,z4,z5,z6,z7,z8,z9,z10⟩) rfl (aB hx0) ?_)<;>with_reducible refine wK ?_)
  |apply trivial));all_goals clear fct)
  all_goals simp[e5]
 have e5:=Decidable.not_not.1 e5
 have c1:(decide (1≤m)&&decide (m≤400)&&decide (1≤l.length)&&decide ((l.length:Int)≤m)&&decide (z1=0))=true:=by
  simp only[bN,bH];omega
 simp only at c1 ⊢
 rw[c1,Bool.true_and]
 (have fct:=And.intro (eq_false e1) (And.intro (eq_false e2) (And.intro hlm (And.intro (eq_false e3') (And.intro (eq_false e4) (e5)))));(repeat' (first
  |refine gF ?_|refine aE ?_ ?_
  |((refine bg.mk 0 (aP ⟨z1,z2,z3,z4,z5,z6,z7,z8,z9,z10⟩) rfl (aB hx0) ?_)<;>with_reducible refine wK ?_)
  |apply trivial));all_goals clear fct)
 refine bX.use G au (fun(k:Nat)=>[(1,.ptr 10 0 0),(44,qD l),(45,ah l.length),(46,ah k)]) (fun _=>[(10,.live 2 [aM ⟨l,m⟩] false)])
  (fun k=>k≤l.length∧∀j x,j<k→l[j]? =some x→dB l j x=true) (fun k=>l.length-k) 0 ⟨Nat.zero_le _,fun j x h=>by omega⟩
  ⟨⟨rfl,rfl⟩,⟨⟨rfl,rfl⟩,rfl,by show(l.length:Int)=((l.map bF).length:Int);rw[hlm],rfl,trivial⟩,⟨⟨rfl,rfl,trivial⟩,trivial⟩,trivial⟩ ?_
 rintro k ⟨hk,hok⟩
 with_reducible refine wK ?_
 refine aX.mk (fun g1=>?_) (fun g1=>?_)<;>(try simp only[ay] at g1)<;>with_reducible refine wK ?_
 ·have hk' : k<l.length:=by simp only[bH] at g1;omega
  obtain⟨x,hx⟩:∃x,l[k]? =some x:=⟨_,bD hk'⟩
  have h38':=h38 x (bO hx)
  have h39':=h39 k x hx
  have h40':=h40 k x hx
  have h41':=h41 k x hx
  have h42':=h42 k x hx
  have bad:dB l k x=false→oc (fun k x=>dB l k x) 0 l=false:=fun h=>zn hx h
  have good:dB l k x=true→∀j y,j<k+1→l[j]? =some y→dB l j y=true:=fun h j y hj hy=>by
   rcases Nat.lt_or_ge j k with h6|h6
   ·exact hok j y h6 hy
   ·have:j=k:=by omega
    subst this
    rw[hx] at hy;cases hy;exact h
  obtain⟨a1,a2,a3,a4,a5,a6,a7,a8,a9,a10⟩:=x
  refine bg.mk k (aP _) rfl (aB hx) ?_;with_reducible refine wK ?_
  cases q1:fo ⟨a1,a2,a3,a4,a5,a6,a7,a8,a9,a10⟩ with
  | false=>
    rw[bad (by unfold dB;rw[q1];rfl),Bool.false_and]
    (have fct:=q1;(repeat' (first
  |refine gF ?_|refine aE ?_ ?_
  |(((with_reducible refine kQ 115 ?_);refine cL h38' A8 ?_)<;>with_reducible refine wK ?_)
  |apply trivial));all_goals clear fct)
  | true=>
    cases q2:sX l k ⟨a1,a2,a3,a4,a5,a6,a7,a8,a9,a10⟩ with
    | false=>
      rw[bad (by unfold dB;rw[q1,q2];rfl),Bool.false_and]
      (have fct:=And.intro q1 (q2);(repeat' (first
  |refine gF ?_|refine aE ?_ ?_
  | ((first
   |((with_reducible refine kQ 115 ?_);refine cL h38' A8 ?_)
   |((with_reducible refine kQ 116 ?_);refine cL h39' E3 ?_))<;>with_reducible refine wK ?_)
  | apply trivial));all_goals clear fct)
    | true=>
      cases q3:rK l k ⟨a1,a2,a3,a4,a5,a6,a7,a8,a9,a10⟩ with
      | false=>
        rw[bad (by unfold dB;rw[q1,q2,q3];rfl),Bool.false_and]
        (have fct:=And.intro q1 (And.intro q2 (q3));(repeat' (first
  |refine gF ?_|refine aE ?_ ?_
  | ((first
   |((with_reducible refine kQ 115 ?_);refine cL h38' A8 ?_)
   |((with_reducible refine kQ 116 ?_);refine cL h39' E3 ?_)
   |((with_reducible refine kQ 117 ?_);refine cL h40' Ho ?_))<;>with_reducible refine wK ?_)
  |apply  trivial));all_goals clear fct)
      | true=>
        cases q4:oW l k ⟨a1,a2,a3,a4,a5,a6,a7,a8,a9,a10⟩ with
        | false=>
          rw[bad (by unfold dB;rw[q1,q2,q3,q4];rfl),Bool.false_and]
          (have fct:=And.intro q1 (And.intro q2 (And.intro q3 (q4)));(repeat' (first
  |refine gF ?_|refine aE ?_ ?_
  | ((first
   |((with_reducible refine kQ 115 ?_);refine cL h38' A8 ?_)
   |((with_reducible refine kQ 116 ?_);refine cL h39' E3 ?_)
   |((with_reducible refine kQ 117 ?_);refine cL h40' Ho ?_)
   |((with_reducible refine kQ 118 ?_);refine cL h41' IL ?_))<;>with_reducible refine wK ?_)
  |apply  trivial));all_goals clear fct)
        | true=>
          cases q5:kF l k ⟨a1,a2,a3,a4,a5,a6,a7,a8,a9,a10⟩ with
          | false=>
            rw[bad (by unfold dB;rw[q1,q2,q3,q4,q5];rfl),Bool.false_and]
            (have fct:=And.intro q1 (And.intro q2 (And.intro q3 (And.intro q4 (q5))));(repeat' (first
  |refine gF ?_|refine aE ?_ ?_
  | ((first
   |((with_reducible refine kQ 115 ?_);refine cL h38' A8 ?_)
   |((with_reducible refine kQ 116 ?_);refine cL h39' E3 ?_)
   |((with_reducible refine kQ 117 ?_);refine cL h40' Ho ?_)
   |((with_reducible refine kQ 118 ?_);refine cL h41' IL ?_)
   |((with_reducible refine kQ 119 ?_);refine cL h42' KC ?_))<;>with_reducible refine wK ?_)
  |apply  trivial));all_goals clear fct)
          | true=>
            have hnx:=good (by unfold dB;rw[q1,q2,q3,q4,q5];rfl)
            (have fct:=And.intro q1 (And.intro q2 (And.intro q3 (And.intro q4 (q5))));(repeat' (first
  |refine gF ?_|refine aE ?_ ?_
  | ((first
   |((with_reducible refine kQ 115 ?_);refine cL h38' A8 ?_)
   |((with_reducible refine kQ 116 ?_);refine cL h39' E3 ?_)
   |((with_reducible refine kQ 117 ?_);refine cL h40' Ho ?_)
   |((with_reducible refine kQ 118 ?_);refine cL h41' IL ?_)
   |((with_reducible refine kQ 119 ?_);refine cL h42' KC ?_)
   |((with_reducible show bR _ _);refine bR.mk (k+1) ⟨by omega,hnx⟩ (by omega) ⟨⟨rfl,rfl⟩,⟨⟨rfl,rfl⟩,rfl,rfl,by show((k+1:Nat):Int)=(k:Int)+1;omega,trivial⟩,⟨⟨rfl,rfl,trivial⟩,trivial⟩,trivial⟩))<;>with_reducible refine wK ?_)
  |apply trivial));all_goals clear fct)
 ·have hkl:k=l.length:=by simp only[cR] at g1;omega
  have hall:∀ (j:Nat) (x:ai),l[j]? =some x→dB l j x=true:=fun j x hx=>hok j x (by have:=(aY hx).1;omega) hx
  rw[wm hall,Bool.true_and]
  have h43':=h43 fun n hn=>by
   obtain⟨k,x,rfl,hk,hx⟩:=aU.1 hn
   rw[hx];exact hall k x hk
  refine bX.use G au (fun(k:Nat)=>[(1,.ptr 10 0 0),(82,ah l.length),(83,ah k)]) (fun _=>[(10,.live 2 [aM ⟨l,m⟩] false)])
   (fun k=>k≤l.length∧∀ (j:Nat) (x:ai),j<k→l[j]? =some x→fQ l l.length j=true) (fun k=>l.length-k) 0 ⟨Nat.zero_le _,fun j x h=>by omega⟩
   ⟨⟨rfl,rfl⟩,⟨⟨rfl,rfl⟩,by show(l.length:Int)=((l.map bF).length:Int);rw[hlm],rfl,trivial⟩,⟨⟨rfl,rfl,trivial⟩,trivial⟩,trivial⟩ ?_
  rintro i ⟨hi,hends⟩
  with_reducible refine wK ?_
  refine aX.mk (fun g2=>?_) (fun g2=>?_)<;>(try simp only[ay] at g2)<;>with_reducible refine wK ?_
  ·have hi':i<l.length:=by simp only[bH] at g2;omega
   obtain⟨y,hy⟩:∃y,l[i]? =some y:=⟨_,bD hi'⟩
   have h43'':=h43' i hi'
   refine cL h43'' L7 ?_;with_reducible refine wK ?_
   cases q:fQ l l.length i with
   | false=>
     rw[zn hy q]
     (have fct:=q;(repeat' (first
  |refine gF ?_|refine aE ?_ ?_
  | apply trivial));all_goals clear fct)
   | true=>
     (have fct:=q;(repeat' (first
  |refine gF ?_|refine aE ?_ ?_
  |(((with_reducible show bR _ _);refine bR.mk (i+1) ⟨by omega,fun j x hj hx=>?_⟩ (by omega) ⟨⟨rfl,rfl⟩,⟨⟨rfl,rfl⟩,rfl,by show((i+1:Nat):Int)=(i:Int)+1;omega,trivial⟩,⟨⟨rfl,rfl,trivial⟩,trivial⟩,trivial⟩)<;>with_reducible refine wK ?_)
  |apply trivial));all_goals clear fct)
     rcases Nat.lt_or_ge j i with h6|h6
     ·exact hends j x h6 hx
     ·have:j=i:=by omega
      rw[this];exact q
  ·have hil:i=l.length:=by simp only[cR] at g2;omega
   rw[wm fun j x hx=>hends j x (by have:=(aY hx).1;omega) hx]
   (refine eK ?_ ?_<;>with_reducible repeat' (first|exact trivial|(show _∧_;refine aK ?_ ?_)))
theorem oy (f:ForM)(hs:bw f.nodes):ak Tryz.prog 17 [] [aM f] [] (bC (bt f)):=by
 have h23:=FE f hs
 obtain⟨l,m⟩:=f
 refine ak.aD (rvs:=[.tmp 2]) G au Tryz.func17 rfl Tryz.ntmps17 rfl rfl ?_;with_reducible refine wD ?_
 refine cL h23 Mf ?_;with_reducible refine wK ?_
 (refine eK ?_ ?_<;>with_reducible repeat' (first|exact trivial|(show _∧_;refine aK ?_ ?_)))
theorem aa (l:List Int):br (l.map bU)=true:=by
 rw[cT];intro x hx
 obtain⟨a,_,rfl⟩:=List.mem_map.1 hx
 rfl
theorem mG (l:List Int):kP (flat (l.map bU))=true:=kR bU (fun _=>rfl) l
theorem cq {m:ML}{fz:Nat→Bool}{tab:List (Nat×Nat)}{n t len:Nat}{ro:Bool}{rows:List AV}{l:List Int}(h1:eD m t=.live 1 rows ro)(h2:fz t=true)(h3:rows=l.map bU)(h4:len=l.length):xd m fz (MF tab fz m n) (cN l) t 0 len:=by
 subst h3;subst h4
 have e:(l.map bU).length=l.length:=bW ..
 exact .cut h1 h2 (by omega) (by rw[List.drop_zero,qL (by omega)]) (aa l)
@[reducible] def jW (l : List Int) : MS := .live 1 (l.map bU) false
def oP (x:ai):Bool:=decide (x.kids.length≤60)&&decide (x.attrs.length≤60)&&decide (x.name.size≤300)
theorem zm (f:ForM):tW f=(decide (f.nodes.length≤60)&&f.nodes.all oP):=rfl
theorem Jw {α:Type}{p:α→Bool}{l:List α}{k:Nat}{x:α}(h:l[k]? =some x)(hp:p x=false):l.all p=false:=by
 rw[Bool.eq_false_iff]
 intro h1
 rw[List.all_eq_true] at h1
 rw[h1 x (bO h)] at hp;cases hp
theorem HL {α:Type}{p:α→Bool}{l:List α}(h:∀ (k:Nat) (x:α),l[k]? =some x→p x=true):l.all p=true:=by
 rw[List.all_eq_true]
 intro x hx
 obtain⟨k,hk⟩:=List.getElem?_of_mem hx
 exact h k x hk
theorem JR (f:ForM):ak Tryz.prog 16 [] [aM f] [] (bC (tW f)):=by
 rw[zm]
 obtain⟨l,m⟩:=f
 simp only
 have hlm:(l.map bF).length=l.length:=bW ..
 refine ak.aD (rvs:=[.tmp 2]) G au Tryz.func16 rfl Tryz.ntmps16 rfl rfl ?_;with_reducible refine wD ?_
 by_cases e0:(60:Int)< (l.length:Int)
 ·rw[dx (show ¬l.length≤60 by omega)]
  (have fct:=And.intro hlm (e0);(repeat' (first
  |refine gF ?_|refine aE ?_ ?_
  |apply trivial));all_goals clear fct)
  all_goals rfl
 rw[dJ (show l.length≤60 by omega),Bool.true_and]
 (have fct:=And.intro hlm ((eq_false e0));(repeat' (first
  |refine gF ?_|refine aE ?_ ?_
  |apply trivial));all_goals clear fct)
 refine bX.use G au (fun(k:Nat)=>[(1,.ptr 10 0 0),(3,ah k)]) (fun _=>[(10,.live 2 [aM ⟨l,m⟩] false)])
  (fun k=>k≤l.length∧∀ (j:Nat) (y:ai),j<k→l[j]? =some y→oP y=true) (fun k=>l.length-k) 0 ⟨Nat.zero_le _,fun j y h=>by omega⟩
  ⟨⟨rfl,rfl⟩,⟨⟨rfl,rfl⟩,rfl,trivial⟩,⟨⟨rfl,rfl,trivial⟩,trivial⟩,trivial⟩ ?_
 rintro k ⟨hk,hok⟩
 with_reducible refine wK ?_
 refine aX.mk (fun h1=>?_) (fun h1=>?_)<;>(try simp only[ay] at h1)<;>with_reducible refine wK ?_
 ·have hk':k<l.length:=by simp only[bH] at h1;omega
  obtain⟨x,hx⟩:∃x,l[k]? =some x:=⟨_,bD hk'⟩
  have bad:oP x=false→l.all oP=false:=fun h=>Jw hx h
  have good:oP x=true→∀ (j:Nat) (y:ai),j<k+1→l[j]? =some y→oP y=true:=fun h j y hj hy=>by
   rcases Nat.lt_or_ge j k with h6|h6
   ·exact hok j y h6 hy
   ·have:j=k:=by omega
    subst this
    rw[hx] at hy;cases hy;exact h
  obtain⟨a1,a2,a3,a4,a5,a6,a7,a8,a9,a10⟩:=x
  have hla:(a5.map cV).length=a5.length:=bW ..
  have hlk:(a7.map bU).length=a7.length:=bW ..
  have sm:oP ⟨a1,a2,a3,a4,a5,a6,a7,a8,a9,a10⟩=(decide (a7.length≤60)&&decide (a5.length≤60)&&decide (a2.size≤300)):=rfl
  rw[sm] at bad good
  refine bg.mk k (aP _) rfl (aB hx) ?_;with_reducible refine wK ?_
  by_cases e1:(60:Int)< (a7.length:Int)
  ·rw[bad (by rw[dx (show ¬a7.length≤60 by omega)];rfl)]
   (have fct:=And.intro hlk (e1);(repeat' (first
  |refine gF ?_|refine aE ?_ ?_
  |apply trivial));all_goals clear fct)
  by_cases e2:(60:Int)< (a5.length:Int)
  ·rw[bad (by rw[dx (show ¬a5.length≤60 by omega),Bool.and_false];rfl)]
   (have fct:=And.intro hlk (And.intro hla (And.intro (eq_false e1) (e2)));(repeat' (first
  |refine gF ?_|refine aE ?_ ?_
  |((refine bg.mk k (aP _) rfl (aB hx) ?_)<;>with_reducible refine wK ?_)
  |apply trivial));all_goals clear fct)
  by_cases e3:(300:Int)< (a2.size:Int)
  ·rw[bad (by rw[dx (show ¬a2.size≤300 by omega),Bool.and_false])]
   (have fct:=And.intro hlk (And.intro hla (And.intro (eq_false e1) (And.intro (eq_false e2) (e3))));(repeat' (first
  |refine gF ?_|refine aE ?_ ?_
  |((refine bg.mk k (aP _) rfl (aB hx) ?_)<;>with_reducible refine wK ?_)
  |apply trivial));all_goals clear fct)
  have hnx:=good (by simp only[bN,bH];omega)
  (have fct:=And.intro hlk (And.intro hla (And.intro (eq_false e1) (And.intro (eq_false e2) ((eq_false e3)))));(repeat' (first
  |refine gF ?_|refine aE ?_ ?_
  | ((first
   |(refine bg.mk k (aP _) rfl (aB hx) ?_)
   |((with_reducible show bR _ _);refine bR.mk (k+1) ⟨by omega,hnx⟩ (by omega) ⟨⟨rfl,rfl⟩,⟨⟨rfl,rfl⟩,by show((k+1:Nat):Int)=(k:Int)+1;omega,trivial⟩,⟨⟨rfl,rfl,trivial⟩,trivial⟩,trivial⟩))<;>with_reducible refine wK ?_)
  |apply trivial));all_goals clear fct)
 ·have hkl:k=l.length:=by simp only[cR] at h1;omega
  rw[HL fun j y hy=>hok j y (by have:=(aY hy).1;omega) hy]
  (refine eK ?_ ?_<;>with_reducible repeat' (first|exact trivial|(show _∧_;refine aK ?_ ?_)))
theorem A0 {P:Program}{N nL:Nat}{sl:SL}{m:ML}{c:Code}{Q:Exit→SL→ML→Prop}{F G:Prop}(main:(F→bX P N nL sl m (c:=c) (Q:=Q))→G)(rest:F→bX P N nL sl m (c:=c) (Q:=Q)):G:=main rest

theorem H8 (g:Nat)(cg:aq Tryz.prog g)(caps:List AV)(hcaps:br caps=true)(p:Int→Bool)(l:List Int)(hl:l.length≤100000)(hf:∀a,a∈l→ak Tryz.prog g [] (ah a::caps) [] (bC (p a))):
  ak Tryz.prog 125 [] [cN l,.clo (.func g) [] caps] [] (ah (fU p l)):=by
 have hlm:(l.map bU).length=l.length:=bW ..
 refine ak.aD (rvs:=[.tmp 4]) G au Tryz.func125 rfl Tryz.ntmps125 rfl rfl ?_;with_reducible refine wD ?_
 refine bX.use G au (fun(k:Nat)=>[(0,cN l),(1,.clo (.func g) [] caps),(7,ah l.length),(8,ah k)]) (fun _=>[]) (fun k=>k≤l.length∧∀j x,j<k→l[j]? =some x→p x=false) (fun k=>l.length-k) 0 ⟨Nat.zero_le _,fun j x h=>by omega⟩
  ⟨⟨rfl,rfl⟩,⟨rfl,⟨rfl,trivial,bP hcaps⟩,by show(l.length:Int)=((l.map bU).length:Int);rw[hlm],rfl,trivial⟩,trivial⟩ ?_
 rintro k ⟨hk,hno⟩
 with_reducible refine wK ?_
 refine aX.mk (fun h1=>?_) (fun h1=>?_)<;>(try simp only[ay] at h1)<;>with_reducible refine wK ?_
 ·simp only[bH] at h1
  have hk':k<l.length:=by omega
  obtain⟨a,ha⟩:∃a,l[k]? =some a:=⟨_,bD hk'⟩
  refine bg.mk k (ah a) rfl (gr ha) ?_;with_reducible refine wK ?_
  refine af.lit [] (hf a (bO ha)) cg ⟨rfl,bP hcaps⟩ rfl rfl ?_;with_reducible refine wK ?_
  refine aX.mk (fun h2=>?_) (fun h2=>?_)<;>(try simp only[ay] at h2)<;>with_reducible refine wK ?_
  ·(refine eK ?_ ?_<;>with_reducible repeat' (first|exact trivial|(show _∧_;refine aK ?_ ?_)))
   exact fJ ha h2 hno
  ·refine nK ?_;with_reducible refine wK ?_
   refine bR.mk (k+1) ⟨by omega,fun j x hj hx=>?_⟩ (by omega) ⟨⟨rfl,rfl⟩,⟨rfl,⟨rfl,trivial,bP hcaps⟩,rfl,by show((k+1:Nat):Int)=(k:Int)+1;omega,trivial⟩,trivial⟩
   rcases Nat.lt_or_ge j k with h6|h6
   ·exact hno j x h6 hx
   ·have:j=k:=by omega
    subst this
    rw[ha] at hx;cases hx;exact h2
 ·(refine eK ?_ ?_<;>with_reducible repeat' (first|exact trivial|(show _∧_;refine aK ?_ ?_)))
  have:k=l.length:=by simp only[cR] at h1;omega
  exact jB fun j x hx=>hno j x (by have:=(aY hx).1;omega) hx
theorem BM (g:Nat)(cg:aq Tryz.prog g)(caps:List AV)(hcaps:br caps=true)(p:Int→Bool)(l:List Int)(hl:l.length≤100000)(hf:∀a,a∈l→ak Tryz.prog g [] (ah a::caps) [] (bC (p a))):
  ak Tryz.prog 127 [] [cN l,.clo (.func g) [] caps] [] (bC (decide (0≤fU p l))):=by
 have h34:=H8 g cg caps hcaps p l hl hf
 refine ak.aD (rvs:=[.tmp 4]) G au Tryz.func127 rfl Tryz.ntmps127 rfl rfl ?_;with_reducible refine wD ?_
 refine af.lit [] h34 Ja ⟨rfl,⟨rfl,trivial,bP hcaps⟩,trivial⟩ rfl rfl ?_;with_reducible refine wK ?_
 (refine eK ?_ ?_<;>with_reducible repeat' (first|exact trivial|(show _∧_;refine aK ?_ ?_)))
 all_goals rfl
end Go.Proofs.Heir
namespace Go.Proofs.Heir
open Go Go.Am Go.RowKit Go.Shelf
set_option maxRecDepth 100000
set_option maxHeartbeats 8000000
theorem Ei {Wn:Nat→Prop}{μ:Mu}{W:World}{l:List Int}{b o:Nat}(h:cE Wn μ W (.fptr (.sl 1 (l.map bU)) 0) (.pointer (some ⟨b,o,none⟩))):
  ∃ad cap,W.cell? ⟨b,o,none⟩=some (.slice ad l.length cap)∧l.length≤cap∧∀ (j:Nat) (x:Int),l[j]? =some x→∃b2 o2,ad=some ⟨b2,o2,none⟩∧W.cell? ⟨b2,o2+j,none⟩=some (.int .i64 x):=by
 generalize hv:Value.pointer (some ⟨b,o,none⟩)=v at h
 cases h with
 | @fptr _ _ b' o' f h1 h2 h3 h4 h5=>
   cases hv
   have k3:=h3 0 _ rfl
   have k4:=h4 0 _ rfl
   rw[Nat.add_zero] at k3
   rw[Nat.add_zero,k3]
   generalize f 0=s at k4
   cases hl:l with
   | nil=>
     subst hl
     cases k4 with
     |slNil=>exact⟨_,_,rfl,Nat.zero_le _,fun j x h=>by simp at h⟩
     |sl a1 a2 a3 a4 a5 a6 a7 a8=>subst a3;exact⟨_,_,rfl,Nat.zero_le _,fun j x h=>by simp at h⟩
   | cons y r=>
     rw[←hl]
     generalize hrows:l.map bU=rows at k4
     have hne:rows≠ []:=by rw[←hrows,hl];simp
     cases k4 with
     |slNil=>exact absurd rfl hne
     | sl a1 a2 a3 a4 a5 a6 a7 a8=>
       subst a3
       have hlen:rows.length=l.length:=by rw[←hrows];simp
       refine⟨_,_,by rw[hlen],by rw[←hlen];exact a4,fun j x hx=>⟨_,_,rfl,?_⟩⟩
       have hr:rows[j]? =some (bU x):=by rw[←hrows,fI,hx];rfl
       have hq:=eE (wd:=1) (fun i r hr=>a5 i r hr) hr (show(cells (bU x))[0]? =some (bU x) from rfl)
       rw[Nat.mul_one,Nat.add_zero] at hq
       have c1:=a6 j _ hq
       have c2:=a7 j _ hq
       have one:∀v,cE Wn μ W (bU x) v→v=.int .i64 x:=by intro v hv;unfold bU at hv;cases hv;rfl
       rw[c1,one _ c2]
theorem HD (l:List Int)(hl:l.length≤100000):Jk Tryz.prog 193 [.fptr (.sl 1 (l.map bU)) 0] l.length (fun k=>[bU ((l.length:Int)-1-k),bU ((l.reverse[k]?).getD 0)]):=by
 intro vals y J Jx hJ hJm hJxm _ hY Wn w h0
 obtain⟨⟨μ,hr⟩,_⟩:=hJ 0 Wn w h0
 obtain⟨vb,us,rfl,hvb,hus⟩:=cH.Ao hr
 obtain rfl:=cH.ID hus
 obtain⟨b,o,rfl⟩:∃b o,vb=.pointer (some ⟨b,o,none⟩):=by cases hvb;exact⟨_,_,rfl⟩
 have box:∀k Wn W,J k Wn W→∃ad cap,W.cell? ⟨b,o,none⟩=some (.slice ad l.length cap)∧l.length≤cap∧∀ (j:Nat) (x:Int),l[j]? =some x→∃b2 o2,ad=some ⟨b2,o2,none⟩∧W.cell? ⟨b2,o2+j,none⟩=some (.int .i64 x):=by
  intro k Wn W hJk
  obtain⟨⟨μ,hr⟩,_⟩:=hJ k Wn W hJk
  obtain⟨v1,us,e,hv1,_⟩:=cH.Ao hr
  cases e
  exact Ei hv1
 refine(callsIn_wide (n:=1)).1 ?_
 refine callsIn_of_wp Tryz.func193 rfl trivial ?_ rfl
 simp only[Tryz.ntmps193,List.size_toArray,List.length_cons,List.length_nil,Nat.reduceAdd,Nat.reduceSub,Array.replicate_succ,Array.replicate_zero,List.push_toArray,List.append_toArray,List.nil_append,List.cons_append]
 obtain⟨ad,cap,hbx,hcap,hel⟩:=box 0 Wn w h0
 gi_wp2
 gi_loopw [3] (fun i wr=> ∃k:Nat,k≤l.length∧i=.int .i64 ((l.length:Int)-1-k)∧∃Wn,J k Wn wr) (fun i _=>(intOf i+1).toNat)
 case atStart=>exact⟨0,Nat.zero_le _,by simp,Wn,h0⟩
 case round=>
  obtain⟨k,hk,rfl,Wn',hJk⟩:=hrel
  obtain⟨ad',cap',hbx',hcap',hel'⟩:=box k Wn' wr hJk
  by_cases hlt:k<l.length
  ·have hix:l.length-1-k<l.length:=by omega
   obtain⟨b2,o2,rfl,hcx⟩:=hel' (l.length-1-k) l[l.length-1-k] (bD hix)
   have hrev:(l.reverse[k]?).getD 0=l[l.length-1-k]:=by
    rw[bD (by simpa using hlt)];simp
   obtain⟨fn,tmps,assign,body,hy,hR⟩:=hY k Wn' wr [.int .i64 ((l.length:Int)-1-k),.int .i64 (l[l.length-1-k])] hlt hJk (fun _ _ _=>by rw[hrev];exact .cons .lit (.cons .lit .nil))
   have hz:((l.length:Int)-1-k).toNat=l.length-1-k:=by omega
   gi_wp2
   refine hR.mono ?_
   rintro e W3 (⟨rfl,Wn3,hJ3,_⟩|⟨rfl,hJx3⟩)
   ·gi_wp2
    go_roundw
    case rel=>exact⟨k+1,by omega,by congr 1;omega,Wn3,hJ3⟩
    case measure=>simp[intOf];omega
   ·gi_wp2
    refine bodyPost_ret (results_none rfl _ _ _) rfl ?_
    exact⟨⟨_,rfl⟩,.inr hJx3⟩
  ·obtain rfl:k=l.length:=by omega
   gi_wp2
   go_end0
   exact⟨⟨_,rfl⟩,.inl ⟨_,hJk⟩⟩
end Go.Proofs.Heir
