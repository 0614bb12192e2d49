/- Models, plain laws and contracts of functions of the given program; conditions as stated in each theorem. By an AI agent. -/
import Derived.Test.YtkhjcnjicjgfiaaGreatDoorWD13
set_option linter.unusedSimpArgs false
set_option linter.unusedVariables false
namespace Go.Proofs.Heir
open Go Go.Am Go.RowKit Go.Lib
set_option maxRecDepth 100000
set_option maxHeartbeats 8000000
theorem so (f:ForM)(n:Int):an Tryz.prog 129 [] [bF f,ay n] [] (aX (aa f.nodes n)):=by
 obtain⟨l,m⟩:=f
 have hlm:(l.map cj).length=l.length:=bM ..
 refine an.aF (rvs:=[.tmp 4]) G aq Tryz.func129 rfl Tryz.ntmps129 rfl rfl ?_;with_reducible refine wD ?_
 by_cases h:(0:Int)≤n
 ·(have fct:=h;(repeat' (first
  |refine gF ?_|refine aE ?_ ?_
  |apply trivial));all_goals clear fct)
  all_goals simp[aa,h]
 ·(have fct:=(eq_false h);(repeat' (first
  |refine gF ?_|refine aE ?_ ?_
  |apply trivial));all_goals clear fct)
  all_goals simp[aa,h]
theorem Cr (k:Int):an Tryz.prog 175 [] [ay k] [] (aX (iD k)):=by
 refine an.aF (rvs:=[.tmp 2]) G aq Tryz.func175 rfl Tryz.ntmps175 rfl rfl ?_;with_reducible refine wD ?_
 by_cases e0:k=0
 ·(have fct:=e0;(repeat' (first
  |refine gF ?_|refine aE ?_ ?_
  |apply trivial));all_goals clear fct)
  all_goals simp[iD,e0]
 ·by_cases e1:k=1
  ·(have fct:=e1;(repeat' (first
  |refine gF ?_|refine aE ?_ ?_
  | apply trivial));all_goals clear fct)
   all_goals simp[iD,e1]
  ·by_cases e3:k=3
   ·(have fct:=e3;(repeat' (first
  |refine gF ?_|refine aE ?_ ?_
  | apply trivial));all_goals clear fct)
    all_goals simp[iD,e3]
   ·by_cases e4:k=4
    ·(have fct:=e4;(repeat' (first
  |refine gF ?_|refine aE ?_ ?_
  | apply trivial));all_goals clear fct)
     all_goals simp[iD,e4]
    ·(have fct:=And.intro e0 (And.intro e1 (And.intro e3 (e4)));(repeat' (first
  |refine gF ?_|refine aE ?_ ?_
  |apply trivial));all_goals clear fct)
     all_goals simp[iD,e0,e1,e3,e4]
theorem xW (f:ForM)(n k:Int):an Tryz.prog 136 [] [bF f,ay n,ay k] [] (aX (nV f.nodes n k)):=by
 have h49:=so f n
 obtain⟨l,m⟩:=f
 refine an.aF (rvs:=[.tmp 6]) G aq Tryz.func136 rfl Tryz.ntmps136 rfl rfl ?_;with_reducible refine wD ?_
 refine cL h49 uN ?_;with_reducible refine wK ?_
 cases ht:aa l n with
 | false=>
   (have fct:=ht;(repeat' (first
  |refine gF ?_|refine aE ?_ ?_
  | apply trivial));all_goals clear fct)
   all_goals simp[nV,ht]
 | true=>
   obtain⟨i,x,rfl,hx,hnd⟩:=bp.1 ht
   obtain⟨a1,a2,a3,a4,a5,a6,a7,a8,a9,a10⟩:=x
   (have fct:=ht;(repeat' (first
  |refine gF ?_|refine aE ?_ ?_
  |((refine bn.mk i (aR _) rfl (aI hx) ?_)<;>with_reducible refine wK ?_)
  | apply trivial));all_goals clear fct)
   all_goals simp[nV,ht,hnd]
theorem GF (l:List Int)(hl:l.length≤100000)(n:Int):an Tryz.prog 73 [] [cN l,ay n] [] (ay (dI (fun x=>decide (x=n)) l)):=by
 have hlm:(l.map bu).length=l.length:=bM ..
 refine an.aF (rvs:=[.tmp 4]) G aq Tryz.func73 rfl Tryz.ntmps73 rfl rfl ?_;with_reducible refine wD ?_
 refine bD.use G aq (fun(k:Nat)=>[(0,cN l),(1,ay n),(7,ay l.length),(8,ay k)]) (fun _=>[]) (fun k=>k≤l.length∧∀j x,j<k→l[j]? =some x→decide (x=n)=false) (fun k=>l.length-k) 0 ⟨Nat.zero_le _,fun j x h=>by omega⟩
  ⟨⟨rfl,rfl⟩,⟨rfl,rfl,by show(l.length:Int)=((l.map bu).length:Int);rw[hlm],rfl,trivial⟩,trivial⟩ ?_
 rintro k ⟨hk,hno⟩
 with_reducible refine wK ?_
 refine aL.mk (fun h1=>?_) (fun h1=>?_)<;>(try simp only[ak] at h1)<;>with_reducible refine wK ?_
 ·have hk':k<l.length:=by simp only[bH] at h1;omega
  obtain⟨a,ha⟩:∃a,l[k]? =some a:=⟨_,bh hk'⟩
  refine bn.mk k (ay a) rfl (iy ha) ?_;with_reducible refine wK ?_
  refine aL.mk (fun h2=>?_) (fun h2=>?_)<;>(try simp only[ak] at h2)<;>with_reducible refine wK ?_
  ·(refine eK ?_ ?_<;>with_reducible repeat' (first|exact trivial|(show _∧_;refine aK ?_ ?_)))
   refine kS (p:=fun x=>decide (x=n)) ha ?_ hno
   simp only[bH] at h2 ⊢;exact h2.symm
  ·refine nK ?_;with_reducible refine wK ?_
   refine aT.mk (k+1) ⟨by omega,fun j x hj hx=>?_⟩ (by omega) ⟨⟨rfl,rfl⟩,⟨rfl,rfl,rfl,by show((k+1:Nat):Int)=(k:Int)+1;omega,trivial⟩,trivial⟩
   rcases Nat.lt_or_ge j k with h3|h3
   ·exact hno j x h3 hx
   ·have:j=k:=by omega
    subst this
    rw[ha] at hx;cases hx
    simp only[dG] at h2 ⊢;exact fun e=>h2 e.symm
 ·(refine eK ?_ ?_<;>with_reducible repeat' (first|exact trivial|(show _∧_;refine aK ?_ ?_)))
  exact jm fun j x hx=>hno j x (by have:=(br hx).1;simp only[dG] at h1;omega) hx
theorem E6 {l:List Int}{n:Int}:decide (0≤dI (fun x=>decide (x=n)) l)=tE l n:=by
 rw[Bool.eq_iff_iff,bH]
 unfold tE
 rw[bH]
 unfold dI
 cases h:l.findIdx? (fun x=>decide (x=n)) with
 | none=>
   rw[List.findIdx?_eq_none_iff] at h
   simp only
   refine⟨fun h'=>by omega,fun hs=>?_⟩
   have:=h n hs
   simp at this
 | some k=>
   rw[List.findIdx?_eq_some_iff_getElem] at h
   obtain⟨hk,h2,_⟩:=h
   simp only
   exact⟨fun _=>by rw[←of_decide_eq_true h2];exact List.getElem_mem hk,fun _=>by omega⟩
theorem Ii (l:List Int)(hl:l.length≤100000)(n:Int):an Tryz.prog 176 [] [cN l,ay n] [] (aX (tE l n)):=by
 rw[←E6]
 refine an.aF (rvs:=[.tmp 4]) G aq Tryz.func176 rfl Tryz.ntmps176 rfl rfl ?_;with_reducible refine wD ?_
 refine cL (GF l hl n) Ow ?_;with_reducible refine wK ?_
 (refine eK ?_ ?_<;>with_reducible repeat' (first|exact trivial|(show _∧_;refine aK ?_ ?_)))
theorem Im (f:ForM)(k:Nat)(x:ai)(hx:f.nodes[k]? =some x):an Tryz.prog 177 [] [bF f,ay k] [] (ay (gb x)):=by
 obtain⟨l,m⟩:=f
 obtain⟨a1,a2,a3,a4,a5,a6,a7,a8,a9,a10⟩:=x
 refine an.aF (rvs:=[.tmp 4]) G aq Tryz.func177 rfl Tryz.ntmps177 rfl rfl ?_;with_reducible refine wD ?_
 refine bn.mk k (aR _) rfl (aI hx) ?_;with_reducible refine wK ?_
 unfold gb
 by_cases e:a6=-1
 ·(have fct:=e;(repeat' (first
  |refine gF ?_|refine aE ?_ ?_
  |((refine bn.mk k (aR _) rfl (aI hx) ?_)<;>with_reducible refine wK ?_)
  |apply trivial));all_goals clear fct)
  all_goals simp[e]
 ·(have fct:=(eq_false e);(repeat' (first
  |refine gF ?_|refine aE ?_ ?_
  |((refine bn.mk k (aR _) rfl (aI hx) ?_)<;>with_reducible refine wK ?_)
  |apply trivial));all_goals clear fct)
  all_goals simp[e]
theorem I4 (f:ForM)(k:Nat)(x:ai)(hx:f.nodes[k]? =some x):an Tryz.prog 116 [] [bF f,ay k] [] (aX (tK f.nodes k x)):=by
 have h55:=xW f x.doc 0
 obtain⟨l,m⟩:=f
 obtain⟨a1,a2,a3,a4,a5,a6,a7,a8,a9,a10⟩:=x
 unfold tK
 simp only at h55 hx ⊢
 refine an.aF (rvs:=[.tmp 4]) G aq Tryz.func116 rfl Tryz.ntmps116 rfl rfl ?_;with_reducible refine wD ?_
 refine bn.mk k (aR _) rfl (aI hx) ?_;with_reducible refine wK ?_
 refine cL h55 pL ?_;with_reducible refine wK ?_
 cases hi:nV l a10 0 with
 | false=>
   (have fct:=hi;(repeat' (first
  |refine gF ?_|refine aE ?_ ?_
  | apply trivial));all_goals clear fct)
   all_goals simp[hi]
 | true=>
   by_cases e:a1=0
   ·(have fct:=And.intro hi (e);(repeat' (first
  |refine gF ?_|refine aE ?_ ?_
  | apply trivial));all_goals clear fct)
    all_goals simp[hi,e]
   ·(have fct:=And.intro hi ((eq_false e));(repeat' (first
  |refine gF ?_|refine aE ?_ ?_
  | apply trivial));all_goals clear fct)
    all_goals simp[hi,e]
theorem JJ (f:ForM)(hs:bO f.nodes)(k:Nat)(x:ai)(hx:f.nodes[k]? =some x):an Tryz.prog 117 [] [bF f,ay k] [] (aX (rA f.nodes k x)):=by
 have h49:=so f x.parent
 have h56:=Cr (nd f.nodes x.parent).kind
 have h57:aa f.nodes x.parent=true→an Tryz.prog 176 [] [cN (nd f.nodes x.parent).kids,ay k] [] (aX (tE (nd f.nodes x.parent).kids k)):=fun ht=>by
  obtain⟨i,y,_,hy,hnd⟩:=bp.1 ht
  rw[hnd]
  exact Ii y.kids (by have:=hs.kids y (bN hy);omega) k
 obtain⟨l,m⟩:=f
 obtain⟨a1,a2,a3,a4,a5,a6,a7,a8,a9,a10⟩:=x
 unfold rA
 simp only at h49 h56 h57 hx ⊢
 refine an.aF (rvs:=[.tmp 4]) G aq Tryz.func117 rfl Tryz.ntmps117 rfl rfl ?_;with_reducible refine wD ?_
 refine bn.mk k (aR _) rfl (aI hx) ?_;with_reducible refine wK ?_
 by_cases e6:a6=-1
 ·(have fct:=e6;(repeat' (first
  |refine gF ?_|refine aE ?_ ?_
  |apply trivial));all_goals clear fct)
  all_goals simp[e6]
 ·refine aL.no (by simp[e6]) ?_;with_reducible refine wK ?_
  have rest:∀b:Bool,(decide (a1=1)||decide (a1=2))=b→(b=false∨b=true):=fun b _=>by cases b<;>simp
  cases ht:aa l a6 with
  | false=>
    by_cases e1:a1=1
    ·(have fct:=And.intro e1 (And.intro ht ((eq_false e6)));(repeat' (first
  |refine gF ?_|refine aE ?_ ?_
  |(((with_reducible refine kQ 129 ?_);refine cL h49 uN ?_)<;>with_reducible refine wK ?_)
  | apply trivial));all_goals clear fct)
     all_goals simp[e1,ht,e6]
    ·by_cases e2:a1=2
     ·(have fct:=And.intro e2 (And.intro ht ((eq_false e6)));(repeat' (first
  |refine gF ?_|refine aE ?_ ?_
  |(((with_reducible refine kQ 129 ?_);refine cL h49 uN ?_)<;>with_reducible refine wK ?_)
  |apply trivial));all_goals clear fct)
      all_goals simp[e2,ht,e6]
     ·(have fct:=And.intro (eq_false e1) (And.intro (eq_false e2) (And.intro ht ((eq_false e6))));(repeat' (first
  |refine gF ?_|refine aE ?_ ?_
  |apply trivial));all_goals clear fct)
      all_goals simp[e1,e2,ht,e6]
  | true=>
    obtain⟨i,y,rfl,hy,hnd⟩:=bp.1 ht
    have h57':=h57 ht
    rw[hnd] at h56 h57' ⊢
    obtain⟨b1,b2,b3,b4,b5,b6,b7,b8,b9,b10⟩:=y
    simp only at h56 h57'
    cases hh:iD b1 with
    | false=>
      by_cases e1:a1=1
      ·(have fct:=And.intro e1 (And.intro ht (And.intro hh ((eq_false e6))));(repeat' (first
  |refine gF ?_|refine aE ?_ ?_
  | ((first
   |((with_reducible refine kQ 129 ?_);refine cL h49 uN ?_)
   |((with_reducible refine kQ 175 ?_);refine cL h56 D2 ?_)
   |(refine bn.mk i (aR _) rfl (aI hy) ?_))<;>with_reducible refine wK ?_)
  |apply trivial));all_goals clear fct)
       all_goals simp[e1,ht,e6,hh]
      ·by_cases e2:a1=2
       ·(have fct:=And.intro e2 (And.intro ht (And.intro hh ((eq_false e6))));(repeat' (first
  |refine gF ?_|refine aE ?_ ?_
  | ((first
   |((with_reducible refine kQ 129 ?_);refine cL h49 uN ?_)
   |((with_reducible refine kQ 175 ?_);refine cL h56 D2 ?_)
   |(refine bn.mk i (aR _) rfl (aI hy) ?_))<;>with_reducible refine wK ?_)
  |apply trivial));all_goals clear fct)
        all_goals simp[e2,ht,e6,hh]
       ·(have fct:=And.intro (eq_false e1) (And.intro (eq_false e2) (And.intro ht (And.intro hh ((eq_false e6)))));(repeat' (first
  |refine gF ?_|refine aE ?_ ?_
  | apply trivial));all_goals clear fct)
        all_goals simp[e1,e2,ht,e6]
    | true=>
      by_cases e1:a1=1
      ·(have fct:=And.intro e1 (And.intro ht (And.intro hh ((eq_false e6))));(repeat' (first
  |refine gF ?_|refine aE ?_ ?_
  | ((first
   |((with_reducible refine kQ 129 ?_);refine cL h49 uN ?_)
   |((with_reducible refine kQ 175 ?_);refine cL h56 D2 ?_)
   |((with_reducible refine kQ 176 ?_);refine cL h57' Mg ?_)
   |(refine bn.mk i (aR _) rfl (aI hy) ?_))<;>with_reducible refine wK ?_)
  |apply trivial));all_goals clear fct)
       all_goals simp[e1,ht,e6,hh]
      ·by_cases e2:a1=2
       ·(have fct:=And.intro e2 (And.intro ht (And.intro hh ((eq_false e6))));(repeat' (first
  |refine gF ?_|refine aE ?_ ?_
  | ((first
   |((with_reducible refine kQ 129 ?_);refine cL h49 uN ?_)
   |((with_reducible refine kQ 175 ?_);refine cL h56 D2 ?_)
   |((with_reducible refine kQ 176 ?_);refine cL h57' Mg ?_)
   |(refine bn.mk i (aR _) rfl (aI hy) ?_))<;>with_reducible refine wK ?_)
  |apply trivial));all_goals clear fct)
        all_goals simp[e2,ht,e6,hh]
       ·(have fct:=And.intro (eq_false e1) (And.intro (eq_false e2) (And.intro ht (And.intro hh ((eq_false e6)))));(repeat' (first
  |refine gF ?_|refine aE ?_ ?_
  |apply trivial));all_goals clear fct)
        all_goals simp[e1,e2,ht,e6]
theorem AJ (l:List ai)(m:Nat)(n:Int):fU l (m+1) n=if gb (nd l n)=-1 then true else fU l m (gb (nd l n)):=rfl
theorem Jg (f:ForM)(hl:f.nodes.length≤100000)(hup:∀ (k:Nat) (x:ai),f.nodes[k]? =some x→gb x=-1∨aa f.nodes (gb x)=true)(k:Nat)(hk:k<f.nodes.length):an Tryz.prog 120 [] [bF f,ay k] [] (aX (fU f.nodes f.nodes.length k)):=by
 have h58:=Im f
 obtain⟨l,m⟩:=f
 simp only at h58 hup hk hl ⊢
 have hlm:(l.map cj).length=l.length:=bM ..
 refine an.aF (rvs:=[.tmp 4]) G aq Tryz.func120 rfl Tryz.ntmps120 rfl rfl ?_;with_reducible refine wD ?_
 refine bD.use G aq (fun(i:Nat×Nat)=>[(1,ay i.2),(2,.ptr 20 0 0),(8,ay l.length),(9,ay i.1)]) (fun _=>[(20,.live 2 [bF ⟨l,m⟩] false)]) (fun i=>i.1≤l.length∧i.2<l.length∧fU l l.length k=fU l (l.length-i.1) i.2) (fun i=>l.length-i.1) (0,k) ⟨Nat.zero_le _,hk,rfl⟩
  ⟨⟨rfl,rfl⟩,⟨rfl,⟨rfl,rfl⟩,by show(l.length:Int)=((l.map cj).length:Int);rw[hlm],rfl,trivial⟩,⟨⟨rfl,rfl,trivial⟩,trivial⟩,trivial⟩ ?_
 rintro⟨i,j⟩ ⟨hi,hj,he⟩
 simp only at hi hj he
 with_reducible refine wK ?_
 refine aL.mk (fun h1=>?_) (fun h1=>?_)<;>(try simp only[ak] at h1)<;>with_reducible refine wK ?_
 ·have hi':i<l.length:=by simp only[bH] at h1;omega
  obtain⟨x,hx⟩:∃x,l[j]? =some x:=⟨_,bh hj⟩
  have h58':=h58 j x hx
  refine cL h58' Na ?_;with_reducible refine wK ?_
  rw[show l.length-i=(l.length- (i+1))+1 from by omega] at he
  rw[AJ,fZ hx] at he
  by_cases e:gb x=-1
  ·rw[if_pos e] at he
   (have fct:=e;(repeat' (first
  |refine gF ?_|refine aE ?_ ?_
  | apply trivial));all_goals clear fct)
   all_goals rw[he]
  ·rw[if_neg e] at he
   rcases hup j x hx with h|h
   ·exact absurd h e
   obtain⟨j',y,hj1,hj2,_⟩:=bp.1 h
   rw[hj1] at he
   have hlt:=(br hj2).1
   refine aL.no (dQ e) ?_;with_reducible refine wK ?_
   refine nK ?_;with_reducible refine wK ?_
   refine aT.mk (i+1,j') ⟨by show i+1≤l.length;omega,hlt,he⟩ (by show l.length- (i+1)<l.length-i;omega) ⟨⟨rfl,rfl⟩,⟨hj1.symm,⟨rfl,rfl⟩,rfl,by show((i+1:Nat):Int)=(i:Int)+1;omega,trivial⟩,⟨⟨rfl,rfl,trivial⟩,trivial⟩,trivial⟩
 ·(refine eK ?_ ?_<;>with_reducible repeat' (first|exact trivial|(show _∧_;refine aK ?_ ?_)))
  have:i=l.length:=by simp only[dG] at h1;omega
  rw[he,this,Nat.sub_self];rfl
theorem uA {l:List ai}{n k:Int}(h:nV l n k=true):∃ (i:Nat) (x:ai),n=(i:Int)∧l[i]? =some x∧nd l n=x:=by
 unfold nV at h
 simp only[bJ] at h
 exact bp.1 h.1
theorem JL (f:ForM)(k:Nat)(x:ai)(hx:f.nodes[k]? =some x):an Tryz.prog 119 [] [bF f,ay k] [] (aX (j1 f.nodes k x)):=by
 have h1:=xW f x.host 1
 have h4:=xW f x.under 4
 obtain⟨l,m⟩:=f
 obtain⟨a1,a2,a3,a4,a5,a6,a7,a8,a9,a10⟩:=x
 unfold j1
 simp only at h1 h4 hx ⊢
 refine an.aF (rvs:=[.tmp 4]) G aq Tryz.func119 rfl Tryz.ntmps119 rfl rfl ?_;with_reducible refine wD ?_
 refine bn.mk k (aR _) rfl (aI hx) ?_;with_reducible refine wK ?_
 by_cases e4:a1=4
 ·have e1:¬a1=1:=by omega
  refine aL.yes (by simp[e4]) ?_;with_reducible refine wK ?_
  rw[if_pos e4]
  cases hi:nV l a8 1 with
  | false=>
    rw[hi] at h1
    by_cases e9:a9=-1
    ·(have fct:=And.intro e4 (e9);(repeat' (first
  |refine gF ?_|refine aE ?_ ?_
  |(((with_reducible refine kQ 136 ?_);refine cL h1 pL ?_)<;>with_reducible refine wK ?_)
  | apply trivial));all_goals clear fct)
     all_goals simp[e9]
    ·(have fct:=And.intro e4 (And.intro (eq_false e9) ((eq_false e1)));(repeat' (first
  |refine gF ?_|refine aE ?_ ?_
  |(((with_reducible refine kQ 136 ?_);refine cL h1 pL ?_)<;>with_reducible refine wK ?_)
  |apply trivial));all_goals clear fct)
     all_goals simp[e9,e1]
  | true=>
    rw[hi] at h1
    obtain⟨i,y,rfl,hy,hnd⟩:=uA hi
    rw[hnd]
    obtain⟨b1,b2,b3,b4,b5,b6,b7,b8,b9,b10⟩:=y
    by_cases e9:a9=-1
    ·by_cases u9:b9=k
     ·by_cases u10:b10=a10
      ·(have fct:=And.intro e4 (And.intro e9 (And.intro u9 (u10)));(repeat' (first
  |refine gF ?_|refine aE ?_ ?_
  | ((first
   |((with_reducible refine kQ 136 ?_);refine cL h1 pL ?_)
   |(refine bn.mk i (aR _) rfl (aI hy) ?_))<;>with_reducible refine wK ?_)
  |apply trivial));all_goals clear fct)
       all_goals simp[e9,u9,u10]
      ·(have fct:=And.intro e4 (And.intro e9 (And.intro u9 ((eq_false u10))));(repeat' (first
  |refine gF ?_|refine aE ?_ ?_
  | ((first
   |((with_reducible refine kQ 136 ?_);refine cL h1 pL ?_)
   |(refine bn.mk i (aR _) rfl (aI hy) ?_))<;>with_reducible refine wK ?_)
  |apply trivial));all_goals clear fct)
       all_goals simp[e9,u9,u10]
     ·(have fct:=And.intro e4 (And.intro e9 ((eq_false u9)));(repeat' (first
  |refine gF ?_|refine aE ?_ ?_
  | ((first
   |((with_reducible refine kQ 136 ?_);refine cL h1 pL ?_)
   |(refine bn.mk i (aR _) rfl (aI hy) ?_))<;>with_reducible refine wK ?_)
  | apply trivial));all_goals clear fct)
      all_goals simp[e9,u9]
    ·by_cases u9:b9=k
     ·by_cases u10:b10=a10
      ·(have fct:=And.intro e4 (And.intro (eq_false e9) (And.intro (eq_false e1) (And.intro u9 (u10))));(repeat' (first
  |refine gF ?_|refine aE ?_ ?_
  | ((first
   |((with_reducible refine kQ 136 ?_);refine cL h1 pL ?_)
   |(refine bn.mk i (aR _) rfl (aI hy) ?_))<;>with_reducible refine wK ?_)
  |apply trivial));all_goals clear fct)
       all_goals simp[e9,e1,u9,u10]
      ·(have fct:=And.intro e4 (And.intro (eq_false e9) (And.intro (eq_false e1) (And.intro u9 ((eq_false u10)))));(repeat' (first
  |refine gF ?_|refine aE ?_ ?_
  | ((first
   |((with_reducible refine kQ 136 ?_);refine cL h1 pL ?_)
   |(refine bn.mk i (aR _) rfl (aI hy) ?_))<;>with_reducible refine wK ?_)
  |apply trivial));all_goals clear fct)
       all_goals simp[e9,e1,u9,u10]
     ·(have fct:=And.intro e4 (And.intro (eq_false e9) (And.intro (eq_false e1) ((eq_false u9))));(repeat' (first
  |refine gF ?_|refine aE ?_ ?_
  | ((first
   |((with_reducible refine kQ 136 ?_);refine cL h1 pL ?_)
   |(refine bn.mk i (aR _) rfl (aI hy) ?_))<;>with_reducible refine wK ?_)
  |apply trivial));all_goals clear fct)
      all_goals simp[e9,e1,u9]
 ·refine aL.no (by simp[e4]) ?_;with_reducible refine wK ?_
  rw[if_neg e4]
  by_cases e8:a8=-1
  ·by_cases e9:a9=-1
   ·(have fct:=And.intro (eq_false e4) (And.intro e8 (e9));(repeat' (first
  |refine gF ?_|refine aE ?_ ?_
  | apply trivial));all_goals clear fct)
    all_goals simp[e9,e8]
   ·by_cases e1:a1=1
    ·cases hu:nV l a9 4 with
     | false=>
       rw[hu] at h4
       (have fct:=And.intro (eq_false e4) (And.intro e8 (And.intro (eq_false e9) (e1)));(repeat' (first
  |refine gF ?_|refine aE ?_ ?_
  |(((with_reducible refine kQ 136 ?_);refine cL h4 pL ?_)<;>with_reducible refine wK ?_)
  |apply trivial));all_goals clear fct)
       all_goals simp[e9,e8,e1]
     | true=>
       rw[hu] at h4
       obtain⟨j,z,rfl,hz,hnd⟩:=uA hu
       rw[hnd]
       obtain⟨d1,d2,d3,d4,d5,d6,d7,d8,d9,d10⟩:=z
       (have fct:=And.intro (eq_false e4) (And.intro e8 (And.intro (eq_false e9) (e1)));(repeat' (first
  |refine gF ?_|refine aE ?_ ?_
  | ((first
   |((with_reducible refine kQ 136 ?_);refine cL h4 pL ?_)
   |(refine bn.mk j (aR ⟨d1,d2,d3,d4,d5,d6,d7,d8,d9,d10⟩) rfl (aI hz) ?_))<;>with_reducible refine wK ?_)
  | apply trivial));all_goals clear fct)
       all_goals simp[e9,e8,e1]
    ·(have fct:=And.intro (eq_false e4) (And.intro e8 (And.intro (eq_false e9) ((eq_false e1))));(repeat' (first
  |refine gF ?_|refine aE ?_ ?_
  |apply trivial));all_goals clear fct)
     all_goals simp[e9,e8,e1]
  ·by_cases e9:a9=-1
   ·(have fct:=And.intro (eq_false e4) (And.intro (eq_false e8) (e9));(repeat' (first
  |refine gF ?_|refine aE ?_ ?_
  | apply trivial));all_goals clear fct)
    all_goals simp[e9,e8]
   ·by_cases e1:a1=1
    ·cases hu:nV l a9 4 with
     | false=>
       rw[hu] at h4
       (have fct:=And.intro (eq_false e4) (And.intro (eq_false e8) (And.intro (eq_false e9) (e1)));(repeat' (first
  |refine gF ?_|refine aE ?_ ?_
  |(((with_reducible refine kQ 136 ?_);refine cL h4 pL ?_)<;>with_reducible refine wK ?_)
  |apply trivial));all_goals clear fct)
       all_goals simp[e9,e8,e1]
     | true=>
       rw[hu] at h4
       obtain⟨j,z,rfl,hz,hnd⟩:=uA hu
       rw[hnd]
       obtain⟨d1,d2,d3,d4,d5,d6,d7,d8,d9,d10⟩:=z
       (have fct:=And.intro (eq_false e4) (And.intro (eq_false e8) (And.intro (eq_false e9) (e1)));(repeat' (first
  |refine gF ?_|refine aE ?_ ?_
  | ((first
   |((with_reducible refine kQ 136 ?_);refine cL h4 pL ?_)
   |(refine bn.mk j (aR ⟨d1,d2,d3,d4,d5,d6,d7,d8,d9,d10⟩) rfl (aI hz) ?_))<;>with_reducible refine wK ?_)
  | apply trivial));all_goals clear fct)
       all_goals simp[e9,e8,e1]
    ·(have fct:=And.intro (eq_false e4) (And.intro (eq_false e8) (And.intro (eq_false e9) ((eq_false e1))));(repeat' (first
  |refine gF ?_|refine aE ?_ ?_
  |apply trivial));all_goals clear fct)
     all_goals simp[e9,e8,e1]
theorem Iy (x:ai)(hx:x.attrs.length≤100000):an Tryz.prog 115 [] [aR x] [] (aX (fE x)):=by
 have h45:=xB x.name
 have h54:=xe x.is
 have h44:=CQ x.attrs hx
 obtain⟨a1,a2,a3,a4,a5,a6,a7,a8,a9,a10⟩:=x
 have hlm:(a5.map gZ).length=a5.length:=bM ..
 unfold fE
 simp only at h45 h54 h44 hx ⊢
 refine an.aF (rvs:=[.tmp 2]) G aq Tryz.func115 rfl Tryz.ntmps115 rfl rfl ?_;with_reducible refine wD ?_
 by_cases e1:a1=1
 ·rw [if_pos e1]
  cases hr:cz a2 with
  | false=>
    rw[hr] at h45
    simp only[Bool.false_eq_true,if_false] at h45
    (have fct:=And.intro e1 (hr);(repeat' (first
  |refine gF ?_|refine aE ?_ ?_
  |(((with_reducible refine kQ 67 ?_);refine cL h45 E2 ?_)<;>with_reducible refine wK ?_)
  | apply trivial));all_goals clear fct)
    all_goals simp[hr]
  | true=>
    rw[hr] at h45
    simp only[if_true] at h45
    by_cases hl:nW a2=a2
    ·by_cases h3:a3=⟨#[]⟩
     ·by_cases h4:a4=⟨#[]⟩
      ·(have fct:=And.intro e1 (And.intro hr (And.intro hl (And.intro h3 (h4))));(repeat' (first
  |refine gF ?_|refine aE ?_ ?_
  | ((first
   |((with_reducible refine kQ 67 ?_);refine cL h45 E2 ?_)
   |((with_reducible refine kQ 131 ?_);refine cL h44 HZ ?_))<;>with_reducible refine wK ?_)
  |apply trivial));all_goals clear fct)
       all_goals simp[hr,hl,h3,h4]
      ·(have fct:=And.intro e1 (And.intro hr (And.intro hl (And.intro h3 ((eq_false h4)))));(repeat' (first
  |refine gF ?_|refine aE ?_ ?_
  |(((with_reducible refine kQ 67 ?_);refine cL h45 E2 ?_)<;>with_reducible refine wK ?_)
  |apply trivial));all_goals clear fct)
       all_goals simp[hr,hl,h3,h4]
     ·cases hc:eL a3 with
      | false=>
        rw[hc] at h54
        (have fct:=And.intro e1 (And.intro hr (And.intro hl (And.intro (eq_false h3) (hc))));(repeat' (first
  |refine gF ?_|refine aE ?_ ?_
  | ((first
   |((with_reducible refine kQ 67 ?_);refine cL h45 E2 ?_)
   |((with_reducible refine kQ 174 ?_);refine cL h54 mZ ?_))<;>with_reducible refine wK ?_)
  |apply trivial));all_goals clear fct)
        all_goals simp[hr,hl,h3,hc]
      | true=>
        rw[hc] at h54
        by_cases h4:a4=⟨#[]⟩
        ·(have fct:=And.intro e1 (And.intro hr (And.intro hl (And.intro (eq_false h3) (And.intro hc (h4)))));(repeat' (first
  |refine gF ?_|refine aE ?_ ?_
  | ((first
   |((with_reducible refine kQ 67 ?_);refine cL h45 E2 ?_)
   |((with_reducible refine kQ 174 ?_);refine cL h54 mZ ?_)
   |((with_reducible refine kQ 131 ?_);refine cL h44 HZ ?_))<;>with_reducible refine wK ?_)
  |apply  trivial));all_goals clear fct)
         all_goals simp[hr,hl,h3,hc,h4]
        ·(have fct:=And.intro e1 (And.intro hr (And.intro hl (And.intro (eq_false h3) (And.intro hc ((eq_false h4))))));(repeat' (first
  |refine gF ?_|refine aE ?_ ?_
  | ((first
   |((with_reducible refine kQ 67 ?_);refine cL h45 E2 ?_)
   |((with_reducible refine kQ 174 ?_);refine cL h54 mZ ?_))<;>with_reducible refine wK ?_)
  | apply trivial));all_goals clear fct)
         all_goals simp[hr,hl,h3,hc,h4]
    ·(have fct:=And.intro e1 (And.intro hr ((eq_false hl)));(repeat' (first
  |refine gF ?_|refine aE ?_ ?_
  |(((with_reducible refine kQ 67 ?_);refine cL h45 E2 ?_)<;>with_reducible refine wK ?_)
  |apply trivial));all_goals clear fct)
     all_goals simp[hr,hl]
 ·rw [if_neg e1]
  by_cases e2:a1=2
  ·rw [if_pos e2]
   by_cases hd:a4.size≤200
   ·by_cases h2:a2=⟨#[]⟩
    ·by_cases h3:a3=⟨#[]⟩
     ·(have fct:=And.intro e2 (And.intro hd (And.intro h2 (h3)));(repeat' (first
  |refine gF ?_|refine aE ?_ ?_
  |apply trivial));all_goals clear fct)
      all_goals simp[hd,h2,h3]
     ·(have fct:=And.intro e2 (And.intro hd (And.intro h2 ((eq_false h3))));(repeat' (first
  |refine gF ?_|refine aE ?_ ?_
  | apply trivial));all_goals clear fct)
      all_goals simp[hd,h2,h3]
    ·(have fct:=And.intro e2 (And.intro hd ((eq_false h2)));(repeat' (first
  |refine gF ?_|refine aE ?_ ?_
  | apply trivial));all_goals clear fct)
     all_goals simp[hd,h2]
   ·(have fct:=And.intro e2 ((eq_false hd));(repeat' (first
  |refine gF ?_|refine aE ?_ ?_
  | apply trivial));all_goals clear fct)
    all_goals simp[hd]
  ·rw [if_neg e2]
   by_cases ho:a1=0∨a1=3∨a1=4
   ·rw [if_pos ho]
    by_cases h2:a2=⟨#[]⟩
    ·by_cases h3:a3=⟨#[]⟩
     ·by_cases h4:a4=⟨#[]⟩
      ·rcases ho with e|e|e
       ·(have fct:=And.intro e (And.intro h2 (And.intro h3 (h4)));(repeat' (first
  |refine gF ?_|refine aE ?_ ?_
  |apply trivial));all_goals clear fct)
        all_goals simp[h2,h3,h4]
       ·(have fct:=And.intro e (And.intro h2 (And.intro h3 (h4)));(repeat' (first
  |refine gF ?_|refine aE ?_ ?_
  |apply trivial));all_goals clear fct)
        all_goals simp[h2,h3,h4]
       ·(have fct:=And.intro e (And.intro h2 (And.intro h3 (h4)));(repeat' (first
  |refine gF ?_|refine aE ?_ ?_
  |apply trivial));all_goals clear fct)
        all_goals simp[h2,h3,h4]
      ·rcases ho with e|e|e
       ·(have fct:=And.intro e (And.intro h2 (And.intro h3 ((eq_false h4))));(repeat' (first
  |refine gF ?_|refine aE ?_ ?_
  |apply trivial));all_goals clear fct)
        all_goals simp[h2,h3,h4]
       ·(have fct:=And.intro e (And.intro h2 (And.intro h3 ((eq_false h4))));(repeat' (first
  |refine gF ?_|refine aE ?_ ?_
  |apply trivial));all_goals clear fct)
        all_goals simp[h2,h3,h4]
       ·(have fct:=And.intro e (And.intro h2 (And.intro h3 ((eq_false h4))));(repeat' (first
  |refine gF ?_|refine aE ?_ ?_
  |apply trivial));all_goals clear fct)
        all_goals simp[h2,h3,h4]
     ·rcases ho with e|e|e
      ·(have fct:=And.intro e (And.intro h2 ((eq_false h3)));(repeat' (first
  |refine gF ?_|refine aE ?_ ?_
  |apply trivial));all_goals clear fct)
       all_goals simp[h2,h3]
      ·(have fct:=And.intro e (And.intro h2 ((eq_false h3)));(repeat' (first
  |refine gF ?_|refine aE ?_ ?_
  |apply trivial));all_goals clear fct)
       all_goals simp[h2,h3]
      ·(have fct:=And.intro e (And.intro h2 ((eq_false h3)));(repeat' (first
  |refine gF ?_|refine aE ?_ ?_
  | apply trivial));all_goals clear fct)
       all_goals simp[h2,h3]
    ·rcases ho with e|e|e
     ·(have fct:=And.intro e ((eq_false h2));(repeat' (first
  |refine gF ?_|refine aE ?_ ?_
  |apply trivial));all_goals clear fct)
      all_goals simp[h2]
     ·(have fct:=And.intro e ((eq_false h2));(repeat' (first
  |refine gF ?_|refine aE ?_ ?_
  |apply trivial));all_goals clear fct)
      all_goals simp[h2]
     ·(have fct:=And.intro e ((eq_false h2));(repeat' (first
  |refine gF ?_|refine aE ?_ ?_
  | apply trivial));all_goals clear fct)
      all_goals simp[h2]
   ·rw[if_neg ho]
    have e0:¬a1=0:=fun h=>ho (.inl h)
    have e3:¬a1=3:=fun h=>ho (.inr (.inl h))
    have e4:¬a1=4:=fun h=>ho (.inr (.inr h))
    (have fct:=And.intro e0 (And.intro e1 (And.intro e2 (And.intro e3 (e4))));(repeat' (first
  |refine gF ?_|refine aE ?_ ?_
  |apply trivial));all_goals clear fct)
def mh (l:List Int):List (Int×Int):=l.map fun c=>(c,1)
theorem qR (c:Int):∀l:List Int,cM c (mh l)=if c∈l then some 1 else none
 |[]=>rfl
 | a ::r=>by
   show(if a=c then some 1 else cM c (mh r))=_
   rw[qR c r]
   by_cases e:a=c
   ·rw[if_pos e,if_pos (by simp[e])]
   ·rw[if_neg e]
    by_cases h:c∈r
    ·rw[if_pos h,if_pos (gy _ h)]
    ·rw[if_neg h,if_neg (by simp[h];exact fun e'=>e e'.symm)]
theorem EG {l:List Int}{c:Int}(h:c∉l):dP c 1 (mh l)=mh (l++ [c]):=by
 rw[o9 (by rw[qR,if_neg h])]
 simp[mh]
theorem oD {α:Type}{l:List α}{k:Nat}{x:α}(h:l[k]? =some x):l.take (k+1)=l.take k++ [x]:=by
 obtain⟨hk,rfl⟩:=br h
 rw[List.take_add_one,bh hk];rfl
theorem EB {l:List ai}{n:Int}{x:ai}{cs:List Int}{j:Nat}{c:Int}(h:cs[j]? =some c):j9 l n x (cs.take j) (cs.drop j)=(yo l n x (cs.take j) c&&j9 l n x (cs.take (j+1)) (cs.drop (j+1))):=by
 obtain⟨hk,rfl⟩:=br h
 rw[List.drop_eq_getElem_cons hk,oD h]
 rfl
theorem Bd {l:List ai}{cs:List Int}{j:Nat}{c:Int}(h:cs[j]? =some c):eG l (cs.take (j+1))=eG l (cs.take j)+if(nd l c).kind=1 then 1 else 0:=by
 rw[oD h]
 unfold eG
 rw[List.countP_append,List.countP_cons];simp
theorem Fo (l:List ai)(cs:List Int)(j:Nat):eG l (cs.take j)≤j:=by
 unfold eG
 refine Nat.le_trans List.countP_le_length ?_
 simp;omega
@[reducible] def MP (t : List (Int × Int)) : MS := .live 2 (dz nZ bu t) false
theorem lS (t:List (Int×Int)):aV (dz nZ bu t)=true:=by
 rw[cr];intro x hx
 obtain⟨a,_,rfl⟩:=List.mem_map.1 hx
 rfl
theorem Iu (f:ForM)(hs:bO f.nodes)(k:Nat)(x:ai)(hx:f.nodes[k]? =some x):an Tryz.prog 118 [] [bF f,ay k] [] (aX (ou f.nodes k x)):=by
 have h49:=so f
 have h56:=Cr x.kind
 have h7:=hs.kids x (bN hx)
 have hl:=hs.len
 obtain⟨l,m⟩:=f
 have hst:=fun j c=> @EB l k x x.kids j c
 have hse:=fun j c=> @Bd l x.kids j c
 unfold ou
 simp only at h49 h56 hx h7 hl ⊢
 obtain⟨⟨a1,a2,a3,a4,a5,a6,a7,a8,a9,a10⟩,hx0⟩:∃y,y=x:=⟨x,rfl⟩
 rw[←hx0] at hx h56 h7 hst hse ⊢
 simp only at h56 h7 hst hse ⊢
 have hlm:(a7.map bu).length=a7.length:=bM ..
 refine an.aF (rvs:=[.tmp 4]) G aq Tryz.func118 rfl Tryz.ntmps118 rfl rfl ?_;with_reducible refine wD ?_
 refine bn.mk k (aR _) rfl (aI hx) ?_;with_reducible refine wK ?_
 refine bD.use G aq (fun(j:Nat)=>[(1,ay k),(2,.ptr 20 0 0),(5,.ptr 50 0 0),(6,.mapr 161),(7,ay (eG l (a7.take j))),(18,cN a7),(19,ay a7.length),(20,ay j)])
  (fun j=>[(20,.live 2 [bF ⟨l,m⟩] false),(50,.live 10 [aR ⟨a1,a2,a3,a4,a5,a6,a7,a8,a9,a10⟩] false),(161,MP (mh (a7.take j)))])
  (fun j=>j≤a7.length∧j9 l k ⟨a1,a2,a3,a4,a5,a6,a7,a8,a9,a10⟩ [] a7=j9 l k ⟨a1,a2,a3,a4,a5,a6,a7,a8,a9,a10⟩ (a7.take j) (a7.drop j)) (fun j=>a7.length-j) 0 ⟨Nat.zero_le _,rfl⟩
  ⟨⟨rfl,rfl⟩,⟨rfl,⟨rfl,rfl⟩,⟨rfl,rfl⟩,trivial,rfl,rfl,by show(a7.length:Int)=((a7.map bu).length:Int);rw[hlm],rfl,trivial⟩,⟨⟨rfl,rfl,trivial⟩,trivial⟩,⟨⟨rfl,rfl,rfl,rfl,rfl,rfl,rfl,rfl,rfl,rfl,trivial⟩,trivial⟩,⟨.refl rfl,rfl⟩,trivial⟩ ?_
 rintro j ⟨hj,hok⟩
 with_reducible refine wK ?_
 refine aL.mk (fun h1=>?_) (fun h1=>?_)<;>(try simp only[ak] at h1)<;>with_reducible refine wK ?_
 ·have hj' :j<a7.length:=by simp only[bH] at h1;omega
  obtain⟨c,hc⟩:∃c,a7[j]? =some c:=⟨_,bh hj'⟩
  rw[hst j c hc] at hok
  have hse':=hse j c hc
  have hel:=Fo l a7 j
  have h49':=h49 c
  unfold yo at hok
  refine bn.mk j (ay c) rfl (iy hc) ?_;with_reducible refine wK ?_
  refine cL h49' uN ?_;with_reducible refine wK ?_
  cases ht:aa l c with
  | false=>
    rw[ht] at hok
    simp only[Bool.false_and] at hok
    rw[hok,Bool.false_and]
    (have fct:=ht;(repeat' (first
  |refine gF ?_|refine aE ?_ ?_
  |apply trivial));all_goals clear fct)
  | true=>
    obtain⟨i,y,rfl,hy,hnd⟩:=bp.1 ht
    rw[ht,hnd] at hok
    rw[hnd] at hse'
    obtain⟨b1,b2,b3,b4,b5,b6,b7,b8,b9,b10⟩:=y
    simp only[Bool.true_and] at hok hse'
    refine aL.ff ?_;with_reducible refine wK ?_
    have hts:=qR (i:Int) (a7.take j)
    refine jV.tab nZ bu (mh (a7.take j)) (k:=(i:Int)) (zv:=ay 0) JS ⟨_,_,rfl⟩ jj j3 rfl rfl (fun z hxx=>?_) (fun hxx=>?_)
    ·rw[hxx] at hts
     have hin:(i:Int)∈a7.take j:=by by_cases h:(i:Int)∈a7.take j;exact h;rw[if_neg h] at hts;cases hts
     rw[if_pos hin] at hts
     cases hts
     rw[show tE (a7.take j) (i:Int)=true from dB hin] at hok
     simp only[Bool.not_true,Bool.false_and] at hok
     rw[hok,Bool.false_and]
     rw[show bu 1=ay 1 from rfl]
     with_reducible refine wK ?_
     (have fct:=ht;(repeat' (first
  |refine gF ?_|refine aE ?_ ?_
  | apply trivial));all_goals clear fct)
    ·rw [hxx] at hts
     have hin:(i:Int)∉a7.take j:=by intro h;rw[if_pos h] at hts;cases hts
     rw[show tE (a7.take j) (i:Int)=false from dQ hin] at hok
     simp only[Bool.not_false,Bool.true_and] at hok
     with_reducible refine wK ?_
     by_cases e6:b6=k
     ·by_cases e10:b10=a10
      ·simp only[e6,e10,decide_true,Bool.true_and] at hok
       (have fct:=And.intro e6 (e10);(repeat' (first
  |refine gF ?_|refine aE ?_ ?_
  |((refine bn.mk i (aR _) rfl (aI hy) ?_)<;>with_reducible refine wK ?_)
  |apply trivial));all_goals clear fct)
       refine jV.tab nZ bu (mh (a7.take j)) (k:=(i:Int)) (zv:=ay 0) JS ⟨_,_,rfl⟩ jj j3 rfl rfl (fun z hyy=>?_) (fun hyy=>?_)
       ·rw[hxx] at hyy;cases hyy
       with_reducible refine wK ?_
       have hln:(mh (a7.take j)).length≤j:=by unfold mh;simp;omega
       have hsn:=EG hin
       rw[←oD hc] at hsn
       refine nK ?_;with_reducible refine wK ?_
       refine pQ.tab nZ bu (mh (a7.take j)) (k:=(i:Int)) (1:Int) JS rfl jj j3 (by unfold maxLen;omega) rfl ?_;with_reducible refine wK ?_
       rw[hsn]
       refine bn.mk i (aR _) rfl (aI hy) ?_;with_reducible refine wK ?_
       by_cases f1:b1=1
       ·have hs1:(eG l (a7.take (j+1)):Int)=eG l (a7.take j)+1:=by rw[hse',if_pos f1];rfl
        simp only[f1,decide_true,Bool.true_or,Bool.true_and] at hok
        (have fct:=f1;(repeat' (first
  |refine gF ?_|refine aE ?_ ?_
  |(((with_reducible show aT _ _);refine aT.mk (j+1) ⟨by omega,hok⟩ (by omega) ⟨⟨rfl,rfl⟩,⟨rfl,⟨rfl,rfl⟩,⟨rfl,rfl⟩,trivial,hs1,rfl,rfl,by show((j+1:Nat):Int)=(j:Int)+1;omega,trivial⟩,⟨⟨rfl,rfl,trivial⟩,trivial⟩,⟨⟨rfl,rfl,rfl,rfl,rfl,rfl,rfl,rfl,rfl,rfl,trivial⟩,trivial⟩,⟨.refl (lS _),lS _⟩,trivial⟩)<;>with_reducible refine wK ?_)
  |apply  trivial));all_goals clear fct)
       ·have hs1:(eG l (a7.take (j+1)):Int)=eG l (a7.take j):=by rw[hse',if_neg f1];rfl
        by_cases f2:b1=2
        ·by_cases e0:a1=0
         ·have hkk:(decide (b1=1)||decide (b1=2)&&decide (a1≠0))=false:=by simp[f2,e0]
          rw[hkk,Bool.false_and] at hok
          rw[hok,Bool.false_and]
          (have fct:=And.intro (eq_false f1) (And.intro f2 (e0));(repeat' (first
  |refine gF ?_|refine aE ?_ ?_
  |apply  trivial));all_goals clear fct)
         ·have hkk:(decide (b1=1)||decide (b1=2)&&decide (a1≠0))=true:=by simp[f2,e0]
          rw[hkk,Bool.true_and] at hok
          (have fct:=And.intro (eq_false f1) (And.intro f2 ((eq_false e0)));(repeat' (first
  |refine gF ?_|refine aE ?_ ?_
  |(((with_reducible show aT _ _);refine aT.mk (j+1) ⟨by omega,hok⟩ (by omega) ⟨⟨rfl,rfl⟩,⟨rfl,⟨rfl,rfl⟩,⟨rfl,rfl⟩,trivial,hs1,rfl,rfl,by show((j+1:Nat):Int)=(j:Int)+1;omega,trivial⟩,⟨⟨rfl,rfl,trivial⟩,trivial⟩,⟨⟨rfl,rfl,rfl,rfl,rfl,rfl,rfl,rfl,rfl,rfl,trivial⟩,trivial⟩,⟨.refl (lS _),lS _⟩,trivial⟩)<;>with_reducible refine wK ?_)
  |apply  trivial));all_goals clear fct)
        ·simp only[eq_false f1,eq_false f2,decide_false,Bool.false_and,Bool.or_false] at hok
         rw[hok,Bool.false_and]
         (have fct:=And.intro f1 (f2);(repeat' (first
  |refine gF ?_|refine aE ?_ ?_
  |apply trivial));all_goals clear fct)
      ·simp only[e6,eq_false e10,decide_true,decide_false,Bool.true_and,Bool.false_and] at hok
       rw[hok,Bool.false_and]
       (have fct:=And.intro e6 ((eq_false e10));(repeat' (first
  |refine gF ?_|refine aE ?_ ?_
  |((refine bn.mk i (aR _) rfl (aI hy) ?_)<;>with_reducible refine wK ?_)
  |apply trivial));all_goals clear fct)
     ·simp only[eq_false e6,decide_false,Bool.false_and] at hok
      rw[hok,Bool.false_and]
      (have fct:=(eq_false e6);(repeat' (first
  |refine gF ?_|refine aE ?_ ?_
  |((refine bn.mk i (aR _) rfl (aI hy) ?_)<;>with_reducible refine wK ?_)
  |apply trivial));all_goals clear fct)
 ·have hjl:j=a7.length:=by simp only[dG] at h1;omega
  rw[hjl,List.take_length,List.drop_length] at hok
  rw[hjl,List.take_length]
  rw[hok]
  simp only[j9,Bool.true_and]
  refine cL h56 D2 ?_;with_reducible refine wK ?_
  by_cases e7:a7.length=0
  ·have e7':a7=[]:=List.eq_nil_of_length_eq_zero e7
   cases hh:iD a1 with
   | false=>
     by_cases e0:a1=0
     ·(have fct:=And.intro hh (And.intro e0 (And.intro e7 (hlm)));(repeat' (first
  |refine gF ?_|refine aE ?_ ?_
  |apply trivial));all_goals clear fct)
      all_goals first|(simp[hh,e0,e7'];done)|((try simp only[ak]);simp[hh,e0,e7'];omega)
     ·(have fct:=And.intro hh (And.intro (eq_false e0) (And.intro e7 (hlm)));(repeat' (first
  |refine gF ?_|refine aE ?_ ?_
  | apply trivial));all_goals clear fct)
      all_goals first|(simp[hh,e0,e7'];done)|((try simp only[ak]);simp[hh,e0,e7'];omega)
   | true=>
     by_cases e0:a1=0
     ·(have fct:=And.intro hh (And.intro e0 (And.intro e7 (hlm)));(repeat' (first
  |refine gF ?_|refine aE ?_ ?_
  |apply trivial));all_goals clear fct)
      all_goals first|(simp[hh,e0,e7'];done)|((try simp only[ak]);simp[hh,e0,e7'];omega)
     ·(have fct:=And.intro hh (And.intro (eq_false e0) (And.intro e7 (hlm)));(repeat' (first
  |refine gF ?_|refine aE ?_ ?_
  |apply trivial));all_goals clear fct)
      all_goals first|(simp[hh,e0,e7'];done)|((try simp only[ak]);simp[hh,e0,e7'];omega)
  ·have e7':¬a7=[]:=fun h=>e7 (by rw[h];rfl)
   cases hh:iD a1 with
   | false=>
     by_cases e0:a1=0
     ·(have fct:=And.intro hh (And.intro e0 (And.intro e7 (hlm)));(repeat' (first
  |refine gF ?_|refine aE ?_ ?_
  |apply trivial));all_goals clear fct)
      all_goals first|(simp[hh,e0,e7'];done)|((try simp only[ak]);simp[hh,e0,e7'];omega)
     ·(have fct:=And.intro hh (And.intro (eq_false e0) (And.intro e7 (hlm)));(repeat' (first
  |refine gF ?_|refine aE ?_ ?_
  | apply trivial));all_goals clear fct)
      all_goals first|(simp[hh,e0,e7'];done)|((try simp only[ak]);simp[hh,e0,e7'];omega)
   | true=>
     by_cases e0:a1=0
     ·(have fct:=And.intro hh (And.intro e0 (And.intro e7 (hlm)));(repeat' (first
  |refine gF ?_|refine aE ?_ ?_
  |apply trivial));all_goals clear fct)
      all_goals first|(simp[hh,e0,e7'];done)|((try simp only[ak]);simp[hh,e0,e7'];omega)
     ·(have fct:=And.intro hh (And.intro (eq_false e0) (And.intro e7 (hlm)));(repeat' (first
  |refine gF ?_|refine aE ?_ ?_
  |apply trivial));all_goals clear fct)
      all_goals first|(simp[hh,e0,e7'];done)|((try simp only[ak]);simp[hh,e0,e7'];omega)
theorem yw {α:Type}{p:Nat→α→Bool}{l:List α}{k:Nat}{x:α}(h:l[k]? =some x)(hp:p k x=false):n8 p 0 l=false:=by
 rw[Bool.eq_false_iff]
 intro h1
 have:=js.1 h1 k x h
 rw[Nat.zero_add,hp] at this
 cases this
theorem vn {α:Type}{p:Nat→α→Bool}{l:List α}(h:∀k x,l[k]? =some x→p k x=true):n8 p 0 l=true:=
 js.2 fun k x hx=>by rw[Nat.zero_add];exact h k x hx
theorem Ga (f:ForM)(hs:bO f.nodes):an Tryz.prog 55 [] [bF f] [] (aX (aU f)):=by
 have hl:=hs.len
 have h38:∀x∈f.nodes,an Tryz.prog 115 [] [aR x] [] (aX (fE x)):=fun x hx=>Iy x (by have:=hs.attrs x hx;omega)
 have h39:=I4 f
 have h40:=JJ f hs
 have h41:=Iu f hs
 have h42:=JL f
 have h43:(∀n,aa f.nodes n=true→cQ f.nodes n (nd f.nodes n)=true)→∀k,k<f.nodes.length→an Tryz.prog 120 [] [bF f,ay k] [] (aX (fU f.nodes f.nodes.length k)):=fun hN k hk=>Jg f (by omega) (fun k x hx=>by have:=I6 hN k (eF hx);rwa [fZ hx] at this) k hk
 obtain⟨l,m⟩:=f
 unfold aU oF
 simp only at hl h38 h39 h40 h41 h42 h43 ⊢
 have hlm:(l.map cj).length=l.length:=bM ..
 refine an.aF (rvs:=[.tmp 2]) G aq Tryz.func55 rfl Tryz.ntmps55 rfl rfl ?_;with_reducible refine wD ?_
 by_cases e1:m<1
 ·have c1:decide (1≤m)=false:=dQ (by omega)
  rw[c1]
  (have fct:=e1;(repeat' (first
  |refine gF ?_|refine aE ?_ ?_
  |apply trivial));all_goals clear fct)
  all_goals simp
 by_cases e2:400<m
 ·have c1:decide (m≤400)=false:=dQ (by omega)
  rw[c1]
  (have fct:=And.intro (eq_false e1) (e2);(repeat' (first
  |refine gF ?_|refine aE ?_ ?_
  |apply trivial));all_goals clear fct)
  all_goals simp
 by_cases e3:l.length<1
 ·have c1:decide (1≤l.length)=false:=dQ (by omega)
  have e3':(l.length:Int)<1:=by omega
  rw[c1]
  (have fct:=And.intro (eq_false e1) (And.intro (eq_false e2) (And.intro hlm (e3')));(repeat' (first
  |refine gF ?_|refine aE ?_ ?_
  |apply trivial));all_goals clear fct)
  all_goals simp
 have e3':¬ (l.length:Int)<1:=by omega
 by_cases e4:m< (l.length:Int)
 ·have c1:decide ((l.length:Int)≤m)=false:=dQ (by omega)
  rw[c1]
  (have fct:=And.intro (eq_false e1) (And.intro (eq_false e2) (And.intro hlm (And.intro (eq_false e3') (e4))));(repeat' (first
  |refine gF ?_|refine aE ?_ ?_
  |apply trivial));all_goals clear fct)
  all_goals simp
 obtain⟨x0,hx0⟩:∃x,l[0]? =some x:=⟨_,bh (by omega)⟩
 have hn0:nd l 0=x0:=fZ (k:=0) hx0
 rw[hn0]
 obtain⟨z1,z2,z3,z4,z5,z6,z7,z8,z9,z10⟩:=x0
 by_cases e5:¬z1=0
 ·(have fct:=And.intro (eq_false e1) (And.intro (eq_false e2) (And.intro hlm (And.intro (eq_false e3') (And.intro (eq_false e4) ((eq_false e5))))));(repeat' (first
  |refine gF ?_|refine aE ?_ ?_
  |((refine bn.mk 0 (aR ⟨z1,z2,z3,z4,z5,z6,z7,z8,z9,z10⟩) rfl (aI hx0) ?_)<;>with_reducible refine wK ?_)
  |apply trivial));all_goals clear fct)
  all_goals simp[e5]
 have e5:=Decidable.not_not.1 e5
 have c1:(decide (1≤m)&&decide (m≤400)&&decide (1≤l.length)&&decide ((l.length:Int)≤m)&&decide (z1=0))=true:=by
  simp only[bJ,bH];omega
 simp only at c1 ⊢
 rw[c1,Bool.true_and]
 (have fct:=And.intro (eq_false e1) (And.intro (eq_false e2) (And.intro hlm (And.intro (eq_false e3') (And.intro (eq_false e4) (e5)))));(repeat' (first
  |refine gF ?_|refine aE ?_ ?_
  |((refine bn.mk 0 (aR ⟨z1,z2,z3,z4,z5,z6,z7,z8,z9,z10⟩) rfl (aI hx0) ?_)<;>with_reducible refine wK ?_)
  |apply trivial));all_goals clear fct)
 refine bD.use G aq (fun(k:Nat)=>[(1,.ptr 10 0 0),(44,gq l),(45,ay l.length),(46,ay k)]) (fun _=>[(10,.live 2 [bF ⟨l,m⟩] false)])
  (fun k=>k≤l.length∧∀j x,j<k→l[j]? =some x→cQ l j x=true) (fun k=>l.length-k) 0 ⟨Nat.zero_le _,fun j x h=>by omega⟩
  ⟨⟨rfl,rfl⟩,⟨⟨rfl,rfl⟩,rfl,by show(l.length:Int)=((l.map cj).length:Int);rw[hlm],rfl,trivial⟩,⟨⟨rfl,rfl,trivial⟩,trivial⟩,trivial⟩ ?_
 rintro k ⟨hk,hok⟩
 with_reducible refine wK ?_
 refine aL.mk (fun g1=>?_) (fun g1=>?_)<;>(try simp only[ak] at g1)<;>with_reducible refine wK ?_
 ·have hk' : k<l.length:=by simp only[bH] at g1;omega
  obtain⟨x,hx⟩:∃x,l[k]? =some x:=⟨_,bh hk'⟩
  have h38':=h38 x (bN hx)
  have h39':=h39 k x hx
  have h40':=h40 k x hx
  have h41':=h41 k x hx
  have h42':=h42 k x hx
  have bad:cQ l k x=false→n8 (fun k x=>cQ l k x) 0 l=false:=fun h=>yw hx h
  have good:cQ l k x=true→∀j y,j<k+1→l[j]? =some y→cQ l j y=true:=fun h j y hj hy=>by
   rcases Nat.lt_or_ge j k with h6|h6
   ·exact hok j y h6 hy
   ·have:j=k:=by omega
    subst this
    rw[hx] at hy;cases hy;exact h
  obtain⟨a1,a2,a3,a4,a5,a6,a7,a8,a9,a10⟩:=x
  refine bn.mk k (aR _) rfl (aI hx) ?_;with_reducible refine wK ?_
  cases q1:fE ⟨a1,a2,a3,a4,a5,a6,a7,a8,a9,a10⟩ with
  | false=>
    rw[bad (by unfold cQ;rw[q1];rfl),Bool.false_and]
    (have fct:=q1;(repeat' (first
  |refine gF ?_|refine aE ?_ ?_
  |(((with_reducible refine kQ 115 ?_);refine cL h38' Bl ?_)<;>with_reducible refine wK ?_)
  |apply trivial));all_goals clear fct)
  | true=>
    cases q2:tK l k ⟨a1,a2,a3,a4,a5,a6,a7,a8,a9,a10⟩ with
    | false=>
      rw[bad (by unfold cQ;rw[q1,q2];rfl),Bool.false_and]
      (have fct:=And.intro q1 (q2);(repeat' (first
  |refine gF ?_|refine aE ?_ ?_
  | ((first
   |((with_reducible refine kQ 115 ?_);refine cL h38' Bl ?_)
   |((with_reducible refine kQ 116 ?_);refine cL h39' ET ?_))<;>with_reducible refine wK ?_)
  | apply trivial));all_goals clear fct)
    | true=>
      cases q3:rA l k ⟨a1,a2,a3,a4,a5,a6,a7,a8,a9,a10⟩ with
      | false=>
        rw[bad (by unfold cQ;rw[q1,q2,q3];rfl),Bool.false_and]
        (have fct:=And.intro q1 (And.intro q2 (q3));(repeat' (first
  |refine gF ?_|refine aE ?_ ?_
  | ((first
   |((with_reducible refine kQ 115 ?_);refine cL h38' Bl ?_)
   |((with_reducible refine kQ 116 ?_);refine cL h39' ET ?_)
   |((with_reducible refine kQ 117 ?_);refine cL h40' Gb ?_))<;>with_reducible refine wK ?_)
  |apply  trivial));all_goals clear fct)
      | true=>
        cases q4:ou l k ⟨a1,a2,a3,a4,a5,a6,a7,a8,a9,a10⟩ with
        | false=>
          rw[bad (by unfold cQ;rw[q1,q2,q3,q4];rfl),Bool.false_and]
          (have fct:=And.intro q1 (And.intro q2 (And.intro q3 (q4)));(repeat' (first
  |refine gF ?_|refine aE ?_ ?_
  | ((first
   |((with_reducible refine kQ 115 ?_);refine cL h38' Bl ?_)
   |((with_reducible refine kQ 116 ?_);refine cL h39' ET ?_)
   |((with_reducible refine kQ 117 ?_);refine cL h40' Gb ?_)
   |((with_reducible refine kQ 118 ?_);refine cL h41' J6 ?_))<;>with_reducible refine wK ?_)
  |apply  trivial));all_goals clear fct)
        | true=>
          cases q5:j1 l k ⟨a1,a2,a3,a4,a5,a6,a7,a8,a9,a10⟩ with
          | false=>
            rw[bad (by unfold cQ;rw[q1,q2,q3,q4,q5];rfl),Bool.false_and]
            (have fct:=And.intro q1 (And.intro q2 (And.intro q3 (And.intro q4 (q5))));(repeat' (first
  |refine gF ?_|refine aE ?_ ?_
  | ((first
   |((with_reducible refine kQ 115 ?_);refine cL h38' Bl ?_)
   |((with_reducible refine kQ 116 ?_);refine cL h39' ET ?_)
   |((with_reducible refine kQ 117 ?_);refine cL h40' Gb ?_)
   |((with_reducible refine kQ 118 ?_);refine cL h41' J6 ?_)
   |((with_reducible refine kQ 119 ?_);refine cL h42' LN ?_))<;>with_reducible refine wK ?_)
  |apply  trivial));all_goals clear fct)
          | true=>
            have hnx:=good (by unfold cQ;rw[q1,q2,q3,q4,q5];rfl)
            (have fct:=And.intro q1 (And.intro q2 (And.intro q3 (And.intro q4 (q5))));(repeat' (first
  |refine gF ?_|refine aE ?_ ?_
  | ((first
   |((with_reducible refine kQ 115 ?_);refine cL h38' Bl ?_)
   |((with_reducible refine kQ 116 ?_);refine cL h39' ET ?_)
   |((with_reducible refine kQ 117 ?_);refine cL h40' Gb ?_)
   |((with_reducible refine kQ 118 ?_);refine cL h41' J6 ?_)
   |((with_reducible refine kQ 119 ?_);refine cL h42' LN ?_)
   |((with_reducible show aT _ _);refine aT.mk (k+1) ⟨by omega,hnx⟩ (by omega) ⟨⟨rfl,rfl⟩,⟨⟨rfl,rfl⟩,rfl,rfl,by show((k+1:Nat):Int)=(k:Int)+1;omega,trivial⟩,⟨⟨rfl,rfl,trivial⟩,trivial⟩,trivial⟩))<;>with_reducible refine wK ?_)
  |apply trivial));all_goals clear fct)
 ·have hkl:k=l.length:=by simp only[dG] at g1;omega
  have hall:∀ (j:Nat) (x:ai),l[j]? =some x→cQ l j x=true:=fun j x hx=>hok j x (by have:=(br hx).1;omega) hx
  rw[vn hall,Bool.true_and]
  have h43':=h43 fun n hn=>by
   obtain⟨k,x,rfl,hk,hx⟩:=bp.1 hn
   rw[hx];exact hall k x hk
  refine bD.use G aq (fun(k:Nat)=>[(1,.ptr 10 0 0),(82,ay l.length),(83,ay k)]) (fun _=>[(10,.live 2 [bF ⟨l,m⟩] false)])
   (fun k=>k≤l.length∧∀ (j:Nat) (x:ai),j<k→l[j]? =some x→fU l l.length j=true) (fun k=>l.length-k) 0 ⟨Nat.zero_le _,fun j x h=>by omega⟩
   ⟨⟨rfl,rfl⟩,⟨⟨rfl,rfl⟩,by show(l.length:Int)=((l.map cj).length:Int);rw[hlm],rfl,trivial⟩,⟨⟨rfl,rfl,trivial⟩,trivial⟩,trivial⟩ ?_
  rintro i ⟨hi,hends⟩
  with_reducible refine wK ?_
  refine aL.mk (fun g2=>?_) (fun g2=>?_)<;>(try simp only[ak] at g2)<;>with_reducible refine wK ?_
  ·have hi':i<l.length:=by simp only[bH] at g2;omega
   obtain⟨y,hy⟩:∃y,l[i]? =some y:=⟨_,bh hi'⟩
   have h43'':=h43' i hi'
   refine cL h43'' NB ?_;with_reducible refine wK ?_
   cases q:fU l l.length i with
   | false=>
     rw[yw hy q]
     (have fct:=q;(repeat' (first
  |refine gF ?_|refine aE ?_ ?_
  | apply trivial));all_goals clear fct)
   | true=>
     (have fct:=q;(repeat' (first
  |refine gF ?_|refine aE ?_ ?_
  |(((with_reducible show aT _ _);refine aT.mk (i+1) ⟨by omega,fun j x hj hx=>?_⟩ (by omega) ⟨⟨rfl,rfl⟩,⟨⟨rfl,rfl⟩,rfl,by show((i+1:Nat):Int)=(i:Int)+1;omega,trivial⟩,⟨⟨rfl,rfl,trivial⟩,trivial⟩,trivial⟩)<;>with_reducible refine wK ?_)
  |apply trivial));all_goals clear fct)
     rcases Nat.lt_or_ge j i with h6|h6
     ·exact hends j x h6 hx
     ·have:j=i:=by omega
      rw[this];exact q
  ·have hil:i=l.length:=by simp only[dG] at g2;omega
   rw[vn fun j x hx=>hends j x (by have:=(br hx).1;omega) hx]
   (refine eK ?_ ?_<;>with_reducible repeat' (first|exact trivial|(show _∧_;refine aK ?_ ?_)))
theorem ng (f:ForM)(hs:bO f.nodes):an Tryz.prog 17 [] [bF f] [] (aX (aU f)):=by
 have h23:=Ga f hs
 obtain⟨l,m⟩:=f
 refine an.aF (rvs:=[.tmp 2]) G aq Tryz.func17 rfl Tryz.ntmps17 rfl rfl ?_;with_reducible refine wD ?_
 refine cL h23 NY ?_;with_reducible refine wK ?_
 (refine eK ?_ ?_<;>with_reducible repeat' (first|exact trivial|(show _∧_;refine aK ?_ ?_)))
theorem ae (l:List Int):aV (l.map bu)=true:=by
 rw[cr];intro x hx
 obtain⟨a,_,rfl⟩:=List.mem_map.1 hx
 rfl
theorem Fk (l:List Int):lX (flat (l.map bu))=true:=mY bu (fun _=>rfl) l
theorem fq {m:ML}{fz:Nat→Bool}{tab:List (Nat×Nat)}{n t len:Nat}{ro:Bool}{rows:List AV}{l:List Int}(h1:dc m t=.live 1 rows ro)(h2:fz t=true)(h3:rows=l.map bu)(h4:len=l.length):sN m fz (MF tab fz m n) (cN l) t 0 len:=by
 subst h3;subst h4
 have e:(l.map bu).length=l.length:=bM ..
 exact .cut h1 h2 (by omega) (by rw[List.drop_zero,nU (by omega)]) (ae l)
@[reducible] def cU (l : List Int) : MS := .live 1 (l.map bu) false
def oR (x:ai):Bool:=decide (x.kids.length≤60)&&decide (x.attrs.length≤60)&&decide (x.name.size≤300)
theorem Aa (f:ForM):qQ f=(decide (f.nodes.length≤60)&&f.nodes.all oR):=rfl
theorem BB {α:Type}{p:α→Bool}{l:List α}{k:Nat}{x:α}(h:l[k]? =some x)(hp:p x=false):l.all p=false:=by
 rw[Bool.eq_false_iff]
 intro h1
 rw[List.all_eq_true] at h1
 rw[h1 x (bN h)] at hp;cases hp
theorem w7 {α:Type}{p:α→Bool}{l:List α}(h:∀ (k:Nat) (x:α),l[k]? =some x→p x=true):l.all p=true:=by
 rw[List.all_eq_true]
 intro x hx
 obtain⟨k,hk⟩:=List.getElem?_of_mem hx
 exact h k x hk
theorem Md (f:ForM):an Tryz.prog 16 [] [bF f] [] (aX (qQ f)):=by
 rw[Aa]
 obtain⟨l,m⟩:=f
 simp only
 have hlm:(l.map cj).length=l.length:=bM ..
 refine an.aF (rvs:=[.tmp 2]) G aq Tryz.func16 rfl Tryz.ntmps16 rfl rfl ?_;with_reducible refine wD ?_
 by_cases e0:(60:Int)< (l.length:Int)
 ·rw[dQ (show ¬l.length≤60 by omega)]
  (have fct:=And.intro hlm (e0);(repeat' (first
  |refine gF ?_|refine aE ?_ ?_
  |apply trivial));all_goals clear fct)
  all_goals rfl
 rw[dB (show l.length≤60 by omega),Bool.true_and]
 (have fct:=And.intro hlm ((eq_false e0));(repeat' (first
  |refine gF ?_|refine aE ?_ ?_
  |apply trivial));all_goals clear fct)
 refine bD.use G aq (fun(k:Nat)=>[(1,.ptr 10 0 0),(3,ay k)]) (fun _=>[(10,.live 2 [bF ⟨l,m⟩] false)])
  (fun k=>k≤l.length∧∀ (j:Nat) (y:ai),j<k→l[j]? =some y→oR y=true) (fun k=>l.length-k) 0 ⟨Nat.zero_le _,fun j y h=>by omega⟩
  ⟨⟨rfl,rfl⟩,⟨⟨rfl,rfl⟩,rfl,trivial⟩,⟨⟨rfl,rfl,trivial⟩,trivial⟩,trivial⟩ ?_
 rintro k ⟨hk,hok⟩
 with_reducible refine wK ?_
 refine aL.mk (fun h1=>?_) (fun h1=>?_)<;>(try simp only[ak] at h1)<;>with_reducible refine wK ?_
 ·have hk':k<l.length:=by simp only[bH] at h1;omega
  obtain⟨x,hx⟩:∃x,l[k]? =some x:=⟨_,bh hk'⟩
  have bad:oR x=false→l.all oR=false:=fun h=>BB hx h
  have good:oR x=true→∀ (j:Nat) (y:ai),j<k+1→l[j]? =some y→oR y=true:=fun h j y hj hy=>by
   rcases Nat.lt_or_ge j k with h6|h6
   ·exact hok j y h6 hy
   ·have:j=k:=by omega
    subst this
    rw[hx] at hy;cases hy;exact h
  obtain⟨a1,a2,a3,a4,a5,a6,a7,a8,a9,a10⟩:=x
  have hla:(a5.map gZ).length=a5.length:=bM ..
  have hlk:(a7.map bu).length=a7.length:=bM ..
  have sm:oR ⟨a1,a2,a3,a4,a5,a6,a7,a8,a9,a10⟩=(decide (a7.length≤60)&&decide (a5.length≤60)&&decide (a2.size≤300)):=rfl
  rw[sm] at bad good
  refine bn.mk k (aR _) rfl (aI hx) ?_;with_reducible refine wK ?_
  by_cases e1:(60:Int)< (a7.length:Int)
  ·rw[bad (by rw[dQ (show ¬a7.length≤60 by omega)];rfl)]
   (have fct:=And.intro hlk (e1);(repeat' (first
  |refine gF ?_|refine aE ?_ ?_
  |apply trivial));all_goals clear fct)
  by_cases e2:(60:Int)< (a5.length:Int)
  ·rw[bad (by rw[dQ (show ¬a5.length≤60 by omega),Bool.and_false];rfl)]
   (have fct:=And.intro hlk (And.intro hla (And.intro (eq_false e1) (e2)));(repeat' (first
  |refine gF ?_|refine aE ?_ ?_
  |((refine bn.mk k (aR _) rfl (aI hx) ?_)<;>with_reducible refine wK ?_)
  |apply trivial));all_goals clear fct)
  by_cases e3:(300:Int)< (a2.size:Int)
  ·rw[bad (by rw[dQ (show ¬a2.size≤300 by omega),Bool.and_false])]
   (have fct:=And.intro hlk (And.intro hla (And.intro (eq_false e1) (And.intro (eq_false e2) (e3))));(repeat' (first
  |refine gF ?_|refine aE ?_ ?_
  |((refine bn.mk k (aR _) rfl (aI hx) ?_)<;>with_reducible refine wK ?_)
  |apply trivial));all_goals clear fct)
  have hnx:=good (by simp only[bJ,bH];omega)
  (have fct:=And.intro hlk (And.intro hla (And.intro (eq_false e1) (And.intro (eq_false e2) ((eq_false e3)))));(repeat' (first
  |refine gF ?_|refine aE ?_ ?_
  | ((first
   |(refine bn.mk k (aR _) rfl (aI hx) ?_)
   |((with_reducible show aT _ _);refine aT.mk (k+1) ⟨by omega,hnx⟩ (by omega) ⟨⟨rfl,rfl⟩,⟨⟨rfl,rfl⟩,by show((k+1:Nat):Int)=(k:Int)+1;omega,trivial⟩,⟨⟨rfl,rfl,trivial⟩,trivial⟩,trivial⟩))<;>with_reducible refine wK ?_)
  |apply trivial));all_goals clear fct)
 ·have hkl:k=l.length:=by simp only[dG] at h1;omega
  rw[w7 fun j y hy=>hok j y (by have:=(br hy).1;omega) hy]
  (refine eK ?_ ?_<;>with_reducible repeat' (first|exact trivial|(show _∧_;refine aK ?_ ?_)))
theorem Ia {l:List ai}{n:Int}(h:0≤n∧n< (l.length:Int)):∃ (i:Nat) (y:ai),n=(i:Int)∧l[i]? =some y∧nd l n=y:=by
  obtain⟨i,y,h1,h2,h3⟩:=bp.1 (show aa l n=true by unfold aa;simp;omega)
  exact⟨i,y,h1,h2,h3⟩
theorem uM {P:Program}{N nL:Nat}{sl:SL}{m:ML}{c:Code}{Q:Exit→SL→ML→Prop}{F G:Prop}(main:(F→bD P N nL sl m (c:=c) (Q:=Q))→G)(rest:F→bD P N nL sl m (c:=c) (Q:=Q)):G:=main rest

end Go.Proofs.Heir
