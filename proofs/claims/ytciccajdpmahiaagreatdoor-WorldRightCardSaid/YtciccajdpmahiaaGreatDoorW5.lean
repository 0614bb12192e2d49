/- Models, plain laws and contracts of functions of the given program; conditions as stated in each theorem. By an AI agent. -/
import Derived.Test.YtciccajdpmahiaaGreatDoorW4
import Derived.RangeFuncNested
import Derived.RangeFuncBound
import Derived.RangeFuncCalls
import Derived.Shelf.Abstract
import Derived.Shelf.RegionOpen
import Derived.WalkKit
import Derived.OwnWalkIn
import Derived.TacticsInMore
import Derived.LoopNIn
import Derived.LoopIn
import Derived.Laws.StructEq
import Derived.Tactics
set_option linter.unusedSimpArgs false
set_option linter.unusedVariables false
namespace Go.Proofs.Heir
open Go Go.Am Go.RowKit Go.Lib
set_option maxRecDepth 100000
set_option maxHeartbeats 8000000
def qO (x:az):Bool:=decide (x.kids.length≤60)&&decide (x.attrs.length≤60)&&decide (x.name.size≤300)
theorem HJ (f:ForM):oe f=(decide (f.nodes.length≤60)&&f.nodes.all qO):=rfl
theorem jS {α:Type}{p:α→Bool}{l:List α}{k:Nat}{x:α}(h:l[k]? =some x)(hp:p x=false):l.all p=false:=by
 rw[Bool.eq_false_iff]
 intro h1
 rw[List.all_eq_true] at h1
 rw[h1 x (bn h)] at hp;cases hp
theorem ja {α:Type}{p:α→Bool}{l:List α}(h:∀ (k:Nat) (x:α),l[k]? =some x→p x=true):l.all p=true:=by
 rw[List.all_eq_true]
 intro x hx
 obtain⟨k,hk⟩:=List.getElem?_of_mem hx
 exact h k x hk
theorem Jb (f:ForM):af Tryz.prog 17 [] [bD f] [] (aA (oe f)):=by
 rw[HJ]
 obtain⟨l,m⟩:=f
 simp only
 have hlm:(l.map bP).length=l.length:=aM ..
 refine af.ah (rvs:=[.tmp 2]) G aa Tryz.func17 rfl Tryz.ntmps17 rfl rfl ?_;with_reducible refine wD ?_
 by_cases e0:(60:Int)< (l.length:Int)
 ·rw[aS (show ¬l.length≤60 by omega)]
  (have fct:=And.intro hlm (e0);(repeat' (first
  |refine gF ?_|refine aE ?_ ?_
  |apply trivial));all_goals clear fct)
  all_goals rfl
 rw[aV (show l.length≤60 by omega),Bool.true_and]
 (have fct:=And.intro hlm ((eq_false e0));(repeat' (first
  |refine gF ?_|refine aE ?_ ?_
  |apply trivial));all_goals clear fct)
 refine aR.use G aa (fun(k:Nat)=>[(1,.ptr 10 0 0),(3,aj k)]) (fun _=>[(10,.live 2 [bD ⟨l,m⟩] false)])
  (fun k=>k≤l.length∧∀ (j:Nat) (y:az),j<k→l[j]? =some y→qO y=true) (fun k=>l.length-k) 0 ⟨Nat.zero_le _,fun j y h=>by omega⟩
  ⟨⟨rfl,rfl⟩,⟨⟨rfl,rfl⟩,rfl,trivial⟩,⟨⟨rfl,rfl,trivial⟩,trivial⟩,trivial⟩ ?_
 rintro k ⟨hk,hok⟩
 with_reducible refine wK ?_
 refine aQ.mk (fun h1=>?_) (fun h1=>?_)<;>(try simp only[aq] at h1)<;>with_reducible refine wK ?_
 ·have hk':k<l.length:=by simp only[aL] at h1;omega
  obtain⟨x,hx⟩:∃x,l[k]? =some x:=⟨_,aP hk'⟩
  have bad:qO x=false→l.all qO=false:=fun h=>jS hx h
  have good:qO x=true→∀ (j:Nat) (y:az),j<k+1→l[j]? =some y→qO y=true:=fun h j y hj hy=>by
   rcases Nat.lt_or_ge j k with h6|h6
   ·exact hok j y h6 hy
   ·have:j=k:=by omega
    subst this
    rw[hx] at hy;cases hy;exact h
  obtain⟨a1,a2,a3,a4,a5,a6,a7,a8,a9,a10⟩:=x
  have hla:(a5.map fu).length=a5.length:=aM ..
  have hlk:(a7.map bB).length=a7.length:=aM ..
  have sm:qO ⟨a1,a2,a3,a4,a5,a6,a7,a8,a9,a10⟩=(decide (a7.length≤60)&&decide (a5.length≤60)&&decide (a2.size≤300)):=rfl
  rw[sm] at bad good
  refine ak.mk k (aO _) rfl (au hx) ?_;with_reducible refine wK ?_
  by_cases e1:(60:Int)< (a7.length:Int)
  ·rw[bad (by rw[aS (show ¬a7.length≤60 by omega)];rfl)]
   (have fct:=And.intro hlk (e1);(repeat' (first
  |refine gF ?_|refine aE ?_ ?_
  |apply trivial));all_goals clear fct)
  by_cases e2:(60:Int)< (a5.length:Int)
  ·rw[bad (by rw[aS (show ¬a5.length≤60 by omega),Bool.and_false];rfl)]
   (have fct:=And.intro hlk (And.intro hla (And.intro (eq_false e1) (e2)));(repeat' (first
  |refine gF ?_|refine aE ?_ ?_
  |((refine ak.mk k (aO _) rfl (au hx) ?_)<;>with_reducible refine wK ?_)
  |apply trivial));all_goals clear fct)
  by_cases e3:(300:Int)< (a2.size:Int)
  ·rw[bad (by rw[aS (show ¬a2.size≤300 by omega),Bool.and_false])]
   (have fct:=And.intro hlk (And.intro hla (And.intro (eq_false e1) (And.intro (eq_false e2) (e3))));(repeat' (first
  |refine gF ?_|refine aE ?_ ?_
  |((refine ak.mk k (aO _) rfl (au hx) ?_)<;>with_reducible refine wK ?_)
  |apply trivial));all_goals clear fct)
  have hnx:=good (by simp only[aT,aL];omega)
  (have fct:=And.intro hlk (And.intro hla (And.intro (eq_false e1) (And.intro (eq_false e2) ((eq_false e3)))));(repeat' (first
  |refine gF ?_|refine aE ?_ ?_
  | ((first
   |(refine ak.mk k (aO _) rfl (au hx) ?_)
   |((with_reducible show ay _ _);refine ay.mk (k+1) ⟨by omega,hnx⟩ (by omega) ⟨⟨rfl,rfl⟩,⟨⟨rfl,rfl⟩,by show((k+1:Nat):Int)=(k:Int)+1;omega,trivial⟩,⟨⟨rfl,rfl,trivial⟩,trivial⟩,trivial⟩))<;>with_reducible refine wK ?_)
  |apply trivial));all_goals clear fct)
 ·have hkl:k=l.length:=by simp only[bh] at h1;omega
  rw[ja fun j y hy=>hok j y (by have:=(aZ hy).1;omega) hy]
  (refine eK ?_ ?_<;>with_reducible repeat' (first|exact trivial|(show _∧_;refine aK ?_ ?_)))
theorem Mq (f:ForM)(hs:bR f.nodes)(k:Nat)(x:az)(hx:f.nodes[k]? =some x)(hkids:∀c∈x.kids,ai f.nodes c=true):af Tryz.prog 229 [] [bD f,aj k] [] (aj (xd f.nodes k)):=by
 have h7:=hs.kids x (bn hx)
 obtain⟨l,m⟩:=f
 unfold xd tW
 simp only at hx h7 hkids ⊢
 rw[dw hx]
 obtain⟨a1,a2,a3,a4,a5,a6,a7,a8,a9,a10⟩:=x
 simp only at h7 hkids ⊢
 have hlk:(a7.map bB).length=a7.length:=aM ..
 refine af.ah (rvs:=[.tmp 4]) G aa Tryz.func229 rfl Tryz.ntmps229 rfl rfl ?_;with_reducible refine wD ?_
 refine ak.mk k (aO _) rfl (au hx) ?_;with_reducible refine wK ?_
 refine aR.use G aa (fun(j:Nat)=>[(2,.ptr 20 0 0),(5,bQ a7),(6,aj j)]) (fun _=>[(20,.live 2 [bD ⟨l,m⟩] false)])
  (fun j=>j≤a7.length∧∀ (i:Nat) (c:Int),i<j→a7[i]? =some c→oo l c=false) (fun j=>a7.length-j) 0 ⟨Nat.zero_le _,fun j y h=>by omega⟩
  ⟨⟨rfl,rfl⟩,⟨⟨rfl,rfl⟩,rfl,rfl,trivial⟩,⟨⟨rfl,rfl,trivial⟩,trivial⟩,trivial⟩ ?_
 rintro j ⟨hj,hno⟩
 with_reducible refine wK ?_
 refine aQ.mk (fun h1=>?_) (fun h1=>?_)<;>(try simp only[aq] at h1)<;>with_reducible refine wK ?_
 ·have hj':j<a7.length:=by simp only[aL] at h1;omega
  obtain⟨c,hc⟩:∃c,a7[j]? =some c:=⟨_,aP hj'⟩
  obtain⟨i,y,rfl,hy,hny⟩:=aX.1 (hkids c (bn hc))
  have hleg:oo l (i:Int)=decide (y.name=LK):=by unfold oo;rw[hny]
  obtain⟨b1,b2,b3,b4,b5,b6,b7,b8,b9,b10⟩:=y
  refine ak.mk j (aj (i:Int)) rfl (dG hc) ?_;with_reducible refine wK ?_
  refine ak.mk i (aO _) rfl (au hy) ?_;with_reducible refine wK ?_
  by_cases e:b2=LK
  ·have hix:=dL hc (by rw[hleg];exact aV e) hno
   rw[hix]
   (have fct:=e;(repeat' (first
  |refine gF ?_|refine aE ?_ ?_
  |((refine ak.mk j (aj (i:Int)) rfl (dG hc) ?_)<;>with_reducible refine wK ?_)
  | apply trivial));all_goals clear fct)
   all_goals (rw[if_pos (Int.natCast_nonneg j),Int.toNat_natCast,hc];rfl)
  ·have hno':∀ (q:Nat) (c:Int),q<j+1→a7[q]? =some c→oo l c=false:=fun q c' hq hc'=>by
    rcases Nat.lt_or_ge q j with h6|h6
    ·exact hno q c' h6 hc'
    ·have:q=j:=by omega
     subst this
     rw[hc] at hc';cases hc';rw[hleg];exact aS e
   (have fct:=(eq_false e);(repeat' (first
  |refine gF ?_|refine aE ?_ ?_
  |(((with_reducible show ay _ _);refine ay.mk (j+1) ⟨by omega,hno'⟩ (by omega) ⟨⟨rfl,rfl⟩,⟨⟨rfl,rfl⟩,rfl,by show((j+1:Nat):Int)=(j:Int)+1;omega,trivial⟩,⟨⟨rfl,rfl,trivial⟩,trivial⟩,trivial⟩)<;>with_reducible refine wK ?_)
  |apply trivial));all_goals clear fct)
 ·have hjl:j=a7.length:=by simp only[bh] at h1;omega
  rw[dm fun i c hc=>hno i c (by have:=(aZ hc).1;omega) hc]
  (refine eK ?_ ?_<;>with_reducible repeat' (first|exact trivial|(show _∧_;refine aK ?_ ?_)))
  all_goals rfl
theorem Kc (f:ForM)(hs:bR f.nodes)(k:Nat)(x:az)(hx:f.nodes[k]? =some x):af Tryz.prog 227 [] [bD f,aj k] [] (aA (Ak x)):=by
 have h36:=AK x.attrs (by have:=hs.attrs x (bn hx);omega) DT
 obtain⟨l,m⟩:=f
 unfold Ak
 obtain⟨a1,a2,a3,a4,a5,a6,a7,a8,a9,a10⟩:=x
 simp only at hx h36 ⊢
 refine af.ah (rvs:=[.tmp 4]) G aa Tryz.func227 rfl Tryz.ntmps227 rfl rfl ?_;with_reducible refine wD ?_
 refine ak.mk k (aO _) rfl (au hx) ?_;with_reducible refine wK ?_
 refine cL h36 LV ?_;with_reducible refine wK ?_
 (refine eK ?_ ?_<;>with_reducible repeat' (first|exact trivial|(show _∧_;refine aK ?_ ?_)))
 all_goals rfl
def r6 (l:List az)(m:Nat)(n:Int)(cs:List Int):List Int:=n::cs.flatMap (bU l m)
theorem HL (l:List az)(m:Nat)(n:Int){cs:List Int}{j:Nat}{c:Int}(h:cs[j]? =some c):r6 l m n (cs.take (j+1))=r6 l m n (cs.take j)++bU l m c:=by
 unfold r6
 rw[gC h,List.flatMap_append];simp
theorem Lm (l:List az)(m:Nat)(n:Int)(cs:List Int)(j:Nat):(r6 l m n (cs.take j)).length≤ (r6 l m n cs).length:=by
 unfold r6
 conv=>rhs;rw[←List.take_append_drop j cs]
 rw[List.flatMap_append];simp
theorem Et (f:ForM)(hs:bR f.nodes)(T:Tree f.nodes):∀ (m:Nat) (k:Nat) (x:az),f.nodes[k]? =some x→f.nodes.length+1≤m+ (bS f.nodes k).length→af Tryz.prog 225 [] [bD f,aj k] [] (bQ (bU f.nodes m k)):=by
 have hl:=hs.len
 intro m
 induction m with
 |zero=>intro k x hx hm;have:=lp (l:=f.nodes) k;omega
 | succ m ih=>
   intro k x hx hm
   have htk:=cw hx
   have hnk:=dw hx
   have h7:=hs.kids x (bn hx)
   have hkid:=T.kid k htk
   have hway:=fun c=>dN T (n:=(k:Int)) (k:=c) htk
   have hol:=pZ T (m+1) htk
   have hpl:=fun j=>Lm f.nodes m k x.kids j
   have hps:=fun j c=> @HL f.nodes m k x.kids j c
   have hoe:bU f.nodes (m+1) k=r6 f.nodes m k x.kids:=by unfold r6;rw[bU,hnk]
   rw[hoe] at hol ⊢
   rw[hnk] at hkid hway
   have ihc:∀c∈x.kids,af Tryz.prog 225 [] [bD f,aj c] [] (bQ (bU f.nodes m c)):=fun c hc=>by
    obtain⟨i,y,rfl,hy,_⟩:=aX.1 (hkid c hc).1
    exact ih i y hy (by rw[hway _ hc];simp;omega)
   clear ih hway hm hkid hnk hoe
   obtain⟨l,mo⟩:=f
   obtain⟨a1,a2,a3,a4,a5,a6,a7,a8,a9,a10⟩:=x
   simp only at hl hx h7 hol hpl hps ihc ⊢
   have hlk:(a7.map bB).length=a7.length:=aM ..
   refine af.ah (rvs:=[.tmp 4]) G aa Tryz.func225 rfl Tryz.ntmps225 rfl rfl ?_;with_reducible refine wD ?_
   refine aR.use G aa (fun(j:Nat)=>[(1,aj k),(2,.ptr 20 0 0),(5,.own 81 0 (r6 l m k (a7.take j)).length),(6,aj j)]) (fun j=>[(20,.live 2 [bD ⟨l,mo⟩] false),(81,jG (r6 l m k (a7.take j)))])
    (fun j=>j≤a7.length) (fun j=>a7.length-j) 0 (Nat.zero_le _)
    ⟨⟨rfl,rfl⟩,⟨rfl,⟨rfl,rfl⟩,⟨rfl,rfl⟩,rfl,trivial⟩,⟨⟨rfl,rfl,trivial⟩,trivial⟩,⟨.refl rfl,bC _⟩,trivial⟩ ?_
   intro j hj
   with_reducible refine wK ?_
   refine ak.mk k (aO _) rfl (au hx) ?_;with_reducible refine wK ?_
   refine aQ.mk (fun h1=>?_) (fun h1=>?_)<;>(try simp only[aq] at h1)<;>with_reducible refine wK ?_
   ·have hj':j<a7.length:=by simp only[aL] at h1;omega
    obtain⟨c,hc⟩:∃c,a7[j]? =some c:=⟨_,aP hj'⟩
    have ihc':=ihc c (bn hc)
    have hst:=hps j c hc
    have hl1:=hpl (j+1)
    have hbl:((r6 l m k (a7.take j)).map bB).length=(r6 l m k (a7.take j)).length:=aM ..
    have hbc:((bU l m c).map bB).length=(bU l m c).length:=aM ..
    have hsum:(r6 l m k (a7.take j)).length+ (bU l m c).length≤64:=by rw[hst,jg] at hl1;omega
    refine ak.mk k (aO _) rfl (au hx) ?_;with_reducible refine wK ?_
    refine ak.mk j (aj c) rfl (dG hc) ?_;with_reducible refine wK ?_
    refine cV ihc' Ot ?_;with_reducible refine wK ?_
    refine cC.mk ((r6 l m k (a7.take j)).map bB) ((bU l m c).map bB) ⟨rfl,hbl.symm,rfl⟩ ⟨rfl,rfl,rfl⟩ (He _) (by simp;omega) (by simp;omega) ?_;with_reducible refine wK ?_
    refine dK ?_;with_reducible refine wK ?_
    refine nK ?_;with_reducible refine wK ?_
    refine ay.mk (j+1) (by omega) (by omega) ⟨⟨rfl,rfl⟩,⟨rfl,⟨rfl,rfl⟩,⟨rfl,?_⟩,by show((j+1:Nat):Int)=(j:Int)+1;omega,trivial⟩,⟨⟨rfl,rfl,trivial⟩,trivial⟩,⟨?_,bC _⟩,trivial⟩
    ·rw[hst];simp
    ·rw[hst,fO];exact .refl (by rw[←fO];exact bC _)
   ·(refine eK ?_ ?_<;>with_reducible repeat' (first|exact trivial|(show _∧_;refine aK ?_ ?_)))
    have hjl:j=a7.length:=by simp only[bh] at h1;omega
    subst hjl
    rw[List.take_length]
    exact eM rfl rfl rfl rfl
theorem J3 (f:ForM)(hs:bR f.nodes)(T:Tree f.nodes)(a:Nat)(x:az)(hx:f.nodes[a]? =some x)(b:Int):af Tryz.prog 228 [] [bD f,aj a,aj b] [] (aA (kT f.nodes a b)):=by
 have h37:=Et f hs T f.nodes.length a x hx (pA T (cw hx))
 have hol:=pZ T f.nodes.length (cw hx)
 have hl:=hs.len
 have h29:=Jj (bU f.nodes f.nodes.length a) (by omega) b
 have hh:kT f.nodes a b=decide ((0:Int)< ((bU f.nodes f.nodes.length a).count b:Nat)):=by
  unfold kT
  refine decide_eq_decide.2 ?_
  rw[←List.count_pos_iff];omega
 rw[hh]
 obtain⟨l,m⟩:=f
 simp only at h37 h29 ⊢
 refine af.ah (rvs:=[.tmp 6]) G aa Tryz.func228 rfl Tryz.ntmps228 rfl rfl ?_;with_reducible refine wD ?_
 refine cV h37 Ot ?_;with_reducible refine wK ?_
 refine cL h29 Rr ?_;with_reducible refine wK ?_
 (refine eK ?_ ?_<;>with_reducible repeat' (first|exact trivial|(show _∧_;refine aK ?_ ?_)))
 all_goals rfl
theorem pR {l:List az}{n:Int}(h:0≤n∧n< (l.length:Int)):∃ (i:Nat) (y:az),n=(i:Int)∧l[i]? =some y∧nd l n=y:=by
  obtain⟨i,y,h1,h2,h3⟩:=aX.1 (show ai l n=true by unfold ai;simp;omega)
  exact⟨i,y,h1,h2,h3⟩
theorem Df {P:Program}{N nL:Nat}{sl:SL}{m:ML}{c:Code}{Q:Exit→SL→ML→Prop}{F G:Prop}(main:(F→aR P N nL sl m (c:=c) (Q:=Q))→G)(rest:F→aR P N nL sl m (c:=c) (Q:=Q)):G:=main rest
set_option maxHeartbeats 16000000 in
theorem KY (f:ForM)(hs:bR f.nodes)(k:Nat)(x:az)(hx:f.nodes[k]? =some x):af Tryz.prog 105 [] [bD f,aj k] [] (aA (gd f.nodes k x)):=by
  have h29:=fun(l:List Int) (hl:l.length≤100000)=>Jj l hl
  have hxk:=hs.kids x (bn hx)
  have hxa:=hs.attrs x (bn hx)
  have hxn:=hs.name x (bn hx)
  have h30:=vv x.name
  have h31:=zE x.name (by omega)
  have h32:=Eh x.is
  have h33:=Ls x.attrs (by omega)
  have hK:∀ (i:Nat) (y:az),f.nodes[i]? =some y→y.kids.length≤100000:=fun i y h=>by have:=hs.kids y (bn h);omega
  have hl:=hs.len
  have hk:k<f.nodes.length:=(aZ hx).1
  obtain⟨l,m⟩:=f
  unfold gd
  simp only at hK hx hl hk ⊢
  obtain⟨a1,a2,a3,a4,a5,a6,a7,a8,a9,a10⟩:=x
  simp only at hxk hxa hxn h30 h31 h32 h33 ⊢
  have hlm:(l.map bP).length=l.length:=aM ..
  have hlk:(a7.map bB).length=a7.length:=aM ..
  have hla:(a5.map fu).length=a5.length:=aM ..
  apply Df (P:=Tryz.prog) (N:=353) (nL:=0) (F:=xu l k ⟨a1,a2,a3,a4,a5,a6,a7,a8,a9,a10⟩=true∧xy l k ⟨a1,a2,a3,a4,a5,a6,a7,a8,a9,a10⟩=true)
    (sl:=[(1,aj k),(2,.ptr 20 0 0),(5,.ptr 50 0 0),(6,aj l.length),(7,aj 0),(8,aj 0)]) (m:=[(20,.live 2 [bD ⟨l,m⟩] false),(50,.live 10 [aO ⟨a1,a2,a3,a4,a5,a6,a7,a8,a9,a10⟩] false)])
  case main =>
    intro key
    have bad1:∀b,xu l k ⟨a1,a2,a3,a4,a5,a6,a7,a8,a9,a10⟩=false→(xu l k ⟨a1,a2,a3,a4,a5,a6,a7,a8,a9,a10⟩&&b)=false:=fun b h=>by rw[h];rfl
    have bad2:∀b c,xy l k ⟨a1,a2,a3,a4,a5,a6,a7,a8,a9,a10⟩=false→(c&&(xy l k ⟨a1,a2,a3,a4,a5,a6,a7,a8,a9,a10⟩&&b))=false:=fun b c h=>by rw[h];simp
    refine af.ah (rvs:=[.tmp 4]) G aa Tryz.func105 rfl Tryz.ntmps105 rfl rfl ?_;delta List.toArray;(with_reducible ((conv=>whnf);(conv=>congr<;>reduce);repeat((first|refine nW.mk ?_|refine nS.mk ?_);(conv=>whnf);(conv=>congr<;>reduce))))
    refine ak.mk k (aO _) rfl (au hx) ?_;(with_reducible ((conv=>whnf);(conv=>congr<;>reduce);repeat((first|refine nW.mk ?_|refine nS.mk ?_);(conv=>whnf);(conv=>congr<;>reduce))))
    repeat' (first
    |(first
    |((with_reducible show aQ _ _ _ _);first|refine aQ.ff ?_|refine aQ.tt ?_|refine aQ.no (by first|exact qA|exact aV (by(try simp only[aq]);omega)|exact aS (by(try simp only[aq]);omega)|(simp only[aq,Bool.not_eq_true',Bool.not_eq_false',aL,bh];omega)) ?_|refine aQ.yes (by first|exact qA|exact aV (by(try simp only[aq]);omega)|exact aS (by(try simp only[aq]);omega)|(simp only[aq,Bool.not_eq_true',Bool.not_eq_false',aL,bh];omega)) ?_|(refine aQ.mk (fun hp=>?_) (fun hp=>?_)<;>(try simp only[aq,aL,bh,Bool.not_eq_true',Bool.not_eq_false',Decidable.not_not,Int.not_lt,Int.not_le] at hp)))
    |((with_reducible show bW _ _ _ _);refine nK ?_)
    |((with_reducible show bL _ _ _ _);refine dK ?_)
    |((with_reducible show ak _ a10 _ _ _);refine ak.mk iD (aO _) eD (au hyD) ?_)
    |((with_reducible show ak _ a10 _ _ _);(obtain⟨iD,y,eD,hyD,hnyD⟩:=pR (l:=l) (n:=a10) (by omega));(obtain⟨b1,b2,b3,b4,b5,b6,b7,b8,b9,b10⟩:=y);refine ak.mk iD (aO _) eD (au hyD) ?_)
    |((with_reducible show ak _ a6 _ _ _);refine ak.mk iP (aO _) eP (au hyP) ?_)
    |((with_reducible show ak _ a6 _ _ _);(obtain⟨iP,y,eP,hyP,hnyP⟩:=pR (l:=l) (n:=a6) (by omega));(obtain⟨b1,b2,b3,b4,b5,b6,b7,b8,b9,b10⟩:=y);refine ak.mk iP (aO _) eP (au hyP) ?_)
    |((with_reducible refine kQ 53 ?_);refine cL (h29 _ (hK _ _ hyP) k) Rr ?_))<;>(with_reducible ((conv=>whnf);(conv=>congr<;>reduce);repeat((first|refine nW.mk ?_|refine nS.mk ?_);(conv=>whnf);(conv=>congr<;>reduce))))
    |((with_reducible show(_∧_)∧_∧_);refine⟨⟨rfl,rfl⟩,?_,?_⟩<;>with_reducible ((conv=>whnf)<;>repeat' (first|exact trivial|(refine And.intro ?_ ?_<;>(conv=>whnf))))))
    all_goals first
      | refine bad1 _ ?_
        (rw[Bool.eq_false_iff];intro h;(first|simp only[xu,oN,ai,aT,dW,aL,ne_eq,←r7,hnyD] at h|simp only[xu,oN,ai,aT,dW,aL,ne_eq,←r7] at h);omega)
      | refine bad2 _ _ ?_
        (rw[Bool.eq_false_iff];intro h;(first|simp only[xy,oN,ai,aT,dW,aL,ne_eq,←r7,hnyP] at h|simp only[xy,oN,ai,aT,dW,aL,ne_eq,←r7] at h);omega)
      | refine aR.fit ?_ (key ⟨?_,?_⟩)
        ·exact⟨⟨rfl,rfl⟩,⟨rfl,⟨rfl,rfl⟩,⟨rfl,rfl⟩,by show(l.length:Int)=((l.map bP).length:Int);rw[hlm],rfl,rfl,trivial⟩,⟨⟨rfl,rfl,trivial⟩,trivial⟩,⟨⟨rfl,rfl,rfl,rfl,rfl,rfl,rfl,rfl,rfl,rfl,trivial⟩,trivial⟩,trivial⟩
        ·
          (simp only[xu,oN,ai,aT,dW,aL,ne_eq,←r7,hnyD];omega)
        ·first
            |(rw[xy,aV (by assumption)];rfl)
            | skip
              (simp only[xy,oN,ai,aT,dW,aL,ne_eq,←r7,hnyP];omega)
  case rest =>
    rintro⟨hD,hP⟩
    rw[hD,hP]
    simp only[Bool.true_and]
    have bad3:∀b,a7.all (uG l k ⟨a1,a2,a3,a4,a5,a6,a7,a8,a9,a10⟩)=false→(a7.all (uG l k ⟨a1,a2,a3,a4,a5,a6,a7,a8,a9,a10⟩)&&b)=false:=fun b h=>by rw[h];rfl
    refine aR.use G aa (fun(j:Nat)=>[(1,aj k),(2,.ptr 20 0 0),(5,.ptr 50 0 0),(6,aj l.length),(7,aj (gV l (a7.take j))),(8,aj j)]) (fun _=>[(20,.live 2 [bD ⟨l,m⟩] false),(50,.live 10 [aO ⟨a1,a2,a3,a4,a5,a6,a7,a8,a9,a10⟩] false)])
      (fun j=>j≤a7.length∧∀ (i:Nat) (c:Int),i<j→a7[i]? =some c→uG l k ⟨a1,a2,a3,a4,a5,a6,a7,a8,a9,a10⟩ c=true) (fun j=>a7.length-j) 0 ⟨Nat.zero_le _,fun i c h=>by omega⟩
      ⟨⟨rfl,rfl⟩,⟨rfl,⟨rfl,rfl⟩,⟨rfl,rfl⟩,rfl,rfl,rfl,trivial⟩,⟨⟨rfl,rfl,trivial⟩,trivial⟩,⟨⟨rfl,rfl,rfl,rfl,rfl,rfl,rfl,rfl,rfl,rfl,trivial⟩,trivial⟩,trivial⟩ ?_
    rintro j ⟨hj,hok⟩
    (with_reducible ((conv=>whnf);(conv=>congr<;>reduce);repeat((first|refine nW.mk ?_|refine nS.mk ?_);(conv=>whnf);(conv=>congr<;>reduce))))
    refine aQ.mk (fun h1=>?_) (fun h1=>?_)<;>(try simp only[aq] at h1)<;>(with_reducible ((conv=>whnf);(conv=>congr<;>reduce);repeat((first|refine nW.mk ?_|refine nS.mk ?_);(conv=>whnf);(conv=>congr<;>reduce))))
    · have hj':j<a7.length:=by simp only[aL] at h1;omega
      obtain⟨c,hc⟩:∃c,a7[j]? =some c:=⟨_,aP hj'⟩
      have hse:=@wW l a7 j c hc
      have hel:=wP l a7 j
      have h29':=h29 a7 (by omega) c
      have good:uG l k ⟨a1,a2,a3,a4,a5,a6,a7,a8,a9,a10⟩ c=true→∀ (i:Nat) (d:Int),i<j+1→a7[i]? =some d→uG l k ⟨a1,a2,a3,a4,a5,a6,a7,a8,a9,a10⟩ d=true:=fun h i d hi hd=>by
        rcases Nat.lt_or_ge i j with h6|h6
        ·exact hok i d h6 hd
        · have:i=j:=by omega
          subst this
          rw[hc] at hd;cases hd;exact h
      refine ak.mk j (aj c) rfl (dG hc) ?_;(with_reducible ((conv=>whnf);(conv=>congr<;>reduce);repeat((first|refine nW.mk ?_|refine nS.mk ?_);(conv=>whnf);(conv=>congr<;>reduce))))
      repeat' (first
    |(first
    |((with_reducible show aQ _ _ _ _);first|refine aQ.ff ?_|refine aQ.tt ?_|refine aQ.no (by first|exact qA|exact aV (by(try simp only[aq]);omega)|exact aS (by(try simp only[aq]);omega)|(simp only[aq,Bool.not_eq_true',Bool.not_eq_false',aL,bh];omega)) ?_|refine aQ.yes (by first|exact qA|exact aV (by(try simp only[aq]);omega)|exact aS (by(try simp only[aq]);omega)|(simp only[aq,Bool.not_eq_true',Bool.not_eq_false',aL,bh];omega)) ?_|(refine aQ.mk (fun hp=>?_) (fun hp=>?_)<;>(try simp only[aq,aL,bh,Bool.not_eq_true',Bool.not_eq_false',Decidable.not_not,Int.not_lt,Int.not_le] at hp)))
    |((with_reducible show bW _ _ _ _);refine nK ?_)
    |((with_reducible show bL _ _ _ _);refine dK ?_)
    |((with_reducible show ak _ c _ _ _);refine ak.mk iK (aO _) eK (au hyK) ?_)
    |((with_reducible show ak _ c _ _ _);(obtain⟨iK,y,eK,hyK,hnyK⟩:=pR (l:=l) (n:=c) (by omega));(obtain⟨b1,b2,b3,b4,b5,b6,b7,b8,b9,b10⟩:=y);refine ak.mk iK (aO _) eK (au hyK) ?_)
    |((with_reducible refine kQ 53 ?_);refine cL h29' Rr ?_))<;>(with_reducible ((conv=>whnf);(conv=>congr<;>reduce);repeat((first|refine nW.mk ?_|refine nS.mk ?_);(conv=>whnf);(conv=>congr<;>reduce))))
    | ((with_reducible show(_∧_)∧_∧_);refine⟨⟨rfl,rfl⟩,?_,?_⟩<;>with_reducible ((conv=>whnf)<;>repeat' (first|exact trivial|(refine And.intro ?_ ?_<;>(conv=>whnf))))))
      all_goals first
        | refine bad3 _ (jS hc ?_)
          (rw[Bool.eq_false_iff];intro h;(first|simp only[uG,oN,ai,aT,dW,aL,ne_eq,←r7,hnyK] at h|simp only[uG,oN,ai,aT,dW,aL,ne_eq,←r7] at h);omega)
        | ((with_reducible show ay _ _);refine ay.mk (j+1) ⟨by omega,good ?_⟩ (by omega) ⟨⟨rfl,rfl⟩,⟨rfl,⟨rfl,rfl⟩,⟨rfl,rfl⟩,rfl,by rw[hse,hnyK];first|(simp[show b1=1 by omega];done)|(simp[show ¬b1=1 by omega];done),by show((j+1:Nat):Int)=(j:Int)+1;omega,trivial⟩,⟨⟨rfl,rfl,trivial⟩,trivial⟩,⟨⟨rfl,rfl,rfl,rfl,rfl,rfl,rfl,rfl,rfl,rfl,trivial⟩,trivial⟩,trivial⟩)
          (simp only[uG,oN,ai,aT,dW,aL,ne_eq,←r7,hnyK];omega)
    · have hjl:j=a7.length:=by simp only[bh] at h1;omega
      rw[ja fun i c hc=>hok i c (by have:=(aZ hc).1;omega) hc,Bool.true_and]
      rw[hjl,List.take_length]
      have hel:=wP l a7 a7.length
      rw[List.take_length] at hel
      have bad4:∀b,lO l ⟨a1,a2,a3,a4,a5,a6,a7,a8,a9,a10⟩=false→(lO l ⟨a1,a2,a3,a4,a5,a6,a7,a8,a9,a10⟩&&b)=false:=fun b h=>by rw[h];rfl
      have bad5:∀b c,fq l k ⟨a1,a2,a3,a4,a5,a6,a7,a8,a9,a10⟩=false→(c&&(fq l k ⟨a1,a2,a3,a4,a5,a6,a7,a8,a9,a10⟩&&b))=false:=fun b c h=>by rw[h];simp
      have good6:lO l ⟨a1,a2,a3,a4,a5,a6,a7,a8,a9,a10⟩=true→fq l k ⟨a1,a2,a3,a4,a5,a6,a7,a8,a9,a10⟩=true→∀b,vN ⟨a1,a2,a3,a4,a5,a6,a7,a8,a9,a10⟩=b→(lO l ⟨a1,a2,a3,a4,a5,a6,a7,a8,a9,a10⟩&&(fq l k ⟨a1,a2,a3,a4,a5,a6,a7,a8,a9,a10⟩&&vN ⟨a1,a2,a3,a4,a5,a6,a7,a8,a9,a10⟩))=b:=fun h1 h2 b h3=>by rw[h1,h2,h3];rfl
      repeat' (first
    |(first
    |((with_reducible show aQ _ _ _ _);first|refine aQ.ff ?_|refine aQ.tt ?_|refine aQ.no (by first|exact qA|exact aV (by(try simp only[aq]);omega)|exact aS (by(try simp only[aq]);omega)|(simp only[aq,Bool.not_eq_true',Bool.not_eq_false',aL,bh];omega)) ?_|refine aQ.yes (by first|exact qA|exact aV (by(try simp only[aq]);omega)|exact aS (by(try simp only[aq]);omega)|(simp only[aq,Bool.not_eq_true',Bool.not_eq_false',aL,bh];omega)) ?_|(refine aQ.mk (fun hp=>?_) (fun hp=>?_)<;>(try simp only[aq,aL,bh,Bool.not_eq_true',Bool.not_eq_false',Decidable.not_not,Int.not_lt,Int.not_le] at hp)))
    |((with_reducible show bW _ _ _ _);refine nK ?_)
    |((with_reducible show bL _ _ _ _);refine dK ?_)
    |((with_reducible show ak _ a8 _ _ _);refine ak.mk iH (aO _) eH (au hyH) ?_)
    |((with_reducible show ak _ a8 _ _ _);(obtain⟨iH,y,eH,hyH,hnyH⟩:=pR (l:=l) (n:=a8) (by omega));(obtain⟨b1,b2,b3,b4,b5,b6,b7,b8,b9,b10⟩:=y);refine ak.mk iH (aO _) eH (au hyH) ?_)
    |((with_reducible show ak _ a9 _ _ _);refine ak.mk iU (aO _) eU (au hyU) ?_)
    |((with_reducible show ak _ a9 _ _ _);(obtain⟨iU,y,eU,hyU,hnyU⟩:=pR (l:=l) (n:=a9) (by omega));(obtain⟨b1,b2,b3,b4,b5,b6,b7,b8,b9,b10⟩:=y);refine ak.mk iU (aO _) eU (au hyU) ?_)
    |((with_reducible refine kQ 86 ?_);refine cL h30 NG ?_)
    |((with_reducible refine kQ 87 ?_);refine cL h31 P0 ?_)
    |((with_reducible refine kQ 134 ?_);refine cL h32 nI ?_)
    |((with_reducible refine kQ 173 ?_);refine cL h33 Ss ?_))<;>(with_reducible ((conv=>whnf);(conv=>congr<;>reduce);repeat((first|refine nW.mk ?_|refine nS.mk ?_);(conv=>whnf);(conv=>congr<;>reduce))))
    | ((with_reducible show(_∧_)∧_∧_);refine⟨⟨rfl,rfl⟩,?_,?_⟩<;>with_reducible ((conv=>whnf)<;>repeat' (first|exact trivial|(refine And.intro ?_ ?_<;>(conv=>whnf))))))
      all_goals clear hok
      all_goals first
        | refine bad4 _ ?_
          (rw[Bool.eq_false_iff];intro h;(first|simp only[lO,oN,ai,aT,dW,aL,ne_eq,←r7,hlk] at h|simp only[lO,oN,ai,aT,dW,aL,ne_eq,←r7] at h);omega)
        | refine bad5 _ _ ?_
          (rw[Bool.eq_false_iff];intro h;by_cases e4:a1=4
           ·simp only[fq,if_pos e4,oN,ai,aT,dW,aL,ne_eq] at h;(try simp only[hnyH] at h);(try simp only[hnyU] at h);omega
           ·simp only[fq,if_neg e4,oN,ai,aT,dW,aL,ne_eq] at h;(try simp only[hnyH] at h);(try simp only[hnyU] at h);omega)
        | refine good6 ?_ ?_ _ ?_
          ·
            (simp only[lO,oN,ai,aT,dW,aL,ne_eq,←r7,hlk];omega)
          ·
            (by_cases e4:a1=4
             ·simp only[fq,if_pos e4,oN,ai,aT,dW,aL,ne_eq];(try simp only[hnyH]);(try simp only[hnyU]);omega
             ·simp only[fq,if_neg e4,oN,ai,aT,dW,aL,ne_eq];(try simp only[hnyH]);(try simp only[hnyU]);omega)
          · clear bad4 bad5 good6 hK hs hx h29 h30 h31 h32 h33 hD hP
            first|(simp_all[vN];done)|(simp_all[vN];omega)
set_option maxHeartbeats 16000000 in
theorem HM (f:ForM)(hs:bR f.nodes):af Tryz.prog 34 [] [bD f] [] (aA (An f)):=by
 have hl:=hs.len
 have h19:=KY f hs
 obtain⟨l,m⟩:=f
 unfold An
 simp only at h19 hl ⊢
 have hlm:(l.map bP).length=l.length:=aM ..
 have bad0:∀b,pg ⟨l,m⟩=false→(pg ⟨l,m⟩&&b)=false:=fun b h=>by rw[h];rfl
 apply Df (P:=Tryz.prog) (N:=84) (nL:=0) (F:=pg ⟨l,m⟩=true) (sl:=[(1,.ptr 10 0 0),(3,aj 0)]) (m:=[(10,.live 2 [bD ⟨l,m⟩] false)])
 case main=>
  intro key
  refine af.ah (rvs:=[.tmp 2]) G aa Tryz.func34 rfl Tryz.ntmps34 rfl rfl ?_;delta List.toArray;(with_reducible ((conv=>whnf);(conv=>congr<;>reduce);repeat((first|refine hK ?_|refine sK ?_);(conv=>whnf);(conv=>congr<;>reduce))))
  repeat' (first
  |(first
  |((with_reducible show aQ _ _ _ _);first|refine aQ.ff ?_|refine aQ.tt ?_|refine aQ.no (by first|exact qA|exact aV (by(try simp only[aq]);omega)|exact aS (by(try simp only[aq]);omega)|(simp only[aq,Bool.not_eq_true',Bool.not_eq_false',aL,bh];omega)) ?_|refine aQ.yes (by first|exact qA|exact aV (by(try simp only[aq]);omega)|exact aS (by(try simp only[aq]);omega)|(simp only[aq,Bool.not_eq_true',Bool.not_eq_false',aL,bh];omega)) ?_|(refine aQ.mk (fun hp=>?_) (fun hp=>?_)<;>(try simp only[aq,aL,bh,Bool.not_eq_true',Bool.not_eq_false',Decidable.not_not,Int.not_lt,Int.not_le] at hp)))
  |((with_reducible show bW _ _ _ _);refine nK ?_)
  |((with_reducible show bL _ _ _ _);refine dK ?_)
  |((with_reducible show ak _ (0:Int) _ _ _);refine ak.mk iZ (aO _) eZ (au hyZ) ?_)
  |((with_reducible show ak _ (0:Int) _ _ _);(obtain⟨iZ,y,eZ,hyZ,hnyZ⟩:=pR (l:=l) (n:=(0:Int)) (by omega));(obtain⟨b1,b2,b3,b4,b5,b6,b7,b8,b9,b10⟩:=y);refine ak.mk iZ (aO _) eZ (au hyZ) ?_))<;>(with_reducible ((conv=>whnf);(conv=>congr<;>reduce);repeat((first|refine hK ?_|refine sK ?_);(conv=>whnf);(conv=>congr<;>reduce))))
  |((with_reducible show(_∧_)∧_∧_);refine⟨⟨rfl,rfl⟩,?_,?_⟩<;>with_reducible ((conv=>whnf)<;>repeat' (first|exact trivial|(refine And.intro ?_ ?_<;>(conv=>whnf))))))
  all_goals first
   | refine bad0 _ ?_
     (rw[Bool.eq_false_iff];intro h;simp only[pg,aT,aL] at h;(try simp only[hnyZ] at h);omega)
   | refine aR.fit ?_ (key ?_)
     ·exact⟨⟨rfl,rfl⟩,⟨⟨rfl,rfl⟩,rfl,trivial⟩,⟨⟨rfl,rfl,trivial⟩,trivial⟩,trivial⟩
     ·simp only[pg,aT,aL,hnyZ];omega
 case rest=>
  intro hH
  rw[hH,Bool.true_and]
  refine aR.use G aa (fun(k:Nat)=>[(1,.ptr 10 0 0),(3,aj k)]) (fun _=>[(10,.live 2 [bD ⟨l,m⟩] false)])
   (fun k=>k≤l.length∧∀j x,j<k→l[j]? =some x→gd l j x=true) (fun k=>l.length-k) 0 ⟨Nat.zero_le _,fun j x h=>by omega⟩
   ⟨⟨rfl,rfl⟩,⟨⟨rfl,rfl⟩,rfl,trivial⟩,⟨⟨rfl,rfl,trivial⟩,trivial⟩,trivial⟩ ?_
  rintro k ⟨hk,hok⟩
  (with_reducible ((conv=>whnf);(conv=>congr<;>reduce);repeat((first|refine hK ?_|refine sK ?_);(conv=>whnf);(conv=>congr<;>reduce))))
  refine aQ.mk (fun g1=>?_) (fun g1=>?_)<;>(try simp only[aq] at g1)<;>(with_reducible ((conv=>whnf);(conv=>congr<;>reduce);repeat((first|refine hK ?_|refine sK ?_);(conv=>whnf);(conv=>congr<;>reduce))))
  ·have hk':k<l.length:=by simp only[aL] at g1;omega
   obtain⟨x,hx⟩:∃x,l[k]? =some x:=⟨_,aP hk'⟩
   have h19':=h19 k x hx
   have good:gd l k x=true→∀j y,j<k+1→l[j]? =some y→gd l j y=true:=fun h j y hj hy=>by
    rcases Nat.lt_or_ge j k with h6|h6
    ·exact hok j y h6 hy
    ·have:j=k:=by omega
     subst this
     rw[hx] at hy;cases hy;exact h
   refine cL h19' Sc ?_;(with_reducible ((conv=>whnf);(conv=>congr<;>reduce);repeat((first|refine hK ?_|refine sK ?_);(conv=>whnf);(conv=>congr<;>reduce))))
   cases q:gd l k x with
   | false=>
     rw[sw hx q,Bool.false_and]
     repeat' (first
  |(first
  |((with_reducible show aQ _ _ _ _);first|refine aQ.ff ?_|refine aQ.tt ?_|refine aQ.no (by first|exact qA|((try simp only[aq]);first|(simp[q];done)|(simp[q];omega))) ?_|refine aQ.yes (by first|exact qA|((try simp only[aq]);first|(simp[q];done)|(simp[q];omega))) ?_)
  |((with_reducible show bW _ _ _ _);refine nK ?_)
  |((with_reducible show bL _ _ _ _);refine dK ?_))<;>(with_reducible ((conv=>whnf);(conv=>congr<;>reduce);repeat((first|refine hK ?_|refine sK ?_);(conv=>whnf);(conv=>congr<;>reduce))))
  | ((with_reducible show(_∧_)∧_∧_);refine⟨⟨rfl,rfl⟩,?_,?_⟩<;>with_reducible ((conv=>whnf)<;>repeat' (first|exact trivial|(refine And.intro ?_ ?_<;>(conv=>whnf))))))
   | true=>
     repeat' (first
  |(first
  |((with_reducible show aQ _ _ _ _);first|refine aQ.ff ?_|refine aQ.tt ?_|refine aQ.no (by first|exact qA|((try simp only[aq]);first|(simp[q];done)|(simp[q];omega))) ?_|refine aQ.yes (by first|exact qA|((try simp only[aq]);first|(simp[q];done)|(simp[q];omega))) ?_)
  |((with_reducible show bW _ _ _ _);refine nK ?_)
  |((with_reducible show bL _ _ _ _);refine dK ?_)
  |((with_reducible show ay _ _);refine ay.mk (k+1) ⟨by omega,good q⟩ (by omega) ⟨⟨rfl,rfl⟩,⟨⟨rfl,rfl⟩,by show((k+1:Nat):Int)=(k:Int)+1;omega,trivial⟩,⟨⟨rfl,rfl,trivial⟩,trivial⟩,trivial⟩))<;>(with_reducible ((conv=>whnf);(conv=>congr<;>reduce);repeat((first|refine hK ?_|refine sK ?_);(conv=>whnf);(conv=>congr<;>reduce))))
  |((with_reducible show(_∧_)∧_∧_);refine⟨⟨rfl,rfl⟩,?_,?_⟩<;>with_reducible ((conv=>whnf)<;>repeat' (first|exact trivial|(refine And.intro ?_ ?_<;>(conv=>whnf))))))
  ·have hkl:k=l.length:=by simp only[bh] at g1;omega
   have hall:∀ (j:Nat) (x:az),l[j]? =some x→gd l j x=true:=fun j x hx=>hok j x (by have:=(aZ hx).1;omega) hx
   rw[qa hall,Bool.true_and]
   have hup:∀n,ai l n=true→iL (nd l n)=-1∨ai l (iL (nd l n))=true:=uV (Jr fun n hn=>by
    obtain⟨k,x,rfl,hk,hx⟩:=aX.1 hn
    rw[hx];exact hall k x hk)
   refine aR.use G aa (fun(k:Nat)=>[(1,.ptr 10 0 0),(4,aj k)]) (fun _=>[(10,.live 2 [bD ⟨l,m⟩] false)])
    (fun k=>k≤l.length∧∀ (j:Nat) (x:az),j<k→l[j]? =some x→eF l (l.length+1) j=true) (fun k=>l.length-k) 0 ⟨Nat.zero_le _,fun j x h=>by omega⟩
    ⟨⟨rfl,rfl⟩,⟨⟨rfl,rfl⟩,rfl,trivial⟩,⟨⟨rfl,rfl,trivial⟩,trivial⟩,trivial⟩ ?_
   rintro i ⟨hi,hends⟩
   (with_reducible ((conv=>whnf);(conv=>congr<;>reduce);repeat((first|refine hK ?_|refine sK ?_);(conv=>whnf);(conv=>congr<;>reduce))))
   refine aQ.mk (fun g2=>?_) (fun g2=>?_)<;>(try simp only[aq] at g2)<;>(with_reducible ((conv=>whnf);(conv=>congr<;>reduce);repeat((first|refine hK ?_|refine sK ?_);(conv=>whnf);(conv=>congr<;>reduce))))
   ·have hi':i<l.length:=by simp only[aL] at g2;omega
    obtain⟨x,hx⟩:∃x,l[i]? =some x:=⟨_,aP hi'⟩
    refine aR.use G aa (fun(p:Nat×Int)=>[(1,.ptr 10 0 0),(4,aj i),(5,aj p.2),(6,aj p.1)]) (fun _=>[(10,.live 2 [bD ⟨l,m⟩] false)])
     (fun p=>p.1≤l.length+1∧(p.2=-1∨ai l p.2=true)∧eF l (l.length+1) i=if p.2=-1 then true else eF l (l.length+1-p.1) p.2) (fun p=>l.length+1-p.1) (0,(i:Int)) ⟨Nat.zero_le _,.inr (cw hx),by rw[if_neg (by omega)];rfl⟩
     ⟨⟨rfl,rfl⟩,⟨⟨rfl,rfl⟩,rfl,rfl,rfl,trivial⟩,⟨⟨rfl,rfl,trivial⟩,trivial⟩,trivial⟩ ?_
    rintro⟨s,a⟩ ⟨hss,hat,hee⟩
    simp only at hss hat hee ⊢
    (with_reducible ((conv=>whnf);(conv=>congr<;>reduce);repeat((first|refine hK ?_|refine sK ?_);(conv=>whnf);(conv=>congr<;>reduce))))
    by_cases ea:a=-1
    ·rw[if_pos ea] at hee
     subst ea
     repeat' (first
  |(first
  |((with_reducible show aQ _ _ _ _);first|refine aQ.ff ?_|refine aQ.tt ?_|refine aQ.no (by first|exact qA|((try simp only[aq]);first|(simp[];done)|(simp[];omega))) ?_|refine aQ.yes (by first|exact qA|((try simp only[aq]);first|(simp[];done)|(simp[];omega))) ?_)
  |((with_reducible show bW _ _ _ _);refine nK ?_)
  |((with_reducible show bL _ _ _ _);refine dK ?_)
  |((with_reducible show ay _ _);refine ay.mk (i+1) ⟨by omega,fun j x hj hx=>?_⟩ (by omega) ⟨⟨rfl,rfl⟩,⟨⟨rfl,rfl⟩,by show((i+1:Nat):Int)=(i:Int)+1;omega,trivial⟩,⟨⟨rfl,rfl,trivial⟩,trivial⟩,trivial⟩))<;>(with_reducible ((conv=>whnf);(conv=>congr<;>reduce);repeat((first|refine hK ?_|refine sK ?_);(conv=>whnf);(conv=>congr<;>reduce))))
  | ((with_reducible show(_∧_)∧_∧_);refine⟨⟨rfl,rfl⟩,?_,?_⟩<;>with_reducible ((conv=>whnf)<;>repeat' (first|exact trivial|(refine And.intro ?_ ?_<;>(conv=>whnf))))))
     rcases Nat.lt_or_ge j i with h6|h6
     ·exact hends j x h6 hx
     ·have:j=i:=by omega
      rw[this];exact hee
    ·rw[if_neg ea] at hee
     have hth:=hat.resolve_left ea
     by_cases es:s=l.length+1
     ·have e0:eF l (l.length+1-s) a=false:=by rw[es,Nat.sub_self];rfl
      rw[e0] at hee
      rw[sw hx hee]
      repeat' (first
  |(first
  |((with_reducible show aQ _ _ _ _);first|refine aQ.ff ?_|refine aQ.tt ?_|refine aQ.no (by first|exact qA|((try simp only[aq]);first|(simp[eq_false ea];done)|(simp[eq_false ea];omega))) ?_|refine aQ.yes (by first|exact qA|((try simp only[aq]);first|(simp[eq_false ea];done)|(simp[eq_false ea];omega))) ?_)
  |((with_reducible show bW _ _ _ _);refine nK ?_)
  |((with_reducible show bL _ _ _ _);refine dK ?_))<;>(with_reducible ((conv=>whnf);(conv=>congr<;>reduce);repeat((first|refine hK ?_|refine sK ?_);(conv=>whnf);(conv=>congr<;>reduce))))
  | ((with_reducible show(_∧_)∧_∧_);refine⟨⟨rfl,rfl⟩,?_,?_⟩<;>with_reducible ((conv=>whnf)<;>repeat' (first|exact trivial|(refine And.intro ?_ ?_<;>(conv=>whnf))))))
     ·obtain⟨t,ht⟩:∃t,l.length+1-s=t+1:=⟨l.length-s,by omega⟩
      rw[ht] at hee
      replace hee:=hee.trans (vM l t a)
      have hua:=hup a hth
      obtain⟨k',y,e,hy,hny⟩:=aX.1 hth
      rw[hny] at hee hua
      obtain⟨b1,b2,b3,b4,b5,b6,b7,b8,b9,b10⟩:=y
      have hlt:¬ (l.length:Int)<s:=by omega
      by_cases ep:b6=-1
      ·have hu:iL ⟨b1,b2,b3,b4,b5,b6,b7,b8,b9,b10⟩=b8:=by unfold iL;rw[if_pos ep]
       rw[hu] at hee hua
       repeat' (first
  |(first
  |((with_reducible show aQ _ _ _ _);first|refine aQ.ff ?_|refine aQ.tt ?_|refine aQ.no (by first|exact qA|((try simp only[aq]);first|(simp[hlm,eq_false ea,eq_false hlt,ep];done)|(simp[hlm,eq_false ea,eq_false hlt,ep];omega))) ?_|refine aQ.yes (by first|exact qA|((try simp only[aq]);first|(simp[hlm,eq_false ea,eq_false hlt,ep];done)|(simp[hlm,eq_false ea,eq_false hlt,ep];omega))) ?_)
  |((with_reducible show bW _ _ _ _);refine nK ?_)
  |((with_reducible show bL _ _ _ _);refine dK ?_)
  |(refine ak.mk k' (aO ⟨b1,b2,b3,b4,b5,b6,b7,b8,b9,b10⟩) e (au hy) ?_)
  |((with_reducible show ay _ _);refine ay.mk (s+1,b8) ⟨by show s+1≤_;omega,hua,by rw[show l.length+1- (s+1)=t by omega];exact hee⟩ (by show l.length+1- (s+1)<l.length+1-s;omega) ⟨⟨rfl,rfl⟩,⟨⟨rfl,rfl⟩,rfl,rfl,by show((s+1:Nat):Int)=(s:Int)+1;omega,trivial⟩,⟨⟨rfl,rfl,trivial⟩,trivial⟩,trivial⟩))<;>(with_reducible ((conv=>whnf);(conv=>congr<;>reduce);repeat((first|refine hK ?_|refine sK ?_);(conv=>whnf);(conv=>congr<;>reduce))))
  | ((with_reducible show(_∧_)∧_∧_);refine⟨⟨rfl,rfl⟩,?_,?_⟩<;>with_reducible ((conv=>whnf)<;>repeat' (first|exact trivial|(refine And.intro ?_ ?_<;>(conv=>whnf))))))
      ·have hu:iL ⟨b1,b2,b3,b4,b5,b6,b7,b8,b9,b10⟩=b6:=by unfold iL;rw[if_neg ep]
       rw[hu] at hee hua
       repeat' (first
  |(first
  |((with_reducible show aQ _ _ _ _);first|refine aQ.ff ?_|refine aQ.tt ?_|refine aQ.no (by first|exact qA|((try simp only[aq]);first|(simp[hlm,eq_false ea,eq_false hlt,eq_false ep];done)|(simp[hlm,eq_false ea,eq_false hlt,eq_false ep];omega))) ?_|refine aQ.yes (by first|exact qA|((try simp only[aq]);first|(simp[hlm,eq_false ea,eq_false hlt,eq_false ep];done)|(simp[hlm,eq_false ea,eq_false hlt,eq_false ep];omega))) ?_)
  |((with_reducible show bW _ _ _ _);refine nK ?_)
  |((with_reducible show bL _ _ _ _);refine dK ?_)
  |(refine ak.mk k' (aO ⟨b1,b2,b3,b4,b5,b6,b7,b8,b9,b10⟩) e (au hy) ?_)
  |((with_reducible show ay _ _);refine ay.mk (s+1,b6) ⟨by show s+1≤_;omega,hua,by rw[show l.length+1- (s+1)=t by omega];exact hee⟩ (by show l.length+1- (s+1)<l.length+1-s;omega) ⟨⟨rfl,rfl⟩,⟨⟨rfl,rfl⟩,rfl,rfl,by show((s+1:Nat):Int)=(s:Int)+1;omega,trivial⟩,⟨⟨rfl,rfl,trivial⟩,trivial⟩,trivial⟩))<;>(with_reducible ((conv=>whnf);(conv=>congr<;>reduce);repeat((first|refine hK ?_|refine sK ?_);(conv=>whnf);(conv=>congr<;>reduce))))
  | ((with_reducible show(_∧_)∧_∧_);refine⟨⟨rfl,rfl⟩,?_,?_⟩<;>with_reducible ((conv=>whnf)<;>repeat' (first|exact trivial|(refine And.intro ?_ ?_<;>(conv=>whnf))))))
   ·have hil:i=l.length:=by simp only[bh] at g2;omega
    rw[qa fun j x hx=>hends j x (by have:=(aZ hx).1;omega) hx]
    refine⟨⟨rfl,rfl⟩,?_,?_⟩<;>with_reducible ((conv=>whnf)<;>repeat' (first|exact trivial|(refine And.intro ?_ ?_<;>(conv=>whnf))))
theorem Ei (g:Nat)(cg:ae Tryz.prog g)(caps:List AV)(hcaps:aU caps=true)(p:Int→Bool)(l:List Int)(hl:l.length≤100000)(hf:∀a,a∈l→af Tryz.prog g [] (aj a::caps) [] (aA (p a))):
  af Tryz.prog 268 [] [bQ l,.clo (.func g) [] caps] [] (aj (fe p l)):=by
 have hlm:(l.map bB).length=l.length:=aM ..
 refine af.ah (rvs:=[.tmp 4]) G aa Tryz.func268 rfl Tryz.ntmps268 rfl rfl ?_;with_reducible refine wD ?_
 refine aR.use G aa (fun(k:Nat)=>[(0,bQ l),(1,.clo (.func g) [] caps),(7,aj l.length),(8,aj k)]) (fun _=>[]) (fun k=>k≤l.length∧∀j x,j<k→l[j]? =some x→p x=false) (fun k=>l.length-k) 0 ⟨Nat.zero_le _,fun j x h=>by omega⟩
  ⟨⟨rfl,rfl⟩,⟨rfl,⟨rfl,trivial,aJ hcaps⟩,by show(l.length:Int)=((l.map bB).length:Int);rw[hlm],rfl,trivial⟩,trivial⟩ ?_
 rintro k ⟨hk,hno⟩
 with_reducible refine wK ?_
 refine aQ.mk (fun h1=>?_) (fun h1=>?_)<;>(try simp only[aq] at h1)<;>with_reducible refine wK ?_
 ·simp only[aL] at h1
  have hk':k<l.length:=by omega
  obtain⟨a,ha⟩:∃a,l[k]? =some a:=⟨_,aP hk'⟩
  refine ak.mk k (aj a) rfl (dG ha) ?_;with_reducible refine wK ?_
  refine aD.lit [] (hf a (bn ha)) cg ⟨rfl,aJ hcaps⟩ rfl rfl ?_;with_reducible refine wK ?_
  refine aQ.mk (fun h2=>?_) (fun h2=>?_)<;>(try simp only[aq] at h2)<;>with_reducible refine wK ?_
  ·(refine eK ?_ ?_<;>with_reducible repeat' (first|exact trivial|(show _∧_;refine aK ?_ ?_)))
   exact dL ha h2 hno
  ·refine nK ?_;with_reducible refine wK ?_
   refine ay.mk (k+1) ⟨by omega,fun j x hj hx=>?_⟩ (by omega) ⟨⟨rfl,rfl⟩,⟨rfl,⟨rfl,trivial,aJ hcaps⟩,rfl,by show((k+1:Nat):Int)=(k:Int)+1;omega,trivial⟩,trivial⟩
   rcases Nat.lt_or_ge j k with h6|h6
   ·exact hno j x h6 hx
   ·have:j=k:=by omega
    subst this
    rw[ha] at hx;cases hx;exact h2
 ·(refine eK ?_ ?_<;>with_reducible repeat' (first|exact trivial|(show _∧_;refine aK ?_ ?_)))
  have:k=l.length:=by simp only[bh] at h1;omega
  exact dm fun j x hx=>hno j x (by have:=(aZ hx).1;omega) hx
theorem KZ (f:ForM)(c:Int)(hc:ai f.nodes c=true):af Tryz.prog 269 [] [aj c,.fptr (bD f) 0] [] (aA (qo f.nodes c)):=by
 obtain⟨k,x,rfl,hx,hnd⟩:=aX.1 hc
 obtain⟨l,m⟩:=f
 unfold qo
 simp only at hx hnd ⊢
 rw[hnd]
 obtain⟨a1,a2,a3,a4,a5,a6,a7,a8,a9,a10⟩:=x
 refine af.ah (rvs:=[.tmp 3]) G aa Tryz.func269 rfl Tryz.ntmps269 rfl rfl ?_;with_reducible refine wD ?_
 refine ak.mk k (aO _) rfl (au hx) ?_;with_reducible refine wK ?_
 by_cases e1:a1=1
 ·(have fct:=e1;(repeat' (first
  |refine gF ?_|refine aE ?_ ?_
  |((refine ak.mk k (aO _) rfl (au hx) ?_)<;>with_reducible refine wK ?_)
  |apply trivial));all_goals clear fct)
  all_goals simp[e1]
 ·(have fct:=(eq_false e1);(repeat' (first
  |refine gF ?_|refine aE ?_ ?_
  |apply trivial));all_goals clear fct)
  all_goals simp[e1]
theorem Mo (f:ForM)(hs:bR f.nodes)(k:Nat)(x:az)(hx:f.nodes[k]? =some x)(hkids:∀c∈x.kids,ai f.nodes c=true):af Tryz.prog 254 [] [bD f,aj k] [] (aj (n9 f.nodes k)):=by
 have h7:=hs.kids x (bn hx)
 have h35:=fun c hc=>KZ f c (hkids c hc)
 obtain⟨l,m⟩:=f
 unfold n9 tW
 simp only at hx h7 hkids h35 ⊢
 rw[dw hx]
 obtain⟨a1,a2,a3,a4,a5,a6,a7,a8,a9,a10⟩:=x
 simp only at h7 hkids h35 ⊢
 refine af.ah (rvs:=[.tmp 4]) G aa Tryz.func254 rfl Tryz.ntmps254 rfl rfl ?_;with_reducible refine wD ?_
 refine ak.mk k (aO _) rfl (au hx) ?_;with_reducible refine wK ?_
 refine aD.lit [20] (Ei 269 Sk [.fptr (bD ⟨l,m⟩) 0] rfl (qo l) a7 (by omega) h35) PZ ⟨rfl,⟨rfl,trivial,⟨_,_,_,_,_,rfl,rfl,rfl,rfl,rfl,⟨rfl,rfl,trivial⟩⟩,trivial⟩,trivial⟩ rfl rfl ?_;with_reducible refine wK ?_
 rcases mU (qo l) a7 with h|⟨i,c,h,hi,_⟩
 ·rw[h]
  (have fct:=h;(repeat' (first
  |refine gF ?_|refine aE ?_ ?_
  |apply trivial));all_goals clear fct)
  all_goals simp
 ·rw[h]
  (have fct:=h;(repeat' (first
  |refine gF ?_|refine aE ?_ ?_
  |((refine ak.mk i (aj c) rfl (dG hi) ?_)<;>with_reducible refine wK ?_)
  |apply trivial));all_goals clear fct)
  all_goals simp[hi]
theorem Mf (x:az)(hx:x.attrs.length≤100000):af Tryz.prog 253 [] [aO x] [] (aA (nZ x)):=by
 have h14:=zX x.attrs hx DT
 unfold nZ
 obtain⟨a1,a2,a3,a4,a5,a6,a7,a8,a9,a10⟩:=x
 simp only at h14 hx ⊢
 refine af.ah (rvs:=[.tmp 2]) G aa Tryz.func253 rfl Tryz.ntmps253 rfl rfl ?_;with_reducible refine wD ?_
 refine cL h14 Js ?_;with_reducible refine wK ?_
 by_cases e1:a1=1
 ·(have fct:=e1;(repeat' (first
  |refine gF ?_|refine aE ?_ ?_
  |apply trivial));all_goals clear fct)
  all_goals simp[e1]
 ·(have fct:=(eq_false e1);(repeat' (first
  |refine gF ?_|refine aE ?_ ?_
  |apply trivial));all_goals clear fct)
  all_goals simp[e1]
theorem Mz (f:ForM)(n:Int):af Tryz.prog 277 [] [aj n,.fptr (bD f) 0] [] (aA (!ai f.nodes n)):=by
 have h49:=uX f n
 obtain⟨l,m⟩:=f
 simp only at h49 ⊢
 refine af.ah (rvs:=[.tmp 3]) G aa Tryz.func277 rfl Tryz.ntmps277 rfl rfl ?_;with_reducible refine wD ?_
 refine cL h49 zI ?_;with_reducible refine wK ?_
 (refine eK ?_ ?_<;>with_reducible repeat' (first|exact trivial|(show _∧_;refine aK ?_ ?_)))
 all_goals rfl
theorem E8 (g:Nat)(cg:ae Tryz.prog g)(caps:List AV)(hcaps:aU caps=true)(p:Int→Bool)(l:List Int)(hl:l.length≤100000)(hf:∀a,a∈l→af Tryz.prog g [] (aj a::caps) [] (aA (p a))):
  af Tryz.prog 260 [] [bQ l,.clo (.func g) [] caps] [] (aA (decide (0≤fe p l))):=by
 have h34:=Ei g cg caps hcaps p l hl hf
 refine af.ah (rvs:=[.tmp 4]) G aa Tryz.func260 rfl Tryz.ntmps260 rfl rfl ?_;with_reducible refine wD ?_
 refine aD.lit [] h34 PZ ⟨rfl,⟨rfl,trivial,aJ hcaps⟩,trivial⟩ rfl rfl ?_;with_reducible refine wK ?_
 (refine eK ?_ ?_<;>with_reducible repeat' (first|exact trivial|(show _∧_;refine aK ?_ ?_)))
 all_goals rfl
theorem AH (f:ForM)(hs:bR f.nodes)(l:List Int)(hl:l.length≤100000):af Tryz.prog 266 [] [bD f,bQ l] [] (aA (bf f&& !decide (0≤fe (fun n=> !ai f.nodes n) l))):=by
 have h23:=Ah f hs
 have h47:=E8 277 Rn [.fptr (bD f) 0] rfl (fun n=> !ai f.nodes n) l hl (fun a _=>Mz f a)
 obtain⟨ns,m⟩:=f
 simp only at h23 h47 ⊢
 refine af.ah (rvs:=[.tmp 4]) G aa Tryz.func266 rfl Tryz.ntmps266 rfl rfl ?_;with_reducible refine wD ?_
 refine cL h23 Gj ?_;with_reducible refine wK ?_
 cases hr:bf ⟨ns,m⟩ with
 | false=>
   (have fct:=hr;(repeat' (first
  |refine gF ?_|refine aE ?_ ?_
  | apply trivial));all_goals clear fct)
   all_goals rfl
 | true=>
   refine aQ.tt ?_;with_reducible refine wK ?_
   refine aD.lit [50] h47 Px ⟨rfl,⟨rfl,trivial,⟨_,_,_,_,_,rfl,rfl,rfl,rfl,rfl,⟨rfl,rfl,trivial⟩⟩,trivial⟩,trivial⟩ rfl rfl ?_;with_reducible refine wK ?_
   (refine eK ?_ ?_<;>with_reducible repeat' (first|exact trivial|(show _∧_;refine aK ?_ ?_)))
   all_goals rfl
end Go.Proofs.Heir
namespace Go.Proofs.Heir
open Go Go.Am Go.RowKit Go.Shelf
set_option maxRecDepth 100000
set_option maxHeartbeats 8000000
theorem Ir {Wn:Nat→Prop}{μ:Mu}{W:World}{l:List Int}{b o:Nat}(h:cH Wn μ W (.fptr (.sl 1 (l.map bB)) 0) (.pointer (some ⟨b,o,none⟩))):
  ∃ad cap,W.cell? ⟨b,o,none⟩=some (.slice ad l.length cap)∧l.length≤cap∧∀ (j:Nat) (x:Int),l[j]? =some x→∃b2 o2,ad=some ⟨b2,o2,none⟩∧W.cell? ⟨b2,o2+j,none⟩=some (.int .i64 x):=by
 generalize hv:Value.pointer (some ⟨b,o,none⟩)=v at h
 cases h with
 | @fptr _ _ b' o' f h1 h2 h3 h4 h5=>
   cases hv
   have k3:=h3 0 _ rfl
   have k4:=h4 0 _ rfl
   rw[Nat.add_zero] at k3
   rw[Nat.add_zero,k3]
   generalize f 0=s at k4
   cases hl:l with
   | nil=>
     subst hl
     cases k4 with
     |slNil=>exact⟨_,_,rfl,Nat.zero_le _,fun j x h=>by simp at h⟩
     |sl a1 a2 a3 a4 a5 a6 a7 a8=>subst a3;exact⟨_,_,rfl,Nat.zero_le _,fun j x h=>by simp at h⟩
   | cons y r=>
     rw[←hl]
     generalize hrows:l.map bB=rows at k4
     have hne:rows≠ []:=by rw[←hrows,hl];simp
     cases k4 with
     |slNil=>exact absurd rfl hne
     | sl a1 a2 a3 a4 a5 a6 a7 a8=>
       subst a3
       have hlen:rows.length=l.length:=by rw[←hrows];simp
       refine⟨_,_,by rw[hlen],by rw[←hlen];exact a4,fun j x hx=>⟨_,_,rfl,?_⟩⟩
       have hr:rows[j]? =some (bB x):=by rw[←hrows,dM,hx];rfl
       have hq:=dV (wd:=1) (fun i r hr=>a5 i r hr) hr (show(cells (bB x))[0]? =some (bB x) from rfl)
       rw[Nat.mul_one,Nat.add_zero] at hq
       have c1:=a6 j _ hq
       have c2:=a7 j _ hq
       have one:∀v,cH Wn μ W (bB x) v→v=.int .i64 x:=by intro v hv;unfold bB at hv;cases hv;rfl
       rw[c1,one _ c2]
theorem KP (l:List Int)(hl:l.length≤100000):L1 Tryz.prog 283 [.fptr (.sl 1 (l.map bB)) 0] l.length (fun k=>[bB ((l.length:Int)-1-k),bB ((l.reverse[k]?).getD 0)]):=by
 intro vals y J Jx hJ hJm hJxm _ hY Wn w h0
 obtain⟨⟨μ,hr⟩,_⟩:=hJ 0 Wn w h0
 obtain⟨vb,us,rfl,hvb,hus⟩:=cz.tj hr
 obtain rfl:=cz.Ie hus
 obtain⟨b,o,rfl⟩:∃b o,vb=.pointer (some ⟨b,o,none⟩):=by cases hvb;exact⟨_,_,rfl⟩
 have box:∀k Wn W,J k Wn W→∃ad cap,W.cell? ⟨b,o,none⟩=some (.slice ad l.length cap)∧l.length≤cap∧∀ (j:Nat) (x:Int),l[j]? =some x→∃b2 o2,ad=some ⟨b2,o2,none⟩∧W.cell? ⟨b2,o2+j,none⟩=some (.int .i64 x):=by
  intro k Wn W hJk
  obtain⟨⟨μ,hr⟩,_⟩:=hJ k Wn W hJk
  obtain⟨v1,us,e,hv1,_⟩:=cz.tj hr
  cases e
  exact Ir hv1
 refine(callsIn_wide (n:=1)).1 ?_
 refine callsIn_of_wp Tryz.func283 rfl trivial ?_ rfl
 simp only[Tryz.ntmps283,List.size_toArray,List.length_cons,List.length_nil,Nat.reduceAdd,Nat.reduceSub,Array.replicate_succ,Array.replicate_zero,List.push_toArray,List.append_toArray,List.nil_append,List.cons_append]
 obtain⟨ad,cap,hbx,hcap,hel⟩:=box 0 Wn w h0
 gi_wp2
 gi_loopw [3] (fun i wr=> ∃k:Nat,k≤l.length∧i=.int .i64 ((l.length:Int)-1-k)∧∃Wn,J k Wn wr) (fun i _=>(intOf i+1).toNat)
 case atStart=>exact⟨0,Nat.zero_le _,by simp,Wn,h0⟩
 case round=>
  obtain⟨k,hk,rfl,Wn',hJk⟩:=hrel
  obtain⟨ad',cap',hbx',hcap',hel'⟩:=box k Wn' wr hJk
  by_cases hlt:k<l.length
  ·have hix:l.length-1-k<l.length:=by omega
   obtain⟨b2,o2,rfl,hcx⟩:=hel' (l.length-1-k) l[l.length-1-k] (aP hix)
   have hrev:(l.reverse[k]?).getD 0=l[l.length-1-k]:=by
    rw[aP (by simpa using hlt)];simp
   obtain⟨fn,tmps,assign,body,hy,hR⟩:=hY k Wn' wr [.int .i64 ((l.length:Int)-1-k),.int .i64 (l[l.length-1-k])] hlt hJk (fun _ _ _=>by rw[hrev];exact .cons .lit (.cons .lit .nil))
   have hz:((l.length:Int)-1-k).toNat=l.length-1-k:=by omega
   gi_wp2
   refine hR.mono ?_
   rintro e W3 (⟨rfl,Wn3,hJ3,_⟩|⟨rfl,hJx3⟩)
   ·gi_wp2
    go_roundw
    case rel=>exact⟨k+1,by omega,by congr 1;omega,Wn3,hJ3⟩
    case measure=>simp[intOf];omega
   ·gi_wp2
    refine bodyPost_ret (results_none rfl _ _ _) rfl ?_
    exact⟨⟨_,rfl⟩,.inr hJx3⟩
  ·obtain rfl:k=l.length:=by omega
   gi_wp2
   go_end0
   exact⟨⟨_,rfl⟩,.inl ⟨_,hJk⟩⟩
end Go.Proofs.Heir
namespace Go.Proofs.Heir
open Go Go.Am Go.RowKit Go.Lib
set_option maxRecDepth 100000
set_option maxHeartbeats 8000000
theorem Ky (f:ForM)(n:Int):af Tryz.prog 259 [] [aj n,.fptr (bD f) 0] [] (aA (!ai f.nodes n)):=by
 obtain⟨l,m⟩:=f
 have hlm:(l.map bP).length=l.length:=aM ..
 refine af.ah (rvs:=[.tmp 3]) G aa Tryz.func259 rfl Tryz.ntmps259 rfl rfl ?_;with_reducible refine wD ?_
 repeat' (first
  |refine pK ?_|refine aE ?_ ?_
  | ((first
   |((with_reducible show aQ _ _ _ _);(refine aQ.mk (fun hp=>?_) (fun hp=>?_)<;>(try simp only[aq,aL,bh,Bool.not_eq_true',Bool.not_eq_false',Decidable.not_not,Int.not_lt,Int.not_le] at hp))))<;>with_reducible refine wK ?_)
  |apply trivial)
 ·unfold ai;rw[aS (show ¬0≤n by omega)];rfl
 ·unfold ai;rw[aV hp,hlm,Bool.true_and,←decide_not]
  exact decide_eq_decide.2 Int.not_lt
theorem Kb (f:ForM)(hs:bR f.nodes)(l:List Int)(hl:l.length≤100000):af Tryz.prog 235 [] [bD f,bQ l] [] (aA (bf f&& !decide (0≤fe (fun n=> !ai f.nodes n) l))):=by
 have h48:=kf f hs
 have h106:=E8 259 SB [.fptr (bD f) 0] rfl (fun n=> !ai f.nodes n) l hl (fun a _=>Ky f a)
 obtain⟨ns,m⟩:=f
 simp only at h48 h106 ⊢
 refine af.ah (rvs:=[.tmp 4]) G aa Tryz.func235 rfl Tryz.ntmps235 rfl rfl ?_;with_reducible refine wD ?_
 refine cL h48 mQ ?_;with_reducible refine wK ?_
 cases h0:bf ⟨ns,m⟩ with
 | false=>
   repeat' (first
  |refine gK ?_|refine aE ?_ ?_
  | apply trivial)
   all_goals rfl
 | true=>
   repeat' (first
  |refine gK ?_|refine aE ?_ ?_
  | apply trivial)
   refine aD.lit [20] h106 Px ⟨rfl,⟨rfl,trivial,⟨_,_,_,_,_,rfl,rfl,rfl,rfl,rfl,⟨rfl,rfl,trivial⟩⟩,trivial⟩,trivial⟩ rfl rfl ?_;with_reducible refine wK ?_
   repeat' (first
  |refine gK ?_|refine aE ?_ ?_
  | apply trivial)
   all_goals rfl
theorem LW (l:List Int):af Tryz.prog 276 [] [bQ l] [] (.clo (.func 283) [] [.fptr (bQ l) 0]):=by
 refine af.ah (rvs:=[.tmp 2]) G aa Tryz.func276 rfl Tryz.ntmps276 rfl rfl ?_;with_reducible refine wD ?_
 refine⟨⟨rfl,rfl⟩,⟨rfl,trivial,⟨_,_,_,_,_,rfl,rfl,rfl,rfl,rfl,rfl⟩,trivial⟩,?_⟩
 exact trivial

end Go.Proofs.Heir
namespace Go.Proofs.Heir
open Go Go.Am Go.RowKit Go.Shelf
set_option maxRecDepth 100000
set_option maxHeartbeats 8000000

theorem af.at {P:Program}{f:FuncId}{args:List AV}{vs:List Value}{res:AV}{w:World}{Wn:Nat→Prop}{μ:Mu}(h:af P f [] args [] res)(ha:aU args=true)(hr:bt res=true)(hv:cz Wn μ w args vs)(hlt:∀b,Wn b→b<w.heap.size)(ht:k8 P w fun _=>none):
  Calls P f vs.toArray w fun e w'=> ∃v μ',e=.returned v∧lT w w'∧cH Wn μ' w' res v:=by
 have hW:∀b,Wr Wn (fun _=>none) (aW []) b→Wn b:=by
  rintro b (h|⟨t,B,wd,rows,_,h,_⟩)
  ·exact h
  ·cases h
 have hs:cB P 0 w Wn (fun _=>none) (fun _=>none) (bare []) mh w:=by
  refine⟨rfl,.nil,rfl,rfl,rfl,Nat.le_refl _,fun _ _ _ h=>h,fun _ _ _=>rfl,hlt,fun _ _ _ h=>h,fun t=>by simp[bare,aW],fun _=>.any,fun t wd rows ro h=>?_,fun t t' wd rows wd' rows' ro' B B' _ h=>?_,fun t wd rows ro B h=>?_,ht⟩<;>simp[bare,aW] at h
 refine(h w Wn (fun _=>none) vs (fun _ _=>rfl) hs ?_).mono ?_
 ·exact⟨hv.1,fun j c v hc hv'=>(hv.2 j c v hc hv').bt (fun b _ hb=>hW b hb) (bZ.1 ha c (bn hc))⟩
 rintro e w' ⟨v,μ',rfl,hs',hv'⟩
 refine⟨v,μ',rfl,⟨hs'.os,hs'.tape,hs'.output,hs'.hsize,fun b hb=>hs'.keep b hb ?_⟩,hv'.bt (fun b _ hb=>.inl hb) hr⟩
 rintro⟨t,B,h,_⟩
 cases h
theorem OI {Wn:Nat→Prop}{μ:Mu}{W:World}{wd:Nat}{rows:List AV}{v:Value}(h:cH Wn μ W (.sl wd rows) v):∃a n c,v=.slice a n c:=by
 cases h<;>exact⟨_,_,_,rfl⟩
end Go.Proofs.Heir
namespace Go.Proofs.Heir
open Go Go.Am Go.RowKit Go.Lib
set_option maxRecDepth 100000
set_option maxHeartbeats 8000000
structure bH where
 name:ByteArray
 locl:ByteArray
 cls:Int
 deriving DecidableEq
structure lC where
 name:ByteArray
 ticket:Int
 deriving DecidableEq
structure bj where
 defs:List bH
 waits:List lC
 next:Int
 busy:Bool
 deriving DecidableEq
def lz (s:ByteArray):Bool:=jU iY s
def zK (x:bH):Bool:=decide (x.locl=x.name)||lz x.locl
def iI (x:bH):Bool:=bM x.name&&zK x&&decide (0≤x.cls)&&decide (x.cls<12)
def CY (s:ByteArray)(x:bH):Bool:=decide (x.name=s)
def HX (c:Int)(x:bH):Bool:=decide (x.cls=c)
def zH {α:Type}(p:α→Bool)(l:List α):Int:=match l.findIdx? p with
 |some k=>(k:Int)
 |none=> -1
def oy (l:List bH)(s:ByteArray):Int:=zH (CY s) l
def C9 (l:List bH)(c:Int):Int:=zH (HX c) l
def okW (l:List bH)(next:Int)(w:lC)(last:Int):Bool:=bM w.name&&decide (oy l w.name=-1)&&decide (last<w.ticket)&&decide (w.ticket<next)
def gI (l:List bH)(next:Int):Int→List lC→Bool
 |_,[]=>true
 |last,w::r=>okW l next w last&&gI l next w.ticket r
def fV (l:List bH):Bool:=l.all iI&&decide ((l.map bH.name).Nodup)&&decide ((l.map bH.cls).Nodup)
def dU (d:bj):Bool:=fV d.defs&&gI d.defs d.next (-1) d.waits&&decide (0≤d.next)&&decide (d.next≤100000)
theorem jm {α:Type}(p:α→Bool)(l:List α):(zH p l=-1∧∀a∈l,p a=false)∨∃ (k:Nat) (a:α),zH p l=k∧l[k]? =some a∧p a=true∧∀ (j:Nat) (b:α),j<k→l[j]? =some b→p b=false:=by
 unfold zH
 cases h:l.findIdx? p with
 |none=>exact .inl ⟨rfl,by simpa using h⟩
 | some k=>
   rw[List.findIdx?_eq_some_iff_getElem] at h
   obtain⟨hk,h1,h2⟩:=h
   refine .inr ⟨k,l[k],rfl,aP hk,h1,fun j b hj hb=>?_⟩
   obtain⟨hjl,rfl⟩:=aZ hb
   simpa using h2 j hj
theorem IP {α:Type}{p:α→Bool}{l:List α}{k:Nat}{a:α}(ha:l[k]? =some a)(hp:p a=true)(hu:∀ (j:Nat) (b:α),l[j]? =some b→p b=true→j=k):zH p l=k:=by
 rcases jm p l with⟨_,h⟩|⟨j,b,h1,h2,h3,_⟩
 ·rw[h a (bn ha)] at hp;cases hp
 ·rw[h1,hu j b h2 h3]
theorem Jk {α:Type}{p:α→Bool}{l:List α}(h:∀a∈l,p a=false):zH p l=-1:=by
 rcases jm p l with⟨h1,_⟩|⟨j,b,_,h2,h3,_⟩
 ·exact h1
 ·rw[h b (bn h2)] at h3;cases h3
theorem M0 {α:Type}{p:α→Bool}{l:List α}(h:zH p l=-1):∀a∈l,p a=false:=by
 rcases jm p l with⟨_,h1⟩|⟨j,b,h1,_⟩
 ·exact h1
 ·omega
theorem sO {α β:Type}[DecidableEq β]{f:α→β}{l:List α}(h:(l.map f).Nodup){i j:Nat}{a b:α}(ha:l[i]? =some a)(hb:l[j]? =some b)(e:f a=f b):i=j:=by
 have h1:(l.map f)[i]? =some (f a):=by rw[dM,ha];rfl
 have h2:(l.map f)[j]? =some (f b):=by rw[dM,hb];rfl
 exact(List.getElem?_inj (aZ h1).1 h).1 (by rw[h1,h2,e])
theorem oM {α β:Type}{f:α→β}:∀ {l:List α},(∀ (i j:Nat) (a b:α),l[i]? =some a→l[j]? =some b→f a=f b→i=j)→(l.map f).Nodup
 |[],_=>List.nodup_nil
 | x ::r,h=>by
   rw[List.map_cons,List.nodup_cons]
   refine⟨fun hm=>?_,oM fun i j a b ha hb e=>?_⟩
   ·obtain⟨y,hy,he⟩:=List.mem_map.1 hm
    obtain⟨j,hj⟩:=List.getElem?_of_mem hy
    have:=h 0 (j+1) x y rfl (by simpa using hj) he.symm
    omega
   ·have:=h (i+1) (j+1) a b (by simpa using ha) (by simpa using hb) e
    omega
theorem KH {l:List bH}(h:(l.map bH.name).Nodup){k:Nat}{x:bH}(hx:l[k]? =some x):oy l x.name=k:=
 IP hx (by simp[CY]) fun j b hb hp=>sO h hb hx (by simpa[CY] using hp)
theorem JV {l:List bH}(h:(l.map bH.cls).Nodup){k:Nat}{x:bH}(hx:l[k]? =some x):C9 l x.cls=k:=
 IP hx (by simp[HX]) fun j b hb hp=>sO h hb hx (by simpa[HX] using hp)
theorem ku {l:List bH}:fV l=true↔ (∀x∈l,iI x=true)∧(l.map bH.name).Nodup∧(l.map bH.cls).Nodup:=by
 unfold fV;simp[List.all_eq_true,and_assoc]
theorem Aj (l:List bH)(next:Int){ws:List lC}{last:Int}{w:lC}(hw:w∈ws)(h:∀t,okW l next w t=false):gI l next last ws=false:=by
 induction ws generalizing last with
 |nil=>simp at hw
 | cons v r ih=>
   rw[gI]
   rcases fj.1 hw with rfl|hw
   ·rw[h];rfl
   ·rw[ih hw];simp
def j4 (a b:ByteArray)(x:bH):Bool:=decide (x.locl=a)&&decide (x.name=b)
def oT (l:List bH)(a b:ByteArray):Int:=if 0≤zH (j4 a a) l then zH (j4 a a) l else zH (j4 a b) l
def findD (d:bj)(a b:ByteArray):Int:=if dU d then oT d.defs a b else-1
theorem wh {d:bj}:dU d=true↔fV d.defs=true∧gI d.defs d.next (-1) d.waits=true∧0≤d.next∧d.next≤100000:=by
 unfold dU;simp[and_assoc]
def qn (a b:ByteArray)(x:bH):Bool:=decide (x.locl=a)&&(decide (x.name=a)||decide (x.name=b))
theorem lZ {a b:ByteArray}{x:bH}:qn a b x=true↔x.locl=a∧(x.name=a∨x.name=b):=by unfold qn;simp
theorem gD {x:bH}(h:iI x=true):bM x.name=true∧(x.locl=x.name∨lz x.locl=true)∧0≤x.cls∧x.cls<12:=by
 unfold iI zK at h;simp only[aT,dW,aL] at h
 exact⟨h.1.1.1,h.1.1.2,h.1.2,h.2⟩
theorem E6 {s:ByteArray}(h:bM s=true):lz s=false:=by
 cases hk:lz s with
 |false=>rfl
 |true=>rw[xz hk] at h;cases h
theorem IB {l:List bH}(h:fV l=true){i j:Nat}{x y:bH}{a b:ByteArray}(hx:l[i]? =some x)(hy:l[j]? =some y)(fx:qn a b x=true)(fy:qn a b y=true):i=j:=by
 obtain⟨h1,h2,h3⟩:=ku.1 h
 obtain⟨x1,x2,_⟩:=gD (h1 x (bn hx))
 obtain⟨y1,y2,_⟩:=gD (h1 y (bn hy))
 obtain⟨p1,p2⟩:=lZ.1 fx
 obtain⟨q1,q2⟩:=lZ.1 fy
 by_cases e:x.name=y.name
 ·exact sO h2 hx hy e
 ·exfalso
  have ka:lz a=true:=by
   rcases x2 with x2|x2
   ·rcases y2 with y2|y2
    ·exact absurd (by rw[←x2,←y2,p1,q1]) e
    ·rwa [q1] at y2
   ·rwa [p1] at x2
  rcases p2 with p2|p2
  ·rw[p2] at x1;rw[E6 x1] at ka;cases ka
  ·rcases q2 with q2|q2
   ·rw[q2] at y1;rw[E6 y1] at ka;cases ka
   ·exact e (by rw[p2,q2])
theorem o8 (l:List bH)(a b:ByteArray):(oT l a b=-1∧∀x∈l,qn a b x=false)∨∃ (k:Nat) (x:bH),oT l a b=k∧l[k]? =some x∧qn a b x=true:=by
 unfold oT
 rcases jm (j4 a a) l with⟨h1,h2⟩|⟨k,x,h1,h2,h3,_⟩
 ·rw[h1,if_neg (by omega)]
  rcases jm (j4 a b) l with⟨g1,g2⟩|⟨k,x,g1,g2,g3,_⟩
  ·refine .inl ⟨g1,fun x hx=>?_⟩
   have u1:=h2 x hx
   have u2:=g2 x hx
   unfold j4 at u1 u2
   unfold qn
   cases e:decide (x.locl=a) with
   |false=>rfl
   |true=>rw[e] at u1 u2;simp only[Bool.true_and] at u1 u2;rw[u1,u2];rfl
  ·refine .inr ⟨k,x,g1,g2,?_⟩
   unfold j4 at g3;unfold qn
   simp only[aT] at g3 ⊢
   exact⟨g3.1,by rw[g3.2];simp⟩
 ·rw[h1,if_pos (by omega)]
  refine .inr ⟨k,x,rfl,h2,?_⟩
  unfold j4 at h3;unfold qn
  simp only[aT] at h3 ⊢
  exact⟨h3.1,by rw[h3.2];rfl⟩
theorem AX {l:List bH}(h:fV l=true){k:Nat}{x:bH}{a b:ByteArray}(hx:l[k]? =some x)(hf:qn a b x=true):oT l a b=k:=by
 rcases o8 l a b with⟨_,h2⟩|⟨j,y,h1,h2,h3⟩
 ·rw[h2 x (bn hx)] at hf;cases hf
 ·rw[h1,IB h h2 hx h3 hf]
theorem Lv {l:List bH}{s:ByteArray}(h:oy l s=-1):∀x∈l,x.name≠s:=fun x hx=>by
 have:=M0 h x hx
 unfold CY at this
 exact of_decide_eq_false this
def xk (k:Nat):ByteArray:=⟨#[120,45,UInt8.ofNat (97+k)]⟩
structure EM (d:bj) (i:Nat):Prop where
 right:dU d=true
 busy:d.busy=false
 names:∀w∈d.waits,∃k<6,w.name=xk k
 next:d.next≤i
theorem EM.first:EM ⟨[],[],0,false⟩ 0:=⟨by decide,rfl,fun w h=>by simp at h,by decide⟩
section
variable {K : Type} [DecidableEq K] (key : bH → K)
def gr (i:Nat)(t:List (K×Int)):List bH→List (K×Int)
 |[]=>t
 |x::r=>gr (i+1) (eE (key x) (i:Int) t) r
def pW (l:List bH):List (K×Int):=gr key 0 [] l
theorem tU (x:bH):∀ (l:List bH) (i:Nat) (t:List (K×Int)),gr key i t (l++ [x])=eE (key x) ((i+l.length:Nat):Int) (gr key i t l)
 |[],i,t=>rfl
 | y::r,i,t=>by
   rw[List.cons_append,gr,tU x r,gr,List.length_cons]
   congr 2
   omega
theorem BQ {l:List bH}{k:Nat}{x:bH}(h:l[k]? =some x):pW key (l.take (k+1))=eE (key x) (k:Int) (pW key (l.take k)):=by
 have hk:=(aZ h).1
 rw[List.take_succ_eq_append_getElem hk,(aZ h).2]
 unfold pW
 rw[tU,jD]
 congr 2
 omega
theorem xP (k:K)(x:Int):∀t:List (K×Int),(eE k x t).length=if(dx k t).isSome then t.length else t.length+1
 |[]=>rfl
 | p::r=>by
   simp only[eE,dx]
   split
   ·simp
   ·rw[List.length_cons,xP k x r];split<;>simp
theorem rq:∀ (l:List bH) (i:Nat) (t:List (K×Int)),(gr key i t l).length≤t.length+l.length∧((gr key i t l).length=t.length+l.length↔ (l.map key).Nodup∧∀a∈l,(dx (key a) t).isSome=false)
 |[],i,t=>by simp[gr]
 | a :: r,i,t=>by
   obtain⟨h1,h2⟩:=rq r (i+1) (eE (key a) (i:Int) t)
   have hl:=xP (key a) (i:Int) t
   show(gr key (i+1) (eE (key a) (i:Int) t) r).length≤_∧((gr key (i+1) (eE (key a) (i:Int) t) r).length=_↔_)
   cases hg:(dx (key a) t).isSome with
   | true=>
     rw[hg,if_pos rfl] at hl
     refine⟨by simp only[List.length_cons];omega,⟨fun h=>?_,fun h=>?_⟩⟩
     ·simp only[List.length_cons] at h;omega
     ·have:=h.2 a (by simp);rw[hg] at this;cases this
   | false=>
     rw[hg,if_neg (by simp)] at hl
     refine⟨by simp only[List.length_cons];omega,?_⟩
     rw[show(gr key (i+1) (eE (key a) (i:Int) t) r).length=t.length+ (a::r).length↔ (gr key (i+1) (eE (key a) (i:Int) t) r).length=(eE (key a) (i:Int) t).length+r.length from by rw[hl,List.length_cons];omega,h2]
     simp only[List.map_cons,List.nodup_cons,fj,forall_eq_or_imp]
     constructor
     ·rintro⟨k1,k2⟩
      refine⟨⟨fun hm=>?_,k1⟩,hg,fun b hb=>?_⟩
      ·obtain⟨b,hb,he⟩:=List.mem_map.1 hm
       have:=k2 b hb
       rw[fI,he,if_pos rfl] at this;cases this
      ·have:=k2 b hb
       rw[fI] at this
       split at this
       ·cases this
       ·exact this
     ·rintro⟨⟨k1,k2⟩,_,k3⟩
      refine⟨k2,fun b hb=>?_⟩
      rw[fI,if_neg (fun e=>k1 (List.mem_map.2 ⟨b,hb,e.symm⟩))]
      exact k3 b hb
theorem EH (l:List bH):(pW key l).length=l.length↔ (l.map key).Nodup:=by
 have:=(rq key l 0 []).2
 simp only[List.length_nil,Nat.zero_add] at this
 exact this.trans ⟨fun h=>h.1,fun h=>⟨h,fun _ _=>rfl⟩⟩
theorem I2 (l:List bH):(pW key l).length≤l.length:=by
 have:=(rq key l 0 []).1
 simp only[List.length_nil,Nat.zero_add] at this
 exact this
theorem pq {s:K}:∀ (l:List bH) (i:Nat) (t:List (K×Int)),(∀a∈l,key a≠s)→dx s (gr key i t l)=dx s t
 |[],i,t,_=>rfl
 | a::r,i,t,h=>by
   rw[gr,pq r (i+1) _ fun b hb=>h b (j9 _ hb),fI,if_neg (h a (mq ..))]
theorem wo {s:K}:∀ (l:List bH) (i:Nat) (t:List (K×Int)) (j:Nat) (a:bH),(l.map key).Nodup→l[j]? =some a→key a=s→dx s (gr key i t l)=some ((i+j:Nat):Int)
 |[],i,t,j,a,_,h,_=>by simp at h
 | x::r,i,t,0,a,hn,h,he=>by
   simp at h;subst h
   simp only[List.map_cons,List.nodup_cons] at hn
   rw[gr,pq key r (i+1) _ fun b hb e=>hn.1 (List.mem_map.2 ⟨b,hb,e.trans he.symm⟩),fI,if_pos he]
   rfl
 | x::r,i,t,j+1,a,hn,h,he=>by
   simp only[List.map_cons,List.nodup_cons] at hn
   rw[gr,wo r (i+1) _ j a hn.2 (by simpa using h) he]
   congr 1;omega
theorem Hv {l:List bH}{s:K}(h:∀a∈l,key a≠s):dx s (pW key l)=none:=pq key l 0 [] h
theorem KN {l:List bH}{s:K}{j:Nat}{a:bH}(hn:(l.map key).Nodup)(h:l[j]? =some a)(he:key a=s):dx s (pW key l)=some (j:Int):=by
 have:=wo key l 0 [] j a hn h he
 simpa[pW] using this
end
def kN (x:bH):ByteArray:=x.name
def kC (x:bH):Int:=x.cls
theorem PM {l:List bH}(h:(l.map bH.name).Nodup)(s:ByteArray):(dx s (pW kN l)=none∧oy l s=-1)∨∃ (k:Nat) (x:bH),dx s (pW kN l)=some (k:Int)∧oy l s=k∧l[k]? =some x∧x.name=s:=by
 rcases jm (CY s) l with⟨h1,h2⟩|⟨k,x,h1,h2,h3,_⟩
 ·exact .inl ⟨Hv kN fun a ha=>of_decide_eq_false (h2 a ha),h1⟩
 ·have he:x.name=s:=of_decide_eq_true h3
  exact .inr ⟨k,x,KN kN h h2 he,h1,h2,he⟩
def jC (l:List bH):List bH:=l.take ((l.takeWhile iI).length+1)
theorem G0 {l:List bH}(h:∀x∈l,iI x=true):l.takeWhile iI=l:=by
 induction l with
 |nil=>rfl
 |cons x r ih=>rw[List.takeWhile_cons_of_pos (h x (mq ..)),ih fun y hy=>h y (j9 _ hy)]
theorem zh {l:List bH}(h:∀x∈l,iI x=true):jC l=l:=by
 unfold jC
 rw[G0 h,jH (by omega)]
theorem Ga {l:List bH}{k:Nat}{x:bH}(h:∀ (j:Nat) (y:bH),j<k→l[j]? =some y→iI y=true)(hx:l[k]? =some x)(hb:iI x=false):jC l=l.take (k+1):=by
 unfold jC
 have hk:=(aZ hx).1
 have e:l=l.take k++x::l.drop (k+1):=by
  rw[←(aZ hx).2,List.getElem_cons_drop,List.take_append_drop]
 have hg:∀y∈l.take k,iI y=true:=fun y hy=>by
  obtain⟨j,hj⟩:=List.getElem?_of_mem hy
  rw[List.getElem?_take] at hj
  split at hj
  ·rename_i hjk;exact h j y hjk hj
  ·cases hj
 have:(l.takeWhile iI).length=k:=by
  conv=>lhs;rw[e]
  rw[List.takeWhile_append_of_pos hg,List.takeWhile_cons_of_neg (by simp[hb])]
  simp;omega
 rw[this]
@[reducible] def iA (x : bH) : AV := .agg [bG x.name, bG x.locl, aj x.cls]
def j5 (x:bH):AV:=iA x
@[reducible] def o9 (l : List bH) : AV := .sl 3 (l.map j5)
@[reducible] def yI (w : lC) : AV := .agg [bG w.name, aj w.ticket]
def uq (w:lC):AV:=yI w
@[reducible] def pC (l : List lC) : AV := .sl 2 (l.map uq)
@[reducible] def cP (d : bj) : AV := .agg [o9 d.defs, pC d.waits, aj d.next, aA d.busy]
theorem cK {l:List bH}{k:Nat}{x:bH}(h:l[k]? =some x):(l.map j5)[k]? =some (iA x):=by rw[dM,h];rfl
theorem rH {l:List lC}{k:Nat}{x:lC}(h:l[k]? =some x):(l.map uq)[k]? =some (yI x):=by rw[dM,h];rfl
@[reducible] def rN (l : List bH) : MS := .live 2 (ee Value.string bB (pW kN l)) false
@[reducible] def rC (l : List bH) : MS := .live 2 (ee qc bB (pW kC l)) false
theorem aG {K:Type}(kv:K→Value)(t:List (K×Int)):aU (ee kv bB t)=true:=by
 rw[bZ];intro x hx
 obtain⟨a,_,rfl⟩:=List.mem_map.1 hx
 rfl
theorem ou:jj Tryz.prog 183 .string (.int .i64 0):=⟨9,3,by kernel_rfl,by kernel_rfl,fun w=>Tryz.zeroValue3 w⟩
theorem E4:jj Tryz.prog 184 (.int .i64) (.int .i64 0):=⟨3,3,by kernel_rfl,by kernel_rfl,fun w=>Tryz.zeroValue3 w⟩
theorem ig {s:ByteArray}{b:Bool}(h:bM s=b):af Tryz.prog 109 [] [bG s] [] (aA b):=by have:=Aa s;rwa [h] at this
theorem eW {s:ByteArray}{b:Bool}(hs:s.size≤100000)(h:bM s=b):af Tryz.prog 134 [] [bG s] [] (aA b):=by have:=D0 s hs;rwa [h] at this
theorem rI {s:ByteArray}{b:Bool}(h:lz s=b):af Tryz.prog 238 [] [bG s] [] (aA b):=by have:=Ms s;unfold lz at h;rwa [h] at this
theorem p9 {s:ByteArray}{b:Bool}(h:lz s=b):af Tryz.prog 141 [] [bG s] [] (aA b):=by have:=Ko s;unfold lz at h;rwa [h] at this
theorem MG (d:bj)(hl:d.defs.length≤100000):af Tryz.prog 190 [] [cP d] [rN (jC d.defs),rC (jC d.defs)] (.tup [.agg [.mapr 0,.mapr 1],aA (fV d.defs)]):=by
 obtain⟨l,ws,nx,bz⟩:=d
 have hlm:(l.map j5).length=l.length:=aM ..
 refine af.ah (rvs:=[.cell 2 186,.tmp 3]) G aa Tryz.func190 rfl Tryz.ntmps190 rfl rfl ?_;with_reducible refine wD ?_
 have hl':l.length≤100000:=hl
 refine aR.use G aa (fun(k:Nat)=>[(1,.ptr 10 0 0),(2,.ptr 20 0 0),(4,.ptr 40 0 0),(12,o9 l),(13,aj l.length),(14,aj k)])
  (fun k=>[(10,.live 4 [cP ⟨l,ws,nx,bz⟩] false),(20,.live 2 [.agg [.lit (.map none),.lit (.map none)]] false),(40,.live 2 [.agg [.mapr 81,.mapr 91]] false),(81,rN (l.take k)),(91,rC (l.take k))])
  (fun k=>k≤l.length∧∀ (j:Nat) (y:bH),j<k→l[j]? =some y→iI y=true) (fun k=>l.length-k) 0 ⟨Nat.zero_le _,fun j y h=>by omega⟩
  ⟨⟨rfl,rfl⟩,⟨⟨rfl,rfl⟩,⟨rfl,rfl⟩,⟨rfl,rfl⟩,rfl,by show(l.length:Int)=((l.map j5).length:Int);rw[hlm],rfl,trivial⟩,⟨⟨rfl,rfl,rfl,rfl,trivial⟩,trivial⟩,⟨⟨⟨rfl,rfl⟩,⟨rfl,rfl⟩,trivial⟩,trivial⟩,⟨⟨trivial,trivial,trivial⟩,trivial⟩,⟨.refl rfl,rfl⟩,⟨.refl rfl,rfl⟩,trivial⟩ ?_
 intro k ⟨hk,hok⟩
 with_reducible refine wK ?_
 refine aQ.mk (fun h1=>?_) (fun h1=>?_)<;>(try simp only[aq] at h1)<;>with_reducible refine wK ?_
 ·simp only[aL] at h1
  have hk':k<l.length:=by omega
  obtain⟨⟨n,lo,c⟩,hx⟩:∃a,l[k]? =some a:=⟨_,aP hk'⟩
  refine ak.mk k (iA ⟨n,lo,c⟩) rfl (cK hx) ?_;with_reducible refine wK ?_
  have hle1:(pW kN (l.take k)).length≤k:=Nat.le_trans (I2 _ _) (by simp;omega)
  have hle2:(pW kC (l.take k)).length≤k:=Nat.le_trans (I2 _ _) (by simp;omega)
  refine rY.cI Value.string bB (pW kN (l.take k)) (k:=n) (k:Int) ou rfl ko j2 (by unfold maxLen;omega) rfl ?_;with_reducible refine wK ?_
  refine rY.cI qc bB (pW kC (l.take k)) (k:=c) (k:Int) E4 rfl j1 lj (by unfold maxLen;omega) rfl ?_;with_reducible refine wK ?_
  have e1:eE n (k:Int) (pW kN (l.take k))=pW kN (l.take (k+1)):=(BQ kN hx).symm
  have e2:eE c (k:Int) (pW kC (l.take k))=pW kC (l.take (k+1)):=(BQ kC hx).symm
  rw[e1,e2]
  refine dK ?_;with_reducible refine wK ?_
  cases hg:iI ⟨n,lo,c⟩ with
  | true=>
    obtain⟨g1,g2,g3,g4⟩:=gD hg
    simp only at g1 g2 g3 g4
    have hnext:∀ (j:Nat) (y:bH),j<k+1→l[j]? =some y→iI y=true:=fun j y hj hy=>by
     by_cases e:j=k
     ·subst e;rw[hx] at hy;cases hy;exact hg
     ·exact hok j y (by omega) hy
    by_cases e:lo=n
    ·(have fct:=And.intro e (And.intro g1 (And.intro g3 (g4)));(repeat' (first
  |refine gF ?_|refine aE ?_ ?_
  | ((first
   |((with_reducible refine kQ 109 ?_);refine cL (ig g1) qe ?_)
   |((with_reducible show ay _ _);refine ay.mk (k+1) ⟨by omega,hnext⟩ (by omega) ⟨⟨rfl,rfl⟩,⟨⟨rfl,rfl⟩,⟨rfl,rfl⟩,⟨rfl,rfl⟩,rfl,rfl,by show((k+1:Nat):Int)=(k:Int)+1;omega,trivial⟩,⟨⟨rfl,rfl,rfl,rfl,trivial⟩,trivial⟩,⟨⟨⟨rfl,rfl⟩,⟨rfl,rfl⟩,trivial⟩,trivial⟩,⟨⟨trivial,trivial,trivial⟩,trivial⟩,⟨.refl (aG _ _),aG _ _⟩,⟨.refl (aG _ _),aG _ _⟩,trivial⟩))<;>with_reducible refine wK ?_)
  | apply trivial));all_goals clear fct)
    ·have g2':=g2.resolve_left e
     (have fct:=And.intro e (And.intro g1 (And.intro g2' (And.intro g3 (g4))));(repeat' (first
  |refine gF ?_|refine aE ?_ ?_
  | ((first
   |((with_reducible refine kQ 109 ?_);refine cL (ig g1) qe ?_)
   |((with_reducible refine kQ 238 ?_);refine cL (rI g2') HG ?_)
   |((with_reducible show ay _ _);refine ay.mk (k+1) ⟨by omega,hnext⟩ (by omega) ⟨⟨rfl,rfl⟩,⟨⟨rfl,rfl⟩,⟨rfl,rfl⟩,⟨rfl,rfl⟩,rfl,rfl,by show((k+1:Nat):Int)=(k:Int)+1;omega,trivial⟩,⟨⟨rfl,rfl,rfl,rfl,trivial⟩,trivial⟩,⟨⟨⟨rfl,rfl⟩,⟨rfl,rfl⟩,trivial⟩,trivial⟩,⟨⟨trivial,trivial,trivial⟩,trivial⟩,⟨.refl (aG _ _),aG _ _⟩,⟨.refl (aG _ _),aG _ _⟩,trivial⟩))<;>with_reducible refine wK ?_)
  |apply trivial));all_goals clear fct)
  | false=>
    have hpr:jC l=l.take (k+1):=Ga hok hx hg
    have hdb:fV l=false:=by
     cases h:fV l with
     |false=>rfl
     |true=>rw[(ku.1 h).1 _ (bn hx)] at hg;cases hg
    have hgood:∀ {p:Prop},(bM n=true∧(lo=n∨lz lo=true)∧0≤c∧c<12)→p:=fun h=>by
     exfalso
     have:iI ⟨n,lo,c⟩=true:=by
      obtain⟨a1,a2,a3,a4⟩:=h
      unfold iI zK
      simp only[a1,a3,a4,decide_true,Bool.and_true,Bool.true_and]
      rcases a2 with a2|a2
      ·rw[aV a2];rfl
      ·rw[a2];simp
     rw[hg] at this;cases this
    rw[hpr,hdb]
    by_cases e:lo=n
    ·cases hc:bM n with
     |false=>((have fct:=e;(repeat' (first
  |refine gF ?_|refine aE ?_ ?_
  |(((with_reducible refine kQ 109 ?_);refine cL (ig hc) qe ?_)<;>with_reducible refine wK ?_)
  |apply trivial));all_goals clear fct))<;>first|exact aJ (aG _ _)|exact⟨.refl (aG _ _),aG _ _⟩|rfl
     | true=>
       by_cases h3:c<0
       ·((have fct:=And.intro e (h3);(repeat' (first
  |refine gF ?_|refine aE ?_ ?_
  |(((with_reducible refine kQ 109 ?_);refine cL (ig hc) qe ?_)<;>with_reducible refine wK ?_)
  |apply trivial));all_goals clear fct))<;>first|exact aJ (aG _ _)|exact⟨.refl (aG _ _),aG _ _⟩|rfl
       ·by_cases h4:c<12
        ·exact hgood ⟨hc,.inl e,by omega,h4⟩
        ·((have fct:=And.intro e (And.intro h3 (h4));(repeat' (first
  |refine gF ?_|refine aE ?_ ?_
  |(((with_reducible refine kQ 109 ?_);refine cL (ig hc) qe ?_)<;>with_reducible refine wK ?_)
  | apply trivial));all_goals clear fct))<;>first|exact aJ (aG _ _)|exact⟨.refl (aG _ _),aG _ _⟩|rfl
    ·cases hkn:lz lo with
     |false=>cases hc:bM n<;>((have fct:=e;(repeat' (first
  |refine gF ?_|refine aE ?_ ?_
  | ((first
   |((with_reducible refine kQ 109 ?_);refine cL (ig hc) qe ?_)
   |((with_reducible refine kQ 238 ?_);refine cL (rI hkn) HG ?_))<;>with_reducible refine wK ?_)
  |apply trivial))                          ;all_goals clear fct))<;>first|exact aJ (aG _ _)|exact⟨.refl (aG _ _),aG _ _⟩|rfl
     | true=>
       cases hc:bM n with
       |false=>((have fct:=e;(repeat' (first
  |refine gF ?_|refine aE ?_ ?_
  | ((first
   |((with_reducible refine kQ 109 ?_);refine cL (ig hc) qe ?_)
   |((with_reducible refine kQ 238 ?_);refine cL (rI hkn) HG ?_))<;>with_reducible refine wK ?_)
  |apply  trivial));all_goals clear fct))<;>first|exact aJ (aG _ _)|exact⟨.refl (aG _ _),aG _ _⟩|rfl
       | true=>
         by_cases h3:c<0
         ·((have fct:=And.intro e (h3);(repeat' (first
  |refine gF ?_|refine aE ?_ ?_
  | ((first
   |((with_reducible refine kQ 109 ?_);refine cL (ig hc) qe ?_)
   |((with_reducible refine kQ 238 ?_);refine cL (rI hkn) HG ?_))<;>with_reducible refine wK ?_)
  |apply  trivial));all_goals clear fct))<;>first|exact aJ (aG _ _)|exact⟨.refl (aG _ _),aG _ _⟩|rfl
         ·by_cases h4:c<12
          ·exact hgood ⟨hc,.inr hkn,by omega,h4⟩
          ·((have fct:=And.intro e (And.intro h3 (h4));(repeat' (first
  |refine gF ?_|refine aE ?_ ?_
  | ((first
   |((with_reducible refine kQ 109 ?_);refine cL (ig hc) qe ?_)
   |((with_reducible refine kQ 238 ?_);refine cL (rI hkn) HG ?_))<;>with_reducible refine wK ?_)
  |apply trivial));all_goals clear fct))<;>first|exact aJ (aG _ _)|exact⟨.refl (aG _ _),aG _ _⟩|rfl
 ·have hkl:k=l.length:=by simp only[bh] at h1;omega
  subst hkl
  have hall:∀x∈l,iI x=true:=fun x hx=>by
   obtain⟨j,hj⟩:=List.getElem?_of_mem hx
   exact hok j x (aZ hj).1 hj
  rw[List.take_length,zh hall]
  have en:(ee Value.string bB (pW kN l)).length=(pW kN l).length:=aM ..
  have ec:(ee qc bB (pW kC l)).length=(pW kC l).length:=aM ..
  have hn:=EH kN l
  have hc:=EH kC l
  have hd:fV l=(decide ((l.map bH.name).Nodup)&&decide ((l.map bH.cls).Nodup)):=by
   unfold fV
   rw[List.all_eq_true.2 hall];rfl
  rw[hd]
  by_cases h2:(l.map bH.name).Nodup
  ·have h2':(pW kN l).length=l.length:=hn.2 h2
   by_cases h3:(l.map bH.cls).Nodup
   ·have h3':(pW kC l).length=l.length:=hc.2 h3
    ((have fct:=And.intro en (And.intro ec (And.intro h2' (And.intro h3' (hlm))));(repeat' (first
  |refine gF ?_|refine aE ?_ ?_
  | ((first
   |((with_reducible show gl _ _ 183 _ _ _ _);refine gl.mk ou ⟨_,_,rfl⟩ rfl ?_)
   |((with_reducible show gl _ _ 184 _ _ _ _);refine gl.mk E4 ⟨_,_,rfl⟩ rfl ?_))<;>with_reducible refine wK ?_)
  | apply trivial));all_goals clear fct))<;>first|exact aJ (aG _ _)|exact⟨.refl (aG _ _),aG _ _⟩|rfl|(simp[h2,h3,en,ec,h2',h3'];done)|(simp[h2,h3,en,ec,h2'];simp only[aq];omega)|(simp[h2,h3,en,ec,h2'];exact fun hh=>h3' (Int.ofNat.inj hh))
   ·have h3':(pW kC l).length≠l.length:=fun h=>h3 (hc.1 h)
    ((have fct:=And.intro en (And.intro ec (And.intro h2' (And.intro h3' (hlm))));(repeat' (first
  |refine gF ?_|refine aE ?_ ?_
  | ((first
   |((with_reducible show gl _ _ 183 _ _ _ _);refine gl.mk ou ⟨_,_,rfl⟩ rfl ?_)
   |((with_reducible show gl _ _ 184 _ _ _ _);refine gl.mk E4 ⟨_,_,rfl⟩ rfl ?_))<;>with_reducible refine wK ?_)
  |apply trivial));all_goals clear fct))<;>first|exact aJ (aG _ _)|exact⟨.refl (aG _ _),aG _ _⟩|rfl|(simp[h2,h3,en,ec,h2',h3'];done)|(simp[h2,h3,en,ec,h2'];simp only[aq];omega)|(simp[h2,h3,en,ec,h2'];exact fun hh=>h3' (Int.ofNat.inj hh))
  ·have h2':(pW kN l).length≠l.length:=fun h=>h2 (hn.1 h)
   ((have fct:=And.intro en (And.intro ec (And.intro h2' (hlm)));(repeat' (first
  |refine gF ?_|refine aE ?_ ?_
  | ((first
   |((with_reducible show gl _ _ 183 _ _ _ _);refine gl.mk ou ⟨_,_,rfl⟩ rfl ?_)
   |((with_reducible show gl _ _ 184 _ _ _ _);refine gl.mk E4 ⟨_,_,rfl⟩ rfl ?_))<;>with_reducible refine wK ?_)
  |apply trivial));all_goals clear fct))<;>first|exact aJ (aG _ _)|exact⟨.refl (aG _ _),aG _ _⟩|rfl|(simp[h2,en,h2'];done)
theorem tF (l:List bH):gJ [rN l,rC l]:=by
 refine⟨bI.fM fun r hr=>?_,aG _ _,bI.fM fun r hr=>?_,aG _ _,trivial⟩
 ·obtain⟨p,_,rfl⟩:=List.mem_map.1 hr
  rfl
 ·obtain⟨p,_,rfl⟩:=List.mem_map.1 hr
  rfl
def vl (d:bj)(i:Nat×Bool×Int):Prop:=i.1≤d.waits.length∧(i.2.1&&gI d.defs d.next i.2.2 (d.waits.drop i.1))=(fV d.defs&&gI d.defs d.next (-1) d.waits)
theorem DI {d:bj}{k:Nat}{b:Bool}{last:Int}{w:lC}(h:vl d (k,b,last))(hw:d.waits[k]? =some w):vl d (k+1,b&&okW d.defs d.next w last,w.ticket):=by
 obtain⟨h1,h2⟩:=h
 have hk:=(aZ hw).1
 refine⟨by show k+1≤_;omega,?_⟩
 rw[←h2]
 simp only
 rw[List.drop_eq_getElem_cons hk,(aZ hw).2,gI,Bool.and_assoc]
theorem ue {l:List bH}(h:fV l=true)(s:ByteArray):(dx s (pW kN (jC l))=none∧oy l s=-1)∨∃ (k:Nat) (x:bH),dx s (pW kN (jC l))=some (k:Int)∧oy l s=k∧l[k]? =some x∧x.name=s:=by
 obtain⟨h1,h2,_⟩:=ku.1 h
 rw[zh h1];exact PM h2 s
theorem EA (d:bj)(hl:d.defs.length≤100000)(hw:d.waits.length≤100000):af Tryz.prog 122 [] [cP d] [rN (jC d.defs),rC (jC d.defs)] (.tup [.agg [.mapr 0,.mapr 1],aA (dU d)]):=by
 have hI0:vl d (0,fV d.defs,-1):=⟨Nat.zero_le _,rfl⟩
 have hI1:=@DI d
 have hI2:∀b last,vl d (d.waits.length,b,last)→b=(fV d.defs&&gI d.defs d.next (-1) d.waits):=fun b last h=>by
  have:=h.2
  simp only[List.drop_length] at this
  rw[←this];simp[gI]
 have hI3:∀k b last,vl d (k,b,last)→b=true→fV d.defs=true∨dU d=false:=fun k b last h hb=>by
  cases hd:fV d.defs with
  |true=>exact .inl rfl
  |false=>right;unfold dU;rw[hd];rfl
 have hr44:=MG d hl
 unfold dU
 obtain⟨l,ws,nx,bz⟩:=d
 have hlm:(ws.map uq).length=ws.length:=aM ..
 refine af.ah (rvs:=[.cell 2 186,.tmp 3]) G aa Tryz.func122 rfl Tryz.ntmps122 rfl rfl ?_;with_reducible refine wD ?_
 refine aD.new 131 [] hr44 Q7 ⟨⟨rfl,rfl,rfl,rfl,trivial⟩,trivial⟩ rfl rfl rfl (tF _) rfl ?_;with_reducible refine wK ?_
 have hwl:ws.length≤100000:=hw
 refine aR.use G aa (fun(i:Nat×Bool×Int)=>[(1,.ptr 10 0 0),(2,.ptr 20 0 0),(4,.ptr 40 0 0),(5,aA i.2.1),(6,aj i.2.2),(17,pC ws),(18,aj ws.length),(19,aj i.1)])
  (fun _=>[(10,.live 4 [cP ⟨l,ws,nx,bz⟩] false),(20,.live 2 [.agg [.lit (.map none),.lit (.map none)]] false),(40,.live 2 [.agg [.mapr 131,.mapr 132]] false),(131,rN (jC l)),(132,rC (jC l))])
  (fun i=>vl ⟨l,ws,nx,bz⟩ i∧(i.2.1=true→fV l=true)) (fun i=>ws.length-i.1) (0,fV l,-1) ⟨hI0,id⟩
  ⟨⟨rfl,rfl⟩,⟨⟨rfl,rfl⟩,⟨rfl,rfl⟩,⟨rfl,rfl⟩,rfl,rfl,rfl,by show(ws.length:Int)=((ws.map uq).length:Int);rw[hlm],rfl,trivial⟩,⟨⟨rfl,rfl,rfl,rfl,trivial⟩,trivial⟩,⟨⟨⟨rfl,rfl⟩,⟨rfl,rfl⟩,trivial⟩,trivial⟩,⟨⟨trivial,trivial,trivial⟩,trivial⟩,⟨.refl (aG _ _),aG _ _⟩,⟨.refl (aG _ _),aG _ _⟩,trivial⟩ ?_
 rintro⟨k,b,last⟩ ⟨hI,hbd⟩
 have hkw:k≤ws.length:=hI.1
 simp only at hbd
 with_reducible refine wK ?_
 refine aQ.mk (fun h1=>?_) (fun h1=>?_)<;>(try simp only[aq] at h1)<;>with_reducible refine wK ?_
 ·simp only[aL] at h1
  have hk':k<ws.length:=by omega
  obtain⟨⟨n,tk⟩,hx⟩:∃a,ws[k]? =some a:=⟨_,aP hk'⟩
  have hst:∀v,(b&&okW l nx ⟨n,tk⟩ last)=v→vl ⟨l,ws,nx,bz⟩ (k+1,v,tk)∧(v=true→fV l=true):=fun v hv=>by
   have:=hI1 hI hx
   refine⟨by rw[←hv];exact this,fun h=>hbd ?_⟩
   rw[h] at hv
   exact(Bool.and_eq_true_iff.1 hv).1
  refine ak.mk k (yI ⟨n,tk⟩) rfl (rH hx) ?_;with_reducible refine wK ?_
  refine jJ.cI Value.string bB (pW kN (jC l)) (k:=n) (zv:=aj 0) ou ⟨_,_,rfl⟩ ko j2 rfl rfl (fun x hxx=>?_) (fun hxx=>?_)
  ·rw [show bB x=aj x from rfl]
   with_reducible refine wK ?_
   cases b with
   | false=>
     have hs:=hst false rfl
     (have fct:=hlm;(repeat' (first
  |refine gF ?_|refine aE ?_ ?_
  |(((with_reducible show ay _ _);refine ay.mk (k+1,false,tk) hs (by show ws.length- (k+1)<ws.length-k;omega) ⟨⟨rfl,rfl⟩,⟨⟨rfl,rfl⟩,⟨rfl,rfl⟩,⟨rfl,rfl⟩,rfl,rfl,rfl,rfl,by show((k+1:Nat):Int)=(k:Int)+1;omega,trivial⟩,⟨⟨rfl,rfl,rfl,rfl,trivial⟩,trivial⟩,⟨⟨⟨rfl,rfl⟩,⟨rfl,rfl⟩,trivial⟩,trivial⟩,⟨⟨trivial,trivial,trivial⟩,trivial⟩,⟨.refl (aG _ _),aG _ _⟩,⟨.refl (aG _ _),aG _ _⟩,trivial⟩)<;>with_reducible refine wK ?_)
  | apply trivial));all_goals clear fct)
   | true=>
     have hp:¬oy l n=-1:=by
      rcases ue (hbd rfl) n with⟨a1,_⟩|⟨j,y,_,a2,_⟩
      ·rw[hxx] at a1;cases a1
      ·omega
     have hs:=hst false (by unfold okW;simp[hp])
     (have fct:=hlm;(repeat' (first
  |refine gF ?_|refine aE ?_ ?_
  |(((with_reducible show ay _ _);refine ay.mk (k+1,false,tk) hs (by show ws.length- (k+1)<ws.length-k;omega) ⟨⟨rfl,rfl⟩,⟨⟨rfl,rfl⟩,⟨rfl,rfl⟩,⟨rfl,rfl⟩,rfl,rfl,rfl,rfl,by show((k+1:Nat):Int)=(k:Int)+1;omega,trivial⟩,⟨⟨rfl,rfl,rfl,rfl,trivial⟩,trivial⟩,⟨⟨⟨rfl,rfl⟩,⟨rfl,rfl⟩,trivial⟩,trivial⟩,⟨⟨trivial,trivial,trivial⟩,trivial⟩,⟨.refl (aG _ _),aG _ _⟩,⟨.refl (aG _ _),aG _ _⟩,trivial⟩)<;>with_reducible refine wK ?_)
  |apply trivial));all_goals clear fct)
  ·with_reducible refine wK ?_
   cases b with
   | false=>
     have hs:=hst false rfl
     (have fct:=hlm;(repeat' (first
  |refine gF ?_|refine aE ?_ ?_
  |(((with_reducible show ay _ _);refine ay.mk (k+1,false,tk) hs (by show ws.length- (k+1)<ws.length-k;omega) ⟨⟨rfl,rfl⟩,⟨⟨rfl,rfl⟩,⟨rfl,rfl⟩,⟨rfl,rfl⟩,rfl,rfl,rfl,rfl,by show((k+1:Nat):Int)=(k:Int)+1;omega,trivial⟩,⟨⟨rfl,rfl,rfl,rfl,trivial⟩,trivial⟩,⟨⟨⟨rfl,rfl⟩,⟨rfl,rfl⟩,trivial⟩,trivial⟩,⟨⟨trivial,trivial,trivial⟩,trivial⟩,⟨.refl (aG _ _),aG _ _⟩,⟨.refl (aG _ _),aG _ _⟩,trivial⟩)<;>with_reducible refine wK ?_)
  | apply trivial));all_goals clear fct)
   | true=>
     have hp:oy l n=-1:=by
      rcases ue (hbd rfl) n with⟨_,a1⟩|⟨j,y,a2,_⟩
      ·exact a1
      ·rw[hxx] at a2;cases a2
     cases hc:bM n with
     | false=>
       have hs:=hst false (by unfold okW;simp[hc])
       (have fct:=hlm;(repeat' (first
  |refine gF ?_|refine aE ?_ ?_
  | ((first
   |((with_reducible refine kQ 109 ?_);refine cL (ig hc) qe ?_)
   |((with_reducible show ay _ _);refine ay.mk (k+1,false,tk) hs (by show ws.length- (k+1)<ws.length-k;omega) ⟨⟨rfl,rfl⟩,⟨⟨rfl,rfl⟩,⟨rfl,rfl⟩,⟨rfl,rfl⟩,rfl,rfl,rfl,rfl,by show((k+1:Nat):Int)=(k:Int)+1;omega,trivial⟩,⟨⟨rfl,rfl,rfl,rfl,trivial⟩,trivial⟩,⟨⟨⟨rfl,rfl⟩,⟨rfl,rfl⟩,trivial⟩,trivial⟩,⟨⟨trivial,trivial,trivial⟩,trivial⟩,⟨.refl (aG _ _),aG _ _⟩,⟨.refl (aG _ _),aG _ _⟩,trivial⟩))<;>with_reducible refine wK ?_)
  |apply trivial));all_goals clear fct)
     | true=>
       by_cases h3:last<tk
       ·have hs:=hst (decide (tk<nx)) (by unfold okW;simp[hc,hp,h3])
        (have fct:=And.intro hlm (h3);(repeat' (first
  |refine gF ?_|refine aE ?_ ?_
  | ((first
   |((with_reducible refine kQ 109 ?_);refine cL (ig hc) qe ?_)
   |((with_reducible show ay _ _);refine ay.mk (k+1,decide (tk<nx),tk) hs (by show ws.length- (k+1)<ws.length-k;omega) ⟨⟨rfl,rfl⟩,⟨⟨rfl,rfl⟩,⟨rfl,rfl⟩,⟨rfl,rfl⟩,rfl,rfl,rfl,rfl,by show((k+1:Nat):Int)=(k:Int)+1;omega,trivial⟩,⟨⟨rfl,rfl,rfl,rfl,trivial⟩,trivial⟩,⟨⟨⟨rfl,rfl⟩,⟨rfl,rfl⟩,trivial⟩,trivial⟩,⟨⟨trivial,trivial,trivial⟩,trivial⟩,⟨.refl (aG _ _),aG _ _⟩,⟨.refl (aG _ _),aG _ _⟩,trivial⟩))<;>with_reducible refine wK ?_)
  |apply trivial));all_goals clear fct)
       ·have hs:=hst false (by unfold okW;simp[hc,hp,h3])
        (have fct:=And.intro hlm (h3);(repeat' (first
  |refine gF ?_|refine aE ?_ ?_
  | ((first
   |((with_reducible refine kQ 109 ?_);refine cL (ig hc) qe ?_)
   |((with_reducible show ay _ _);refine ay.mk (k+1,false,tk) hs (by show ws.length- (k+1)<ws.length-k;omega) ⟨⟨rfl,rfl⟩,⟨⟨rfl,rfl⟩,⟨rfl,rfl⟩,⟨rfl,rfl⟩,rfl,rfl,rfl,rfl,by show((k+1:Nat):Int)=(k:Int)+1;omega,trivial⟩,⟨⟨rfl,rfl,rfl,rfl,trivial⟩,trivial⟩,⟨⟨⟨rfl,rfl⟩,⟨rfl,rfl⟩,trivial⟩,trivial⟩,⟨⟨trivial,trivial,trivial⟩,trivial⟩,⟨.refl (aG _ _),aG _ _⟩,⟨.refl (aG _ _),aG _ _⟩,trivial⟩))<;>with_reducible refine wK ?_)
  |apply trivial));all_goals clear fct)
 ·have hkl:k=ws.length:=by simp only[bh] at h1;omega
  subst hkl
  have hb:=hI2 b last hI
  simp only at hb ⊢
  rw[←hb]
  cases b with
  |false=>((have fct:=hlm;(repeat' (first
  |refine gF ?_|refine aE ?_ ?_
  |apply trivial));all_goals clear fct))<;>first|exact aJ (aG _ _)|exact⟨.refl (aG _ _),aG _ _⟩|rfl
  | true=>
    by_cases h4:0≤nx
    ·((have fct:=And.intro hlm (h4);(repeat' (first
  |refine gF ?_|refine aE ?_ ?_
  | apply trivial));all_goals clear fct))<;>first|exact aJ (aG _ _)|exact⟨.refl (aG _ _),aG _ _⟩|simp[h4]
    ·((have fct:=And.intro hlm (h4);(repeat' (first
  |refine gF ?_|refine aE ?_ ?_
  |apply trivial));all_goals clear fct))<;>first|exact aJ (aG _ _)|exact⟨.refl (aG _ _),aG _ _⟩|simp[h4]
structure fH (d:bj):Prop where
 defs:d.defs.length≤100000
 waits:d.waits.length≤100000
theorem Ad (d:bj)(h:fH d):af Tryz.prog 144 [] [cP d] [] (aA (dU d)):=by
 have h29:=EA d h.defs h.waits
 obtain⟨l,ws,nx,bz⟩:=d
 refine af.ah (rvs:=[.tmp 2]) G aa Tryz.func144 rfl Tryz.ntmps144 rfl rfl ?_;with_reducible refine wD ?_
 refine aD.new 71 [] h29 Qr ⟨⟨rfl,rfl,rfl,rfl,trivial⟩,trivial⟩ rfl rfl rfl (tF _) rfl ?_;with_reducible refine wK ?_
 (have fct:=h29;(repeat' (first
  |refine gF ?_|refine aE ?_ ?_
  |apply trivial));all_goals clear fct)
theorem Cx {d:bj}(h:dU d=true):fV d.defs=true:=(wh.1 h).1
theorem mP {l:List bH}{a b:ByteArray}(h:fV l=true)(ha:∀ (k:Nat) (x:bH),l[k]? =some x→x.name=a→x.locl≠a)(hb:∀ (k:Nat) (x:bH),l[k]? =some x→x.name=b→x.locl≠a):oT l a b=-1:=by
 rcases o8 l a b with⟨h1,_⟩|⟨j,y,_,h2,h3⟩
 ·exact h1
 ·obtain⟨g1,g2⟩:=lZ.1 h3
  rcases g2 with g2|g2
  ·exact absurd g1 (ha j y h2 g2)
  ·exact absurd g1 (hb j y h2 g2)
theorem tf {l:List bH}(h:fV l=true){k:Nat}{x:bH}{s v:ByteArray}(hx:l[k]? =some x)(hn:x.name=s)(hv:x.locl≠v):∀ (j:Nat) (y:bH),l[j]? =some y→y.name=s→y.locl≠v:=fun j y hy he=>by
 have:=sO (ku.1 h).2.1 hx hy (hn.trans he.symm)
 subst this;rw[hx] at hy;cases hy;exact hv
theorem zV {l:List bH}{s v:ByteArray}(h:oy l s=-1):∀ (j:Nat) (y:bH),l[j]? =some y→y.name=s→y.locl≠v:=fun j y hy he=>absurd he (Lv h y (bn hy))
theorem LR (d:bj)(h:fH d)(a b:ByteArray):af Tryz.prog 192 [] [cP d,bG a,bG b] [] (aj (findD d a b)):=by
 have h29:=EA d h.defs h.waits
 have hrd:=@Cx d
 unfold findD
 obtain⟨r,hr⟩:∃r,dU d=r:=⟨_,rfl⟩
 rw[hr] at h29 hrd ⊢
 obtain⟨l,ws,nx,bz⟩:=d
 refine af.ah (rvs:=[.tmp 6]) G aa Tryz.func192 rfl Tryz.ntmps192 rfl rfl ?_;with_reducible refine wD ?_
 refine aD.new 151 [] h29 Qr ⟨⟨rfl,rfl,rfl,rfl,trivial⟩,trivial⟩ rfl rfl rfl (tF _) rfl ?_;with_reducible refine wK ?_
 cases r with
 | false=>((have fct:=hr;(repeat' (first
  |refine gF ?_|refine aE ?_ ?_
  |apply trivial));all_goals clear fct))<;>rfl
 | true =>
   have hd:=hrd rfl
   rw[if_pos rfl]
   simp only at hd ⊢
   have second:∀ (k:Nat) (y:bH),l[k]? =some y→y.name=b→y.locl=a→oT l a b=k:=fun k y hy he hl=>AX hd hy (lZ.2 ⟨hl,.inr he⟩)
   refine aQ.ff ?_;with_reducible refine wK ?_
   refine jJ.cI Value.string bB (pW kN (jC l)) (k:=a) (zv:=aj 0) ou ⟨_,_,rfl⟩ ko j2 rfl rfl (fun x hxx=>?_) (fun hxx=>?_)
   ·rw[show bB x=aj x from rfl]
    with_reducible refine wK ?_
    rcases ue hd a with⟨a1,_⟩|⟨j,⟨yn,yl,yc⟩,a1,a2,a3,a4⟩
    ·rw[hxx] at a1;cases a1
    rw[hxx] at a1;cases a1
    simp only at a4
    refine aQ.tt ?_;with_reducible refine wK ?_
    refine ak.mk j (iA ⟨yn,yl,yc⟩) rfl (cK a3) ?_;with_reducible refine wK ?_
    by_cases hl:yl=a
    ·have hf:=AX (b:=b) hd a3 (lZ.2 ⟨hl,.inl a4⟩)
     rw[hf]
     (have fct:=hl;(repeat' (first
  |refine gF ?_|refine aE ?_ ?_
  | apply trivial));all_goals clear fct)
    ·have n1:=tf hd a3 a4 hl
     refine aQ.no (aS hl) ?_;with_reducible refine wK ?_
     refine jJ.cI Value.string bB (pW kN (jC l)) (k:=b) (zv:=aj 0) ou ⟨_,_,rfl⟩ ko j2 rfl rfl (fun x hxx=>?_) (fun hxx=>?_)
     ·rw[show bB x=aj x from rfl]
      with_reducible refine wK ?_
      rcases ue hd b with⟨b1,_⟩|⟨i,⟨zn,zl,zc⟩,b1,b2,b3,b4⟩
      ·rw[hxx] at b1;cases b1
      rw[hxx] at b1;cases b1
      refine aQ.tt ?_;with_reducible refine wK ?_
      refine ak.mk i (iA ⟨zn,zl,zc⟩) rfl (cK b3) ?_;with_reducible refine wK ?_
      by_cases hz:zl=a
      ·have hf:=second i _ b3 b4 hz
       rw[hf]
       (have fct:=hz;(repeat' (first
  |refine gF ?_|refine aE ?_ ?_
  |apply trivial));all_goals clear fct)
      ·rw[mP hd n1 (tf hd b3 b4 hz)]
       (have fct:=hz;(repeat' (first
  |refine gF ?_|refine aE ?_ ?_
  |apply trivial));all_goals clear fct)
     ·with_reducible refine wK ?_
      rcases ue hd b with⟨_,b1⟩|⟨i,y,b1,_⟩
      ·rw[mP hd n1 (zV b1)]
       (have fct:=b1;(repeat' (first
  |refine gF ?_|refine aE ?_ ?_
  | apply trivial));all_goals clear fct)
      ·rw[hxx] at b1;cases b1
   ·with_reducible refine wK ?_
    rcases ue hd a with⟨_,a1⟩|⟨j,y,a1,_⟩
    ·have n1:∀ (k:Nat) (x:bH),l[k]? =some x→x.name=a→x.locl≠a:=zV a1
     refine aQ.ff ?_;with_reducible refine wK ?_
     refine aQ.ff ?_;with_reducible refine wK ?_
     refine jJ.cI Value.string bB (pW kN (jC l)) (k:=b) (zv:=aj 0) ou ⟨_,_,rfl⟩ ko j2 rfl rfl (fun x hxx=>?_) (fun hxx=>?_)
     ·rw[show bB x=aj x from rfl]
      with_reducible refine wK ?_
      rcases ue hd b with⟨b1,_⟩|⟨i,⟨zn,zl,zc⟩,b1,b2,b3,b4⟩
      ·rw[hxx] at b1;cases b1
      rw[hxx] at b1;cases b1
      refine aQ.tt ?_;with_reducible refine wK ?_
      refine ak.mk i (iA ⟨zn,zl,zc⟩) rfl (cK b3) ?_;with_reducible refine wK ?_
      by_cases hz:zl=a
      ·have hf:=second i _ b3 b4 hz
       rw[hf]
       (have fct:=hz;(repeat' (first
  |refine gF ?_|refine aE ?_ ?_
  |apply trivial));all_goals clear fct)
      ·rw[mP hd n1 (tf hd b3 b4 hz)]
       (have fct:=hz;(repeat' (first
  |refine gF ?_|refine aE ?_ ?_
  |apply trivial));all_goals clear fct)
     ·with_reducible refine wK ?_
      rcases ue hd b with⟨_,b1⟩|⟨i,y,b1,_⟩
      ·rw[mP hd n1 (zV b1)]
       (have fct:=b1;(repeat' (first
  |refine gF ?_|refine aE ?_ ?_
  | apply trivial));all_goals clear fct)
      ·rw[hxx] at b1;cases b1
    ·rw[hxx] at a1;cases a1
structure vW (d:bj):Prop where
 defs:d.defs.length≤40
 waits:d.waits.length≤40
 names:∀x∈d.defs,x.name.size≤300∧x.locl.size≤300
 wnames:∀w∈d.waits,w.name.size≤300
theorem vW.small {d:bj}(h:vW d):fH d:=⟨Nat.le_trans h.defs (by omega),Nat.le_trans h.waits (by omega)⟩
theorem pO {α:Type}{p:α→Bool}{l:List α}{k:Nat}{a:α}(ha:l[k]? =some a)(hp:p a=true)(hb:∀ (j:Nat) (b:α),j<k→l[j]? =some b→p b=false):zH p l=k:=by
 rcases jm p l with⟨_,h⟩|⟨j,b,h1,h2,h3,h4⟩
 ·rw[h a (bn ha)] at hp;cases hp
 ·rcases Nat.lt_trichotomy j k with hj|hj|hj
  ·rw[hb j b hj h2] at h3;cases h3
  ·rw[h1,hj]
  ·rw[h4 k a hj ha] at hp;cases hp
theorem uW {α:Type}{p:α→Bool}{l:List α}(hb:∀ (j:Nat) (b:α),j<l.length→l[j]? =some b→p b=false):zH p l=-1:=
 Jk fun a ha=>by
  obtain⟨j,hj⟩:=List.getElem?_of_mem ha
  exact hb j a (aZ hj).1 hj
theorem iC {α:Type}{P:α→Prop}{l:List α}{k:Nat}{a:α}(h:∀ (j:Nat) (b:α),j<k→l[j]? =some b→P b)(ha:l[k]? =some a)(hp:P a):∀ (j:Nat) (b:α),j<k+1→l[j]? =some b→P b:=fun j b hj hb=>by
 by_cases e:j=k
 ·subst e;rw[ha] at hb;cases hb;exact hp
 ·exact h j b (by omega) hb
theorem KX (d:bj)(h:fH d)(s:ByteArray):af Tryz.prog 142 [] [cP d,bG s] [] (aj (oy d.defs s)):=by
 have hl:=h.defs
 obtain⟨l,ws,nx,bz⟩:=d
 simp only at hl
 have hlm:(l.map j5).length=l.length:=aM ..
 refine af.ah (rvs:=[.tmp 4]) G aa Tryz.func142 rfl Tryz.ntmps142 rfl rfl ?_;with_reducible refine wD ?_
 refine aR.use G aa (fun(k:Nat)=>[(1,bG s),(2,.ptr 20 0 0),(5,aj k)]) (fun _=>[(20,.live 4 [cP ⟨l,ws,nx,bz⟩] false)]) (fun k=>k≤l.length∧∀ (j:Nat) (b:bH),j<k→l[j]? =some b→CY s b=false) (fun k=>l.length-k) 0 ⟨Nat.zero_le _,fun j b hj=>by omega⟩
  ⟨⟨rfl,rfl⟩,⟨rfl,⟨rfl,rfl⟩,rfl,trivial⟩,⟨⟨rfl,rfl,rfl,rfl,trivial⟩,trivial⟩,trivial⟩ ?_
 intro k ⟨hk,hno⟩
 with_reducible refine wK ?_
 refine aQ.mk (fun h1=>?_) (fun h1=>?_)<;>(try simp only[aq] at h1)<;>with_reducible refine wK ?_
 ·simp only[hlm,aL] at h1
  have hk':k<l.length:=by omega
  obtain⟨⟨n,lo,c⟩,hx⟩:∃a,l[k]? =some a:=⟨_,aP hk'⟩
  refine ak.mk k (iA ⟨n,lo,c⟩) rfl (cK hx) ?_;with_reducible refine wK ?_
  by_cases e:n=s
  ·have hp:oy l s=k:=pO hx (aV e) hno
   rw[hp]
   (have fct:=e;(repeat' (first
  |refine gF ?_|refine aE ?_ ?_
  |apply trivial));all_goals clear fct)
  ·(have fct:=e;(repeat' (first
  |refine gF ?_|refine aE ?_ ?_
  |(((with_reducible show ay _ _);refine ay.mk (k+1) ⟨by omega,iC (P:=fun b=>CY s b=false) hno hx (aS e)⟩ (by omega) ⟨⟨rfl,rfl⟩,⟨rfl,⟨rfl,rfl⟩,by show((k+1:Nat):Int)=(k:Int)+1;omega,trivial⟩,⟨⟨rfl,rfl,rfl,rfl,trivial⟩,trivial⟩,trivial⟩)<;>with_reducible refine wK ?_)
  |apply trivial));all_goals clear fct)
 ·have hkl:k=l.length:=by simp only[hlm,bh] at h1;omega
  subst hkl
  have hp:oy l s=-1:=uW hno
  rw[hp]
  (have fct:=hp;(repeat' (first
  |refine gF ?_|refine aE ?_ ?_
  |apply trivial));all_goals clear fct)
theorem K5 (d:bj)(h:fH d)(s:Int):af Tryz.prog 130 [] [cP d,aj s] [] (aj (C9 d.defs s)):=by
 have hl:=h.defs
 obtain⟨l,ws,nx,bz⟩:=d
 simp only at hl
 have hlm:(l.map j5).length=l.length:=aM ..
 refine af.ah (rvs:=[.tmp 4]) G aa Tryz.func130 rfl Tryz.ntmps130 rfl rfl ?_;with_reducible refine wD ?_
 refine aR.use G aa (fun(k:Nat)=>[(1,aj s),(2,.ptr 20 0 0),(5,aj k)]) (fun _=>[(20,.live 4 [cP ⟨l,ws,nx,bz⟩] false)]) (fun k=>k≤l.length∧∀ (j:Nat) (b:bH),j<k→l[j]? =some b→HX s b=false) (fun k=>l.length-k) 0 ⟨Nat.zero_le _,fun j b hj=>by omega⟩
  ⟨⟨rfl,rfl⟩,⟨rfl,⟨rfl,rfl⟩,rfl,trivial⟩,⟨⟨rfl,rfl,rfl,rfl,trivial⟩,trivial⟩,trivial⟩ ?_
 intro k ⟨hk,hno⟩
 with_reducible refine wK ?_
 refine aQ.mk (fun h1=>?_) (fun h1=>?_)<;>(try simp only[aq] at h1)<;>with_reducible refine wK ?_
 ·simp only[hlm,aL] at h1
  have hk':k<l.length:=by omega
  obtain⟨⟨n,lo,c⟩,hx⟩:∃a,l[k]? =some a:=⟨_,aP hk'⟩
  refine ak.mk k (iA ⟨n,lo,c⟩) rfl (cK hx) ?_;with_reducible refine wK ?_
  by_cases e:c=s
  ·have hp:C9 l s=k:=pO hx (aV e) hno
   rw[hp]
   (have fct:=e;(repeat' (first
  |refine gF ?_|refine aE ?_ ?_
  |apply trivial));all_goals clear fct)
  ·(have fct:=e;(repeat' (first
  |refine gF ?_|refine aE ?_ ?_
  |(((with_reducible show ay _ _);refine ay.mk (k+1) ⟨by omega,iC (P:=fun b=>HX s b=false) hno hx (aS e)⟩ (by omega) ⟨⟨rfl,rfl⟩,⟨rfl,⟨rfl,rfl⟩,by show((k+1:Nat):Int)=(k:Int)+1;omega,trivial⟩,⟨⟨rfl,rfl,rfl,rfl,trivial⟩,trivial⟩,trivial⟩)<;>with_reducible refine wK ?_)
  |apply trivial));all_goals clear fct)
 ·have hkl:k=l.length:=by simp only[hlm,bh] at h1;omega
  subst hkl
  have hp:C9 l s=-1:=uW hno
  rw[hp]
  (have fct:=hp;(repeat' (first
  |refine gF ?_|refine aE ?_ ?_
  |apply trivial));all_goals clear fct)
theorem jw {d:bj}{s:ByteArray}{i:Int}(h:fH d)(hi:oy d.defs s=i):af Tryz.prog 142 [] [cP d,bG s] [] (aj i):=by have:=KX d h s;rwa [hi] at this
theorem uQ {d:bj}{s i:Int}(h:fH d)(hi:C9 d.defs s=i):af Tryz.prog 130 [] [cP d,aj s] [] (aj i):=by have:=K5 d h s;rwa [hi] at this
def P1 (l:List bH)(k:Nat)(x:bH):Prop:=iI x=true∧oy l x.name=k∧C9 l x.cls=k
theorem La {l:List bH}(h:∀ (j:Nat) (b:bH),j<l.length→l[j]? =some b→P1 l j b):fV l=true:=
 ku.2 ⟨fun x hx=>by
  obtain⟨j,hj⟩:=List.getElem?_of_mem hx
  exact(h j x (aZ hj).1 hj).1,
 oM fun i j a b ha hb e=>by
  have h1:=(h i a (aZ ha).1 ha).2.1
  have h2:=(h j b (aZ hb).1 hb).2.1
  rw[e] at h1;omega,
 oM fun i j a b ha hb e=>by
  have h1:=(h i a (aZ ha).1 ha).2.2
  have h2:=(h j b (aZ hb).1 hb).2.2
  rw[e] at h1;omega⟩
theorem NQ {l:List bH}(h:fV l=true){k:Nat}{x:bH}(hx:l[k]? =some x):P1 l k x:=by
 obtain⟨h1,h2,h3⟩:=ku.1 h
 exact⟨h1 x (bn hx),KH h2 hx,JV h3 hx⟩
theorem wq {α:Type}{P:Nat→α→Prop}{l:List α}{k:Nat}{a:α}(h:∀ (j:Nat) (b:α),j<k→l[j]? =some b→P j b)(ha:l[k]? =some a)(hp:P k a):∀ (j:Nat) (b:α),j<k+1→l[j]? =some b→P j b:=fun j b hj hb=>by
 by_cases e:j=k
 ·subst e;rw[ha] at hb;cases hb;exact hp
 ·exact h j b (by omega) hb
theorem NT (d:bj)(h:vW d):af Tryz.prog 72 [] [cP d] [] (aA (dU d)):=by
 have hsm:=h.small
 have hok:=@La d.defs
 have hof:=@NQ d.defs
 have hwf:=@Aj d.defs d.next
 have hrd:=@wh d
 obtain⟨r,hr⟩:∃r,dU d=r:=⟨_,rfl⟩
 rw[hr] at hrd ⊢
 obtain⟨l,ws,nx,bz⟩:=d
 have hl:l.length≤40:=h.defs
 have hw:ws.length≤40:=h.waits
 have hnm:∀x∈l,x.name.size≤300∧x.locl.size≤300:=h.names
 have hwn:∀w∈ws,w.name.size≤300:=h.wnames
 simp only at hok hof hwf hrd
 have hlm:(l.map j5).length=l.length:=aM ..
 have hwm:(ws.map uq).length=ws.length:=aM ..
 refine af.ah (rvs:=[.tmp 2]) G aa Tryz.func72 rfl Tryz.ntmps72 rfl rfl ?_;with_reducible refine wD ?_
 by_cases n0:nx<0
 ·have:r=false:=by cases r with|false=>rfl|true=>exact absurd (hrd.1 rfl).2.2.1 (by omega)
  rw[this];(have fct:=n0;(repeat' (first
  |refine gF ?_|refine aE ?_ ?_
  |apply trivial));all_goals clear fct)
 by_cases n1:100000<nx
 ·have:r=false:=by cases r with|false=>rfl|true=>exact absurd (hrd.1 rfl).2.2.2 (by omega)
  rw[this];(have fct:=And.intro n0 (n1);(repeat' (first
  |refine gF ?_|refine aE ?_ ?_
  |apply trivial));all_goals clear fct)
 (have fct:=And.intro n0 (n1);(repeat' (first
  |refine gF ?_|refine aE ?_ ?_
  |apply trivial));all_goals clear fct)
 refine aR.use G aa (fun(k:Nat)=>[(1,.ptr 10 0 0),(3,aj k)]) (fun _=>[(10,.live 4 [cP ⟨l,ws,nx,bz⟩] false)]) (fun k=>k≤l.length∧∀ (j:Nat) (b:bH),j<k→l[j]? =some b→P1 l j b) (fun k=>l.length-k) 0 ⟨Nat.zero_le _,fun j b hj=>by omega⟩
  ⟨⟨rfl,rfl⟩,⟨⟨rfl,rfl⟩,rfl,trivial⟩,⟨⟨rfl,rfl,rfl,rfl,trivial⟩,trivial⟩,trivial⟩ ?_
 intro k ⟨hk,hno⟩
 with_reducible refine wK ?_
 refine aQ.mk (fun h1=>?_) (fun h1=>?_)<;>(try simp only[aq] at h1)<;>with_reducible refine wK ?_
 ·simp only[hlm,aL] at h1
  have hk':k<l.length:=by omega
  obtain⟨⟨n,lo,c⟩,hx⟩:∃a,l[k]? =some a:=⟨_,aP hk'⟩
  have hns:n.size≤100000:=Nat.le_trans (hnm _ (bn hx)).1 (by omega)
  have hf:(P1 l k ⟨n,lo,c⟩→False)→r=false:=fun hn=>by
   cases r with
   |false=>rfl
   |true=>exact absurd (hof (hrd.1 rfl).1 hx) hn
  refine ak.mk k (iA ⟨n,lo,c⟩) rfl (cK hx) ?_;with_reducible refine wK ?_
  cases hc:bM n with
  | false=>
    rw[hf (fun h=>by have:=(gD h.1).1;simp only at this;rw[hc] at this;cases this)]
    (have fct:=n0;(repeat' (first
  |refine gF ?_|refine aE ?_ ?_
  |(((with_reducible refine kQ 134 ?_);refine cL (eW hns hc) nI ?_)<;>with_reducible refine wK ?_)
  |apply trivial));all_goals clear fct)
  | true=>
    by_cases hlo:lo=n∨lz lo=true
    ·by_cases g3:c<0
     ·rw[hf (fun h=>by have:=(gD h.1).2.2.1;simp only at this;omega)]
      by_cases e:lo=n
      ·(have fct:=And.intro g3 (e);(repeat' (first
  |refine gF ?_|refine aE ?_ ?_
  |(((with_reducible refine kQ 134 ?_);refine cL (eW hns hc) nI ?_)<;>with_reducible refine wK ?_)
  |apply trivial));all_goals clear fct)
      ·have hkn:=hlo.resolve_left e
       (have fct:=And.intro g3 (e);(repeat' (first
  |refine gF ?_|refine aE ?_ ?_
  | ((first
   |((with_reducible refine kQ 134 ?_);refine cL (eW hns hc) nI ?_)
   |((with_reducible refine kQ 141 ?_);refine cL (p9 hkn) GC ?_))<;>with_reducible refine wK ?_)
  |apply trivial));all_goals clear fct)
     ·by_cases g4:11<c
      ·rw[hf (fun h=>by have:=(gD h.1).2.2.2;simp only at this;omega)]
       by_cases e:lo=n
       ·(have fct:=And.intro g3 (And.intro g4 (e));(repeat' (first
  |refine gF ?_|refine aE ?_ ?_
  |(((with_reducible refine kQ 134 ?_);refine cL (eW hns hc) nI ?_)<;>with_reducible refine wK ?_)
  |apply trivial));all_goals clear fct)
       ·have hkn:=hlo.resolve_left e
        (have fct:=And.intro g3 (And.intro g4 (e));(repeat' (first
  |refine gF ?_|refine aE ?_ ?_
  | ((first
   |((with_reducible refine kQ 134 ?_);refine cL (eW hns hc) nI ?_)
   |((with_reducible refine kQ 141 ?_);refine cL (p9 hkn) GC ?_))<;>with_reducible refine wK ?_)
  |apply  trivial));all_goals clear fct)
      ·obtain⟨p,hp⟩:∃p,oy l n=p:=⟨_,rfl⟩
       obtain⟨q,hq⟩:∃q,C9 l c=q:=⟨_,rfl⟩
       by_cases g5:p=k
       ·by_cases g6:q=k
        ·have hokk:P1 l k ⟨n,lo,c⟩:=by
          refine⟨?_,by rw[←g5];exact hp,by rw[←g6];exact hq⟩
          unfold iI zK
          simp only[hc,Bool.true_and]
          rw[show decide (0≤c)=true from aV (by omega),show decide (c<12)=true from aV (by omega)]
          rcases hlo with e|e
          ·rw[aV e];rfl
          ·rw[e];simp
         by_cases e:lo=n
         ·(have fct:=And.intro g3 (And.intro g4 (And.intro g5 (And.intro g6 (e))));(repeat' (first
  |refine gF ?_|refine aE ?_ ?_
  | ((first
   |((with_reducible refine kQ 134 ?_);refine cL (eW hns hc) nI ?_)
   |((with_reducible refine kQ 142 ?_);refine cL (jw hsm hp) xn ?_)
   |((with_reducible refine kQ 130 ?_);refine cL (uQ hsm hq) J1 ?_)
   |((with_reducible show ay _ _);refine ay.mk (k+1) ⟨by omega,wq hno hx hokk⟩ (by omega) ⟨⟨rfl,rfl⟩,⟨⟨rfl,rfl⟩,by show((k+1:Nat):Int)=(k:Int)+1;omega,trivial⟩,⟨⟨rfl,rfl,rfl,rfl,trivial⟩,trivial⟩,trivial⟩))<;>with_reducible refine wK ?_)
  |apply  trivial));all_goals clear fct)
         ·have hkn:=hlo.resolve_left e
          (have fct:=And.intro g3 (And.intro g4 (And.intro g5 (And.intro g6 (e))));(repeat' (first
  |refine gF ?_|refine aE ?_ ?_
  | ((first
   |((with_reducible refine kQ 134 ?_);refine cL (eW hns hc) nI ?_)
   |((with_reducible refine kQ 141 ?_);refine cL (p9 hkn) GC ?_)
   |((with_reducible refine kQ 142 ?_);refine cL (jw hsm hp) xn ?_)
   |((with_reducible refine kQ 130 ?_);refine cL (uQ hsm hq) J1 ?_)
   |((with_reducible show ay _ _);refine ay.mk (k+1) ⟨by omega,wq hno hx hokk⟩ (by omega) ⟨⟨rfl,rfl⟩,⟨⟨rfl,rfl⟩,by show((k+1:Nat):Int)=(k:Int)+1;omega,trivial⟩,⟨⟨rfl,rfl,rfl,rfl,trivial⟩,trivial⟩,trivial⟩))<;>with_reducible refine wK ?_)
  |apply  trivial));all_goals clear fct)
        ·rw[hf (fun h=>g6 (by rw[←hq];exact h.2.2))]
         by_cases e:lo=n
         ·(have fct:=And.intro g3 (And.intro g4 (And.intro g5 (And.intro g6 (e))));(repeat' (first
  |refine gF ?_|refine aE ?_ ?_
  | ((first
   |((with_reducible refine kQ 134 ?_);refine cL (eW hns hc) nI ?_)
   |((with_reducible refine kQ 142 ?_);refine cL (jw hsm hp) xn ?_)
   |((with_reducible refine kQ 130 ?_);refine cL (uQ hsm hq) J1 ?_))<;>with_reducible refine wK ?_)
  |apply  trivial));all_goals clear fct)
         ·have hkn:=hlo.resolve_left e
          (have fct:=And.intro g3 (And.intro g4 (And.intro g5 (And.intro g6 (e))));(repeat' (first
  |refine gF ?_|refine aE ?_ ?_
  | ((first
   |((with_reducible refine kQ 134 ?_);refine cL (eW hns hc) nI ?_)
   |((with_reducible refine kQ 141 ?_);refine cL (p9 hkn) GC ?_)
   |((with_reducible refine kQ 142 ?_);refine cL (jw hsm hp) xn ?_)
   |((with_reducible refine kQ 130 ?_);refine cL (uQ hsm hq) J1 ?_))<;>with_reducible refine wK ?_)
  |apply trivial));all_goals clear fct)
       ·rw[hf (fun h=>g5 (by rw[←hp];exact h.2.1))]
        by_cases e:lo=n
        ·(have fct:=And.intro g3 (And.intro g4 (And.intro g5 (e)));(repeat' (first
  |refine gF ?_|refine aE ?_ ?_
  | ((first
   |((with_reducible refine kQ 134 ?_);refine cL (eW hns hc) nI ?_)
   |((with_reducible refine kQ 142 ?_);refine cL (jw hsm hp) xn ?_))<;>with_reducible refine wK ?_)
  |apply  trivial));all_goals clear fct)
        ·have hkn:=hlo.resolve_left e
         (have fct:=And.intro g3 (And.intro g4 (And.intro g5 (e)));(repeat' (first
  |refine gF ?_|refine aE ?_ ?_
  | ((first
   |((with_reducible refine kQ 134 ?_);refine cL (eW hns hc) nI ?_)
   |((with_reducible refine kQ 141 ?_);refine cL (p9 hkn) GC ?_)
   |((with_reducible refine kQ 142 ?_);refine cL (jw hsm hp) xn ?_))<;>with_reducible refine wK ?_)
  | apply trivial));all_goals clear fct)
    ·have e:¬lo=n:=fun e=>hlo (.inl e)
     have hkn:lz lo=false:=by cases h:lz lo with|false=>rfl|true=>exact absurd (.inr h) hlo
     rw[hf (fun h=>hlo (gD h.1).2.1)]
     (have fct:=e;(repeat' (first
  |refine gF ?_|refine aE ?_ ?_
  | ((first
   |((with_reducible refine kQ 134 ?_);refine cL (eW hns hc) nI ?_)
   |((with_reducible refine kQ 141 ?_);refine cL (p9 hkn) GC ?_))<;>with_reducible refine wK ?_)
  |apply trivial));all_goals clear fct)
 ·have hkl:k=l.length:=by simp only[hlm,bh] at h1;omega
  subst hkl
  have hdefs:fV l=true:=hok hno
  have hrw:r=gI l nx (-1) ws:=by
   cases hb:gI l nx (-1) ws with
   |true=>exact hrd.2 ⟨hdefs,hb,by omega,by omega⟩
   |false=>cases r with|false=>rfl|true=>rw[(hrd.1 rfl).2.1] at hb;cases hb
  (have fct:=h1;(repeat' (first
  |refine gF ?_|refine aE ?_ ?_
  |apply trivial));all_goals clear fct)
  refine aR.use G aa (fun(i:Nat×Int)=>[(1,.ptr 10 0 0),(5,aj i.2),(6,aj i.1)]) (fun _=>[(10,.live 4 [cP ⟨l,ws,nx,bz⟩] false)]) (fun i=>i.1≤ws.length∧gI l nx i.2 (ws.drop i.1)=r) (fun i=>ws.length-i.1) (0,-1) ⟨Nat.zero_le _,hrw.symm⟩
   ⟨⟨rfl,rfl⟩,⟨⟨rfl,rfl⟩,rfl,rfl,trivial⟩,⟨⟨rfl,rfl,rfl,rfl,trivial⟩,trivial⟩,trivial⟩ ?_
  rintro⟨k,last⟩ ⟨hk,hI⟩
  simp only at hk hI
  with_reducible refine wK ?_
  refine aQ.mk (fun h2=>?_) (fun h2=>?_)<;>(try simp only[aq] at h2)<;>with_reducible refine wK ?_
  ·simp only[hwm,aL] at h2
   have hk':k<ws.length:=by omega
   obtain⟨⟨n,tk⟩,hx⟩:∃a,ws[k]? =some a:=⟨_,aP hk'⟩
   have hns:n.size≤100000:=Nat.le_trans (hwn _ (bn hx)) (by omega)
   rw[List.drop_eq_getElem_cons hk',(aZ hx).2,gI] at hI
   refine ak.mk k (yI ⟨n,tk⟩) rfl (rH hx) ?_;with_reducible refine wK ?_
   obtain⟨p,hp⟩:∃p,oy l n=p:=⟨_,rfl⟩
   cases hc:bM n with
   | false=>
     rw[show r=false by rw[←hI];unfold okW;simp[hc]]
     (have fct:=hc;(repeat' (first
  |refine gF ?_|refine aE ?_ ?_
  |(((with_reducible refine kQ 134 ?_);refine cL (eW hns hc) nI ?_)<;>with_reducible refine wK ?_)
  | apply trivial));all_goals clear fct)
   | true=>
     by_cases g1:p=-1
     ·by_cases g2:tk≤last
      ·rw[show r=false by rw[←hI];unfold okW;simp[show ¬last<tk from by omega]]
       (have fct:=And.intro g1 (g2);(repeat' (first
  |refine gF ?_|refine aE ?_ ?_
  | ((first
   |((with_reducible refine kQ 134 ?_);refine cL (eW hns hc) nI ?_)
   |((with_reducible refine kQ 142 ?_);refine cL (jw hsm hp) xn ?_))<;>with_reducible refine wK ?_)
  |apply trivial));all_goals clear fct)
      ·by_cases g3:nx≤tk
       ·rw[show r=false by rw[←hI];unfold okW;simp[show ¬tk<nx from by omega]]
        (have fct:=And.intro g1 (And.intro g2 (g3));(repeat' (first
  |refine gF ?_|refine aE ?_ ?_
  | ((first
   |((with_reducible refine kQ 134 ?_);refine cL (eW hns hc) nI ?_)
   |((with_reducible refine kQ 142 ?_);refine cL (jw hsm hp) xn ?_))<;>with_reducible refine wK ?_)
  |apply  trivial));all_goals clear fct)
       ·have hnext:gI l nx tk (ws.drop (k+1))=r:=by
         rw[←hI];unfold okW
         simp[hc,hp,g1,show last<tk from by omega,show tk<nx from by omega]
        (have fct:=And.intro g1 (And.intro g2 (g3));(repeat' (first
  |refine gF ?_|refine aE ?_ ?_
  | ((first
   |((with_reducible refine kQ 134 ?_);refine cL (eW hns hc) nI ?_)
   |((with_reducible refine kQ 142 ?_);refine cL (jw hsm hp) xn ?_)
   |((with_reducible show ay _ _);refine ay.mk (k+1,tk) ⟨by show k+1≤_;omega,hnext⟩ (by show ws.length- (k+1)<ws.length-k;omega) ⟨⟨rfl,rfl⟩,⟨⟨rfl,rfl⟩,rfl,by show((k+1:Nat):Int)=(k:Int)+1;omega,trivial⟩,⟨⟨rfl,rfl,rfl,rfl,trivial⟩,trivial⟩,trivial⟩))<;>with_reducible refine wK ?_)
  |apply trivial));all_goals clear fct)
     ·rw[show r=false by rw[←hI];unfold okW;simp[hp,g1]]
      (have fct:=g1;(repeat' (first
  |refine gF ?_|refine aE ?_ ?_
  | ((first
   |((with_reducible refine kQ 134 ?_);refine cL (eW hns hc) nI ?_)
   |((with_reducible refine kQ 142 ?_);refine cL (jw hsm hp) xn ?_))<;>with_reducible refine wK ?_)
  |apply trivial));all_goals clear fct)
  ·have hkl:k=ws.length:=by simp only[hwm,bh] at h2;omega
   subst hkl
   rw[List.drop_length] at hI
   rw[←hI,show gI l nx last []=true from by simp[gI]]
   (have fct:=h2;(repeat' (first
  |refine gF ?_|refine aE ?_ ?_
  |apply trivial));all_goals clear fct)
theorem K6 (d:bj)(h:fH d)(a b:ByteArray):af Tryz.prog 255 [] [cP d,bG a,bG b] [] (aj (oT d.defs a b)):=by
 have hl:=h.defs
 unfold oT
 obtain⟨l,ws,nx,bz⟩:=d
 simp only at hl ⊢
 have hlm:(l.map j5).length=l.length:=aM ..
 refine af.ah (rvs:=[.tmp 6]) G aa Tryz.func255 rfl Tryz.ntmps255 rfl rfl ?_;with_reducible refine wD ?_
 refine aR.use G aa (fun(k:Nat)=>[(1,bG a),(2,bG b),(3,.ptr 30 0 0),(7,aj k)]) (fun _=>[(30,.live 4 [cP ⟨l,ws,nx,bz⟩] false)]) (fun k=>k≤l.length∧∀ (j:Nat) (y:bH),j<k→l[j]? =some y→j4 a a y=false) (fun k=>l.length-k) 0 ⟨Nat.zero_le _,fun j b hj=>by omega⟩
  ⟨⟨rfl,rfl⟩,⟨rfl,rfl,⟨rfl,rfl⟩,rfl,trivial⟩,⟨⟨rfl,rfl,rfl,rfl,trivial⟩,trivial⟩,trivial⟩ ?_
 intro k ⟨hk,hno⟩
 with_reducible refine wK ?_
 refine aQ.mk (fun h1=>?_) (fun h1=>?_)<;>(try simp only[aq] at h1)<;>with_reducible refine wK ?_
 ·simp only[hlm,aL] at h1
  have hk':k<l.length:=by omega
  obtain⟨⟨n,lo,c⟩,hx⟩:∃a,l[k]? =some a:=⟨_,aP hk'⟩
  refine ak.mk k (iA ⟨n,lo,c⟩) rfl (cK hx) ?_;with_reducible refine wK ?_
  by_cases e:lo=a
  ·by_cases e2:n=a
   ·have hp:zH (j4 a a) l=k:=pO hx (by unfold j4;simp[e,e2]) hno
    rw[hp,if_pos (by omega)]
    (have fct:=And.intro e (e2);(repeat' (first
  |refine gF ?_|refine aE ?_ ?_
  |(((with_reducible show ak _ _ _ _ _);refine ak.mk k (iA ⟨n,lo,c⟩) rfl (cK hx) ?_)<;>with_reducible refine wK ?_)
  | apply trivial));all_goals clear fct)
   ·(have fct:=And.intro e (e2);(repeat' (first
  |refine gF ?_|refine aE ?_ ?_
  | ((first
   |((with_reducible show ak _ _ _ _ _);refine ak.mk k (iA ⟨n,lo,c⟩) rfl (cK hx) ?_)
   |((with_reducible show ay _ _);refine ay.mk (k+1) ⟨by omega,iC (P:=fun y=>j4 a a y=false) hno hx (by unfold j4;simp[e2])⟩ (by omega) ⟨⟨rfl,rfl⟩,⟨rfl,rfl,⟨rfl,rfl⟩,by show((k+1:Nat):Int)=(k:Int)+1;omega,trivial⟩,⟨⟨rfl,rfl,rfl,rfl,trivial⟩,trivial⟩,trivial⟩))<;>with_reducible refine wK ?_)
  |apply trivial));all_goals clear fct)
  ·(have fct:=e;(repeat' (first
  |refine gF ?_|refine aE ?_ ?_
  |(((with_reducible show ay _ _);refine ay.mk (k+1) ⟨by omega,iC (P:=fun y=>j4 a a y=false) hno hx (by unfold j4;simp[e])⟩ (by omega) ⟨⟨rfl,rfl⟩,⟨rfl,rfl,⟨rfl,rfl⟩,by show((k+1:Nat):Int)=(k:Int)+1;omega,trivial⟩,⟨⟨rfl,rfl,rfl,rfl,trivial⟩,trivial⟩,trivial⟩)<;>with_reducible refine wK ?_)
  |apply trivial));all_goals clear fct)
 ·have hkl:k=l.length:=by simp only[hlm,bh] at h1;omega
  subst hkl
  have hp:zH (j4 a a) l=-1:=uW hno
  rw[hp,if_neg (by omega)]
  (have fct:=hlm;(repeat' (first
  |refine gF ?_|refine aE ?_ ?_
  |apply trivial));all_goals clear fct)
  refine aR.use G aa (fun(k:Nat)=>[(1,bG a),(2,bG b),(3,.ptr 30 0 0),(8,aj k)]) (fun _=>[(30,.live 4 [cP ⟨l,ws,nx,bz⟩] false)]) (fun k=>k≤l.length∧∀ (j:Nat) (y:bH),j<k→l[j]? =some y→j4 a b y=false) (fun k=>l.length-k) 0 ⟨Nat.zero_le _,fun j b hj=>by omega⟩
   ⟨⟨rfl,rfl⟩,⟨rfl,rfl,⟨rfl,rfl⟩,rfl,trivial⟩,⟨⟨rfl,rfl,rfl,rfl,trivial⟩,trivial⟩,trivial⟩ ?_
  intro k ⟨hk,hno⟩
  with_reducible refine wK ?_
  refine aQ.mk (fun h2=>?_) (fun h2=>?_)<;>(try simp only[aq] at h2)<;>with_reducible refine wK ?_
  ·simp only[hlm,aL] at h2
   have hk':k<l.length:=by omega
   obtain⟨⟨n,lo,c⟩,hx⟩:∃a,l[k]? =some a:=⟨_,aP hk'⟩
   refine ak.mk k (iA ⟨n,lo,c⟩) rfl (cK hx) ?_;with_reducible refine wK ?_
   by_cases e:lo=a
   ·by_cases e2:n=b
    ·have hp:zH (j4 a b) l=k:=pO hx (by unfold j4;simp[e,e2]) hno
     rw[hp]
     (have fct:=And.intro e (e2);(repeat' (first
  |refine gF ?_|refine aE ?_ ?_
  |(((with_reducible show ak _ _ _ _ _);refine ak.mk k (iA ⟨n,lo,c⟩) rfl (cK hx) ?_)<;>with_reducible refine wK ?_)
  | apply trivial));all_goals clear fct)
    ·(have fct:=And.intro e (e2);(repeat' (first
  |refine gF ?_|refine aE ?_ ?_
  | ((first
   |((with_reducible show ak _ _ _ _ _);refine ak.mk k (iA ⟨n,lo,c⟩) rfl (cK hx) ?_)
   |((with_reducible show ay _ _);refine ay.mk (k+1) ⟨by omega,iC (P:=fun y=>j4 a b y=false) hno hx (by unfold j4;simp[e2])⟩ (by omega) ⟨⟨rfl,rfl⟩,⟨rfl,rfl,⟨rfl,rfl⟩,by show((k+1:Nat):Int)=(k:Int)+1;omega,trivial⟩,⟨⟨rfl,rfl,rfl,rfl,trivial⟩,trivial⟩,trivial⟩))<;>with_reducible refine wK ?_)
  | apply trivial));all_goals clear fct)
   ·(have fct:=e;(repeat' (first
  |refine gF ?_|refine aE ?_ ?_
  |(((with_reducible show ay _ _);refine ay.mk (k+1) ⟨by omega,iC (P:=fun y=>j4 a b y=false) hno hx (by unfold j4;simp[e])⟩ (by omega) ⟨⟨rfl,rfl⟩,⟨rfl,rfl,⟨rfl,rfl⟩,by show((k+1:Nat):Int)=(k:Int)+1;omega,trivial⟩,⟨⟨rfl,rfl,rfl,rfl,trivial⟩,trivial⟩,trivial⟩)<;>with_reducible refine wK ?_)
  |apply trivial));all_goals clear fct)
  ·have hkl:k=l.length:=by simp only[hlm,bh] at h2;omega
   subst hkl
   have hp2:zH (j4 a b) l=-1:=uW hno
   rw[hp2]
   (have fct:=hlm;(repeat' (first
  |refine gF ?_|refine aE ?_ ?_
  |apply trivial));all_goals clear fct)
end Go.Proofs.Heir
section
namespace Go.Proofs.Heir
open Go Go.Am Go.RowKit Go.Lib
set_option maxRecDepth 100000
set_option maxHeartbeats 8000000
theorem mI {α:Type}{x y:List α}(hl:x.length=y.length)(h:∀j,j<x.length→x[j]? =y[j]?):x=y:=by
 refine List.ext_getElem? fun j=>?_
 rcases Nat.lt_or_ge j x.length with h6|h6
 ·exact h j h6
 ·rw[ri h6,ri (by omega)]
theorem mE {α:Type}{x y:List α}{k:Nat}(h:∀j,j<k→x[j]? =y[j]?)(hk:x[k]? =y[k]?):∀j,j<k+1→x[j]? =y[j]? :=fun j hj=>by
 by_cases e:j=k
 ·rw[e];exact hk
 ·exact h j (by omega)
set_option maxHeartbeats 8000000
def pD (x:bH):Bool:=decide (x.name.size≤300)&&decide (x.locl.size≤300)
def qU (w:lC):Bool:=decide (w.name.size≤300)
def oW (d:bj):Bool:=decide (d.defs.length≤40)&&decide (d.waits.length≤40)&&d.defs.all pD&&d.waits.all qU
theorem qF {d:bj}:oW d=true↔vW d:=by
 unfold oW pD qU
 simp only[aT,aL,List.all_eq_true]
 exact⟨fun h=>⟨h.1.1.1,h.1.1.2,h.1.2,h.2⟩,fun h=>⟨⟨⟨h.defs,h.waits⟩,h.names⟩,h.wnames⟩⟩
theorem A7 {α:Type}{p:α→Bool}{l:List α}(h:∀ (j:Nat) (b:α),j<l.length→l[j]? =some b→p b=true):l.all p=true:=by
 rw[List.all_eq_true]
 intro x hx
 obtain⟨j,hj⟩:=List.getElem?_of_mem hx
 exact h j x (aZ hj).1 hj
theorem xJ {α:Type}{p:α→Bool}{l:List α}{x:α}(hx:x∈l)(h:p x=false):l.all p=false:=by
 cases hh:l.all p with
 |false=>rfl
 |true=>rw[List.all_eq_true.1 hh x hx] at h;cases h
theorem NR (d:bj):af Tryz.prog 68 [] [cP d] [] (aA (oW d)):=by
 obtain⟨r,hr⟩:∃r,oW d=r:=⟨_,rfl⟩
 rw[hr]
 have hsh:=@qF d
 rw[hr] at hsh
 obtain⟨l,ws,nx,bz⟩:=d
 unfold oW at hr
 simp only at hr
 have hlm:(l.map j5).length=l.length:=aM ..
 have hwm:(ws.map uq).length=ws.length:=aM ..
 refine af.ah (rvs:=[.tmp 2]) G aa Tryz.func68 rfl Tryz.ntmps68 rfl rfl ?_;with_reducible refine wD ?_
 by_cases g1:l.length≤40
 ·by_cases g2:ws.length≤40
  ·(have fct:=And.intro hlm (And.intro hwm (And.intro g1 (g2)));(repeat' (first
  |refine gF ?_|refine aE ?_ ?_
  | apply trivial));all_goals clear fct)
   refine aR.use G aa (fun(k:Nat)=>[(1,.ptr 10 0 0),(3,aj k)]) (fun _=>[(10,.live 4 [cP ⟨l,ws,nx,bz⟩] false)]) (fun k=>k≤l.length∧∀ (j:Nat) (b:bH),j<k→l[j]? =some b→pD b=true) (fun k=>l.length-k) 0 ⟨Nat.zero_le _,fun j b hj=>by omega⟩
    ⟨⟨rfl,rfl⟩,⟨⟨rfl,rfl⟩,rfl,trivial⟩,⟨⟨rfl,rfl,rfl,rfl,trivial⟩,trivial⟩,trivial⟩ ?_
   intro k ⟨hk,hno⟩
   with_reducible refine wK ?_
   refine aQ.mk (fun h1=>?_) (fun h1=>?_)<;>(try simp only[aq] at h1)<;>with_reducible refine wK ?_
   ·simp only[hlm,aL] at h1
    have hk':k<l.length:=by omega
    obtain⟨⟨n,lo,c⟩,hx⟩:∃a,l[k]? =some a:=⟨_,aP hk'⟩
    have hf:pD ⟨n,lo,c⟩=false→r=false:=fun h=>by rw[←hr,xJ (bn hx) h];simp
    refine ak.mk k (iA ⟨n,lo,c⟩) rfl (cK hx) ?_;with_reducible refine wK ?_
    by_cases e1:n.size≤300
    ·by_cases e2:lo.size≤300
     ·(have fct:=And.intro e1 (e2);(repeat' (first
  |refine gF ?_|refine aE ?_ ?_
  | ((first
   |((with_reducible show ak _ _ _ _ _);refine ak.mk k (iA ⟨n,lo,c⟩) rfl (cK hx) ?_)
   |((with_reducible show ay _ _);refine ay.mk (k+1) ⟨by omega,iC (P:=fun b=>pD b=true) hno hx (by unfold pD;simp[e1,e2])⟩ (by omega) ⟨⟨rfl,rfl⟩,⟨⟨rfl,rfl⟩,by show((k+1:Nat):Int)=(k:Int)+1;omega,trivial⟩,⟨⟨rfl,rfl,rfl,rfl,trivial⟩,trivial⟩,trivial⟩))<;>with_reducible refine wK ?_)
  |apply trivial));all_goals clear fct)
     ·rw[hf (by unfold pD;simp[e2])]
      (have fct:=And.intro e1 (e2);(repeat' (first
  |refine gF ?_|refine aE ?_ ?_
  |(((with_reducible show ak _ _ _ _ _);refine ak.mk k (iA ⟨n,lo,c⟩) rfl (cK hx) ?_)<;>with_reducible refine wK ?_)
  | apply trivial));all_goals clear fct)
    ·rw[hf (by unfold pD;simp[e1])]
     (have fct:=e1;(repeat' (first
  |refine gF ?_|refine aE ?_ ?_
  | apply trivial));all_goals clear fct)
   ·have hkl:k=l.length:=by simp only[hlm,bh] at h1;omega
    subst hkl
    have hall1:=A7 hno
    (have fct:=hlm;(repeat' (first
  |refine gF ?_|refine aE ?_ ?_
  | apply trivial));all_goals clear fct)
    refine aR.use G aa (fun(k:Nat)=>[(1,.ptr 10 0 0),(4,aj k)]) (fun _=>[(10,.live 4 [cP ⟨l,ws,nx,bz⟩] false)]) (fun k=>k≤ws.length∧∀ (j:Nat) (b:lC),j<k→ws[j]? =some b→qU b=true) (fun k=>ws.length-k) 0 ⟨Nat.zero_le _,fun j b hj=>by omega⟩
     ⟨⟨rfl,rfl⟩,⟨⟨rfl,rfl⟩,rfl,trivial⟩,⟨⟨rfl,rfl,rfl,rfl,trivial⟩,trivial⟩,trivial⟩ ?_
    intro k ⟨hk,hno⟩
    with_reducible refine wK ?_
    refine aQ.mk (fun h2=>?_) (fun h2=>?_)<;>(try simp only[aq] at h2)<;>with_reducible refine wK ?_
    ·simp only[hwm,aL] at h2
     have hk':k<ws.length:=by omega
     obtain⟨⟨n,t⟩,hx⟩:∃a,ws[k]? =some a:=⟨_,aP hk'⟩
     have hf:qU ⟨n,t⟩=false→r=false:=fun h=>by rw[←hr,xJ (bn hx) h];simp
     refine ak.mk k (yI ⟨n,t⟩) rfl (rH hx) ?_;with_reducible refine wK ?_
     by_cases e1:n.size≤300
     ·(have fct:=e1;(repeat' (first
  |refine gF ?_|refine aE ?_ ?_
  |(((with_reducible show ay _ _);refine ay.mk (k+1) ⟨by omega,iC (P:=fun b=>qU b=true) hno hx (by unfold qU;simp[e1])⟩ (by omega) ⟨⟨rfl,rfl⟩,⟨⟨rfl,rfl⟩,by show((k+1:Nat):Int)=(k:Int)+1;omega,trivial⟩,⟨⟨rfl,rfl,rfl,rfl,trivial⟩,trivial⟩,trivial⟩)<;>with_reducible refine wK ?_)
  |apply trivial));all_goals clear fct)
     ·rw[hf (by unfold qU;simp[e1])]
      (have fct:=e1;(repeat' (first
  |refine gF ?_|refine aE ?_ ?_
  | apply trivial));all_goals clear fct)
    ·have hkl:k=ws.length:=by simp only[hwm,bh] at h2;omega
     subst hkl
     have hall2:=A7 hno
     rw[show r=true by rw[←hr,hall1,hall2];simp[g1,g2]]
     (have fct:=hwm;(repeat' (first
  |refine gF ?_|refine aE ?_ ?_
  |apply trivial));all_goals clear fct)
  ·rw[show r=false by rw[←hr];simp[g2]]
   (have fct:=And.intro hlm (And.intro hwm (And.intro g1 (g2)));(repeat' (first
  |refine gF ?_|refine aE ?_ ?_
  |apply trivial));all_goals clear fct)
 ·rw[show r=false by rw[←hr];simp[g1]]
  (have fct:=And.intro hlm (g1);(repeat' (first
  |refine gF ?_|refine aE ?_ ?_
  |apply trivial));all_goals clear fct)
theorem Dh (a b:List Int)(ha:a.length≤100000):af Tryz.prog 44 [] [bQ a,bQ b] [] (aA (decide (a=b))):=by
 have hlm:(a.map bB).length=a.length:=aM ..
 have hlm':(b.map bB).length=b.length:=aM ..
 refine af.ah (rvs:=[.tmp 4]) G aa Tryz.func44 rfl Tryz.ntmps44 rfl rfl ?_;with_reducible refine wD ?_
 by_cases g1:a.length=b.length
 ·(have fct:=And.intro hlm (And.intro hlm' (g1));(repeat' (first
  |refine gF ?_|refine aE ?_ ?_
  |apply trivial));all_goals clear fct)
  refine aR.use G aa (fun(k:Nat)=>[(0,bQ a),(1,bQ b),(5,aj k)]) (fun _=>[]) (fun k=>k≤a.length∧∀j,j<k→a[j]? =b[j]?) (fun k=>a.length-k) 0 ⟨Nat.zero_le _,fun j hj=>by omega⟩
   ⟨⟨rfl,rfl⟩,⟨rfl,rfl,rfl,trivial⟩,trivial⟩ ?_
  intro k ⟨hk,hno⟩
  with_reducible refine wK ?_
  refine aQ.mk (fun h1=>?_) (fun h1=>?_)<;>(try simp only[aq] at h1)<;>with_reducible refine wK ?_
  ·simp only[hlm,aL] at h1
   have hk':k<a.length:=by omega
   obtain⟨x,hx⟩:∃x,a[k]? =some x:=⟨_,aP hk'⟩
   obtain⟨y,hy⟩:∃y,b[k]? =some y:=⟨_,aP (by omega)⟩
   refine ak.mk k (aj x) rfl (dG hx) ?_;with_reducible refine wK ?_
   refine ak.mk k (aj y) rfl (dG hy) ?_;with_reducible refine wK ?_
   by_cases e:x=y
   ·(have fct:=e;(repeat' (first
  |refine gF ?_|refine aE ?_ ?_
  |(((with_reducible show ay _ _);refine ay.mk (k+1) ⟨by omega,mE hno (by rw[hx,hy,e])⟩ (by omega) ⟨⟨rfl,rfl⟩,⟨rfl,rfl,by show((k+1:Nat):Int)=(k:Int)+1;omega,trivial⟩,trivial⟩)<;>with_reducible refine wK ?_)
  | apply trivial));all_goals clear fct)
   ·rw[show decide (a=b)=false from aS fun h=>e (by rw[h] at hx;rw[hx] at hy;exact Option.some.inj hy)]
    (have fct:=e;(repeat' (first
  |refine gF ?_|refine aE ?_ ?_
  |apply trivial));all_goals clear fct)
  ·have hkl:k=a.length:=by simp only[hlm,bh] at h1;omega
   subst hkl
   rw[show decide (a=b)=true from aV (mI g1 hno)]
   (have fct:=hlm;(repeat' (first
  |refine gF ?_|refine aE ?_ ?_
  |apply trivial));all_goals clear fct)
 ·rw[show decide (a=b)=false from aS fun h=>g1 (by rw[h])]
  (have fct:=And.intro hlm (And.intro hlm' (g1));(repeat' (first
  |refine gF ?_|refine aE ?_ ?_
  |apply trivial));all_goals clear fct)
end Go.Proofs.Heir
end
namespace Go.Proofs.Heir
open Go Go.Am Go.RowKit Go.Lib
set_option maxRecDepth 100000
def tQ (s i:ByteArray):Int:=if(!decide (i=⟨#[]⟩)||bM s)=true then 1 else 0
theorem yG {i:ByteArray}:i.size=0↔i=⟨#[]⟩:=by
 constructor
 ·intro h
  obtain⟨⟨l⟩⟩:=i
  have:l.length=0:=h
  rw[List.eq_nil_of_length_eq_zero this]
 ·rintro rfl;rfl
theorem OJ (s i:ByteArray):af Tryz.prog 41 [] [bG s,bG i] [] (aj (tQ s i)):=by
 have h42:=Aa s
 unfold tQ
 refine af.ah (rvs:=[.tmp 4]) G aa Tryz.func41 rfl Tryz.ntmps41 rfl rfl ?_;with_reducible refine wD ?_
 cases e:decide (i=⟨#[]⟩) with
 | true=>
   cases hc:bM s<;>rw[hc] at h42<;>(have fct:=e;(repeat' (first
  |refine gF ?_|refine aE ?_ ?_
  |(((with_reducible refine kQ 109 ?_);refine cL h42 qe ?_)<;>with_reducible refine wK ?_)
  | apply trivial))                            ;all_goals clear fct)
   all_goals rfl
 | false=>
   (have fct:=e;(repeat' (first
  |refine gF ?_|refine aE ?_ ?_
  | apply trivial));all_goals clear fct)
   all_goals rfl
theorem Lz (s i:ByteArray):af Tryz.prog 161 [] [bG s,bG i] [] (aj (tQ s i)):=by
 have h43:=Eh s
 unfold tQ
 refine af.ah (rvs:=[.tmp 4]) G aa Tryz.func161 rfl Tryz.ntmps161 rfl rfl ?_;with_reducible refine wD ?_
 refine cL h43 nI ?_;with_reducible refine wK ?_
 cases hc:bM s with
 | true=>
   rw[Bool.or_true,if_pos rfl]
   repeat' (first
  |refine gK ?_|refine aE ?_ ?_
  |apply trivial)
 | false=>
   rw[Bool.or_false]
   by_cases e:i.size=0
   ·rw[aV (yG.1 e)]
    (have fct:=e;(repeat' (first
  |refine gF ?_|refine aE ?_ ?_
  | apply trivial));all_goals clear fct)
    all_goals rfl
   ·rw[aS (fun h=>e (yG.2 h))]
    (have fct:=(show 0<i.size by omega);(repeat' (first
  |refine gF ?_|refine aE ?_ ?_
  | apply trivial));all_goals clear fct)
    all_goals rfl
def mg (x:az)(d:bj):Int:=if x.kind=1∧x.doc=0 then findD d x.name x.is else-1
theorem MZ (x:az)(d:bj)(h:fH d):af Tryz.prog 125 [] [aO x,cP d] [] (aj (mg x d)):=by
 have h78:=LR d h x.name x.is
 obtain⟨a1,a2,a3,a4,a5,a6,a7,a8,a9,a10⟩:=x
 obtain⟨d1,d2,d3,d4⟩:=d
 unfold mg
 simp only at h78 ⊢
 refine af.ah (rvs:=[.tmp 4]) G aa Tryz.func125 rfl Tryz.ntmps125 rfl rfl ?_;with_reducible refine wD ?_
 by_cases e1:a1=1
 ·subst e1
  by_cases e2:a10=0
  ·subst e2
   rw[if_pos ⟨rfl,rfl⟩]
   repeat' (first
  |refine gK ?_|refine aE ?_ ?_
  |(((with_reducible refine kQ 192 ?_);refine cL h78 Rh ?_)<;>with_reducible refine wK ?_)
  |apply trivial)
  ·rw[if_neg fun h=>e2 h.2]
   (have fct:=e2;(repeat' (first
  |refine gF ?_|refine aE ?_ ?_
  |apply trivial));all_goals clear fct)
 ·rw[if_neg fun h=>e1 h.1]
  (have fct:=e1;(repeat' (first
  |refine gF ?_|refine aE ?_ ?_
  |apply trivial));all_goals clear fct)
def mC (f:ForM)(n:Int)(d:bj):Int:=if(ai f.nodes n&&bf f)=true then mg (nd f.nodes n) d else-1
theorem OO (f:ForM)(hs:bR f.nodes)(n:Int)(d:bj)(h:fH d):af Tryz.prog 58 [] [bD f,aj n,cP d] [] (aj (mC f n d)):=by
 have h48:=kf f hs
 have h49:=fun x=>MZ x d h
 obtain⟨l,m⟩:=f
 obtain⟨d1,d2,d3,d4⟩:=d
 have hlm:(l.map bP).length=l.length:=aM ..
 unfold mC
 simp only at h48 h49 ⊢
 refine af.ah (rvs:=[.tmp 6]) G aa Tryz.func58 rfl Tryz.ntmps58 rfl rfl ?_;with_reducible refine wD ?_
 by_cases e1:n<0
 ·have e:ai l n=false:=by unfold ai;rw[aS (show ¬0≤n by omega)];rfl
  rw[e,Bool.false_and,if_neg (by simp)]
  (have fct:=e1;(repeat' (first
  |refine gF ?_|refine aE ?_ ?_
  |apply trivial));all_goals clear fct)
 by_cases e2:(l.length:Int)≤n
 ·have e:ai l n=false:=by unfold ai;rw[aS (show ¬n< (l.length:Int) by omega)];simp
  rw[e,Bool.false_and,if_neg (by simp)]
  (have fct:=And.intro hlm (And.intro (eq_false e1) (e2));(repeat' (first
  |refine gF ?_|refine aE ?_ ?_
  |apply trivial));all_goals clear fct)
 have e:ai l n=true:=by unfold ai;simp;omega
 rw[e,Bool.true_and]
 cases hr:bf ⟨l,m⟩ with
 | false=>
   rw[hr] at h48
   rw[if_neg (by simp)]
   (have fct:=And.intro hlm (And.intro (eq_false e1) ((eq_false e2)));(repeat' (first
  |refine gF ?_|refine aE ?_ ?_
  |(((with_reducible refine kQ 100 ?_);refine cL h48 mQ ?_)<;>with_reducible refine wK ?_)
  |apply trivial));all_goals clear fct)
 | true=>
   rw[hr] at h48
   rw[if_pos rfl]
   obtain⟨k,x,rfl,hx,hnx⟩:=aX.1 e
   have h49:=h49 x
   rw[hnx]
   obtain⟨a1,a2,a3,a4,a5,a6,a7,a8,a9,a10⟩:=x
   (have fct:=And.intro hlm (And.intro (eq_false e1) ((eq_false e2)));(repeat' (first
  |refine gF ?_|refine aE ?_ ?_
  | ((first
   |((with_reducible refine kQ 100 ?_);refine cL h48 mQ ?_)
   |((with_reducible show ak _ _ _ _ _);refine ak.mk k (aO _) rfl (au hx) ?_)
   |((with_reducible refine kQ 125 ?_);refine cL h49 QT ?_))<;>with_reducible refine wK ?_)
  |apply trivial));all_goals clear fct)
end Go.Proofs.Heir
namespace Go.Proofs.Heir
open Go Go.Am Go.RowKit Go.Lib
set_option maxRecDepth 100000
set_option maxHeartbeats 8000000



theorem Kh (f:ForM)(n:Nat)(x:az)(hx:f.nodes[n]? =some x)(d:bj)(h:fH d)(hr:dU d=true):af Tryz.prog 223 [] [bD f,aj n,cP d] [] (aj (mg x d)):=by
 have h52:=K6 d h x.name x.is
 obtain⟨l,m⟩:=f
 obtain⟨a1,a2,a3,a4,a5,a6,a7,a8,a9,a10⟩:=x
 unfold mg findD
 rw[if_pos hr]
 obtain⟨d1,d2,d3,d4⟩:=d
 simp only at h52 hx ⊢
 refine af.ah (rvs:=[.tmp 6]) G aa Tryz.func223 rfl Tryz.ntmps223 rfl rfl ?_;with_reducible refine wD ?_
 refine ak.mk n (aO _) rfl (au hx) ?_;with_reducible refine wK ?_
 by_cases e1:a1=1
 ·subst e1
  by_cases e2:a10=0
  ·subst e2
   rw[if_pos ⟨rfl,rfl⟩]
   repeat' (first
  |refine gK ?_|refine aE ?_ ?_
  |(((with_reducible refine kQ 255 ?_);refine cL h52 Ry ?_)<;>with_reducible refine wK ?_)
  |apply trivial)
  ·rw[if_neg fun h=>e2 h.2]
   (have fct:=e2;(repeat' (first
  |refine gF ?_|refine aE ?_ ?_
  |apply trivial));all_goals clear fct)
 ·rw[if_neg fun h=>e1 h.1]
  (have fct:=e1;(repeat' (first
  |refine gF ?_|refine aE ?_ ?_
  |apply trivial));all_goals clear fct)


theorem Iq {α:Type}(p:α→Bool)(l:List α): -1≤zH p l:=by
 unfold zH
 split<;>omega
theorem E0 (x:az)(d:bj): -1≤mg x d:=by
 have hf: -1≤oT d.defs x.name x.is:=by
  unfold oT
  split
  ·exact Iq _ _
  ·exact Iq _ _
 unfold mg findD
 split
 ·split
  ·exact hf
  ·omega
 ·omega
structure AP where
 kind:Int
 a:Int
 b:Int
 c:Int
 s:ByteArray
 t:ByteArray
 must:Bool
 deriving DecidableEq
@[reducible] def QA (x : AP) : AV := .agg [aj x.kind, aj x.a, aj x.b, aj x.c, bG x.s, bG x.t, aA x.must]
def C6 (x:AP):AV:=QA x
@[reducible] def xl (l : List AP) : AV := .sl 7 (l.map C6)
structure dn where
 kind:Int
 prog:List AP
 deriving DecidableEq
@[reducible] def iF (x : dn) : AV := .agg [aj x.kind, xl x.prog]
def jk (x:dn):AV:=iF x
@[reducible] def ni (l : List dn) : AV := .sl 2 (l.map jk)
structure aI where
 form:Bool
 watch:List ByteArray
 peek:List AP
 make:List AP
 hooks:List dn
 deriving DecidableEq
@[reducible] def bK (x : aI) : AV := .agg [aA x.form, qi x.watch, xl x.peek, xl x.make, ni x.hooks]
def cZ (x:aI):AV:=bK x
@[reducible] def bF (l : List aI) : AV := .sl 5 (l.map cZ)
structure StateM where
 phase:Int
 df:Int
 owner:Int
 barred:Bool
 deriving DecidableEq
@[reducible] def cf (x : StateM) : AV := .agg [aj x.phase, aj x.df, aj x.owner, aA x.barred]
def cr (x:StateM):AV:=cf x
@[reducible] def dF (l : List StateM) : AV := .sl 4 (l.map cr)
structure dP where
 kind:Int
 node:Int
 src:Int
 dst:Int
 name:ByteArray
 had:Bool
 has:Bool
 old:ByteArray
 new:ByteArray
 deriving DecidableEq
@[reducible] def uw (x : dP) : AV := .agg [aj x.kind, aj x.node, aj x.src, aj x.dst, bG x.name, aA x.had, aA x.has, bG x.old, bG x.new]
def wY (x:dP):AV:=uw x
@[reducible] def fZ (l : List dP) : AV := .sl 9 (l.map wY)
structure bw where
 kind:Int
 df:Int
 name:ByteArray
 had:Bool
 has:Bool
 old:ByteArray
 new:ByteArray
 src:Int
 dst:Int
 on:Bool
 deriving DecidableEq
@[reducible] def fR (x : bw) : AV := .agg [aj x.kind, aj x.df, bG x.name, aA x.had, aA x.has, bG x.old, bG x.new, aj x.src, aj x.dst, aA x.on]
def w4:bw:=⟨0,0,⟨#[]⟩,false,false,⟨#[]⟩,⟨#[]⟩,0,0,false⟩
structure ck where
 node:Int
 todo:bw
 deriving DecidableEq
@[reducible] def gL (x : ck) : AV := .agg [aj x.node, aj x.todo.kind, aj x.todo.df, bG x.todo.name, aA x.todo.had, aA x.todo.has, bG x.todo.old, bG x.todo.new, aj x.todo.src, aj x.todo.dst, aA x.todo.on]
def fU (x:ck):AV:=gL x
@[reducible] def dX (l : List ck) : AV := .sl 11 (l.map fU)
@[reducible] def di (l : List ck) : MS := .live 11 (l.map fU) false
theorem aF (l:List ck):aU (l.map fU)=true:=dS fU (fun _=>rfl) l
theorem kB {m:ML}{fz:Nat→Bool}{cI:List (Nat×Nat)}{n t len:Nat}{ro:Bool}{rows:List AV}{l:List ck}(h1:eC m t=.live 11 rows ro)(h2:fz t=true)(h3:rows=l.map fU)(h4:len=l.length):o6 m fz (MF cI fz m n) (dX l) t 0 len:=by
 subst h3;subst h4
 have e:(l.map fU).length=l.length:=aM ..
 exact .cut h1 h2 (by omega) (by rw[List.drop_zero,jH (by omega)]) (aF l)
theorem I1 {l:List AP}{k:Nat}{x:AP}(h:l[k]? =some x):(l.map C6)[k]? =some (QA x):=by rw[dM,h];rfl
theorem eu {l:List dn}{k:Nat}{x:dn}(h:l[k]? =some x):(l.map jk)[k]? =some (iF x):=by rw[dM,h];rfl
theorem cU {l:List aI}{k:Nat}{x:aI}(h:l[k]? =some x):(l.map cZ)[k]? =some (bK x):=by rw[dM,h];rfl
theorem bN {l:List StateM}{k:Nat}{x:StateM}(h:l[k]? =some x):(l.map cr)[k]? =some (cf x):=by rw[dM,h];rfl
theorem sx {l:List dP}{k:Nat}{x:dP}(h:l[k]? =some x):(l.map wY)[k]? =some (uw x):=by rw[dM,h];rfl
theorem oK {l:List ck}{k:Nat}{x:ck}(h:l[k]? =some x):(l.map fU)[k]? =some (gL x):=by rw[dM,h];rfl
theorem Fo (l:List AP):aU (l.map C6)=true:=dS C6 (fun _=>rfl) l
theorem DR (x:dn):bt (jk x)=true:=by
 show bt (.agg [aj x.kind,.sl 7 (x.prog.map C6)])=true
 simp[bt,aU,Fo]
def wT (l:List dn)(k:Int):Option dn:=l.find? fun h=>decide (h.kind=k)
def pE (l:List dn):List (Int×dn):=l.reverse.foldl (fun t h=>eE h.kind h t) []
theorem vi (k:Int):∀l:List dn,dx k (pE l)=wT l k
 |[]=>rfl
 | h::r=>by
   have e:pE (h::r)=eE h.kind h (pE r):=by unfold pE;rw[List.reverse_cons,List.foldl_append];rfl
   rw[e,fI,vi k r]
   unfold wT
   rw[List.find?_cons]
   by_cases e:h.kind=k
   ·rw[if_pos e,aV e]
   ·rw[if_neg e,aS e]
def cm (c:aI)(k:Int):Bool:=(wT c.hooks k).isSome
def I5 (c:aI)(k:Int):List AP:=match wT c.hooks k with
 |some h=>h.prog
 |none=>[]
def gW (c:aI)(s:ByteArray):Bool:=cm c 4&&jU c.watch s
def cG (s:StateM)(d:bj)(n:Nat):Int:=if 0≤s.df then match d.defs[s.df.toNat]? with
  |some x=>if 0≤x.cls∧x.cls<n then x.cls else-1
  |none=> -1
 else-1
def sj:aI:=⟨false,[],[],[],[]⟩
def ct (s:StateM)(d:bj)(cs:List aI):aI:=if 0≤cG s d cs.length then(cs[(cG s d cs.length).toNat]?).getD sj else sj
def iq (s:StateM)(d:bj)(cs:List aI):Bool:=decide (0≤cG s d cs.length)
theorem jy (s:StateM)(d:bj)(n:Nat):cG s d n=-1∨∃k:Nat,k<n∧cG s d n=k:=by
 unfold cG
 split
 ·split
  ·split
   ·rename_i h;exact .inr ⟨_,by omega,(Int.toNat_of_nonneg h.1).symm⟩
   ·exact .inl rfl
  ·exact .inl rfl
 ·exact .inl rfl
structure Nw where
 f:ForM
 states:List StateM
 desk:bj
 classes:List aI
@[reducible] def D6 (v : Nw) : AV := .agg [fE v.f.nodes, aj v.f.most, dF v.states, o9 v.desk.defs, pC v.desk.waits, aj v.desk.next, aA v.desk.busy, bF v.classes]
def elemV (l:List az)(n:Int):Bool:=ai l n&&decide ((nd l n).kind=1)
def zu (x:dP):bw:=⟨x.kind,0,x.name,x.had,x.has,x.old,x.new,x.src,x.dst,false⟩
def ji (f:ForM)(s:StateM)(d:bj)(cs:List aI)(x:dP):bw×Bool:=
 if s.phase=1 then(⟨9,mC f x.node d,⟨#[]⟩,false,false,⟨#[]⟩,⟨#[]⟩,0,0,false⟩,decide (x.kind=1)&& !decide (mC f x.node d=-1))
 else if s.phase=3 then
  if x.kind=4 then(zu x,(iq s d cs&&gW (ct s d cs) x.name)&&cm (ct s d cs) x.kind)
  else if x.kind=1∨x.kind=2∨x.kind=3 then(zu x,iq s d cs&&cm (ct s d cs) x.kind)
  else(w4,false)
 else(w4,false)
end Go.Proofs.Heir
namespace Go.Proofs.Heir
open Go Go.Am Go.RowKit Go.Lib
set_option maxRecDepth 100000
set_option maxHeartbeats 8000000
set_option maxHeartbeats 8000000
def ef (x:bw):AV:=fR x
@[reducible] def cJ (l : List bw) : AV := .sl 10 (l.map ef)
def bO (l:List bw):AV:=cJ l
@[reducible] def ic (l : List (List bw)) : AV := .sl 1 (l.map bO)
def dJ (l:List Int):AV:=bQ l
@[reducible] def mO (l : List (List Int)) : AV := .sl 1 (l.map dJ)
structure cq where
 todos:List (List bw)
 stack:List (List Int)
 back:List Int
 busy:Bool
structure gT where
 kind:Int
 ticket:Int
 df:Int
 deriving DecidableEq
structure iX where
 df:Int
 node:Int
 deriving DecidableEq
structure aH where
 f:ForM
 states:List StateM
 desk:bj
 line:cq
 tasks:List gT
 builds:List iX
 classes:List aI
@[reducible] def eT (l : cq) : AV := .agg [ic l.todos, mO l.stack, bQ l.back, aA l.busy]
@[reducible] def j0 (x : gT) : AV := .agg [aj x.kind, aj x.ticket, aj x.df]
def dO (x:gT):AV:=j0 x
@[reducible] def oh (l : List gT) : AV := .sl 3 (l.map dO)
@[reducible] def iV (x : iX) : AV := .agg [aj x.df, aj x.node]
def iz (x:iX):AV:=iV x
@[reducible] def nB (l : List iX) : AV := .sl 2 (l.map iz)
@[reducible] def bk (w : aH) : AV := .agg [fE w.f.nodes, aj w.f.most, dF w.states, o9 w.desk.defs, pC w.desk.waits, aj w.desk.next, aA w.desk.busy, ic w.line.todos, mO w.line.stack, bQ w.line.back, aA w.line.busy, oh w.tasks, nB w.builds, bF w.classes]
theorem sN {l:List bw}{k:Nat}{x:bw}(h:l[k]? =some x):(l.map ef)[k]? =some (fR x):=by rw[dM,h];rfl
theorem cM {l:List (List bw)}{k:Nat}{x:List bw}(h:l[k]? =some x):(l.map bO)[k]? =some (cJ x):=by rw[dM,h];rfl
theorem gM {l:List (List Int)}{k:Nat}{x:List Int}(h:l[k]? =some x):(l.map dJ)[k]? =some (bQ x):=by rw[dM,h];rfl
theorem mJ {l:List gT}{k:Nat}{x:gT}(h:l[k]? =some x):(l.map dO)[k]? =some (j0 x):=by rw[dM,h];rfl
theorem iG {l:List iX}{k:Nat}{x:iX}(h:l[k]? =some x):(l.map iz)[k]? =some (iV x):=by rw[dM,h];rfl
theorem j7 (l:List bw):aU (l.map ef)=true:=dS ef (fun _=>rfl) l
theorem cE (l:List (List bw)):aU (l.map bO)=true:=dS bO (fun x=>by simp only[bO,bt,j7]) l
theorem ej (l:List (List Int)):aU (l.map dJ)=true:=dS dJ (fun x=>by simp only[dJ,bt,dS aj (fun _=>rfl) x]) l
theorem eR (l:List gT):aU (l.map dO)=true:=dS dO (fun _=>rfl) l
theorem lN (l:List aI):aU (l.map cZ)=true:=dS cZ (fun _=>rfl) l
def ik (l:cq)(n:Int):Bool:=decide (0≤n)&&decide (n< (l.todos.length:Int))
def sV (l:cq):Bool:=l.stack.all (fun s=>s.all (ik l))&&l.back.all (ik l)
def vK (l:cq)(n:Int):List bw:=(l.todos[n.toNat]?).getD []
def nn (l:cq):Bool:=((!l.busy&&decide (l.stack.length=0))&&decide (l.back.length=0))&& !(l.todos.any fun t=>decide (0<t.length))
def jN (l:cq):cq:=⟨l.todos++ [[]],l.stack,l.back,l.busy⟩
def ur (l:cq):List Int:=(l.stack[l.stack.length-1]?).getD []
def gu (l:cq)(n:Int)(t:bw):cq:=
 if l.stack=[] then⟨l.todos.set n.toNat (vK l n++ [t]),l.stack,l.back++ [n],true⟩
 else⟨l.todos.set n.toNat (vK l n++ [t]),l.stack.set (l.stack.length-1) (ur l++ [n]),l.back,l.busy⟩
def fA (l:cq):Bool:=decide (l.stack=[])&& !l.busy
structure rF (B:Nat) (l:cq):Prop where
 todos:l.todos.length≤B
 todo:∀t∈l.todos,t.length≤B
 stack:l.stack.length≤B
 list:∀t∈l.stack,t.length≤B
 back:l.back.length≤B
theorem rF.mono {B C:Nat}{l:cq}(h:rF B l)(hc:B≤C):rF C l:=
 ⟨Nat.le_trans h.1 hc,fun t ht=>Nat.le_trans (h.2 t ht) hc,Nat.le_trans h.3 hc,fun t ht=>Nat.le_trans (h.4 t ht) hc,Nat.le_trans h.5 hc⟩
theorem wJ {l:cq}{n:Int}{k:Nat}{t:List bw}(hn:n=k)(h:l.todos[k]? =some t):vK l n=t:=by unfold vK;rw[hn,Int.toNat_natCast,h];rfl
theorem DW {l:cq}{n:Int}(h:ik l n=true):∃ (k:Nat) (t:List bw),n=k∧k<l.todos.length∧l.todos[k]? =some t∧vK l n=t:=by
 unfold ik at h
 simp only[aT,aL] at h
 have hk:n.toNat<l.todos.length:=by omega
 exact⟨n.toNat,l.todos[n.toNat],by omega,hk,aP hk,by unfold vK;rw[aP hk];rfl⟩
theorem r5 {α:Type}{l:List α}{k:Nat}{x y:α}(h:y∈l.set k x):y∈l∨y=x:=List.mem_or_eq_of_mem_set h
theorem Jl {B:Nat}{l:cq}(h:rF B l)(n:Int):(vK l n).length≤B:=by
 unfold vK
 cases e:l.todos[n.toNat]? with
 |none=>exact Nat.zero_le _
 |some t=>exact h.todo t (bn e)
theorem FN {B:Nat}{l:cq}(h:rF B l):(ur l).length≤B:=by
 unfold ur
 cases e:l.stack[l.stack.length-1]? with
 |none=>exact Nat.zero_le _
 |some t=>exact h.list t (bn e)
theorem jE (l:cq)(n:Int)(t:bw):(gu l n t).todos=l.todos.set n.toNat (vK l n++ [t]):=by unfold gu;split<;>rfl
theorem lJ (l:cq)(n:Int)(t:bw):(gu l n t).stack=l.stack.set (l.stack.length-1) (ur l++ [n]):=by
 unfold gu;split
 ·rename_i h;rw[h];rfl
 ·rfl
theorem wv (l:cq)(n:Int)(t:bw):(gu l n t).back=if l.stack=[] then l.back++ [n] else l.back:=by unfold gu;split<;>rfl
theorem CT (l:cq)(n:Int)(t:bw):(gu l n t).busy=(decide (l.stack=[])||l.busy):=by
 unfold gu;split
 ·rename_i h;rw[aV h];rfl
 ·rename_i h;rw[aS h];rfl
theorem Io {B:Nat}{l:cq}(h:rF B l)(n:Int)(t:bw):rF (B+1) (gu l n t):=by
 refine⟨?_,?_,?_,?_,?_⟩
 ·rw[jE,List.length_set];exact Nat.le_succ_of_le h.1
 ·intro x hx
  rw[jE] at hx
  rcases r5 hx with e|e
  ·exact Nat.le_succ_of_le (h.todo x e)
  ·subst e;have:=Jl h n;rw[jg,List.length_singleton];omega
 ·rw[lJ,List.length_set];exact Nat.le_succ_of_le h.3
 ·intro x hx
  rw[lJ] at hx
  rcases r5 hx with e|e
  ·exact Nat.le_succ_of_le (h.list x e)
  ·subst e;have:=FN h;rw[jg,List.length_singleton];omega
 ·rw[wv]
  have:=h.back
  split
  ·rw[jg,List.length_singleton];omega
  ·omega
end Go.Proofs.Heir
namespace Go.Proofs.Heir
open Go Go.Am Go.RowKit Go.Lib
set_option maxRecDepth 100000
set_option maxHeartbeats 8000000
theorem nj {α:Type}(p:α→Bool)(l:List α):l.any p=decide (0≤fe p l):=by
 unfold fe
 cases h:l.findIdx? p with
 | none=>
   rw[List.findIdx?_eq_none_iff] at h
   have:l.any p=false:=by rw[List.any_eq_false];intro x hx;rw[h x hx];simp
   rw[this];rfl
 | some i=>
   rw[List.findIdx?_eq_some_iff_getElem] at h
   obtain⟨hi,h1,_⟩:=h
   have:l.any p=true:=List.any_eq_true.2 ⟨_,List.getElem_mem hi,h1⟩
   rw[this];exact(aV (Int.natCast_nonneg i)).symm
theorem OA (g:Nat)(cg:ae Tryz.prog g)(caps:List AV)(hcaps:aU caps=true)(p:ByteArray→Bool)(l:List ByteArray)(hl:l.length≤100000)(hf:∀a,a∈l→af Tryz.prog g [] (bG a::caps) [] (aA (p a))):
  af Tryz.prog 157 [] [qi l,.clo (.func g) [] caps] [] (aj (fe p l)):=by
 have hlm:(l.map jO).length=l.length:=aM ..
 refine af.ah (rvs:=[.tmp 4]) G aa Tryz.func157 rfl Tryz.ntmps157 rfl rfl ?_;with_reducible refine wD ?_
 refine aR.use G aa (fun(k:Nat)=>[(0,qi l),(1,.clo (.func g) [] caps),(7,aj l.length),(8,aj k)]) (fun _=>[]) (fun k=>k≤l.length∧∀j x,j<k→l[j]? =some x→p x=false) (fun k=>l.length-k) 0 ⟨Nat.zero_le _,fun j x h=>by omega⟩
  ⟨⟨rfl,rfl⟩,⟨rfl,⟨rfl,trivial,aJ hcaps⟩,by show(l.length:Int)=((l.map jO).length:Int);rw[hlm],rfl,trivial⟩,trivial⟩ ?_
 rintro k ⟨hk,hno⟩
 with_reducible refine wK ?_
 refine aQ.mk (fun h1=>?_) (fun h1=>?_)<;>(try simp only[aq] at h1)<;>with_reducible refine wK ?_
 ·simp only[aL] at h1
  have hk':k<l.length:=by omega
  obtain⟨a,ha⟩:∃a,l[k]? =some a:=⟨_,aP hk'⟩
  refine ak.mk k (bG a) rfl (gZ ha) ?_;with_reducible refine wK ?_
  refine aD.lit [] (hf a (bn ha)) cg ⟨rfl,aJ hcaps⟩ rfl rfl ?_;with_reducible refine wK ?_
  refine aQ.mk (fun h2=>?_) (fun h2=>?_)<;>(try simp only[aq] at h2)<;>with_reducible refine wK ?_
  ·(refine eK ?_ ?_<;>with_reducible repeat' (first|exact trivial|(show _∧_;refine aK ?_ ?_)))
   exact dL ha h2 hno
  ·refine nK ?_;with_reducible refine wK ?_
   refine ay.mk (k+1) ⟨by omega,fun j x hj hx=>?_⟩ (by omega) ⟨⟨rfl,rfl⟩,⟨rfl,⟨rfl,trivial,aJ hcaps⟩,rfl,by show((k+1:Nat):Int)=(k:Int)+1;omega,trivial⟩,trivial⟩
   rcases Nat.lt_or_ge j k with h6|h6
   ·exact hno j x h6 hx
   ·have:j=k:=by omega
    subst this
    rw[ha] at hx;cases hx;exact h2
 ·(refine eK ?_ ?_<;>with_reducible repeat' (first|exact trivial|(show _∧_;refine aK ?_ ?_)))
  have:k=l.length:=by simp only[bh] at h1;omega
  exact dm fun j x hx=>hno j x (by have:=(aZ hx).1;omega) hx
theorem NL (g:Nat)(cg:ae Tryz.prog g)(caps:List AV)(hcaps:aU caps=true)(p:ByteArray→Bool)(l:List ByteArray)(hl:l.length≤100000)(hf:∀a,a∈l→af Tryz.prog g [] (bG a::caps) [] (aA (p a))):
  af Tryz.prog 84 [] [qi l,.clo (.func g) [] caps] [] (aA (l.any p)):=by
 refine af.ah (rvs:=[.tmp 4]) G aa Tryz.func84 rfl Tryz.ntmps84 rfl rfl ?_;with_reducible refine wD ?_
 refine aD.lit [] (OA g cg caps hcaps p l hl hf) Rt ⟨rfl,⟨rfl,trivial,aJ hcaps⟩,trivial⟩ rfl rfl ?_;with_reducible refine wK ?_
 (refine eK ?_ ?_<;>with_reducible repeat' (first|exact trivial|(show _∧_;refine aK ?_ ?_)))
 exact nj p l
theorem MI (g:Nat)(cg:ae Tryz.prog g)(caps:List AV)(hcaps:aU caps=true)(p:dn→Bool)(l:List dn)(hl:l.length≤100000)(hf:∀a,a∈l→af Tryz.prog g [] (iF a::caps) [] (aA (p a))):
  af Tryz.prog 158 [] [ni l,.clo (.func g) [] caps] [] (aj (fe p l)):=by
 have hlm:(l.map jk).length=l.length:=aM ..
 refine af.ah (rvs:=[.tmp 4]) G aa Tryz.func158 rfl Tryz.ntmps158 rfl rfl ?_;with_reducible refine wD ?_
 refine aR.use G aa (fun(k:Nat)=>[(0,ni l),(1,.clo (.func g) [] caps),(7,aj l.length),(8,aj k)]) (fun _=>[]) (fun k=>k≤l.length∧∀j x,j<k→l[j]? =some x→p x=false) (fun k=>l.length-k) 0 ⟨Nat.zero_le _,fun j x h=>by omega⟩
  ⟨⟨rfl,rfl⟩,⟨rfl,⟨rfl,trivial,aJ hcaps⟩,by show(l.length:Int)=((l.map jk).length:Int);rw[hlm],rfl,trivial⟩,trivial⟩ ?_
 rintro k ⟨hk,hno⟩
 with_reducible refine wK ?_
 refine aQ.mk (fun h1=>?_) (fun h1=>?_)<;>(try simp only[aq] at h1)<;>with_reducible refine wK ?_
 ·simp only[aL] at h1
  have hk':k<l.length:=by omega
  obtain⟨a,ha⟩:∃a,l[k]? =some a:=⟨_,aP hk'⟩
  refine ak.mk k (iF a) rfl (eu ha) ?_;with_reducible refine wK ?_
  refine aD.lit [] (hf a (bn ha)) cg ⟨⟨rfl,rfl,trivial⟩,aJ hcaps⟩ rfl rfl ?_;with_reducible refine wK ?_
  refine aQ.mk (fun h2=>?_) (fun h2=>?_)<;>(try simp only[aq] at h2)<;>with_reducible refine wK ?_
  ·(refine eK ?_ ?_<;>with_reducible repeat' (first|exact trivial|(show _∧_;refine aK ?_ ?_)))
   exact dL ha h2 hno
  ·refine nK ?_;with_reducible refine wK ?_
   refine ay.mk (k+1) ⟨by omega,fun j x hj hx=>?_⟩ (by omega) ⟨⟨rfl,rfl⟩,⟨rfl,⟨rfl,trivial,aJ hcaps⟩,rfl,by show((k+1:Nat):Int)=(k:Int)+1;omega,trivial⟩,trivial⟩
   rcases Nat.lt_or_ge j k with h6|h6
   ·exact hno j x h6 hx
   ·have:j=k:=by omega
    subst this
    rw[ha] at hx;cases hx;exact h2
 ·(refine eK ?_ ?_<;>with_reducible repeat' (first|exact trivial|(show _∧_;refine aK ?_ ?_)))
  have:k=l.length:=by simp only[bh] at h1;omega
  exact dm fun j x hx=>hno j x (by have:=(aZ hx).1;omega) hx
theorem Kx (g:Nat)(cg:ae Tryz.prog g)(caps:List AV)(hcaps:aU caps=true)(p:dn→Bool)(l:List dn)(hl:l.length≤100000)(hf:∀a,a∈l→af Tryz.prog g [] (iF a::caps) [] (aA (p a))):
  af Tryz.prog 85 [] [ni l,.clo (.func g) [] caps] [] (aA (l.any p)):=by
 refine af.ah (rvs:=[.tmp 4]) G aa Tryz.func85 rfl Tryz.ntmps85 rfl rfl ?_;with_reducible refine wD ?_
 refine aD.lit [] (MI g cg caps hcaps p l hl hf) RS ⟨rfl,⟨rfl,trivial,aJ hcaps⟩,trivial⟩ rfl rfl ?_;with_reducible refine wK ?_
 (refine eK ?_ ?_<;>with_reducible repeat' (first|exact trivial|(show _∧_;refine aK ?_ ?_)))
 exact nj p l
theorem Mv (g:Nat)(cg:ae Tryz.prog g)(caps:List AV)(hcaps:aU caps=true)(p:aI→Bool)(l:List aI)(hl:l.length≤100000)(hf:∀a,a∈l→af Tryz.prog g [] (bK a::caps) [] (aA (p a))):
  af Tryz.prog 246 [] [bF l,.clo (.func g) [] caps] [] (aj (fe p l)):=by
 have hlm:(l.map cZ).length=l.length:=aM ..
 refine af.ah (rvs:=[.tmp 4]) G aa Tryz.func246 rfl Tryz.ntmps246 rfl rfl ?_;with_reducible refine wD ?_
 refine aR.use G aa (fun(k:Nat)=>[(0,bF l),(1,.clo (.func g) [] caps),(7,aj l.length),(8,aj k)]) (fun _=>[]) (fun k=>k≤l.length∧∀j x,j<k→l[j]? =some x→p x=false) (fun k=>l.length-k) 0 ⟨Nat.zero_le _,fun j x h=>by omega⟩
  ⟨⟨rfl,rfl⟩,⟨rfl,⟨rfl,trivial,aJ hcaps⟩,by show(l.length:Int)=((l.map cZ).length:Int);rw[hlm],rfl,trivial⟩,trivial⟩ ?_
 rintro k ⟨hk,hno⟩
 with_reducible refine wK ?_
 refine aQ.mk (fun h1=>?_) (fun h1=>?_)<;>(try simp only[aq] at h1)<;>with_reducible refine wK ?_
 ·simp only[aL] at h1
  have hk':k<l.length:=by omega
  obtain⟨a,ha⟩:∃a,l[k]? =some a:=⟨_,aP hk'⟩
  refine ak.mk k (bK a) rfl (cU ha) ?_;with_reducible refine wK ?_
  refine aD.lit [] (hf a (bn ha)) cg ⟨⟨rfl,rfl,rfl,rfl,rfl,trivial⟩,aJ hcaps⟩ rfl rfl ?_;with_reducible refine wK ?_
  refine aQ.mk (fun h2=>?_) (fun h2=>?_)<;>(try simp only[aq] at h2)<;>with_reducible refine wK ?_
  ·(refine eK ?_ ?_<;>with_reducible repeat' (first|exact trivial|(show _∧_;refine aK ?_ ?_)))
   exact dL ha h2 hno
  ·refine nK ?_;with_reducible refine wK ?_
   refine ay.mk (k+1) ⟨by omega,fun j x hj hx=>?_⟩ (by omega) ⟨⟨rfl,rfl⟩,⟨rfl,⟨rfl,trivial,aJ hcaps⟩,rfl,by show((k+1:Nat):Int)=(k:Int)+1;omega,trivial⟩,trivial⟩
   rcases Nat.lt_or_ge j k with h6|h6
   ·exact hno j x h6 hx
   ·have:j=k:=by omega
    subst this
    rw[ha] at hx;cases hx;exact h2
 ·(refine eK ?_ ?_<;>with_reducible repeat' (first|exact trivial|(show _∧_;refine aK ?_ ?_)))
  have:k=l.length:=by simp only[bh] at h1;omega
  exact dm fun j x hx=>hno j x (by have:=(aZ hx).1;omega) hx
theorem L7 (g:Nat)(cg:ae Tryz.prog g)(caps:List AV)(hcaps:aU caps=true)(p:aI→Bool)(l:List aI)(hl:l.length≤100000)(hf:∀a,a∈l→af Tryz.prog g [] (bK a::caps) [] (aA (p a))):
  af Tryz.prog 207 [] [bF l,.clo (.func g) [] caps] [] (aA (l.any p)):=by
 refine af.ah (rvs:=[.tmp 4]) G aa Tryz.func207 rfl Tryz.ntmps207 rfl rfl ?_;with_reducible refine wD ?_
 refine aD.lit [] (Mv g cg caps hcaps p l hl hf) Rs ⟨rfl,⟨rfl,trivial,aJ hcaps⟩,trivial⟩ rfl rfl ?_;with_reducible refine wK ?_
 (refine eK ?_ ?_<;>with_reducible repeat' (first|exact trivial|(show _∧_;refine aK ?_ ?_)))
 exact nj p l
theorem Kn (g:Nat)(cg:ae Tryz.prog g)(caps:List AV)(hcaps:aU caps=true)(p:bH→Bool)(l:List bH)(hl:l.length≤100000)(hf:∀a,a∈l→af Tryz.prog g [] (iA a::caps) [] (aA (p a))):
  af Tryz.prog 247 [] [o9 l,.clo (.func g) [] caps] [] (aj (fe p l)):=by
 have hlm:(l.map j5).length=l.length:=aM ..
 refine af.ah (rvs:=[.tmp 4]) G aa Tryz.func247 rfl Tryz.ntmps247 rfl rfl ?_;with_reducible refine wD ?_
 refine aR.use G aa (fun(k:Nat)=>[(0,o9 l),(1,.clo (.func g) [] caps),(7,aj l.length),(8,aj k)]) (fun _=>[]) (fun k=>k≤l.length∧∀j x,j<k→l[j]? =some x→p x=false) (fun k=>l.length-k) 0 ⟨Nat.zero_le _,fun j x h=>by omega⟩
  ⟨⟨rfl,rfl⟩,⟨rfl,⟨rfl,trivial,aJ hcaps⟩,by show(l.length:Int)=((l.map j5).length:Int);rw[hlm],rfl,trivial⟩,trivial⟩ ?_
 rintro k ⟨hk,hno⟩
 with_reducible refine wK ?_
 refine aQ.mk (fun h1=>?_) (fun h1=>?_)<;>(try simp only[aq] at h1)<;>with_reducible refine wK ?_
 ·simp only[aL] at h1
  have hk':k<l.length:=by omega
  obtain⟨a,ha⟩:∃a,l[k]? =some a:=⟨_,aP hk'⟩
  refine ak.mk k (iA a) rfl (cK ha) ?_;with_reducible refine wK ?_
  refine aD.lit [] (hf a (bn ha)) cg ⟨⟨rfl,rfl,rfl,trivial⟩,aJ hcaps⟩ rfl rfl ?_;with_reducible refine wK ?_
  refine aQ.mk (fun h2=>?_) (fun h2=>?_)<;>(try simp only[aq] at h2)<;>with_reducible refine wK ?_
  ·(refine eK ?_ ?_<;>with_reducible repeat' (first|exact trivial|(show _∧_;refine aK ?_ ?_)))
   exact dL ha h2 hno
  ·refine nK ?_;with_reducible refine wK ?_
   refine ay.mk (k+1) ⟨by omega,fun j x hj hx=>?_⟩ (by omega) ⟨⟨rfl,rfl⟩,⟨rfl,⟨rfl,trivial,aJ hcaps⟩,rfl,by show((k+1:Nat):Int)=(k:Int)+1;omega,trivial⟩,trivial⟩
   rcases Nat.lt_or_ge j k with h6|h6
   ·exact hno j x h6 hx
   ·have:j=k:=by omega
    subst this
    rw[ha] at hx;cases hx;exact h2
 ·(refine eK ?_ ?_<;>with_reducible repeat' (first|exact trivial|(show _∧_;refine aK ?_ ?_)))
  have:k=l.length:=by simp only[bh] at h1;omega
  exact dm fun j x hx=>hno j x (by have:=(aZ hx).1;omega) hx
theorem Kz (g:Nat)(cg:ae Tryz.prog g)(caps:List AV)(hcaps:aU caps=true)(p:bH→Bool)(l:List bH)(hl:l.length≤100000)(hf:∀a,a∈l→af Tryz.prog g [] (iA a::caps) [] (aA (p a))):
  af Tryz.prog 208 [] [o9 l,.clo (.func g) [] caps] [] (aA (l.any p)):=by
 refine af.ah (rvs:=[.tmp 4]) G aa Tryz.func208 rfl Tryz.ntmps208 rfl rfl ?_;with_reducible refine wD ?_
 refine aD.lit [] (Kn g cg caps hcaps p l hl hf) RZ ⟨rfl,⟨rfl,trivial,aJ hcaps⟩,trivial⟩ rfl rfl ?_;with_reducible refine wK ?_
 (refine eK ?_ ?_<;>with_reducible repeat' (first|exact trivial|(show _∧_;refine aK ?_ ?_)))
 exact nj p l
theorem Lq (g:Nat)(cg:ae Tryz.prog g)(caps:List AV)(hcaps:aU caps=true)(p:bw→Bool)(l:List bw)(hl:l.length≤100000)(hf:∀a,a∈l→af Tryz.prog g [] (fR a::caps) [] (aA (p a))):
  af Tryz.prog 211 [] [cJ l,.clo (.func g) [] caps] [] (aj (fe p l)):=by
 have hlm:(l.map ef).length=l.length:=aM ..
 refine af.ah (rvs:=[.tmp 4]) G aa Tryz.func211 rfl Tryz.ntmps211 rfl rfl ?_;with_reducible refine wD ?_
 refine aR.use G aa (fun(k:Nat)=>[(0,cJ l),(1,.clo (.func g) [] caps),(7,aj l.length),(8,aj k)]) (fun _=>[]) (fun k=>k≤l.length∧∀j x,j<k→l[j]? =some x→p x=false) (fun k=>l.length-k) 0 ⟨Nat.zero_le _,fun j x h=>by omega⟩
  ⟨⟨rfl,rfl⟩,⟨rfl,⟨rfl,trivial,aJ hcaps⟩,by show(l.length:Int)=((l.map ef).length:Int);rw[hlm],rfl,trivial⟩,trivial⟩ ?_
 rintro k ⟨hk,hno⟩
 with_reducible refine wK ?_
 refine aQ.mk (fun h1=>?_) (fun h1=>?_)<;>(try simp only[aq] at h1)<;>with_reducible refine wK ?_
 ·simp only[aL] at h1
  have hk':k<l.length:=by omega
  obtain⟨a,ha⟩:∃a,l[k]? =some a:=⟨_,aP hk'⟩
  refine ak.mk k (fR a) rfl (sN ha) ?_;with_reducible refine wK ?_
  refine aD.lit [] (hf a (bn ha)) cg ⟨⟨rfl,rfl,rfl,rfl,rfl,rfl,rfl,rfl,rfl,rfl,trivial⟩,aJ hcaps⟩ rfl rfl ?_;with_reducible refine wK ?_
  refine aQ.mk (fun h2=>?_) (fun h2=>?_)<;>(try simp only[aq] at h2)<;>with_reducible refine wK ?_
  ·(refine eK ?_ ?_<;>with_reducible repeat' (first|exact trivial|(show _∧_;refine aK ?_ ?_)))
   exact dL ha h2 hno
  ·refine nK ?_;with_reducible refine wK ?_
   refine ay.mk (k+1) ⟨by omega,fun j x hj hx=>?_⟩ (by omega) ⟨⟨rfl,rfl⟩,⟨rfl,⟨rfl,trivial,aJ hcaps⟩,rfl,by show((k+1:Nat):Int)=(k:Int)+1;omega,trivial⟩,trivial⟩
   rcases Nat.lt_or_ge j k with h6|h6
   ·exact hno j x h6 hx
   ·have:j=k:=by omega
    subst this
    rw[ha] at hx;cases hx;exact h2
 ·(refine eK ?_ ?_<;>with_reducible repeat' (first|exact trivial|(show _∧_;refine aK ?_ ?_)))
  have:k=l.length:=by simp only[bh] at h1;omega
  exact dm fun j x hx=>hno j x (by have:=(aZ hx).1;omega) hx
theorem MA (g:Nat)(cg:ae Tryz.prog g)(caps:List AV)(hcaps:aU caps=true)(p:bw→Bool)(l:List bw)(hl:l.length≤100000)(hf:∀a,a∈l→af Tryz.prog g [] (fR a::caps) [] (aA (p a))):
  af Tryz.prog 147 [] [cJ l,.clo (.func g) [] caps] [] (aA (l.any p)):=by
 refine af.ah (rvs:=[.tmp 4]) G aa Tryz.func147 rfl Tryz.ntmps147 rfl rfl ?_;with_reducible refine wD ?_
 refine aD.lit [] (Lq g cg caps hcaps p l hl hf) RQ ⟨rfl,⟨rfl,trivial,aJ hcaps⟩,trivial⟩ rfl rfl ?_;with_reducible refine wK ?_
 (refine eK ?_ ?_<;>with_reducible repeat' (first|exact trivial|(show _∧_;refine aK ?_ ?_)))
 exact nj p l
theorem LH (g:Nat)(cg:ae Tryz.prog g)(caps:List AV)(hcaps:aU caps=true)(p:gT→Bool)(l:List gT)(hl:l.length≤100000)(hf:∀a,a∈l→af Tryz.prog g [] (j0 a::caps) [] (aA (p a))):
  af Tryz.prog 212 [] [oh l,.clo (.func g) [] caps] [] (aj (fe p l)):=by
 have hlm:(l.map dO).length=l.length:=aM ..
 refine af.ah (rvs:=[.tmp 4]) G aa Tryz.func212 rfl Tryz.ntmps212 rfl rfl ?_;with_reducible refine wD ?_
 refine aR.use G aa (fun(k:Nat)=>[(0,oh l),(1,.clo (.func g) [] caps),(7,aj l.length),(8,aj k)]) (fun _=>[]) (fun k=>k≤l.length∧∀j x,j<k→l[j]? =some x→p x=false) (fun k=>l.length-k) 0 ⟨Nat.zero_le _,fun j x h=>by omega⟩
  ⟨⟨rfl,rfl⟩,⟨rfl,⟨rfl,trivial,aJ hcaps⟩,by show(l.length:Int)=((l.map dO).length:Int);rw[hlm],rfl,trivial⟩,trivial⟩ ?_
 rintro k ⟨hk,hno⟩
 with_reducible refine wK ?_
 refine aQ.mk (fun h1=>?_) (fun h1=>?_)<;>(try simp only[aq] at h1)<;>with_reducible refine wK ?_
 ·simp only[aL] at h1
  have hk':k<l.length:=by omega
  obtain⟨a,ha⟩:∃a,l[k]? =some a:=⟨_,aP hk'⟩
  refine ak.mk k (j0 a) rfl (mJ ha) ?_;with_reducible refine wK ?_
  refine aD.lit [] (hf a (bn ha)) cg ⟨⟨rfl,rfl,rfl,trivial⟩,aJ hcaps⟩ rfl rfl ?_;with_reducible refine wK ?_
  refine aQ.mk (fun h2=>?_) (fun h2=>?_)<;>(try simp only[aq] at h2)<;>with_reducible refine wK ?_
  ·(refine eK ?_ ?_<;>with_reducible repeat' (first|exact trivial|(show _∧_;refine aK ?_ ?_)))
   exact dL ha h2 hno
  ·refine nK ?_;with_reducible refine wK ?_
   refine ay.mk (k+1) ⟨by omega,fun j x hj hx=>?_⟩ (by omega) ⟨⟨rfl,rfl⟩,⟨rfl,⟨rfl,trivial,aJ hcaps⟩,rfl,by show((k+1:Nat):Int)=(k:Int)+1;omega,trivial⟩,trivial⟩
   rcases Nat.lt_or_ge j k with h6|h6
   ·exact hno j x h6 hx
   ·have:j=k:=by omega
    subst this
    rw[ha] at hx;cases hx;exact h2
 ·(refine eK ?_ ?_<;>with_reducible repeat' (first|exact trivial|(show _∧_;refine aK ?_ ?_)))
  have:k=l.length:=by simp only[bh] at h1;omega
  exact dm fun j x hx=>hno j x (by have:=(aZ hx).1;omega) hx
theorem M3 (g:Nat)(cg:ae Tryz.prog g)(caps:List AV)(hcaps:aU caps=true)(p:gT→Bool)(l:List gT)(hl:l.length≤100000)(hf:∀a,a∈l→af Tryz.prog g [] (j0 a::caps) [] (aA (p a))):
  af Tryz.prog 149 [] [oh l,.clo (.func g) [] caps] [] (aA (l.any p)):=by
 refine af.ah (rvs:=[.tmp 4]) G aa Tryz.func149 rfl Tryz.ntmps149 rfl rfl ?_;with_reducible refine wD ?_
 refine aD.lit [] (LH g cg caps hcaps p l hl hf) SE ⟨rfl,⟨rfl,trivial,aJ hcaps⟩,trivial⟩ rfl rfl ?_;with_reducible refine wK ?_
 (refine eK ?_ ?_<;>with_reducible repeat' (first|exact trivial|(show _∧_;refine aK ?_ ?_)))
 exact nj p l
theorem Me (g:Nat)(cg:ae Tryz.prog g)(caps:List AV)(hcaps:aU caps=true)(p:iX→Bool)(l:List iX)(hl:l.length≤100000)(hf:∀a,a∈l→af Tryz.prog g [] (iV a::caps) [] (aA (p a))):
  af Tryz.prog 213 [] [nB l,.clo (.func g) [] caps] [] (aj (fe p l)):=by
 have hlm:(l.map iz).length=l.length:=aM ..
 refine af.ah (rvs:=[.tmp 4]) G aa Tryz.func213 rfl Tryz.ntmps213 rfl rfl ?_;with_reducible refine wD ?_
 refine aR.use G aa (fun(k:Nat)=>[(0,nB l),(1,.clo (.func g) [] caps),(7,aj l.length),(8,aj k)]) (fun _=>[]) (fun k=>k≤l.length∧∀j x,j<k→l[j]? =some x→p x=false) (fun k=>l.length-k) 0 ⟨Nat.zero_le _,fun j x h=>by omega⟩
  ⟨⟨rfl,rfl⟩,⟨rfl,⟨rfl,trivial,aJ hcaps⟩,by show(l.length:Int)=((l.map iz).length:Int);rw[hlm],rfl,trivial⟩,trivial⟩ ?_
 rintro k ⟨hk,hno⟩
 with_reducible refine wK ?_
 refine aQ.mk (fun h1=>?_) (fun h1=>?_)<;>(try simp only[aq] at h1)<;>with_reducible refine wK ?_
 ·simp only[aL] at h1
  have hk':k<l.length:=by omega
  obtain⟨a,ha⟩:∃a,l[k]? =some a:=⟨_,aP hk'⟩
  refine ak.mk k (iV a) rfl (iG ha) ?_;with_reducible refine wK ?_
  refine aD.lit [] (hf a (bn ha)) cg ⟨⟨rfl,rfl,trivial⟩,aJ hcaps⟩ rfl rfl ?_;with_reducible refine wK ?_
  refine aQ.mk (fun h2=>?_) (fun h2=>?_)<;>(try simp only[aq] at h2)<;>with_reducible refine wK ?_
  ·(refine eK ?_ ?_<;>with_reducible repeat' (first|exact trivial|(show _∧_;refine aK ?_ ?_)))
   exact dL ha h2 hno
  ·refine nK ?_;with_reducible refine wK ?_
   refine ay.mk (k+1) ⟨by omega,fun j x hj hx=>?_⟩ (by omega) ⟨⟨rfl,rfl⟩,⟨rfl,⟨rfl,trivial,aJ hcaps⟩,rfl,by show((k+1:Nat):Int)=(k:Int)+1;omega,trivial⟩,trivial⟩
   rcases Nat.lt_or_ge j k with h6|h6
   ·exact hno j x h6 hx
   ·have:j=k:=by omega
    subst this
    rw[ha] at hx;cases hx;exact h2
 ·(refine eK ?_ ?_<;>with_reducible repeat' (first|exact trivial|(show _∧_;refine aK ?_ ?_)))
  have:k=l.length:=by simp only[bh] at h1;omega
  exact dm fun j x hx=>hno j x (by have:=(aZ hx).1;omega) hx
theorem LC (g:Nat)(cg:ae Tryz.prog g)(caps:List AV)(hcaps:aU caps=true)(p:iX→Bool)(l:List iX)(hl:l.length≤100000)(hf:∀a,a∈l→af Tryz.prog g [] (iV a::caps) [] (aA (p a))):
  af Tryz.prog 152 [] [nB l,.clo (.func g) [] caps] [] (aA (l.any p)):=by
 refine af.ah (rvs:=[.tmp 4]) G aa Tryz.func152 rfl Tryz.ntmps152 rfl rfl ?_;with_reducible refine wD ?_
 refine aD.lit [] (Me g cg caps hcaps p l hl hf) Sl ⟨rfl,⟨rfl,trivial,aJ hcaps⟩,trivial⟩ rfl rfl ?_;with_reducible refine wK ?_
 (refine eK ?_ ?_<;>with_reducible repeat' (first|exact trivial|(show _∧_;refine aK ?_ ?_)))
 exact nj p l
theorem LO (g:Nat)(cg:ae Tryz.prog g)(caps:List AV)(hcaps:aU caps=true)(p:ck→Bool)(l:List ck)(hl:l.length≤100000)(hf:∀a,a∈l→af Tryz.prog g [] (gL a::caps) [] (aA (p a))):
  af Tryz.prog 163 [] [dX l,.clo (.func g) [] caps] [] (aj (fe p l)):=by
 have hlm:(l.map fU).length=l.length:=aM ..
 refine af.ah (rvs:=[.tmp 4]) G aa Tryz.func163 rfl Tryz.ntmps163 rfl rfl ?_;with_reducible refine wD ?_
 refine aR.use G aa (fun(k:Nat)=>[(0,dX l),(1,.clo (.func g) [] caps),(7,aj l.length),(8,aj k)]) (fun _=>[]) (fun k=>k≤l.length∧∀j x,j<k→l[j]? =some x→p x=false) (fun k=>l.length-k) 0 ⟨Nat.zero_le _,fun j x h=>by omega⟩
  ⟨⟨rfl,rfl⟩,⟨rfl,⟨rfl,trivial,aJ hcaps⟩,by show(l.length:Int)=((l.map fU).length:Int);rw[hlm],rfl,trivial⟩,trivial⟩ ?_
 rintro k ⟨hk,hno⟩
 with_reducible refine wK ?_
 refine aQ.mk (fun h1=>?_) (fun h1=>?_)<;>(try simp only[aq] at h1)<;>with_reducible refine wK ?_
 ·simp only[aL] at h1
  have hk':k<l.length:=by omega
  obtain⟨a,ha⟩:∃a,l[k]? =some a:=⟨_,aP hk'⟩
  refine ak.mk k (gL a) rfl (oK ha) ?_;with_reducible refine wK ?_
  refine aD.lit [] (hf a (bn ha)) cg ⟨⟨rfl,rfl,rfl,rfl,rfl,rfl,rfl,rfl,rfl,rfl,rfl,trivial⟩,aJ hcaps⟩ rfl rfl ?_;with_reducible refine wK ?_
  refine aQ.mk (fun h2=>?_) (fun h2=>?_)<;>(try simp only[aq] at h2)<;>with_reducible refine wK ?_
  ·(refine eK ?_ ?_<;>with_reducible repeat' (first|exact trivial|(show _∧_;refine aK ?_ ?_)))
   exact dL ha h2 hno
  ·refine nK ?_;with_reducible refine wK ?_
   refine ay.mk (k+1) ⟨by omega,fun j x hj hx=>?_⟩ (by omega) ⟨⟨rfl,rfl⟩,⟨rfl,⟨rfl,trivial,aJ hcaps⟩,rfl,by show((k+1:Nat):Int)=(k:Int)+1;omega,trivial⟩,trivial⟩
   rcases Nat.lt_or_ge j k with h6|h6
   ·exact hno j x h6 hx
   ·have:j=k:=by omega
    subst this
    rw[ha] at hx;cases hx;exact h2
 ·(refine eK ?_ ?_<;>with_reducible repeat' (first|exact trivial|(show _∧_;refine aK ?_ ?_)))
  have:k=l.length:=by simp only[bh] at h1;omega
  exact dm fun j x hx=>hno j x (by have:=(aZ hx).1;omega) hx
theorem MY (g:Nat)(cg:ae Tryz.prog g)(caps:List AV)(hcaps:aU caps=true)(p:ck→Bool)(l:List ck)(hl:l.length≤100000)(hf:∀a,a∈l→af Tryz.prog g [] (gL a::caps) [] (aA (p a))):
  af Tryz.prog 97 [] [dX l,.clo (.func g) [] caps] [] (aA (l.any p)):=by
 refine af.ah (rvs:=[.tmp 4]) G aa Tryz.func97 rfl Tryz.ntmps97 rfl rfl ?_;with_reducible refine wD ?_
 refine aD.lit [] (LO g cg caps hcaps p l hl hf) Q5 ⟨rfl,⟨rfl,trivial,aJ hcaps⟩,trivial⟩ rfl rfl ?_;with_reducible refine wK ?_
 (refine eK ?_ ?_<;>with_reducible repeat' (first|exact trivial|(show _∧_;refine aK ?_ ?_)))
 exact nj p l
theorem Kk (g:Nat)(cg:ae Tryz.prog g)(caps:List AV)(hcaps:aU caps=true)(p:(List bw)→Bool)(l:List (List bw))(hl:l.length≤100000)(hf:∀a,a∈l→af Tryz.prog g [] (cJ a::caps) [] (aA (p a))):
  af Tryz.prog 186 [] [ic l,.clo (.func g) [] caps] [] (aj (fe p l)):=by
 have hlm:(l.map bO).length=l.length:=aM ..
 refine af.ah (rvs:=[.tmp 4]) G aa Tryz.func186 rfl Tryz.ntmps186 rfl rfl ?_;with_reducible refine wD ?_
 refine aR.use G aa (fun(k:Nat)=>[(0,ic l),(1,.clo (.func g) [] caps),(7,aj l.length),(8,aj k)]) (fun _=>[]) (fun k=>k≤l.length∧∀j x,j<k→l[j]? =some x→p x=false) (fun k=>l.length-k) 0 ⟨Nat.zero_le _,fun j x h=>by omega⟩
  ⟨⟨rfl,rfl⟩,⟨rfl,⟨rfl,trivial,aJ hcaps⟩,by show(l.length:Int)=((l.map bO).length:Int);rw[hlm],rfl,trivial⟩,trivial⟩ ?_
 rintro k ⟨hk,hno⟩
 with_reducible refine wK ?_
 refine aQ.mk (fun h1=>?_) (fun h1=>?_)<;>(try simp only[aq] at h1)<;>with_reducible refine wK ?_
 ·simp only[aL] at h1
  have hk':k<l.length:=by omega
  obtain⟨a,ha⟩:∃a,l[k]? =some a:=⟨_,aP hk'⟩
  refine ak.mk k (cJ a) rfl (cM ha) ?_;with_reducible refine wK ?_
  refine aD.lit [] (hf a (bn ha)) cg ⟨rfl,aJ hcaps⟩ rfl rfl ?_;with_reducible refine wK ?_
  refine aQ.mk (fun h2=>?_) (fun h2=>?_)<;>(try simp only[aq] at h2)<;>with_reducible refine wK ?_
  ·(refine eK ?_ ?_<;>with_reducible repeat' (first|exact trivial|(show _∧_;refine aK ?_ ?_)))
   exact dL ha h2 hno
  ·refine nK ?_;with_reducible refine wK ?_
   refine ay.mk (k+1) ⟨by omega,fun j x hj hx=>?_⟩ (by omega) ⟨⟨rfl,rfl⟩,⟨rfl,⟨rfl,trivial,aJ hcaps⟩,rfl,by show((k+1:Nat):Int)=(k:Int)+1;omega,trivial⟩,trivial⟩
   rcases Nat.lt_or_ge j k with h6|h6
   ·exact hno j x h6 hx
   ·have:j=k:=by omega
    subst this
    rw[ha] at hx;cases hx;exact h2
 ·(refine eK ?_ ?_<;>with_reducible repeat' (first|exact trivial|(show _∧_;refine aK ?_ ?_)))
  have:k=l.length:=by simp only[bh] at h1;omega
  exact dm fun j x hx=>hno j x (by have:=(aZ hx).1;omega) hx
theorem Lw (g:Nat)(cg:ae Tryz.prog g)(caps:List AV)(hcaps:aU caps=true)(p:(List bw)→Bool)(l:List (List bw))(hl:l.length≤100000)(hf:∀a,a∈l→af Tryz.prog g [] (cJ a::caps) [] (aA (p a))):
  af Tryz.prog 111 [] [ic l,.clo (.func g) [] caps] [] (aA (l.any p)):=by
 refine af.ah (rvs:=[.tmp 4]) G aa Tryz.func111 rfl Tryz.ntmps111 rfl rfl ?_;with_reducible refine wD ?_
 refine aD.lit [] (Kk g cg caps hcaps p l hl hf) QV ⟨rfl,⟨rfl,trivial,aJ hcaps⟩,trivial⟩ rfl rfl ?_;with_reducible refine wK ?_
 (refine eK ?_ ?_<;>with_reducible repeat' (first|exact trivial|(show _∧_;refine aK ?_ ?_)))
 exact nj p l
theorem F5 (l:List bw):lg (flat (l.map ef))=true:=dA ef (fun _=>rfl) l
@[reducible] def IZ (l : List bw) : MS := .live 10 (l.map ef) false
theorem w6 (l:List bw):gJ [IZ l]:=⟨bI.fM fun r hr=>by
 obtain⟨a,_,rfl⟩:=List.mem_map.1 hr
 rfl,j7 l,trivial⟩
theorem pI {m:ML}{fz:Nat→Bool}{cI:List (Nat×Nat)}{n t len:Nat}{ro:Bool}{rows:List AV}{l:List bw}(h1:eC m t=.live 10 rows ro)(h2:fz t=true)(h3:rows=l.map ef)(h4:len=l.length):o6 m fz (MF cI fz m n) (cJ l) t 0 len:=by
 subst h3;subst h4
 have e:(l.map ef).length=l.length:=aM ..
 exact .cut h1 h2 (by omega) (by rw[List.drop_zero,jH (by omega)]) (j7 l)
theorem Dr (l:List bw)(hl:l.length≤100000):af Tryz.prog 218 [] [cJ l] [IZ l] (.own 0 0 l.length):=by
 have hlm:(l.map ef).length=l.length:=aM ..
 refine af.ah (rvs:=[.tmp 2]) G aa Tryz.func218 rfl Tryz.ntmps218 rfl rfl ?_;with_reducible refine wD ?_
 refine jL.mk (fun h=>?_) (fun _=>?_)<;>with_reducible refine wK ?_
 ·obtain rfl:l=[]:=by simpa using h
  (refine eK ?_ ?_<;>with_reducible repeat' (first|exact trivial|(show _∧_;refine aK ?_ ?_)))
  all_goals first|rfl|trivial
 ·refine cC.mk [] (l.map ef) ⟨rfl,rfl,rfl⟩ ⟨rfl,rfl,rfl⟩ (F5 l) (by simp;omega) (by simp;omega) ?_;with_reducible refine wK ?_
  (refine eK ?_ ?_<;>with_reducible repeat' (first|exact trivial|(show _∧_;refine aK ?_ ?_)))
  ·exact hlm.symm
  ·exact aJ (j7 l)
theorem Db (l:List (List bw)):lg (flat (l.map bO))=true:=dA bO (fun _=>rfl) l
@[reducible] def lH (l : List (List bw)) : MS := .live 1 (l.map bO) false
theorem B3 (l:List (List bw)):gJ [lH l]:=⟨bI.fM fun r hr=>by
 obtain⟨a,_,rfl⟩:=List.mem_map.1 hr
 rfl,cE l,trivial⟩
theorem DU {m:ML}{fz:Nat→Bool}{cI:List (Nat×Nat)}{n t len:Nat}{ro:Bool}{rows:List AV}{l:List (List bw)}(h1:eC m t=.live 1 rows ro)(h2:fz t=true)(h3:rows=l.map bO)(h4:len=l.length):o6 m fz (MF cI fz m n) (ic l) t 0 len:=by
 subst h3;subst h4
 have e:(l.map bO).length=l.length:=aM ..
 exact .cut h1 h2 (by omega) (by rw[List.drop_zero,jH (by omega)]) (cE l)
theorem Bd (l:List (List bw))(hl:l.length≤100000):af Tryz.prog 216 [] [ic l] [lH l] (.own 0 0 l.length):=by
 have hlm:(l.map bO).length=l.length:=aM ..
 refine af.ah (rvs:=[.tmp 2]) G aa Tryz.func216 rfl Tryz.ntmps216 rfl rfl ?_;with_reducible refine wD ?_
 refine jL.mk (fun h=>?_) (fun _=>?_)<;>with_reducible refine wK ?_
 ·obtain rfl:l=[]:=by simpa using h
  (refine eK ?_ ?_<;>with_reducible repeat' (first|exact trivial|(show _∧_;refine aK ?_ ?_)))
  all_goals first|rfl|trivial
 ·refine cC.mk [] (l.map bO) ⟨rfl,rfl,rfl⟩ ⟨rfl,rfl,rfl⟩ (Db l) (by simp;omega) (by simp;omega) ?_;with_reducible refine wK ?_
  (refine eK ?_ ?_<;>with_reducible repeat' (first|exact trivial|(show _∧_;refine aK ?_ ?_)))
  ·exact hlm.symm
  ·exact aJ (cE l)
theorem Fs (l:List (List Int)):lg (flat (l.map dJ))=true:=dA dJ (fun _=>rfl) l
@[reducible] def oZ (l : List (List Int)) : MS := .live 1 (l.map dJ) false
theorem v8 (l:List (List Int)):gJ [oZ l]:=⟨bI.fM fun r hr=>by
 obtain⟨a,_,rfl⟩:=List.mem_map.1 hr
 rfl,ej l,trivial⟩
theorem sZ {m:ML}{fz:Nat→Bool}{cI:List (Nat×Nat)}{n t len:Nat}{ro:Bool}{rows:List AV}{l:List (List Int)}(h1:eC m t=.live 1 rows ro)(h2:fz t=true)(h3:rows=l.map dJ)(h4:len=l.length):o6 m fz (MF cI fz m n) (mO l) t 0 len:=by
 subst h3;subst h4
 have e:(l.map dJ).length=l.length:=aM ..
 exact .cut h1 h2 (by omega) (by rw[List.drop_zero,jH (by omega)]) (ej l)
theorem we (l:List (List Int))(hl:l.length≤100000):af Tryz.prog 209 [] [mO l] [oZ l] (.own 0 0 l.length):=by
 have hlm:(l.map dJ).length=l.length:=aM ..
 refine af.ah (rvs:=[.tmp 2]) G aa Tryz.func209 rfl Tryz.ntmps209 rfl rfl ?_;with_reducible refine wD ?_
 refine jL.mk (fun h=>?_) (fun _=>?_)<;>with_reducible refine wK ?_
 ·obtain rfl:l=[]:=by simpa using h
  (refine eK ?_ ?_<;>with_reducible repeat' (first|exact trivial|(show _∧_;refine aK ?_ ?_)))
  all_goals first|rfl|trivial
 ·refine cC.mk [] (l.map dJ) ⟨rfl,rfl,rfl⟩ ⟨rfl,rfl,rfl⟩ (Fs l) (by simp;omega) (by simp;omega) ?_;with_reducible refine wK ?_
  (refine eK ?_ ?_<;>with_reducible repeat' (first|exact trivial|(show _∧_;refine aK ?_ ?_)))
  ·exact hlm.symm
  ·exact aJ (ej l)
theorem Fu (l:List gT):lg (flat (l.map dO))=true:=dA dO (fun _=>rfl) l
@[reducible] def C8 (l : List gT) : MS := .live 3 (l.map dO) false
theorem CZ (l:List gT):gJ [C8 l]:=⟨bI.fM fun r hr=>by
 obtain⟨a,_,rfl⟩:=List.mem_map.1 hr
 rfl,eR l,trivial⟩
theorem xU {m:ML}{fz:Nat→Bool}{cI:List (Nat×Nat)}{n t len:Nat}{ro:Bool}{rows:List AV}{l:List gT}(h1:eC m t=.live 3 rows ro)(h2:fz t=true)(h3:rows=l.map dO)(h4:len=l.length):o6 m fz (MF cI fz m n) (oh l) t 0 len:=by
 subst h3;subst h4
 have e:(l.map dO).length=l.length:=aM ..
 exact .cut h1 h2 (by omega) (by rw[List.drop_zero,jH (by omega)]) (eR l)
theorem CW (l:List gT)(hl:l.length≤100000):af Tryz.prog 164 [] [oh l] [C8 l] (.own 0 0 l.length):=by
 have hlm:(l.map dO).length=l.length:=aM ..
 refine af.ah (rvs:=[.tmp 2]) G aa Tryz.func164 rfl Tryz.ntmps164 rfl rfl ?_;with_reducible refine wD ?_
 refine jL.mk (fun h=>?_) (fun _=>?_)<;>with_reducible refine wK ?_
 ·obtain rfl:l=[]:=by simpa using h
  (refine eK ?_ ?_<;>with_reducible repeat' (first|exact trivial|(show _∧_;refine aK ?_ ?_)))
  all_goals first|rfl|trivial
 ·refine cC.mk [] (l.map dO) ⟨rfl,rfl,rfl⟩ ⟨rfl,rfl,rfl⟩ (Fu l) (by simp;omega) (by simp;omega) ?_;with_reducible refine wK ?_
  (refine eK ?_ ?_<;>with_reducible repeat' (first|exact trivial|(show _∧_;refine aK ?_ ?_)))
  ·exact hlm.symm
  ·exact aJ (eR l)
theorem BP (l:List aI):lg (flat (l.map cZ))=true:=dA cZ (fun _=>rfl) l
@[reducible] def Bo (l : List aI) : MS := .live 5 (l.map cZ) false
theorem rO (l:List aI):gJ [Bo l]:=⟨bI.fM fun r hr=>by
 obtain⟨a,_,rfl⟩:=List.mem_map.1 hr
 rfl,lN l,trivial⟩
theorem ud {m:ML}{fz:Nat→Bool}{cI:List (Nat×Nat)}{n t len:Nat}{ro:Bool}{rows:List AV}{l:List aI}(h1:eC m t=.live 5 rows ro)(h2:fz t=true)(h3:rows=l.map cZ)(h4:len=l.length):o6 m fz (MF cI fz m n) (bF l) t 0 len:=by
 subst h3;subst h4
 have e:(l.map cZ).length=l.length:=aM ..
 exact .cut h1 h2 (by omega) (by rw[List.drop_zero,jH (by omega)]) (lN l)
theorem zS (l:List aI)(hl:l.length≤100000):af Tryz.prog 91 [] [bF l] [Bo l] (.own 0 0 l.length):=by
 have hlm:(l.map cZ).length=l.length:=aM ..
 refine af.ah (rvs:=[.tmp 2]) G aa Tryz.func91 rfl Tryz.ntmps91 rfl rfl ?_;with_reducible refine wD ?_
 refine jL.mk (fun h=>?_) (fun _=>?_)<;>with_reducible refine wK ?_
 ·obtain rfl:l=[]:=by simpa using h
  (refine eK ?_ ?_<;>with_reducible repeat' (first|exact trivial|(show _∧_;refine aK ?_ ?_)))
  all_goals first|rfl|trivial
 ·refine cC.mk [] (l.map cZ) ⟨rfl,rfl,rfl⟩ ⟨rfl,rfl,rfl⟩ (BP l) (by simp;omega) (by simp;omega) ?_;with_reducible refine wK ?_
  (refine eK ?_ ?_<;>with_reducible repeat' (first|exact trivial|(show _∧_;refine aK ?_ ?_)))
  ·exact hlm.symm
  ·exact aJ (lN l)
@[reducible] def Ol (l : cq) : MS := .live 4 [eT l] false
theorem yY (l:List Int):gJ [jG l]:=⟨bI.fM fun r hr=>by
 obtain⟨a,_,rfl⟩:=List.mem_map.1 hr
 rfl,bC l,trivial⟩
theorem zk (l:List Int)(hl:l.length≤100000):af Tryz.prog 217 [] [bQ l] [jG l] (.own 0 0 l.length):=by
 have hlm:(l.map bB).length=l.length:=aM ..
 refine af.ah (rvs:=[.tmp 2]) G aa Tryz.func217 rfl Tryz.ntmps217 rfl rfl ?_;with_reducible refine wD ?_
 refine jL.mk (fun h=>?_) (fun _=>?_)<;>with_reducible refine wK ?_
 ·obtain rfl:l=[]:=by simpa using h
  (refine eK ?_ ?_<;>with_reducible repeat' (first|exact trivial|(show _∧_;refine aK ?_ ?_)))
  all_goals first|rfl|trivial
 ·refine cC.mk [] (l.map bB) ⟨rfl,rfl,rfl⟩ ⟨rfl,rfl,rfl⟩ (dA bB (fun _=>rfl) l) (by simp;omega) (by simp;omega) ?_;with_reducible refine wK ?_
  (refine eK ?_ ?_<;>with_reducible repeat' (first|exact trivial|(show _∧_;refine aK ?_ ?_)))
  ·exact hlm.symm
  ·exact aJ (bC l)
theorem Bp (l:cq)(h1:l.todos.length≤100000)(h2:l.stack.length≤100000)(h3:l.back.length≤100000):af Tryz.prog 159 [] [eT l] [lH l.todos,oZ l.stack,jG l.back] (.agg [.own 0 0 l.todos.length,.own 1 0 l.stack.length,.own 2 0 l.back.length,aA l.busy]):=by
 have a1:=Bd l.todos h1
 have a2:=we l.stack h2
 have a3:=zk l.back h3
 obtain⟨a,b,c,d⟩:=l
 simp only at a1 a2 a3 ⊢
 refine af.ah (rvs:=[.cell 2 34]) G aa Tryz.func159 rfl Tryz.ntmps159 rfl rfl ?_;with_reducible refine wD ?_
 repeat' (first
  |refine gK ?_|refine aE ?_ ?_
  | ((first
   |((with_reducible refine kQ 216 ?_);refine aD.new 51 [] a1 Ro ⟨rfl,trivial⟩ rfl rfl rfl (B3 _) rfl ?_)
   |((with_reducible refine kQ 209 ?_);refine aD.new 81 [] a2 Qm ⟨rfl,trivial⟩ rfl rfl rfl (v8 _) rfl ?_)
   |((with_reducible refine kQ 217 ?_);refine aD.new 111 [] a3 PI ⟨rfl,trivial⟩ rfl rfl rfl (yY _) rfl ?_))<;>with_reducible refine wK ?_)
  |apply trivial)
 all_goals first
  |exact⟨.refl (cE _),cE _⟩
  |exact⟨.refl (ej _),ej _⟩
  |exact⟨.refl (bC _),bC _⟩
  |exact aJ (cE _)
  |exact aJ (ej _)
  |exact aJ (bC _)
theorem D3 (l:cq)(n:Int):af Tryz.prog 210 [] [eT l,aj n] [] (aA (ik l n)):=by
 have hlm:=(show(l.todos.map bO).length=l.todos.length from aM ..)
 unfold ik
 obtain⟨a,b,c,d⟩:=l
 simp only at hlm
 by_cases h1:0≤n
 ·refine af.ah (rvs:=[.tmp 4]) G aa Tryz.func210 rfl Tryz.ntmps210 rfl rfl ?_;with_reducible refine wD ?_
  (have fct:=And.intro (eq_true h1) (hlm);(repeat' (first
  |refine gF ?_|refine aE ?_ ?_
  |apply trivial));all_goals clear fct)
  all_goals first|(simp[h1,hlm];done)
 ·refine af.ah (rvs:=[.tmp 4]) G aa Tryz.func210 rfl Tryz.ntmps210 rfl rfl ?_;with_reducible refine wD ?_
  (have fct:=And.intro (eq_false h1) (hlm);(repeat' (first
  |refine gF ?_|refine aE ?_ ?_
  |apply trivial));all_goals clear fct)
  all_goals first|(simp[h1];done)
theorem GH {l:cq}{k j:Nat}{s:List Int}{n:Int}(h:(l.stack++ [l.back])[k]? =some s)(h2:s[j]? =some n)(h3:ik l n=false):sV l=false:=by
 rw[Bool.eq_false_iff]
 intro h0
 unfold sV at h0
 rw[aT,List.all_eq_true,List.all_eq_true] at h0
 have hm:=bn h
 have hn:=bn h2
 rcases List.mem_append.1 hm with e|e
 ·have:=List.all_eq_true.1 (h0.1 s e) n hn
  rw[h3] at this;cases this
 ·rw[iw.1 e] at hn
  have:=h0.2 n hn
  rw[h3] at this;cases this
theorem Hq {l:cq}(h:∀ (k:Nat) s,(l.stack++ [l.back])[k]? =some s→∀ (j:Nat) n,s[j]? =some n→ik l n=true):sV l=true:=by
 unfold sV
 rw[aT,List.all_eq_true,List.all_eq_true]
 constructor
 ·intro s hs
  rw[List.all_eq_true]
  intro n hn
  obtain⟨k,hk⟩:=List.getElem?_of_mem (List.mem_append_left [l.back] hs)
  obtain⟨j,hj⟩:=List.getElem?_of_mem hn
  exact h k s hk j n hj
 ·intro n hn
  obtain⟨k,hk⟩:=List.getElem?_of_mem (List.mem_append_right l.stack (iw.2 (rfl:l.back=l.back)))
  obtain⟨j,hj⟩:=List.getElem?_of_mem hn
  exact h k _ hk j n hj
theorem vT (l:cq)(hs:rF 99000 l):af Tryz.prog 145 [] [eT l] [] (aA (sV l)):=by
 have a2:=we l.stack (by have:=hs.stack;omega)
 have hin:=fun n=>D3 l n
 have hlen:=hs.stack
 obtain⟨L,hL⟩:∃L,l.stack++ [l.back]=L:=⟨_,rfl⟩
 have hno:∀ {k j:Nat} {s:List Int} {n:Int},L[k]? =some s→s[j]? =some n→ik l n=false→sV l=false:=fun h=>by rw[←hL] at h;exact GH h
 have hyes:(∀ (k:Nat) s,L[k]? =some s→∀ (j:Nat) n,s[j]? =some n→ik l n=true)→sV l=true:=fun h=>by rw[←hL] at h;exact Hq h
 have hsm:∀s∈L,s.length≤99000:=fun s h=>by
  rw[←hL] at h
  rcases List.mem_append.1 h with e|e
  ·exact hs.list s e
  ·rw[iw.1 e];exact hs.back
 have hLn:L.length=l.stack.length+1:=by rw[←hL];simp
 generalize sV l=res at hno hyes
 obtain⟨a,b,c,d⟩:=l
 simp only at a2 hlen hL hLn
 have hbm:(b.map dJ).length=b.length:=aM ..
 have hLm:(L.map dJ).length=L.length:=aM ..
 have hmap:b.map dJ++ [bQ c]=L.map dJ:=by rw[←hL,fO];rfl
 refine af.ah (rvs:=[.tmp 2]) G aa Tryz.func145 rfl Tryz.ntmps145 rfl rfl ?_;with_reducible refine wD ?_
 repeat' (first
  |refine gK ?_|refine aE ?_ ?_
  | ((first
   |((with_reducible refine kQ 209 ?_);refine aD.new 91 [] a2 Qm ⟨rfl,trivial⟩ rfl rfl rfl (v8 _) rfl ?_)
   |((with_reducible show cC _ _ _ _ _ _ _ _ _ _);refine cC.mk (b.map dJ) [bQ c] ⟨rfl,hbm.symm,rfl⟩ ⟨rfl,rfl,rfl⟩ rfl (by simp;omega) (by simp;omega) ?_))<;>with_reducible refine wK ?_)
  |apply trivial)
 rw[hmap]
 refine aR.use G aa (fun(k:Nat)=>[(1,.ptr 10 0 0),(13,mO L),(14,aj L.length),(15,aj k)]) (fun _=>[(10,Ol ⟨a,b,c,d⟩)])
  (fun k=>k≤L.length∧∀ (i:Nat) s,i<k→L[i]? =some s→∀ (j:Nat) n,s[j]? =some n→ik ⟨a,b,c,d⟩ n=true) (fun k=>L.length-k) 0 ⟨Nat.zero_le _,fun i s h=>by omega⟩ ?_ ?_
 ·(refine fK ?_;(with_reducible repeat' (first|exact trivial|(show _∧_;refine aK ?_ ?_)));(all_goals try rfl))
  all_goals first
   |(show(L.length:Int)=_;rw[hLn];rfl)
   |exact sZ rfl rfl rfl hLm
   |rw[hLm,hLn]
   |rw[hLm]
 rintro k ⟨hk,hok⟩
 with_reducible refine wK ?_
 refine aQ.mk (fun h1=>?_) (fun h1=>?_)<;>(try simp only[aq] at h1)<;>with_reducible refine wK ?_
 ·have hk':k<L.length:=by simp only[aL] at h1;omega
  obtain⟨s,hx⟩:∃x,L[k]? =some x:=⟨_,aP hk'⟩
  have hsl:=hsm s (bn hx)
  have hsml:(s.map bB).length=s.length:=aM ..
  refine ak.mk k (bQ s) rfl (gM hx) ?_;with_reducible refine wK ?_
  refine aR.use G aa (fun(j:Nat)=>[(1,.ptr 10 0 0),(13,mO L),(14,aj L.length),(15,aj k),(19,bQ s),(20,aj s.length),(21,aj j)]) (fun _=>[(10,Ol ⟨a,b,c,d⟩)])
   (fun j=>j≤s.length∧∀ (i:Nat) n,i<j→s[i]? =some n→ik ⟨a,b,c,d⟩ n=true) (fun j=>s.length-j) 0 ⟨Nat.zero_le _,fun i n h=>by omega⟩ ?_ ?_
  ·(refine fK ?_;(with_reducible repeat' (first|exact trivial|(show _∧_;refine aK ?_ ?_)));(all_goals try rfl))
   all_goals first|(show(s.length:Int)=_;rw[hsml])
  rintro j ⟨hj,hoj⟩
  with_reducible refine wK ?_
  refine aQ.mk (fun h2=>?_) (fun h2=>?_)<;>(try simp only[aq] at h2)<;>with_reducible refine wK ?_
  ·have hj':j<s.length:=by simp only[aL] at h2;omega
   obtain⟨n,hn⟩:∃x,s[j]? =some x:=⟨_,aP hj'⟩
   have hin:=hin n
   refine ak.mk j (aj n) rfl (dG hn) ?_;with_reducible refine wK ?_
   cases e:ik ⟨a,b,c,d⟩ n with
   | false=>
     rw[e] at hin
     have hr:=hno hx hn e
     repeat' (first
  |refine gK ?_|refine aE ?_ ?_
  |(((with_reducible refine kQ 210 ?_);refine cL hin Il ?_)<;>with_reducible refine wK ?_)
  | apply trivial)
     all_goals first|exact hr.symm|exact hr
   | true=>
     rw[e] at hin
     have hnx:∀ (i:Nat) m,i<j+1→s[i]? =some m→ik ⟨a,b,c,d⟩ m=true:=fun i m hi hm=>by
      rcases Nat.lt_or_ge i j with h6|h6
      ·exact hoj i m h6 hm
      ·have:i=j:=by omega
       subst this
       rw[hn] at hm;cases hm;exact e
     repeat' (first
  |refine gK ?_|refine aE ?_ ?_
  |(((with_reducible refine kQ 210 ?_);refine cL hin Il ?_)<;>with_reducible refine wK ?_)
  |apply trivial)
     refine ay.mk (j+1) ⟨by omega,hnx⟩ (by omega) ?_
     (refine fK ?_;(with_reducible repeat' (first|exact trivial|(show _∧_;refine aK ?_ ?_)));(all_goals try rfl))
     all_goals first|(simp;done)
  ·have hjl:j=s.length:=by simp only[bh] at h2;omega
   have hnx:∀ (i:Nat) t,i<k+1→L[i]? =some t→∀ (j:Nat) n,t[j]? =some n→ik ⟨a,b,c,d⟩ n=true:=fun i t hi ht q n hq=>by
    rcases Nat.lt_or_ge i k with h6|h6
    ·exact hok i t h6 ht q n hq
    ·have:i=k:=by omega
     subst this
     rw[hx] at ht;cases ht
     exact hoj q n (by have:=(aZ hq).1;omega) hq
   repeat' (first
  |refine gK ?_|refine aE ?_ ?_
  | apply trivial)
   refine ay.mk (k+1) ⟨by omega,hnx⟩ (by omega) ?_
   (refine fK ?_;(with_reducible repeat' (first|exact trivial|(show _∧_;refine aK ?_ ?_)));(all_goals try rfl))
   all_goals first|(simp;done)
 ·have hkl:k=L.length:=by simp only[bh] at h1;omega
  have hr:=hyes fun i s hs j n hn=>hok i s (by have:=(aZ hs).1;omega) hs j n hn
  repeat' (first
  |refine gK ?_|refine aE ?_ ?_
  |apply trivial)
  all_goals first|exact hr.symm|exact hr
theorem xb {α:Type}(o:α→AV){wd:Nat}{m:ML}{fz:Nat→Bool}{cI:List (Nat×Nat)}{n t L:Nat}{ro:Bool}{rows:List AV}{l:List α}{y:α}{z:AV}(h1:eC m t=.live wd rows ro)(h2:fz t=true)(h3:rows=l.map o++ [z])(h4:L=l.length+1)(hn:∀l:List α,aU (l.map o)=true)(h6:MF cI fz m n (o y) z):o6 m fz (MF cI fz m n) (.sl wd ((l++ [y]).map o)) t 0 L:=by
 subst h3;subst h4
 have e:(l.map o++ [z]).length=l.length+1:=by simp
 refine⟨wd,_,ro,_,h1,h2,rfl,by omega,hn _,?_,?_⟩
 ·rw[List.drop_zero,jH (by omega)];simp
 ·intro i x w hx hw
  rw[List.drop_zero,jH (by omega)] at hw
  rw[fO] at hx
  by_cases hi:i<l.length
  ·rw[List.getElem?_append_left (by simpa using hi)] at hx hw
   rw[hx] at hw;cases hw
   exact nq n x (bZ.1 (hn l) _ (bn hx))
  ·have hi2:=(aZ hw).1
   obtain rfl:i=l.length:=by omega
   rw[List.getElem?_append_right (by simp),aM,Nat.sub_self] at hx hw
   cases hx;cases hw
   exact h6
theorem zi (l:cq)(hs:rF 99000 l):af Tryz.prog 90 [] [eT l] [] (eT (jN l)):=by
 have a1:=Bp l (by have:=hs.todos;omega) (by have:=hs.stack;omega) (by have:=hs.back;omega)
 have hl:=hs.todos
 unfold jN
 obtain⟨a,b,c,d⟩:=l
 simp only at a1 hl
 have ham:(a.map bO).length=a.length:=aM ..
 refine af.ah (rvs:=[.cell 2 34]) G aa Tryz.func90 rfl Tryz.ntmps90 rfl rfl ?_;with_reducible refine wD ?_
 refine aD.lR (news:=[lH a,oZ b,jG c]) [41,42,43] [] a1 OF ⟨⟨rfl,rfl,rfl,rfl,trivial⟩,trivial⟩ trivial rfl ⟨⟨rfl,rfl⟩,rfl⟩ rfl ⟨⟨rfl,.inl ⟨rfl,cE _⟩⟩,⟨rfl,.inl ⟨rfl,ej _⟩⟩,⟨rfl,.inl ⟨rfl,bC _⟩⟩,trivial⟩ rfl rfl ?_
 with_reducible refine wK ?_
 repeat' (first
  |refine gK ?_|refine aE ?_ ?_
  |(((with_reducible show cC _ _ _ _ _ _ _ _ _ _);refine cC.mk (a.map bO) [.lit (.slice none 0 0)] ⟨rfl,ham.symm,rfl⟩ ⟨rfl,rfl,rfl⟩ rfl (by simp;omega) (by simp;omega) ?_)<;>with_reducible refine wK ?_)
  |apply trivial)
 all_goals first
  |exact xb bO (y:=[]) rfl rfl rfl (by simp) cE (show FZ _ from .inr (.inr ⟨10,rfl⟩))
  |exact sZ rfl rfl rfl rfl
  |exact eM rfl rfl rfl rfl
def qf (l:List az)(n:Int):Int:=((U.bS l n).getLast?).getD n
theorem Aq {l:List az}(T:U.Tree l){n:Int}(hn:ai l n=true)(hp:iL (nd l n)=-1):qf l n=n:=by
 unfold qf;rw[U.ga T hn hp];rfl
theorem vC {l:List az}(T:U.Tree l){n:Int}(hn:ai l n=true)(hp:iL (nd l n)≠-1)(hu:ai l (iL (nd l n))=true):qf l n=qf l (iL (nd l n)):=by
 obtain⟨r,hr⟩:=U.dI T hu
 unfold qf;rw[U.bY T hn hp,hr,List.getLast?_cons_cons]
 cases h:(iL (nd l n)::r).getLast? with
 |none=>simp at h
 |some a=>rfl
theorem Ic {l:List az}(T:U.Tree l):∀n,ai l n=true→iL (nd l n)≠-1→ai l (iL (nd l n))=true:=by
 refine U.iy T (P:=fun n=>iL (nd l n)≠-1→ai l (iL (nd l n))=true) (fun n hn h0 h=>absurd h0 h) (fun n hn h0 h1 _ _=>h1)
theorem yR {l:List az}(T:U.Tree l):∀n,ai l n=true→ai l (qf l n)=true:=by
 refine U.iy T (fun n hn h=>?_) (fun n hn h hu ih=>?_)
 ·rw[Aq T hn h];exact hn
 ·rw[vC T hn h hu];exact ih
theorem LD (f:ForM)(k:Nat)(x:az)(hx:f.nodes[k]? =some x):af Tryz.prog 236 [] [bD f,aj k] [] (aj (iL x)):=by
 obtain⟨l,m⟩:=f
 obtain⟨a1,a2,a3,a4,a5,a6,a7,a8,a9,a10⟩:=x
 unfold iL
 refine af.ah (rvs:=[.tmp 4]) G aa Tryz.func236 rfl Tryz.ntmps236 rfl rfl ?_;with_reducible refine wD ?_
 by_cases e:a6=-1
 ·subst e
  rw[if_pos rfl]
  repeat' (first
  |refine gK ?_|refine aE ?_ ?_
  |(((with_reducible show ak _ _ _ _ _);refine ak.mk k (aO _) rfl (au hx) ?_)<;>with_reducible refine wK ?_)
  |apply trivial)
 ·rw[if_neg e]
  (have fct:=(eq_false e);(repeat' (first
  |refine gF ?_|refine aE ?_ ?_
  |(((with_reducible show ak _ _ _ _ _);refine ak.mk k (aO _) rfl (au hx) ?_)<;>with_reducible refine wK ?_)
  |apply trivial));all_goals clear fct)
def Oh (f:ForM)(n:Int):Int:=if(bf f&&ai f.nodes n)=true then qf f.nodes n else-1
theorem J5 (f:ForM)(hs:bR f.nodes)(n:Int):af Tryz.prog 188 [] [bD f,aj n] [] (aj (Oh f n)):=by
 have h86:=Kb f hs [n] (by simp)
 have e1:(bf f&& !decide (0≤fe (fun n=> !ai f.nodes n) [n]))=(bf f&&ai f.nodes n):=by
  congr 1
  unfold fe
  cases h:ai f.nodes n<;>simp[List.findIdx?_cons,h]
 rw[e1] at h86
 have h87:=fun k x hx=>LD f k x hx
 obtain⟨l,m⟩:=f
 unfold Oh
 simp only at h86 h87 ⊢
 refine af.ah (rvs:=[.tmp 4]) G aa Tryz.func188 rfl Tryz.ntmps188 rfl rfl ?_;with_reducible refine wD ?_
 cases e0:(bf ⟨l,m⟩&&ai l n) with
 | false=>
   rw[e0] at h86
   refine aD.lit [71] h86 PB ⟨⟨rfl,rfl,trivial⟩,eM (l:=[n]) rfl rfl rfl rfl,trivial⟩ rfl rfl ?_;with_reducible refine wK ?_
   repeat' (first
  |refine gK ?_|refine aE ?_ ?_
  | apply trivial)
   all_goals rfl
 | true=>
   rw[e0] at h86
   refine aD.lit [71] h86 PB ⟨⟨rfl,rfl,trivial⟩,eM (l:=[n]) rfl rfl rfl rfl,trivial⟩ rfl rfl ?_;with_reducible refine wK ?_
   rw[if_pos rfl]
   obtain⟨hr,hn⟩:bf ⟨l,m⟩=true∧ai l n=true:=by simpa using e0
   have T:=U.gO hr
   simp only at T
   repeat' (first
  |refine gK ?_|refine aE ?_ ?_
  | apply trivial)
   refine aR.use G aa (fun(c:Int)=>[(1,aj c),(2,.ptr 20 0 0)]) (fun c=>[(20,.live 2 [bD ⟨l,m⟩] false)])
    (fun c=>ai l c=true∧qf l c=qf l n) (fun c=>(U.bS l c).length) n ⟨hn,rfl⟩
    (by refine⟨⟨rfl,rfl⟩,⟨rfl,⟨rfl,rfl⟩,trivial⟩,⟨⟨rfl,rfl,trivial⟩,trivial⟩,trivial⟩) ?_
   rintro c ⟨hc,htop⟩
   with_reducible refine wK ?_
   obtain⟨i,y,rfl,hy,hny⟩:=aX.1 hc
   have h:=h87 i y hy
   by_cases e:iL y=-1
   ·rw[e] at h
    rw[Aq T hc (by rw[hny];exact e)] at htop
    repeat' (first
  |refine gK ?_|refine aE ?_ ?_
  |(((with_reducible refine kQ 236 ?_);refine cL h Qs ?_)<;>with_reducible refine wK ?_)
  | apply trivial)
    all_goals exact htop.symm
   ·have hu:=Ic T _ hc (by rw[hny];exact e)
    have hst:=vC T hc (by rw[hny];exact e) hu
    have hway:=U.bY T hc (by rw[hny];exact e)
    rw[hny] at hu hst hway
    generalize iL y=u at h e hu hst hway
    (have fct:=(eq_false e);(repeat' (first
  |refine gF ?_|refine aE ?_ ?_
  |(((with_reducible refine kQ 236 ?_);refine cL h Qs ?_)<;>with_reducible refine wK ?_)
  | apply trivial));all_goals clear fct)
    refine ay.mk u ⟨hu,by rw[←hst,htop]⟩ (by rw[hway];simp) ⟨⟨rfl,rfl⟩,⟨rfl,⟨rfl,rfl⟩,trivial⟩,⟨⟨rfl,rfl,trivial⟩,trivial⟩,trivial⟩
def KK (f:ForM)(n:Int):Bool:=(bf f&&ai f.nodes n)&&decide ((nd f.nodes (qf f.nodes n)).kind=0)
theorem Lc (f:ForM)(hs:bR f.nodes)(n:Int):af Tryz.prog 120 [] [bD f,aj n] [] (aA (KK f n)):=by
 have h63:=J5 f hs n
 unfold Oh at h63
 unfold KK
 cases e0:(bf f&&ai f.nodes n) with
 | false=>
   rw[e0,if_neg (by simp)] at h63
   obtain⟨l,m⟩:=f
   refine af.ah (rvs:=[.tmp 4]) G aa Tryz.func120 rfl Tryz.ntmps120 rfl rfl ?_;with_reducible refine wD ?_
   repeat' (first
  |refine gK ?_|refine aE ?_ ?_
  |(((with_reducible refine kQ 188 ?_);refine cL h63 P4 ?_)<;>with_reducible refine wK ?_)
  | apply trivial)
   all_goals rfl
 | true=>
   rw[e0,if_pos rfl] at h63
   obtain⟨hr,hn⟩:bf f=true∧ai f.nodes n=true:=by simpa using e0
   have ht:=yR (U.gO hr) n hn
   obtain⟨l,m⟩:=f
   simp only at h63 ht ⊢
   generalize qf l n=t at h63 ht ⊢
   obtain⟨i,y,rfl,hy,hny⟩:=aX.1 ht
   rw[hny]
   obtain⟨a1,a2,a3,a4,a5,a6,a7,a8,a9,a10⟩:=y
   refine af.ah (rvs:=[.tmp 4]) G aa Tryz.func120 rfl Tryz.ntmps120 rfl rfl ?_;with_reducible refine wD ?_
   refine cL h63 P4 ?_;with_reducible refine wK ?_
   (have fct:=(show ¬ (i:Int)=-1 by omega);(repeat' (first
  |refine gF ?_|refine aE ?_ ?_
  |(((with_reducible show ak _ _ _ _ _);refine ak.mk i (aO _) rfl (au hy) ?_)<;>with_reducible refine wK ?_)
  | apply trivial));all_goals clear fct)
   all_goals simp
theorem LF (f:ForM)(T:U.Tree f.nodes):∀n,ai f.nodes n=true→af Tryz.prog 239 [] [bD f,aj n] [] (aj (qf f.nodes n)):=by
 refine U.iy T (fun n hn h=>?_) (fun n hn h hu ih=>?_)
 ·rw[Aq T hn h]
  obtain⟨i,y,rfl,hy,hny⟩:=aX.1 hn
  rw[hny] at h
  obtain⟨l,m⟩:=f
  obtain⟨a1,a2,a3,a4,a5,a6,a7,a8,a9,a10⟩:=y
  unfold iL at h
  simp only at h hy ⊢
  have e6:a6=-1:=by
   by_cases e:a6=-1
   ·exact e
   ·rw[if_neg e] at h;exact h
  subst e6
  have e8:a8=-1:=by simpa using h
  subst e8
  refine af.ah (rvs:=[.tmp 4]) G aa Tryz.func239 rfl Tryz.ntmps239 rfl rfl ?_;with_reducible refine wD ?_
  repeat' (first
  |refine gK ?_|refine aE ?_ ?_
  |(((with_reducible show ak _ _ _ _ _);refine ak.mk i (aO _) rfl (au hy) ?_)<;>with_reducible refine wK ?_)
  |apply trivial)
 ·rw[vC T hn h hu]
  obtain⟨i,y,rfl,hy,hny⟩:=aX.1 hn
  rw[hny] at h hu ih ⊢
  obtain⟨l,m⟩:=f
  obtain⟨a1,a2,a3,a4,a5,a6,a7,a8,a9,a10⟩:=y
  unfold iL at h hu ih ⊢
  simp only at h hu ih hy ⊢
  by_cases e:a6=-1
  ·subst e
   rw[if_pos rfl] at h hu ih ⊢
   refine af.ah (rvs:=[.tmp 4]) G aa Tryz.func239 rfl Tryz.ntmps239 rfl rfl ?_;with_reducible refine wD ?_
   (have fct:=(eq_false h);(repeat' (first
  |refine gF ?_|refine aE ?_ ?_
  | ((first
   |((with_reducible show ak _ _ _ _ _);refine ak.mk i (aO _) rfl (au hy) ?_)
   |((with_reducible refine kQ 239 ?_);refine cL ih Nz ?_))<;>with_reducible refine wK ?_)
  |apply trivial));all_goals clear fct)
  ·rw[if_neg e] at h hu ih ⊢
   refine af.ah (rvs:=[.tmp 4]) G aa Tryz.func239 rfl Tryz.ntmps239 rfl rfl ?_;with_reducible refine wD ?_
   (have fct:=(eq_false e);(repeat' (first
  |refine gF ?_|refine aE ?_ ?_
  | ((first
   |((with_reducible show ak _ _ _ _ _);refine ak.mk i (aO _) rfl (au hy) ?_)
   |((with_reducible refine kQ 239 ?_);refine cL ih Nz ?_))<;>with_reducible refine wK ?_)
  |apply trivial));all_goals clear fct)
theorem Lf (f:ForM)(T:U.Tree f.nodes)(n:Int)(hn:ai f.nodes n=true):af Tryz.prog 195 [] [bD f,aj n] [] (aA (decide ((nd f.nodes (qf f.nodes n)).kind=0))):=by
 have h84:=LF f T n hn
 have ht:=yR T n hn
 obtain⟨l,m⟩:=f
 simp only at h84 ht ⊢
 generalize qf l n=t at h84 ht ⊢
 obtain⟨i,y,rfl,hy,hny⟩:=aX.1 ht
 rw[hny]
 obtain⟨a1,a2,a3,a4,a5,a6,a7,a8,a9,a10⟩:=y
 refine af.ah (rvs:=[.tmp 4]) G aa Tryz.func195 rfl Tryz.ntmps195 rfl rfl ?_;with_reducible refine wD ?_
 repeat' (first
  |refine gK ?_|refine aE ?_ ?_
  | ((first
   |((with_reducible show ak _ _ _ _ _);refine ak.mk i (aO _) rfl (au hy) ?_)
   |((with_reducible refine kQ 239 ?_);refine cL h84 Nz ?_))<;>with_reducible refine wK ?_)
  |apply trivial)
end Go.Proofs.Heir
section
namespace Go.Proofs.Heir
open Go Go.Am Go.RowKit Go.Lib
set_option maxRecDepth 100000
set_option maxHeartbeats 8000000
@[reducible] def eN : ByteArray := ⟨⟨[102, 111, 114, 109]⟩⟩
@[reducible] def uT : ByteArray := ⟨⟨[105, 100]⟩⟩
def gm (x:az):Bool:=decide (x.kind=1)&&decide (x.name=eN)
def uF (x:az)(w:ByteArray):Option ByteArray:=if 0≤iE x.attrs w then some (xe x.attrs w) else none
def xo (x:az)(w:ByteArray):Option ByteArray:=if 0≤nE x.attrs w then some (((x.attrs[(nE x.attrs w).toNat]?).map AttrM.value).getD Qi) else none
def dZ (l:List az)(q:Int→Bool)(n:Int):Int:=((bS l n).tail.find? q).getD (-1)
def pz (l:List az)(n:Int):Int:=dZ l (fun p=>gm (nd l p)) n
def yh (l:List az)(n:Int):Int:=dZ l (fun p=>decide ((nd l p).name=eN)) n
def dD (l:List az)(n:Int):Int:=((bS l n).getLast?).getD n
def jZ (l:List az)(t:List (ByteArray×Int))(k:Int):List (ByteArray×Int):=
 match uF (nd l k) uT with
 | some v=>(match dx v t with
  |some _=>t
  |none=>eE v k t)
 |none=>t
def oU (l:List az)(r:Int):List (ByteArray×Int):=(bU l l.length r).foldl (jZ l) []
def mX (l:List az)(r:Int)(v:ByteArray):Option Int:=(bU l l.length r).find? fun k=>decide (uF (nd l k) uT=some v)
def CJ (l:List az)(r:Int)(v:ByteArray):Option Int:=(bU l l.length r).find? fun k=>decide (xo (nd l k) uT=some v)
def zR (l:List az)(n:Int):Bool:=decide ((nd l (qf l n)).kind=0)
def MD (l:List az)(n:Int)(v:ByteArray):Int:=
 match mX l (dD l n) v with
 |some k=>if v≠ ⟨#[]⟩∧gm (nd l k)=true then k else-1
 |none=> -1
def iT (l:List az)(n:Int):Int:=
 if(nd l n).kind=1 then
  match uF (nd l n) eN with
  |some v=>if zR l n=true then MD l n v else pz l n
  |none=>pz l n
 else-1
def JL (l:List az)(n:Int)(v:ByteArray):Int:=
 if v=⟨#[]⟩ then-1 else
 match CJ l (dD l n) v with
 |some k=>if(nd l k).name=eN then k else-1
 |none=> -1
def FA (l:List az)(n:Int):Int:=
 if(nd l n).kind=1 then
  match xo (nd l n) eN with
  |some v=>if zR l n=true then JL l n v else yh l n
  |none=>yh l n
 else-1
theorem yV (l:List az)(v:ByteArray):∀ (ks:List Int) (t:List (ByteArray×Int)),dx v (ks.foldl (jZ l) t)=match dx v t with
  |some x=>some x
  |none=>ks.find? fun k=>decide (uF (nd l k) uT=some v)
 | [],t=>by
   simp only[List.foldl_nil,List.find?_nil]
   cases dx v t<;>rfl
 | k ::r,t=>by
   rw[List.foldl_cons,yV l v r]
   rw[List.find?_cons]
   unfold jZ
   cases ha:uF (nd l k) uT with
   |none=>simp
   | some u=>
     dsimp only
     by_cases huv:u=v
     ·subst huv
      cases ht:dx u t with
      |some x=>dsimp only;rw[ht]
      |none=>dsimp only;rw[fI,if_pos rfl];simp
     ·have hne:decide (some u=some v)=false:=aS fun h=>huv (Option.some.inj h)
      rw[hne]
      cases ht:dx u t with
      |some x=>rfl
      |none=>dsimp only;rw[fI,if_neg huv]
theorem Gq (l:List az)(r:Int)(v:ByteArray):dx v (oU l r)=mX l r v:=by
 unfold oU;rw[yV];rfl
theorem Gm (l:List az)(t:List (ByteArray×Int))(k:Int):(jZ l t k).length≤t.length+1:=by
 unfold jZ
 split
 ·split
  ·omega
  ·rw[oV];split<;>omega
 ·omega
theorem Br (l:List az):∀ (ks:List Int) (t:List (ByteArray×Int)),(ks.foldl (jZ l) t).length≤t.length+ks.length
 |[],t=>Nat.le_refl _
 | k::r,t=>by
   have h1:=Br l r (jZ l t k)
   have h2:=Gm l t k
   rw[List.foldl_cons,List.length_cons];omega
variable {l : List az}
theorem rE (T:Tree l){n:Int}(hn:ai l n=true)(hp:(nd l n).parent=-1):dD l n=n:=by
 unfold dD;rw[ga T hn hp];rfl
theorem pY (T:Tree l){n:Int}(hn:ai l n=true)(hp:(nd l n).parent≠-1):dD l n=dD l (nd l n).parent:=by
 obtain⟨r,hr⟩:=dI T (T.par n hn hp).1
 unfold dD;rw[bY T hn hp,hr,List.getLast?_cons_cons]
 cases h:((nd l n).parent::r).getLast? with
 |none=>simp at h
 |some a=>rfl
theorem kS (T:Tree l):∀n,ai l n=true→ai l (dD l n)=true∧(nd l (dD l n)).parent=-1∧dD l n∈bS l n:=by
 refine iy T (fun n hn h=>?_) (fun n hn h hu ih=>?_)
 ·rw[rE T hn h];exact⟨hn,h,iQ T hn⟩
 ·rw[pY T hn h];exact⟨ih.1,ih.2.1,by rw[bY T hn h];exact j9 _ ih.2.2⟩
theorem Ba (T:Tree l):∀n,ai l n=true→∀a∈bS l n,dD l a=dD l n:=by
 refine iy T (fun n hn h a ha=>?_) (fun n hn h hu ih a ha=>?_)
 ·rw[ga T hn h] at ha;rw[iw.1 ha]
 ·rw[bY T hn h] at ha
  rcases fj.1 ha with rfl|h'
  ·rfl
  ·rw[pY T hn h];exact ih a h'
theorem mz (T:Tree l){r n:Int}(hr:ai l r=true)(h:n∈bU l l.length r):ai l n=true∧r∈bS l n∧dD l n=dD l r:=by
 obtain⟨h1,h2⟩:=gx T _ r hr n h
 exact⟨h1,h2,(Ba T n h1 r h2).symm⟩
theorem GR (T:Tree l){n:Int}(hn:ai l n=true):dD l (dD l n)=dD l n:=by
 obtain⟨h1,h2,_⟩:=kS T n hn
 exact rE T h1 h2
theorem tH (T:Tree l)(q:Int→Bool){n:Int}(hn:ai l n=true)(hp:(nd l n).parent≠-1):dZ l q n=if q (nd l n).parent=true then(nd l n).parent else dZ l q (nd l n).parent:=by
 obtain⟨r,hr⟩:=dI T (T.par n hn hp).1
 unfold dZ
 rw[bY T hn hp,List.tail_cons,hr,List.find?_cons,List.tail_cons]
 cases h:q (nd l n).parent<;>simp
theorem vp (T:Tree l)(q:Int→Bool){n:Int}(hn:ai l n=true)(hp:(nd l n).parent=-1):dZ l q n=-1:=by
 unfold dZ;rw[ga T hn hp];rfl
theorem FT (T:Tree l)(q:Int→Bool):∀n,ai l n=true→
  (dZ l q n=-1∧∀a∈bS l n,a≠n→q a=false)∨
  (dZ l q n∈bS l n∧dZ l q n≠n∧q (dZ l q n)=true∧∀a∈bS l n,a≠n→q a=true→a∈bS l (dZ l q n)):=by
 refine iy T (fun n hn h=>?_) (fun n hn h hu ih=>?_)
 ·left
  refine⟨vp T q hn h,fun a ha hne=>?_⟩
  rw[ga T hn h] at ha
  exact absurd (iw.1 ha) hne
 ·have hne:∀a∈bS l (nd l n).parent,a≠n:=by
   intro a ha e
   subst e
   have h1:=bY T hn h
   obtain⟨t,ht⟩:=je T _ hu a ha
   rw[ht] at h1
   have:=congrArg List.length h1
   simp at this
   omega
  rw[tH T q hn h]
  have hw:=bY T hn h
  cases hq:q (nd l n).parent with
  | true=>
    rw[if_pos rfl]
    right
    refine⟨by rw[hw];exact j9 _ (iQ T hu),hne _ (iQ T hu),hq,fun a ha hna _=>?_⟩
    rw[hw] at ha
    exact(fj.1 ha).resolve_left hna
  | false=>
    rw[if_neg (by simp)]
    rcases ih with⟨h1,h2⟩|⟨h1,h2,h3,h4⟩
    ·left
     refine⟨h1,fun a ha hna=>?_⟩
     rw[hw] at ha
     have ha':=(fj.1 ha).resolve_left hna
     by_cases e:a=(nd l n).parent
     ·rw[e];exact hq
     ·exact h2 a ha' e
    ·right
     refine⟨by rw[hw];exact j9 _ h1,hne _ h1,h3,fun a ha hna hqa=>?_⟩
     rw[hw] at ha
     have ha':=(fj.1 ha).resolve_left hna
     refine h4 a ha' (fun e=>?_) hqa
     rw[e,hq] at hqa;cases hqa
theorem Jt (T:Tree l){n:Int}(hn:ai l n=true){w:ByteArray}(h1:bJ w=true)(h2:gR w=w):uF (nd l n) w=xo (nd l n) w:=by
 unfold uF xo xe
 rcases sP T hn with h|⟨h3,h4,h5⟩
 ·have hr:gq (nd l n).attrs=true:=by
   have h2:=T.nam n hn
   unfold iS at h2
   rw[if_pos h] at h2
   simp only[aT] at h2
   exact h2.2
  unfold iE;rw[hr,h1,h2];simp only[Bool.and_self,if_true]
  by_cases h0:0≤nE (nd l n).attrs w
  ·simp only[if_pos h0]
  ·simp only[if_neg h0]
 ·rw[h5]
  have e1:nE [] w=-1:=rfl
  have e2:iE [] w=-1:=by unfold iE;split<;>rfl
  rw[e1,e2];rfl
theorem C1:bJ eN=true:=by decide+kernel
theorem Hy:gR eN=eN:=by decide+kernel
theorem Ih:bJ uT=true:=by decide+kernel
theorem NF:gR uT=uT:=by decide+kernel
theorem xZ (T:Tree l){n:Int}(hn:ai l n=true):gm (nd l n)=decide ((nd l n).name=eN):=by
 unfold gm
 rcases sP T hn with h|⟨h1,h2,_⟩
 ·rw[h];simp
 ·rw[h2];simp[h1]
theorem find_congr {α:Type}{p q:α→Bool}{ks:List α}(h:∀k∈ks,p k=q k):ks.find? p=ks.find? q:=by
 induction ks with
 |nil=>rfl
 |cons a r ih=>rw[List.find?_cons,List.find?_cons,h a mq,ih fun k hk=>h k (j9 _ hk)]
theorem first_eq (T:Tree l){r:Int}(hr:ai l r=true)(v:ByteArray):mX l r v=CJ l r v:=by
 refine find_congr fun k hk=>?_
 rw[Jt T (mz T hr hk).1 Ih NF]
theorem L3 (T:Tree l){n:Int}(hn:ai l n=true):pz l n=yh l n:=by
 unfold pz yh dZ
 rw[find_congr fun k hk=>xZ T (gS T n hn k (List.mem_of_mem_tail hk))]
theorem qG {r:Int}{v:ByteArray}{k:Int}(h:mX l r v=some k):k∈bU l l.length r∧uF (nd l k) uT=some v:=
 ⟨List.mem_of_find?_eq_some h,by have:=List.find?_some h;simpa using this⟩
theorem OV (T:Tree l){n:Int}(hn:ai l n=true):iT l n=FA l n:=by
 unfold iT FA
 rw[Jt T hn C1 Hy,L3 T hn]
 split
 ·cases xo (nd l n) eN with
  |none=>rfl
  | some v=>
    simp only
    split
    ·unfold MD JL
     have hr:=(kS T n hn).1
     rw[←first_eq T hr]
     by_cases hv:v=⟨#[]⟩
     ·rw[if_pos hv]
      cases mX l (dD l n) v with
      |none=>rfl
      |some k=>simp[hv]
     ·rw [if_neg hv]
      cases hf:mX l (dD l n) v with
      |none=>rfl
      | some k=>
        have hk:=(mz T hr (qG hf).1).1
        simp only[xZ T hk,aL]
        by_cases e:(nd l k).name=eN
        ·rw[if_pos ⟨hv,e⟩,if_pos e]
        ·rw[if_neg (fun h=>e h.2),if_neg e]
    ·rfl
 ·rfl
theorem IX (T:Tree l){n:Int}(hn:ai l n=true)(h:iT l n≠-1):ai l (iT l n)=true∧gm (nd l (iT l n))=true∧dD l (iT l n)=dD l n∧(nd l n).kind=1:=by
 have hnear:pz l n≠-1→ai l (pz l n)=true∧gm (nd l (pz l n))=true∧dD l (pz l n)=dD l n:=by
  intro h
  rcases FT T (fun p=>gm (nd l p)) n hn with⟨h1,_⟩|⟨h1,_,h3,_⟩
  ·exact absurd h1 h
  ·exact⟨gS T n hn _ h1,h3,Ba T n hn _ h1⟩
 unfold iT at h ⊢
 by_cases hk:(nd l n).kind=1
 ·rw [if_pos hk] at h ⊢
  cases ha:uF (nd l n) eN with
  | none=>
    rw[ha] at h
    exact⟨(hnear h).1,(hnear h).2.1,(hnear h).2.2,hk⟩
  | some v=>
    rw[ha] at h
    simp only at h ⊢
    by_cases hc:zR l n=true
    ·rw [if_pos hc] at h ⊢
     unfold MD at h ⊢
     cases hf:mX l (dD l n) v with
     |none=>rw[hf] at h;exact absurd rfl h
     | some k=>
       rw[hf] at h
       simp only at h ⊢
       by_cases e:v≠ ⟨#[]⟩∧gm (nd l k)=true
       ·rw[if_pos e] at h ⊢
        obtain⟨h1,h2,h3⟩:=mz T (kS T n hn).1 (qG hf).1
        exact⟨h1,e.2,by rw[h3,GR T hn],hk⟩
       ·rw[if_neg e] at h;exact absurd rfl h
    ·rw[if_neg hc] at h ⊢
     exact⟨(hnear h).1,(hnear h).2.1,(hnear h).2.2,hk⟩
 ·rw[if_neg hk] at h;exact absurd rfl h
def sy (l:List az)(x:Int):List Int:=(bU l l.length (dD l x)).filter fun k=>decide (FA l k=x)
end Go.Proofs.Heir
end
section
namespace Go.Proofs.Heir
open Go Go.Am Go.RowKit Go.Lib
set_option maxRecDepth 100000
set_option maxHeartbeats 8000000
variable {l : List az}
end Go.Proofs.Heir
end
namespace Go.Proofs.Heir
open Go Go.Am Go.RowKit Go.Shelf
set_option maxRecDepth 100000
set_option maxHeartbeats 8000000
theorem Bv {Wn:Nat→Prop}{μ:Mu}{W:World}{wd:Nat}{rows:List AV}{b o:Nat}(h:cH Wn μ W (.fptr (.sl wd rows) 0) (.pointer (some ⟨b,o,none⟩))):
  ∃ad cap,W.cell? ⟨b,o,none⟩=some (.slice ad rows.length cap)∧rows.length≤cap∧∀ (j:Nat) (r:AV),rows[j]? =some r→∃b2 o2 vs,ad=some ⟨b2,o2,none⟩∧List.length vs=wd∧(∀q v,vs[q]? =some v→W.cell? ⟨b2,o2+j*wd+q,none⟩=some v)∧∀ (q:Nat) (c:AV) (v:Value),(cells r)[q]? =some c→vs[q]? =some v→cH Wn μ W c v:=by
 generalize hv:Value.pointer (some ⟨b,o,none⟩)=v at h
 cases h with
 | @fptr _ _ b' o' f h1 h2 h3 h4 h5=>
   cases hv
   have k3:=h3 0 _ rfl
   have k4:=h4 0 _ rfl
   rw[Nat.add_zero] at k3
   rw[Nat.add_zero,k3]
   generalize f 0=s at k4
   by_cases hne:rows=[]
   ·subst hne
    cases k4 with
    |slNil=>exact⟨_,_,rfl,Nat.zero_le _,fun j x h=>by simp at h⟩
    |sl a1 a2 a3 a4 a5 a6 a7 a8=>subst a3;exact⟨_,_,rfl,Nat.zero_le _,fun j x h=>by simp at h⟩
   ·cases k4 with
    |slNil=>exact absurd rfl hne
    | @sl _ _ b2 o2 cap _ fv a1 a2 a3 a4 a5 a6 a7 a8=>
      subst a3
      refine⟨_,_,rfl,a4,fun j r hr=>⟨b2,o2,(List.range wd).map fun q=>fv (j*wd+q),rfl,by simp,fun q v hv=>?_,fun q c v hc hv=>?_⟩⟩
      ·have hqw:q<wd:=by have:=(aZ hv).1;simpa using this
       have hcl:(cells r).length=wd:=a5 j _ hr
       obtain⟨c,hc⟩:∃c,(cells r)[q]? =some c:=⟨_,aP (by omega)⟩
       have:=a6 _ _ (dV (wd:=wd) (fun i r hr=>a5 i r hr) hr hc)
       rw[Nat.add_assoc,this]
       rw[dM,List.getElem?_range hqw] at hv
       simpa using hv
      ·have hqw:q<wd:=by have:=(aZ hv).1;simpa using this
       rw[dM,List.getElem?_range hqw] at hv
       have hv':fv (j*wd+q)=v:=by simpa using hv
       rw[←hv']
       exact a7 _ _ (dV (wd:=wd) (fun i r hr=>a5 i r hr) hr hc)
theorem Nj {α:Type}:∀ {l:List α},l.length=2→∃a b,l=[a,b]
 |[a,b],_=>⟨a,b,rfl⟩
theorem Ip (l:List dn)(hl:l.length≤100000):L1 Tryz.prog 258 [.fptr (ni l) 0] l.length (fun k=>[bB ((l.length:Int)-1-k),iF ((l.reverse[k]?).getD ⟨0,[]⟩)]):=by
 intro vals y J Jx hJ hJm hJxm _ hY Wn w h0
 obtain⟨⟨μ,hr⟩,_⟩:=hJ 0 Wn w h0
 obtain⟨vb,us,rfl,hvb,hus⟩:=cz.tj hr
 obtain rfl:=cz.Ie hus
 obtain⟨b,o,rfl⟩:∃b o,vb=.pointer (some ⟨b,o,none⟩):=by cases hvb;exact⟨_,_,rfl⟩
 have box:∀k Wn W,J k Wn W→∃μ ad cap,W.cell? ⟨b,o,none⟩=some (.slice ad l.length cap)∧l.length≤cap∧∀ (j:Nat) (x:dn),l[j]? =some x→∃b2 o2 a n c,ad=some ⟨b2,o2,none⟩∧W.cell? ⟨b2,o2+j*2,none⟩=some (.int .i64 x.kind)∧W.cell? ⟨b2,o2+j*2+1,none⟩=some (.slice a n c)∧cH Wn μ W (xl x.prog) (.slice a n c):=by
  intro k Wn W hJk
  obtain⟨⟨μ,hr⟩,_⟩:=hJ k Wn W hJk
  obtain⟨v1,us,e,hv1,_⟩:=cz.tj hr
  cases e
  obtain⟨ad,cap,h1,h2,h3⟩:=Bv hv1
  rw[aM] at h1 h2
  refine⟨μ,ad,cap,h1,h2,fun j x hx=>?_⟩
  obtain⟨b2,o2,vs,e,hlen,hc,hrep⟩:=h3 j _ (eu hx)
  obtain⟨v0,v1,rfl⟩:=Nj hlen
  have r0:=hrep 0 _ _ rfl rfl
  have r1:=hrep 1 _ _ rfl rfl
  have c0:=hc 0 _ rfl
  have c1:=hc 1 _ rfl
  obtain⟨a,n,c,rfl⟩:=OI r1
  obtain rfl:=r0.val
  exact⟨b2,o2,a,n,c,e,c0,c1,r1⟩
 refine(callsIn_wide (n:=1)).1 ?_
 refine callsIn_of_wp Tryz.func258 rfl trivial ?_ rfl
 simp only[Tryz.ntmps258,List.size_toArray,List.length_cons,List.length_nil,Nat.reduceAdd,Nat.reduceSub,Array.replicate_succ,Array.replicate_zero,List.push_toArray,List.append_toArray,List.nil_append,List.cons_append]
 obtain⟨μ0,ad,cap,hbx,hcap,hel⟩:=box 0 Wn w h0
 gi_wp2
 gi_loopw [3] (fun i wr=> ∃k:Nat,k≤l.length∧i=.int .i64 ((l.length:Int)-1-k)∧∃Wn,J k Wn wr) (fun i _=>(intOf i+1).toNat)
 case atStart=>exact⟨0,Nat.zero_le _,by simp,Wn,h0⟩
 case round=>
  obtain⟨k,hk,rfl,Wn',hJk⟩:=hrel
  obtain⟨μ',ad',cap',hbx',hcap',hel'⟩:=box k Wn' wr hJk
  by_cases hlt:k<l.length
  ·have hix:l.length-1-k<l.length:=by omega
   obtain⟨⟨x1,x2⟩,hx⟩:∃x,l[l.length-1-k]? =some x:=⟨_,aP hix⟩
   obtain⟨b2,o2,pa,pn,pc,rfl,hc0,hc1,hrp⟩:=hel' _ _ hx
   simp only at hc0 hc1 hrp
   have hrev:(l.reverse[k]?).getD ⟨0,[]⟩=⟨x1,x2⟩:=by
    rw[List.getElem?_reverse (by omega),hx];rfl
   obtain⟨fn,tmps,assign,body,hy,hR⟩:=hY k Wn' wr [.int .i64 ((l.length:Int)-1-k),.agg #[.int .i64 x1,.slice pa pn pc]] hlt hJk (fun Wn'' μ'' hrA=>by
    rw[hrev]
    obtain⟨vA,usA,eA,hvA,_⟩:=cz.tj hrA
    cases eA
    obtain⟨adA,capA,hA1,hA2,hA3⟩:=Bv hvA
    rw[aM,hbx'] at hA1
    obtain⟨bA,oA,vsA,eA,hlenA,hcA,hrepA⟩:=hA3 _ _ (eu hx)
    cases hA1
    cases eA
    obtain⟨w0,w1,rfl⟩:=Nj hlenA
    have c1:=hcA 1 _ rfl
    rw[hc1] at c1
    cases c1
    refine .cons .lit (.cons (cH.agg (vs:=[.int .i64 x1,.slice pa pn pc]) rfl ?_) .nil)
    rintro(_|_|j) c v hc hv
    ·cases hc;cases hv;exact .lit
    ·cases hc;cases hv;exact hrepA 1 _ _ rfl rfl
    ·simp at hv)
   have hz:((l.length:Int)-1-k).toNat=l.length-1-k:=by omega
   gi_wp2
   refine hR.mono ?_
   rintro e W3 (⟨rfl,Wn3,hJ3,_⟩|⟨rfl,hJx3⟩)
   ·gi_wp2
    go_roundw
    case rel=>exact⟨k+1,by omega,by congr 1;omega,Wn3,hJ3⟩
    case measure=>simp[intOf];omega
   ·gi_wp2
    refine bodyPost_ret (results_none rfl _ _ _) rfl ?_
    exact⟨⟨_,rfl⟩,.inr hJx3⟩
  ·obtain rfl:k=l.length:=by omega
   gi_wp2
   go_end0
   exact⟨⟨_,rfl⟩,.inl ⟨_,hJk⟩⟩
end Go.Proofs.Heir
namespace Go.Proofs.Heir
open Go Go.Am Go.RowKit Go.Lib
set_option maxRecDepth 100000
set_option maxHeartbeats 8000000
theorem JT (l:List dn):af Tryz.prog 234 [] [ni l] [] (.clo (.func 258) [] [.fptr (ni l) 0]):=by
 refine af.ah (rvs:=[.tmp 2]) G aa Tryz.func234 rfl Tryz.ntmps234 rfl rfl ?_;with_reducible refine wD ?_
 refine⟨⟨rfl,rfl⟩,⟨rfl,trivial,⟨_,_,_,_,_,rfl,rfl,rfl,rfl,rfl,rfl⟩,trivial⟩,?_⟩
 exact trivial
@[reducible] def Ab (t : List (Int × dn)) : MS := .live 2 (ee qc jk t) false
theorem lD (t:List (Int×dn)):aU (ee qc jk t)=true:=by
 rw[bZ];intro x hx
 obtain⟨a,_,rfl⟩:=List.mem_map.1 hx
 show bt (.agg [.lit (qc a.1),jk a.2])=true
 simp[bt,aU,DR]
theorem DX (t:List (Int×dn)):gJ [Ab t]:=by
 refine⟨bI.fM fun r hr=>?_,lD _,trivial⟩
 obtain⟨p,_,rfl⟩:=List.mem_map.1 hr
 rfl
theorem Nk:jj Tryz.prog 242 (.int .i64) (.agg #[.int .i64 0,.slice none 0 0]):=⟨3,138,by kernel_rfl,by kernel_rfl,fun w=>Tryz.zeroValue138 w⟩
def kG (l:List dn)(k:Nat):List (Int×dn):=(l.reverse.take k).foldl (fun t h=>eE h.kind h t) []
theorem CU (l:List dn):kG l l.length=pE l:=by unfold kG pE;rw[jH (by simp)]
theorem uk {l:List dn}{k:Nat}{h:dn}(hh:l.reverse[k]? =some h):kG l (k+1)=eE h.kind h (kG l k):=by
 unfold kG
 rw[List.take_add_one,hh,List.foldl_append];rfl
theorem vS (l:List dn):∀k,(kG l k).length≤k
 |0=>Nat.le_refl _
 | k +1=>by
   have h:=vS l k
   cases e:l.reverse[k]? with
   | none=>
     have:kG l (k+1)=kG l k:=by unfold kG;rw[List.take_add_one,e];simp
     rw[this];omega
   | some x=>
     rw[uk e,oV]
     split<;>omega
theorem JW (c:aI)(hc:c.hooks.length≤100000):af Tryz.prog 187 [] [bK c] [Ab (pE c.hooks)] (.mapr 0):=by
 obtain⟨c1,c2,c3,c4,c5⟩:=c
 simp only at hc ⊢
 refine af.ah (rvs:=[.tmp 2]) G aa Tryz.func187 rfl Tryz.ntmps187 rfl rfl ?_;with_reducible refine wD ?_
 refine cV (JT c5) Q2 ?_;with_reducible refine wK ?_
 repeat' (first
  |refine gK ?_|refine aE ?_ ?_
  |apply trivial)
 refine aR.range G aa 2 [(1,.ptr 1 0 0),(3,.ptr 0 0 0),(9,.clo (.func 258) [] [.fptr (ni c5) 0])]
  (fun k=>[(0,.live 1 [.mapr 61] false),(1,.live 5 [bK ⟨c1,c2,c3,c4,c5⟩] false),(61,Ab (kG c5 k))])
  (Ip c5 hc) SA ?_ rfl ⟨⟨rfl,rfl⟩,rfl⟩ (fun _ _=>rfl) (fun _ _=>rfl) ⟨⟨rfl,rfl⟩,rfl,rfl⟩ ?_ ?_
 ·(refine fK ?_;(with_reducible repeat' (first|exact trivial|(show _∧_;refine aK ?_ ?_)));(all_goals try rfl))
  ·exact⟨.refl rfl,rfl⟩
  ·exact⟨.refl rfl,rfl⟩
 ·intro k hk
  obtain⟨⟨x1,x2⟩,hx⟩:∃x,c5.reverse[k]? =some x:=⟨_,aP (by simpa using hk)⟩
  rw[hx,Option.getD_some]
  have hst:=uk hx
  have hle:=vS c5 k
  with_reducible refine wK ?_
  refine Bz.mk rfl ?_;with_reducible refine wK ?_
  repeat' (first
  |refine gK ?_|refine aE ?_ ?_
  |apply trivial)
  refine rY.cI qc jk (kG c5 k) (k:=x1) ⟨x1,x2⟩ Nk rfl j1 lj (by unfold maxLen;omega) rfl ?_;with_reducible refine wK ?_
  simp only at hst
  rw[←hst]
  repeat' (first
  |refine gK ?_|refine aE ?_ ?_
  |apply trivial)
  refine Bt.mk ?_
  (refine fK ?_;(with_reducible repeat' (first|exact trivial|(show _∧_;refine aK ?_ ?_)));(all_goals try rfl))
  ·exact⟨.refl rfl,rfl⟩
  ·exact⟨.refl (lD _),lD _⟩
 ·with_reducible refine wK ?_
  rw[CU]
  (refine eK ?_ ?_<;>with_reducible repeat' (first|exact trivial|(show _∧_;refine aK ?_ ?_)))
  exact aJ (lD _)
theorem uP (c:aI)(hc:c.hooks.length≤100000)(k:Int):af Tryz.prog 119 [] [bK c,aj k] [] (aA (cm c k)):=by
 have h53:=JW c hc
 have hg:=vi k c.hooks
 unfold cm
 rw[←hg]
 obtain⟨c1,c2,c3,c4,c5⟩:=c
 simp only at h53 ⊢
 refine af.ah (rvs:=[.tmp 4]) G aa Tryz.func119 rfl Tryz.ntmps119 rfl rfl ?_;with_reducible refine wD ?_
 refine aD.new 91 [] h53 Sw ⟨⟨rfl,rfl,rfl,rfl,rfl,trivial⟩,trivial⟩ rfl rfl rfl (DX _) rfl ?_;with_reducible refine wK ?_
 refine jJ.cI qc jk (pE c5) (k:=k) (zv:=.agg [aj 0,.lit (.slice none 0 0)]) Nk ⟨_,_,rfl⟩ j1 lj rfl rfl (fun x hx=>?_) (fun hx=>?_)
 ·rw[show jk x=iF x from rfl,hx]
  obtain⟨x1,x2⟩:=x
  with_reducible refine wK ?_
  repeat' (first
  |refine gK ?_|refine aE ?_ ?_
  |apply trivial)
  all_goals rfl
 ·rw[hx]
  with_reducible refine wK ?_
  repeat' (first
  |refine gK ?_|refine aE ?_ ?_
  |apply trivial)
  all_goals rfl
theorem MX (c:aI)(hc:c.hooks.length≤100000)(hw:c.watch.length≤100000)(s:ByteArray):af Tryz.prog 118 [] [bK c,bG s] [] (aA (gW c s)):=by
 have h25:=uP c hc 4
 have h55:=As c.watch hw s
 unfold gW
 obtain⟨c1,c2,c3,c4,c5⟩:=c
 simp only at h25 h55 ⊢
 refine af.ah (rvs:=[.tmp 4]) G aa Tryz.func118 rfl Tryz.ntmps118 rfl rfl ?_;with_reducible refine wD ?_
 cases e1:cm ⟨c1,c2,c3,c4,c5⟩ 4<;>rw[e1] at h25
 ·repeat' (first
  |refine gK ?_|refine aE ?_ ?_
  |(((with_reducible refine kQ 119 ?_);refine cL h25 AR ?_)<;>with_reducible refine wK ?_)
  |apply trivial)
  all_goals rfl
 ·repeat' (first
  |refine gK ?_|refine aE ?_ ?_
  | ((first
   |((with_reducible refine kQ 119 ?_);refine cL h25 AR ?_)
   |((with_reducible refine kQ 184 ?_);refine cL h55 Pj ?_))<;>with_reducible refine wK ?_)
  |apply trivial)
  all_goals rw[Bool.true_and]
theorem eL {s:StateM}{d:bj}{cs:List aI}(h:cG s d cs.length=-1):ct s d cs=sj∧iq s d cs=false:=by
 unfold ct iq
 rw[h];exact⟨rfl,rfl⟩
theorem jv {s:StateM}{d:bj}{cs:List aI}{k:Nat}{c:aI}(h:cG s d cs.length=k)(hc:cs[k]? =some c):ct s d cs=c∧iq s d cs=true:=by
 unfold ct iq
 rw[h,if_pos (by omega),Int.toNat_natCast,hc]
 exact⟨rfl,aV (by omega)⟩
theorem tY (s:StateM)(d:bj)(cs:List aI):(s.df<0∧cG s d cs.length=-1)∨(¬s.df<0∧(d.defs.length:Int)≤s.df∧cG s d cs.length=-1)∨
  ∃ (n:Nat) (x:bH),s.df=n∧d.defs[n]? =some x∧(((x.cls<0)∧cG s d cs.length=-1)∨(¬x.cls<0∧(cs.length:Int)≤x.cls∧cG s d cs.length=-1)∨∃ (m:Nat) (c:aI),x.cls=m∧cs[m]? =some c∧cG s d cs.length=m):=by
 by_cases h1:s.df<0
 ·exact .inl ⟨h1,by unfold cG;rw[if_neg (by omega)]⟩
 obtain⟨n,hn⟩:∃n:Nat,s.df=n:=⟨_,(Int.toNat_of_nonneg (by omega)).symm⟩
 have e:cG s d cs.length=match d.defs[n]? with
  |some x=>if 0≤x.cls∧x.cls<cs.length then x.cls else-1
  |none=> -1:=by unfold cG;rw[if_pos (by omega),hn,Int.toNat_natCast]<;>(cases d.defs[n]? <;>rfl)
 by_cases h2:(d.defs.length:Int)≤s.df
 ·exact .inr (.inl ⟨h1,h2,by rw[e,ri (by omega)]⟩)
 obtain⟨x,hx⟩:∃x,d.defs[n]? =some x:=⟨_,aP (by omega)⟩
 rw[hx] at e
 simp only at e
 refine .inr (.inr ⟨n,x,hn,hx,?_⟩)
 by_cases h3:x.cls<0
 ·exact .inl ⟨h3,by rw[e,if_neg (by omega)]⟩
 by_cases h4:(cs.length:Int)≤x.cls
 ·exact .inr (.inl ⟨h3,h4,by rw[e,if_neg (by omega)]⟩)
 obtain⟨m,hm⟩:∃m:Nat,x.cls=m:=⟨_,(Int.toNat_of_nonneg (by omega)).symm⟩
 exact .inr (.inr ⟨m,_,hm,aP (by omega),by rw[e,if_pos (by omega),hm]⟩)
theorem Ew (s:StateM)(d:bj)(cs:List aI):af Tryz.prog 117 [] [cf s,cP d,bF cs] [] (.tup [bK (ct s d cs),aA (iq s d cs)]):=by
 have hd:=(show(d.defs.map j5).length=d.defs.length from aM ..)
 have hcs:=(show(cs.map cZ).length=cs.length from aM ..)
 rcases tY s d cs with⟨h1,h2⟩|⟨h1,h2,h3⟩|⟨n,⟨x1,x2,x3⟩,hn,hx,⟨h1,h2⟩|⟨h1,h2,h3⟩|⟨m,⟨c1,c2,c3,c4,c5⟩,hm,hc,h1⟩⟩
 ·rw[(eL h2).1,(eL h2).2]
  obtain⟨s1,s2,s3,s4⟩:=s
  obtain⟨d1,d2,d3,d4⟩:=d
  simp only at h1
  refine af.ah (rvs:=[.cell 6 53,.tmp 7]) G aa Tryz.func117 rfl Tryz.ntmps117 rfl rfl ?_;with_reducible refine wD ?_
  (have fct:=(eq_true h1);(repeat' (first
  |refine gF ?_|refine aE ?_ ?_
  |apply trivial));all_goals clear fct)
  all_goals first|rfl|exact .inr (.inr ⟨_,rfl⟩)
 ·rw[(eL h3).1,(eL h3).2]
  obtain⟨s1,s2,s3,s4⟩:=s
  obtain⟨d1,d2,d3,d4⟩:=d
  simp only at h1 h2 hd
  refine af.ah (rvs:=[.cell 6 53,.tmp 7]) G aa Tryz.func117 rfl Tryz.ntmps117 rfl rfl ?_;with_reducible refine wD ?_
  (have fct:=And.intro (eq_false h1) (And.intro hd ((eq_true h2)));(repeat' (first
  |refine gF ?_|refine aE ?_ ?_
  |apply trivial));all_goals clear fct)
  all_goals first|rfl|exact .inr (.inr ⟨_,rfl⟩)
 ·rw[(eL h2).1,(eL h2).2]
  obtain⟨s1,s2,s3,s4⟩:=s
  obtain⟨d1,d2,d3,d4⟩:=d
  simp only at h1 hn hx hd
  subst hn
  have hl:=(aZ hx).1
  refine af.ah (rvs:=[.cell 6 53,.tmp 7]) G aa Tryz.func117 rfl Tryz.ntmps117 rfl rfl ?_;with_reducible refine wD ?_
  (have fct:=And.intro hd ((eq_true h1));(repeat' (first
  |refine pF ?_|refine aE ?_ ?_
  | ((first
   |((with_reducible show aQ _ _ _ _);(refine aQ.mk (fun hp=>?_) (fun hp=>?_)<;>(try simp only[aq,aL,bh,Bool.not_eq_true',Bool.not_eq_false',Decidable.not_not,Int.not_lt,Int.not_le] at hp)))
   |((with_reducible show ak _ _ _ _ _);refine ak.mk n (iA ⟨x1,x2,x3⟩) rfl (cK hx) ?_))<;>with_reducible refine wK ?_)
  |apply trivial));all_goals clear fct)
  all_goals first|rfl|exact .inr (.inr ⟨_,rfl⟩)
 ·rw[(eL h3).1,(eL h3).2]
  obtain⟨s1,s2,s3,s4⟩:=s
  obtain⟨d1,d2,d3,d4⟩:=d
  simp only at h1 h2 hn hx hd
  subst hn
  have hl:=(aZ hx).1
  refine af.ah (rvs:=[.cell 6 53,.tmp 7]) G aa Tryz.func117 rfl Tryz.ntmps117 rfl rfl ?_;with_reducible refine wD ?_
  (have fct:=And.intro hd (And.intro hcs (And.intro (eq_false h1) ((eq_true h2))));(repeat' (first
  |refine pF ?_|refine aE ?_ ?_
  | ((first
   |((with_reducible show aQ _ _ _ _);(refine aQ.mk (fun hp=>?_) (fun hp=>?_)<;>(try simp only[aq,aL,bh,Bool.not_eq_true',Bool.not_eq_false',Decidable.not_not,Int.not_lt,Int.not_le] at hp)))
   |((with_reducible show ak _ _ _ _ _);refine ak.mk n (iA ⟨x1,x2,x3⟩) rfl (cK hx) ?_))<;>with_reducible refine wK ?_)
  |apply trivial));all_goals clear fct)
  all_goals first|rfl|exact .inr (.inr ⟨_,rfl⟩)
 ·rw[(jv h1 hc).1,(jv h1 hc).2]
  obtain⟨s1,s2,s3,s4⟩:=s
  obtain⟨d1,d2,d3,d4⟩:=d
  simp only at hm hn hx hd
  subst hn
  subst hm
  have hl:=(aZ hx).1
  have hl2:=(aZ hc).1
  refine af.ah (rvs:=[.cell 6 53,.tmp 7]) G aa Tryz.func117 rfl Tryz.ntmps117 rfl rfl ?_;with_reducible refine wD ?_
  (have fct:=And.intro hd (hcs);(repeat' (first
  |refine pF ?_|refine aE ?_ ?_
  | ((first
   |((with_reducible show aQ _ _ _ _);(refine aQ.mk (fun hp=>?_) (fun hp=>?_)<;>(try simp only[aq,aL,bh,Bool.not_eq_true',Bool.not_eq_false',Decidable.not_not,Int.not_lt,Int.not_le] at hp)))
   |((with_reducible show ak _ _ _ _ _);first|refine ak.mk n (iA ⟨x1,x2,(m:Int)⟩) rfl (cK hx) ?_|refine ak.mk m (bK ⟨c1,c2,c3,c4,c5⟩) rfl (cU hc) ?_))<;>with_reducible refine wK ?_)
  |apply trivial));all_goals clear fct)
  all_goals trace_state
theorem Ex (s:StateM)(d:bj)(cs:List aI):af Tryz.prog 193 [] [cf s,cP d,bF cs] [] (aj (cG s d cs.length)):=by
 have hd:=(show(d.defs.map j5).length=d.defs.length from aM ..)
 have hcs:=(show(cs.map cZ).length=cs.length from aM ..)
 rcases tY s d cs with⟨h1,h2⟩|⟨h1,h2,h3⟩|⟨n,⟨x1,x2,x3⟩,hn,hx,⟨h1,h2⟩|⟨h1,h2,h3⟩|⟨m,⟨c1,c2,c3,c4,c5⟩,hm,hc,h1⟩⟩
 ·rw[h2]
  obtain⟨s1,s2,s3,s4⟩:=s
  obtain⟨d1,d2,d3,d4⟩:=d
  simp only at h1
  refine af.ah (rvs:=[.tmp 6]) G aa Tryz.func193 rfl Tryz.ntmps193 rfl rfl ?_;with_reducible refine wD ?_
  (have fct:=(eq_true h1);(repeat' (first
  |refine gF ?_|refine aE ?_ ?_
  |apply trivial));all_goals clear fct)
 ·rw[h3]
  obtain⟨s1,s2,s3,s4⟩:=s
  obtain⟨d1,d2,d3,d4⟩:=d
  simp only at h1 h2 hd
  refine af.ah (rvs:=[.tmp 6]) G aa Tryz.func193 rfl Tryz.ntmps193 rfl rfl ?_;with_reducible refine wD ?_
  (have fct:=And.intro (eq_false h1) (And.intro hd ((eq_true h2)));(repeat' (first
  |refine gF ?_|refine aE ?_ ?_
  |apply trivial));all_goals clear fct)
 ·rw[h2]
  obtain⟨s1,s2,s3,s4⟩:=s
  obtain⟨d1,d2,d3,d4⟩:=d
  simp only at h1 hn hx hd
  subst hn
  have hl:=(aZ hx).1
  refine af.ah (rvs:=[.tmp 6]) G aa Tryz.func193 rfl Tryz.ntmps193 rfl rfl ?_;with_reducible refine wD ?_
  (have fct:=And.intro hd (And.intro hcs ((eq_true h1)));(repeat' (first
  |refine pF ?_|refine aE ?_ ?_
  | ((first
   |((with_reducible show aQ _ _ _ _);(refine aQ.mk (fun hp=>?_) (fun hp=>?_)<;>(try simp only[aq,aL,bh,Bool.not_eq_true',Bool.not_eq_false',Decidable.not_not,Int.not_lt,Int.not_le] at hp)))
   |((with_reducible show ak _ _ _ _ _);refine ak.mk n (iA ⟨x1,x2,x3⟩) rfl (cK hx) ?_))<;>with_reducible refine wK ?_)
  |apply trivial));all_goals clear fct)
 ·rw[h3]
  obtain⟨s1,s2,s3,s4⟩:=s
  obtain⟨d1,d2,d3,d4⟩:=d
  simp only at h1 h2 hn hx hd
  subst hn
  have hl:=(aZ hx).1
  refine af.ah (rvs:=[.tmp 6]) G aa Tryz.func193 rfl Tryz.ntmps193 rfl rfl ?_;with_reducible refine wD ?_
  (have fct:=And.intro hd (And.intro hcs (And.intro (eq_false h1) ((eq_true h2))));(repeat' (first
  |refine pF ?_|refine aE ?_ ?_
  | ((first
   |((with_reducible show aQ _ _ _ _);(refine aQ.mk (fun hp=>?_) (fun hp=>?_)<;>(try simp only[aq,aL,bh,Bool.not_eq_true',Bool.not_eq_false',Decidable.not_not,Int.not_lt,Int.not_le] at hp)))
   |((with_reducible show ak _ _ _ _ _);refine ak.mk n (iA ⟨x1,x2,x3⟩) rfl (cK hx) ?_))<;>with_reducible refine wK ?_)
  |apply trivial));all_goals clear fct)
 ·rw[h1]
  obtain⟨s1,s2,s3,s4⟩:=s
  obtain⟨d1,d2,d3,d4⟩:=d
  simp only at hm hn hx hd
  subst hn
  subst hm
  have hl:=(aZ hx).1
  have hl2:=(aZ hc).1
  refine af.ah (rvs:=[.tmp 6]) G aa Tryz.func193 rfl Tryz.ntmps193 rfl rfl ?_;with_reducible refine wD ?_
  (have fct:=And.intro hd (hcs);(repeat' (first
  |refine pF ?_|refine aE ?_ ?_
  | ((first
   |((with_reducible show aQ _ _ _ _);(refine aQ.mk (fun hp=>?_) (fun hp=>?_)<;>(try simp only[aq,aL,bh,Bool.not_eq_true',Bool.not_eq_false',Decidable.not_not,Int.not_lt,Int.not_le] at hp)))
   |((with_reducible show ak _ _ _ _ _);refine ak.mk n (iA ⟨x1,x2,(m:Int)⟩) rfl (cK hx) ?_))<;>with_reducible refine wK ?_)
  |apply trivial));all_goals clear fct)
def iO (f:ForM)(st:List StateM)(d:bj):Bool:=(decide (st.length=f.nodes.length)&&bf f)&&dU d
theorem K1 (f:ForM)(hs:bR f.nodes)(st:List StateM)(d:bj)(hd:fH d)(cs:List aI):af Tryz.prog 115 [] [bD f,dF st,cP d,bF cs] [] (.tup [D6 ⟨f,st,d,cs⟩,aA (iO f st d)]):=by
 have h48:=kf f hs
 have h62:=Ad d hd
 unfold iO
 have hst:=(show(st.map cr).length=st.length from aM ..)
 have hlm:=(show(f.nodes.map bP).length=f.nodes.length from aM ..)
 obtain⟨l,m⟩:=f
 obtain⟨d1,d2,d3,d4⟩:=d
 simp only at h48 h62 hlm ⊢
 refine af.ah (rvs:=[.cell 8 173,.tmp 9]) G aa Tryz.func115 rfl Tryz.ntmps115 rfl rfl ?_;with_reducible refine wD ?_
 by_cases e1:st.length=l.length
 ·cases e2:bf ⟨l,m⟩<;>rw[e2] at h48
  ·(have fct:=And.intro hst (And.intro hlm ((eq_true e1)));(repeat' (first
  |refine gF ?_|refine aE ?_ ?_
  |(((with_reducible refine kQ 100 ?_);refine cL h48 mQ ?_)<;>with_reducible refine wK ?_)
  | apply trivial));all_goals clear fct)
   all_goals simp[e1]
  ·cases e3:dU ⟨d1,d2,d3,d4⟩<;>rw[e3] at h62
   ·(have fct:=And.intro hst (And.intro hlm ((eq_true e1)));(repeat' (first
  |refine gF ?_|refine aE ?_ ?_
  | ((first
   |((with_reducible refine kQ 100 ?_);refine cL h48 mQ ?_)
   |((with_reducible refine kQ 144 ?_);refine cL h62 HR ?_))<;>with_reducible refine wK ?_)
  | apply trivial));all_goals clear fct)
    all_goals simp[e1]
   ·(have fct:=And.intro hst (And.intro hlm ((eq_true e1)));(repeat' (first
  |refine gF ?_|refine aE ?_ ?_
  | ((first
   |((with_reducible refine kQ 100 ?_);refine cL h48 mQ ?_)
   |((with_reducible refine kQ 144 ?_);refine cL h62 HR ?_))<;>with_reducible refine wK ?_)
  | apply trivial));all_goals clear fct)
    all_goals simp[e1]
 ·(have fct:=And.intro hst (And.intro hlm ((eq_false e1)));(repeat' (first
  |refine gF ?_|refine aE ?_ ?_
  |apply trivial));all_goals clear fct)
  all_goals simp[e1]
theorem Kg (v:Nw)(n:Int):af Tryz.prog 116 [] [D6 v,aj n] [] (aA (elemV v.f.nodes n)):=by
 obtain⟨⟨l,m⟩,st,⟨d1,d2,d3,d4⟩,cs⟩:=v
 have hlm:=(show(l.map bP).length=l.length from aM ..)
 unfold elemV
 simp only
 refine af.ah (rvs:=[.tmp 4]) G aa Tryz.func116 rfl Tryz.ntmps116 rfl rfl ?_;with_reducible refine wD ?_
 cases e:ai l n with
 | false=>
   by_cases h0:0≤n
   ·have h1:¬n< (l.length:Int):=fun h=>by unfold ai at e;rw[aV h0,aV h] at e;cases e
    (have fct:=And.intro hlm (And.intro (eq_true h0) ((eq_false h1)));(repeat' (first
  |refine gF ?_|refine aE ?_ ?_
  | apply trivial));all_goals clear fct)
    all_goals rfl
   ·(have fct:=(eq_false h0);(repeat' (first
  |refine gF ?_|refine aE ?_ ?_
  | apply trivial));all_goals clear fct)
    all_goals rfl
 | true=>
   obtain⟨i,y,rfl,hy,hny⟩:=aX.1 e
   rw[hny]
   have h1:(i:Int)< (l.length:Int):=by have:=(aZ hy).1;omega
   obtain⟨a1,a2,a3,a4,a5,a6,a7,a8,a9,a10⟩:=y
   (have fct:=And.intro hlm ((eq_true h1));(repeat' (first
  |refine gF ?_|refine aE ?_ ?_
  |(((with_reducible show ak _ _ _ _ _);refine ak.mk i (aO _) rfl (au hy) ?_)<;>with_reducible refine wK ?_)
  | apply trivial));all_goals clear fct)
   all_goals simp
structure zZ (c:aI):Prop where
 hooks:c.hooks.length≤100000
 watch:c.watch.length≤100000
 peek:c.peek.length≤100000
 make:c.make.length≤100000
 progs:∀h∈c.hooks,h.prog.length≤100000
def kH (cs:List aI):Prop:=∀c∈cs,zZ c
theorem xC:zZ sj:=⟨by decide,by decide,by decide,by decide,fun h hh=>by simp[sj] at hh⟩
theorem Al {cs:List aI}(h:kH cs)(s:StateM)(d:bj):zZ (ct s d cs):=by
 rcases jy s d cs.length with e|⟨k,hk,e⟩
 ·rw[(eL e).1];exact xC
 ·rw[(jv e (aP hk)).1];exact h _ (List.getElem_mem hk)
theorem Lb (f:ForM)(hs:bR f.nodes)(st:List StateM)(d:bj)(hd:fH d)(cs:List aI)(hc:kH cs)(x:dP)(i:Nat)(s:StateM)(hi:x.node=i)(hx:st[i]? =some s):af Tryz.prog 167 [] [D6 ⟨f,st,d,cs⟩,uw x] [] (.tup [fR (ji f s d cs x).1,aA (ji f s d cs x).2]):=by
 have h15:=OO f hs i d hd
 have h32:=Ew s d cs
 have hcv:=Al hc s d
 have h27:=fun n=>MX (ct s d cs) hcv.hooks hcv.watch n
 have h25:=fun k=>uP (ct s d cs) hcv.hooks k
 obtain⟨x1,x2,x3,x4,x5,x6,x7,x8,x9⟩:=x
 simp only at hi
 subst hi
 unfold ji zu w4
 simp only
 generalize mC f i d=at' at h15 ⊢
 generalize iq s d cs=cb at h32 ⊢
 generalize ct s d cs=c at h32 h27 h25 ⊢
 obtain⟨l,m⟩:=f
 obtain⟨d1,d2,d3,d4⟩:=d
 obtain⟨s1,s2,s3,s4⟩:=s
 simp only at h15 h32 ⊢
 refine af.ah (rvs:=[.cell 4 59,.tmp 5]) G aa Tryz.func167 rfl Tryz.ntmps167 rfl rfl ?_;with_reducible refine wD ?_
 refine ak.mk i (cf _) rfl (bN hx) ?_;with_reducible refine wK ?_
 by_cases p1:s1=1
 ·subst p1
  rw[if_pos rfl]
  by_cases k1:x1=1
  ·subst k1
   repeat' (first
  |refine gK ?_|refine aE ?_ ?_
  |(((with_reducible refine kQ 58 ?_);refine cL h15 SN ?_)<;>with_reducible refine wK ?_)
  | apply trivial)
   all_goals first|rfl|simp
  ·(have fct:=(eq_false k1);(repeat' (first
  |refine gF ?_|refine aE ?_ ?_
  |(((with_reducible refine kQ 58 ?_);refine cL h15 SN ?_)<;>with_reducible refine wK ?_)
  | apply trivial));all_goals clear fct)
   all_goals first|rfl|simp[k1]
 rw[if_neg p1]
 by_cases p3:s1=3
 ·subst p3
  rw[if_pos rfl]
  obtain⟨c1,c2,c3,c4,c5⟩:=c
  have h27':=h27 x5
  have h25':=h25 x1
  clear h27 h25
  refine aQ.no rfl ?_;with_reducible refine wK ?_
  refine aQ.yes rfl ?_;with_reducible refine wK ?_
  refine cV h32 PW ?_;with_reducible refine wK ?_
  by_cases k4:x1=4
  ·subst k4
   rw[if_pos rfl]
   cases cb with
   | false=>
     repeat' (first
  |refine gK ?_|refine aE ?_ ?_
  | apply trivial)
     all_goals first|rfl|simp
   | true=>
     cases e:gW ⟨c1,c2,c3,c4,c5⟩ x5<;>rw[e] at h27'
     ·repeat' (first
  |refine gK ?_|refine aE ?_ ?_
  |(((with_reducible refine kQ 118 ?_);refine cL h27' Pp ?_)<;>with_reducible refine wK ?_)
  |apply trivial)
      all_goals first|rfl|simp
     ·repeat' (first
  |refine gK ?_|refine aE ?_ ?_
  | ((first
   |((with_reducible refine kQ 118 ?_);refine cL h27' Pp ?_)
   |((with_reducible refine kQ 119 ?_);refine cL h25' AR ?_))<;>with_reducible refine wK ?_)
  |apply trivial)
      all_goals first|rfl|simp
  rw[if_neg k4]
  by_cases k:x1=1∨x1=2∨x1=3
  ·rw[if_pos k]
   rcases k with rfl|rfl|rfl
   ·repeat' (first
  |refine gK ?_|refine aE ?_ ?_
  | apply trivial)
    cases cb
    ·repeat' (first
  |refine gK ?_|refine aE ?_ ?_
  | apply trivial)
     all_goals first|rfl|simp
    ·repeat' (first
  |refine gK ?_|refine aE ?_ ?_
  |(((with_reducible refine kQ 119 ?_);refine cL h25' AR ?_)<;>with_reducible refine wK ?_)
  | apply trivial)
     all_goals first|rfl|simp
   ·repeat' (first
  |refine gK ?_|refine aE ?_ ?_
  | apply trivial)
    cases cb
    ·repeat' (first
  |refine gK ?_|refine aE ?_ ?_
  | apply trivial)
     all_goals first|rfl|simp
    ·repeat' (first
  |refine gK ?_|refine aE ?_ ?_
  |(((with_reducible refine kQ 119 ?_);refine cL h25' AR ?_)<;>with_reducible refine wK ?_)
  | apply trivial)
     all_goals first|rfl|simp
   ·repeat' (first
  |refine gK ?_|refine aE ?_ ?_
  | apply trivial)
    cases cb
    ·repeat' (first
  |refine gK ?_|refine aE ?_ ?_
  | apply trivial)
     all_goals first|rfl|simp
    ·repeat' (first
  |refine gK ?_|refine aE ?_ ?_
  |(((with_reducible refine kQ 119 ?_);refine cL h25' AR ?_)<;>with_reducible refine wK ?_)
  |apply trivial)
     all_goals first|rfl|simp
  ·rw[if_neg k]
   have k1:¬x1=1:=fun h=>k (.inl h)
   have k2:¬x1=2:=fun h=>k (.inr (.inl h))
   have k3:¬x1=3:=fun h=>k (.inr (.inr h))
   (have fct:=And.intro (eq_false k1) (And.intro (eq_false k2) (And.intro (eq_false k3) ((eq_false k4))));(repeat' (first
  |refine gF ?_|refine aE ?_ ?_
  | apply trivial));all_goals clear fct)
   all_goals first|rfl|simp
 ·rw[if_neg p3]
  (have fct:=And.intro (eq_false p1) ((eq_false p3));(repeat' (first
  |refine gF ?_|refine aE ?_ ?_
  |apply trivial));all_goals clear fct)
  all_goals first|rfl|simp
end Go.Proofs.Heir
