/- Models, plain laws and contracts of functions of the given program; conditions as stated in each theorem. By an AI agent. -/
import Derived.Test.YtkhjcnjicjgfiaaGreatDoorW15
import Derived.Test.YtkhjcnjicjgfiaaGreatDoorW14
import Derived.RangeFuncNested
import Derived.RangeFuncBound
import Derived.RangeFuncCalls
import Derived.Shelf.Abstract
import Derived.Shelf.RegionOpen
import Derived.WalkKit
import Derived.OwnWalkIn
import Derived.TacticsInMore
import Derived.LoopNIn
import Derived.LoopIn
set_option linter.unusedSimpArgs false
set_option linter.unusedVariables false
namespace Go.Proofs.Heir
open Go Go.Am Go.RowKit Go.Lib
set_option maxRecDepth 100000
set_option maxHeartbeats 8000000
set_option maxHeartbeats 16000000 in
theorem Jf (f:ForM)(hs:bq f.nodes):aj Tryz.prog 37 [] [aN f] [] (bA (xg f)):=by
 have hl:=hs.len
 have h19:=J9 f hs
 obtain⟨l,m⟩:=f
 unfold xg
 simp only at h19 hl ⊢
 have hlm:(l.map bM).length=l.length:=bP ..
 have bad0:∀b,jh ⟨l,m⟩=false→(jh ⟨l,m⟩&&b)=false:=fun b h=>by rw[h];rfl
 apply ve (P:=Tryz.prog) (N:=84) (nL:=0) (F:=jh ⟨l,m⟩=true) (sl:=[(1,.ptr 10 0 0),(3,ah 0)]) (m:=[(10,.live 2 [aN ⟨l,m⟩] false)])
 case main=>
  intro key
  refine aj.aA (rvs:=[.tmp 2]) G ak Tryz.func37 rfl Tryz.ntmps37 rfl rfl ?_;delta List.toArray;(with_reducible ((conv=>whnf);(conv=>congr<;>reduce);repeat((first|refine hK ?_|refine sK ?_);(conv=>whnf);(conv=>congr<;>reduce))))
  repeat' (first
  |(first
  |((with_reducible show aM _ _ _ _);first|refine aM.ff ?_|refine aM.tt ?_|refine aM.no (by first|exact qA|exact bO (by(try simp only[aq]);omega)|exact bB (by(try simp only[aq]);omega)|(simp only[aq,Bool.not_eq_true',Bool.not_eq_false',aP,cj];omega)) ?_|refine aM.yes (by first|exact qA|exact bO (by(try simp only[aq]);omega)|exact bB (by(try simp only[aq]);omega)|(simp only[aq,Bool.not_eq_true',Bool.not_eq_false',aP,cj];omega)) ?_|(refine aM.mk (fun hp=>?_) (fun hp=>?_)<;>(try simp only[aq,aP,cj,Bool.not_eq_true',Bool.not_eq_false',Decidable.not_not,Int.not_lt,Int.not_le] at hp)))
  |((with_reducible show aY _ _ _ _);refine nK ?_)
  |((with_reducible show aB _ _ _ _);refine dK ?_)
  |((with_reducible show aH _ (0:Int) _ _ _);refine aH.mk iZ (aG _) eZ (az hyZ) ?_)
  |((with_reducible show aH _ (0:Int) _ _ _);(obtain⟨iZ,y,eZ,hyZ,hnyZ⟩:=n5 (l:=l) (n:=(0:Int)) (by omega));(obtain⟨b1,b2,b3,b4,b5,b6,b7,b8,b9,b10⟩:=y);refine aH.mk iZ (aG _) eZ (az hyZ) ?_))<;>(with_reducible ((conv=>whnf);(conv=>congr<;>reduce);repeat((first|refine hK ?_|refine sK ?_);(conv=>whnf);(conv=>congr<;>reduce))))
  |((with_reducible show(_∧_)∧_∧_);refine⟨⟨rfl,rfl⟩,?_,?_⟩<;>with_reducible ((conv=>whnf)<;>repeat' (first|exact trivial|(refine And.intro ?_ ?_<;>(conv=>whnf))))))
  all_goals first
   | refine bad0 _ ?_
     (rw[Bool.eq_false_iff];intro h;simp only[jh,bg,aP] at h;(try simp only[hnyZ] at h);omega)
   | refine bE.fit ?_ (key ?_)
     ·exact⟨⟨rfl,rfl⟩,⟨⟨rfl,rfl⟩,rfl,trivial⟩,⟨⟨rfl,rfl,trivial⟩,trivial⟩,trivial⟩
     ·simp only[jh,bg,aP,hnyZ];omega
 case rest=>
  intro hH
  rw[hH,Bool.true_and]
  refine bE.use G ak (fun(k:Nat)=>[(1,.ptr 10 0 0),(3,ah k)]) (fun _=>[(10,.live 2 [aN ⟨l,m⟩] false)])
   (fun k=>k≤l.length∧∀j x,j<k→l[j]? =some x→fO l j x=true) (fun k=>l.length-k) 0 ⟨Nat.zero_le _,fun j x h=>by omega⟩
   ⟨⟨rfl,rfl⟩,⟨⟨rfl,rfl⟩,rfl,trivial⟩,⟨⟨rfl,rfl,trivial⟩,trivial⟩,trivial⟩ ?_
  rintro k ⟨hk,hok⟩
  (with_reducible ((conv=>whnf);(conv=>congr<;>reduce);repeat((first|refine hK ?_|refine sK ?_);(conv=>whnf);(conv=>congr<;>reduce))))
  refine aM.mk (fun g1=>?_) (fun g1=>?_)<;>(try simp only[aq] at g1)<;>(with_reducible ((conv=>whnf);(conv=>congr<;>reduce);repeat((first|refine hK ?_|refine sK ?_);(conv=>whnf);(conv=>congr<;>reduce))))
  ·have hk':k<l.length:=by simp only[aP] at g1;omega
   obtain⟨x,hx⟩:∃x,l[k]? =some x:=⟨_,bH hk'⟩
   have h19':=h19 k x hx
   have good:fO l k x=true→∀j y,j<k+1→l[j]? =some y→fO l j y=true:=fun h j y hj hy=>by
    rcases Nat.lt_or_ge j k with h6|h6
    ·exact hok j y h6 hy
    ·have:j=k:=by omega
     subst this
     rw[hx] at hy;cases hy;exact h
   refine cL h19' Nl ?_;(with_reducible ((conv=>whnf);(conv=>congr<;>reduce);repeat((first|refine hK ?_|refine sK ?_);(conv=>whnf);(conv=>congr<;>reduce))))
   cases q:fO l k x with
   | false=>
     rw[pS hx q,Bool.false_and]
     repeat' (first
  |(first
  |((with_reducible show aM _ _ _ _);first|refine aM.ff ?_|refine aM.tt ?_|refine aM.no (by first|exact qA|((try simp only[aq]);first|(simp[q];done)|(simp[q];omega))) ?_|refine aM.yes (by first|exact qA|((try simp only[aq]);first|(simp[q];done)|(simp[q];omega))) ?_)
  |((with_reducible show aY _ _ _ _);refine nK ?_)
  |((with_reducible show aB _ _ _ _);refine dK ?_))<;>(with_reducible ((conv=>whnf);(conv=>congr<;>reduce);repeat((first|refine hK ?_|refine sK ?_);(conv=>whnf);(conv=>congr<;>reduce))))
  | ((with_reducible show(_∧_)∧_∧_);refine⟨⟨rfl,rfl⟩,?_,?_⟩<;>with_reducible ((conv=>whnf)<;>repeat' (first|exact trivial|(refine And.intro ?_ ?_<;>(conv=>whnf))))))
   | true=>
     repeat' (first
  |(first
  |((with_reducible show aM _ _ _ _);first|refine aM.ff ?_|refine aM.tt ?_|refine aM.no (by first|exact qA|((try simp only[aq]);first|(simp[q];done)|(simp[q];omega))) ?_|refine aM.yes (by first|exact qA|((try simp only[aq]);first|(simp[q];done)|(simp[q];omega))) ?_)
  |((with_reducible show aY _ _ _ _);refine nK ?_)
  |((with_reducible show aB _ _ _ _);refine dK ?_)
  |((with_reducible show aW _ _);refine aW.mk (k+1) ⟨by omega,good q⟩ (by omega) ⟨⟨rfl,rfl⟩,⟨⟨rfl,rfl⟩,by show((k+1:Nat):Int)=(k:Int)+1;omega,trivial⟩,⟨⟨rfl,rfl,trivial⟩,trivial⟩,trivial⟩))<;>(with_reducible ((conv=>whnf);(conv=>congr<;>reduce);repeat((first|refine hK ?_|refine sK ?_);(conv=>whnf);(conv=>congr<;>reduce))))
  |((with_reducible show(_∧_)∧_∧_);refine⟨⟨rfl,rfl⟩,?_,?_⟩<;>with_reducible ((conv=>whnf)<;>repeat' (first|exact trivial|(refine And.intro ?_ ?_<;>(conv=>whnf))))))
  ·have hkl:k=l.length:=by simp only[cj] at g1;omega
   have hall:∀ (j:Nat) (x:ai),l[j]? =some x→fO l j x=true:=fun j x hx=>hok j x (by have:=(aZ hx).1;omega) hx
   rw[nV hall,Bool.true_and]
   have hup:∀n,af l n=true→cZ (nd l n)=-1∨af l (cZ (nd l n))=true:=sx (Fv fun n hn=>by
    obtain⟨k,x,rfl,hk,hx⟩:=aI.1 hn
    rw[hx];exact hall k x hk)
   refine bE.use G ak (fun(k:Nat)=>[(1,.ptr 10 0 0),(4,ah k)]) (fun _=>[(10,.live 2 [aN ⟨l,m⟩] false)])
    (fun k=>k≤l.length∧∀ (j:Nat) (x:ai),j<k→l[j]? =some x→dJ l (l.length+1) j=true) (fun k=>l.length-k) 0 ⟨Nat.zero_le _,fun j x h=>by omega⟩
    ⟨⟨rfl,rfl⟩,⟨⟨rfl,rfl⟩,rfl,trivial⟩,⟨⟨rfl,rfl,trivial⟩,trivial⟩,trivial⟩ ?_
   rintro i ⟨hi,hends⟩
   (with_reducible ((conv=>whnf);(conv=>congr<;>reduce);repeat((first|refine hK ?_|refine sK ?_);(conv=>whnf);(conv=>congr<;>reduce))))
   refine aM.mk (fun g2=>?_) (fun g2=>?_)<;>(try simp only[aq] at g2)<;>(with_reducible ((conv=>whnf);(conv=>congr<;>reduce);repeat((first|refine hK ?_|refine sK ?_);(conv=>whnf);(conv=>congr<;>reduce))))
   ·have hi':i<l.length:=by simp only[aP] at g2;omega
    obtain⟨x,hx⟩:∃x,l[i]? =some x:=⟨_,bH hi'⟩
    refine bE.use G ak (fun(p:Nat×Int)=>[(1,.ptr 10 0 0),(4,ah i),(5,ah p.2),(6,ah p.1)]) (fun _=>[(10,.live 2 [aN ⟨l,m⟩] false)])
     (fun p=>p.1≤l.length+1∧(p.2=-1∨af l p.2=true)∧dJ l (l.length+1) i=if p.2=-1 then true else dJ l (l.length+1-p.1) p.2) (fun p=>l.length+1-p.1) (0,(i:Int)) ⟨Nat.zero_le _,.inr (fR hx),by rw[if_neg (by omega)];rfl⟩
     ⟨⟨rfl,rfl⟩,⟨⟨rfl,rfl⟩,rfl,rfl,rfl,trivial⟩,⟨⟨rfl,rfl,trivial⟩,trivial⟩,trivial⟩ ?_
    rintro⟨s,a⟩ ⟨hss,hat,hee⟩
    simp only at hss hat hee ⊢
    (with_reducible ((conv=>whnf);(conv=>congr<;>reduce);repeat((first|refine hK ?_|refine sK ?_);(conv=>whnf);(conv=>congr<;>reduce))))
    by_cases ea:a=-1
    ·rw[if_pos ea] at hee
     subst ea
     repeat' (first
  |(first
  |((with_reducible show aM _ _ _ _);first|refine aM.ff ?_|refine aM.tt ?_|refine aM.no (by first|exact qA|((try simp only[aq]);first|(simp[];done)|(simp[];omega))) ?_|refine aM.yes (by first|exact qA|((try simp only[aq]);first|(simp[];done)|(simp[];omega))) ?_)
  |((with_reducible show aY _ _ _ _);refine nK ?_)
  |((with_reducible show aB _ _ _ _);refine dK ?_)
  |((with_reducible show aW _ _);refine aW.mk (i+1) ⟨by omega,fun j x hj hx=>?_⟩ (by omega) ⟨⟨rfl,rfl⟩,⟨⟨rfl,rfl⟩,by show((i+1:Nat):Int)=(i:Int)+1;omega,trivial⟩,⟨⟨rfl,rfl,trivial⟩,trivial⟩,trivial⟩))<;>(with_reducible ((conv=>whnf);(conv=>congr<;>reduce);repeat((first|refine hK ?_|refine sK ?_);(conv=>whnf);(conv=>congr<;>reduce))))
  | ((with_reducible show(_∧_)∧_∧_);refine⟨⟨rfl,rfl⟩,?_,?_⟩<;>with_reducible ((conv=>whnf)<;>repeat' (first|exact trivial|(refine And.intro ?_ ?_<;>(conv=>whnf))))))
     rcases Nat.lt_or_ge j i with h6|h6
     ·exact hends j x h6 hx
     ·have:j=i:=by omega
      rw[this];exact hee
    ·rw[if_neg ea] at hee
     have hth:=hat.resolve_left ea
     by_cases es:s=l.length+1
     ·have e0:dJ l (l.length+1-s) a=false:=by rw[es,Nat.sub_self];rfl
      rw[e0] at hee
      rw[pS hx hee]
      repeat' (first
  |(first
  |((with_reducible show aM _ _ _ _);first|refine aM.ff ?_|refine aM.tt ?_|refine aM.no (by first|exact qA|((try simp only[aq]);first|(simp[eq_false ea];done)|(simp[eq_false ea];omega))) ?_|refine aM.yes (by first|exact qA|((try simp only[aq]);first|(simp[eq_false ea];done)|(simp[eq_false ea];omega))) ?_)
  |((with_reducible show aY _ _ _ _);refine nK ?_)
  |((with_reducible show aB _ _ _ _);refine dK ?_))<;>(with_reducible ((conv=>whnf);(conv=>congr<;>reduce);repeat((first|refine hK ?_|refine sK ?_);(conv=>whnf);(conv=>congr<;>reduce))))
  | ((with_reducible show(_∧_)∧_∧_);refine⟨⟨rfl,rfl⟩,?_,?_⟩<;>with_reducible ((conv=>whnf)<;>repeat' (first|exact trivial|(refine And.intro ?_ ?_<;>(conv=>whnf))))))
     ·obtain⟨t,ht⟩:∃t,l.length+1-s=t+1:=⟨l.length-s,by omega⟩
      rw[ht] at hee
      replace hee:=hee.trans (uh l t a)
      have hua:=hup a hth
      obtain⟨k',y,e,hy,hny⟩:=aI.1 hth
      rw[hny] at hee hua
      obtain⟨b1,b2,b3,b4,b5,b6,b7,b8,b9,b10⟩:=y
      have hlt:¬ (l.length:Int)<s:=by omega
      by_cases ep:b6=-1
      ·have hu:cZ ⟨b1,b2,b3,b4,b5,b6,b7,b8,b9,b10⟩=b8:=by unfold cZ;rw[if_pos ep]
       rw[hu] at hee hua
       repeat' (first
  |(first
  |((with_reducible show aM _ _ _ _);first|refine aM.ff ?_|refine aM.tt ?_|refine aM.no (by first|exact qA|((try simp only[aq]);first|(simp[hlm,eq_false ea,eq_false hlt,ep];done)|(simp[hlm,eq_false ea,eq_false hlt,ep];omega))) ?_|refine aM.yes (by first|exact qA|((try simp only[aq]);first|(simp[hlm,eq_false ea,eq_false hlt,ep];done)|(simp[hlm,eq_false ea,eq_false hlt,ep];omega))) ?_)
  |((with_reducible show aY _ _ _ _);refine nK ?_)
  |((with_reducible show aB _ _ _ _);refine dK ?_)
  |(refine aH.mk k' (aG ⟨b1,b2,b3,b4,b5,b6,b7,b8,b9,b10⟩) e (az hy) ?_)
  |((with_reducible show aW _ _);refine aW.mk (s+1,b8) ⟨by show s+1≤_;omega,hua,by rw[show l.length+1- (s+1)=t by omega];exact hee⟩ (by show l.length+1- (s+1)<l.length+1-s;omega) ⟨⟨rfl,rfl⟩,⟨⟨rfl,rfl⟩,rfl,rfl,by show((s+1:Nat):Int)=(s:Int)+1;omega,trivial⟩,⟨⟨rfl,rfl,trivial⟩,trivial⟩,trivial⟩))<;>(with_reducible ((conv=>whnf);(conv=>congr<;>reduce);repeat((first|refine hK ?_|refine sK ?_);(conv=>whnf);(conv=>congr<;>reduce))))
  | ((with_reducible show(_∧_)∧_∧_);refine⟨⟨rfl,rfl⟩,?_,?_⟩<;>with_reducible ((conv=>whnf)<;>repeat' (first|exact trivial|(refine And.intro ?_ ?_<;>(conv=>whnf))))))
      ·have hu:cZ ⟨b1,b2,b3,b4,b5,b6,b7,b8,b9,b10⟩=b6:=by unfold cZ;rw[if_neg ep]
       rw[hu] at hee hua
       repeat' (first
  |(first
  |((with_reducible show aM _ _ _ _);first|refine aM.ff ?_|refine aM.tt ?_|refine aM.no (by first|exact qA|((try simp only[aq]);first|(simp[hlm,eq_false ea,eq_false hlt,eq_false ep];done)|(simp[hlm,eq_false ea,eq_false hlt,eq_false ep];omega))) ?_|refine aM.yes (by first|exact qA|((try simp only[aq]);first|(simp[hlm,eq_false ea,eq_false hlt,eq_false ep];done)|(simp[hlm,eq_false ea,eq_false hlt,eq_false ep];omega))) ?_)
  |((with_reducible show aY _ _ _ _);refine nK ?_)
  |((with_reducible show aB _ _ _ _);refine dK ?_)
  |(refine aH.mk k' (aG ⟨b1,b2,b3,b4,b5,b6,b7,b8,b9,b10⟩) e (az hy) ?_)
  |((with_reducible show aW _ _);refine aW.mk (s+1,b6) ⟨by show s+1≤_;omega,hua,by rw[show l.length+1- (s+1)=t by omega];exact hee⟩ (by show l.length+1- (s+1)<l.length+1-s;omega) ⟨⟨rfl,rfl⟩,⟨⟨rfl,rfl⟩,rfl,rfl,by show((s+1:Nat):Int)=(s:Int)+1;omega,trivial⟩,⟨⟨rfl,rfl,trivial⟩,trivial⟩,trivial⟩))<;>(with_reducible ((conv=>whnf);(conv=>congr<;>reduce);repeat((first|refine hK ?_|refine sK ?_);(conv=>whnf);(conv=>congr<;>reduce))))
  | ((with_reducible show(_∧_)∧_∧_);refine⟨⟨rfl,rfl⟩,?_,?_⟩<;>with_reducible ((conv=>whnf)<;>repeat' (first|exact trivial|(refine And.intro ?_ ?_<;>(conv=>whnf))))))
   ·have hil:i=l.length:=by simp only[cj] at g2;omega
    rw[nV fun j x hx=>hends j x (by have:=(aZ hx).1;omega) hx]
    refine⟨⟨rfl,rfl⟩,?_,?_⟩<;>with_reducible ((conv=>whnf)<;>repeat' (first|exact trivial|(refine And.intro ?_ ?_<;>(conv=>whnf))))
theorem Ik (g:Nat)(cg:au Tryz.prog g)(caps:List AV)(hcaps:bz caps=true)(p:Int→Bool)(l:List Int)(hl:l.length≤100000)(hf:∀a,a∈l→aj Tryz.prog g [] (ah a::caps) [] (bA (p a))):
  aj Tryz.prog 125 [] [bY l,.clo (.func g) [] caps] [] (ah (fU p l)):=by
 have hlm:(l.map bJ).length=l.length:=bP ..
 refine aj.aA (rvs:=[.tmp 4]) G ak Tryz.func125 rfl Tryz.ntmps125 rfl rfl ?_;with_reducible refine wD ?_
 refine bE.use G ak (fun(k:Nat)=>[(0,bY l),(1,.clo (.func g) [] caps),(7,ah l.length),(8,ah k)]) (fun _=>[]) (fun k=>k≤l.length∧∀j x,j<k→l[j]? =some x→p x=false) (fun k=>l.length-k) 0 ⟨Nat.zero_le _,fun j x h=>by omega⟩
  ⟨⟨rfl,rfl⟩,⟨rfl,⟨rfl,trivial,cq hcaps⟩,by show(l.length:Int)=((l.map bJ).length:Int);rw[hlm],rfl,trivial⟩,trivial⟩ ?_
 rintro k ⟨hk,hno⟩
 with_reducible refine wK ?_
 refine aM.mk (fun h1=>?_) (fun h1=>?_)<;>(try simp only[aq] at h1)<;>with_reducible refine wK ?_
 ·simp only[aP] at h1
  have hk':k<l.length:=by omega
  obtain⟨a,ha⟩:∃a,l[k]? =some a:=⟨_,bH hk'⟩
  refine aH.mk k (ah a) rfl (ct ha) ?_;with_reducible refine wK ?_
  refine ae.lit [] (hf a (bV ha)) cg ⟨rfl,cq hcaps⟩ rfl rfl ?_;with_reducible refine wK ?_
  refine aM.mk (fun h2=>?_) (fun h2=>?_)<;>(try simp only[aq] at h2)<;>with_reducible refine wK ?_
  ·(refine eK ?_ ?_<;>with_reducible repeat' (first|exact trivial|(show _∧_;refine aK ?_ ?_)))
   exact fo ha h2 hno
  ·refine nK ?_;with_reducible refine wK ?_
   refine aW.mk (k+1) ⟨by omega,fun j x hj hx=>?_⟩ (by omega) ⟨⟨rfl,rfl⟩,⟨rfl,⟨rfl,trivial,cq hcaps⟩,rfl,by show((k+1:Nat):Int)=(k:Int)+1;omega,trivial⟩,trivial⟩
   rcases Nat.lt_or_ge j k with h6|h6
   ·exact hno j x h6 hx
   ·have:j=k:=by omega
    subst this
    rw[ha] at hx;cases hx;exact h2
 ·(refine eK ?_ ?_<;>with_reducible repeat' (first|exact trivial|(show _∧_;refine aK ?_ ?_)))
  have:k=l.length:=by simp only[cj] at h1;omega
  exact gx fun j x hx=>hno j x (by have:=(aZ hx).1;omega) hx
theorem CA (g:Nat)(cg:au Tryz.prog g)(caps:List AV)(hcaps:bz caps=true)(p:Int→Bool)(l:List Int)(hl:l.length≤100000)(hf:∀a,a∈l→aj Tryz.prog g [] (ah a::caps) [] (bA (p a))):
  aj Tryz.prog 127 [] [bY l,.clo (.func g) [] caps] [] (bA (decide (0≤fU p l))):=by
 have h34:=Ik g cg caps hcaps p l hl hf
 refine aj.aA (rvs:=[.tmp 4]) G ak Tryz.func127 rfl Tryz.ntmps127 rfl rfl ?_;with_reducible refine wD ?_
 refine ae.lit [] h34 JZ ⟨rfl,⟨rfl,trivial,cq hcaps⟩,trivial⟩ rfl rfl ?_;with_reducible refine wK ?_
 (refine eK ?_ ?_<;>with_reducible repeat' (first|exact trivial|(show _∧_;refine aK ?_ ?_)))
 all_goals rfl
end Go.Proofs.Heir
namespace Go.Proofs.Heir
open Go Go.Am Go.RowKit Go.Shelf
set_option maxRecDepth 100000
set_option maxHeartbeats 8000000
theorem Fz {Wn:Nat→Prop}{μ:Mu}{W:World}{l:List Int}{b o:Nat}(h:cH Wn μ W (.fptr (.sl 1 (l.map bJ)) 0) (.pointer (some ⟨b,o,none⟩))):
  ∃ad cap,W.cell? ⟨b,o,none⟩=some (.slice ad l.length cap)∧l.length≤cap∧∀ (j:Nat) (x:Int),l[j]? =some x→∃b2 o2,ad=some ⟨b2,o2,none⟩∧W.cell? ⟨b2,o2+j,none⟩=some (.int .i64 x):=by
 generalize hv:Value.pointer (some ⟨b,o,none⟩)=v at h
 cases h with
 | @fptr _ _ b' o' f h1 h2 h3 h4 h5=>
   cases hv
   have k3:=h3 0 _ rfl
   have k4:=h4 0 _ rfl
   rw[Nat.add_zero] at k3
   rw[Nat.add_zero,k3]
   generalize f 0=s at k4
   cases hl:l with
   | nil=>
     subst hl
     cases k4 with
     |slNil=>exact⟨_,_,rfl,Nat.zero_le _,fun j x h=>by simp at h⟩
     |sl a1 a2 a3 a4 a5 a6 a7 a8=>subst a3;exact⟨_,_,rfl,Nat.zero_le _,fun j x h=>by simp at h⟩
   | cons y r=>
     rw[←hl]
     generalize hrows:l.map bJ=rows at k4
     have hne:rows≠ []:=by rw[←hrows,hl];simp
     cases k4 with
     |slNil=>exact absurd rfl hne
     | sl a1 a2 a3 a4 a5 a6 a7 a8=>
       subst a3
       have hlen:rows.length=l.length:=by rw[←hrows];simp
       refine⟨_,_,by rw[hlen],by rw[←hlen];exact a4,fun j x hx=>⟨_,_,rfl,?_⟩⟩
       have hr:rows[j]? =some (bJ x):=by rw[←hrows,fZ,hx];rfl
       have hq:=eJ (wd:=1) (fun i r hr=>a5 i r hr) hr (show(cells (bJ x))[0]? =some (bJ x) from rfl)
       rw[Nat.mul_one,Nat.add_zero] at hq
       have c1:=a6 j _ hq
       have c2:=a7 j _ hq
       have one:∀v,cH Wn μ W (bJ x) v→v=.int .i64 x:=by intro v hv;unfold bJ at hv;cases hv;rfl
       rw[c1,one _ c2]
theorem Ir (l:List Int)(hl:l.length≤100000):Jn Tryz.prog 193 [.fptr (.sl 1 (l.map bJ)) 0] l.length (fun k=>[bJ ((l.length:Int)-1-k),bJ ((l.reverse[k]?).getD 0)]):=by
 intro vals y J Jx hJ hJm hJxm _ hY Wn w h0
 obtain⟨⟨μ,hr⟩,_⟩:=hJ 0 Wn w h0
 obtain⟨vb,us,rfl,hvb,hus⟩:=cK.Ap hr
 obtain rfl:=cK.Ja hus
 obtain⟨b,o,rfl⟩:∃b o,vb=.pointer (some ⟨b,o,none⟩):=by cases hvb;exact⟨_,_,rfl⟩
 have box:∀k Wn W,J k Wn W→∃ad cap,W.cell? ⟨b,o,none⟩=some (.slice ad l.length cap)∧l.length≤cap∧∀ (j:Nat) (x:Int),l[j]? =some x→∃b2 o2,ad=some ⟨b2,o2,none⟩∧W.cell? ⟨b2,o2+j,none⟩=some (.int .i64 x):=by
  intro k Wn W hJk
  obtain⟨⟨μ,hr⟩,_⟩:=hJ k Wn W hJk
  obtain⟨v1,us,e,hv1,_⟩:=cK.Ap hr
  cases e
  exact Fz hv1
 refine(callsIn_wide (n:=1)).1 ?_
 refine callsIn_of_wp Tryz.func193 rfl trivial ?_ rfl
 simp only[Tryz.ntmps193,List.size_toArray,List.length_cons,List.length_nil,Nat.reduceAdd,Nat.reduceSub,Array.replicate_succ,Array.replicate_zero,List.push_toArray,List.append_toArray,List.nil_append,List.cons_append]
 obtain⟨ad,cap,hbx,hcap,hel⟩:=box 0 Wn w h0
 gi_wp2
 gi_loopw [3] (fun i wr=> ∃k:Nat,k≤l.length∧i=.int .i64 ((l.length:Int)-1-k)∧∃Wn,J k Wn wr) (fun i _=>(intOf i+1).toNat)
 case atStart=>exact⟨0,Nat.zero_le _,by simp,Wn,h0⟩
 case round=>
  obtain⟨k,hk,rfl,Wn',hJk⟩:=hrel
  obtain⟨ad',cap',hbx',hcap',hel'⟩:=box k Wn' wr hJk
  by_cases hlt:k<l.length
  ·have hix:l.length-1-k<l.length:=by omega
   obtain⟨b2,o2,rfl,hcx⟩:=hel' (l.length-1-k) l[l.length-1-k] (bH hix)
   have hrev:(l.reverse[k]?).getD 0=l[l.length-1-k]:=by
    rw[bH (by simpa using hlt)];simp
   obtain⟨fn,tmps,assign,body,hy,hR⟩:=hY k Wn' wr [.int .i64 ((l.length:Int)-1-k),.int .i64 (l[l.length-1-k])] hlt hJk (fun _ _ _=>by rw[hrev];exact .cons .lit (.cons .lit .nil))
   have hz:((l.length:Int)-1-k).toNat=l.length-1-k:=by omega
   gi_wp2
   refine hR.mono ?_
   rintro e W3 (⟨rfl,Wn3,hJ3,_⟩|⟨rfl,hJx3⟩)
   ·gi_wp2
    go_roundw
    case rel=>exact⟨k+1,by omega,by congr 1;omega,Wn3,hJ3⟩
    case measure=>simp[intOf];omega
   ·gi_wp2
    refine bodyPost_ret (results_none rfl _ _ _) rfl ?_
    exact⟨⟨_,rfl⟩,.inr hJx3⟩
  ·obtain rfl:k=l.length:=by omega
   gi_wp2
   go_end0
   exact⟨⟨_,rfl⟩,.inl ⟨_,hJk⟩⟩
end Go.Proofs.Heir
namespace Go.Proofs.Heir
open Go Go.Am Go.RowKit Go.Lib
set_option maxRecDepth 100000
set_option maxHeartbeats 8000000
theorem Ie (f:ForM)(n:Int):aj Tryz.prog 192 [] [ah n,.fptr (aN f) 0] [] (bA (!af f.nodes n)):=by
 obtain⟨l,m⟩:=f
 have hlm:(l.map bM).length=l.length:=bP ..
 refine aj.aA (rvs:=[.tmp 3]) G ak Tryz.func192 rfl Tryz.ntmps192 rfl rfl ?_;with_reducible refine wD ?_
 repeat' (first
  |refine pK ?_|refine aE ?_ ?_
  | ((first
   |((with_reducible show aM _ _ _ _);(refine aM.mk (fun hp=>?_) (fun hp=>?_)<;>(try simp only[aq,aP,cj,Bool.not_eq_true',Bool.not_eq_false',Decidable.not_not,Int.not_lt,Int.not_le] at hp))))<;>with_reducible refine wK ?_)
  |apply trivial)
 ·unfold af;rw[bB (show ¬0≤n by omega)];rfl
 ·unfold af;rw[bO hp,hlm,Bool.true_and,←decide_not]
  exact decide_eq_decide.2 Int.not_lt
theorem wQ (f:ForM)(hs:bq f.nodes)(l:List Int)(hl:l.length≤100000):aj Tryz.prog 147 [] [aN f,bY l] [] (bA (bC f&& !decide (0≤fU (fun n=> !af f.nodes n) l))):=by
 have h48:=th f hs
 have h106:=CA 192 Mp [.fptr (aN f) 0] rfl (fun n=> !af f.nodes n) l hl (fun a _=>Ie f a)
 obtain⟨ns,m⟩:=f
 simp only at h48 h106 ⊢
 refine aj.aA (rvs:=[.tmp 4]) G ak Tryz.func147 rfl Tryz.ntmps147 rfl rfl ?_;with_reducible refine wD ?_
 refine cL h48 Jw ?_;with_reducible refine wK ?_
 cases h0:bC ⟨ns,m⟩ with
 | false=>
   repeat' (first
  |refine gK ?_|refine aE ?_ ?_
  | apply trivial)
   all_goals rfl
 | true=>
   repeat' (first
  |refine gK ?_|refine aE ?_ ?_
  | apply trivial)
   refine ae.lit [20] h106 Lx ⟨rfl,⟨rfl,trivial,⟨_,_,_,_,_,rfl,rfl,rfl,rfl,rfl,⟨rfl,rfl,trivial⟩⟩,trivial⟩,trivial⟩ rfl rfl ?_;with_reducible refine wK ?_
   repeat' (first
  |refine gK ?_|refine aE ?_ ?_
  | apply trivial)
   all_goals rfl
theorem Hu (l:List Int):aj Tryz.prog 148 [] [bY l] [] (.clo (.func 193) [] [.fptr (bY l) 0]):=by
 refine aj.aA (rvs:=[.tmp 2]) G ak Tryz.func148 rfl Tryz.ntmps148 rfl rfl ?_;with_reducible refine wD ?_
 refine⟨⟨rfl,rfl⟩,⟨rfl,trivial,⟨_,_,_,_,_,rfl,rfl,rfl,rfl,rfl,rfl⟩,trivial⟩,?_⟩
 exact trivial
def lX (f:ForM)(n:Int):List Int:=if(bC f&&af f.nodes n)=true then U.bQ f.nodes f.nodes.length n else[]
end Go.Proofs.Heir
namespace Go.Proofs.Heir
open Go Go.Am Go.RowKit Go.Shelf
set_option maxRecDepth 100000
set_option maxHeartbeats 8000000

theorem aj.at {P:Program}{f:FuncId}{args:List AV}{vs:List Value}{res:AV}{w:World}{Wn:Nat→Prop}{μ:Mu}(h:aj P f [] args [] res)(ha:bz args=true)(hr:bG res=true)(hv:cK Wn μ w args vs)(hlt:∀b,Wn b→b<w.heap.size)(ht:kj P w fun _=>none):
  Calls P f vs.toArray w fun e w'=> ∃v μ',e=.returned v∧kP w w'∧cH Wn μ' w' res v:=by
 have hW:∀b,Wr Wn (fun _=>none) (aJ []) b→Wn b:=by
  rintro b (h|⟨t,B,wd,rows,_,h,_⟩)
  ·exact h
  ·cases h
 have hs:cF P 0 w Wn (fun _=>none) (fun _=>none) (bare []) iM w:=by
  refine⟨rfl,.nil,rfl,rfl,rfl,Nat.le_refl _,fun _ _ _ h=>h,fun _ _ _=>rfl,hlt,fun _ _ _ h=>h,fun t=>by simp[bare,aJ],fun _=>.any,fun t wd rows ro h=>?_,fun t t' wd rows wd' rows' ro' B B' _ h=>?_,fun t wd rows ro B h=>?_,ht⟩<;>simp[bare,aJ] at h
 refine(h w Wn (fun _=>none) vs (fun _ _=>rfl) hs ?_).mono ?_
 ·exact⟨hv.1,fun j c v hc hv'=>(hv.2 j c v hc hv').bG (fun b _ hb=>hW b hb) (cT.1 ha c (bV hc))⟩
 rintro e w' ⟨v,μ',rfl,hs',hv'⟩
 refine⟨v,μ',rfl,⟨hs'.os,hs'.tape,hs'.output,hs'.hsize,fun b hb=>hs'.keep b hb ?_⟩,hv'.bG (fun b _ hb=>.inl hb) hr⟩
 rintro⟨t,B,h,_⟩
 cases h
def mX (l:List ai)(ms:List Int):List Int:=ms.filter fun c=>decide ((nd l c).kind=1)
theorem zD {l:List ai}{ms:List Int}{j:Nat}{c:Int}(hc:ms[j]? =some c):mX l (ms.take (j+1))=mX l (ms.take j)++ (if(nd l c).kind=1 then[c] else[]):=by
 unfold mX
 rw[List.take_add_one,hc,List.filter_append]
 congr 1
 show List.filter _ [c]=_
 rw[List.filter_cons]
 by_cases h:(nd l c).kind=1
 ·rw[if_pos (bO h),if_pos h];rfl
 ·rw[if_neg (by rw[bB h];simp),if_neg h];rfl
end Go.Proofs.Heir
section
namespace Go.Proofs.Heir
open Go Go.Am Go.RowKit Go.Lib
set_option maxRecDepth 100000
set_option maxHeartbeats 8000000
theorem C3 {α:Type}{x y:List α}(hl:x.length=y.length)(h:∀j,j<x.length→x[j]? =y[j]?):x=y:=by
 refine List.ext_getElem? fun j=>?_
 rcases Nat.lt_or_ge j x.length with h6|h6
 ·exact h j h6
 ·rw[pX h6,pX (by omega)]
theorem CK {α:Type}{x y:List α}{k:Nat}(h:∀j,j<k→x[j]? =y[j]?)(hk:x[k]? =y[k]?):∀j,j<k+1→x[j]? =y[j]? :=fun j hj=>by
 by_cases e:j=k
 ·rw[e];exact hk
 ·exact h j (by omega)
set_option maxHeartbeats 8000000
theorem J0 (a b:List Int)(ha:a.length≤100000):aj Tryz.prog 25 [] [bY a,bY b] [] (bA (decide (a=b))):=by
 have hlm:(a.map bJ).length=a.length:=bP ..
 have hlm':(b.map bJ).length=b.length:=bP ..
 refine aj.aA (rvs:=[.tmp 4]) G ak Tryz.func25 rfl Tryz.ntmps25 rfl rfl ?_;with_reducible refine wD ?_
 by_cases g1:a.length=b.length
 ·(have fct:=And.intro hlm (And.intro hlm' (g1));(repeat' (first
  |refine gF ?_|refine aE ?_ ?_
  |apply trivial));all_goals clear fct)
  refine bE.use G ak (fun(k:Nat)=>[(0,bY a),(1,bY b),(5,ah k)]) (fun _=>[]) (fun k=>k≤a.length∧∀j,j<k→a[j]? =b[j]?) (fun k=>a.length-k) 0 ⟨Nat.zero_le _,fun j hj=>by omega⟩
   ⟨⟨rfl,rfl⟩,⟨rfl,rfl,rfl,trivial⟩,trivial⟩ ?_
  intro k ⟨hk,hno⟩
  with_reducible refine wK ?_
  refine aM.mk (fun h1=>?_) (fun h1=>?_)<;>(try simp only[aq] at h1)<;>with_reducible refine wK ?_
  ·simp only[hlm,aP] at h1
   have hk':k<a.length:=by omega
   obtain⟨x,hx⟩:∃x,a[k]? =some x:=⟨_,bH hk'⟩
   obtain⟨y,hy⟩:∃y,b[k]? =some y:=⟨_,bH (by omega)⟩
   refine aH.mk k (ah x) rfl (ct hx) ?_;with_reducible refine wK ?_
   refine aH.mk k (ah y) rfl (ct hy) ?_;with_reducible refine wK ?_
   by_cases e:x=y
   ·(have fct:=e;(repeat' (first
  |refine gF ?_|refine aE ?_ ?_
  |(((with_reducible show aW _ _);refine aW.mk (k+1) ⟨by omega,CK hno (by rw[hx,hy,e])⟩ (by omega) ⟨⟨rfl,rfl⟩,⟨rfl,rfl,by show((k+1:Nat):Int)=(k:Int)+1;omega,trivial⟩,trivial⟩)<;>with_reducible refine wK ?_)
  | apply trivial));all_goals clear fct)
   ·rw[show decide (a=b)=false from bB fun h=>e (by rw[h] at hx;rw[hx] at hy;exact Option.some.inj hy)]
    (have fct:=e;(repeat' (first
  |refine gF ?_|refine aE ?_ ?_
  |apply trivial));all_goals clear fct)
  ·have hkl:k=a.length:=by simp only[hlm,cj] at h1;omega
   subst hkl
   rw[show decide (a=b)=true from bO (C3 g1 hno)]
   (have fct:=hlm;(repeat' (first
  |refine gF ?_|refine aE ?_ ?_
  |apply trivial));all_goals clear fct)
 ·rw[show decide (a=b)=false from bB fun h=>g1 (by rw[h])]
  (have fct:=And.intro hlm (And.intro hlm' (g1));(repeat' (first
  |refine gF ?_|refine aE ?_ ?_
  |apply trivial));all_goals clear fct)
end Go.Proofs.Heir
end
namespace Go.Proofs.Heir
open Go Go.Am Go.RowKit Go.Lib
set_option maxRecDepth 100000
set_option maxHeartbeats 8000000
structure r5 where
 name:ByteArray
 locl:ByteArray
 cls:Int
 deriving DecidableEq
structure Ep where
 name:ByteArray
 ticket:Int
 deriving DecidableEq
structure Jb where
 defs:List r5
 waits:List Ep
 next:Int
 busy:Bool
 deriving DecidableEq
def LO (s:ByteArray):Bool:=u5 K8 s
def JE (x:r5):Bool:=decide (x.locl=x.name)||LO x.locl
def LI (x:r5):Bool:=dA x.name&&JE x&&decide (0≤x.cls)&&decide (x.cls<12)
def Mb (s:ByteArray)(x:r5):Bool:=decide (x.name=s)
def Np {α:Type}(p:α→Bool)(l:List α):Int:=match l.findIdx? p with
 |some k=>(k:Int)
 |none=> -1
def MT (l:List r5)(s:ByteArray):Int:=Np (Mb s) l
def okW (l:List r5)(next:Int)(w:Ep)(last:Int):Bool:=dA w.name&&decide (MT l w.name=-1)&&decide (last<w.ticket)&&decide (w.ticket<next)
def ET (l:List r5)(next:Int):Int→List Ep→Bool
 |_,[]=>true
 |last,w::r=>okW l next w last&&ET l next w.ticket r
def Lb (l:List r5):Bool:=l.all LI&&decide ((l.map r5.name).Nodup)&&decide ((l.map r5.cls).Nodup)
def KJ (d:Jb):Bool:=Lb d.defs&&ET d.defs d.next (-1) d.waits&&decide (0≤d.next)&&decide (d.next≤100000)

def xk (k:Nat):ByteArray:=⟨#[120,45,UInt8.ofNat (97+k)]⟩
structure BC (d:Jb) (i:Nat):Prop where
 right:KJ d=true
 busy:d.busy=false
 names:∀w∈d.waits,∃k<6,w.name=xk k
 next:d.next≤i
theorem BC.first:BC ⟨[],[],0,false⟩ 0:=⟨by decide,rfl,fun w h=>by simp at h,by decide⟩
section
variable {K : Type} [DecidableEq K] (key : r5 → K)
end
def kC (x:r5):Int:=x.cls





end Go.Proofs.Heir
namespace Go.Proofs.Heir
open Go Go.Am Go.RowKit Go.Lib
set_option maxRecDepth 100000

end Go.Proofs.Heir
namespace Go.Proofs.Heir
open Go Go.Am Go.RowKit Go.Lib
set_option maxRecDepth 100000
set_option maxHeartbeats 8000000

end Go.Proofs.Heir
namespace Go.Proofs.Heir
open Go Go.Am Go.RowKit Go.Lib
set_option maxRecDepth 100000

end Go.Proofs.Heir
namespace Go.Proofs.Heir
open Go Go.Am Go.RowKit Go.Lib
set_option maxRecDepth 100000
set_option maxHeartbeats 8000000
theorem uo {f:ForM}{n:Int}:∀c∈lX f n,af f.nodes c=true:=by
 intro c hc
 unfold lX at hc
 split at hc
 ·rename_i h
  obtain⟨hr,hn⟩:bC f=true∧af f.nodes n=true:=by simpa using h
  exact(U.dL (U.jz hr) _ n hn c hc).1
 ·simp at hc

def n9 (l:List ai)(m:Nat)(P:List Int)(cs:List Int):List Int:=P++cs.flatMap (U.bQ l m)
theorem DB (l:List ai)(m:Nat)(P:List Int){cs:List Int}{j:Nat}{c:Int}(h:cs[j]? =some c):n9 l m P (cs.take (j+1))=n9 l m P (cs.take j)++U.bQ l m c:=by
 unfold n9
 rw[j8 h,List.flatMap_append];simp
theorem EZ (l:List ai)(m:Nat)(P:List Int)(cs:List Int)(j:Nat):(n9 l m P (cs.take j)).length≤ (n9 l m P cs).length:=by
 unfold n9
 conv=>rhs;rw[←List.take_append_drop j cs]
 rw[List.flatMap_append];simp
theorem Bb (l:List ai)(ms:List Int):(mX l ms).length≤ms.length:=List.length_filter_le _ _
end Go.Proofs.Heir
namespace Go.Proofs.Heir
open Go Go.Am Go.RowKit Go.Lib
set_option maxRecDepth 100000
set_option maxHeartbeats 8000000 in
/-- ref.All -/
theorem xG (f:ForM)(hs:bq f.nodes)(T:U.Tree f.nodes):∀ (m:Nat) (k:Nat) (x:ai),f.nodes[k]? =some x→f.nodes.length+1≤m+ (U.bT f.nodes k).length→aj Tryz.prog 197 [] [aN f,ah k] [] (bY (U.bQ f.nodes m k)):=by
  have hl:=hs.len
  intro m
  induction m with
  |zero=>intro k x hx hm;have:=U.kr (l:=f.nodes) k;omega
  | succ m ih=>
    intro k x hx hm
    have htk:=fR hx
    have hnk:=cI hx
    have h7:=hs.kids x (bV hx)
    have hkid:=T.kid k htk
    have hway:=fun c=>U.eA T (n:=(k:Int)) (k:=c) htk
    have hol:=U.jx T (m+1) htk
    rw[hnk] at hkid hway
    have ihc:∀c∈zX x,aj Tryz.prog 197 [] [aN f,ah c] [] (bY (U.bQ f.nodes m c)):=fun c hc=>by
      obtain⟨i,y,rfl,hy,_⟩:=aI.1 (hkid c hc).1
      exact ih i y hy (by rw[hway _ hc];simp;omega)
    obtain⟨P,hP⟩:∃P,P=(k:Int)::(if x.under=-1 then[] else U.bQ f.nodes m x.under):=⟨_,rfl⟩
    have hoe:U.bQ f.nodes (m+1) k=n9 f.nodes m P x.kids:=by
      unfold n9;rw[U.bQ,hnk,hP];unfold zX
      split<;>simp
    rw[hoe] at hol ⊢
    have hpl:=fun j=>EZ f.nodes m P x.kids j
    have hps:=fun j c=> @DB f.nodes m P x.kids j c
    have hp0:n9 f.nodes m P (x.kids.take 0)=P:=by unfold n9;simp
    have ihk:∀c∈x.kids,aj Tryz.prog 197 [] [aN f,ah c] [] (bY (U.bQ f.nodes m c)):=fun c hc=>ihc c (by unfold zX;simp[hc])
    have ihu:x.under≠-1→aj Tryz.prog 197 [] [aN f,ah x.under] [] (bY (U.bQ f.nodes m x.under)):=fun h=>ihc _ (by unfold zX;rw[if_neg h];simp)
    have hPl:P.length≤64:=by have:=hpl 0;rw[hp0] at this;omega
    clear ih hway hm hkid hnk hoe ihc
    obtain⟨l,mo⟩:=f
    obtain⟨a1,a2,a3,a4,a5,a6,a7,a8,a9,a10⟩:=x
    simp only at hl hx h7 hol hpl hps ihk ihu hP hp0 ⊢
    have hlk:(a7.map bJ).length=a7.length:=bP ..
    apply ve (P:=Tryz.prog) (N:=51) (nL:=0) (F:=True) (sl:=[(1,ah k),(2,.ptr 20 0 0),(5,.own 81 0 P.length),(6,ah 0)]) (m:=[(20,.live 2 [aN ⟨l,mo⟩] false),(81,iv P)])
    case main=>
      intro key
      refine aj.aA (rvs:=[.tmp 4]) G ak Tryz.func197 rfl Tryz.ntmps197 rfl rfl ?_;delta List.toArray;((with_reducible conv=>whnf);(with_reducible conv=>congr<;>reduce);repeat((first|(with_reducible refine bh.mk ?_)|(with_reducible refine bf.mk ?_));(with_reducible conv=>whnf);(with_reducible conv=>congr<;>reduce)))
      refine aH.mk k (aG ⟨a1,a2,a3,a4,a5,a6,a7,a8,a9,a10⟩) rfl (az hx) ?_;((with_reducible conv=>whnf);(with_reducible conv=>congr<;>reduce);repeat((first|(with_reducible refine bh.mk ?_)|(with_reducible refine bf.mk ?_));(with_reducible conv=>whnf);(with_reducible conv=>congr<;>reduce)))
      by_cases e9:a9=-1
      · rw[if_pos e9] at hP
        repeat' (first
    |(first
    |((with_reducible show aM _ _ _ _);first|refine aM.ff ?_|refine aM.tt ?_|refine aM.no (by first|rfl|assumption|exact nf (by assumption)|exact nt (by assumption)|((try simp only[aq]);first|(simp[eq_true e9];done)|(simp[eq_true e9];omega))) ?_|refine aM.yes (by first|rfl|assumption|exact nf (by assumption)|exact nt (by assumption)|((try simp only[aq]);first|(simp[eq_true e9];done)|(simp[eq_true e9];omega))) ?_)
    |((with_reducible show aY _ _ _ _);refine aY.mk (by(try simp only[aq]);omega) ?_)
    |((with_reducible show aB _ _ _ _);refine aB.mk (by kernel_rfl) (by kernel_rfl) (by kernel_rfl) ?_))<;>((with_reducible conv=>whnf);(with_reducible conv=>congr<;>reduce);repeat((first|(with_reducible refine bh.mk ?_)|(with_reducible refine bf.mk ?_));(with_reducible conv=>whnf);(with_reducible conv=>congr<;>reduce)))
    | ((with_reducible show(_∧_)∧_∧_);refine⟨⟨rfl,rfl⟩,?_,?_⟩<;>(with_reducible conv=>whnf)<;>repeat' (first|(with_reducible exact trivial)|(with_reducible refine And.intro ?_ ?_<;>with_reducible conv=>whnf))))
        refine bE.fit ?_ (key trivial)
        subst hP
        (refine⟨⟨rfl,rfl⟩,?_⟩;(with_reducible conv=>whnf);(repeat' (first|(with_reducible exact trivial)|(with_reducible refine And.intro ?_ ?_<;>with_reducible conv=>whnf)));(all_goals try rfl))
        exact⟨.refl (aa _),aa _⟩
      · rw[if_neg e9] at hP
        have ihu:=ihu e9
        have hPL:P.length=(U.bQ l m a9).length+1:=by rw[hP];rfl
        have hbc:((U.bQ l m a9).map bJ).length=(U.bQ l m a9).length:=bP ..
        repeat' (first
    |(first
    |((with_reducible show aM _ _ _ _);first|refine aM.ff ?_|refine aM.tt ?_|refine aM.no (by first|rfl|assumption|exact nf (by assumption)|exact nt (by assumption)|((try simp only[aq]);first|(simp[eq_false e9];done)|(simp[eq_false e9];omega))) ?_|refine aM.yes (by first|rfl|assumption|exact nf (by assumption)|exact nt (by assumption)|((try simp only[aq]);first|(simp[eq_false e9];done)|(simp[eq_false e9];omega))) ?_)
    |((with_reducible show aY _ _ _ _);refine aY.mk (by(try simp only[aq]);omega) ?_)
    |((with_reducible show aB _ _ _ _);refine aB.mk (by kernel_rfl) (by kernel_rfl) (by kernel_rfl) ?_)
    |((with_reducible show aH _ _ _ _ _);refine aH.mk k (aG ⟨a1,a2,a3,a4,a5,a6,a7,a8,a9,a10⟩) rfl (az hx) ?_)
    |((with_reducible show ae _ _ 197 _ _ _ _);refine ae.val [] ihu Gd ⟨⟨rfl,rfl,trivial⟩,rfl,trivial⟩ rfl rfl rfl ?_)
    |((with_reducible show dO _ _ _ _ _ _ _ _ _ _);refine dO.mk [ah k] ((U.bQ l m a9).map bJ) ⟨rfl,rfl,rfl⟩ ⟨rfl,rfl,rfl⟩ (j5 _) (by simp;omega) (by simp;omega) ?_))<;>((with_reducible conv=>whnf);(with_reducible conv=>congr<;>reduce);repeat((first|(with_reducible refine bh.mk ?_)|(with_reducible refine bf.mk ?_));(with_reducible conv=>whnf);(with_reducible conv=>congr<;>reduce)))
    | ((with_reducible show(_∧_)∧_∧_);refine⟨⟨rfl,rfl⟩,?_,?_⟩<;>(with_reducible conv=>whnf)<;>repeat' (first|(with_reducible exact trivial)|(with_reducible refine And.intro ?_ ?_<;>with_reducible conv=>whnf))))
        refine bE.fit ?_ (key trivial)
        subst hP
        (refine⟨⟨rfl,rfl⟩,?_⟩;(with_reducible conv=>whnf);(repeat' (first|(with_reducible exact trivial)|(with_reducible refine And.intro ?_ ?_<;>with_reducible conv=>whnf)));(all_goals try rfl))
        ·simp
        ·exact⟨.refl (aa _),aa _⟩
    case rest=>
      intro _
      clear hP ihu
      refine bE.use G ak (fun(j:Nat)=>[(1,ah k),(2,.ptr 20 0 0),(5,.own 81 0 (n9 l m P (a7.take j)).length),(6,ah j)]) (fun j=>[(20,.live 2 [aN ⟨l,mo⟩] false),(81,iv (n9 l m P (a7.take j)))])
        (fun j=>j≤a7.length) (fun j=>a7.length-j) 0 (Nat.zero_le _)
        (by rw[hp0];exact⟨⟨rfl,rfl⟩,⟨rfl,⟨rfl,rfl⟩,⟨rfl,rfl⟩,rfl,trivial⟩,⟨⟨rfl,rfl,trivial⟩,trivial⟩,⟨.refl (aa _),aa _⟩,trivial⟩) ?_
      intro j hj
      ((with_reducible conv=>whnf);(with_reducible conv=>congr<;>reduce);repeat((first|(with_reducible refine bh.mk ?_)|(with_reducible refine bf.mk ?_));(with_reducible conv=>whnf);(with_reducible conv=>congr<;>reduce)))
      refine aH.mk k (aG ⟨a1,a2,a3,a4,a5,a6,a7,a8,a9,a10⟩) rfl (az hx) ?_;((with_reducible conv=>whnf);(with_reducible conv=>congr<;>reduce);repeat((first|(with_reducible refine bh.mk ?_)|(with_reducible refine bf.mk ?_));(with_reducible conv=>whnf);(with_reducible conv=>congr<;>reduce)))
      refine aM.mk (fun h1=>?_) (fun h1=>?_)<;>(try simp only[aq] at h1)<;>((with_reducible conv=>whnf);(with_reducible conv=>congr<;>reduce);repeat((first|(with_reducible refine bh.mk ?_)|(with_reducible refine bf.mk ?_));(with_reducible conv=>whnf);(with_reducible conv=>congr<;>reduce)))
      · have hj':j<a7.length:=by simp only[aP] at h1;omega
        obtain⟨c,hc⟩:∃c,a7[j]? =some c:=⟨_,bH hj'⟩
        have ihc':=ihk c (bV hc)
        have hst:=hps j c hc
        have hl1:=hpl (j+1)
        have hbl:((n9 l m P (a7.take j)).map bJ).length=(n9 l m P (a7.take j)).length:=bP ..
        have hbc:((U.bQ l m c).map bJ).length=(U.bQ l m c).length:=bP ..
        have hsum:(n9 l m P (a7.take j)).length+ (U.bQ l m c).length≤64:=by rw[hst,jN] at hl1;omega
        refine aH.mk k (aG ⟨a1,a2,a3,a4,a5,a6,a7,a8,a9,a10⟩) rfl (az hx) ?_;((with_reducible conv=>whnf);(with_reducible conv=>congr<;>reduce);repeat((first|(with_reducible refine bh.mk ?_)|(with_reducible refine bf.mk ?_));(with_reducible conv=>whnf);(with_reducible conv=>congr<;>reduce)))
        refine aH.mk j (ah c) rfl (ct hc) ?_;((with_reducible conv=>whnf);(with_reducible conv=>congr<;>reduce);repeat((first|(with_reducible refine bh.mk ?_)|(with_reducible refine bf.mk ?_));(with_reducible conv=>whnf);(with_reducible conv=>congr<;>reduce)))
        refine ae.val [] ihc' Gd ⟨⟨rfl,rfl,trivial⟩,rfl,trivial⟩ rfl rfl rfl ?_;((with_reducible conv=>whnf);(with_reducible conv=>congr<;>reduce);repeat((first|(with_reducible refine bh.mk ?_)|(with_reducible refine bf.mk ?_));(with_reducible conv=>whnf);(with_reducible conv=>congr<;>reduce)))
        refine dO.mk ((n9 l m P (a7.take j)).map bJ) ((U.bQ l m c).map bJ) ⟨rfl,hbl.symm,rfl⟩ ⟨rfl,rfl,rfl⟩ (j5 _) (by simp;omega) (by simp;omega) ?_;((with_reducible conv=>whnf);(with_reducible conv=>congr<;>reduce);repeat((first|(with_reducible refine bh.mk ?_)|(with_reducible refine bf.mk ?_));(with_reducible conv=>whnf);(with_reducible conv=>congr<;>reduce)))
        refine aB.mk (by kernel_rfl) (by kernel_rfl) (by kernel_rfl) ?_;((with_reducible conv=>whnf);(with_reducible conv=>congr<;>reduce);repeat((first|(with_reducible refine bh.mk ?_)|(with_reducible refine bf.mk ?_));(with_reducible conv=>whnf);(with_reducible conv=>congr<;>reduce)))
        refine aY.mk (by(try simp only[aq]);omega) ?_;((with_reducible conv=>whnf);(with_reducible conv=>congr<;>reduce);repeat((first|(with_reducible refine bh.mk ?_)|(with_reducible refine bf.mk ?_));(with_reducible conv=>whnf);(with_reducible conv=>congr<;>reduce)))
        refine aW.mk (j+1) (by omega) (by omega) ⟨⟨rfl,rfl⟩,⟨rfl,⟨rfl,rfl⟩,⟨rfl,?_⟩,by show((j+1:Nat):Int)=(j:Int)+1;omega,trivial⟩,⟨⟨rfl,rfl,trivial⟩,trivial⟩,⟨?_,aa _⟩,trivial⟩
        ·rw[hst];simp
        ·rw[hst,gm];exact .refl (by rw[←gm];exact aa _)
      · refine⟨⟨rfl,rfl⟩,?_,?_⟩<;>(with_reducible conv=>whnf)<;>repeat' (first|(with_reducible exact trivial)|(with_reducible refine And.intro ?_ ?_<;>with_reducible conv=>whnf))
        have hjl:j=a7.length:=by simp only[cj] at h1;omega
        subst hjl
        rw[List.take_length]
        exact bX rfl rfl rfl rfl
set_option maxHeartbeats 8000000 in
/-- ref.Elems -/
theorem IM (f:ForM)(hs:bq f.nodes)(T:U.Tree f.nodes)(n:Nat)(x:ai)(hx:f.nodes[n]? =some x):aj Tryz.prog 196 [] [aN f,ah n] [] (bY (mX f.nodes (U.bQ f.nodes f.nodes.length n))):=by
  have htn:=fR hx
  have h197:=xG f hs T f.nodes.length n x hx (U.lC T htn)
  have hol:=U.jx T f.nodes.length htn
  have hl:=hs.len
  have hth:∀c∈U.bQ f.nodes f.nodes.length n,af f.nodes c=true:=fun c hc=>(U.dL T _ n htn c hc).1
  obtain⟨l,m⟩:=f
  simp only at h197 hol hl hth ⊢
  generalize U.bQ l l.length n=ms at h197 hol hth ⊢
  have hms:(ms.map bJ).length=ms.length:=bP ..
  have hlm:(l.map bM).length=l.length:=bP ..
  refine aj.aA (rvs:=[.tmp 4]) G ak Tryz.func196 rfl Tryz.ntmps196 rfl rfl ?_;delta List.toArray;((with_reducible conv=>whnf);(with_reducible conv=>congr<;>reduce);repeat((first|(with_reducible refine bh.mk ?_)|(with_reducible refine bf.mk ?_));(with_reducible conv=>whnf);(with_reducible conv=>congr<;>reduce)))
  refine ae.val [] h197 Gd ⟨⟨rfl,rfl,trivial⟩,rfl,trivial⟩ rfl rfl rfl ?_;((with_reducible conv=>whnf);(with_reducible conv=>congr<;>reduce);repeat((first|(with_reducible refine bh.mk ?_)|(with_reducible refine bf.mk ?_));(with_reducible conv=>whnf);(with_reducible conv=>congr<;>reduce)))
  repeat' (first
    |(first
    |((with_reducible show aM _ _ _ _);first|refine aM.ff ?_|refine aM.tt ?_|refine aM.no (by first|rfl|assumption|exact nf (by assumption)|exact nt (by assumption)|((try simp only[aq]);first|(simp[];done)|(simp[];omega))) ?_|refine aM.yes (by first|rfl|assumption|exact nf (by assumption)|exact nt (by assumption)|((try simp only[aq]);first|(simp[];done)|(simp[];omega))) ?_)
    |((with_reducible show aY _ _ _ _);refine aY.mk (by(try simp only[aq]);omega) ?_)
    |((with_reducible show aB _ _ _ _);refine aB.mk (by kernel_rfl) (by kernel_rfl) (by kernel_rfl) ?_))<;>((with_reducible conv=>whnf);(with_reducible conv=>congr<;>reduce);repeat((first|(with_reducible refine bh.mk ?_)|(with_reducible refine bf.mk ?_));(with_reducible conv=>whnf);(with_reducible conv=>congr<;>reduce)))
    |((with_reducible show(_∧_)∧_∧_);refine⟨⟨rfl,rfl⟩,?_,?_⟩<;>(with_reducible conv=>whnf)<;>repeat' (first|(with_reducible exact trivial)|(with_reducible refine And.intro ?_ ?_<;>with_reducible conv=>whnf))))
  refine bE.ghost 5 51 1 rfl rfl ?_
  refine bE.use G ak (fun(j:Nat)=>[(2,.ptr 20 0 0),(5,.own 51 0 (mX l (ms.take j)).length),(6,bY ms),(7,ah j)]) (fun j=>[(20,.live 2 [aN ⟨l,m⟩] false),(51,iv (mX l (ms.take j)))])
    (fun j=>j≤ms.length) (fun j=>ms.length-j) 0 (Nat.zero_le _)
    ⟨⟨rfl,rfl⟩,⟨⟨rfl,rfl⟩,⟨rfl,rfl⟩,rfl,rfl,trivial⟩,⟨⟨rfl,rfl,trivial⟩,trivial⟩,⟨.refl rfl,aa _⟩,trivial⟩ ?_
  intro j hj
  ((with_reducible conv=>whnf);(with_reducible conv=>congr<;>reduce);repeat((first|(with_reducible refine bh.mk ?_)|(with_reducible refine bf.mk ?_));(with_reducible conv=>whnf);(with_reducible conv=>congr<;>reduce)))
  refine aM.mk (fun h1=>?_) (fun h1=>?_)<;>(try simp only[aq] at h1)<;>((with_reducible conv=>whnf);(with_reducible conv=>congr<;>reduce);repeat((first|(with_reducible refine bh.mk ?_)|(with_reducible refine bf.mk ?_));(with_reducible conv=>whnf);(with_reducible conv=>congr<;>reduce)))
  · have hj':j<ms.length:=by simp only[aP] at h1;omega
    obtain⟨c,hc⟩:∃c,ms[j]? =some c:=⟨_,bH hj'⟩
    obtain⟨i,y,rfl,hy,hny⟩:=aI.1 (hth c (bV hc))
    have hst:=zD (l:=l) hc
    rw[hny] at hst
    have hle:=Nat.le_trans (Bb l (ms.take j)) (by rw[gd];exact Nat.min_le_left j ms.length)
    obtain⟨b1,b2,b3,b4,b5,b6,b7,b8,b9,b10⟩:=y
    refine aH.mk j (ah (i:Int)) rfl (ct hc) ?_;((with_reducible conv=>whnf);(with_reducible conv=>congr<;>reduce);repeat((first|(with_reducible refine bh.mk ?_)|(with_reducible refine bf.mk ?_));(with_reducible conv=>whnf);(with_reducible conv=>congr<;>reduce)))
    refine aH.mk i (aG ⟨b1,b2,b3,b4,b5,b6,b7,b8,b9,b10⟩) rfl (az hy) ?_;((with_reducible conv=>whnf);(with_reducible conv=>congr<;>reduce);repeat((first|(with_reducible refine bh.mk ?_)|(with_reducible refine bf.mk ?_));(with_reducible conv=>whnf);(with_reducible conv=>congr<;>reduce)))
    by_cases e:b1=1
    · rw[if_pos e] at hst
      repeat' (first
    |(first
    |((with_reducible show aM _ _ _ _);first|refine aM.ff ?_|refine aM.tt ?_|refine aM.no (by first|rfl|assumption|exact nf (by assumption)|exact nt (by assumption)|((try simp only[aq]);first|(simp[eq_true e];done)|(simp[eq_true e];omega))) ?_|refine aM.yes (by first|rfl|assumption|exact nf (by assumption)|exact nt (by assumption)|((try simp only[aq]);first|(simp[eq_true e];done)|(simp[eq_true e];omega))) ?_)
    |((with_reducible show aY _ _ _ _);refine aY.mk (by(try simp only[aq]);omega) ?_)
    |((with_reducible show aB _ _ _ _);refine aB.mk (by kernel_rfl) (by kernel_rfl) (by kernel_rfl) ?_)
    |((with_reducible show aH _ _ _ _ _);refine aH.mk j (ah (i:Int)) rfl (ct hc) ?_)
    |((with_reducible show dO _ _ _ _ _ _ _ _ _ _);refine dO.mk ((mX l (ms.take j)).map bJ) [ah (i:Int)] ⟨rfl,(bP ..).symm,rfl⟩ ⟨rfl,rfl,rfl⟩ rfl (by simp;omega) (by simp;omega) ?_))<;>((with_reducible conv=>whnf);(with_reducible conv=>congr<;>reduce);repeat((first|(with_reducible refine bh.mk ?_)|(with_reducible refine bf.mk ?_));(with_reducible conv=>whnf);(with_reducible conv=>congr<;>reduce)))
    | ((with_reducible show(_∧_)∧_∧_);refine⟨⟨rfl,rfl⟩,?_,?_⟩<;>(with_reducible conv=>whnf)<;>repeat' (first|(with_reducible exact trivial)|(with_reducible refine And.intro ?_ ?_<;>with_reducible conv=>whnf))))
      refine aW.mk (j+1) (by omega) (by omega) ⟨⟨rfl,rfl⟩,⟨⟨rfl,rfl⟩,⟨rfl,?_⟩,rfl,by show((j+1:Nat):Int)=(j:Int)+1;omega,trivial⟩,⟨⟨rfl,rfl,trivial⟩,trivial⟩,⟨?_,aa _⟩,trivial⟩
      ·rw[hst];simp
      ·rw[hst,gm];exact .refl (by rw[←gm];exact aa _)
    · rw[if_neg e,List.append_nil] at hst
      repeat' (first
    |(first
    |((with_reducible show aM _ _ _ _);first|refine aM.ff ?_|refine aM.tt ?_|refine aM.no (by first|rfl|assumption|exact nf (by assumption)|exact nt (by assumption)|((try simp only[aq]);first|(simp[eq_false e];done)|(simp[eq_false e];omega))) ?_|refine aM.yes (by first|rfl|assumption|exact nf (by assumption)|exact nt (by assumption)|((try simp only[aq]);first|(simp[eq_false e];done)|(simp[eq_false e];omega))) ?_)
    |((with_reducible show aY _ _ _ _);refine aY.mk (by(try simp only[aq]);omega) ?_)
    |((with_reducible show aB _ _ _ _);refine aB.mk (by kernel_rfl) (by kernel_rfl) (by kernel_rfl) ?_))<;>((with_reducible conv=>whnf);(with_reducible conv=>congr<;>reduce);repeat((first|(with_reducible refine bh.mk ?_)|(with_reducible refine bf.mk ?_));(with_reducible conv=>whnf);(with_reducible conv=>congr<;>reduce)))
    | ((with_reducible show(_∧_)∧_∧_);refine⟨⟨rfl,rfl⟩,?_,?_⟩<;>(with_reducible conv=>whnf)<;>repeat' (first|(with_reducible exact trivial)|(with_reducible refine And.intro ?_ ?_<;>with_reducible conv=>whnf))))
      refine aW.mk (j+1) (by omega) (by omega) ⟨⟨rfl,rfl⟩,⟨⟨rfl,rfl⟩,⟨rfl,?_⟩,rfl,by show((j+1:Nat):Int)=(j:Int)+1;omega,trivial⟩,⟨⟨rfl,rfl,trivial⟩,trivial⟩,⟨?_,aa _⟩,trivial⟩
      ·rw[hst]
      ·rw[hst];exact .refl (aa _)
  · refine⟨⟨rfl,rfl⟩,?_,?_⟩<;>(with_reducible conv=>whnf)<;>repeat' (first|(with_reducible exact trivial)|(with_reducible refine And.intro ?_ ?_<;>with_reducible conv=>whnf))
    have hjl:j=ms.length:=by simp only[cj] at h1;omega
    subst hjl
    rw[List.take_length]
    exact bX rfl rfl rfl rfl
end Go.Proofs.Heir
