/- Models, plain laws and contracts of functions of the given program; conditions as stated in each theorem. By an AI agent. -/
import Derived.Test.YtkhjcnjicjgfiaaGreatDoorWN23
import Derived.Test.YtkhjcnjicjgfiaaGreatDoorWN15
import Derived.Test.YtkhjcnjicjgfiaaGreatDoorWN17
import Derived.Test.YtkhjcnjicjgfiaaGreatDoorWN14
import Derived.Shelf.RegionOpenPlain
import Derived.WalkKit
import Derived.IntWalk
import Derived.RangeFuncSeq
import Derived.Deep.RegionLaw
import Derived.Lib.SliceRun
import Derived.Laws.Tables
import Derived.Laws.CopyRow
import Derived.Sort.WalkB12
import Derived.Test.YtkhjcnjicjgfiaaGreatDoorWN13
set_option linter.unusedSimpArgs false
set_option linter.unusedVariables false
namespace Go.Proofs.Heir
open Go Go.Am Go.RowKit Go.Lib
set_option maxRecDepth 100000
set_option maxHeartbeats 8000000
theorem Cn {l:List ai}{m:Int}{a b n:Nat}{ka kb:List Int}{ns:List aJ}{y:ai}(hy:l[n]? =some y)(hr:∃q,dZ a 1 b 2 n y=.agg [ah y.kind,bS y.name,bS y.is,bS y.data,cJ y.attrs,ah y.parent,q,ah y.host,ah y.under,ah y.doc])(hp:y.parent=-1):
    ak Tryz.prog 79 [aL m l.length 4 (.own 3 0 ns.length),aA ka,aA kb,aN ns,aQ l a 1 b 2] [.ptr 0 0 0,ah n]
      [aL m l.length 4 (.own 6 0 ns.length),.dead,aA kb,.dead,aQ l a 5 b 2,aA ka,aN ns] (.tup []):=by
  have hnl:=(aY hy).1
  obtain⟨q,hq⟩:=hr
  have g1:(aO l a 1 b 2)[n]? =some (.agg [ah y.kind,bS y.name,bS y.is,bS y.data,cJ y.attrs,ah y.parent,q,ah y.host,ah y.under,ah y.doc]):=by rw[cO hy,hq]
  obtain⟨y1,y2,y3,y4,y5,y6,y7,y8,y9,y10⟩:=y
  dsimp only at hp g1
  subst hp
  have hlr:(aO l a 1 b 2).length=l.length:=bM
  refine ak.eA [(5,1)] (rvs:=[]) G au Tryz.func79 rfl Tryz.ntmps79 rfl rfl ?_;with_reducible refine wD ?_
  (have fct:=hnl;(repeat' (first
    |refine pF ?_
    | ((first
      |((with_reducible show aX _ _ _ _);(refine aX.mk (fun hp=>?_) (fun hp=>?_)<;>(try simp only[ay,bH,cR,Bool.not_eq_true',Bool.not_eq_false',Decidable.not_not,Int.not_lt,Int.not_le] at hp)))
      |((with_reducible show ee _ _ _ _ _);refine ee.mk n rfl (by first|exact hnl|(simp;omega)) ?_)
      |((with_reducible show aT _ _ _ _ _);refine aT.mk _ (by first|exact g1|(rw[Nat.zero_add];exact g1)) ?_)
      |((with_reducible show aI _ _ _ _);refine dK ?_))<;>with_reducible refine wK ?_)
    |((with_reducible show(_∧_)∧_∧_);(refine eK ?_ ?_<;>with_reducible repeat' (first|exact trivial|(show _∧_;refine aK ?_ ?_))))));all_goals clear fct)
  all_goals first
    |exact⟨.refl (aa _),aa _⟩
    |exact⟨.refl (aj _),aj _⟩
    |exact bu (fun _=>rfl) (fun _=>rfl)
    |trace_state
theorem Il {l:List ai}{m:Int}{a b i:Nat}{ka kb es ex:List Int}{ns:List aJ}{ya y:ai}{conn:Bool}{told:List aJ}(htold:told=if conn then es.map (dX mq) else[])(hL:l.length≤1000)(ha:l[a]? =some ya)(hb:∀z,l[b]? =some z→z.kids=kb)(hy:l[b]? =some y)(hna:b≠a)(hka:ya.kids=ka)(hp:y.parent=a)(hi:i<ka.length)(hk:ka.length≤1000)(he:es.length≤1000)(hn:ns.length≤100000)
    (h21:ak Tryz.prog 35 [] [aM ⟨l,m⟩,ah b] [] (bC conn)) (h191:ak Tryz.prog 34 [] [aM ⟨l,m⟩,ah b] [aA (es++ex)] (.own 0 0 es.length)) (h79:ak Tryz.prog 73 [] [cN ka,ah b] [] (ah i))
    (h188:ak Tryz.prog 145 [aA ka] [.own 0 0 ka.length,ah i,ah (i+1:Nat)] [.dead,aA (ka.take i++ka.drop (i+1))] (.own 1 0 (ka.take i++ka.drop (i+1)).length)):
    ak Tryz.prog 79 [aL m l.length 4 (.own 3 0 ns.length),aA ka,aA kb,aN ns,aQ l a 1 b 2] [.ptr 0 0 0,ah b]
      [aL m l.length 4 (.own 6 0 (ns++told).length),.dead,aA kb,.dead,aQ ((l.set a {ya with kids:=ka.take i++ka.drop (i+1)}).set b {y with parent:=-1}) a 5 b 2,aA (ka.take i++ka.drop (i+1)),aN (ns++told)] (.tup []):=by
  have hal:=(aY ha).1
  have hnl:=(aY hy).1
  have hA:∀z,l[a]? =some z→z.kids=ka:=fun z hz=>by rw[ha] at hz;cases hz;exact hka
  have t21:=nn (rest:=[ah b]) hA hb h21 rfl rfl
  have t164:=rD (x:=mq) hA hb he hn h191
  have t79:=nx (rest:=[ah b]) h79 rfl rfl
  have hne:a≠b:=fun e=>hna e.symm
  obtain⟨k2,hk2⟩:∃k2,k2=ka.take i++ka.drop (i+1):=⟨_,rfl⟩
  rw[←hk2] at h188 ⊢
  have hrow:∀u,((aO l a 1 b 2).set a (dF {ya with kids:=k2} u)).set b (dF {y with parent:=-1} 2)=aO ((l.set a {ya with kids:=k2}).set b {y with parent:=-1}) a u b 2:=fun u=>by
    rw[ou _ hal,tO _ (by rw[List.length_set];exact hnl) hna]
  have g1:(aO l a 1 b 2)[b]? =some (dW y 2):=uD hy hna
  have g2:(aO l a 1 b 2)[a]? =some (dW ya 1):=Bh ha
  have g3:∀x,((aO l a 1 b 2).set a x)[b]? =some (dW y 2):=fun x=>by rw[List.getElem?_set,if_neg hne];exact g1
  have g4:∀x,((aO l a 1 b 2).set (0+a) x)[0+b]? =some (dW y 2):=fun x=>by rw[Nat.zero_add,Nat.zero_add];exact g3 x
  have hrow':((aO l a 1 b 2).set (0+a) (dF {ya with kids:=k2} 511)).set (0+b) (dF {y with parent:=-1} 2)=aO ((l.set a {ya with kids:=k2}).set b {y with parent:=-1}) a 511 b 2:=by rw[Nat.zero_add,Nat.zero_add];exact hrow 511
  have hlr:(aO l a 1 b 2).length=l.length:=bM
  obtain⟨y1,y2,y3,y4,y5,y6,y7,y8,y9,y10⟩:=y
  obtain⟨z1,z2,z3,z4,z5,z6,z7,z8,z9,z10⟩:=ya
  dsimp only at hp hka
  subst hp;subst hka
  have hpa:¬ ((a:Int)=-1):=by omega
  refine ak.eA [(5,511)] (rvs:=[]) G au Tryz.func79 rfl Tryz.ntmps79 rfl rfl ?_;with_reducible refine wD ?_
  (have fct:=hpa;(repeat' (first
    |refine pF ?_
    | ((first
      |((with_reducible show aX _ _ _ _);(refine aX.mk (fun hp=>?_) (fun hp=>?_)<;>(try simp only[ay,bH,cR,Bool.not_eq_true',Bool.not_eq_false',Decidable.not_not,Int.not_lt,Int.not_le] at hp)))
      |((with_reducible show ee _ _ _ _ _);first|refine ee.mk b rfl (by first|exact hnl|(simp;omega)) ?_|refine ee.mk a rfl (by first|exact hal|(simp;omega)) ?_)
      |((with_reducible show aT _ _ _ _ _);refine aT.mk _ (by first|exact g4 _|exact g1|exact g2|exact g3 _|(rw[Nat.zero_add];first|exact g1|exact g2|exact g3 _)) ?_)
      |((with_reducible show af _ _ 35 _ _ _ _);refine af.c7 (news:=[aQ l a 1 b 2,aA z7,aA kb]) [4,1,2] [] t21 Gi ⟨⟨⟨rfl,rfl⟩,rfl,trivial⟩,rfl,trivial⟩ ⟨⟨rfl,bI (fun _=>rfl) (fun _=>rfl)⟩,⟨rfl,.inl ⟨rfl,aa _⟩⟩,⟨rfl,.inl ⟨rfl,aa _⟩⟩,trivial⟩ rfl ⟨⟨rfl,rfl⟩,rfl⟩ rfl ⟨⟨rfl,bB rfl rfl (by decide) (by decide)⟩,⟨rfl,.inl ⟨rfl,aa _⟩⟩,⟨rfl,.inl ⟨rfl,aa _⟩⟩,trivial⟩ rfl rfl ?_)
      |((with_reducible show af _ _ 141 _ _ _ _);refine af.c7 (news:=[aL m l.length 4 (.own 133 0 (ns.length+es.length)),aA z7,aA kb,.dead,aQ l a 1 b 2,aN (ns++es.map (dX mq))]) [0,1,2,3,4,133] [] t164 Ct ⟨⟨rfl,rfl⟩,rfl,⟨rfl,rfl,rfl,rfl,rfl,rfl,rfl,rfl,rfl,trivial⟩,trivial⟩ ⟨⟨rfl,.inr ⟨⟨⟨⟨rfl,rfl⟩,rfl,⟨rfl,rfl⟩,trivial⟩,trivial⟩,rfl⟩⟩,⟨rfl,.inl ⟨rfl,aa _⟩⟩,⟨rfl,.inl ⟨rfl,aa _⟩⟩,⟨rfl,.inl ⟨rfl,aj _⟩⟩,⟨rfl,bI (fun _=>rfl) (fun _=>rfl)⟩,trivial⟩ rfl ⟨⟨rfl,rfl⟩,rfl⟩ rfl ⟨⟨rfl,.inr ⟨rfl,rfl,rfl⟩⟩,⟨rfl,.inl ⟨rfl,aa _⟩⟩,⟨rfl,.inl ⟨rfl,aa _⟩⟩,⟨rfl,bB rfl rfl (by decide) (by decide)⟩,⟨rfl,.inl ⟨rfl,aj _⟩⟩,trivial⟩ rfl rfl ?_)
      |((with_reducible show af _ _ 73 _ _ _ _);refine af.c7 (news:=[aA z7]) [1] [] t79 GW ⟨⟨rfl,rfl⟩,rfl,trivial⟩ ⟨⟨rfl,.inl ⟨rfl,aa _⟩⟩,trivial⟩ rfl ⟨⟨rfl,rfl⟩,rfl⟩ rfl ⟨⟨rfl,.inl ⟨rfl,aa _⟩⟩,trivial⟩ rfl rfl ?_)
      |((with_reducible show af _ _ 145 _ _ _ _);refine af.c7 (news:=[.dead,aA k2]) [1,511] [] h188 K9 ⟨⟨rfl,rfl⟩,rfl,by show((i+1:Nat):Int)=(i:Int)+1;omega,trivial⟩ ⟨⟨rfl,.inl ⟨rfl,aa _⟩⟩,trivial⟩ rfl ⟨⟨rfl,rfl⟩,rfl⟩ rfl ⟨⟨rfl,.inl ⟨rfl,aa _⟩⟩,trivial⟩ rfl rfl ?_)
      |((with_reducible show aI _ _ _ _);refine dK ?_))<;>with_reducible refine wK ?_)
    |((with_reducible show(_∧_)∧_∧_);(refine eK ?_ ?_<;>with_reducible repeat' (first|exact trivial|(show _∧_;refine aK ?_ ?_))))));all_goals clear fct)
  all_goals first
    |exact⟨.refl (aa _),aa _⟩
    |exact cast (congrArg (gb _ _) hrow'.symm) (bu (fun _=>rfl) (fun _=>rfl))
    | (have ht:told=es.map (dX mq):=by rw[htold,hp];rfl
       subst ht
       first|exact⟨.refl (aj _),aj _⟩|(simp;done))
    | (have ht:told=[]:=by rw[htold,hp];rfl
       subst ht
       first|exact cast (congrArg (fun z=>qx _ z _) (show ns.map dY=(ns++ []).map dY by simp)) ⟨.refl (aj _),aj _⟩|(simp;done))
    |trace_state
end Go.Proofs.Heir
namespace Go.Proofs.Heir
open Go Go.Am Go.RowKit Go.Lib
set_option maxRecDepth 100000
set_option maxHeartbeats 16000000 in
/-- shade.All -/
theorem Cg (f:ForM)(hs:bw f.nodes)(n:Int)(e0:(bt f&&ae f.nodes n)=true):ak Tryz.prog 82 [] [aM f,ah n] [jW (lX f n)] (.own 0 0 (lX f n).length):=by
  have h86:=wN f hs [n] (by simp)
  have e1:(bt f&& !decide (0≤fU (fun n=> !ae f.nodes n) [n]))=(bt f&&ae f.nodes n):=by
    congr 1
    unfold fU
    cases h:ae f.nodes n<;>simp[List.findIdx?_cons,h]
  rw[e1] at h86
  obtain⟨l,m⟩:=f
  unfold lX
  simp only at h86 e0 ⊢
  rw[if_pos e0]
  have hlm:(l.map bF).length=l.length:=bW ..
  refine ak.aD (rvs:=[.tmp 4]) G au Tryz.func82 rfl Tryz.ntmps82 rfl rfl ?_;delta List.toArray;((with_reducible conv=>whnf);(with_reducible conv=>congr<;>reduce);repeat((first|(with_reducible refine bK.mk ?_)|(with_reducible refine bL.mk ?_));(with_reducible conv=>whnf);(with_reducible conv=>congr<;>reduce)))
  rw[e0] at h86
  refine af.lit [141] h86 HH ⟨⟨rfl,rfl,trivial⟩,cq (l:=[n]) rfl rfl rfl rfl,trivial⟩ rfl rfl ?_;((with_reducible conv=>whnf);(with_reducible conv=>congr<;>reduce);repeat((first|(with_reducible refine bK.mk ?_)|(with_reducible refine bL.mk ?_));(with_reducible conv=>whnf);(with_reducible conv=>congr<;>reduce)))
  obtain⟨hr,hn⟩:bt ⟨l,m⟩=true∧ae l n=true:=by simpa using e0
  have T:=U.jv hr
  have hol:=U.sA T l.length hn
  simp only at T hol
  repeat' (first|(first|((with_reducible show aX _ _ _ _);first|refine aX.ff ?_|refine aX.tt ?_|refine aX.no (by first|rfl|assumption|exact nf (by assumption)|exact nt (by assumption)|((try simp only[ay]);first|(simp[];done)|(simp[];omega))) ?_|refine aX.yes (by first|rfl|assumption|exact nf (by assumption)|exact nt (by assumption)|((try simp only[ay]);first|(simp[];done)|(simp[];omega))) ?_)|((with_reducible show bE _ _ _ _);refine bE.mk (by(try simp only[ay]);omega) ?_)|((with_reducible show aI _ _ _ _);refine aI.mk (by kernel_rfl) (by kernel_rfl) (by kernel_rfl) ?_))<;>((with_reducible conv=>whnf);(with_reducible conv=>congr<;>reduce);repeat((first|(with_reducible refine bK.mk ?_)|(with_reducible refine bL.mk ?_));(with_reducible conv=>whnf);(with_reducible conv=>congr<;>reduce)))|((with_reducible show(_∧_)∧_∧_);refine⟨⟨rfl,rfl⟩,?_,?_⟩<;>(with_reducible conv=>whnf)<;>repeat' (first|(with_reducible exact trivial)|(with_reducible refine And.intro ?_ ?_<;>with_reducible conv=>whnf))))
  refine bX.ghost 5 51 1 rfl rfl ?_
  refine bX.use G au (fun(i:List Int×List Int×List Int)=>[(2,.ptr 20 0 0),(5,.own 51 0 i.1.length),(6,.ptr 60 0 0)])
    (fun i=>[(20,.live 2 [aM ⟨l,m⟩] false),(51,jW i.1),(60,.live 1 [.own 181 0 i.2.1.length] false),(181,jW (i.2.1++i.2.2))])
    (fun i=>U.bT l l.length n=i.1++U.rest l i.2.1∧∀c∈i.2.1,ae l c=true) (fun i=>l.length-i.1.length) ([],[n],[]) ⟨by simp[U.rest],fun c hc=>by rw[gA] at hc;subst hc;exact hn⟩
    (by refine⟨⟨rfl,rfl⟩,⟨⟨rfl,rfl⟩,⟨rfl,rfl⟩,⟨rfl,rfl⟩,trivial⟩,⟨⟨rfl,rfl,trivial⟩,trivial⟩,⟨.refl rfl,aa _⟩,⟨⟨rfl,rfl⟩,trivial⟩,⟨.refl rfl,aa _⟩,trivial⟩) ?_
  rintro⟨out,st,sp⟩ ⟨ho,hst⟩
  simp only at ho hst
  ((with_reducible conv=>whnf);(with_reducible conv=>congr<;>reduce);repeat((first|(with_reducible refine bK.mk ?_)|(with_reducible refine bL.mk ?_));(with_reducible conv=>whnf);(with_reducible conv=>congr<;>reduce)))
  have hoL:=congrArg List.length ho
  rw[kf] at hoL
  have hol':out.length=(out.map bU).length:=(bW ..).symm
  have hrl:=U.zi T hst
  have hl60:=hs.len
  simp only at hl60
  obtain h|⟨st',t,h⟩:=List.eq_nil_or_concat st<;>(try rw[List.concat_eq_append] at h)<;>subst h
  · repeat' (first|(first|((with_reducible show aX _ _ _ _);first|refine aX.ff ?_|refine aX.tt ?_|refine aX.no (by first|rfl|assumption|exact nf (by assumption)|exact nt (by assumption)|((try simp only[ay]);first|(simp[];done)|(simp[];omega))) ?_|refine aX.yes (by first|rfl|assumption|exact nf (by assumption)|exact nt (by assumption)|((try simp only[ay]);first|(simp[];done)|(simp[];omega))) ?_)|((with_reducible show bE _ _ _ _);refine bE.mk (by(try simp only[ay]);omega) ?_)|((with_reducible show aI _ _ _ _);refine aI.mk (by kernel_rfl) (by kernel_rfl) (by kernel_rfl) ?_))<;>((with_reducible conv=>whnf);(with_reducible conv=>congr<;>reduce);repeat((first|(with_reducible refine bK.mk ?_)|(with_reducible refine bL.mk ?_));(with_reducible conv=>whnf);(with_reducible conv=>congr<;>reduce)))|((with_reducible show(_∧_)∧_∧_);refine⟨⟨rfl,rfl⟩,?_,?_⟩<;>(with_reducible conv=>whnf)<;>repeat' (first|(with_reducible exact trivial)|(with_reducible refine And.intro ?_ ?_<;>with_reducible conv=>whnf))))
    all_goals have ho':U.bT l l.length n=out:=by rw[ho];simp[U.rest]
    all_goals clear ho hoL
    all_goals subst ho'
    all_goals first|rfl|exact bP (aa _)
  · have ht :=hst t (by simp)
    have hlen:(st'++ [t]).length=st'.length+1:=by simp
    obtain⟨k,x,rfl,hx,hnx⟩:=aU.1 ht
    rw[hlen]
    rw[hlen] at hrl
    repeat' (first|(first|((with_reducible show aX _ _ _ _);first|refine aX.ff ?_|refine aX.tt ?_|refine aX.no (by first|rfl|assumption|exact nf (by assumption)|exact nt (by assumption)|((try simp only[ay]);first|(simp[];done)|(simp[];omega))) ?_|refine aX.yes (by first|rfl|assumption|exact nf (by assumption)|exact nt (by assumption)|((try simp only[ay]);first|(simp[];done)|(simp[];omega))) ?_)|((with_reducible show bE _ _ _ _);refine bE.mk (by(try simp only[ay]);omega) ?_)|((with_reducible show aI _ _ _ _);refine aI.mk (by kernel_rfl) (by kernel_rfl) (by kernel_rfl) ?_))<;>((with_reducible conv=>whnf);(with_reducible conv=>congr<;>reduce);repeat((first|(with_reducible refine bK.mk ?_)|(with_reducible refine bL.mk ?_));(with_reducible conv=>whnf);(with_reducible conv=>congr<;>reduce)))|((with_reducible show(_∧_)∧_∧_);refine⟨⟨rfl,rfl⟩,?_,?_⟩<;>(with_reducible conv=>whnf)<;>repeat' (first|(with_reducible exact trivial)|(with_reducible refine And.intro ?_ ?_<;>with_reducible conv=>whnf))))
    refine ee.mk st'.length (by(try simp only[ay]);omega) (by omega) ?_;((with_reducible conv=>whnf);(with_reducible conv=>congr<;>reduce);repeat((first|(with_reducible refine bK.mk ?_)|(with_reducible refine bL.mk ?_));(with_reducible conv=>whnf);(with_reducible conv=>congr<;>reduce)))
    refine aT.mk (ah (k:Int)) (by rw[Nat.zero_add,fI,List.append_assoc,List.getElem?_append_right (Nat.le_refl _),Nat.sub_self];rfl) ?_;((with_reducible conv=>whnf);(with_reducible conv=>congr<;>reduce);repeat((first|(with_reducible refine bK.mk ?_)|(with_reducible refine bL.mk ?_));(with_reducible conv=>whnf);(with_reducible conv=>congr<;>reduce)))
    repeat' (first|(first|((with_reducible show aX _ _ _ _);first|refine aX.ff ?_|refine aX.tt ?_|refine aX.no (by first|rfl|assumption|exact nf (by assumption)|exact nt (by assumption)|((try simp only[ay]);first|(simp[];done)|(simp[];omega))) ?_|refine aX.yes (by first|rfl|assumption|exact nf (by assumption)|exact nt (by assumption)|((try simp only[ay]);first|(simp[];done)|(simp[];omega))) ?_)|((with_reducible show bE _ _ _ _);refine bE.mk (by(try simp only[ay]);omega) ?_)|((with_reducible show aI _ _ _ _);refine aI.mk (by kernel_rfl) (by kernel_rfl) (by kernel_rfl) ?_))<;>((with_reducible conv=>whnf);(with_reducible conv=>congr<;>reduce);repeat((first|(with_reducible refine bK.mk ?_)|(with_reducible refine bL.mk ?_));(with_reducible conv=>whnf);(with_reducible conv=>congr<;>reduce)))|((with_reducible show(_∧_)∧_∧_);refine⟨⟨rfl,rfl⟩,?_,?_⟩<;>(with_reducible conv=>whnf)<;>repeat' (first|(with_reducible exact trivial)|(with_reducible refine And.intro ?_ ?_<;>with_reducible conv=>whnf))))
    refine A0.mk 0 st'.length rfl (by(try simp only[ay]);omega) (by omega) ?_;((with_reducible conv=>whnf);(with_reducible conv=>congr<;>reduce);repeat((first|(with_reducible refine bK.mk ?_)|(with_reducible refine bL.mk ?_));(with_reducible conv=>whnf);(with_reducible conv=>congr<;>reduce)))
    repeat' (first|(first|((with_reducible show aX _ _ _ _);first|refine aX.ff ?_|refine aX.tt ?_|refine aX.no (by first|rfl|assumption|exact nf (by assumption)|exact nt (by assumption)|((try simp only[ay]);first|(simp[];done)|(simp[];omega))) ?_|refine aX.yes (by first|rfl|assumption|exact nf (by assumption)|exact nt (by assumption)|((try simp only[ay]);first|(simp[];done)|(simp[];omega))) ?_)|((with_reducible show bE _ _ _ _);refine bE.mk (by(try simp only[ay]);omega) ?_)|((with_reducible show aI _ _ _ _);refine aI.mk (by kernel_rfl) (by kernel_rfl) (by kernel_rfl) ?_))<;>((with_reducible conv=>whnf);(with_reducible conv=>congr<;>reduce);repeat((first|(with_reducible refine bK.mk ?_)|(with_reducible refine bL.mk ?_));(with_reducible conv=>whnf);(with_reducible conv=>congr<;>reduce)))|((with_reducible show(_∧_)∧_∧_);refine⟨⟨rfl,rfl⟩,?_,?_⟩<;>(with_reducible conv=>whnf)<;>repeat' (first|(with_reducible exact trivial)|(with_reducible refine And.intro ?_ ?_<;>with_reducible conv=>whnf))))
    refine iT.mk (out.map bU) [ah (k:Int)] ⟨rfl,hol',rfl⟩ ⟨rfl,rfl,rfl⟩ rfl (by simp;omega) (by simp;omega) ?_;((with_reducible conv=>whnf);(with_reducible conv=>congr<;>reduce);repeat((first|(with_reducible refine bK.mk ?_)|(with_reducible refine bL.mk ?_));(with_reducible conv=>whnf);(with_reducible conv=>congr<;>reduce)))
    repeat' (first|(first|((with_reducible show aX _ _ _ _);first|refine aX.ff ?_|refine aX.tt ?_|refine aX.no (by first|rfl|assumption|exact nf (by assumption)|exact nt (by assumption)|((try simp only[ay]);first|(simp[];done)|(simp[];omega))) ?_|refine aX.yes (by first|rfl|assumption|exact nf (by assumption)|exact nt (by assumption)|((try simp only[ay]);first|(simp[];done)|(simp[];omega))) ?_)|((with_reducible show bE _ _ _ _);refine bE.mk (by(try simp only[ay]);omega) ?_)|((with_reducible show aI _ _ _ _);refine aI.mk (by kernel_rfl) (by kernel_rfl) (by kernel_rfl) ?_))<;>((with_reducible conv=>whnf);(with_reducible conv=>congr<;>reduce);repeat((first|(with_reducible refine bK.mk ?_)|(with_reducible refine bL.mk ?_));(with_reducible conv=>whnf);(with_reducible conv=>congr<;>reduce)))|((with_reducible show(_∧_)∧_∧_);refine⟨⟨rfl,rfl⟩,?_,?_⟩<;>(with_reducible conv=>whnf)<;>repeat' (first|(with_reducible exact trivial)|(with_reducible refine And.intro ?_ ?_<;>with_reducible conv=>whnf))))
    obtain⟨a1,a2,a3,a4,a5,a6,a7,a8,a9,a10⟩:=x
    refine bg.mk k (aP ⟨a1,a2,a3,a4,a5,a6,a7,a8,a9,a10⟩) rfl (aB hx) ?_;((with_reducible conv=>whnf);(with_reducible conv=>congr<;>reduce);repeat((first|(with_reducible refine bK.mk ?_)|(with_reducible refine bL.mk ?_));(with_reducible conv=>whnf);(with_reducible conv=>congr<;>reduce)))
    repeat' (first|(first|((with_reducible show aX _ _ _ _);first|refine aX.ff ?_|refine aX.tt ?_|refine aX.no (by first|rfl|assumption|exact nf (by assumption)|exact nt (by assumption)|((try simp only[ay]);first|(simp[];done)|(simp[];omega))) ?_|refine aX.yes (by first|rfl|assumption|exact nf (by assumption)|exact nt (by assumption)|((try simp only[ay]);first|(simp[];done)|(simp[];omega))) ?_)|((with_reducible show bE _ _ _ _);refine bE.mk (by(try simp only[ay]);omega) ?_)|((with_reducible show aI _ _ _ _);refine aI.mk (by kernel_rfl) (by kernel_rfl) (by kernel_rfl) ?_))<;>((with_reducible conv=>whnf);(with_reducible conv=>congr<;>reduce);repeat((first|(with_reducible refine bK.mk ?_)|(with_reducible refine bL.mk ?_));(with_reducible conv=>whnf);(with_reducible conv=>congr<;>reduce)))|((with_reducible show(_∧_)∧_∧_);refine⟨⟨rfl,rfl⟩,?_,?_⟩<;>(with_reducible conv=>whnf)<;>repeat' (first|(with_reducible exact trivial)|(with_reducible refine And.intro ?_ ?_<;>with_reducible conv=>whnf))))
    refine af.val [] (Gw a7) L4 ⟨rfl,trivial⟩ rfl rfl rfl ?_;((with_reducible conv=>whnf);(with_reducible conv=>congr<;>reduce);repeat((first|(with_reducible refine bK.mk ?_)|(with_reducible refine bL.mk ?_));(with_reducible conv=>whnf);(with_reducible conv=>congr<;>reduce)))
    repeat' (first|(first|((with_reducible show aX _ _ _ _);first|refine aX.ff ?_|refine aX.tt ?_|refine aX.no (by first|rfl|assumption|exact nf (by assumption)|exact nt (by assumption)|((try simp only[ay]);first|(simp[];done)|(simp[];omega))) ?_|refine aX.yes (by first|rfl|assumption|exact nf (by assumption)|exact nt (by assumption)|((try simp only[ay]);first|(simp[];done)|(simp[];omega))) ?_)|((with_reducible show bE _ _ _ _);refine bE.mk (by(try simp only[ay]);omega) ?_)|((with_reducible show aI _ _ _ _);refine aI.mk (by kernel_rfl) (by kernel_rfl) (by kernel_rfl) ?_))<;>((with_reducible conv=>whnf);(with_reducible conv=>congr<;>reduce);repeat((first|(with_reducible refine bK.mk ?_)|(with_reducible refine bL.mk ?_));(with_reducible conv=>whnf);(with_reducible conv=>congr<;>reduce)))|((with_reducible show(_∧_)∧_∧_);refine⟨⟨rfl,rfl⟩,?_,?_⟩<;>(with_reducible conv=>whnf)<;>repeat' (first|(with_reducible exact trivial)|(with_reducible refine And.intro ?_ ?_<;>with_reducible conv=>whnf))))
    obtain⟨spF,hs0,hs1⟩:∃spF:Nat→List Int,spF 0=(k:Int)::sp∧∀j,spF (j+1)=[]:=⟨fun j=>match j with|0=>(k:Int)::sp|_+1=>[],rfl,fun _=>rfl⟩
    have hk7:=hs.kids _ (bO hx)
    simp only at hk7
    refine bX.range G au 4 [(2,.ptr 1 0 0),(5,.own 3 0 (out.length+1)),(6,.ptr 0 0 0),(9,.ptr 2 0 0),(43,.clo (.func 193) [] [.fptr (cN a7) 0])]
      (fun j=>[(0,.live 1 [.own 181 0 (st'.length+j)] false),(1,.live 2 [aM ⟨l,m⟩] false),(2,.live 10 [aP ⟨a1,a2,a3,a4,a5,a6,a7,a8,a9,a10⟩] false),(3,jW (out++ [(k:Int)])),(181,jW (st'++a7.reverse.take j++spF j))])
      (HD a7 (by omega)) LS ?_ rfl ⟨⟨rfl,rfl⟩,rfl⟩ (fun _ _=>rfl) (fun _ _=>rfl) ⟨⟨rfl,rfl⟩,rfl,rfl⟩ ?_ ?_
    · refine⟨⟨rfl,rfl⟩,?_⟩
      (with_reducible conv=>whnf)
      repeat' (first|(with_reducible exact trivial)|(with_reducible refine And.intro ?_ ?_<;>with_reducible conv=>whnf))
      all_goals try rfl
      ·simp
      ·exact⟨.refl rfl,rfl⟩
      ·exact⟨.refl rfl,rfl⟩
      · refine⟨?_,aa _⟩
        rw[←show(out++ [(k:Int)]).map bU=out.map bU++ [AV.lit (.int .i64 k)] by simp;rfl]
        exact .refl (aa _)
      · refine⟨?_,aa _⟩
        rw[hs0,List.take_zero,List.append_nil,show st'++ [(k:Int)]++sp=st'++ (k:Int)::sp by simp];exact .refl (aa _)
    · intro j hj
      ((with_reducible conv=>whnf);(with_reducible conv=>congr<;>reduce);repeat((first|(with_reducible refine bK.mk ?_)|(with_reducible refine bL.mk ?_));(with_reducible conv=>whnf);(with_reducible conv=>congr<;>reduce)))
      refine Bp.mk rfl ?_;((with_reducible conv=>whnf);(with_reducible conv=>congr<;>reduce);repeat((first|(with_reducible refine bK.mk ?_)|(with_reducible refine bL.mk ?_));(with_reducible conv=>whnf);(with_reducible conv=>congr<;>reduce)))
      repeat' (first|(first|((with_reducible show aX _ _ _ _);first|refine aX.ff ?_|refine aX.tt ?_|refine aX.no (by first|rfl|assumption|exact nf (by assumption)|exact nt (by assumption)|((try simp only[ay]);first|(simp[];done)|(simp[];omega))) ?_|refine aX.yes (by first|rfl|assumption|exact nf (by assumption)|exact nt (by assumption)|((try simp only[ay]);first|(simp[];done)|(simp[];omega))) ?_)|((with_reducible show bE _ _ _ _);refine bE.mk (by(try simp only[ay]);omega) ?_)|((with_reducible show aI _ _ _ _);refine aI.mk (by kernel_rfl) (by kernel_rfl) (by kernel_rfl) ?_))<;>((with_reducible conv=>whnf);(with_reducible conv=>congr<;>reduce);repeat((first|(with_reducible refine bK.mk ?_)|(with_reducible refine bL.mk ?_));(with_reducible conv=>whnf);(with_reducible conv=>congr<;>reduce)))|((with_reducible show(_∧_)∧_∧_);refine⟨⟨rfl,rfl⟩,?_,?_⟩<;>(with_reducible conv=>whnf)<;>repeat' (first|(with_reducible exact trivial)|(with_reducible refine And.intro ?_ ?_<;>with_reducible conv=>whnf))))
      refine iT.take ((st'++a7.reverse.take j).map bU) [bU ((a7.reverse[j]?).getD 0)] ⟨rfl,by simp;omega,by rw[iq (l₂:=spF j),List.take_left' (by simp;omega)]⟩ ⟨rfl,rfl,rfl⟩ rfl (by simp;omega) (by simp;omega) ?_
      ((with_reducible conv=>whnf);(with_reducible conv=>congr<;>reduce);repeat((first|(with_reducible refine bK.mk ?_)|(with_reducible refine bL.mk ?_));(with_reducible conv=>whnf);(with_reducible conv=>congr<;>reduce)))
      repeat' (first|(first|((with_reducible show aX _ _ _ _);first|refine aX.ff ?_|refine aX.tt ?_|refine aX.no (by first|rfl|assumption|exact nf (by assumption)|exact nt (by assumption)|((try simp only[ay]);first|(simp[];done)|(simp[];omega))) ?_|refine aX.yes (by first|rfl|assumption|exact nf (by assumption)|exact nt (by assumption)|((try simp only[ay]);first|(simp[];done)|(simp[];omega))) ?_)|((with_reducible show bE _ _ _ _);refine bE.mk (by(try simp only[ay]);omega) ?_)|((with_reducible show aI _ _ _ _);refine aI.mk (by kernel_rfl) (by kernel_rfl) (by kernel_rfl) ?_))<;>((with_reducible conv=>whnf);(with_reducible conv=>congr<;>reduce);repeat((first|(with_reducible refine bK.mk ?_)|(with_reducible refine bL.mk ?_));(with_reducible conv=>whnf);(with_reducible conv=>congr<;>reduce)))|((with_reducible show(_∧_)∧_∧_);refine⟨⟨rfl,rfl⟩,?_,?_⟩<;>(with_reducible conv=>whnf)<;>repeat' (first|(with_reducible exact trivial)|(with_reducible refine And.intro ?_ ?_<;>with_reducible conv=>whnf))))
      refine Bz.mk ?_
      obtain⟨c,hc⟩:∃c,a7.reverse[j]? =some c:=⟨_,bD (by simpa using hj)⟩
      have htk:a7.reverse.take (j+1)=a7.reverse.take j++ [c]:=by rw[List.take_add_one,hc];rfl
      rw[hc,Option.getD_some]
      refine⟨⟨rfl,rfl⟩,?_⟩
      (with_reducible conv=>whnf)
      repeat' (first|(with_reducible exact trivial)|(with_reducible refine And.intro ?_ ?_<;>with_reducible conv=>whnf))
      all_goals try rfl
      ·simp;omega
      ·exact⟨.refl rfl,rfl⟩
      ·exact⟨.refl rfl,rfl⟩
      ·exact⟨.refl (aa _),aa _⟩
      · refine⟨?_,aa _⟩
        rw[hs1,htk,List.append_nil,←List.append_assoc,iq (l₂:=[c])];exact .refl (by rw[←iq];exact aa _)
    · ((with_reducible conv=>whnf);(with_reducible conv=>congr<;>reduce);repeat((first|(with_reducible refine bK.mk ?_)|(with_reducible refine bL.mk ?_));(with_reducible conv=>whnf);(with_reducible conv=>congr<;>reduce)))
      refine aT.mk (aP ⟨a1,a2,a3,a4,a5,a6,a7,a8,a9,a10⟩) rfl ?_;((with_reducible conv=>whnf);(with_reducible conv=>congr<;>reduce);repeat((first|(with_reducible refine bK.mk ?_)|(with_reducible refine bL.mk ?_));(with_reducible conv=>whnf);(with_reducible conv=>congr<;>reduce)))
      have hT:nd l k=⟨a1,a2,a3,a4,a5,a6,a7,a8,a9,a10⟩:=hnx
      have hch:CY (nd l k)=(if a9=-1 then[] else[a9])++a7:=by rw[hT];rfl
      have hpop:=U.yL T (st:=st') ht
      rw[hch] at hpop
      have hkid:∀c∈ (if a9=-1 then[] else[a9])++a7,ae l c=true:=fun c hc=>(T.kid k ht c (by rw[hch];exact hc)).1
      have hta:a7.reverse.take a7.length=a7.reverse:=qL (by simp)
      by_cases e9:a9=-1
      · subst e9
        rw[if_pos rfl,List.nil_append] at hpop hkid
        repeat' (first|(first|((with_reducible show aX _ _ _ _);first|refine aX.ff ?_|refine aX.tt ?_|refine aX.no (by first|rfl|assumption|exact nf (by assumption)|exact nt (by assumption)|((try simp only[ay]);first|(simp[];done)|(simp[];omega))) ?_|refine aX.yes (by first|rfl|assumption|exact nf (by assumption)|exact nt (by assumption)|((try simp only[ay]);first|(simp[];done)|(simp[];omega))) ?_)|((with_reducible show bE _ _ _ _);refine bE.mk (by(try simp only[ay]);omega) ?_)|((with_reducible show aI _ _ _ _);refine aI.mk (by kernel_rfl) (by kernel_rfl) (by kernel_rfl) ?_))<;>((with_reducible conv=>whnf);(with_reducible conv=>congr<;>reduce);repeat((first|(with_reducible refine bK.mk ?_)|(with_reducible refine bL.mk ?_));(with_reducible conv=>whnf);(with_reducible conv=>congr<;>reduce)))|((with_reducible show(_∧_)∧_∧_);refine⟨⟨rfl,rfl⟩,?_,?_⟩<;>(with_reducible conv=>whnf)<;>repeat' (first|(with_reducible exact trivial)|(with_reducible refine And.intro ?_ ?_<;>with_reducible conv=>whnf))))
        refine bR.mk (out++ [(k:Int)],st'++a7.reverse,spF a7.length) ⟨?_,?_⟩ ?_ ?_
        ·rw[ho,hpop];simp
        · intro c hc
          rcases List.mem_append.1 hc with h|h
          ·exact hst c (by simp[h])
          ·exact hkid c (by simpa using h)
        ·simp only[kf,List.length_singleton];omega
        · refine⟨⟨rfl,rfl⟩,?_⟩
          (with_reducible conv=>whnf)
          repeat' (first|(with_reducible exact trivial)|(with_reducible refine And.intro ?_ ?_<;>with_reducible conv=>whnf))
          all_goals try rfl
          ·simp
          ·exact⟨.refl (aa _),aa _⟩
          ·simp
          · refine⟨?_,aa _⟩
            rw[hta];exact .refl (aa _)
      · rw [if_neg e9] at hpop hkid
        repeat' (first|(first|((with_reducible show aX _ _ _ _);first|refine aX.ff ?_|refine aX.tt ?_|refine aX.no (by first|rfl|assumption|exact nf (by assumption)|exact nt (by assumption)|((try simp only[ay]);first|(simp[e9];done)|(simp[e9];omega))) ?_|refine aX.yes (by first|rfl|assumption|exact nf (by assumption)|exact nt (by assumption)|((try simp only[ay]);first|(simp[e9];done)|(simp[e9];omega))) ?_)|((with_reducible show bE _ _ _ _);refine bE.mk (by(try simp only[ay]);omega) ?_)|((with_reducible show aI _ _ _ _);refine aI.mk (by kernel_rfl) (by kernel_rfl) (by kernel_rfl) ?_))<;>((with_reducible conv=>whnf);(with_reducible conv=>congr<;>reduce);repeat((first|(with_reducible refine bK.mk ?_)|(with_reducible refine bL.mk ?_));(with_reducible conv=>whnf);(with_reducible conv=>congr<;>reduce)))|((with_reducible show(_∧_)∧_∧_);refine⟨⟨rfl,rfl⟩,?_,?_⟩<;>(with_reducible conv=>whnf)<;>repeat' (first|(with_reducible exact trivial)|(with_reducible refine And.intro ?_ ?_<;>with_reducible conv=>whnf))))
        refine aT.mk (aP ⟨a1,a2,a3,a4,a5,a6,a7,a8,a9,a10⟩) rfl ?_;((with_reducible conv=>whnf);(with_reducible conv=>congr<;>reduce);repeat((first|(with_reducible refine bK.mk ?_)|(with_reducible refine bL.mk ?_));(with_reducible conv=>whnf);(with_reducible conv=>congr<;>reduce)))
        repeat' (first|(first|((with_reducible show aX _ _ _ _);first|refine aX.ff ?_|refine aX.tt ?_|refine aX.no (by first|rfl|assumption|exact nf (by assumption)|exact nt (by assumption)|((try simp only[ay]);first|(simp[e9];done)|(simp[e9];omega))) ?_|refine aX.yes (by first|rfl|assumption|exact nf (by assumption)|exact nt (by assumption)|((try simp only[ay]);first|(simp[e9];done)|(simp[e9];omega))) ?_)|((with_reducible show bE _ _ _ _);refine bE.mk (by(try simp only[ay]);omega) ?_)|((with_reducible show aI _ _ _ _);refine aI.mk (by kernel_rfl) (by kernel_rfl) (by kernel_rfl) ?_))<;>((with_reducible conv=>whnf);(with_reducible conv=>congr<;>reduce);repeat((first|(with_reducible refine bK.mk ?_)|(with_reducible refine bL.mk ?_));(with_reducible conv=>whnf);(with_reducible conv=>congr<;>reduce)))|((with_reducible show(_∧_)∧_∧_);refine⟨⟨rfl,rfl⟩,?_,?_⟩<;>(with_reducible conv=>whnf)<;>repeat' (first|(with_reducible exact trivial)|(with_reducible refine And.intro ?_ ?_<;>with_reducible conv=>whnf))))
        refine iT.take ((st'++a7.reverse).map bU) [ah a9] ⟨rfl,by simp,by rw[hta,iq (l₂:=spF a7.length),List.take_left' (by simp)]⟩ ⟨rfl,rfl,rfl⟩ rfl (by simp;omega) (by simp;omega) ?_
        ((with_reducible conv=>whnf);(with_reducible conv=>congr<;>reduce);repeat((first|(with_reducible refine bK.mk ?_)|(with_reducible refine bL.mk ?_));(with_reducible conv=>whnf);(with_reducible conv=>congr<;>reduce)))
        repeat' (first|(first|((with_reducible show aX _ _ _ _);first|refine aX.ff ?_|refine aX.tt ?_|refine aX.no (by first|rfl|assumption|exact nf (by assumption)|exact nt (by assumption)|((try simp only[ay]);first|(simp[e9];done)|(simp[e9];omega))) ?_|refine aX.yes (by first|rfl|assumption|exact nf (by assumption)|exact nt (by assumption)|((try simp only[ay]);first|(simp[e9];done)|(simp[e9];omega))) ?_)|((with_reducible show bE _ _ _ _);refine bE.mk (by(try simp only[ay]);omega) ?_)|((with_reducible show aI _ _ _ _);refine aI.mk (by kernel_rfl) (by kernel_rfl) (by kernel_rfl) ?_))<;>((with_reducible conv=>whnf);(with_reducible conv=>congr<;>reduce);repeat((first|(with_reducible refine bK.mk ?_)|(with_reducible refine bL.mk ?_));(with_reducible conv=>whnf);(with_reducible conv=>congr<;>reduce)))|((with_reducible show(_∧_)∧_∧_);refine⟨⟨rfl,rfl⟩,?_,?_⟩<;>(with_reducible conv=>whnf)<;>repeat' (first|(with_reducible exact trivial)|(with_reducible refine And.intro ?_ ?_<;>with_reducible conv=>whnf))))
        refine bR.mk (out++ [(k:Int)],st'++a7.reverse++ [a9],[]) ⟨?_,?_⟩ ?_ ?_
        ·rw[ho,hpop];simp
        · intro c hc
          rcases List.mem_append.1 hc with h|h
          · rcases List.mem_append.1 h with h|h
            ·exact hst c (by simp[h])
            ·exact hkid c (by simp at h;simp[h])
          ·exact hkid c (by simp at h;simp[h])
        ·simp only[kf,List.length_singleton];omega
        · refine⟨⟨rfl,rfl⟩,?_⟩
          (with_reducible conv=>whnf)
          repeat' (first|(with_reducible exact trivial)|(with_reducible refine And.intro ?_ ?_<;>with_reducible conv=>whnf))
          all_goals try rfl
          ·simp
          ·exact⟨.refl (aa _),aa _⟩
          ·simp
          · refine⟨?_,aa _⟩
            rw[List.append_nil,iq (l₂:=[a9])];exact .refl (by rw[←iq];exact aa _)
end Go.Proofs.Heir
namespace Go.Proofs.Heir
open Go.Am Go.RowKit Go.Lib
set_option maxRecDepth 100000
set_option maxHeartbeats 8000000
theorem An (w:World)(ty:TypeId)(b o n c:Nat)(e:TypeId)(C:Array Value)(h:w.heap[b]? =some (.cells C e (0,0)))(hn:0<n)(hl:o+n≤C.size):
    ∃C',(Builtin.clear_ #[33] ty #[.slice (some ⟨b,o,none⟩) n c]).run Tryz.prog w=.ok (.tuple #[]) (w.setRow b C')∧C'.size=C.size∧∀q,q<o→C'[q]? =C[q]? :=by
  obtain⟨Z,hZ⟩:∃Z:List Value,(Builtin.zeroCells (Value.int .i64 0).cells n).toList=Z:=⟨_,rfl⟩
  have hsz:Z.length=n:=by
    rw[←hZ,Array.length_toList,size_zeroCells];exact Nat.mul_one n
  have hone:∀v∈Z,v.oneCell'=true:=by
    intro v hv
    rw[←hZ,Array.mem_toList_iff,Builtin.zeroCells,Array.mem_map] at hv
    obtain⟨i,_,rfl⟩:=hv
    show(#[Value.int .i64 0][i%1]!).oneCell'=true
    rw[Nat.mod_one];rfl
  have hst:=run_storeCells_at (P:=Tryz.prog) b o e Z 0 C w h (by rw[hsz];omega) hone
  rw[Nat.add_zero] at hst
  refine⟨(C.toList.take o++Z++C.toList.drop (o+Z.length)).toArray,?_,?_,?_⟩
  · obtain⟨m,rfl⟩:∃m,n=m+1:=⟨n-1,by omega⟩
    have hu:=Tryz.underlying33
    have hz:=Tryz.zeroValue3
    simp[Builtin.clear_,run_underlying hu,hz,hZ,hst]
  ·simp[hsz];omega
  · intro q hq
    simp only[List.getElem?_toArray]
    rw[List.append_assoc,List.getElem?_append_left (by simp;omega),List.getElem?_take,if_pos hq,Array.getElem?_toList]
theorem Ab (blk off cap n i j:Nat)(C:Array Value)(e:TypeId)(w:World)(hC:w.heap[blk]? =some (.cells C e (0,0)))(hfit:off+cap≤C.size)(hn:n≤cap)(hij:i<j)(hj:j≤n)
    (hone:∀q v,q<n→C[off+q]? =some v→v.oneCell'=true):
    Calls Tryz.prog 145 #[.slice (some ⟨blk,off,none⟩) n cap,.int .i64 i,.int .i64 j] w fun e' w'=>e'=.returned (.slice (some ⟨blk,off,none⟩) (i+ (n-j)) cap)∧
      ∃C',w'=w.drew.setRow blk C'∧C'.size=C.size∧∀q,q< (i+ (n-j))→C'[off+q]? =if q<i then C[off+q]? else C[off+q+ (j-i)]? :=by
  obtain⟨news,hnews⟩:∃news,news=(C.toList.drop (off+j)).take ((n-j)):=⟨_,rfl⟩
  have hCl:C.toList.length=C.size:=Array.length_toList
  have hlen:news.length=(n-j):=by rw[hnews,gh,List.length_drop,hCl];omega
  have hget:∀t,t< (n-j)→news[t]? =C[off+j+t]? :=by
    intro t ht
    rw[hnews,List.getElem?_take,if_pos ht,List.getElem?_drop,Array.getElem?_toList]
  have hcell:∀q,w.drew.cell? ⟨blk,q,none⟩=C[q]? :=fun q=>by
    show w.cell? _=_
    simp[World.cell?,hC]
  obtain ⟨A,hA,hsrc⟩:∃A:Addr,(if cap=j then some (⟨blk,off,none⟩:Addr) else some ⟨blk,off+j,none⟩)=some A∧Hid (∀t u,news[t]? =some u→w.drew.cell? (A.add t)=some u):=by
    by_cases h:cap=j
    · refine⟨⟨blk,off,none⟩,by simp[h],fun t u hu=>?_⟩
      have h0:news.length=0:=by rw[hlen];omega
      rw[List.length_eq_zero_iff.1 h0] at hu
      simp at hu
    · refine⟨⟨blk,off+j,none⟩,by simp[h],fun t u hu=>?_⟩
      have ht:t< (n-j):=by
        have:=(aY hu).1
        rwa [hlen] at this
      rw[hget t ht] at hu
      rw[Addr.add_lit,hcell]
      exact hu
  have s1:Hid (news.length=(n-j)):=hlen
  have s2:Hid (∀u∈news,u.oneCell'=true):=by
    intro u hu
    obtain⟨t,ht⟩:=List.getElem?_of_mem hu
    have hlt:=(aY ht).1
    rw[hlen] at hlt
    rw[hget t hlt,Nat.add_assoc] at ht
    exact hone _ u (by omega) ht
  have s3:Hid (∀t,t<news.length→(w.drew.cell? ⟨blk,off+i+t,none⟩).isSome=true∧w.drew.frozen? ⟨blk,off+i+t,none⟩=false):=by
    intro t ht
    rw[hlen] at ht
    refine⟨?_,?_⟩
    ·rw[hcell,Array.getElem?_eq_getElem (by omega)];rfl
    · show w.frozen? _=false
      simp[World.frozen?,hC]
  obtain⟨C1,hC1,hC1s,hC1q⟩:=fj blk e (0,0) news (off+i) C w.drew hC (by rw[hlen];omega)
  obtain⟨W1,hW1⟩:∃W1,W1=w.drew.setCells blk (off+i) news:=⟨_,rfl⟩
  have hW1h:W1.heap[blk]? =some (.cells C1 e (0,0)):=by rw[hW1,hC1];exact setRow_heap w.drew blk C C1 e (0,0) hC
  obtain⟨C2,hcl0,hC2s,hC2q⟩:=An W1 0 blk (off+ (i+ (n-j))) (n- (i+ (n-j))) (cap- (i+ (n-j))) e C1 hW1h (by omega) (by omega)
  have hcl:∀ty,(Builtin.clear_ #[33] ty #[.slice (some ⟨blk,off+ (i+ (n-j)),none⟩) (n- (i+ (n-j))) (cap- (i+ (n-j)))]).run Tryz.prog W1=.ok (.tuple #[]) (W1.setRow blk C2):=fun ty=>hcl0
  have hW:Hid (W1=w.drew.setCells blk (off+i) news):=hW1
  have hfin:Hid (W1.setRow blk C2=w.drew.setRow blk C2∧C2.size=C.size∧∀q,q< (i+ (n-j))→C2[off+q]? =if q<i then C[off+q]? else C[off+q+ (j-i)]?):=by
    refine⟨by rw[hW1,hC1,setRow_setRow],by omega,fun q hq=>?_⟩
    rw[hC2q _ (by omega),hC1q,hlen]
    by_cases h:q<i
    ·rw[if_pos h,if_neg (by omega)]
    · rw[if_neg h,if_pos (by omega),hget _ (by omega)]
      congr 1;omega
  have hic:i≤cap:=by omega
  have hjc:j≤cap:=by omega
  obtain⟨i0,hi0,hz1⟩:∃i0,Tryz.prog.info? 3=some i0∧i0.size=1:=⟨(Tryz.prog.info? 3).getD default,by kernel_rfl,by kernel_rfl⟩
  clear hW1 hW1h hC1 hC1s hC1q hC2s hC2q hcl0 hget hcell hnews hlen hone hC hCl
  have mixed:Tryz.prog.follows Departure.mixedOrders=true:=by kernel_rfl
  go_enter Tryz.func145,Tryz.ntmps145
  go_wp2_with fail
  go_region_law_o (refine step_append_room rfl (.tmp 22) (.tmp 25) 33 rfl 3 i0 1 Tryz.underlying33 hi0 hz1 blk off i cap (by simp[Act.eval,Act.put]) A (n-j) (cap-j) news (by simp[Act.eval,Act.put]) (by rw[Nat.mul_one];exact s1.out) hsrc.out s2.out (by omega) (by simpa only[Nat.mul_one] using s3.out) ?_;rw[show off+i*1=off+i from by rw[Nat.mul_one],←hW.out])
  go_wp2
  go_ret
  exact⟨rfl,C2,hfin.out⟩
theorem tN {rows:List AV}(hone:kP (flat rows)=true)(i j:Nat)(hij:i<j)(hj:j≤rows.length):
    ak Tryz.prog 145 [.live 1 rows false] [.own 0 0 rows.length,ah i,ah j] [.dead,.live 1 (rows.take i++rows.drop j) false] (.own 1 0 (i+ (rows.length-j))):=by
  intro w W0 L vs hL hs hr
  obtain⟨v0,v1,v2,rfl⟩:∃v0 v1 v2,vs=[v0,v1,v2]:=by
    have:=hr.1
    match vs,this with
    |[a,b,c],_=>exact⟨a,b,c,rfl⟩
  have h1:=hr.2 1 _ v1 rfl rfl
  have h2:=hr.2 2 _ v2 rfl rfl
  cases h1;cases h2
  have h0:=hr.2 0 _ v0 rfl rfl
  obtain⟨B,hB,hobj⟩:=hs.objs 0 1 rows false rfl
  generalize hn:rows.length=n at h0
  cases h0 with
  |ownNil a1=>omega
  | @own _ _ _ cap e' n' B' a1 av ap a2 a3 a4=>
    rw[hB] at a1;cases a1
    subst hn
    obtain⟨C,e,fz,c1,c2,c3⟩:=hobj.blk av ap
    rw[c2 rfl] at c1
    have hwd:=hobj.width
    have hn':C.size=n':=by simp[World.shape?,c1] at a3;exact a3.2
    rw[hwd,Nat.zero_mul,Nat.add_zero]
    rw[hwd,Nat.zero_add] at a4
    have hfl:=cM hobj.wide
    have hcell:∀ (q:Nat) (c:AV),(flat rows)[q]? =some c→∃v,C[B.o+q]? =some v∧cE (Wr W0 L (aG [.live 1 rows false])) L w c v:=fun q c hq=>by
      obtain⟨v,k1,k2⟩:=hobj.cell ap q c hq
      exact⟨v,by simpa[World.cell?,c1] using k1,k2⟩
    refine(Ab B.b B.o cap rows.length i j C e w c1 (by omega) a2 hij hj (fun q v hq hv=>?_)).mono ?_
    · obtain⟨v',k1,k2⟩:=hcell q _ (bD (by rw[hfl];omega))
      rw[hv] at k1;cases k1
      exact k2.one (List.all_eq_true.1 hone _ (List.getElem_mem _))
    · rintro e2 w' ⟨rfl,C',rfl,hsz,hq⟩
      have hwide:bG 1 (rows.take i++rows.drop j):=(hobj.wide.sub fun r hr=>List.mem_of_mem_take hr).append (hobj.wide.sub fun r hr=>List.mem_of_mem_drop hr)
      have hlen:(rows.take i++rows.drop j).length=i+ (rows.length-j):=by simp;omega
      have hre:=(hs.drawn (w.drawn+1)).reuse (t:=0) (tn:=1) (off:=0) (rows':=rows.take i++rows.drop j) (C':=C') rfl hB av rfl c1 hsz hwide (by rw[hlen];omega) (fun q c hc=>by
        rw[gM,kV hobj.wide,lz hobj.wide,List.getElem?_append,gh,hfl,Nat.min_eq_left (by omega)] at hc
        have hlt:=hq q
        rw[Nat.zero_mul,Nat.add_zero]
        split at hc
        · rename_i hql
          rw[List.getElem?_take,if_pos hql] at hc
          obtain⟨v,k1,k2⟩:=hcell q c hc
          exact⟨v,by rw[hq q (by omega),if_pos (by omega)];exact k1,k2.grow (Grow.drawn _)⟩
        · rename_i hql
          rw[List.getElem?_drop] at hc
          have hin:=(aY hc).1
          rw[hfl] at hin
          obtain⟨v,k1,k2⟩:=hcell _ c hc
          refine⟨v,?_,k2.grow (Grow.drawn _)⟩
          rw[hq q (by omega),if_neg (by omega),←k1]
          congr 1;omega)
      have hst:(⟨(bare [.live 1 rows false]).slots,bk (bare [.live 1 rows false]).mem [(1,.live 1 (rows.take i++rows.drop j) false),(0,.dead)]⟩:az)=bare [.dead,.live 1 (rows.take i++rows.drop j) false]:=by
        unfold bare
        congr 1
        funext t
        match t with
        |0=>rfl
        |1=>rfl
        |t+2=>simp[bk,aG]
      rw[hst] at hre
      refine⟨_,_,rfl,hre,?_⟩
      have:=cE.own (W:=Wr W0 (bq L 1 ⟨B.b,B.o+0,1,false,false⟩) (aG [.dead,.live 1 (rows.take i++rows.drop j) false])) (μ:=bq L 1 ⟨B.b,B.o+0,1,false,false⟩)
        (w:=w.drew.setRow B.b C') (t:=1) (off:=0) (len:=i+ (rows.length-j)) (cap:=cap) (e:=e) (n:=C.size) (B:=⟨B.b,B.o+0,1,false,false⟩) (by simp[bq]) rfl rfl (by omega)
        (by simp[World.shape?,setRow_heap w.drew B.b C C' e (0,0) c1,hsz]) (by simp only[Nat.zero_add];omega)
      simpa using this
end Go.Proofs.Heir
section
namespace Go.Proofs.Heir
open Go Go.Am Go.RowKit Go.Lib
set_option maxRecDepth 100000
set_option maxHeartbeats 8000000
@[reducible] def rQ : ByteArray := ⟨⟨[102, 111, 114, 109]⟩⟩
@[reducible] def L2 : ByteArray := ⟨⟨[105, 100]⟩⟩
def kK (x:ai):Bool:=decide (x.kind=1)&&decide (x.name=rQ)
def Hf (x:ai)(w:ByteArray):Option ByteArray:=if 0≤bV x.attrs w then some (nX x.attrs w) else none
def Kr (x:ai)(w:ByteArray):Option ByteArray:=if 0≤uN x.attrs w then some (((x.attrs[(uN x.attrs w).toNat]?).map AttrM.value).getD DS) else none
def jd (l:List ai)(q:Int→Bool)(n:Int):Int:=((bf l n).tail.find? q).getD (-1)
def vA (l:List ai)(n:Int):Int:=jd l (fun p=>kK (nd l p)) n
def IC (l:List ai)(n:Int):Int:=jd l (fun p=>decide ((nd l p).name=rQ)) n
def eU (l:List ai)(n:Int):Int:=((bf l n).getLast?).getD n
def wY (l:List ai)(r:Int)(v:ByteArray):Option Int:=(bT l l.length r).find? fun k=>decide (Hf (nd l k) L2=some v)
def Jv (l:List ai)(r:Int)(v:ByteArray):Option Int:=(bT l l.length r).find? fun k=>decide (Kr (nd l k) L2=some v)
def IT (l:List ai)(n:Int):Bool:=decide ((nd l (lS l n)).kind=0)
def KX (l:List ai)(n:Int)(v:ByteArray):Int:=
 match wY l (eU l n) v with
 |some k=>if v≠ ⟨#[]⟩∧kK (nd l k)=true then k else-1
 |none=> -1
def yd (l:List ai)(n:Int):Int:=
 if(nd l n).kind=1 then
  match Hf (nd l n) rQ with
  |some v=>if IT l n=true then KX l n v else vA l n
  |none=>vA l n
 else-1
def KL (l:List ai)(n:Int)(v:ByteArray):Int:=
 if v=⟨#[]⟩ then-1 else
 match Jv l (eU l n) v with
 |some k=>if(nd l k).name=rQ then k else-1
 |none=> -1
def Mc (l:List ai)(n:Int):Int:=
 if(nd l n).kind=1 then
  match Kr (nd l n) rQ with
  |some v=>if IT l n=true then KL l n v else IC l n
  |none=>IC l n
 else-1
variable {l : List ai}
theorem yc (T:Tree l){n:Int}(hn:ae l n=true)(hp:(nd l n).parent=-1):eU l n=n:=by
 unfold eU;rw[dL T hn hp];rfl
theorem vW (T:Tree l){n:Int}(hn:ae l n=true)(hp:(nd l n).parent≠-1):eU l n=eU l (nd l n).parent:=by
 obtain⟨r,hr⟩:=dI T (T.par n hn hp).1
 unfold eU;rw[bQ T hn hp,hr,List.getLast?_cons_cons]
 cases h:((nd l n).parent::r).getLast? with
 |none=>simp at h
 |some a=>rfl
theorem lO (T:Tree l):∀n,ae l n=true→ae l (eU l n)=true∧(nd l (eU l n)).parent=-1∧eU l n∈bf l n:=by
 refine gB T (fun n hn h=>?_) (fun n hn h hu ih=>?_)
 ·rw[yc T hn h];exact⟨hn,h,cj T hn⟩
 ·rw[vW T hn h];exact⟨ih.1,ih.2.1,by rw[bQ T hn h];exact eP _ ih.2.2⟩
theorem yM (T:Tree l):∀n,ae l n=true→∀a∈bf l n,eU l a=eU l n:=by
 refine gB T (fun n hn h a ha=>?_) (fun n hn h hu ih a ha=>?_)
 ·rw[dL T hn h] at ha;rw[gA.1 ha]
 ·rw[bQ T hn h] at ha
  rcases dU.1 ha with rfl|h'
  ·rfl
  ·rw[vW T hn h];exact ih a h'
theorem Fi (T:Tree l){n:Int}(hn:ae l n=true):n∈bT l l.length (eU l n):=by
 obtain⟨h1,_,h3⟩:=lO T n hn
 exact(ju T h1 hn).2 h3
theorem zh (T:Tree l){r n:Int}(hr:ae l r=true)(h:n∈bT l l.length r):ae l n=true∧r∈bf l n∧eU l n=eU l r:=by
 obtain⟨h1,h2⟩:=dM T _ r hr n h
 exact⟨h1,h2,(yM T n h1 r h2).symm⟩
theorem u6 (T:Tree l){n:Int}(hn:ae l n=true):eU l (eU l n)=eU l n:=by
 obtain⟨h1,h2,_⟩:=lO T n hn
 exact yc T h1 h2
theorem CC (T:Tree l)(q:Int→Bool){n:Int}(hn:ae l n=true)(hp:(nd l n).parent≠-1):jd l q n=if q (nd l n).parent=true then(nd l n).parent else jd l q (nd l n).parent:=by
 obtain⟨r,hr⟩:=dI T (T.par n hn hp).1
 unfold jd
 rw[bQ T hn hp,List.tail_cons,hr,List.find?_cons,List.tail_cons]
 cases h:q (nd l n).parent<;>simp
theorem ES (T:Tree l)(q:Int→Bool){n:Int}(hn:ae l n=true)(hp:(nd l n).parent=-1):jd l q n=-1:=by
 unfold jd;rw[dL T hn hp];rfl
theorem Dj (T:Tree l)(q:Int→Bool):∀n,ae l n=true→
  (jd l q n=-1∧∀a∈bf l n,a≠n→q a=false)∨
  (jd l q n∈bf l n∧jd l q n≠n∧q (jd l q n)=true∧∀a∈bf l n,a≠n→q a=true→a∈bf l (jd l q n)):=by
 refine gB T (fun n hn h=>?_) (fun n hn h hu ih=>?_)
 ·left
  refine⟨ES T q hn h,fun a ha hne=>?_⟩
  rw[dL T hn h] at ha
  exact absurd (gA.1 ha) hne
 ·have hne:∀a∈bf l (nd l n).parent,a≠n:=by
   intro a ha e
   subst e
   have h1:=bQ T hn h
   obtain⟨t,ht⟩:=gw T _ hu a ha
   rw[ht] at h1
   have:=congrArg List.length h1
   simp at this
   omega
  rw[CC T q hn h]
  have hw:=bQ T hn h
  cases hq:q (nd l n).parent with
  | true=>
    rw[if_pos rfl]
    right
    refine⟨by rw[hw];exact eP _ (cj T hu),hne _ (cj T hu),hq,fun a ha hna _=>?_⟩
    rw[hw] at ha
    exact(dU.1 ha).resolve_left hna
  | false=>
    rw[if_neg (by simp)]
    rcases ih with⟨h1,h2⟩|⟨h1,h2,h3,h4⟩
    ·left
     refine⟨h1,fun a ha hna=>?_⟩
     rw[hw] at ha
     have ha':=(dU.1 ha).resolve_left hna
     by_cases e:a=(nd l n).parent
     ·rw[e];exact hq
     ·exact h2 a ha' e
    ·right
     refine⟨by rw[hw];exact eP _ h1,hne _ h1,h3,fun a ha hna hqa=>?_⟩
     rw[hw] at ha
     have ha':=(dU.1 ha).resolve_left hna
     refine h4 a ha' (fun e=>?_) hqa
     rw[e,hq] at hqa;cases hqa
theorem CA (T:Tree l){n:Int}(hn:ae l n=true):kK (nd l n)=decide ((nd l n).name=rQ):=by
 unfold kK
 rcases zM T hn with h|⟨h1,h2,_⟩
 ·rw[h];simp
 ·rw[h2];simp[h1]
theorem Aj {r:Int}{v:ByteArray}{k:Int}(h:wY l r v=some k):k∈bT l l.length r∧Hf (nd l k) L2=some v:=
 ⟨List.mem_of_find?_eq_some h,by have:=List.find?_some h;simpa using this⟩
theorem FZ (T:Tree l){n:Int}(hn:ae l n=true)(h:yd l n≠-1):ae l (yd l n)=true∧kK (nd l (yd l n))=true∧eU l (yd l n)=eU l n∧(nd l n).kind=1:=by
 have hnear:vA l n≠-1→ae l (vA l n)=true∧kK (nd l (vA l n))=true∧eU l (vA l n)=eU l n:=by
  intro h
  rcases Dj T (fun p=>kK (nd l p)) n hn with⟨h1,_⟩|⟨h1,_,h3,_⟩
  ·exact absurd h1 h
  ·exact⟨iE T n hn _ h1,h3,yM T n hn _ h1⟩
 unfold yd at h ⊢
 by_cases hk:(nd l n).kind=1
 ·rw [if_pos hk] at h ⊢
  cases ha:Hf (nd l n) rQ with
  | none=>
    rw[ha] at h
    exact⟨(hnear h).1,(hnear h).2.1,(hnear h).2.2,hk⟩
  | some v=>
    rw[ha] at h
    simp only at h ⊢
    by_cases hc:IT l n=true
    ·rw [if_pos hc] at h ⊢
     unfold KX at h ⊢
     cases hf:wY l (eU l n) v with
     |none=>rw[hf] at h;exact absurd rfl h
     | some k=>
       rw[hf] at h
       simp only at h ⊢
       by_cases e:v≠ ⟨#[]⟩∧kK (nd l k)=true
       ·rw[if_pos e] at h ⊢
        obtain⟨h1,h2,h3⟩:=zh T (lO T n hn).1 (Aj hf).1
        exact⟨h1,e.2,by rw[h3,u6 T hn],hk⟩
       ·rw[if_neg e] at h;exact absurd rfl h
    ·rw[if_neg hc] at h ⊢
     exact⟨(hnear h).1,(hnear h).2.1,(hnear h).2.2,hk⟩
 ·rw[if_neg hk] at h;exact absurd rfl h
def Jt (l:List ai)(x:Int):List Int:=(bT l l.length (eU l x)).filter fun k=>decide (yd l k=x)
def o6 (l:List ai)(x:Int):List Int:=(bT l l.length (eU l x)).filter fun k=>decide (Mc l k=x)
end Go.Proofs.Heir
end
section
namespace Go.Proofs.Heir
open Go Go.Am Go.RowKit Go.Lib
set_option maxRecDepth 100000
set_option maxHeartbeats 8000000
variable {l : List ai}
def Hv (l:List ai)(x:Int):List Int:=if kK (nd l x)=true then Jt l x else[]
theorem Dy (T:Tree l){x:Int}(hx:ae l x=true){c:Int}(h:c∈Hv l x):ae l c=true∧yd l c=x∧eU l c=eU l x∧(nd l x).name=rQ:=by
 unfold Hv at h
 by_cases hf:kK (nd l x)=true
 ·rw[if_pos hf] at h
  unfold Jt at h
  obtain⟨h1,h2⟩:=List.mem_filter.1 h
  obtain⟨g1,_,g3⟩:=zh T (lO T x hx).1 h1
  rw[u6 T hx] at g3
  rw[CA T hx] at hf
  exact⟨g1,by simpa using h2,g3,of_decide_eq_true hf⟩
 ·rw[if_neg hf] at h;cases h
theorem mem_iff (T:Tree l){x:Int}(hx:ae l x=true){c:Int}(hc:ae l c=true):c∈Hv l x↔yd l c=x:=by
 constructor
 ·intro h;exact(Dy T hx h).2.1
 ·intro h
  have h0:=bj hx
  obtain⟨_,a2,a3,_⟩:=FZ T hc (by omega)
  rw[h] at a2 a3
  unfold Hv Jt
  rw[if_pos a2,List.mem_filter,a3]
  exact⟨Fi T hc,by simpa using h⟩
end Go.Proofs.Heir
end
namespace Go.Proofs.Heir
open Go Go.Am Go.RowKit Go.Lib
set_option maxRecDepth 100000
set_option maxHeartbeats 8000000


end Go.Proofs.Heir
section
namespace Go.Proofs.Heir
open Go Go.Am Go.RowKit Go.Lib
set_option maxRecDepth 100000
set_option maxHeartbeats 8000000
namespace V
variable {l : List ai}
theorem nh (T:Tree l):∀ (m:Nat) (n:Int),ae l n=true→l.length+1≤m+ (bf l n).length→bT l (m+1) n=bT l m n
 |0,n,_,h=>by have:=l7 (l:=l) n;omega
 | m+1,n,hn,h=>by
   rw[bT,bT]
   congr 1
   refine gg fun k hk=>?_
   refine nh T m k (T.kid n hn k hk).1 ?_
   rw[eI T hn hk];simp;omega
theorem ord_eq (T:Tree l){n:Int}(hn:ae l n=true):bT l l.length n=n::(nd l n).kids.flatMap (bT l l.length):=by
 have h0:=bj hn
 obtain⟨m,hm⟩:∃m,l.length=m+1:=⟨l.length-1,by omega⟩
 have h1:∀k∈ (nd l n).kids,bT l l.length k=bT l m k:=fun k hk=>by
  rw[hm]
  refine nh T m k (T.kid n hn k hk).1 ?_
  obtain⟨r,hr⟩:=dI T hn
  rw[eI T hn hk,hr];simp;omega
 conv=>lhs;rw[hm,bT]
 congr 1
 exact gg fun k hk=>(h1 k hk).symm
def rest (l:List ai)(st:List Int):List Int:=st.reverse.flatMap (bT l l.length)
theorem yL (T:Tree l){st:List Int}{t:Int}(ht:ae l t=true):rest l (st++ [t])=t::rest l (st++ (nd l t).kids.reverse):=by
 unfold rest
 rw[List.reverse_append,List.reverse_append,List.reverse_reverse]
 simp only[List.reverse_cons,List.reverse_nil,List.nil_append,List.cons_append,List.flatMap_cons,List.flatMap_append]
 rw[ord_eq T ht];rfl
theorem zi (T:Tree l):∀ {st:List Int},(∀c∈st,ae l c=true)→st.length≤ (rest l st).length:=by
 intro st h
 unfold rest
 have:∀s:List Int,(∀c∈s,ae l c=true)→s.length≤ (s.flatMap (bT l l.length)).length:=by
  intro s
  induction s with
  |nil=>intro _;exact Nat.le_refl _
  | cons a r ih=>
    intro h
    have h1:=ih fun c hc=>h c (eP _ hc)
    rw[List.flatMap_cons,kf,ord_eq T (h a gj),List.length_cons,List.length_cons]
    omega
 have:=this st.reverse fun c hc=>h c (by simpa using hc)
 simpa using this
end V
end Go.Proofs.Heir
end
