/- Models, plain laws and contracts of functions of the given program; conditions as stated in each theorem. By an AI agent. -/
import Derived.Test.YtkhjcnjicjgfiaaGreatDoorWD15
import Derived.Test.YtkhjcnjicjgfiaaGreatDoorWD26
import Derived.Test.YtkhjcnjicjgfiaaGreatDoorWD14
import Derived.Shelf.RegionOpenPlain
import Derived.WalkKit
import Derived.IntWalk
import Derived.RangeFuncSeq
import Derived.Deep.RegionLaw
import Derived.Lib.SliceRun
import Derived.Laws.Tables
import Derived.Laws.CopyRow
import Derived.Sort.WalkB12
set_option linter.unusedSimpArgs false
set_option linter.unusedVariables false
namespace Go.Proofs.Heir
open Go Go.Am Go.RowKit Go.Lib
set_option maxRecDepth 100000
set_option maxHeartbeats 16000000 in
/-- shade.All -/
theorem IE (f:ForM)(hs:bO f.nodes)(n:Int)(e0:(aU f&&aa f.nodes n)=true):an Tryz.prog 82 [] [bF f,ay n] [cU (pT f n)] (.own 0 0 (pT f n).length):=by
  have h86:=De f hs [n] (by simp)
  have e1:(aU f&& !decide (0≤dI (fun n=> !aa f.nodes n) [n]))=(aU f&&aa f.nodes n):=by
    congr 1
    unfold dI
    cases h:aa f.nodes n<;>simp[List.findIdx?_cons,h]
  rw[e1] at h86
  obtain⟨l,m⟩:=f
  unfold pT
  simp only at h86 e0 ⊢
  rw[if_pos e0]
  have hlm:(l.map cj).length=l.length:=bM ..
  refine an.aF (rvs:=[.tmp 4]) G aq Tryz.func82 rfl Tryz.ntmps82 rfl rfl ?_;delta List.toArray;((with_reducible conv=>whnf);(with_reducible conv=>congr<;>reduce);repeat((first|(with_reducible refine aY.mk ?_)|(with_reducible refine aZ.mk ?_));(with_reducible conv=>whnf);(with_reducible conv=>congr<;>reduce)))
  rw[e0] at h86
  refine ah.lit [141] h86 L6 ⟨⟨rfl,rfl,trivial⟩,fq (l:=[n]) rfl rfl rfl rfl,trivial⟩ rfl rfl ?_;((with_reducible conv=>whnf);(with_reducible conv=>congr<;>reduce);repeat((first|(with_reducible refine aY.mk ?_)|(with_reducible refine aZ.mk ?_));(with_reducible conv=>whnf);(with_reducible conv=>congr<;>reduce)))
  obtain⟨hr,hn⟩:aU ⟨l,m⟩=true∧aa l n=true:=by simpa using e0
  have T:=U.dY hr
  have hol:=U.lD T l.length hn
  simp only at T hol
  repeat' (first|(first|((with_reducible show aL _ _ _ _);first|refine aL.ff ?_|refine aL.tt ?_|refine aL.no (by first|rfl|assumption|exact nf (by assumption)|exact nt (by assumption)|((try simp only[ak]);first|(simp[];done)|(simp[];omega))) ?_|refine aL.yes (by first|rfl|assumption|exact nf (by assumption)|exact nt (by assumption)|((try simp only[ak]);first|(simp[];done)|(simp[];omega))) ?_)|((with_reducible show aP _ _ _ _);refine aP.mk (by(try simp only[ak]);omega) ?_)|((with_reducible show aH _ _ _ _);refine aH.mk (by kernel_rfl) (by kernel_rfl) (by kernel_rfl) ?_))<;>((with_reducible conv=>whnf);(with_reducible conv=>congr<;>reduce);repeat((first|(with_reducible refine aY.mk ?_)|(with_reducible refine aZ.mk ?_));(with_reducible conv=>whnf);(with_reducible conv=>congr<;>reduce)))|((with_reducible show(_∧_)∧_∧_);refine⟨⟨rfl,rfl⟩,?_,?_⟩<;>(with_reducible conv=>whnf)<;>repeat' (first|(with_reducible exact trivial)|(with_reducible refine And.intro ?_ ?_<;>with_reducible conv=>whnf))))
  refine bD.ghost 5 51 1 rfl rfl ?_
  refine bD.use G aq (fun(i:List Int×List Int×List Int)=>[(2,.ptr 20 0 0),(5,.own 51 0 i.1.length),(6,.ptr 60 0 0)])
    (fun i=>[(20,.live 2 [bF ⟨l,m⟩] false),(51,cU i.1),(60,.live 1 [.own 181 0 i.2.1.length] false),(181,cU (i.2.1++i.2.2))])
    (fun i=>U.cD l l.length n=i.1++U.rest l i.2.1∧∀c∈i.2.1,aa l c=true) (fun i=>l.length-i.1.length) ([],[n],[]) ⟨by simp[U.rest],fun c hc=>by rw[kX] at hc;subst hc;exact hn⟩
    (by refine⟨⟨rfl,rfl⟩,⟨⟨rfl,rfl⟩,⟨rfl,rfl⟩,⟨rfl,rfl⟩,trivial⟩,⟨⟨rfl,rfl,trivial⟩,trivial⟩,⟨.refl rfl,ae _⟩,⟨⟨rfl,rfl⟩,trivial⟩,⟨.refl rfl,ae _⟩,trivial⟩) ?_
  rintro⟨out,st,sp⟩ ⟨ho,hst⟩
  simp only at ho hst
  ((with_reducible conv=>whnf);(with_reducible conv=>congr<;>reduce);repeat((first|(with_reducible refine aY.mk ?_)|(with_reducible refine aZ.mk ?_));(with_reducible conv=>whnf);(with_reducible conv=>congr<;>reduce)))
  have hoL:=congrArg List.length ho
  rw[j7] at hoL
  have hol':out.length=(out.map bu).length:=(bM ..).symm
  have hrl:=U.tO T hst
  have hl60:=hs.len
  simp only at hl60
  obtain h|⟨st',t,h⟩:=List.eq_nil_or_concat st<;>(try rw[List.concat_eq_append] at h)<;>subst h
  · repeat' (first|(first|((with_reducible show aL _ _ _ _);first|refine aL.ff ?_|refine aL.tt ?_|refine aL.no (by first|rfl|assumption|exact nf (by assumption)|exact nt (by assumption)|((try simp only[ak]);first|(simp[];done)|(simp[];omega))) ?_|refine aL.yes (by first|rfl|assumption|exact nf (by assumption)|exact nt (by assumption)|((try simp only[ak]);first|(simp[];done)|(simp[];omega))) ?_)|((with_reducible show aP _ _ _ _);refine aP.mk (by(try simp only[ak]);omega) ?_)|((with_reducible show aH _ _ _ _);refine aH.mk (by kernel_rfl) (by kernel_rfl) (by kernel_rfl) ?_))<;>((with_reducible conv=>whnf);(with_reducible conv=>congr<;>reduce);repeat((first|(with_reducible refine aY.mk ?_)|(with_reducible refine aZ.mk ?_));(with_reducible conv=>whnf);(with_reducible conv=>congr<;>reduce)))|((with_reducible show(_∧_)∧_∧_);refine⟨⟨rfl,rfl⟩,?_,?_⟩<;>(with_reducible conv=>whnf)<;>repeat' (first|(with_reducible exact trivial)|(with_reducible refine And.intro ?_ ?_<;>with_reducible conv=>whnf))))
    all_goals have ho':U.cD l l.length n=out:=by rw[ho];simp[U.rest]
    all_goals clear ho hoL
    all_goals subst ho'
    all_goals first|rfl|exact aQ (ae _)
  · have ht :=hst t (by simp)
    have hlen:(st'++ [t]).length=st'.length+1:=by simp
    obtain⟨k,x,rfl,hx,hnx⟩:=bp.1 ht
    rw[hlen]
    rw[hlen] at hrl
    repeat' (first|(first|((with_reducible show aL _ _ _ _);first|refine aL.ff ?_|refine aL.tt ?_|refine aL.no (by first|rfl|assumption|exact nf (by assumption)|exact nt (by assumption)|((try simp only[ak]);first|(simp[];done)|(simp[];omega))) ?_|refine aL.yes (by first|rfl|assumption|exact nf (by assumption)|exact nt (by assumption)|((try simp only[ak]);first|(simp[];done)|(simp[];omega))) ?_)|((with_reducible show aP _ _ _ _);refine aP.mk (by(try simp only[ak]);omega) ?_)|((with_reducible show aH _ _ _ _);refine aH.mk (by kernel_rfl) (by kernel_rfl) (by kernel_rfl) ?_))<;>((with_reducible conv=>whnf);(with_reducible conv=>congr<;>reduce);repeat((first|(with_reducible refine aY.mk ?_)|(with_reducible refine aZ.mk ?_));(with_reducible conv=>whnf);(with_reducible conv=>congr<;>reduce)))|((with_reducible show(_∧_)∧_∧_);refine⟨⟨rfl,rfl⟩,?_,?_⟩<;>(with_reducible conv=>whnf)<;>repeat' (first|(with_reducible exact trivial)|(with_reducible refine And.intro ?_ ?_<;>with_reducible conv=>whnf))))
    refine gX.mk st'.length (by(try simp only[ak]);omega) (by omega) ?_;((with_reducible conv=>whnf);(with_reducible conv=>congr<;>reduce);repeat((first|(with_reducible refine aY.mk ?_)|(with_reducible refine aZ.mk ?_));(with_reducible conv=>whnf);(with_reducible conv=>congr<;>reduce)))
    refine bE.mk (ay (k:Int)) (by rw[Nat.zero_add,dM,List.append_assoc,List.getElem?_append_right (Nat.le_refl _),Nat.sub_self];rfl) ?_;((with_reducible conv=>whnf);(with_reducible conv=>congr<;>reduce);repeat((first|(with_reducible refine aY.mk ?_)|(with_reducible refine aZ.mk ?_));(with_reducible conv=>whnf);(with_reducible conv=>congr<;>reduce)))
    repeat' (first|(first|((with_reducible show aL _ _ _ _);first|refine aL.ff ?_|refine aL.tt ?_|refine aL.no (by first|rfl|assumption|exact nf (by assumption)|exact nt (by assumption)|((try simp only[ak]);first|(simp[];done)|(simp[];omega))) ?_|refine aL.yes (by first|rfl|assumption|exact nf (by assumption)|exact nt (by assumption)|((try simp only[ak]);first|(simp[];done)|(simp[];omega))) ?_)|((with_reducible show aP _ _ _ _);refine aP.mk (by(try simp only[ak]);omega) ?_)|((with_reducible show aH _ _ _ _);refine aH.mk (by kernel_rfl) (by kernel_rfl) (by kernel_rfl) ?_))<;>((with_reducible conv=>whnf);(with_reducible conv=>congr<;>reduce);repeat((first|(with_reducible refine aY.mk ?_)|(with_reducible refine aZ.mk ?_));(with_reducible conv=>whnf);(with_reducible conv=>congr<;>reduce)))|((with_reducible show(_∧_)∧_∧_);refine⟨⟨rfl,rfl⟩,?_,?_⟩<;>(with_reducible conv=>whnf)<;>repeat' (first|(with_reducible exact trivial)|(with_reducible refine And.intro ?_ ?_<;>with_reducible conv=>whnf))))
    refine uM.mk 0 st'.length rfl (by(try simp only[ak]);omega) (by omega) ?_;((with_reducible conv=>whnf);(with_reducible conv=>congr<;>reduce);repeat((first|(with_reducible refine aY.mk ?_)|(with_reducible refine aZ.mk ?_));(with_reducible conv=>whnf);(with_reducible conv=>congr<;>reduce)))
    repeat' (first|(first|((with_reducible show aL _ _ _ _);first|refine aL.ff ?_|refine aL.tt ?_|refine aL.no (by first|rfl|assumption|exact nf (by assumption)|exact nt (by assumption)|((try simp only[ak]);first|(simp[];done)|(simp[];omega))) ?_|refine aL.yes (by first|rfl|assumption|exact nf (by assumption)|exact nt (by assumption)|((try simp only[ak]);first|(simp[];done)|(simp[];omega))) ?_)|((with_reducible show aP _ _ _ _);refine aP.mk (by(try simp only[ak]);omega) ?_)|((with_reducible show aH _ _ _ _);refine aH.mk (by kernel_rfl) (by kernel_rfl) (by kernel_rfl) ?_))<;>((with_reducible conv=>whnf);(with_reducible conv=>congr<;>reduce);repeat((first|(with_reducible refine aY.mk ?_)|(with_reducible refine aZ.mk ?_));(with_reducible conv=>whnf);(with_reducible conv=>congr<;>reduce)))|((with_reducible show(_∧_)∧_∧_);refine⟨⟨rfl,rfl⟩,?_,?_⟩<;>(with_reducible conv=>whnf)<;>repeat' (first|(with_reducible exact trivial)|(with_reducible refine And.intro ?_ ?_<;>with_reducible conv=>whnf))))
    refine jR.mk (out.map bu) [ay (k:Int)] ⟨rfl,hol',rfl⟩ ⟨rfl,rfl,rfl⟩ rfl (by simp;omega) (by simp;omega) ?_;((with_reducible conv=>whnf);(with_reducible conv=>congr<;>reduce);repeat((first|(with_reducible refine aY.mk ?_)|(with_reducible refine aZ.mk ?_));(with_reducible conv=>whnf);(with_reducible conv=>congr<;>reduce)))
    repeat' (first|(first|((with_reducible show aL _ _ _ _);first|refine aL.ff ?_|refine aL.tt ?_|refine aL.no (by first|rfl|assumption|exact nf (by assumption)|exact nt (by assumption)|((try simp only[ak]);first|(simp[];done)|(simp[];omega))) ?_|refine aL.yes (by first|rfl|assumption|exact nf (by assumption)|exact nt (by assumption)|((try simp only[ak]);first|(simp[];done)|(simp[];omega))) ?_)|((with_reducible show aP _ _ _ _);refine aP.mk (by(try simp only[ak]);omega) ?_)|((with_reducible show aH _ _ _ _);refine aH.mk (by kernel_rfl) (by kernel_rfl) (by kernel_rfl) ?_))<;>((with_reducible conv=>whnf);(with_reducible conv=>congr<;>reduce);repeat((first|(with_reducible refine aY.mk ?_)|(with_reducible refine aZ.mk ?_));(with_reducible conv=>whnf);(with_reducible conv=>congr<;>reduce)))|((with_reducible show(_∧_)∧_∧_);refine⟨⟨rfl,rfl⟩,?_,?_⟩<;>(with_reducible conv=>whnf)<;>repeat' (first|(with_reducible exact trivial)|(with_reducible refine And.intro ?_ ?_<;>with_reducible conv=>whnf))))
    obtain⟨a1,a2,a3,a4,a5,a6,a7,a8,a9,a10⟩:=x
    refine bn.mk k (aR ⟨a1,a2,a3,a4,a5,a6,a7,a8,a9,a10⟩) rfl (aI hx) ?_;((with_reducible conv=>whnf);(with_reducible conv=>congr<;>reduce);repeat((first|(with_reducible refine aY.mk ?_)|(with_reducible refine aZ.mk ?_));(with_reducible conv=>whnf);(with_reducible conv=>congr<;>reduce)))
    repeat' (first|(first|((with_reducible show aL _ _ _ _);first|refine aL.ff ?_|refine aL.tt ?_|refine aL.no (by first|rfl|assumption|exact nf (by assumption)|exact nt (by assumption)|((try simp only[ak]);first|(simp[];done)|(simp[];omega))) ?_|refine aL.yes (by first|rfl|assumption|exact nf (by assumption)|exact nt (by assumption)|((try simp only[ak]);first|(simp[];done)|(simp[];omega))) ?_)|((with_reducible show aP _ _ _ _);refine aP.mk (by(try simp only[ak]);omega) ?_)|((with_reducible show aH _ _ _ _);refine aH.mk (by kernel_rfl) (by kernel_rfl) (by kernel_rfl) ?_))<;>((with_reducible conv=>whnf);(with_reducible conv=>congr<;>reduce);repeat((first|(with_reducible refine aY.mk ?_)|(with_reducible refine aZ.mk ?_));(with_reducible conv=>whnf);(with_reducible conv=>congr<;>reduce)))|((with_reducible show(_∧_)∧_∧_);refine⟨⟨rfl,rfl⟩,?_,?_⟩<;>(with_reducible conv=>whnf)<;>repeat' (first|(with_reducible exact trivial)|(with_reducible refine And.intro ?_ ?_<;>with_reducible conv=>whnf))))
    refine ah.val [] (Cd a7) M6 ⟨rfl,trivial⟩ rfl rfl rfl ?_;((with_reducible conv=>whnf);(with_reducible conv=>congr<;>reduce);repeat((first|(with_reducible refine aY.mk ?_)|(with_reducible refine aZ.mk ?_));(with_reducible conv=>whnf);(with_reducible conv=>congr<;>reduce)))
    repeat' (first|(first|((with_reducible show aL _ _ _ _);first|refine aL.ff ?_|refine aL.tt ?_|refine aL.no (by first|rfl|assumption|exact nf (by assumption)|exact nt (by assumption)|((try simp only[ak]);first|(simp[];done)|(simp[];omega))) ?_|refine aL.yes (by first|rfl|assumption|exact nf (by assumption)|exact nt (by assumption)|((try simp only[ak]);first|(simp[];done)|(simp[];omega))) ?_)|((with_reducible show aP _ _ _ _);refine aP.mk (by(try simp only[ak]);omega) ?_)|((with_reducible show aH _ _ _ _);refine aH.mk (by kernel_rfl) (by kernel_rfl) (by kernel_rfl) ?_))<;>((with_reducible conv=>whnf);(with_reducible conv=>congr<;>reduce);repeat((first|(with_reducible refine aY.mk ?_)|(with_reducible refine aZ.mk ?_));(with_reducible conv=>whnf);(with_reducible conv=>congr<;>reduce)))|((with_reducible show(_∧_)∧_∧_);refine⟨⟨rfl,rfl⟩,?_,?_⟩<;>(with_reducible conv=>whnf)<;>repeat' (first|(with_reducible exact trivial)|(with_reducible refine And.intro ?_ ?_<;>with_reducible conv=>whnf))))
    obtain⟨spF,hs0,hs1⟩:∃spF:Nat→List Int,spF 0=(k:Int)::sp∧∀j,spF (j+1)=[]:=⟨fun j=>match j with|0=>(k:Int)::sp|_+1=>[],rfl,fun _=>rfl⟩
    have hk7:=hs.kids _ (bN hx)
    simp only at hk7
    refine bD.range G aq 4 [(2,.ptr 1 0 0),(5,.own 3 0 (out.length+1)),(6,.ptr 0 0 0),(9,.ptr 2 0 0),(43,.clo (.func 193) [] [.fptr (cN a7) 0])]
      (fun j=>[(0,.live 1 [.own 181 0 (st'.length+j)] false),(1,.live 2 [bF ⟨l,m⟩] false),(2,.live 10 [aR ⟨a1,a2,a3,a4,a5,a6,a7,a8,a9,a10⟩] false),(3,cU (out++ [(k:Int)])),(181,cU (st'++a7.reverse.take j++spF j))])
      (Cf a7 (by omega)) Nt ?_ rfl ⟨⟨rfl,rfl⟩,rfl⟩ (fun _ _=>rfl) (fun _ _=>rfl) ⟨⟨rfl,rfl⟩,rfl,rfl⟩ ?_ ?_
    · refine⟨⟨rfl,rfl⟩,?_⟩
      (with_reducible conv=>whnf)
      repeat' (first|(with_reducible exact trivial)|(with_reducible refine And.intro ?_ ?_<;>with_reducible conv=>whnf))
      all_goals try rfl
      ·simp
      ·exact⟨.refl rfl,rfl⟩
      ·exact⟨.refl rfl,rfl⟩
      · refine⟨?_,ae _⟩
        rw[←show(out++ [(k:Int)]).map bu=out.map bu++ [AV.lit (.int .i64 k)] by simp;rfl]
        exact .refl (ae _)
      · refine⟨?_,ae _⟩
        rw[hs0,List.take_zero,List.append_nil,show st'++ [(k:Int)]++sp=st'++ (k:Int)::sp by simp];exact .refl (ae _)
    · intro j hj
      ((with_reducible conv=>whnf);(with_reducible conv=>congr<;>reduce);repeat((first|(with_reducible refine aY.mk ?_)|(with_reducible refine aZ.mk ?_));(with_reducible conv=>whnf);(with_reducible conv=>congr<;>reduce)))
      refine vJ.mk rfl ?_;((with_reducible conv=>whnf);(with_reducible conv=>congr<;>reduce);repeat((first|(with_reducible refine aY.mk ?_)|(with_reducible refine aZ.mk ?_));(with_reducible conv=>whnf);(with_reducible conv=>congr<;>reduce)))
      repeat' (first|(first|((with_reducible show aL _ _ _ _);first|refine aL.ff ?_|refine aL.tt ?_|refine aL.no (by first|rfl|assumption|exact nf (by assumption)|exact nt (by assumption)|((try simp only[ak]);first|(simp[];done)|(simp[];omega))) ?_|refine aL.yes (by first|rfl|assumption|exact nf (by assumption)|exact nt (by assumption)|((try simp only[ak]);first|(simp[];done)|(simp[];omega))) ?_)|((with_reducible show aP _ _ _ _);refine aP.mk (by(try simp only[ak]);omega) ?_)|((with_reducible show aH _ _ _ _);refine aH.mk (by kernel_rfl) (by kernel_rfl) (by kernel_rfl) ?_))<;>((with_reducible conv=>whnf);(with_reducible conv=>congr<;>reduce);repeat((first|(with_reducible refine aY.mk ?_)|(with_reducible refine aZ.mk ?_));(with_reducible conv=>whnf);(with_reducible conv=>congr<;>reduce)))|((with_reducible show(_∧_)∧_∧_);refine⟨⟨rfl,rfl⟩,?_,?_⟩<;>(with_reducible conv=>whnf)<;>repeat' (first|(with_reducible exact trivial)|(with_reducible refine And.intro ?_ ?_<;>with_reducible conv=>whnf))))
      refine jR.take ((st'++a7.reverse.take j).map bu) [bu ((a7.reverse[j]?).getD 0)] ⟨rfl,by simp;omega,by rw[gL (l₂:=spF j),List.take_left' (by simp;omega)]⟩ ⟨rfl,rfl,rfl⟩ rfl (by simp;omega) (by simp;omega) ?_
      ((with_reducible conv=>whnf);(with_reducible conv=>congr<;>reduce);repeat((first|(with_reducible refine aY.mk ?_)|(with_reducible refine aZ.mk ?_));(with_reducible conv=>whnf);(with_reducible conv=>congr<;>reduce)))
      repeat' (first|(first|((with_reducible show aL _ _ _ _);first|refine aL.ff ?_|refine aL.tt ?_|refine aL.no (by first|rfl|assumption|exact nf (by assumption)|exact nt (by assumption)|((try simp only[ak]);first|(simp[];done)|(simp[];omega))) ?_|refine aL.yes (by first|rfl|assumption|exact nf (by assumption)|exact nt (by assumption)|((try simp only[ak]);first|(simp[];done)|(simp[];omega))) ?_)|((with_reducible show aP _ _ _ _);refine aP.mk (by(try simp only[ak]);omega) ?_)|((with_reducible show aH _ _ _ _);refine aH.mk (by kernel_rfl) (by kernel_rfl) (by kernel_rfl) ?_))<;>((with_reducible conv=>whnf);(with_reducible conv=>congr<;>reduce);repeat((first|(with_reducible refine aY.mk ?_)|(with_reducible refine aZ.mk ?_));(with_reducible conv=>whnf);(with_reducible conv=>congr<;>reduce)))|((with_reducible show(_∧_)∧_∧_);refine⟨⟨rfl,rfl⟩,?_,?_⟩<;>(with_reducible conv=>whnf)<;>repeat' (first|(with_reducible exact trivial)|(with_reducible refine And.intro ?_ ?_<;>with_reducible conv=>whnf))))
      refine vF.mk ?_
      obtain⟨c,hc⟩:∃c,a7.reverse[j]? =some c:=⟨_,bh (by simpa using hj)⟩
      have htk:a7.reverse.take (j+1)=a7.reverse.take j++ [c]:=by rw[List.take_add_one,hc];rfl
      rw[hc,Option.getD_some]
      refine⟨⟨rfl,rfl⟩,?_⟩
      (with_reducible conv=>whnf)
      repeat' (first|(with_reducible exact trivial)|(with_reducible refine And.intro ?_ ?_<;>with_reducible conv=>whnf))
      all_goals try rfl
      ·simp;omega
      ·exact⟨.refl rfl,rfl⟩
      ·exact⟨.refl rfl,rfl⟩
      ·exact⟨.refl (ae _),ae _⟩
      · refine⟨?_,ae _⟩
        rw[hs1,htk,List.append_nil,←List.append_assoc,gL (l₂:=[c])];exact .refl (by rw[←gL];exact ae _)
    · ((with_reducible conv=>whnf);(with_reducible conv=>congr<;>reduce);repeat((first|(with_reducible refine aY.mk ?_)|(with_reducible refine aZ.mk ?_));(with_reducible conv=>whnf);(with_reducible conv=>congr<;>reduce)))
      refine bE.mk (aR ⟨a1,a2,a3,a4,a5,a6,a7,a8,a9,a10⟩) rfl ?_;((with_reducible conv=>whnf);(with_reducible conv=>congr<;>reduce);repeat((first|(with_reducible refine aY.mk ?_)|(with_reducible refine aZ.mk ?_));(with_reducible conv=>whnf);(with_reducible conv=>congr<;>reduce)))
      have hT:nd l k=⟨a1,a2,a3,a4,a5,a6,a7,a8,a9,a10⟩:=hnx
      have hch:EV (nd l k)=(if a9=-1 then[] else[a9])++a7:=by rw[hT];rfl
      have hpop:=U.sM T (st:=st') ht
      rw[hch] at hpop
      have hkid:∀c∈ (if a9=-1 then[] else[a9])++a7,aa l c=true:=fun c hc=>(T.kid k ht c (by rw[hch];exact hc)).1
      have hta:a7.reverse.take a7.length=a7.reverse:=nU (by simp)
      by_cases e9:a9=-1
      · subst e9
        rw[if_pos rfl,List.nil_append] at hpop hkid
        repeat' (first|(first|((with_reducible show aL _ _ _ _);first|refine aL.ff ?_|refine aL.tt ?_|refine aL.no (by first|rfl|assumption|exact nf (by assumption)|exact nt (by assumption)|((try simp only[ak]);first|(simp[];done)|(simp[];omega))) ?_|refine aL.yes (by first|rfl|assumption|exact nf (by assumption)|exact nt (by assumption)|((try simp only[ak]);first|(simp[];done)|(simp[];omega))) ?_)|((with_reducible show aP _ _ _ _);refine aP.mk (by(try simp only[ak]);omega) ?_)|((with_reducible show aH _ _ _ _);refine aH.mk (by kernel_rfl) (by kernel_rfl) (by kernel_rfl) ?_))<;>((with_reducible conv=>whnf);(with_reducible conv=>congr<;>reduce);repeat((first|(with_reducible refine aY.mk ?_)|(with_reducible refine aZ.mk ?_));(with_reducible conv=>whnf);(with_reducible conv=>congr<;>reduce)))|((with_reducible show(_∧_)∧_∧_);refine⟨⟨rfl,rfl⟩,?_,?_⟩<;>(with_reducible conv=>whnf)<;>repeat' (first|(with_reducible exact trivial)|(with_reducible refine And.intro ?_ ?_<;>with_reducible conv=>whnf))))
        refine aT.mk (out++ [(k:Int)],st'++a7.reverse,spF a7.length) ⟨?_,?_⟩ ?_ ?_
        ·rw[ho,hpop];simp
        · intro c hc
          rcases List.mem_append.1 hc with h|h
          ·exact hst c (by simp[h])
          ·exact hkid c (by simpa using h)
        ·simp only[j7,List.length_singleton];omega
        · refine⟨⟨rfl,rfl⟩,?_⟩
          (with_reducible conv=>whnf)
          repeat' (first|(with_reducible exact trivial)|(with_reducible refine And.intro ?_ ?_<;>with_reducible conv=>whnf))
          all_goals try rfl
          ·simp
          ·exact⟨.refl (ae _),ae _⟩
          ·simp
          · refine⟨?_,ae _⟩
            rw[hta];exact .refl (ae _)
      · rw [if_neg e9] at hpop hkid
        repeat' (first|(first|((with_reducible show aL _ _ _ _);first|refine aL.ff ?_|refine aL.tt ?_|refine aL.no (by first|rfl|assumption|exact nf (by assumption)|exact nt (by assumption)|((try simp only[ak]);first|(simp[e9];done)|(simp[e9];omega))) ?_|refine aL.yes (by first|rfl|assumption|exact nf (by assumption)|exact nt (by assumption)|((try simp only[ak]);first|(simp[e9];done)|(simp[e9];omega))) ?_)|((with_reducible show aP _ _ _ _);refine aP.mk (by(try simp only[ak]);omega) ?_)|((with_reducible show aH _ _ _ _);refine aH.mk (by kernel_rfl) (by kernel_rfl) (by kernel_rfl) ?_))<;>((with_reducible conv=>whnf);(with_reducible conv=>congr<;>reduce);repeat((first|(with_reducible refine aY.mk ?_)|(with_reducible refine aZ.mk ?_));(with_reducible conv=>whnf);(with_reducible conv=>congr<;>reduce)))|((with_reducible show(_∧_)∧_∧_);refine⟨⟨rfl,rfl⟩,?_,?_⟩<;>(with_reducible conv=>whnf)<;>repeat' (first|(with_reducible exact trivial)|(with_reducible refine And.intro ?_ ?_<;>with_reducible conv=>whnf))))
        refine bE.mk (aR ⟨a1,a2,a3,a4,a5,a6,a7,a8,a9,a10⟩) rfl ?_;((with_reducible conv=>whnf);(with_reducible conv=>congr<;>reduce);repeat((first|(with_reducible refine aY.mk ?_)|(with_reducible refine aZ.mk ?_));(with_reducible conv=>whnf);(with_reducible conv=>congr<;>reduce)))
        repeat' (first|(first|((with_reducible show aL _ _ _ _);first|refine aL.ff ?_|refine aL.tt ?_|refine aL.no (by first|rfl|assumption|exact nf (by assumption)|exact nt (by assumption)|((try simp only[ak]);first|(simp[e9];done)|(simp[e9];omega))) ?_|refine aL.yes (by first|rfl|assumption|exact nf (by assumption)|exact nt (by assumption)|((try simp only[ak]);first|(simp[e9];done)|(simp[e9];omega))) ?_)|((with_reducible show aP _ _ _ _);refine aP.mk (by(try simp only[ak]);omega) ?_)|((with_reducible show aH _ _ _ _);refine aH.mk (by kernel_rfl) (by kernel_rfl) (by kernel_rfl) ?_))<;>((with_reducible conv=>whnf);(with_reducible conv=>congr<;>reduce);repeat((first|(with_reducible refine aY.mk ?_)|(with_reducible refine aZ.mk ?_));(with_reducible conv=>whnf);(with_reducible conv=>congr<;>reduce)))|((with_reducible show(_∧_)∧_∧_);refine⟨⟨rfl,rfl⟩,?_,?_⟩<;>(with_reducible conv=>whnf)<;>repeat' (first|(with_reducible exact trivial)|(with_reducible refine And.intro ?_ ?_<;>with_reducible conv=>whnf))))
        refine jR.take ((st'++a7.reverse).map bu) [ay a9] ⟨rfl,by simp,by rw[hta,gL (l₂:=spF a7.length),List.take_left' (by simp)]⟩ ⟨rfl,rfl,rfl⟩ rfl (by simp;omega) (by simp;omega) ?_
        ((with_reducible conv=>whnf);(with_reducible conv=>congr<;>reduce);repeat((first|(with_reducible refine aY.mk ?_)|(with_reducible refine aZ.mk ?_));(with_reducible conv=>whnf);(with_reducible conv=>congr<;>reduce)))
        repeat' (first|(first|((with_reducible show aL _ _ _ _);first|refine aL.ff ?_|refine aL.tt ?_|refine aL.no (by first|rfl|assumption|exact nf (by assumption)|exact nt (by assumption)|((try simp only[ak]);first|(simp[e9];done)|(simp[e9];omega))) ?_|refine aL.yes (by first|rfl|assumption|exact nf (by assumption)|exact nt (by assumption)|((try simp only[ak]);first|(simp[e9];done)|(simp[e9];omega))) ?_)|((with_reducible show aP _ _ _ _);refine aP.mk (by(try simp only[ak]);omega) ?_)|((with_reducible show aH _ _ _ _);refine aH.mk (by kernel_rfl) (by kernel_rfl) (by kernel_rfl) ?_))<;>((with_reducible conv=>whnf);(with_reducible conv=>congr<;>reduce);repeat((first|(with_reducible refine aY.mk ?_)|(with_reducible refine aZ.mk ?_));(with_reducible conv=>whnf);(with_reducible conv=>congr<;>reduce)))|((with_reducible show(_∧_)∧_∧_);refine⟨⟨rfl,rfl⟩,?_,?_⟩<;>(with_reducible conv=>whnf)<;>repeat' (first|(with_reducible exact trivial)|(with_reducible refine And.intro ?_ ?_<;>with_reducible conv=>whnf))))
        refine aT.mk (out++ [(k:Int)],st'++a7.reverse++ [a9],[]) ⟨?_,?_⟩ ?_ ?_
        ·rw[ho,hpop];simp
        · intro c hc
          rcases List.mem_append.1 hc with h|h
          · rcases List.mem_append.1 h with h|h
            ·exact hst c (by simp[h])
            ·exact hkid c (by simp at h;simp[h])
          ·exact hkid c (by simp at h;simp[h])
        ·simp only[j7,List.length_singleton];omega
        · refine⟨⟨rfl,rfl⟩,?_⟩
          (with_reducible conv=>whnf)
          repeat' (first|(with_reducible exact trivial)|(with_reducible refine And.intro ?_ ?_<;>with_reducible conv=>whnf))
          all_goals try rfl
          ·simp
          ·exact⟨.refl (ae _),ae _⟩
          ·simp
          · refine⟨?_,ae _⟩
            rw[List.append_nil,gL (l₂:=[a9])];exact .refl (by rw[←gL];exact ae _)
end Go.Proofs.Heir
namespace Go.Proofs.Heir
open Go.Am Go.RowKit Go.Lib
set_option maxRecDepth 100000
set_option maxHeartbeats 8000000
theorem Bx (w:World)(ty:TypeId)(b o n c:Nat)(e:TypeId)(C:Array Value)(h:w.heap[b]? =some (.cells C e (0,0)))(hn:0<n)(hl:o+n≤C.size):
    ∃C',(Builtin.clear_ #[33] ty #[.slice (some ⟨b,o,none⟩) n c]).run Tryz.prog w=.ok (.tuple #[]) (w.setRow b C')∧C'.size=C.size∧∀q,q<o→C'[q]? =C[q]? :=by
  obtain⟨Z,hZ⟩:∃Z:List Value,(Builtin.zeroCells (Value.int .i64 0).cells n).toList=Z:=⟨_,rfl⟩
  have hsz:Z.length=n:=by
    rw[←hZ,Array.length_toList,size_zeroCells];exact Nat.mul_one n
  have hone:∀v∈Z,v.oneCell'=true:=by
    intro v hv
    rw[←hZ,Array.mem_toList_iff,Builtin.zeroCells,Array.mem_map] at hv
    obtain⟨i,_,rfl⟩:=hv
    show(#[Value.int .i64 0][i%1]!).oneCell'=true
    rw[Nat.mod_one];rfl
  have hst:=run_storeCells_at (P:=Tryz.prog) b o e Z 0 C w h (by rw[hsz];omega) hone
  rw[Nat.add_zero] at hst
  refine⟨(C.toList.take o++Z++C.toList.drop (o+Z.length)).toArray,?_,?_,?_⟩
  · obtain⟨m,rfl⟩:∃m,n=m+1:=⟨n-1,by omega⟩
    have hu:=Tryz.underlying33
    have hz:=Tryz.zeroValue3
    simp[Builtin.clear_,run_underlying hu,hz,hZ,hst]
  ·simp[hsz];omega
  · intro q hq
    simp only[List.getElem?_toArray]
    rw[List.append_assoc,List.getElem?_append_left (by simp;omega),List.getElem?_take,if_pos hq,Array.getElem?_toList]
theorem Bq (blk off cap n i j:Nat)(C:Array Value)(e:TypeId)(w:World)(hC:w.heap[blk]? =some (.cells C e (0,0)))(hfit:off+cap≤C.size)(hn:n≤cap)(hij:i<j)(hj:j≤n)
    (hone:∀q v,q<n→C[off+q]? =some v→v.oneCell'=true):
    Calls Tryz.prog 145 #[.slice (some ⟨blk,off,none⟩) n cap,.int .i64 i,.int .i64 j] w fun e' w'=>e'=.returned (.slice (some ⟨blk,off,none⟩) (i+ (n-j)) cap)∧
      ∃C',w'=w.drew.setRow blk C'∧C'.size=C.size∧∀q,q< (i+ (n-j))→C'[off+q]? =if q<i then C[off+q]? else C[off+q+ (j-i)]? :=by
  obtain⟨news,hnews⟩:∃news,news=(C.toList.drop (off+j)).take ((n-j)):=⟨_,rfl⟩
  have hCl:C.toList.length=C.size:=Array.length_toList
  have hlen:news.length=(n-j):=by rw[hnews,gI,List.length_drop,hCl];omega
  have hget:∀t,t< (n-j)→news[t]? =C[off+j+t]? :=by
    intro t ht
    rw[hnews,List.getElem?_take,if_pos ht,List.getElem?_drop,Array.getElem?_toList]
  have hcell:∀q,w.drew.cell? ⟨blk,q,none⟩=C[q]? :=fun q=>by
    show w.cell? _=_
    simp[World.cell?,hC]
  obtain ⟨A,hA,hsrc⟩:∃A:Addr,(if cap=j then some (⟨blk,off,none⟩:Addr) else some ⟨blk,off+j,none⟩)=some A∧Hid (∀t u,news[t]? =some u→w.drew.cell? (A.add t)=some u):=by
    by_cases h:cap=j
    · refine⟨⟨blk,off,none⟩,by simp[h],fun t u hu=>?_⟩
      have h0:news.length=0:=by rw[hlen];omega
      rw[List.length_eq_zero_iff.1 h0] at hu
      simp at hu
    · refine⟨⟨blk,off+j,none⟩,by simp[h],fun t u hu=>?_⟩
      have ht:t< (n-j):=by
        have:=(br hu).1
        rwa [hlen] at this
      rw[hget t ht] at hu
      rw[Addr.add_lit,hcell]
      exact hu
  have s1:Hid (news.length=(n-j)):=hlen
  have s2:Hid (∀u∈news,u.oneCell'=true):=by
    intro u hu
    obtain⟨t,ht⟩:=List.getElem?_of_mem hu
    have hlt:=(br ht).1
    rw[hlen] at hlt
    rw[hget t hlt,Nat.add_assoc] at ht
    exact hone _ u (by omega) ht
  have s3:Hid (∀t,t<news.length→(w.drew.cell? ⟨blk,off+i+t,none⟩).isSome=true∧w.drew.frozen? ⟨blk,off+i+t,none⟩=false):=by
    intro t ht
    rw[hlen] at ht
    refine⟨?_,?_⟩
    ·rw[hcell,Array.getElem?_eq_getElem (by omega)];rfl
    · show w.frozen? _=false
      simp[World.frozen?,hC]
  obtain⟨C1,hC1,hC1s,hC1q⟩:=pR blk e (0,0) news (off+i) C w.drew hC (by rw[hlen];omega)
  obtain⟨W1,hW1⟩:∃W1,W1=w.drew.setCells blk (off+i) news:=⟨_,rfl⟩
  have hW1h:W1.heap[blk]? =some (.cells C1 e (0,0)):=by rw[hW1,hC1];exact setRow_heap w.drew blk C C1 e (0,0) hC
  obtain⟨C2,hcl0,hC2s,hC2q⟩:=Bx W1 0 blk (off+ (i+ (n-j))) (n- (i+ (n-j))) (cap- (i+ (n-j))) e C1 hW1h (by omega) (by omega)
  have hcl:∀ty,(Builtin.clear_ #[33] ty #[.slice (some ⟨blk,off+ (i+ (n-j)),none⟩) (n- (i+ (n-j))) (cap- (i+ (n-j)))]).run Tryz.prog W1=.ok (.tuple #[]) (W1.setRow blk C2):=fun ty=>hcl0
  have hW:Hid (W1=w.drew.setCells blk (off+i) news):=hW1
  have hfin:Hid (W1.setRow blk C2=w.drew.setRow blk C2∧C2.size=C.size∧∀q,q< (i+ (n-j))→C2[off+q]? =if q<i then C[off+q]? else C[off+q+ (j-i)]?):=by
    refine⟨by rw[hW1,hC1,setRow_setRow],by omega,fun q hq=>?_⟩
    rw[hC2q _ (by omega),hC1q,hlen]
    by_cases h:q<i
    ·rw[if_pos h,if_neg (by omega)]
    · rw[if_neg h,if_pos (by omega),hget _ (by omega)]
      congr 1;omega
  have hic:i≤cap:=by omega
  have hjc:j≤cap:=by omega
  obtain⟨i0,hi0,hz1⟩:∃i0,Tryz.prog.info? 3=some i0∧i0.size=1:=⟨(Tryz.prog.info? 3).getD default,by kernel_rfl,by kernel_rfl⟩
  clear hW1 hW1h hC1 hC1s hC1q hC2s hC2q hcl0 hget hcell hnews hlen hone hC hCl
  have mixed:Tryz.prog.follows Departure.mixedOrders=true:=by kernel_rfl
  go_enter Tryz.func145,Tryz.ntmps145
  go_wp2_with fail
  go_region_law_o (refine step_append_room rfl (.tmp 22) (.tmp 25) 33 rfl 3 i0 1 Tryz.underlying33 hi0 hz1 blk off i cap (by simp[Act.eval,Act.put]) A (n-j) (cap-j) news (by simp[Act.eval,Act.put]) (by rw[Nat.mul_one];exact s1.out) hsrc.out s2.out (by omega) (by simpa only[Nat.mul_one] using s3.out) ?_;rw[show off+i*1=off+i from by rw[Nat.mul_one],←hW.out])
  go_wp2
  go_ret
  exact⟨rfl,C2,hfin.out⟩
theorem AP {rows:List AV}(hone:lX (flat rows)=true)(i j:Nat)(hij:i<j)(hj:j≤rows.length):
    an Tryz.prog 145 [.live 1 rows false] [.own 0 0 rows.length,ay i,ay j] [.dead,.live 1 (rows.take i++rows.drop j) false] (.own 1 0 (i+ (rows.length-j))):=by
  intro w W0 L vs hL hs hr
  obtain⟨v0,v1,v2,rfl⟩:∃v0 v1 v2,vs=[v0,v1,v2]:=by
    have:=hr.1
    match vs,this with
    |[a,b,c],_=>exact⟨a,b,c,rfl⟩
  have h1:=hr.2 1 _ v1 rfl rfl
  have h2:=hr.2 2 _ v2 rfl rfl
  cases h1;cases h2
  have h0:=hr.2 0 _ v0 rfl rfl
  obtain⟨B,hB,hobj⟩:=hs.objs 0 1 rows false rfl
  generalize hn:rows.length=n at h0
  cases h0 with
  |ownNil a1=>omega
  | @own _ _ _ cap e' n' B' a1 av ap a2 a3 a4=>
    rw[hB] at a1;cases a1
    subst hn
    obtain⟨C,e,fz,c1,c2,c3⟩:=hobj.blk av ap
    rw[c2 rfl] at c1
    have hwd:=hobj.width
    have hn':C.size=n':=by simp[World.shape?,c1] at a3;exact a3.2
    rw[hwd,Nat.zero_mul,Nat.add_zero]
    rw[hwd,Nat.zero_add] at a4
    have hfl:=dA hobj.wide
    have hcell:∀ (q:Nat) (c:AV),(flat rows)[q]? =some c→∃v,C[B.o+q]? =some v∧cm (Wr W0 L (aD [.live 1 rows false])) L w c v:=fun q c hq=>by
      obtain⟨v,k1,k2⟩:=hobj.cell ap q c hq
      exact⟨v,by simpa[World.cell?,c1] using k1,k2⟩
    refine(Bq B.b B.o cap rows.length i j C e w c1 (by omega) a2 hij hj (fun q v hq hv=>?_)).mono ?_
    · obtain⟨v',k1,k2⟩:=hcell q _ (bh (by rw[hfl];omega))
      rw[hv] at k1;cases k1
      exact k2.one (List.all_eq_true.1 hone _ (List.getElem_mem _))
    · rintro e2 w' ⟨rfl,C',rfl,hsz,hq⟩
      have hwide:bB 1 (rows.take i++rows.drop j):=(hobj.wide.sub fun r hr=>List.mem_of_mem_take hr).append (hobj.wide.sub fun r hr=>List.mem_of_mem_drop hr)
      have hlen:(rows.take i++rows.drop j).length=i+ (rows.length-j):=by simp;omega
      have hre:=(hs.drawn (w.drawn+1)).reuse (t:=0) (tn:=1) (off:=0) (rows':=rows.take i++rows.drop j) (C':=C') rfl hB av rfl c1 hsz hwide (by rw[hlen];omega) (fun q c hc=>by
        rw[mT,qy hobj.wide,qB hobj.wide,List.getElem?_append,gI,hfl,Nat.min_eq_left (by omega)] at hc
        have hlt:=hq q
        rw[Nat.zero_mul,Nat.add_zero]
        split at hc
        · rename_i hql
          rw[List.getElem?_take,if_pos hql] at hc
          obtain⟨v,k1,k2⟩:=hcell q c hc
          exact⟨v,by rw[hq q (by omega),if_pos (by omega)];exact k1,k2.grow (Grow.drawn _)⟩
        · rename_i hql
          rw[List.getElem?_drop] at hc
          have hin:=(br hc).1
          rw[hfl] at hin
          obtain⟨v,k1,k2⟩:=hcell _ c hc
          refine⟨v,?_,k2.grow (Grow.drawn _)⟩
          rw[hq q (by omega),if_neg (by omega),←k1]
          congr 1;omega)
      have hst:(⟨(bare [.live 1 rows false]).slots,bg (bare [.live 1 rows false]).mem [(1,.live 1 (rows.take i++rows.drop j) false),(0,.dead)]⟩:au)=bare [.dead,.live 1 (rows.take i++rows.drop j) false]:=by
        unfold bare
        congr 1
        funext t
        match t with
        |0=>rfl
        |1=>rfl
        |t+2=>simp[bg,aD]
      rw[hst] at hre
      refine⟨_,_,rfl,hre,?_⟩
      have:=cm.own (W:=Wr W0 (bq L 1 ⟨B.b,B.o+0,1,false,false⟩) (aD [.dead,.live 1 (rows.take i++rows.drop j) false])) (μ:=bq L 1 ⟨B.b,B.o+0,1,false,false⟩)
        (w:=w.drew.setRow B.b C') (t:=1) (off:=0) (len:=i+ (rows.length-j)) (cap:=cap) (e:=e) (n:=C.size) (B:=⟨B.b,B.o+0,1,false,false⟩) (by simp[bq]) rfl rfl (by omega)
        (by simp[World.shape?,setRow_heap w.drew B.b C C' e (0,0) c1,hsz]) (by simp only[Nat.zero_add];omega)
      simpa using this
end Go.Proofs.Heir
