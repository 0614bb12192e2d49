/- Models, plain laws and contracts of functions of the given program; conditions as stated in each theorem. By an AI agent. -/
import Derived.Test.YtkhjcnjicjgfiaaGreatDoorWO15
import Derived.Test.YtkhjcnjicjgfiaaGreatDoorWO16
import Derived.Test.YtkhjcnjicjgfiaaGreatDoorWO14
import Derived.Shelf.RegionOpenPlain
import Derived.WalkKit
import Derived.IntWalk
import Derived.RangeFuncSeq
import Derived.Deep.RegionLaw
import Derived.Lib.SliceRun
import Derived.Laws.Tables
import Derived.Laws.CopyRow
import Derived.Sort.WalkB12
set_option linter.unusedSimpArgs false
set_option linter.unusedVariables false
namespace Go.Proofs.Heir
open Go Go.Am Go.RowKit Go.Lib
set_option maxRecDepth 100000
set_option maxHeartbeats 16000000 in
/-- shade.All -/
theorem C6 (f:ForM)(hs:bE f.nodes)(n:Int)(e0:(aX f&&af f.nodes n)=true):an Tryz.prog 82 [] [aY f,aj n] [iX (lU f n)] (.own 0 0 (lU f n).length):=by
  have h86:=xK f hs [n] (by simp)
  have e1:(aX f&& !decide (0≤eC (fun n=> !af f.nodes n) [n]))=(aX f&&af f.nodes n):=by
    congr 1
    unfold eC
    cases h:af f.nodes n<;>simp[List.findIdx?_cons,h]
  rw[e1] at h86
  obtain⟨l,m⟩:=f
  unfold lU
  simp only at h86 e0 ⊢
  rw[if_pos e0]
  have hlm:(l.map bJ).length=l.length:=cj ..
  refine an.aF (rvs:=[.tmp 4]) G au Tryz.func82 rfl Tryz.ntmps82 rfl rfl ?_;delta List.toArray;((with_reducible conv=>whnf);(with_reducible conv=>congr<;>reduce);repeat((first|(with_reducible refine bG.mk ?_)|(with_reducible refine bF.mk ?_));(with_reducible conv=>whnf);(with_reducible conv=>congr<;>reduce)))
  rw[e0] at h86
  refine aa.lit [141] h86 H7 ⟨⟨rfl,rfl,trivial⟩,dj (l:=[n]) rfl rfl rfl rfl,trivial⟩ rfl rfl ?_;((with_reducible conv=>whnf);(with_reducible conv=>congr<;>reduce);repeat((first|(with_reducible refine bG.mk ?_)|(with_reducible refine bF.mk ?_));(with_reducible conv=>whnf);(with_reducible conv=>congr<;>reduce)))
  obtain⟨hr,hn⟩:aX ⟨l,m⟩=true∧af l n=true:=by simpa using e0
  have T:=U.gl hr
  have hol:=U.sL T l.length hn
  simp only at T hol
  repeat' (first|(first|((with_reducible show bk _ _ _ _);first|refine bk.ff ?_|refine bk.tt ?_|refine bk.no (by first|rfl|assumption|exact nf (by assumption)|exact nt (by assumption)|((try simp only[ay]);first|(simp[];done)|(simp[];omega))) ?_|refine bk.yes (by first|rfl|assumption|exact nf (by assumption)|exact nt (by assumption)|((try simp only[ay]);first|(simp[];done)|(simp[];omega))) ?_)|((with_reducible show bC _ _ _ _);refine bC.mk (by(try simp only[ay]);omega) ?_)|((with_reducible show aL _ _ _ _);refine aL.mk (by kernel_rfl) (by kernel_rfl) (by kernel_rfl) ?_))<;>((with_reducible conv=>whnf);(with_reducible conv=>congr<;>reduce);repeat((first|(with_reducible refine bG.mk ?_)|(with_reducible refine bF.mk ?_));(with_reducible conv=>whnf);(with_reducible conv=>congr<;>reduce)))|((with_reducible show(_∧_)∧_∧_);refine⟨⟨rfl,rfl⟩,?_,?_⟩<;>(with_reducible conv=>whnf)<;>repeat' (first|(with_reducible exact trivial)|(with_reducible refine And.intro ?_ ?_<;>with_reducible conv=>whnf))))
  refine cn.ghost 5 51 1 rfl rfl ?_
  refine cn.use G au (fun(i:List Int×List Int×List Int)=>[(2,.ptr 20 0 0),(5,.own 51 0 i.1.length),(6,.ptr 60 0 0)])
    (fun i=>[(20,.live 2 [aY ⟨l,m⟩] false),(51,iX i.1),(60,.live 1 [.own 181 0 i.2.1.length] false),(181,iX (i.2.1++i.2.2))])
    (fun i=>U.bX l l.length n=i.1++U.rest l i.2.1∧∀c∈i.2.1,af l c=true) (fun i=>l.length-i.1.length) ([],[n],[]) ⟨by simp[U.rest],fun c hc=>by rw[gg] at hc;subst hc;exact hn⟩
    (by refine⟨⟨rfl,rfl⟩,⟨⟨rfl,rfl⟩,⟨rfl,rfl⟩,⟨rfl,rfl⟩,trivial⟩,⟨⟨rfl,rfl,trivial⟩,trivial⟩,⟨.refl rfl,ae _⟩,⟨⟨rfl,rfl⟩,trivial⟩,⟨.refl rfl,ae _⟩,trivial⟩) ?_
  rintro⟨out,st,sp⟩ ⟨ho,hst⟩
  simp only at ho hst
  ((with_reducible conv=>whnf);(with_reducible conv=>congr<;>reduce);repeat((first|(with_reducible refine bG.mk ?_)|(with_reducible refine bF.mk ?_));(with_reducible conv=>whnf);(with_reducible conv=>congr<;>reduce)))
  have hoL:=congrArg List.length ho
  rw[jH] at hoL
  have hol':out.length=(out.map bV).length:=(cj ..).symm
  have hrl:=U.za T hst
  have hl60:=hs.len
  simp only at hl60
  obtain h|⟨st',t,h⟩:=List.eq_nil_or_concat st<;>(try rw[List.concat_eq_append] at h)<;>subst h
  · repeat' (first|(first|((with_reducible show bk _ _ _ _);first|refine bk.ff ?_|refine bk.tt ?_|refine bk.no (by first|rfl|assumption|exact nf (by assumption)|exact nt (by assumption)|((try simp only[ay]);first|(simp[];done)|(simp[];omega))) ?_|refine bk.yes (by first|rfl|assumption|exact nf (by assumption)|exact nt (by assumption)|((try simp only[ay]);first|(simp[];done)|(simp[];omega))) ?_)|((with_reducible show bC _ _ _ _);refine bC.mk (by(try simp only[ay]);omega) ?_)|((with_reducible show aL _ _ _ _);refine aL.mk (by kernel_rfl) (by kernel_rfl) (by kernel_rfl) ?_))<;>((with_reducible conv=>whnf);(with_reducible conv=>congr<;>reduce);repeat((first|(with_reducible refine bG.mk ?_)|(with_reducible refine bF.mk ?_));(with_reducible conv=>whnf);(with_reducible conv=>congr<;>reduce)))|((with_reducible show(_∧_)∧_∧_);refine⟨⟨rfl,rfl⟩,?_,?_⟩<;>(with_reducible conv=>whnf)<;>repeat' (first|(with_reducible exact trivial)|(with_reducible refine And.intro ?_ ?_<;>with_reducible conv=>whnf))))
    all_goals have ho':U.bX l l.length n=out:=by rw[ho];simp[U.rest]
    all_goals clear ho hoL
    all_goals subst ho'
    all_goals first|rfl|exact bP (ae _)
  · have ht :=hst t (by simp)
    have hlen:(st'++ [t]).length=st'.length+1:=by simp
    obtain⟨k,x,rfl,hx,hnx⟩:=aU.1 ht
    rw[hlen]
    rw[hlen] at hrl
    repeat' (first|(first|((with_reducible show bk _ _ _ _);first|refine bk.ff ?_|refine bk.tt ?_|refine bk.no (by first|rfl|assumption|exact nf (by assumption)|exact nt (by assumption)|((try simp only[ay]);first|(simp[];done)|(simp[];omega))) ?_|refine bk.yes (by first|rfl|assumption|exact nf (by assumption)|exact nt (by assumption)|((try simp only[ay]);first|(simp[];done)|(simp[];omega))) ?_)|((with_reducible show bC _ _ _ _);refine bC.mk (by(try simp only[ay]);omega) ?_)|((with_reducible show aL _ _ _ _);refine aL.mk (by kernel_rfl) (by kernel_rfl) (by kernel_rfl) ?_))<;>((with_reducible conv=>whnf);(with_reducible conv=>congr<;>reduce);repeat((first|(with_reducible refine bG.mk ?_)|(with_reducible refine bF.mk ?_));(with_reducible conv=>whnf);(with_reducible conv=>congr<;>reduce)))|((with_reducible show(_∧_)∧_∧_);refine⟨⟨rfl,rfl⟩,?_,?_⟩<;>(with_reducible conv=>whnf)<;>repeat' (first|(with_reducible exact trivial)|(with_reducible refine And.intro ?_ ?_<;>with_reducible conv=>whnf))))
    refine eO.mk st'.length (by(try simp only[ay]);omega) (by omega) ?_;((with_reducible conv=>whnf);(with_reducible conv=>congr<;>reduce);repeat((first|(with_reducible refine bG.mk ?_)|(with_reducible refine bF.mk ?_));(with_reducible conv=>whnf);(with_reducible conv=>congr<;>reduce)))
    refine aZ.mk (aj (k:Int)) (by rw[Nat.zero_add,fH,List.append_assoc,List.getElem?_append_right (Nat.le_refl _),Nat.sub_self];rfl) ?_;((with_reducible conv=>whnf);(with_reducible conv=>congr<;>reduce);repeat((first|(with_reducible refine bG.mk ?_)|(with_reducible refine bF.mk ?_));(with_reducible conv=>whnf);(with_reducible conv=>congr<;>reduce)))
    repeat' (first|(first|((with_reducible show bk _ _ _ _);first|refine bk.ff ?_|refine bk.tt ?_|refine bk.no (by first|rfl|assumption|exact nf (by assumption)|exact nt (by assumption)|((try simp only[ay]);first|(simp[];done)|(simp[];omega))) ?_|refine bk.yes (by first|rfl|assumption|exact nf (by assumption)|exact nt (by assumption)|((try simp only[ay]);first|(simp[];done)|(simp[];omega))) ?_)|((with_reducible show bC _ _ _ _);refine bC.mk (by(try simp only[ay]);omega) ?_)|((with_reducible show aL _ _ _ _);refine aL.mk (by kernel_rfl) (by kernel_rfl) (by kernel_rfl) ?_))<;>((with_reducible conv=>whnf);(with_reducible conv=>congr<;>reduce);repeat((first|(with_reducible refine bG.mk ?_)|(with_reducible refine bF.mk ?_));(with_reducible conv=>whnf);(with_reducible conv=>congr<;>reduce)))|((with_reducible show(_∧_)∧_∧_);refine⟨⟨rfl,rfl⟩,?_,?_⟩<;>(with_reducible conv=>whnf)<;>repeat' (first|(with_reducible exact trivial)|(with_reducible refine And.intro ?_ ?_<;>with_reducible conv=>whnf))))
    refine Bi.mk 0 st'.length rfl (by(try simp only[ay]);omega) (by omega) ?_;((with_reducible conv=>whnf);(with_reducible conv=>congr<;>reduce);repeat((first|(with_reducible refine bG.mk ?_)|(with_reducible refine bF.mk ?_));(with_reducible conv=>whnf);(with_reducible conv=>congr<;>reduce)))
    repeat' (first|(first|((with_reducible show bk _ _ _ _);first|refine bk.ff ?_|refine bk.tt ?_|refine bk.no (by first|rfl|assumption|exact nf (by assumption)|exact nt (by assumption)|((try simp only[ay]);first|(simp[];done)|(simp[];omega))) ?_|refine bk.yes (by first|rfl|assumption|exact nf (by assumption)|exact nt (by assumption)|((try simp only[ay]);first|(simp[];done)|(simp[];omega))) ?_)|((with_reducible show bC _ _ _ _);refine bC.mk (by(try simp only[ay]);omega) ?_)|((with_reducible show aL _ _ _ _);refine aL.mk (by kernel_rfl) (by kernel_rfl) (by kernel_rfl) ?_))<;>((with_reducible conv=>whnf);(with_reducible conv=>congr<;>reduce);repeat((first|(with_reducible refine bG.mk ?_)|(with_reducible refine bF.mk ?_));(with_reducible conv=>whnf);(with_reducible conv=>congr<;>reduce)))|((with_reducible show(_∧_)∧_∧_);refine⟨⟨rfl,rfl⟩,?_,?_⟩<;>(with_reducible conv=>whnf)<;>repeat' (first|(with_reducible exact trivial)|(with_reducible refine And.intro ?_ ?_<;>with_reducible conv=>whnf))))
    refine j0.mk (out.map bV) [aj (k:Int)] ⟨rfl,hol',rfl⟩ ⟨rfl,rfl,rfl⟩ rfl (by simp;omega) (by simp;omega) ?_;((with_reducible conv=>whnf);(with_reducible conv=>congr<;>reduce);repeat((first|(with_reducible refine bG.mk ?_)|(with_reducible refine bF.mk ?_));(with_reducible conv=>whnf);(with_reducible conv=>congr<;>reduce)))
    repeat' (first|(first|((with_reducible show bk _ _ _ _);first|refine bk.ff ?_|refine bk.tt ?_|refine bk.no (by first|rfl|assumption|exact nf (by assumption)|exact nt (by assumption)|((try simp only[ay]);first|(simp[];done)|(simp[];omega))) ?_|refine bk.yes (by first|rfl|assumption|exact nf (by assumption)|exact nt (by assumption)|((try simp only[ay]);first|(simp[];done)|(simp[];omega))) ?_)|((with_reducible show bC _ _ _ _);refine bC.mk (by(try simp only[ay]);omega) ?_)|((with_reducible show aL _ _ _ _);refine aL.mk (by kernel_rfl) (by kernel_rfl) (by kernel_rfl) ?_))<;>((with_reducible conv=>whnf);(with_reducible conv=>congr<;>reduce);repeat((first|(with_reducible refine bG.mk ?_)|(with_reducible refine bF.mk ?_));(with_reducible conv=>whnf);(with_reducible conv=>congr<;>reduce)))|((with_reducible show(_∧_)∧_∧_);refine⟨⟨rfl,rfl⟩,?_,?_⟩<;>(with_reducible conv=>whnf)<;>repeat' (first|(with_reducible exact trivial)|(with_reducible refine And.intro ?_ ?_<;>with_reducible conv=>whnf))))
    obtain⟨a1,a2,a3,a4,a5,a6,a7,a8,a9,a10⟩:=x
    refine aG.mk k (az ⟨a1,a2,a3,a4,a5,a6,a7,a8,a9,a10⟩) rfl (ah hx) ?_;((with_reducible conv=>whnf);(with_reducible conv=>congr<;>reduce);repeat((first|(with_reducible refine bG.mk ?_)|(with_reducible refine bF.mk ?_));(with_reducible conv=>whnf);(with_reducible conv=>congr<;>reduce)))
    repeat' (first|(first|((with_reducible show bk _ _ _ _);first|refine bk.ff ?_|refine bk.tt ?_|refine bk.no (by first|rfl|assumption|exact nf (by assumption)|exact nt (by assumption)|((try simp only[ay]);first|(simp[];done)|(simp[];omega))) ?_|refine bk.yes (by first|rfl|assumption|exact nf (by assumption)|exact nt (by assumption)|((try simp only[ay]);first|(simp[];done)|(simp[];omega))) ?_)|((with_reducible show bC _ _ _ _);refine bC.mk (by(try simp only[ay]);omega) ?_)|((with_reducible show aL _ _ _ _);refine aL.mk (by kernel_rfl) (by kernel_rfl) (by kernel_rfl) ?_))<;>((with_reducible conv=>whnf);(with_reducible conv=>congr<;>reduce);repeat((first|(with_reducible refine bG.mk ?_)|(with_reducible refine bF.mk ?_));(with_reducible conv=>whnf);(with_reducible conv=>congr<;>reduce)))|((with_reducible show(_∧_)∧_∧_);refine⟨⟨rfl,rfl⟩,?_,?_⟩<;>(with_reducible conv=>whnf)<;>repeat' (first|(with_reducible exact trivial)|(with_reducible refine And.intro ?_ ?_<;>with_reducible conv=>whnf))))
    refine aa.val [] (JN a7) Nr ⟨rfl,trivial⟩ rfl rfl rfl ?_;((with_reducible conv=>whnf);(with_reducible conv=>congr<;>reduce);repeat((first|(with_reducible refine bG.mk ?_)|(with_reducible refine bF.mk ?_));(with_reducible conv=>whnf);(with_reducible conv=>congr<;>reduce)))
    repeat' (first|(first|((with_reducible show bk _ _ _ _);first|refine bk.ff ?_|refine bk.tt ?_|refine bk.no (by first|rfl|assumption|exact nf (by assumption)|exact nt (by assumption)|((try simp only[ay]);first|(simp[];done)|(simp[];omega))) ?_|refine bk.yes (by first|rfl|assumption|exact nf (by assumption)|exact nt (by assumption)|((try simp only[ay]);first|(simp[];done)|(simp[];omega))) ?_)|((with_reducible show bC _ _ _ _);refine bC.mk (by(try simp only[ay]);omega) ?_)|((with_reducible show aL _ _ _ _);refine aL.mk (by kernel_rfl) (by kernel_rfl) (by kernel_rfl) ?_))<;>((with_reducible conv=>whnf);(with_reducible conv=>congr<;>reduce);repeat((first|(with_reducible refine bG.mk ?_)|(with_reducible refine bF.mk ?_));(with_reducible conv=>whnf);(with_reducible conv=>congr<;>reduce)))|((with_reducible show(_∧_)∧_∧_);refine⟨⟨rfl,rfl⟩,?_,?_⟩<;>(with_reducible conv=>whnf)<;>repeat' (first|(with_reducible exact trivial)|(with_reducible refine And.intro ?_ ?_<;>with_reducible conv=>whnf))))
    obtain⟨spF,hs0,hs1⟩:∃spF:Nat→List Int,spF 0=(k:Int)::sp∧∀j,spF (j+1)=[]:=⟨fun j=>match j with|0=>(k:Int)::sp|_+1=>[],rfl,fun _=>rfl⟩
    have hk7:=hs.kids _ (bT hx)
    simp only at hk7
    refine cn.range G au 4 [(2,.ptr 1 0 0),(5,.own 3 0 (out.length+1)),(6,.ptr 0 0 0),(9,.ptr 2 0 0),(43,.clo (.func 193) [] [.fptr (cF a7) 0])]
      (fun j=>[(0,.live 1 [.own 181 0 (st'.length+j)] false),(1,.live 2 [aY ⟨l,m⟩] false),(2,.live 10 [az ⟨a1,a2,a3,a4,a5,a6,a7,a8,a9,a10⟩] false),(3,iX (out++ [(k:Int)])),(181,iX (st'++a7.reverse.take j++spF j))])
      (JC a7 (by omega)) NP ?_ rfl ⟨⟨rfl,rfl⟩,rfl⟩ (fun _ _=>rfl) (fun _ _=>rfl) ⟨⟨rfl,rfl⟩,rfl,rfl⟩ ?_ ?_
    · refine⟨⟨rfl,rfl⟩,?_⟩
      (with_reducible conv=>whnf)
      repeat' (first|(with_reducible exact trivial)|(with_reducible refine And.intro ?_ ?_<;>with_reducible conv=>whnf))
      all_goals try rfl
      ·simp
      ·exact⟨.refl rfl,rfl⟩
      ·exact⟨.refl rfl,rfl⟩
      · refine⟨?_,ae _⟩
        rw[←show(out++ [(k:Int)]).map bV=out.map bV++ [AV.lit (.int .i64 k)] by simp;rfl]
        exact .refl (ae _)
      · refine⟨?_,ae _⟩
        rw[hs0,List.take_zero,List.append_nil,show st'++ [(k:Int)]++sp=st'++ (k:Int)::sp by simp];exact .refl (ae _)
    · intro j hj
      ((with_reducible conv=>whnf);(with_reducible conv=>congr<;>reduce);repeat((first|(with_reducible refine bG.mk ?_)|(with_reducible refine bF.mk ?_));(with_reducible conv=>whnf);(with_reducible conv=>congr<;>reduce)))
      refine Cc.mk rfl ?_;((with_reducible conv=>whnf);(with_reducible conv=>congr<;>reduce);repeat((first|(with_reducible refine bG.mk ?_)|(with_reducible refine bF.mk ?_));(with_reducible conv=>whnf);(with_reducible conv=>congr<;>reduce)))
      repeat' (first|(first|((with_reducible show bk _ _ _ _);first|refine bk.ff ?_|refine bk.tt ?_|refine bk.no (by first|rfl|assumption|exact nf (by assumption)|exact nt (by assumption)|((try simp only[ay]);first|(simp[];done)|(simp[];omega))) ?_|refine bk.yes (by first|rfl|assumption|exact nf (by assumption)|exact nt (by assumption)|((try simp only[ay]);first|(simp[];done)|(simp[];omega))) ?_)|((with_reducible show bC _ _ _ _);refine bC.mk (by(try simp only[ay]);omega) ?_)|((with_reducible show aL _ _ _ _);refine aL.mk (by kernel_rfl) (by kernel_rfl) (by kernel_rfl) ?_))<;>((with_reducible conv=>whnf);(with_reducible conv=>congr<;>reduce);repeat((first|(with_reducible refine bG.mk ?_)|(with_reducible refine bF.mk ?_));(with_reducible conv=>whnf);(with_reducible conv=>congr<;>reduce)))|((with_reducible show(_∧_)∧_∧_);refine⟨⟨rfl,rfl⟩,?_,?_⟩<;>(with_reducible conv=>whnf)<;>repeat' (first|(with_reducible exact trivial)|(with_reducible refine And.intro ?_ ?_<;>with_reducible conv=>whnf))))
      refine j0.take ((st'++a7.reverse.take j).map bV) [bV ((a7.reverse[j]?).getD 0)] ⟨rfl,by simp;omega,by rw[gY (l₂:=spF j),List.take_left' (by simp;omega)]⟩ ⟨rfl,rfl,rfl⟩ rfl (by simp;omega) (by simp;omega) ?_
      ((with_reducible conv=>whnf);(with_reducible conv=>congr<;>reduce);repeat((first|(with_reducible refine bG.mk ?_)|(with_reducible refine bF.mk ?_));(with_reducible conv=>whnf);(with_reducible conv=>congr<;>reduce)))
      repeat' (first|(first|((with_reducible show bk _ _ _ _);first|refine bk.ff ?_|refine bk.tt ?_|refine bk.no (by first|rfl|assumption|exact nf (by assumption)|exact nt (by assumption)|((try simp only[ay]);first|(simp[];done)|(simp[];omega))) ?_|refine bk.yes (by first|rfl|assumption|exact nf (by assumption)|exact nt (by assumption)|((try simp only[ay]);first|(simp[];done)|(simp[];omega))) ?_)|((with_reducible show bC _ _ _ _);refine bC.mk (by(try simp only[ay]);omega) ?_)|((with_reducible show aL _ _ _ _);refine aL.mk (by kernel_rfl) (by kernel_rfl) (by kernel_rfl) ?_))<;>((with_reducible conv=>whnf);(with_reducible conv=>congr<;>reduce);repeat((first|(with_reducible refine bG.mk ?_)|(with_reducible refine bF.mk ?_));(with_reducible conv=>whnf);(with_reducible conv=>congr<;>reduce)))|((with_reducible show(_∧_)∧_∧_);refine⟨⟨rfl,rfl⟩,?_,?_⟩<;>(with_reducible conv=>whnf)<;>repeat' (first|(with_reducible exact trivial)|(with_reducible refine And.intro ?_ ?_<;>with_reducible conv=>whnf))))
      refine CZ.mk ?_
      obtain⟨c,hc⟩:∃c,a7.reverse[j]? =some c:=⟨_,bz (by simpa using hj)⟩
      have htk:a7.reverse.take (j+1)=a7.reverse.take j++ [c]:=by rw[List.take_add_one,hc];rfl
      rw[hc,Option.getD_some]
      refine⟨⟨rfl,rfl⟩,?_⟩
      (with_reducible conv=>whnf)
      repeat' (first|(with_reducible exact trivial)|(with_reducible refine And.intro ?_ ?_<;>with_reducible conv=>whnf))
      all_goals try rfl
      ·simp;omega
      ·exact⟨.refl rfl,rfl⟩
      ·exact⟨.refl rfl,rfl⟩
      ·exact⟨.refl (ae _),ae _⟩
      · refine⟨?_,ae _⟩
        rw[hs1,htk,List.append_nil,←List.append_assoc,gY (l₂:=[c])];exact .refl (by rw[←gY];exact ae _)
    · ((with_reducible conv=>whnf);(with_reducible conv=>congr<;>reduce);repeat((first|(with_reducible refine bG.mk ?_)|(with_reducible refine bF.mk ?_));(with_reducible conv=>whnf);(with_reducible conv=>congr<;>reduce)))
      refine aZ.mk (az ⟨a1,a2,a3,a4,a5,a6,a7,a8,a9,a10⟩) rfl ?_;((with_reducible conv=>whnf);(with_reducible conv=>congr<;>reduce);repeat((first|(with_reducible refine bG.mk ?_)|(with_reducible refine bF.mk ?_));(with_reducible conv=>whnf);(with_reducible conv=>congr<;>reduce)))
      have hT:nd l k=⟨a1,a2,a3,a4,a5,a6,a7,a8,a9,a10⟩:=hnx
      have hch:DK (nd l k)=(if a9=-1 then[] else[a9])++a7:=by rw[hT];rfl
      have hpop:=U.zQ T (st:=st') ht
      rw[hch] at hpop
      have hkid:∀c∈ (if a9=-1 then[] else[a9])++a7,af l c=true:=fun c hc=>(T.kid k ht c (by rw[hch];exact hc)).1
      have hta:a7.reverse.take a7.length=a7.reverse:=qB (by simp)
      by_cases e9:a9=-1
      · subst e9
        rw[if_pos rfl,List.nil_append] at hpop hkid
        repeat' (first|(first|((with_reducible show bk _ _ _ _);first|refine bk.ff ?_|refine bk.tt ?_|refine bk.no (by first|rfl|assumption|exact nf (by assumption)|exact nt (by assumption)|((try simp only[ay]);first|(simp[];done)|(simp[];omega))) ?_|refine bk.yes (by first|rfl|assumption|exact nf (by assumption)|exact nt (by assumption)|((try simp only[ay]);first|(simp[];done)|(simp[];omega))) ?_)|((with_reducible show bC _ _ _ _);refine bC.mk (by(try simp only[ay]);omega) ?_)|((with_reducible show aL _ _ _ _);refine aL.mk (by kernel_rfl) (by kernel_rfl) (by kernel_rfl) ?_))<;>((with_reducible conv=>whnf);(with_reducible conv=>congr<;>reduce);repeat((first|(with_reducible refine bG.mk ?_)|(with_reducible refine bF.mk ?_));(with_reducible conv=>whnf);(with_reducible conv=>congr<;>reduce)))|((with_reducible show(_∧_)∧_∧_);refine⟨⟨rfl,rfl⟩,?_,?_⟩<;>(with_reducible conv=>whnf)<;>repeat' (first|(with_reducible exact trivial)|(with_reducible refine And.intro ?_ ?_<;>with_reducible conv=>whnf))))
        refine cm.mk (out++ [(k:Int)],st'++a7.reverse,spF a7.length) ⟨?_,?_⟩ ?_ ?_
        ·rw[ho,hpop];simp
        · intro c hc
          rcases List.mem_append.1 hc with h|h
          ·exact hst c (by simp[h])
          ·exact hkid c (by simpa using h)
        ·simp only[jH,List.length_singleton];omega
        · refine⟨⟨rfl,rfl⟩,?_⟩
          (with_reducible conv=>whnf)
          repeat' (first|(with_reducible exact trivial)|(with_reducible refine And.intro ?_ ?_<;>with_reducible conv=>whnf))
          all_goals try rfl
          ·simp
          ·exact⟨.refl (ae _),ae _⟩
          ·simp
          · refine⟨?_,ae _⟩
            rw[hta];exact .refl (ae _)
      · rw [if_neg e9] at hpop hkid
        repeat' (first|(first|((with_reducible show bk _ _ _ _);first|refine bk.ff ?_|refine bk.tt ?_|refine bk.no (by first|rfl|assumption|exact nf (by assumption)|exact nt (by assumption)|((try simp only[ay]);first|(simp[e9];done)|(simp[e9];omega))) ?_|refine bk.yes (by first|rfl|assumption|exact nf (by assumption)|exact nt (by assumption)|((try simp only[ay]);first|(simp[e9];done)|(simp[e9];omega))) ?_)|((with_reducible show bC _ _ _ _);refine bC.mk (by(try simp only[ay]);omega) ?_)|((with_reducible show aL _ _ _ _);refine aL.mk (by kernel_rfl) (by kernel_rfl) (by kernel_rfl) ?_))<;>((with_reducible conv=>whnf);(with_reducible conv=>congr<;>reduce);repeat((first|(with_reducible refine bG.mk ?_)|(with_reducible refine bF.mk ?_));(with_reducible conv=>whnf);(with_reducible conv=>congr<;>reduce)))|((with_reducible show(_∧_)∧_∧_);refine⟨⟨rfl,rfl⟩,?_,?_⟩<;>(with_reducible conv=>whnf)<;>repeat' (first|(with_reducible exact trivial)|(with_reducible refine And.intro ?_ ?_<;>with_reducible conv=>whnf))))
        refine aZ.mk (az ⟨a1,a2,a3,a4,a5,a6,a7,a8,a9,a10⟩) rfl ?_;((with_reducible conv=>whnf);(with_reducible conv=>congr<;>reduce);repeat((first|(with_reducible refine bG.mk ?_)|(with_reducible refine bF.mk ?_));(with_reducible conv=>whnf);(with_reducible conv=>congr<;>reduce)))
        repeat' (first|(first|((with_reducible show bk _ _ _ _);first|refine bk.ff ?_|refine bk.tt ?_|refine bk.no (by first|rfl|assumption|exact nf (by assumption)|exact nt (by assumption)|((try simp only[ay]);first|(simp[e9];done)|(simp[e9];omega))) ?_|refine bk.yes (by first|rfl|assumption|exact nf (by assumption)|exact nt (by assumption)|((try simp only[ay]);first|(simp[e9];done)|(simp[e9];omega))) ?_)|((with_reducible show bC _ _ _ _);refine bC.mk (by(try simp only[ay]);omega) ?_)|((with_reducible show aL _ _ _ _);refine aL.mk (by kernel_rfl) (by kernel_rfl) (by kernel_rfl) ?_))<;>((with_reducible conv=>whnf);(with_reducible conv=>congr<;>reduce);repeat((first|(with_reducible refine bG.mk ?_)|(with_reducible refine bF.mk ?_));(with_reducible conv=>whnf);(with_reducible conv=>congr<;>reduce)))|((with_reducible show(_∧_)∧_∧_);refine⟨⟨rfl,rfl⟩,?_,?_⟩<;>(with_reducible conv=>whnf)<;>repeat' (first|(with_reducible exact trivial)|(with_reducible refine And.intro ?_ ?_<;>with_reducible conv=>whnf))))
        refine j0.take ((st'++a7.reverse).map bV) [aj a9] ⟨rfl,by simp,by rw[hta,gY (l₂:=spF a7.length),List.take_left' (by simp)]⟩ ⟨rfl,rfl,rfl⟩ rfl (by simp;omega) (by simp;omega) ?_
        ((with_reducible conv=>whnf);(with_reducible conv=>congr<;>reduce);repeat((first|(with_reducible refine bG.mk ?_)|(with_reducible refine bF.mk ?_));(with_reducible conv=>whnf);(with_reducible conv=>congr<;>reduce)))
        repeat' (first|(first|((with_reducible show bk _ _ _ _);first|refine bk.ff ?_|refine bk.tt ?_|refine bk.no (by first|rfl|assumption|exact nf (by assumption)|exact nt (by assumption)|((try simp only[ay]);first|(simp[e9];done)|(simp[e9];omega))) ?_|refine bk.yes (by first|rfl|assumption|exact nf (by assumption)|exact nt (by assumption)|((try simp only[ay]);first|(simp[e9];done)|(simp[e9];omega))) ?_)|((with_reducible show bC _ _ _ _);refine bC.mk (by(try simp only[ay]);omega) ?_)|((with_reducible show aL _ _ _ _);refine aL.mk (by kernel_rfl) (by kernel_rfl) (by kernel_rfl) ?_))<;>((with_reducible conv=>whnf);(with_reducible conv=>congr<;>reduce);repeat((first|(with_reducible refine bG.mk ?_)|(with_reducible refine bF.mk ?_));(with_reducible conv=>whnf);(with_reducible conv=>congr<;>reduce)))|((with_reducible show(_∧_)∧_∧_);refine⟨⟨rfl,rfl⟩,?_,?_⟩<;>(with_reducible conv=>whnf)<;>repeat' (first|(with_reducible exact trivial)|(with_reducible refine And.intro ?_ ?_<;>with_reducible conv=>whnf))))
        refine cm.mk (out++ [(k:Int)],st'++a7.reverse++ [a9],[]) ⟨?_,?_⟩ ?_ ?_
        ·rw[ho,hpop];simp
        · intro c hc
          rcases List.mem_append.1 hc with h|h
          · rcases List.mem_append.1 h with h|h
            ·exact hst c (by simp[h])
            ·exact hkid c (by simp at h;simp[h])
          ·exact hkid c (by simp at h;simp[h])
        ·simp only[jH,List.length_singleton];omega
        · refine⟨⟨rfl,rfl⟩,?_⟩
          (with_reducible conv=>whnf)
          repeat' (first|(with_reducible exact trivial)|(with_reducible refine And.intro ?_ ?_<;>with_reducible conv=>whnf))
          all_goals try rfl
          ·simp
          ·exact⟨.refl (ae _),ae _⟩
          ·simp
          · refine⟨?_,ae _⟩
            rw[List.append_nil,gY (l₂:=[a9])];exact .refl (by rw[←gY];exact ae _)
end Go.Proofs.Heir
namespace Go.Proofs.Heir
open Go.Am Go.RowKit Go.Lib
set_option maxRecDepth 100000
set_option maxHeartbeats 8000000
theorem A7 (w:World)(ty:TypeId)(b o n c:Nat)(e:TypeId)(C:Array Value)(h:w.heap[b]? =some (.cells C e (0,0)))(hn:0<n)(hl:o+n≤C.size):
    ∃C',(Builtin.clear_ #[33] ty #[.slice (some ⟨b,o,none⟩) n c]).run Tryz.prog w=.ok (.tuple #[]) (w.setRow b C')∧C'.size=C.size∧∀q,q<o→C'[q]? =C[q]? :=by
  obtain⟨Z,hZ⟩:∃Z:List Value,(Builtin.zeroCells (Value.int .i64 0).cells n).toList=Z:=⟨_,rfl⟩
  have hsz:Z.length=n:=by
    rw[←hZ,Array.length_toList,size_zeroCells];exact Nat.mul_one n
  have hone:∀v∈Z,v.oneCell'=true:=by
    intro v hv
    rw[←hZ,Array.mem_toList_iff,Builtin.zeroCells,Array.mem_map] at hv
    obtain⟨i,_,rfl⟩:=hv
    show(#[Value.int .i64 0][i%1]!).oneCell'=true
    rw[Nat.mod_one];rfl
  have hst:=run_storeCells_at (P:=Tryz.prog) b o e Z 0 C w h (by rw[hsz];omega) hone
  rw[Nat.add_zero] at hst
  refine⟨(C.toList.take o++Z++C.toList.drop (o+Z.length)).toArray,?_,?_,?_⟩
  · obtain⟨m,rfl⟩:∃m,n=m+1:=⟨n-1,by omega⟩
    have hu:=Tryz.underlying33
    have hz:=Tryz.zeroValue3
    simp[Builtin.clear_,run_underlying hu,hz,hZ,hst]
  ·simp[hsz];omega
  · intro q hq
    simp only[List.getElem?_toArray]
    rw[List.append_assoc,r5 (by simp;omega),List.getElem?_take,if_pos hq,Array.getElem?_toList]
theorem BU (blk off cap n i j:Nat)(C:Array Value)(e:TypeId)(w:World)(hC:w.heap[blk]? =some (.cells C e (0,0)))(hfit:off+cap≤C.size)(hn:n≤cap)(hij:i<j)(hj:j≤n)
    (hone:∀q v,q<n→C[off+q]? =some v→v.oneCell'=true):
    Calls Tryz.prog 145 #[.slice (some ⟨blk,off,none⟩) n cap,.int .i64 i,.int .i64 j] w fun e' w'=>e'=.returned (.slice (some ⟨blk,off,none⟩) (i+ (n-j)) cap)∧
      ∃C',w'=w.drew.setRow blk C'∧C'.size=C.size∧∀q,q< (i+ (n-j))→C'[off+q]? =if q<i then C[off+q]? else C[off+q+ (j-i)]? :=by
  obtain⟨news,hnews⟩:∃news,news=(C.toList.drop (off+j)).take ((n-j)):=⟨_,rfl⟩
  have hCl:C.toList.length=C.size:=Array.length_toList
  have hlen:news.length=(n-j):=by rw[hnews,fP,List.length_drop,hCl];omega
  have hget:∀t,t< (n-j)→news[t]? =C[off+j+t]? :=by
    intro t ht
    rw[hnews,List.getElem?_take,if_pos ht,List.getElem?_drop,Array.getElem?_toList]
  have hcell:∀q,w.drew.cell? ⟨blk,q,none⟩=C[q]? :=fun q=>by
    show w.cell? _=_
    simp[World.cell?,hC]
  obtain ⟨A,hA,hsrc⟩:∃A:Addr,(if cap=j then some (⟨blk,off,none⟩:Addr) else some ⟨blk,off+j,none⟩)=some A∧Hid (∀t u,news[t]? =some u→w.drew.cell? (A.add t)=some u):=by
    by_cases h:cap=j
    · refine⟨⟨blk,off,none⟩,by simp[h],fun t u hu=>?_⟩
      have h0:news.length=0:=by rw[hlen];omega
      rw[List.length_eq_zero_iff.1 h0] at hu
      simp at hu
    · refine⟨⟨blk,off+j,none⟩,by simp[h],fun t u hu=>?_⟩
      have ht:t< (n-j):=by
        have:=(bg hu).1
        rwa [hlen] at this
      rw[hget t ht] at hu
      rw[Addr.add_lit,hcell]
      exact hu
  have s1:Hid (news.length=(n-j)):=hlen
  have s2:Hid (∀u∈news,u.oneCell'=true):=by
    intro u hu
    obtain⟨t,ht⟩:=List.getElem?_of_mem hu
    have hlt:=(bg ht).1
    rw[hlen] at hlt
    rw[hget t hlt,Nat.add_assoc] at ht
    exact hone _ u (by omega) ht
  have s3:Hid (∀t,t<news.length→(w.drew.cell? ⟨blk,off+i+t,none⟩).isSome=true∧w.drew.frozen? ⟨blk,off+i+t,none⟩=false):=by
    intro t ht
    rw[hlen] at ht
    refine⟨?_,?_⟩
    ·rw[hcell,Array.getElem?_eq_getElem (by omega)];rfl
    · show w.frozen? _=false
      simp[World.frozen?,hC]
  obtain⟨C1,hC1,hC1s,hC1q⟩:=eP blk e (0,0) news (off+i) C w.drew hC (by rw[hlen];omega)
  obtain⟨W1,hW1⟩:∃W1,W1=w.drew.setCells blk (off+i) news:=⟨_,rfl⟩
  have hW1h:W1.heap[blk]? =some (.cells C1 e (0,0)):=by rw[hW1,hC1];exact setRow_heap w.drew blk C C1 e (0,0) hC
  obtain⟨C2,hcl0,hC2s,hC2q⟩:=A7 W1 0 blk (off+ (i+ (n-j))) (n- (i+ (n-j))) (cap- (i+ (n-j))) e C1 hW1h (by omega) (by omega)
  have hcl:∀ty,(Builtin.clear_ #[33] ty #[.slice (some ⟨blk,off+ (i+ (n-j)),none⟩) (n- (i+ (n-j))) (cap- (i+ (n-j)))]).run Tryz.prog W1=.ok (.tuple #[]) (W1.setRow blk C2):=fun ty=>hcl0
  have hW:Hid (W1=w.drew.setCells blk (off+i) news):=hW1
  have hfin:Hid (W1.setRow blk C2=w.drew.setRow blk C2∧C2.size=C.size∧∀q,q< (i+ (n-j))→C2[off+q]? =if q<i then C[off+q]? else C[off+q+ (j-i)]?):=by
    refine⟨by rw[hW1,hC1,setRow_setRow],by omega,fun q hq=>?_⟩
    rw[hC2q _ (by omega),hC1q,hlen]
    by_cases h:q<i
    ·rw[if_pos h,if_neg (by omega)]
    · rw[if_neg h,if_pos (by omega),hget _ (by omega)]
      congr 1;omega
  have hic:i≤cap:=by omega
  have hjc:j≤cap:=by omega
  obtain⟨i0,hi0,hz1⟩:∃i0,Tryz.prog.info? 3=some i0∧i0.size=1:=⟨(Tryz.prog.info? 3).getD default,by kernel_rfl,by kernel_rfl⟩
  clear hW1 hW1h hC1 hC1s hC1q hC2s hC2q hcl0 hget hcell hnews hlen hone hC hCl
  have mixed:Tryz.prog.follows Departure.mixedOrders=true:=by kernel_rfl
  go_enter Tryz.func145,Tryz.ntmps145
  go_wp2_with fail
  go_region_law_o (refine step_append_room rfl (.tmp 22) (.tmp 25) 33 rfl 3 i0 1 Tryz.underlying33 hi0 hz1 blk off i cap (by simp[Act.eval,Act.put]) A (n-j) (cap-j) news (by simp[Act.eval,Act.put]) (by rw[Nat.mul_one];exact s1.out) hsrc.out s2.out (by omega) (by simpa only[Nat.mul_one] using s3.out) ?_;rw[show off+i*1=off+i from by rw[Nat.mul_one],←hW.out])
  go_wp2
  go_ret
  exact⟨rfl,C2,hfin.out⟩
theorem uR {rows:List AV}(hone:j7 (flat rows)=true)(i j:Nat)(hij:i<j)(hj:j≤rows.length):
    an Tryz.prog 145 [.live 1 rows false] [.own 0 0 rows.length,aj i,aj j] [.dead,.live 1 (rows.take i++rows.drop j) false] (.own 1 0 (i+ (rows.length-j))):=by
  intro w W0 L vs hL hs hr
  obtain⟨v0,v1,v2,rfl⟩:∃v0 v1 v2,vs=[v0,v1,v2]:=by
    have:=hr.1
    match vs,this with
    |[a,b,c],_=>exact⟨a,b,c,rfl⟩
  have h1:=hr.2 1 _ v1 rfl rfl
  have h2:=hr.2 2 _ v2 rfl rfl
  cases h1;cases h2
  have h0:=hr.2 0 _ v0 rfl rfl
  obtain⟨B,hB,hobj⟩:=hs.objs 0 1 rows false rfl
  generalize hn:rows.length=n at h0
  cases h0 with
  |ownNil a1=>omega
  | @own _ _ _ cap e' n' B' a1 av ap a2 a3 a4=>
    rw[hB] at a1;cases a1
    subst hn
    obtain⟨C,e,fz,c1,c2,c3⟩:=hobj.blk av ap
    rw[c2 rfl] at c1
    have hwd:=hobj.width
    have hn':C.size=n':=by simp[World.shape?,c1] at a3;exact a3.2
    rw[hwd,Nat.zero_mul,Nat.add_zero]
    rw[hwd,Nat.zero_add] at a4
    have hfl:=cH hobj.wide
    have hcell:∀ (q:Nat) (c:AV),(flat rows)[q]? =some c→∃v,C[B.o+q]? =some v∧ct (Wr W0 L (aH [.live 1 rows false])) L w c v:=fun q c hq=>by
      obtain⟨v,k1,k2⟩:=hobj.cell ap q c hq
      exact⟨v,by simpa[World.cell?,c1] using k1,k2⟩
    refine(BU B.b B.o cap rows.length i j C e w c1 (by omega) a2 hij hj (fun q v hq hv=>?_)).mono ?_
    · obtain⟨v',k1,k2⟩:=hcell q _ (bz (by rw[hfl];omega))
      rw[hv] at k1;cases k1
      exact k2.one (List.all_eq_true.1 hone _ (List.getElem_mem _))
    · rintro e2 w' ⟨rfl,C',rfl,hsz,hq⟩
      have hwide:bD 1 (rows.take i++rows.drop j):=(hobj.wide.sub fun r hr=>List.mem_of_mem_take hr).append (hobj.wide.sub fun r hr=>List.mem_of_mem_drop hr)
      have hlen:(rows.take i++rows.drop j).length=i+ (rows.length-j):=by simp;omega
      have hre:=(hs.drawn (w.drawn+1)).reuse (t:=0) (tn:=1) (off:=0) (rows':=rows.take i++rows.drop j) (C':=C') rfl hB av rfl c1 hsz hwide (by rw[hlen];omega) (fun q c hc=>by
        rw[gr,kj hobj.wide,kP hobj.wide,List.getElem?_append,fP,hfl,Nat.min_eq_left (by omega)] at hc
        have hlt:=hq q
        rw[Nat.zero_mul,Nat.add_zero]
        split at hc
        · rename_i hql
          rw[List.getElem?_take,if_pos hql] at hc
          obtain⟨v,k1,k2⟩:=hcell q c hc
          exact⟨v,by rw[hq q (by omega),if_pos (by omega)];exact k1,k2.grow (Grow.drawn _)⟩
        · rename_i hql
          rw[List.getElem?_drop] at hc
          have hin:=(bg hc).1
          rw[hfl] at hin
          obtain⟨v,k1,k2⟩:=hcell _ c hc
          refine⟨v,?_,k2.grow (Grow.drawn _)⟩
          rw[hq q (by omega),if_neg (by omega),←k1]
          congr 1;omega)
      have hst:(⟨(bare [.live 1 rows false]).slots,bh (bare [.live 1 rows false]).mem [(1,.live 1 (rows.take i++rows.drop j) false),(0,.dead)]⟩:aA)=bare [.dead,.live 1 (rows.take i++rows.drop j) false]:=by
        unfold bare
        congr 1
        funext t
        match t with
        |0=>rfl
        |1=>rfl
        |t+2=>simp[bh,aH]
      rw[hst] at hre
      refine⟨_,_,rfl,hre,?_⟩
      have:=ct.own (W:=Wr W0 (bq L 1 ⟨B.b,B.o+0,1,false,false⟩) (aH [.dead,.live 1 (rows.take i++rows.drop j) false])) (μ:=bq L 1 ⟨B.b,B.o+0,1,false,false⟩)
        (w:=w.drew.setRow B.b C') (t:=1) (off:=0) (len:=i+ (rows.length-j)) (cap:=cap) (e:=e) (n:=C.size) (B:=⟨B.b,B.o+0,1,false,false⟩) (by simp[bq]) rfl rfl (by omega)
        (by simp[World.shape?,setRow_heap w.drew B.b C C' e (0,0) c1,hsz]) (by simp only[Nat.zero_add];omega)
      simpa using this
end Go.Proofs.Heir
section
namespace Go.Proofs.Heir
open Go Go.Am Go.RowKit Go.Lib
set_option maxRecDepth 100000
set_option maxHeartbeats 8000000
@[reducible] def rR : ByteArray := ⟨⟨[102, 111, 114, 109]⟩⟩
@[reducible] def No : ByteArray := ⟨⟨[105, 100]⟩⟩
def j6 (x:ai):Bool:=decide (x.kind=1)&&decide (x.name=rR)
def HN (x:ai)(w:ByteArray):Option ByteArray:=if 0≤bU x.attrs w then some (n4 x.attrs w) else none
def Mm (x:ai)(w:ByteArray):Option ByteArray:=if 0≤uZ x.attrs w then some (((x.attrs[(uZ x.attrs w).toNat]?).map AttrM.value).getD Hv) else none
def iS (l:List ai)(q:Int→Bool)(n:Int):Int:=((bA l n).tail.find? q).getD (-1)
def wM (l:List ai)(n:Int):Int:=iS l (fun p=>j6 (nd l p)) n
def JZ (l:List ai)(n:Int):Int:=iS l (fun p=>decide ((nd l p).name=rR)) n
def eD (l:List ai)(n:Int):Int:=((bA l n).getLast?).getD n
def xX (l:List ai)(r:Int)(v:ByteArray):Option Int:=(bX l l.length r).find? fun k=>decide (HN (nd l k) No=some v)
def K9 (l:List ai)(r:Int)(v:ByteArray):Option Int:=(bX l l.length r).find? fun k=>decide (Mm (nd l k) No=some v)
def KO (l:List ai)(n:Int):Bool:=decide ((nd l (nW l n)).kind=0)
def Mw (l:List ai)(n:Int)(v:ByteArray):Int:=
 match xX l (eD l n) v with
 |some k=>if v≠ ⟨#[]⟩∧j6 (nd l k)=true then k else-1
 |none=> -1
def zM (l:List ai)(n:Int):Int:=
 if(nd l n).kind=1 then
  match HN (nd l n) rR with
  |some v=>if KO l n=true then Mw l n v else wM l n
  |none=>wM l n
 else-1
def MH (l:List ai)(n:Int)(v:ByteArray):Int:=
 if v=⟨#[]⟩ then-1 else
 match K9 l (eD l n) v with
 |some k=>if(nd l k).name=rR then k else-1
 |none=> -1
def NX (l:List ai)(n:Int):Int:=
 if(nd l n).kind=1 then
  match Mm (nd l n) rR with
  |some v=>if KO l n=true then MH l n v else JZ l n
  |none=>JZ l n
 else-1
variable {l : List ai}
theorem yT (T:Tree l){n:Int}(hn:af l n=true)(hp:(nd l n).parent=-1):eD l n=n:=by
 unfold eD;rw[dR T hn hp];rfl
theorem wC (T:Tree l){n:Int}(hn:af l n=true)(hp:(nd l n).parent≠-1):eD l n=eD l (nd l n).parent:=by
 obtain⟨r,hr⟩:=dP T (T.par n hn hp).1
 unfold eD;rw[bW T hn hp,hr,List.getLast?_cons_cons]
 cases h:((nd l n).parent::r).getLast? with
 |none=>simp at h
 |some a=>rfl
theorem kV (T:Tree l):∀n,af l n=true→af l (eD l n)=true∧(nd l (eD l n)).parent=-1∧eD l n∈bA l n:=by
 refine gZ T (fun n hn h=>?_) (fun n hn h hu ih=>?_)
 ·rw[yT T hn h];exact⟨hn,h,cV T hn⟩
 ·rw[wC T hn h];exact⟨ih.1,ih.2.1,by rw[bW T hn h];exact c7 _ ih.2.2⟩
theorem yX (T:Tree l):∀n,af l n=true→∀a∈bA l n,eD l a=eD l n:=by
 refine gZ T (fun n hn h a ha=>?_) (fun n hn h hu ih a ha=>?_)
 ·rw[dR T hn h] at ha;rw[gg.1 ha]
 ·rw[bW T hn h] at ha
  rcases dm.1 ha with rfl|h'
  ·rfl
  ·rw[wC T hn h];exact ih a h'
theorem FN (T:Tree l){n:Int}(hn:af l n=true):n∈bX l l.length (eD l n):=by
 obtain⟨h1,_,h3⟩:=kV T n hn
 exact(lp T h1 hn).2 h3
theorem Ag (T:Tree l){r n:Int}(hr:af l r=true)(h:n∈bX l l.length r):af l n=true∧r∈bA l n∧eD l n=eD l r:=by
 obtain⟨h1,h2⟩:=ef T _ r hr n h
 exact⟨h1,h2,(yX T n h1 r h2).symm⟩
theorem wH (T:Tree l){n:Int}(hn:af l n=true):eD l (eD l n)=eD l n:=by
 obtain⟨h1,h2,_⟩:=kV T n hn
 exact yT T h1 h2
theorem Dj (T:Tree l)(q:Int→Bool){n:Int}(hn:af l n=true)(hp:(nd l n).parent≠-1):iS l q n=if q (nd l n).parent=true then(nd l n).parent else iS l q (nd l n).parent:=by
 obtain⟨r,hr⟩:=dP T (T.par n hn hp).1
 unfold iS
 rw[bW T hn hp,List.tail_cons,hr,List.find?_cons,List.tail_cons]
 cases h:q (nd l n).parent<;>simp
theorem GG (T:Tree l)(q:Int→Bool){n:Int}(hn:af l n=true)(hp:(nd l n).parent=-1):iS l q n=-1:=by
 unfold iS;rw[dR T hn hp];rfl
theorem DG (T:Tree l)(q:Int→Bool):∀n,af l n=true→
  (iS l q n=-1∧∀a∈bA l n,a≠n→q a=false)∨
  (iS l q n∈bA l n∧iS l q n≠n∧q (iS l q n)=true∧∀a∈bA l n,a≠n→q a=true→a∈bA l (iS l q n)):=by
 refine gZ T (fun n hn h=>?_) (fun n hn h hu ih=>?_)
 ·left
  refine⟨GG T q hn h,fun a ha hne=>?_⟩
  rw[dR T hn h] at ha
  exact absurd (gg.1 ha) hne
 ·have hne:∀a∈bA l (nd l n).parent,a≠n:=by
   intro a ha e
   subst e
   have h1:=bW T hn h
   obtain⟨t,ht⟩:=gV T _ hu a ha
   rw[ht] at h1
   have:=congrArg List.length h1
   simp at this
   omega
  rw[Dj T q hn h]
  have hw:=bW T hn h
  cases hq:q (nd l n).parent with
  | true=>
    rw[if_pos rfl]
    right
    refine⟨by rw[hw];exact c7 _ (cV T hu),hne _ (cV T hu),hq,fun a ha hna _=>?_⟩
    rw[hw] at ha
    exact(dm.1 ha).resolve_left hna
  | false=>
    rw[if_neg (by simp)]
    rcases ih with⟨h1,h2⟩|⟨h1,h2,h3,h4⟩
    ·left
     refine⟨h1,fun a ha hna=>?_⟩
     rw[hw] at ha
     have ha':=(dm.1 ha).resolve_left hna
     by_cases e:a=(nd l n).parent
     ·rw[e];exact hq
     ·exact h2 a ha' e
    ·right
     refine⟨by rw[hw];exact c7 _ h1,hne _ h1,h3,fun a ha hna hqa=>?_⟩
     rw[hw] at ha
     have ha':=(dm.1 ha).resolve_left hna
     refine h4 a ha' (fun e=>?_) hqa
     rw[e,hq] at hqa;cases hqa
theorem D2 (T:Tree l){n:Int}(hn:af l n=true):j6 (nd l n)=decide ((nd l n).name=rR):=by
 unfold j6
 rcases Aa T hn with h|⟨h1,h2,_⟩
 ·rw[h];simp
 ·rw[h2];simp[h1]
theorem A2 {r:Int}{v:ByteArray}{k:Int}(h:xX l r v=some k):k∈bX l l.length r∧HN (nd l k) No=some v:=
 ⟨List.mem_of_find?_eq_some h,by have:=List.find?_some h;simpa using this⟩
theorem Fc (T:Tree l){n:Int}(hn:af l n=true)(h:zM l n≠-1):af l (zM l n)=true∧j6 (nd l (zM l n))=true∧eD l (zM l n)=eD l n∧(nd l n).kind=1:=by
 have hnear:wM l n≠-1→af l (wM l n)=true∧j6 (nd l (wM l n))=true∧eD l (wM l n)=eD l n:=by
  intro h
  rcases DG T (fun p=>j6 (nd l p)) n hn with⟨h1,_⟩|⟨h1,_,h3,_⟩
  ·exact absurd h1 h
  ·exact⟨fW T n hn _ h1,h3,yX T n hn _ h1⟩
 unfold zM at h ⊢
 by_cases hk:(nd l n).kind=1
 ·rw [if_pos hk] at h ⊢
  cases ha:HN (nd l n) rR with
  | none=>
    rw[ha] at h
    exact⟨(hnear h).1,(hnear h).2.1,(hnear h).2.2,hk⟩
  | some v=>
    rw[ha] at h
    simp only at h ⊢
    by_cases hc:KO l n=true
    ·rw [if_pos hc] at h ⊢
     unfold Mw at h ⊢
     cases hf:xX l (eD l n) v with
     |none=>rw[hf] at h;exact absurd rfl h
     | some k=>
       rw[hf] at h
       simp only at h ⊢
       by_cases e:v≠ ⟨#[]⟩∧j6 (nd l k)=true
       ·rw[if_pos e] at h ⊢
        obtain⟨h1,h2,h3⟩:=Ag T (kV T n hn).1 (A2 hf).1
        exact⟨h1,e.2,by rw[h3,wH T hn],hk⟩
       ·rw[if_neg e] at h;exact absurd rfl h
    ·rw[if_neg hc] at h ⊢
     exact⟨(hnear h).1,(hnear h).2.1,(hnear h).2.2,hk⟩
 ·rw[if_neg hk] at h;exact absurd rfl h
def LA (l:List ai)(x:Int):List Int:=(bX l l.length (eD l x)).filter fun k=>decide (zM l k=x)
def oQ (l:List ai)(x:Int):List Int:=(bX l l.length (eD l x)).filter fun k=>decide (NX l k=x)
end Go.Proofs.Heir
end
section
namespace Go.Proofs.Heir
open Go Go.Am Go.RowKit Go.Lib
set_option maxRecDepth 100000
set_option maxHeartbeats 8000000
variable {l : List ai}
def JP (l:List ai)(x:Int):List Int:=if j6 (nd l x)=true then LA l x else[]
theorem Dm (T:Tree l){x:Int}(hx:af l x=true){c:Int}(h:c∈JP l x):af l c=true∧zM l c=x∧eD l c=eD l x∧(nd l x).name=rR:=by
 unfold JP at h
 by_cases hf:j6 (nd l x)=true
 ·rw[if_pos hf] at h
  unfold LA at h
  obtain⟨h1,h2⟩:=List.mem_filter.1 h
  obtain⟨g1,_,g3⟩:=Ag T (kV T x hx).1 h1
  rw[wH T hx] at g3
  rw[D2 T hx] at hf
  exact⟨g1,by simpa using h2,g3,of_decide_eq_true hf⟩
 ·rw[if_neg hf] at h;cases h
theorem mem_iff (T:Tree l){x:Int}(hx:af l x=true){c:Int}(hc:af l c=true):c∈JP l x↔zM l c=x:=by
 constructor
 ·intro h;exact(Dm T hx h).2.1
 ·intro h
  have h0:=aV hx
  obtain⟨_,a2,a3,_⟩:=Fc T hc (by omega)
  rw[h] at a2 a3
  unfold JP LA
  rw[if_pos a2,List.mem_filter,a3]
  exact⟨FN T hc,by simpa using h⟩
end Go.Proofs.Heir
end
namespace Go.Proofs.Heir
open Go Go.Am Go.RowKit Go.Lib
set_option maxRecDepth 100000
set_option maxHeartbeats 8000000


end Go.Proofs.Heir
section
namespace Go.Proofs.Heir
open Go Go.Am Go.RowKit Go.Lib
set_option maxRecDepth 100000
set_option maxHeartbeats 8000000
namespace V
variable {l : List ai}
theorem nh (T:Tree l):∀ (m:Nat) (n:Int),af l n=true→l.length+1≤m+ (bA l n).length→bX l (m+1) n=bX l m n
 |0,n,_,h=>by have:=lB (l:=l) n;omega
 | m+1,n,hn,h=>by
   rw[bX,bX]
   congr 1
   refine fM fun k hk=>?_
   refine nh T m k (T.kid n hn k hk).1 ?_
   rw[ej T hn hk];simp;omega
theorem ord_eq (T:Tree l){n:Int}(hn:af l n=true):bX l l.length n=n::(nd l n).kids.flatMap (bX l l.length):=by
 have h0:=aV hn
 obtain⟨m,hm⟩:∃m,l.length=m+1:=⟨l.length-1,by omega⟩
 have h1:∀k∈ (nd l n).kids,bX l l.length k=bX l m k:=fun k hk=>by
  rw[hm]
  refine nh T m k (T.kid n hn k hk).1 ?_
  obtain⟨r,hr⟩:=dP T hn
  rw[ej T hn hk,hr];simp;omega
 conv=>lhs;rw[hm,bX]
 congr 1
 exact fM fun k hk=>(h1 k hk).symm
def rest (l:List ai)(st:List Int):List Int:=st.reverse.flatMap (bX l l.length)
theorem zQ (T:Tree l){st:List Int}{t:Int}(ht:af l t=true):rest l (st++ [t])=t::rest l (st++ (nd l t).kids.reverse):=by
 unfold rest
 rw[List.reverse_append,List.reverse_append,List.reverse_reverse]
 simp only[List.reverse_cons,List.reverse_nil,List.nil_append,List.cons_append,List.flatMap_cons,List.flatMap_append]
 rw[ord_eq T ht];rfl
theorem za (T:Tree l):∀ {st:List Int},(∀c∈st,af l c=true)→st.length≤ (rest l st).length:=by
 intro st h
 unfold rest
 have:∀s:List Int,(∀c∈s,af l c=true)→s.length≤ (s.flatMap (bX l l.length)).length:=by
  intro s
  induction s with
  |nil=>intro _;exact Nat.le_refl _
  | cons a r ih=>
    intro h
    have h1:=ih fun c hc=>h c (c7 _ hc)
    rw[List.flatMap_cons,jH,ord_eq T (h a dJ),List.length_cons,List.length_cons]
    omega
 have:=this st.reverse fun c hc=>h c (by simpa using hc)
 simpa using this
end V
end Go.Proofs.Heir
end
