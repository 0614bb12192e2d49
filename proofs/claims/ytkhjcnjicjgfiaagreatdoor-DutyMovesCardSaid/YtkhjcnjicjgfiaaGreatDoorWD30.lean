/- Models, plain laws and contracts of functions of the given program; conditions as stated in each theorem. By an AI agent. -/
import Derived.Test.YtkhjcnjicjgfiaaGreatDoorWD15
import Derived.Test.YtkhjcnjicjgfiaaGreatDoorWD29
import Derived.Test.YtkhjcnjicjgfiaaGreatDoorWD11
import Derived.Test.YtkhjcnjicjgfiaaGreatDoorWD19
import Derived.Test.YtkhjcnjicjgfiaaGreatDoorWD22
import Derived.Test.YtkhjcnjicjgfiaaGreatDoorWD25
import Derived.Test.YtkhjcnjicjgfiaaGreatDoorWD12
import Derived.WalkKit
import Derived.LaidEql
import Derived.Stop.Asserts
import Derived.RowKitTokens
import Derived.Tactics
import Derived.Laws.Cells
set_option linter.unusedSimpArgs false
set_option linter.unusedVariables false
namespace Go.Proofs.Heir
open Go Go.Am Go.RowKit Go.Lib
set_option maxRecDepth 100000
def jz (p:Int→Bool)(l:List Int):List Int:=l.filter fun x=> !p x
theorem EZ {m:ML}{fz:Nat→Bool}{tab:List (Nat×Nat)}{n:Nat}{a b:List Int}(h:a=b):u5 (MF tab fz m n) (a.map bu) (b.map bu):=by subst h;exact aQ (ae _)
@[reducible] def lJ (f : ForM) : MS := .live 2 [bF f] false
theorem Mq (f:ForM)(c:Int)(hc:aa f.nodes c=true):an Tryz.prog 83 [lJ f] [ay c,.ptr 0 0 0] [lJ f] (aX (!decide ((nd f.nodes c).kind=1))):=by
  obtain⟨k,x,rfl,hx,hnx⟩:=bp.1 hc
  rw[hnx]
  obtain⟨l,m⟩:=f
  obtain⟨x1,x2,x3,x4,x5,x6,x7,x8,x9,x10⟩:=x
  simp only at hx
  refine an.aF (rvs:=[.tmp 3]) G aq Tryz.func83 rfl Tryz.ntmps83 rfl rfl ?_;delta List.toArray;((with_reducible conv=>whnf);(with_reducible conv=>congr<;>reduce);repeat((first|(with_reducible refine aY.mk ?_)|(with_reducible refine aZ.mk ?_));(with_reducible conv=>whnf);(with_reducible conv=>congr<;>reduce)))
  repeat' (first
    |(first
    |((with_reducible show aL _ _ _ _);first|refine aL.ff ?_|refine aL.tt ?_|refine aL.no (by first|rfl|assumption|exact nf (by assumption)|exact nt (by assumption)|((try simp only[ak]);first|(simp[];done)|(simp[];omega))) ?_|refine aL.yes (by first|rfl|assumption|exact nf (by assumption)|exact nt (by assumption)|((try simp only[ak]);first|(simp[];done)|(simp[];omega))) ?_)
    |((with_reducible show aP _ _ _ _);refine aP.mk (by(try simp only[ak]);omega) ?_)
    |((with_reducible show aH _ _ _ _);refine aH.mk (by kernel_rfl) (by kernel_rfl) (by kernel_rfl) ?_)
    |((with_reducible show bn _ _ _ _ _);refine bn.mk k (aR ⟨x1,x2,x3,x4,x5,x6,x7,x8,x9,x10⟩) rfl (aI hx) ?_))<;>((with_reducible conv=>whnf);(with_reducible conv=>congr<;>reduce);repeat((first|(with_reducible refine aY.mk ?_)|(with_reducible refine aZ.mk ?_));(with_reducible conv=>whnf);(with_reducible conv=>congr<;>reduce)))
    |((with_reducible show(_∧_)∧_∧_);refine⟨⟨rfl,rfl⟩,?_,?_⟩<;>(with_reducible conv=>whnf)<;>repeat' (first|(with_reducible exact trivial)|(with_reducible refine And.intro ?_ ?_<;>with_reducible conv=>whnf))))
  all_goals first|rfl|exact⟨⟨rfl,rfl,trivial⟩,trivial⟩|trace_state
section
variable {f : ForM} {p : Int → Bool} {ks : List Int}
theorem CP {m':ML}{b:Nat}{r:List Nat}(h1:dc m' b=lJ f):oU (kO 1 0 (b::r)) [] m' [lJ f] (b::r):=by
  simp only[oU,h1]
  exact⟨⟨trivial,.inl ⟨rfl,rfl⟩⟩,trivial⟩
set_option maxHeartbeats 16000000 in
/-- slices.IndexFunc, of that closure -/
theorem Fv (hl:ks.length≤100000)(hf:∀a,a∈ks→an Tryz.prog 83 [lJ f] [ay a,.ptr 0 0 0] [lJ f] (aX (p a))):
    an Tryz.prog 125 [lJ f,cU ks] [.own 1 0 ks.length,.clo (.func 83) [] [.ptr 0 0 0]] [lJ f,cU ks] (ay (dI p ks)):=by
  obtain⟨l,m⟩:=f
  have hlm:(ks.map bu).length=ks.length:=bM ..
  refine an.aF (rvs:=[.tmp 4]) G aq Tryz.func125 rfl Tryz.ntmps125 rfl rfl ?_;delta List.toArray;((with_reducible conv=>whnf);(with_reducible conv=>congr<;>reduce);repeat((first|(with_reducible refine aY.mk ?_)|(with_reducible refine aZ.mk ?_));(with_reducible conv=>whnf);(with_reducible conv=>congr<;>reduce)))
  refine bD.use G aq (fun(k:Nat)=>[(0,.own 1 0 ks.length),(1,.clo (.func 83) [] [.ptr 0 0 0]),(7,ay ks.length),(8,ay k)]) (fun _=>[(0,lJ ⟨l,m⟩),(1,cU ks)])
    (fun k=>k≤ks.length∧∀j x,j<k→ks[j]? =some x→p x=false) (fun k=>ks.length-k) 0 ⟨Nat.zero_le _,fun j x h=>by omega⟩ ?_ ?_
  · (refine⟨⟨rfl,rfl⟩,?_⟩;(with_reducible conv=>whnf);(repeat' (first|(with_reducible exact trivial)|(with_reducible refine And.intro ?_ ?_<;>with_reducible conv=>whnf)));(all_goals try rfl))
    all_goals first
      |rfl
      |exact⟨.refl (ae _),ae _⟩
      |exact aQ (ae _)
      |exact⟨⟨rfl,rfl,trivial⟩,trivial⟩
      |trace_state
  rintro k ⟨hk,hno⟩
  ((with_reducible conv=>whnf);(with_reducible conv=>congr<;>reduce);repeat((first|(with_reducible refine aY.mk ?_)|(with_reducible refine aZ.mk ?_));(with_reducible conv=>whnf);(with_reducible conv=>congr<;>reduce)))
  refine aL.mk (fun h1=>?_) (fun h1=>?_)<;>(try simp only[ak] at h1)<;>((with_reducible conv=>whnf);(with_reducible conv=>congr<;>reduce);repeat((first|(with_reducible refine aY.mk ?_)|(with_reducible refine aZ.mk ?_));(with_reducible conv=>whnf);(with_reducible conv=>congr<;>reduce)))
  · simp only[bH] at h1
    have hk':k<ks.length:=by omega
    obtain⟨a,ha⟩:∃a,ks[k]? =some a:=⟨_,bh hk'⟩
    have hg1:=hf a (bN ha)
    refine gX.mk k rfl hk' ?_;((with_reducible conv=>whnf);(with_reducible conv=>congr<;>reduce);repeat((first|(with_reducible refine aY.mk ?_)|(with_reducible refine aZ.mk ?_));(with_reducible conv=>whnf);(with_reducible conv=>congr<;>reduce)))
    refine bE.mk (ay a) (by first|exact iy ha|(rw[Nat.zero_add];exact iy ha)) ?_;((with_reducible conv=>whnf);(with_reducible conv=>congr<;>reduce);repeat((first|(with_reducible refine aY.mk ?_)|(with_reducible refine aZ.mk ?_));(with_reducible conv=>whnf);(with_reducible conv=>congr<;>reduce)))
    repeat' (first
    |(first
    |((with_reducible show aL _ _ _ _);first|refine aL.ff ?_|refine aL.tt ?_|refine aL.no (by first|rfl|assumption|exact nf (by assumption)|exact nt (by assumption)|((try simp only[ak]);first|(simp[];done)|(simp[];omega))) ?_|refine aL.yes (by first|rfl|assumption|exact nf (by assumption)|exact nt (by assumption)|((try simp only[ak]);first|(simp[];done)|(simp[];omega))) ?_)
    |((with_reducible show aP _ _ _ _);refine aP.mk (by(try simp only[ak]);omega) ?_)
    |((with_reducible show aH _ _ _ _);refine aH.mk (by kernel_rfl) (by kernel_rfl) (by kernel_rfl) ?_))<;>((with_reducible conv=>whnf);(with_reducible conv=>congr<;>reduce);repeat((first|(with_reducible refine aY.mk ?_)|(with_reducible refine aZ.mk ?_));(with_reducible conv=>whnf);(with_reducible conv=>congr<;>reduce)))
    |((with_reducible show(_∧_)∧_∧_);refine⟨⟨rfl,rfl⟩,?_,?_⟩<;>(with_reducible conv=>whnf)<;>repeat' (first|(with_reducible exact trivial)|(with_reducible refine And.intro ?_ ?_<;>with_reducible conv=>whnf))))
    refine ah.dw (news:=[lJ ⟨l,m⟩]) [0] [] hg1 Pg ⟨rfl,⟨rfl,rfl⟩,trivial⟩ (CP rfl) rfl ⟨⟨rfl,rfl⟩,rfl⟩ rfl ⟨⟨rfl,.inl ⟨rfl,rfl⟩⟩,trivial⟩ rfl rfl ?_;((with_reducible conv=>whnf);(with_reducible conv=>congr<;>reduce);repeat((first|(with_reducible refine aY.mk ?_)|(with_reducible refine aZ.mk ?_));(with_reducible conv=>whnf);(with_reducible conv=>congr<;>reduce)))
    cases hp:p a with
    | true=>
      repeat' (first
    |(first
    |((with_reducible show aL _ _ _ _);first|refine aL.ff ?_|refine aL.tt ?_|refine aL.no (by first|rfl|assumption|exact nf (by assumption)|exact nt (by assumption)|((try simp only[ak]);first|(simp[];done)|(simp[];omega))) ?_|refine aL.yes (by first|rfl|assumption|exact nf (by assumption)|exact nt (by assumption)|((try simp only[ak]);first|(simp[];done)|(simp[];omega))) ?_)
    |((with_reducible show aP _ _ _ _);refine aP.mk (by(try simp only[ak]);omega) ?_)
    |((with_reducible show aH _ _ _ _);refine aH.mk (by kernel_rfl) (by kernel_rfl) (by kernel_rfl) ?_))<;>((with_reducible conv=>whnf);(with_reducible conv=>congr<;>reduce);repeat((first|(with_reducible refine aY.mk ?_)|(with_reducible refine aZ.mk ?_));(with_reducible conv=>whnf);(with_reducible conv=>congr<;>reduce)))
    | ((with_reducible show(_∧_)∧_∧_);refine⟨⟨rfl,rfl⟩,?_,?_⟩<;>(with_reducible conv=>whnf)<;>repeat' (first|(with_reducible exact trivial)|(with_reducible refine And.intro ?_ ?_<;>with_reducible conv=>whnf))))
      all_goals first
        |exact kS ha hp hno
        |rfl
        |exact⟨.refl (ae _),ae _⟩
        |exact⟨⟨rfl,rfl,trivial⟩,trivial⟩
        |trace_state
    | false=>
      repeat' (first
    |(first
    |((with_reducible show aL _ _ _ _);first|refine aL.ff ?_|refine aL.tt ?_|refine aL.no (by first|rfl|assumption|exact nf (by assumption)|exact nt (by assumption)|((try simp only[ak]);first|(simp[];done)|(simp[];omega))) ?_|refine aL.yes (by first|rfl|assumption|exact nf (by assumption)|exact nt (by assumption)|((try simp only[ak]);first|(simp[];done)|(simp[];omega))) ?_)
    |((with_reducible show aP _ _ _ _);refine aP.mk (by(try simp only[ak]);omega) ?_)
    |((with_reducible show aH _ _ _ _);refine aH.mk (by kernel_rfl) (by kernel_rfl) (by kernel_rfl) ?_))<;>((with_reducible conv=>whnf);(with_reducible conv=>congr<;>reduce);repeat((first|(with_reducible refine aY.mk ?_)|(with_reducible refine aZ.mk ?_));(with_reducible conv=>whnf);(with_reducible conv=>congr<;>reduce)))
    | ((with_reducible show(_∧_)∧_∧_);refine⟨⟨rfl,rfl⟩,?_,?_⟩<;>(with_reducible conv=>whnf)<;>repeat' (first|(with_reducible exact trivial)|(with_reducible refine And.intro ?_ ?_<;>with_reducible conv=>whnf))))
      refine aT.mk (k+1) ⟨by omega,fun j x hj hx=>by
        by_cases e:j=k
        ·subst e;rw[hx] at ha;cases ha;exact hp
        ·exact hno j x (by omega) hx⟩ (by omega) ?_
      (refine⟨⟨rfl,rfl⟩,?_⟩;(with_reducible conv=>whnf);(repeat' (first|(with_reducible exact trivial)|(with_reducible refine And.intro ?_ ?_<;>with_reducible conv=>whnf)));(all_goals try rfl))
      all_goals first
        |rfl
        |exact⟨.refl (ae _),ae _⟩
        |exact aQ (ae _)
        |exact⟨⟨rfl,rfl,trivial⟩,trivial⟩
        |trace_state
  · simp only[dG] at h1
    obtain rfl:k=ks.length:=by omega
    repeat' (first
    |(first
    |((with_reducible show aL _ _ _ _);first|refine aL.ff ?_|refine aL.tt ?_|refine aL.no (by first|rfl|assumption|exact nf (by assumption)|exact nt (by assumption)|((try simp only[ak]);first|(simp[];done)|(simp[];omega))) ?_|refine aL.yes (by first|rfl|assumption|exact nf (by assumption)|exact nt (by assumption)|((try simp only[ak]);first|(simp[];done)|(simp[];omega))) ?_)
    |((with_reducible show aP _ _ _ _);refine aP.mk (by(try simp only[ak]);omega) ?_)
    |((with_reducible show aH _ _ _ _);refine aH.mk (by kernel_rfl) (by kernel_rfl) (by kernel_rfl) ?_))<;>((with_reducible conv=>whnf);(with_reducible conv=>congr<;>reduce);repeat((first|(with_reducible refine aY.mk ?_)|(with_reducible refine aZ.mk ?_));(with_reducible conv=>whnf);(with_reducible conv=>congr<;>reduce)))
    |((with_reducible show(_∧_)∧_∧_);refine⟨⟨rfl,rfl⟩,?_,?_⟩<;>(with_reducible conv=>whnf)<;>repeat' (first|(with_reducible exact trivial)|(with_reducible refine And.intro ?_ ?_<;>with_reducible conv=>whnf))))
    all_goals first
      |exact jm fun j x hx=>hno j x (br hx).1 hx
      |rfl
      |exact⟨.refl (ae _),ae _⟩
      |exact⟨⟨rfl,rfl,trivial⟩,trivial⟩
      |trace_state
set_option maxHeartbeats 16000000 in
/-- slices.DeleteFunc, of numbers -/
theorem HS (hl:ks.length≤100000)(hf:∀a,a∈ks→an Tryz.prog 83 [lJ f] [ay a,.ptr 0 0 0] [lJ f] (aX (p a))):
    an Tryz.prog 81 [lJ f,cU ks] [.own 1 0 ks.length,.clo (.func 83) [] [.ptr 0 0 0]] [lJ f,cU (jz p ks++List.replicate (ks.length- (jz p ks).length) 0)] (.own 1 0 (jz p ks).length):=by
  have h125:=Fv hl hf
  obtain⟨l,m⟩:=f
  have hlm:(ks.map bu).length=ks.length:=bM ..
  cases hi:ks.findIdx? p with
  | none=>
    have e1:dI p ks=-1:=by unfold dI;rw[hi]
    have e2:jz p ks=ks:=by
      unfold jz;rw[List.filter_eq_self];intro a ha
      have:=List.findIdx?_eq_none_iff.1 hi a ha
      simpa using this
    rw[e1] at h125
    rw[e2,Nat.sub_self,List.replicate_zero,List.append_nil]
    refine an.aF (rvs:=[.tmp 4]) G aq Tryz.func81 rfl Tryz.ntmps81 rfl rfl ?_;delta List.toArray;((with_reducible conv=>whnf);(with_reducible conv=>congr<;>reduce);repeat((first|(with_reducible refine aY.mk ?_)|(with_reducible refine aZ.mk ?_));(with_reducible conv=>whnf);(with_reducible conv=>congr<;>reduce)))
    refine ah.dw (news:=[lJ ⟨l,m⟩,cU ks]) [0,1] [] h125 AL ⟨⟨rfl,rfl⟩,⟨rfl,trivial,⟨rfl,rfl⟩,trivial⟩,trivial⟩ ⟨⟨rfl,.inl ⟨rfl,rfl⟩⟩,⟨rfl,.inl ⟨rfl,ae _⟩⟩,trivial⟩ rfl ⟨⟨rfl,rfl⟩,rfl⟩ rfl ⟨⟨rfl,.inl ⟨rfl,rfl⟩⟩,⟨rfl,.inl ⟨rfl,ae _⟩⟩,trivial⟩ rfl rfl ?_;((with_reducible conv=>whnf);(with_reducible conv=>congr<;>reduce);repeat((first|(with_reducible refine aY.mk ?_)|(with_reducible refine aZ.mk ?_));(with_reducible conv=>whnf);(with_reducible conv=>congr<;>reduce)))
    repeat' (first
    |(first
    |((with_reducible show aL _ _ _ _);first|refine aL.ff ?_|refine aL.tt ?_|refine aL.no (by first|rfl|assumption|exact nf (by assumption)|exact nt (by assumption)|((try simp only[ak]);first|(simp[];done)|(simp[];omega))) ?_|refine aL.yes (by first|rfl|assumption|exact nf (by assumption)|exact nt (by assumption)|((try simp only[ak]);first|(simp[];done)|(simp[];omega))) ?_)
    |((with_reducible show aP _ _ _ _);refine aP.mk (by(try simp only[ak]);omega) ?_)
    |((with_reducible show aH _ _ _ _);refine aH.mk (by kernel_rfl) (by kernel_rfl) (by kernel_rfl) ?_))<;>((with_reducible conv=>whnf);(with_reducible conv=>congr<;>reduce);repeat((first|(with_reducible refine aY.mk ?_)|(with_reducible refine aZ.mk ?_));(with_reducible conv=>whnf);(with_reducible conv=>congr<;>reduce)))
    |((with_reducible show(_∧_)∧_∧_);refine⟨⟨rfl,rfl⟩,?_,?_⟩<;>(with_reducible conv=>whnf)<;>repeat' (first|(with_reducible exact trivial)|(with_reducible refine And.intro ?_ ?_<;>with_reducible conv=>whnf))))
    all_goals first
      |rfl
      |exact⟨.refl (ae _),ae _⟩
      |exact aQ (ae _)
      |exact⟨⟨rfl,rfl,trivial⟩,trivial⟩
      |trace_state
  | some i0=>
    have e1:dI p ks=(i0:Int):=by unfold dI;rw[hi]
    rw[e1] at h125
    obtain⟨hi1,hi2,hi3⟩:=List.findIdx?_eq_some_iff_getElem.1 hi
    obtain⟨kp,hkp⟩:∃kp:Nat→List Int,kp=fun j=>jz p (ks.take j):=⟨_,rfl⟩
    have hk1:kp (i0+1)=ks.take i0:=by
      rw[hkp];unfold jz
      show List.filter _ (ks.take (i0+1))=_
      rw[List.take_add_one,bh hi1,List.filter_append]
      have h1:List.filter (fun x=> !p x) (ks.take i0)=ks.take i0:=by
        rw[List.filter_eq_self];intro a ha
        obtain⟨j,hj,rfl⟩:=List.mem_iff_getElem.1 ha
        rw[List.getElem_take]
        simp only[gI] at hj
        have:=hi3 j (by omega)
        simpa using this
      rw[h1];simp[hi2]
    have hstep:∀ (j:Nat) (x:Int),ks[j]? =some x→kp (j+1)=kp j++if p x=true then[] else[x]:=fun j x hx=>by
      rw[hkp];unfold jz
      show List.filter _ (ks.take (j+1))=_
      rw[List.take_add_one,hx,List.filter_append]
      congr 1
      show List.filter _ [x]=_
      rw[List.filter_cons]
      cases p x<;>rfl
    have hend:kp ks.length=jz p ks:=by rw[hkp];show jz p (ks.take ks.length)=_;rw[List.take_length]
    have hl1:kp (i0+1)++ [ks[i0]]++ks.drop (i0+1)=ks:=by
      rw[hk1,List.append_assoc,List.singleton_append,←List.drop_eq_getElem_cons hi1,List.take_append_drop]
    refine an.aF (rvs:=[.tmp 4]) G aq Tryz.func81 rfl Tryz.ntmps81 rfl rfl ?_;delta List.toArray;((with_reducible conv=>whnf);(with_reducible conv=>congr<;>reduce);repeat((first|(with_reducible refine aY.mk ?_)|(with_reducible refine aZ.mk ?_));(with_reducible conv=>whnf);(with_reducible conv=>congr<;>reduce)))
    refine ah.dw (news:=[lJ ⟨l,m⟩,cU ks]) [0,1] [] h125 AL ⟨⟨rfl,rfl⟩,⟨rfl,trivial,⟨rfl,rfl⟩,trivial⟩,trivial⟩ ⟨⟨rfl,.inl ⟨rfl,rfl⟩⟩,⟨rfl,.inl ⟨rfl,ae _⟩⟩,trivial⟩ rfl ⟨⟨rfl,rfl⟩,rfl⟩ rfl ⟨⟨rfl,.inl ⟨rfl,rfl⟩⟩,⟨rfl,.inl ⟨rfl,ae _⟩⟩,trivial⟩ rfl rfl ?_;((with_reducible conv=>whnf);(with_reducible conv=>congr<;>reduce);repeat((first|(with_reducible refine aY.mk ?_)|(with_reducible refine aZ.mk ?_));(with_reducible conv=>whnf);(with_reducible conv=>congr<;>reduce)))
    repeat' (first
    |(first
    |((with_reducible show aL _ _ _ _);first|refine aL.ff ?_|refine aL.tt ?_|refine aL.no (by first|rfl|assumption|exact nf (by assumption)|exact nt (by assumption)|((try simp only[ak]);first|(simp[];done)|(simp[];omega))) ?_|refine aL.yes (by first|rfl|assumption|exact nf (by assumption)|exact nt (by assumption)|((try simp only[ak]);first|(simp[];done)|(simp[];omega))) ?_)
    |((with_reducible show aP _ _ _ _);refine aP.mk (by(try simp only[ak]);omega) ?_)
    |((with_reducible show aH _ _ _ _);refine aH.mk (by kernel_rfl) (by kernel_rfl) (by kernel_rfl) ?_))<;>((with_reducible conv=>whnf);(with_reducible conv=>congr<;>reduce);repeat((first|(with_reducible refine aY.mk ?_)|(with_reducible refine aZ.mk ?_));(with_reducible conv=>whnf);(with_reducible conv=>congr<;>reduce)))
    |((with_reducible show(_∧_)∧_∧_);refine⟨⟨rfl,rfl⟩,?_,?_⟩<;>(with_reducible conv=>whnf)<;>repeat' (first|(with_reducible exact trivial)|(with_reducible refine And.intro ?_ ?_<;>with_reducible conv=>whnf))))
    refine bD.use G aq (fun(i:Nat×List Int)=>[(0,.own 1 0 ks.length),(1,.clo (.func 83) [] [.ptr 0 0 0]),(5,ay (kp i.1).length),(6,ay i.1)])
      (fun i=>[(0,lJ ⟨l,m⟩),(1,cU (kp i.1++i.2++ks.drop i.1))])
      (fun i=>i.1≤ks.length∧(kp i.1).length+i.2.length=i.1∧i.2≠ []) (fun i=>ks.length-i.1) (i0+1,[ks[i0]]) ⟨by show i0+1≤_;omega,by show(kp (i0+1)).length+1=i0+1;rw[hk1,gI,Nat.min_eq_left (by omega)],by simp⟩ ?_ ?_
    · (refine⟨⟨rfl,rfl⟩,?_⟩;(with_reducible conv=>whnf);(repeat' (first|(with_reducible exact trivial)|(with_reducible refine And.intro ?_ ?_<;>with_reducible conv=>whnf)));(all_goals try rfl))
      all_goals first
        |(show((kp (i0+1)).length:Int)=(i0:Int);rw[hk1,gI,Nat.min_eq_left (by omega)])
        |exact⟨⟨rfl,rfl,trivial⟩,trivial⟩
        |(show o3 _ ((kp (i0+1)++ [ks[i0]]++ks.drop (i0+1)).map bu) _;rw[hl1];exact⟨.refl (ae _),ae _⟩)
        |trace_state
    rintro⟨j,gar⟩ ⟨hj,hg,hg0⟩
    simp only at hj hg hg0
    ((with_reducible conv=>whnf);(with_reducible conv=>congr<;>reduce);repeat((first|(with_reducible refine aY.mk ?_)|(with_reducible refine aZ.mk ?_));(with_reducible conv=>whnf);(with_reducible conv=>congr<;>reduce)))
    have hdl:(ks.drop j).length=ks.length-j:=List.length_drop ..
    have hlr:((kp j++gar++ks.drop j).map bu).length=ks.length:=by simp;omega
    refine aL.mk (fun h1=>?_) (fun h1=>?_)<;>(try simp only[ak] at h1)<;>((with_reducible conv=>whnf);(with_reducible conv=>congr<;>reduce);repeat((first|(with_reducible refine aY.mk ?_)|(with_reducible refine aZ.mk ?_));(with_reducible conv=>whnf);(with_reducible conv=>congr<;>reduce)))
    · simp only[bH] at h1
      have hj':j<ks.length:=by omega
      obtain⟨x,hx⟩:∃x,ks[j]? =some x:=⟨_,bh hj'⟩
      have hdj:ks.drop j=x::ks.drop (j+1):=by
        rw[List.drop_eq_getElem_cons hj'];congr 1
        rw[bh hj'] at hx;exact Option.some.inj hx
      have hst:=hstep j x hx
      have hg1:=hf x (bN hx)
      rw[hdj]
      rw[hdj] at hlr
      obtain⟨z,gar',rfl⟩:=List.exists_cons_of_ne_nil hg0
      simp only[List.length_cons] at hg
      refine gX.mk j rfl (by omega) ?_
      ((with_reducible conv=>whnf);(with_reducible conv=>congr<;>reduce);repeat((first|(with_reducible refine aY.mk ?_)|(with_reducible refine aZ.mk ?_));(with_reducible conv=>whnf);(with_reducible conv=>congr<;>reduce)))
      refine bE.mk (ay x) (by rw[Nat.zero_add,dM,List.getElem?_append_right (by simp;omega),show j- (kp j++z::gar').length=0 by simp;omega];rfl) ?_;((with_reducible conv=>whnf);(with_reducible conv=>congr<;>reduce);repeat((first|(with_reducible refine aY.mk ?_)|(with_reducible refine aZ.mk ?_));(with_reducible conv=>whnf);(with_reducible conv=>congr<;>reduce)))
      repeat' (first
    |(first
    |((with_reducible show aL _ _ _ _);first|refine aL.ff ?_|refine aL.tt ?_|refine aL.no (by first|rfl|assumption|exact nf (by assumption)|exact nt (by assumption)|((try simp only[ak]);first|(simp[];done)|(simp[];omega))) ?_|refine aL.yes (by first|rfl|assumption|exact nf (by assumption)|exact nt (by assumption)|((try simp only[ak]);first|(simp[];done)|(simp[];omega))) ?_)
    |((with_reducible show aP _ _ _ _);refine aP.mk (by(try simp only[ak]);omega) ?_)
    |((with_reducible show aH _ _ _ _);refine aH.mk (by kernel_rfl) (by kernel_rfl) (by kernel_rfl) ?_))<;>((with_reducible conv=>whnf);(with_reducible conv=>congr<;>reduce);repeat((first|(with_reducible refine aY.mk ?_)|(with_reducible refine aZ.mk ?_));(with_reducible conv=>whnf);(with_reducible conv=>congr<;>reduce)))
    | ((with_reducible show(_∧_)∧_∧_);refine⟨⟨rfl,rfl⟩,?_,?_⟩<;>(with_reducible conv=>whnf)<;>repeat' (first|(with_reducible exact trivial)|(with_reducible refine And.intro ?_ ?_<;>with_reducible conv=>whnf))))
      refine ah.dw (news:=[lJ ⟨l,m⟩]) [0] [] hg1 Pg ⟨rfl,⟨rfl,rfl⟩,trivial⟩ (CP rfl) rfl ⟨⟨rfl,rfl⟩,rfl⟩ rfl ⟨⟨rfl,.inl ⟨rfl,rfl⟩⟩,trivial⟩ rfl rfl ?_;((with_reducible conv=>whnf);(with_reducible conv=>congr<;>reduce);repeat((first|(with_reducible refine aY.mk ?_)|(with_reducible refine aZ.mk ?_));(with_reducible conv=>whnf);(with_reducible conv=>congr<;>reduce)))
      cases hp:p x with
      | true=>
        rw[hp,if_pos rfl,List.append_nil] at hst
        have hl2:kp (j+1)++ (z::gar'++ [x])++ks.drop (j+1)=kp j++z::gar'++x::ks.drop (j+1):=by rw[hst];simp
        repeat' (first
    |(first
    |((with_reducible show aL _ _ _ _);first|refine aL.ff ?_|refine aL.tt ?_|refine aL.no (by first|rfl|assumption|exact nf (by assumption)|exact nt (by assumption)|((try simp only[ak]);first|(simp[];done)|(simp[];omega))) ?_|refine aL.yes (by first|rfl|assumption|exact nf (by assumption)|exact nt (by assumption)|((try simp only[ak]);first|(simp[];done)|(simp[];omega))) ?_)
    |((with_reducible show aP _ _ _ _);refine aP.mk (by(try simp only[ak]);omega) ?_)
    |((with_reducible show aH _ _ _ _);refine aH.mk (by kernel_rfl) (by kernel_rfl) (by kernel_rfl) ?_))<;>((with_reducible conv=>whnf);(with_reducible conv=>congr<;>reduce);repeat((first|(with_reducible refine aY.mk ?_)|(with_reducible refine aZ.mk ?_));(with_reducible conv=>whnf);(with_reducible conv=>congr<;>reduce)))
    | ((with_reducible show(_∧_)∧_∧_);refine⟨⟨rfl,rfl⟩,?_,?_⟩<;>(with_reducible conv=>whnf)<;>repeat' (first|(with_reducible exact trivial)|(with_reducible refine And.intro ?_ ?_<;>with_reducible conv=>whnf))))
        refine aT.mk (j+1,z::gar'++ [x]) ⟨by show j+1≤_;omega,by show(kp (j+1)).length+_=j+1;rw[hst];simp;omega,by simp⟩ (by show ks.length- (j+1)<ks.length-j;omega) ?_
        (refine⟨⟨rfl,rfl⟩,?_⟩;(with_reducible conv=>whnf);(repeat' (first|(with_reducible exact trivial)|(with_reducible refine And.intro ?_ ?_<;>with_reducible conv=>whnf)));(all_goals try rfl))
        all_goals first
          |exact⟨⟨rfl,rfl,trivial⟩,trivial⟩
          |(show((kp (j+1)).length:Int)=((kp j).length:Int);rw[hst])
          |(show o3 _ ((kp (j+1)++ (z::gar'++ [x])++ks.drop (j+1)).map bu) _;rw[hl2];exact⟨.refl (ae _),ae _⟩)
          |trace_state
      | false=>
        rw[hp,if_neg (by simp)] at hst
        have hl2:((kp j++z::gar'++x::ks.drop (j+1)).map bu).set (0+ (kp j).length) (ay x)=(kp (j+1)++ (gar'++ [x])++ks.drop (j+1)).map bu:=by
          rw[hst,Nat.zero_add,List.append_assoc,List.cons_append,gL,List.set_append,if_neg (by simp),bM,Nat.sub_self,List.map_cons,List.set_cons_zero,show ay x=bu x from rfl]
          simp
        repeat' (first
    |(first
    |((with_reducible show aL _ _ _ _);first|refine aL.ff ?_|refine aL.tt ?_|refine aL.no (by first|rfl|assumption|exact nf (by assumption)|exact nt (by assumption)|((try simp only[ak]);first|(simp[];done)|(simp[];omega))) ?_|refine aL.yes (by first|rfl|assumption|exact nf (by assumption)|exact nt (by assumption)|((try simp only[ak]);first|(simp[];done)|(simp[];omega))) ?_)
    |((with_reducible show aP _ _ _ _);refine aP.mk (by(try simp only[ak]);omega) ?_)
    |((with_reducible show aH _ _ _ _);refine aH.mk (by kernel_rfl) (by kernel_rfl) (by kernel_rfl) ?_))<;>((with_reducible conv=>whnf);(with_reducible conv=>congr<;>reduce);repeat((first|(with_reducible refine aY.mk ?_)|(with_reducible refine aZ.mk ?_));(with_reducible conv=>whnf);(with_reducible conv=>congr<;>reduce)))
    | ((with_reducible show(_∧_)∧_∧_);refine⟨⟨rfl,rfl⟩,?_,?_⟩<;>(with_reducible conv=>whnf)<;>repeat' (first|(with_reducible exact trivial)|(with_reducible refine And.intro ?_ ?_<;>with_reducible conv=>whnf))))
        refine gX.mk (kp j).length rfl (by omega) ?_;((with_reducible conv=>whnf);(with_reducible conv=>congr<;>reduce);repeat((first|(with_reducible refine aY.mk ?_)|(with_reducible refine aZ.mk ?_));(with_reducible conv=>whnf);(with_reducible conv=>congr<;>reduce)))
        refine bE.mk (ay z) (by rw[Nat.zero_add,dM,List.append_assoc,List.getElem?_append_right (Nat.le_refl _),Nat.sub_self];rfl) ?_;((with_reducible conv=>whnf);(with_reducible conv=>congr<;>reduce);repeat((first|(with_reducible refine aY.mk ?_)|(with_reducible refine aZ.mk ?_));(with_reducible conv=>whnf);(with_reducible conv=>congr<;>reduce)))
        rw[hl2]
        repeat' (first
    |(first
    |((with_reducible show aL _ _ _ _);first|refine aL.ff ?_|refine aL.tt ?_|refine aL.no (by first|rfl|assumption|exact nf (by assumption)|exact nt (by assumption)|((try simp only[ak]);first|(simp[];done)|(simp[];omega))) ?_|refine aL.yes (by first|rfl|assumption|exact nf (by assumption)|exact nt (by assumption)|((try simp only[ak]);first|(simp[];done)|(simp[];omega))) ?_)
    |((with_reducible show aP _ _ _ _);refine aP.mk (by(try simp only[ak]);omega) ?_)
    |((with_reducible show aH _ _ _ _);refine aH.mk (by kernel_rfl) (by kernel_rfl) (by kernel_rfl) ?_))<;>((with_reducible conv=>whnf);(with_reducible conv=>congr<;>reduce);repeat((first|(with_reducible refine aY.mk ?_)|(with_reducible refine aZ.mk ?_));(with_reducible conv=>whnf);(with_reducible conv=>congr<;>reduce)))
    | ((with_reducible show(_∧_)∧_∧_);refine⟨⟨rfl,rfl⟩,?_,?_⟩<;>(with_reducible conv=>whnf)<;>repeat' (first|(with_reducible exact trivial)|(with_reducible refine And.intro ?_ ?_<;>with_reducible conv=>whnf))))
        refine aT.mk (j+1,gar'++ [x]) ⟨by show j+1≤_;omega,by show(kp (j+1)).length+_=j+1;rw[hst];simp;omega,by simp⟩ (by show ks.length- (j+1)<ks.length-j;omega) ?_
        (refine⟨⟨rfl,rfl⟩,?_⟩;(with_reducible conv=>whnf);(repeat' (first|(with_reducible exact trivial)|(with_reducible refine And.intro ?_ ?_<;>with_reducible conv=>whnf)));(all_goals try rfl))
        all_goals first
          |exact⟨⟨rfl,rfl,trivial⟩,trivial⟩
          |exact⟨.refl (ae _),ae _⟩
          |(show((kp (j+1)).length:Int)=((kp j).length:Int)+1;rw[hst];simp)
          |trace_state
    · simp only[dG] at h1
      obtain rfl:j=ks.length:=by omega
      repeat' (first
    |(first
    |((with_reducible show aL _ _ _ _);first|refine aL.ff ?_|refine aL.tt ?_|refine aL.no (by first|rfl|assumption|exact nf (by assumption)|exact nt (by assumption)|((try simp only[ak]);first|(simp[];done)|(simp[];omega))) ?_|refine aL.yes (by first|rfl|assumption|exact nf (by assumption)|exact nt (by assumption)|((try simp only[ak]);first|(simp[];done)|(simp[];omega))) ?_)
    |((with_reducible show aP _ _ _ _);refine aP.mk (by(try simp only[ak]);omega) ?_)
    |((with_reducible show aH _ _ _ _);refine aH.mk (by kernel_rfl) (by kernel_rfl) (by kernel_rfl) ?_))<;>((with_reducible conv=>whnf);(with_reducible conv=>congr<;>reduce);repeat((first|(with_reducible refine aY.mk ?_)|(with_reducible refine aZ.mk ?_));(with_reducible conv=>whnf);(with_reducible conv=>congr<;>reduce)))
    | ((with_reducible show(_∧_)∧_∧_);refine⟨⟨rfl,rfl⟩,?_,?_⟩<;>(with_reducible conv=>whnf)<;>repeat' (first|(with_reducible exact trivial)|(with_reducible refine And.intro ?_ ?_<;>with_reducible conv=>whnf))))
      refine uM.mk (kp ks.length).length gar.length rfl (by(try simp only[ak]);omega) (by omega) ?_;((with_reducible conv=>whnf);(with_reducible conv=>congr<;>reduce);repeat((first|(with_reducible refine aY.mk ?_)|(with_reducible refine aZ.mk ?_));(with_reducible conv=>whnf);(with_reducible conv=>congr<;>reduce)))
      have hpos:0<gar.length:=List.length_pos_iff.2 hg0
      refine bt.clear ((kp ks.length++List.replicate gar.length 0).map bu) (by
        rw[Nat.zero_add,gL,gL,gL,List.append_assoc,List.take_left' (bM ..),List.map_replicate];rfl) rfl Tryz.underlying33 Tryz.zeroValue3 rfl rfl rfl rfl hpos rfl (by simp) rfl ?_;((with_reducible conv=>whnf);(with_reducible conv=>congr<;>reduce);repeat((first|(with_reducible refine aY.mk ?_)|(with_reducible refine aZ.mk ?_));(with_reducible conv=>whnf);(with_reducible conv=>congr<;>reduce)))
      repeat' (first
    |(first
    |((with_reducible show aL _ _ _ _);first|refine aL.ff ?_|refine aL.tt ?_|refine aL.no (by first|rfl|assumption|exact nf (by assumption)|exact nt (by assumption)|((try simp only[ak]);first|(simp[];done)|(simp[];omega))) ?_|refine aL.yes (by first|rfl|assumption|exact nf (by assumption)|exact nt (by assumption)|((try simp only[ak]);first|(simp[];done)|(simp[];omega))) ?_)
    |((with_reducible show aP _ _ _ _);refine aP.mk (by(try simp only[ak]);omega) ?_)
    |((with_reducible show aH _ _ _ _);refine aH.mk (by kernel_rfl) (by kernel_rfl) (by kernel_rfl) ?_))<;>((with_reducible conv=>whnf);(with_reducible conv=>congr<;>reduce);repeat((first|(with_reducible refine aY.mk ?_)|(with_reducible refine aZ.mk ?_));(with_reducible conv=>whnf);(with_reducible conv=>congr<;>reduce)))
    | ((with_reducible show(_∧_)∧_∧_);refine⟨⟨rfl,rfl⟩,?_,?_⟩<;>(with_reducible conv=>whnf)<;>repeat' (first|(with_reducible exact trivial)|(with_reducible refine And.intro ?_ ?_<;>with_reducible conv=>whnf))))
      refine uM.mk 0 (kp ks.length).length rfl (by(try simp only[ak]);omega) (by omega) ?_;((with_reducible conv=>whnf);(with_reducible conv=>congr<;>reduce);repeat((first|(with_reducible refine aY.mk ?_)|(with_reducible refine aZ.mk ?_));(with_reducible conv=>whnf);(with_reducible conv=>congr<;>reduce)))
      repeat' (first
    |(first
    |((with_reducible show aL _ _ _ _);first|refine aL.ff ?_|refine aL.tt ?_|refine aL.no (by first|rfl|assumption|exact nf (by assumption)|exact nt (by assumption)|((try simp only[ak]);first|(simp[];done)|(simp[];omega))) ?_|refine aL.yes (by first|rfl|assumption|exact nf (by assumption)|exact nt (by assumption)|((try simp only[ak]);first|(simp[];done)|(simp[];omega))) ?_)
    |((with_reducible show aP _ _ _ _);refine aP.mk (by(try simp only[ak]);omega) ?_)
    |((with_reducible show aH _ _ _ _);refine aH.mk (by kernel_rfl) (by kernel_rfl) (by kernel_rfl) ?_))<;>((with_reducible conv=>whnf);(with_reducible conv=>congr<;>reduce);repeat((first|(with_reducible refine aY.mk ?_)|(with_reducible refine aZ.mk ?_));(with_reducible conv=>whnf);(with_reducible conv=>congr<;>reduce)))
    | ((with_reducible show(_∧_)∧_∧_);refine⟨⟨rfl,rfl⟩,?_,?_⟩<;>(with_reducible conv=>whnf)<;>repeat' (first|(with_reducible exact trivial)|(with_reducible refine And.intro ?_ ?_<;>with_reducible conv=>whnf))))
      all_goals first
        |rfl
        |(rw[hend];done)
        |exact⟨⟨rfl,rfl,trivial⟩,trivial⟩
        |(rw[←hend,show ks.length- (kp ks.length).length=gar.length by omega];exact⟨.refl (ae _),ae _⟩)
        |(show o3 _ ((jz p ks++List.replicate (ks.length- (jz p ks).length) 0).map bu) _;rw[←hend,show ks.length- (kp ks.length).length=gar.length by omega];exact⟨.refl (ae _),ae _⟩)
        |trace_state
end
end Go.Proofs.Heir
namespace Go.Proofs.Heir
open Go Go.Am Go.RowKit Go.Lib
set_option maxRecDepth 100000
set_option maxHeartbeats 8000000
def Gz (f:ForM)(n:Int):List Int:=jz (fun c=> !decide ((nd f.nodes c).kind=1)) (pT f n)
def Pm (f:ForM)(n:Int):List Int:=List.replicate ((pT f n).length- (Gz f n).length) 0
theorem HR (f:ForM)(hs:bO f.nodes)(n:Int)(e0:(aU f&&aa f.nodes n)=true)(hl:(pT f n).length≤100000):an Tryz.prog 34 [] [bF f,ay n] [.live 1 ((Gz f n++Pm f n).map bu) false] (.own 0 0 (Gz f n).length):=by
  have h82:=IE f hs n e0
  have h81:=HS (f:=f) (p:=fun c=> !decide ((nd f.nodes c).kind=1)) hl fun a ha=>Mq f a (A2 a ha)
  unfold Pm
  rw[show jz (fun c=> !decide ((nd f.nodes c).kind=1)) (pT f n)=Gz f n from rfl] at h81
  generalize pT f n=al at h82 h81 ⊢
  generalize Gz f n=el at h81 ⊢
  obtain⟨l,m⟩:=f
  refine an.aF (rvs:=[.tmp 4]) G aq Tryz.func34 rfl Tryz.ntmps34 rfl rfl ?_;with_reducible refine wD ?_
  repeat' (first
    |refine gK ?_
    | ((first
      |((with_reducible show ah _ _ 82 _ _ _ _);refine ah.new 71 [] h82 PE ⟨⟨rfl,rfl,trivial⟩,rfl,trivial⟩ rfl rfl rfl (vO _) rfl ?_)
      |((with_reducible show ah _ _ 81 _ _ _ _);refine ah.dw (news:=[lJ ⟨l,m⟩,cU (el++List.replicate (al.length-el.length) 0)]) [20,71] [] h81 Pf ⟨⟨rfl,rfl⟩,⟨rfl,trivial,⟨rfl,rfl⟩,trivial⟩,trivial⟩ ⟨⟨rfl,.inl ⟨rfl,rfl⟩⟩,⟨rfl,.inl ⟨rfl,ae _⟩⟩,trivial⟩ rfl ⟨⟨rfl,rfl⟩,rfl⟩ rfl ⟨⟨rfl,.inl ⟨rfl,rfl⟩⟩,⟨rfl,.inl ⟨rfl,ae _⟩⟩,trivial⟩ rfl rfl ?_)
      |((with_reducible show aH _ _ _ _);refine dK ?_))<;>with_reducible refine wK ?_)
    |((with_reducible show(_∧_)∧_∧_);(refine eK ?_ ?_<;>with_reducible repeat' (first|exact trivial|(show _∧_;refine aK ?_ ?_)))))
  all_goals first
    |rfl
    |exact EZ rfl
    |exact⟨.refl (ae _),ae _⟩
    |trace_state
end Go.Proofs.Heir
namespace Go.Proofs.Heir
open Go Go.Am Go.RowKit Go.Lib Go.Extern.Stop Go.Stop Go.Extern
set_option maxRecDepth 100000
set_option maxHeartbeats 8000000
theorem zN (t:Addr)(w:World):(ReflectliteValue.unpack (.iface 220 (.pointer (some t)))).run Tryz.prog w
    =.ok (.agg #[.pointer (some ⟨5,220,none⟩),.pointer (some ⟨w.heap.size,0,none⟩),.int .u64 150]) (w.alloc (.cells #[.pointer (some t)] 220)):=by kernel_rfl
theorem He (a:Addr)(w:World):(ReflectliteValue.methodAny (ReflectliteValue.valueError "reflectlite.Value.Type" 0) (fun t _ _ _=>ReflectliteType.toType t) #[.agg #[.pointer (some ⟨5,220,none⟩),.pointer (some a),.int .u64 150]]).run Tryz.prog w
    =.ok (.iface 264 (.agg #[.pointer (some ⟨5,220,none⟩)])) w:=by kernel_rfl
theorem uO (h:Value)(w:World):(Go.method 435 264 (.agg #[h]) "Kind").run Tryz.prog w=.ok (263,h) w:=by kernel_rfl
theorem Gt (w:World):((ReflectliteType.abiMethod fun t=>(fun a:Nat=>Value.int IntKind.u8 (a:Int))<$>Rtype.kind t) #[.pointer (some ⟨5,220,none⟩)]).run Tryz.prog w=.ok (.int .u8 22) w:=by kernel_rfl
theorem HH (w:World):((ReflectliteType.abiMethod fun t=>(fun a:Nat=>Value.int IntKind.u8 (a:Int))<$>Rtype.kind t) #[.pointer (some ⟨5,176,none⟩)]).run Tryz.prog w=.ok (.int .u8 25) w:=by kernel_rfl
theorem Ht (z:Sem Value)(f:TypeId→Addr→Nat→Nat→Sem Value)(v:Value):
    ReflectliteValue.method z f #[v]=(do match ←ReflectliteValue.parts v with|none=>z|some (t,a,fl)=>f t a fl (fl%32)):=rfl
theorem wR (a:Addr)(w:World):(ReflectliteValue.parts (.agg #[.pointer (some ⟨5,220,none⟩),.pointer (some a),.int .u64 150])).run Tryz.prog w=.ok (some (220,a,150)) w:=by kernel_rfl
theorem DI (a p:Addr)(W:World)(ha:W.cell? a=some (.pointer (some p))):
    (ReflectliteValue.method (ReflectliteValue.valueError "reflectlite.Value.IsNil" 0) ReflectliteValue.isNil #[.agg #[.pointer (some ⟨5,220,none⟩),.pointer (some a),.int .u64 150]]).run Tryz.prog W=.ok (.bool false) W:=by
  rw[Ht]
  simp only[Sem.run_bind,wR,Result.andThen]
  simp[ReflectliteValue.isNil,loadVar,isAgg,underlying,Tryz.underlying220,ha,Result.andThen]
theorem uR (h:Value)(w:World):(Go.method 435 264 (.agg #[h]) "Elem").run Tryz.prog w=.ok (276,.agg #[h]) w:=by kernel_rfl
theorem nT (h:Value)(w:World):(Go.method 435 264 (.agg #[h]) "Implements").run Tryz.prog w=.ok (277,.agg #[h]) w:=by kernel_rfl
theorem me (h:Value)(w:World):(Go.method 435 264 (.agg #[h]) "AssignableTo").run Tryz.prog w=.ok (274,.agg #[h]) w:=by kernel_rfl
theorem rP (h:Value)(w:World):(Go.method 435 178 h "Unwrap").run Tryz.prog w=.ok (268,h) w:=by kernel_rfl
theorem HD (w:World):(ReflectliteType.method ReflectliteType.elem #[.agg #[.pointer (some ⟨5,220,none⟩)]]).run Tryz.prog w=.ok (.iface 264 (.agg #[.pointer (some ⟨5,176,none⟩)])) w:=by kernel_rfl
theorem uw (w:World):(ReflectliteType.relation "Implements" ReflectliteType.implements_ #[.agg #[.pointer (some ⟨5,176,none⟩)],.iface 264 (.agg #[.pointer (some ⟨5,98,none⟩)])]).run Tryz.prog w=.ok (.bool true) w:=by kernel_rfl
theorem BX (v:Value)(w:World):(ReflectliteType.typeOf #[.iface 176 v]).run Tryz.prog w=.ok (.iface 264 (.agg #[.pointer (some ⟨5,176,none⟩)])) w:=by kernel_rfl
theorem Br (v:Value)(w:World):(ReflectliteType.typeOf #[.iface 178 v]).run Tryz.prog w=.ok (.iface 264 (.agg #[.pointer (some ⟨5,178,none⟩)])) w:=by kernel_rfl
theorem tL (w:World):(ReflectliteType.relation "AssignableTo" ReflectliteType.assignableTo #[.agg #[.pointer (some ⟨5,176,none⟩)],.iface 264 (.agg #[.pointer (some ⟨5,176,none⟩)])]).run Tryz.prog w=.ok (.bool true) w:=by kernel_rfl
theorem sw (w:World):(ReflectliteType.relation "AssignableTo" ReflectliteType.assignableTo #[.agg #[.pointer (some ⟨5,178,none⟩)],.iface 264 (.agg #[.pointer (some ⟨5,176,none⟩)])]).run Tryz.prog w=.ok (.bool false) w:=by kernel_rfl
theorem yu (e:Int)(w:World):(ReflectliteValue.unpack (.iface 176 (.agg #[.int .i64 e]))).run Tryz.prog w
    =.ok (.agg #[.pointer (some ⟨5,176,none⟩),.pointer (some ⟨w.heap.size,0,none⟩),.int .u64 153]) (w.alloc (.cells #[.int .i64 e] 176)):=by kernel_rfl
theorem BC (w:World):(Rtype.elem? 220).run Tryz.prog w=.ok (some 176) w:=by kernel_rfl
theorem KW (p:Addr)(w:World):(ReflectliteValue.mk 176 p ReflectliteValue.flagAddr).run Tryz.prog w=.ok (.agg #[.pointer (some ⟨5,176,none⟩),.pointer (some p),.int .u64 409]) w:=by kernel_rfl
theorem Ev (a p:Addr)(W:World)(ha:W.cell? a=some (.pointer (some p))):
    (ReflectliteValue.method (ReflectliteValue.valueError "reflectlite.Value.Elem" 0) ReflectliteValue.elem #[.agg #[.pointer (some ⟨5,220,none⟩),.pointer (some a),.int .u64 150]]).run Tryz.prog W
      =.ok (.agg #[.pointer (some ⟨5,176,none⟩),.pointer (some p),.int .u64 409]) W:=by
  rw[Ht]
  simp only[Sem.run_bind,wR,Result.andThen]
  simp[ReflectliteValue.elem,loadVar,isAgg,underlying,Tryz.underlying220,ha,Result.andThen,BC,KW]
theorem KV (v x:Value):ReflectliteValue.set #[v,x]=(do
    let(some (dst,a,fl),some (src,b,_)):=(←ReflectliteValue.parts v,←ReflectliteValue.parts x)
      |unsupported (.noEntry "extern/(internal/reflectlite.Value).Set.zeroValue")
    if fl/ReflectliteValue.flagAddr%2==0 then unsupported (.noEntry "extern/(internal/reflectlite.Value).Set.unaddressable")
    let val ←loadVar src b
    if ←Rtype.directlyAssignable dst src then storeVar dst a val
    else if ←Rtype.implements dst src then
      if (←Rtype.kind src)==20 then
        match val with
        |.nilIface=>unsupported (.noEntry "extern/reflectlite: a nil value of one interface type handed on as a value of another")
        |_=>storeVar dst a val
      else storeVar dst a (.iface src val)
    else panicString ("reflectlite.Set: value of type " ++ (←Rtype.spelt src)++ " is not assignable to type " ++ (←Rtype.spelt dst))
    pure (.tuple #[])):=rfl
theorem BS (a:Addr)(w:World):(ReflectliteValue.parts (.agg #[.pointer (some ⟨5,176,none⟩),.pointer (some a),.int .u64 409])).run Tryz.prog w=.ok (some (176,a,409)) w:=by kernel_rfl
theorem D6 (a:Addr)(w:World):(ReflectliteValue.parts (.agg #[.pointer (some ⟨5,176,none⟩),.pointer (some a),.int .u64 153])).run Tryz.prog w=.ok (some (176,a,153)) w:=by kernel_rfl
theorem BU (w:World):(Rtype.directlyAssignable 176 176).run Tryz.prog w=.ok true w:=by kernel_rfl
theorem Hs (b:Addr)(e:Int)(W:World)(hb:W.cell? b=some (.int .i64 e)):(loadVar 176 b).run Tryz.prog W=.ok (.agg #[.int .i64 e]) W:=by
  simp[loadVar,isAgg,underlying,Tryz.underlying176,Result.andThen,Addr.add]
  rw[run_loadCells W b 1 (fun _=>.int .i64 e) (fun j hj=>by rw[Nat.lt_one_iff.1 hj];simpa[Addr.add] using hb)]
  rfl
theorem JV (ta b:Addr)(e:Int)(old:Value)(W:World)(hb:W.cell? b=some (.int .i64 e))(ht:W.cell? ta=some old)(hf:W.frozen? ta=false):
    (ReflectliteValue.set #[.agg #[.pointer (some ⟨5,176,none⟩),.pointer (some ta),.int .u64 409],.agg #[.pointer (some ⟨5,176,none⟩),.pointer (some b),.int .u64 153]]).run Tryz.prog W
      =.ok (.tuple #[]) (W.setCell ta (.int .i64 e)):=by
  rw[KV]
  simp only[Sem.run_bind,BS,D6,Result.andThen]
  simp[ReflectliteValue.flagAddr,Hs b e W hb,Result.andThen,BU,storeVar,Value.cells,storeCells,Addr.add]
  rw[run_store Tryz.prog W ta _ _ (by rfl)]
  simp[ht,hf]
theorem L9 {W:World}(ht:jc Tryz.prog W fun _=>none):W.cell? ⟨0,0,none⟩=some (.iface 264 (.agg #[.pointer (some ⟨5,98,none⟩)]))∧0<W.heap.size:=by
  obtain⟨_,h2,v,⟨u,ty,hu,hty,hn,rfl⟩,hc⟩:=ht.2 0 (by kernel_rfl)
  have hu':(Tryz.prog.cutTypes.find? (·.1== "internal/reflectlite.rtype")).map (·.2)=some 264:=by kernel_rfl
  obtain rfl:=Option.some.inj (hu.symm.trans hu')
  have hall:(List.range Tryz.prog.types.size).all (fun t=> !(Tryz.prog.rowNamed t [101,114,114,111,114])||Nat.beq t 98)=true:=by kernel_rfl
  have h98:=List.all_eq_true.1 hall ty (List.mem_range.2 hty)
  rw[hn] at h98
  obtain rfl:ty=98:=by simpa using Nat.eq_of_beq_eq_true h98
  exact⟨hc,h2⟩
theorem Il (v:Value)(w:World):(Instr.typeAssert (.iface 178 v) 98 269 true).run Tryz.prog w=.ok (.tuple #[.nilIface,.bool false]) w:=run_typeAssert_lacksB Tryz.underlying269 (by kernel_rfl) (by kernel_rfl) v 98 w
theorem Ki (v:Value)(w:World):(Instr.typeAssert (.iface 178 v) 98 272 true).run Tryz.prog w=.ok (.tuple #[.iface 178 v,.bool true]) w:=run_typeAssert_hasB Tryz.underlying272 (by kernel_rfl) v 98 w
theorem K5 (what:ByteArray)(e:Int)(t:Addr)(old:Value)(w:World)(hg:w.cell? ⟨0,0,none⟩=some (.iface 264 (.agg #[.pointer (some ⟨5,98,none⟩)])))(ht0:w.cell? t=some old)(hf0:w.frozen? t=false):
    Calls Tryz.prog 178 #[.iface 178 (.agg #[.string what,.iface 176 (.agg #[.int .i64 e])]),.iface 220 (.pointer (some t))] w fun ev w'=>ev=.returned (.bool true)∧w'=(((((w.alloc (.cells #[.pointer (some t)] 220)).alloc (.cells #[.pointer (some ⟨5,220,none⟩),.pointer (some ⟨w.heap.size,0,none⟩),.int .u64 150] 242)).alloc (.cells #[.pointer (some ⟨5,220,none⟩),.pointer (some ⟨w.heap.size,0,none⟩),.int .u64 150] 242)).alloc (.cells #[.string what,.iface 176 (.agg #[.int .i64 e])] 178)).alloc (.cells #[.int .i64 e] 176)).setCell t (.int .i64 e):=by
  have h209:=@run_callFunc_extern Tryz.prog 209 _ (fun args=>ReflectliteValue.unpack (args.getD 0 (.tuple #[]))) Tryz.func209 (by kernel_rfl) (by kernel_rfl) (by kernel_rfl) (by kernel_rfl)
  have h210:=@run_callFunc_extern Tryz.prog 210 _ (ReflectliteValue.methodAny (ReflectliteValue.valueError "reflectlite.Value.Type" 0) (fun t _ _ _=>ReflectliteType.toType t)) Tryz.func210 (by kernel_rfl) (by kernel_rfl) (by kernel_rfl) (by kernel_rfl)
  have h211:=@run_callFunc_extern Tryz.prog 211 _ (ReflectliteValue.method (ReflectliteValue.valueError "reflectlite.Value.IsNil" 0) ReflectliteValue.isNil) Tryz.func211 (by kernel_rfl) (by kernel_rfl) (by kernel_rfl) (by kernel_rfl)
  have h263:=@run_callFunc_extern Tryz.prog 263 _ (ReflectliteType.abiMethod fun t=>do pure (.int .u8 (←Rtype.kind t))) Tryz.func263 (by kernel_rfl) (by kernel_rfl) (by kernel_rfl) (by kernel_rfl)
  have h276:=@run_callFunc_extern Tryz.prog 276 _ (ReflectliteType.method ReflectliteType.elem) Tryz.func276 (by kernel_rfl) (by kernel_rfl) (by kernel_rfl) (by kernel_rfl)
  have h277:=@run_callFunc_extern Tryz.prog 277 _ (ReflectliteType.relation "Implements" ReflectliteType.implements_) Tryz.func277 (by kernel_rfl) (by kernel_rfl) (by kernel_rfl) (by kernel_rfl)
  have h224:=@run_callFunc_extern Tryz.prog 224 _ ReflectliteType.typeOf Tryz.func224 (by kernel_rfl) (by kernel_rfl) (by kernel_rfl) (by kernel_rfl)
  have h274:=@run_callFunc_extern Tryz.prog 274 _ (ReflectliteType.relation "AssignableTo" ReflectliteType.assignableTo) Tryz.func274 (by kernel_rfl) (by kernel_rfl) (by kernel_rfl) (by kernel_rfl)
  have h225:=@run_callFunc_extern Tryz.prog 225 _ (ReflectliteValue.method (ReflectliteValue.valueError "reflectlite.Value.Elem" 0) ReflectliteValue.elem) Tryz.func225 (by kernel_rfl) (by kernel_rfl) (by kernel_rfl) (by kernel_rfl)
  have h226:=@run_callFunc_extern Tryz.prog 226 _ ReflectliteValue.set Tryz.func226 (by kernel_rfl) (by kernel_rfl) (by kernel_rfl) (by kernel_rfl)
  have f209:=zN
  have f209c:=yu
  have f210:=He
  have mK:=uO
  have mE:=uR
  have mI:=nT
  have mA:=me
  have mU:=rP
  have kT:=Gt
  have kC:=HH
  have eT:=HD
  have iC:=uw
  have tC:=BX
  have tS:=Br
  have aC:=tL
  have aS:=sw
  have nA:=Il
  have hU:=Ki
  have n211:=DI ⟨w.heap.size,0,none⟩ t ((w.alloc (.cells #[.pointer (some t)] 220)).alloc (.cells #[.pointer (some ⟨5,220,none⟩),.pointer (some ⟨w.heap.size,0,none⟩),.int .u64 150] 242)) (by simp)
  have hlt:0<w.heap.size:=by
    rcases Nat.eq_zero_or_pos w.heap.size with h0|h
    ·simp[World.cell?,h0] at hg
    ·exact h
  have hg2:((w.alloc (.cells #[.pointer (some t)] 220)).alloc (.cells #[.pointer (some ⟨5,220,none⟩),.pointer (some ⟨w.heap.size,0,none⟩),.int .u64 150] 242)).cell? ⟨0,0,none⟩=some (.iface 264 (.agg #[.pointer (some ⟨5,98,none⟩)])):=by
    rw[World.cell?_alloc_lt _ _ ⟨0,0,none⟩ (by simp),World.cell?_alloc_lt _ _ ⟨0,0,none⟩ hlt];exact hg
  have htl:t.block<w.heap.size:=by
    rcases Nat.lt_or_ge t.block w.heap.size with h|h
    ·exact h
    ·simp[World.cell?,Array.getElem?_eq_none h] at ht0
  have el:=Ev ⟨w.heap.size,0,none⟩ t ((((w.alloc (.cells #[.pointer (some t)] 220)).alloc (.cells #[.pointer (some ⟨5,220,none⟩),.pointer (some ⟨w.heap.size,0,none⟩),.int .u64 150] 242)).alloc (.cells #[.pointer (some ⟨5,220,none⟩),.pointer (some ⟨w.heap.size,0,none⟩),.int .u64 150] 242)).alloc (.cells #[.string what,.iface 176 (.agg #[.int .i64 e])] 178)) (by
    rw[World.cell?_alloc_lt _ _ ⟨w.heap.size,0,none⟩ (by simp;omega),World.cell?_alloc_lt _ _ ⟨w.heap.size,0,none⟩ (by simp;omega),World.cell?_alloc_lt _ _ ⟨w.heap.size,0,none⟩ (by simp),World.cell?_alloc_at _ _ _ _ (by simp)];rfl)
  have st:=JV t ⟨w.heap.size+1+1+1+1,0,none⟩ e old (((((w.alloc (.cells #[.pointer (some t)] 220)).alloc (.cells #[.pointer (some ⟨5,220,none⟩),.pointer (some ⟨w.heap.size,0,none⟩),.int .u64 150] 242)).alloc (.cells #[.pointer (some ⟨5,220,none⟩),.pointer (some ⟨w.heap.size,0,none⟩),.int .u64 150] 242)).alloc (.cells #[.string what,.iface 176 (.agg #[.int .i64 e])] 178)).alloc (.cells #[.int .i64 e] 176))
    (by rw[World.cell?_alloc_at _ _ _ _ (by simp)];rfl)
    (by rw[World.cell?_alloc_lt _ _ t (by simp;omega),World.cell?_alloc_lt _ _ t (by simp;omega),World.cell?_alloc_lt _ _ t (by simp;omega),World.cell?_alloc_lt _ _ t (by simp;omega),World.cell?_alloc_lt _ _ t htl];exact ht0)
    (by rw[World.frozen?_alloc_old _ _ t (by simp;omega),World.frozen?_alloc_old _ _ t (by simp;omega),World.frozen?_alloc_old _ _ t (by simp;omega),World.frozen?_alloc_old _ _ t (by simp;omega),World.frozen?_alloc_old _ _ t (Nat.ne_of_lt htl)];exact hf0)
  go_enter Tryz.func178,Tryz.ntmps178
  go_wp2
  refine wp_loop_rounds 2 ?_
  rw[rounds_succ]
  go_wp2
  rw[rounds_succ]
  go_wp2
  go_ret
  exact⟨rfl,rfl⟩
end Go.Proofs.Heir
namespace Go.Proofs.Heir
open Go Go.Am Go.RowKit Go.Lib
set_option maxRecDepth 100000
set_option maxHeartbeats 8000000
theorem JI (what:ByteArray)(e:Int)(t:Addr)(old:Value)(w:World)(hg:w.cell? ⟨0,0,none⟩=some (.iface 264 (.agg #[.pointer (some ⟨5,98,none⟩)])))(ht0:w.cell? t=some old)(hf0:w.frozen? t=false):
    Calls Tryz.prog 178 #[.iface 178 (.agg #[.string what,.iface 176 (.agg #[.int .i64 e])]),.iface 220 (.pointer (some t))] w fun ev w'=>ev=.returned (.bool true)∧∃W:World,w'=W.setCell t (.int .i64 e)∧Below w.heap.size w W:=by
  refine(K5 what e t old w hg ht0 hf0).mono ?_
  rintro ev w' ⟨rfl,rfl⟩
  exact⟨rfl,_,rfl,(((((Below.refl _ _).alloc (Nat.le_refl _) _).alloc (by simp) _).alloc (by simp;omega) _).alloc (by simp;omega) _).alloc (by simp;omega) _⟩
theorem F1 {W:World}{a:Addr}{v:Value}(h:(W.cell? a).isSome=true):(W.setCell a v).cell? a=some v:=by
  obtain⟨u,hu⟩:=Option.isSome_iff_exists.1 h
  exact World.cell?_setCell_same W _ _ hu
theorem Ej (what:ByteArray)(e:Int)(w:World)(ht:jc Tryz.prog w fun _=>none):
    Calls Tryz.prog 122 #[.iface 178 (.agg #[.string what,.iface 176 (.agg #[.int .i64 e])])] w fun ev w'=>ev=.returned (.int .i64 e)∧Below w.heap.size w w':=by
  obtain⟨hg,hlt⟩:=L9 ht
  have hg1:(w.alloc (.cells #[.int .i64 0] 176)).cell? ⟨0,0,none⟩=some (.iface 264 (.agg #[.pointer (some ⟨5,98,none⟩)])):=by
    rw[World.cell?_alloc_lt _ _ ⟨0,0,none⟩ hlt];exact hg
  have hc1:(w.alloc (.cells #[.int .i64 0] 176)).cell? ⟨w.heap.size,0,none⟩=some (.int .i64 0):=by rw[World.cell?_alloc_at _ _ _ _ (by simp)];rfl
  have hf1:(w.alloc (.cells #[.int .i64 0] 176)).frozen? ⟨w.heap.size,0,none⟩=false:=World.frozen?_alloc_at _ _ _ _ rfl
  have h2:=JI what e ⟨w.heap.size,0,none⟩ (.int .i64 0) (w.alloc (.cells #[.int .i64 0] 176)) hg1 hc1 hf1
  go_enter Tryz.func122,Tryz.ntmps122
  go_wp2_with (go_at_call 178;refine h2.mono ?_;rintro ev w1 ⟨rfl,W,rfl,hb⟩;have hcW:(W.cell? ⟨w.heap.size,0,none⟩)=some (.int .i64 0):=(hb.cell (by simp)).trans hc1;have hcS:(W.setCell ⟨w.heap.size,0,none⟩ (.int .i64 e)).cell? ⟨w.heap.size,0,none⟩=some (.int .i64 e):=F1 (by rw[hcW];rfl))
  go_wp2
  go_ret
  refine⟨rfl,?_⟩
  exact((((Below.refl _ _).alloc (Nat.le_refl _) _).trans (hb.mono (by simp)))).setCell (Nat.le_refl _) _
theorem FB (what:ByteArray)(e:Int):an Tryz.prog 122 [] [.lit (.iface 178 (.agg #[.string what,.iface 176 (.agg #[.int .i64 e])]))] [] (ay e):=
  an.iH (vs:=[.iface 178 (.agg #[.string what,.iface 176 (.agg #[.int .i64 e])])]) fun w ht=>Ej what e w ht
end Go.Proofs.Heir
