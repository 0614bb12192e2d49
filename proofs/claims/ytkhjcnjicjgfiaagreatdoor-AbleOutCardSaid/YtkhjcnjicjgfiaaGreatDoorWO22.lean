/- Models, plain laws and contracts of functions of the given program; conditions as stated in each theorem. By an AI agent. -/
import Derived.Test.YtkhjcnjicjgfiaaGreatDoorWO15
import Derived.Test.YtkhjcnjicjgfiaaGreatDoorWO20
import Derived.Test.YtkhjcnjicjgfiaaGreatDoorWO11
import Derived.Test.YtkhjcnjicjgfiaaGreatDoorWO21
import Derived.Test.YtkhjcnjicjgfiaaGreatDoorWO12
import Derived.Test.YtkhjcnjicjgfiaaGreatDoorWO13
import Derived.Laws.StructEq
import Derived.Tactics
set_option linter.unusedSimpArgs false
set_option linter.unusedVariables false
namespace Go.Proofs.Heir
open Go Go.Am Go.RowKit Go.Lib
set_option maxRecDepth 100000
def jy (p:Int→Bool)(l:List Int):List Int:=l.filter fun x=> !p x
theorem Gi {m:ML}{fz:Nat→Bool}{tab:List (Nat×Nat)}{n:Nat}{a b:List Int}(h:a=b):yp (MF tab fz m n) (a.map bV) (b.map bV):=by subst h;exact bP (ae _)
@[reducible] def kU (f : ForM) : MS := .live 2 [aY f] false
theorem KR (f:ForM)(c:Int)(hc:af f.nodes c=true):an Tryz.prog 83 [kU f] [aj c,.ptr 0 0 0] [kU f] (bB (!decide ((nd f.nodes c).kind=1))):=by
  obtain⟨k,x,rfl,hx,hnx⟩:=aU.1 hc
  rw[hnx]
  obtain⟨l,m⟩:=f
  obtain⟨x1,x2,x3,x4,x5,x6,x7,x8,x9,x10⟩:=x
  simp only at hx
  refine an.aF (rvs:=[.tmp 3]) G au Tryz.func83 rfl Tryz.ntmps83 rfl rfl ?_;delta List.toArray;((with_reducible conv=>whnf);(with_reducible conv=>congr<;>reduce);repeat((first|(with_reducible refine bG.mk ?_)|(with_reducible refine bF.mk ?_));(with_reducible conv=>whnf);(with_reducible conv=>congr<;>reduce)))
  repeat' (first
    |(first
    |((with_reducible show bk _ _ _ _);first|refine bk.ff ?_|refine bk.tt ?_|refine bk.no (by first|rfl|assumption|exact nf (by assumption)|exact nt (by assumption)|((try simp only[ay]);first|(simp[];done)|(simp[];omega))) ?_|refine bk.yes (by first|rfl|assumption|exact nf (by assumption)|exact nt (by assumption)|((try simp only[ay]);first|(simp[];done)|(simp[];omega))) ?_)
    |((with_reducible show bC _ _ _ _);refine bC.mk (by(try simp only[ay]);omega) ?_)
    |((with_reducible show aL _ _ _ _);refine aL.mk (by kernel_rfl) (by kernel_rfl) (by kernel_rfl) ?_)
    |((with_reducible show aG _ _ _ _ _);refine aG.mk k (az ⟨x1,x2,x3,x4,x5,x6,x7,x8,x9,x10⟩) rfl (ah hx) ?_))<;>((with_reducible conv=>whnf);(with_reducible conv=>congr<;>reduce);repeat((first|(with_reducible refine bG.mk ?_)|(with_reducible refine bF.mk ?_));(with_reducible conv=>whnf);(with_reducible conv=>congr<;>reduce)))
    |((with_reducible show(_∧_)∧_∧_);refine⟨⟨rfl,rfl⟩,?_,?_⟩<;>(with_reducible conv=>whnf)<;>repeat' (first|(with_reducible exact trivial)|(with_reducible refine And.intro ?_ ?_<;>with_reducible conv=>whnf))))
  all_goals first|rfl|exact⟨⟨rfl,rfl,trivial⟩,trivial⟩|trace_state
section
variable {f : ForM} {p : Int → Bool} {ks : List Int}
theorem B8 {m':ML}{b:Nat}{r:List Nat}(h1:dX m' b=kU f):Bj (sn 1 0 (b::r)) [] m' [kU f] (b::r):=by
  simp only[Bj,h1]
  exact⟨⟨trivial,.inl ⟨rfl,rfl⟩⟩,trivial⟩
set_option maxHeartbeats 16000000 in
/-- slices.IndexFunc, of that closure -/
theorem FZ (hl:ks.length≤100000)(hf:∀a,a∈ks→an Tryz.prog 83 [kU f] [aj a,.ptr 0 0 0] [kU f] (bB (p a))):
    an Tryz.prog 125 [kU f,iX ks] [.own 1 0 ks.length,.clo (.func 83) [] [.ptr 0 0 0]] [kU f,iX ks] (aj (eC p ks)):=by
  obtain⟨l,m⟩:=f
  have hlm:(ks.map bV).length=ks.length:=cj ..
  refine an.aF (rvs:=[.tmp 4]) G au Tryz.func125 rfl Tryz.ntmps125 rfl rfl ?_;delta List.toArray;((with_reducible conv=>whnf);(with_reducible conv=>congr<;>reduce);repeat((first|(with_reducible refine bG.mk ?_)|(with_reducible refine bF.mk ?_));(with_reducible conv=>whnf);(with_reducible conv=>congr<;>reduce)))
  refine cn.use G au (fun(k:Nat)=>[(0,.own 1 0 ks.length),(1,.clo (.func 83) [] [.ptr 0 0 0]),(7,aj ks.length),(8,aj k)]) (fun _=>[(0,kU ⟨l,m⟩),(1,iX ks)])
    (fun k=>k≤ks.length∧∀j x,j<k→ks[j]? =some x→p x=false) (fun k=>ks.length-k) 0 ⟨Nat.zero_le _,fun j x h=>by omega⟩ ?_ ?_
  · (refine⟨⟨rfl,rfl⟩,?_⟩;(with_reducible conv=>whnf);(repeat' (first|(with_reducible exact trivial)|(with_reducible refine And.intro ?_ ?_<;>with_reducible conv=>whnf)));(all_goals try rfl))
    all_goals first
      |rfl
      |exact⟨.refl (ae _),ae _⟩
      |exact bP (ae _)
      |exact⟨⟨rfl,rfl,trivial⟩,trivial⟩
      |trace_state
  rintro k ⟨hk,hno⟩
  ((with_reducible conv=>whnf);(with_reducible conv=>congr<;>reduce);repeat((first|(with_reducible refine bG.mk ?_)|(with_reducible refine bF.mk ?_));(with_reducible conv=>whnf);(with_reducible conv=>congr<;>reduce)))
  refine bk.mk (fun h1=>?_) (fun h1=>?_)<;>(try simp only[ay] at h1)<;>((with_reducible conv=>whnf);(with_reducible conv=>congr<;>reduce);repeat((first|(with_reducible refine bG.mk ?_)|(with_reducible refine bF.mk ?_));(with_reducible conv=>whnf);(with_reducible conv=>congr<;>reduce)))
  · simp only[bO] at h1
    have hk':k<ks.length:=by omega
    obtain⟨a,ha⟩:∃a,ks[k]? =some a:=⟨_,bz hk'⟩
    have hg1:=hf a (bT ha)
    refine eO.mk k rfl hk' ?_;((with_reducible conv=>whnf);(with_reducible conv=>congr<;>reduce);repeat((first|(with_reducible refine bG.mk ?_)|(with_reducible refine bF.mk ?_));(with_reducible conv=>whnf);(with_reducible conv=>congr<;>reduce)))
    refine aZ.mk (aj a) (by first|exact bK ha|(rw[Nat.zero_add];exact bK ha)) ?_;((with_reducible conv=>whnf);(with_reducible conv=>congr<;>reduce);repeat((first|(with_reducible refine bG.mk ?_)|(with_reducible refine bF.mk ?_));(with_reducible conv=>whnf);(with_reducible conv=>congr<;>reduce)))
    repeat' (first
    |(first
    |((with_reducible show bk _ _ _ _);first|refine bk.ff ?_|refine bk.tt ?_|refine bk.no (by first|rfl|assumption|exact nf (by assumption)|exact nt (by assumption)|((try simp only[ay]);first|(simp[];done)|(simp[];omega))) ?_|refine bk.yes (by first|rfl|assumption|exact nf (by assumption)|exact nt (by assumption)|((try simp only[ay]);first|(simp[];done)|(simp[];omega))) ?_)
    |((with_reducible show bC _ _ _ _);refine bC.mk (by(try simp only[ay]);omega) ?_)
    |((with_reducible show aL _ _ _ _);refine aL.mk (by kernel_rfl) (by kernel_rfl) (by kernel_rfl) ?_))<;>((with_reducible conv=>whnf);(with_reducible conv=>congr<;>reduce);repeat((first|(with_reducible refine bG.mk ?_)|(with_reducible refine bF.mk ?_));(with_reducible conv=>whnf);(with_reducible conv=>congr<;>reduce)))
    |((with_reducible show(_∧_)∧_∧_);refine⟨⟨rfl,rfl⟩,?_,?_⟩<;>(with_reducible conv=>whnf)<;>repeat' (first|(with_reducible exact trivial)|(with_reducible refine And.intro ?_ ?_<;>with_reducible conv=>whnf))))
    refine aa.dg (news:=[kU ⟨l,m⟩]) [0] [] hg1 Oi ⟨rfl,⟨rfl,rfl⟩,trivial⟩ (B8 rfl) rfl ⟨⟨rfl,rfl⟩,rfl⟩ rfl ⟨⟨rfl,.inl ⟨rfl,rfl⟩⟩,trivial⟩ rfl rfl ?_;((with_reducible conv=>whnf);(with_reducible conv=>congr<;>reduce);repeat((first|(with_reducible refine bG.mk ?_)|(with_reducible refine bF.mk ?_));(with_reducible conv=>whnf);(with_reducible conv=>congr<;>reduce)))
    cases hp:p a with
    | true=>
      repeat' (first
    |(first
    |((with_reducible show bk _ _ _ _);first|refine bk.ff ?_|refine bk.tt ?_|refine bk.no (by first|rfl|assumption|exact nf (by assumption)|exact nt (by assumption)|((try simp only[ay]);first|(simp[];done)|(simp[];omega))) ?_|refine bk.yes (by first|rfl|assumption|exact nf (by assumption)|exact nt (by assumption)|((try simp only[ay]);first|(simp[];done)|(simp[];omega))) ?_)
    |((with_reducible show bC _ _ _ _);refine bC.mk (by(try simp only[ay]);omega) ?_)
    |((with_reducible show aL _ _ _ _);refine aL.mk (by kernel_rfl) (by kernel_rfl) (by kernel_rfl) ?_))<;>((with_reducible conv=>whnf);(with_reducible conv=>congr<;>reduce);repeat((first|(with_reducible refine bG.mk ?_)|(with_reducible refine bF.mk ?_));(with_reducible conv=>whnf);(with_reducible conv=>congr<;>reduce)))
    | ((with_reducible show(_∧_)∧_∧_);refine⟨⟨rfl,rfl⟩,?_,?_⟩<;>(with_reducible conv=>whnf)<;>repeat' (first|(with_reducible exact trivial)|(with_reducible refine And.intro ?_ ?_<;>with_reducible conv=>whnf))))
      all_goals first
        |exact fO ha hp hno
        |rfl
        |exact⟨.refl (ae _),ae _⟩
        |exact⟨⟨rfl,rfl,trivial⟩,trivial⟩
        |trace_state
    | false=>
      repeat' (first
    |(first
    |((with_reducible show bk _ _ _ _);first|refine bk.ff ?_|refine bk.tt ?_|refine bk.no (by first|rfl|assumption|exact nf (by assumption)|exact nt (by assumption)|((try simp only[ay]);first|(simp[];done)|(simp[];omega))) ?_|refine bk.yes (by first|rfl|assumption|exact nf (by assumption)|exact nt (by assumption)|((try simp only[ay]);first|(simp[];done)|(simp[];omega))) ?_)
    |((with_reducible show bC _ _ _ _);refine bC.mk (by(try simp only[ay]);omega) ?_)
    |((with_reducible show aL _ _ _ _);refine aL.mk (by kernel_rfl) (by kernel_rfl) (by kernel_rfl) ?_))<;>((with_reducible conv=>whnf);(with_reducible conv=>congr<;>reduce);repeat((first|(with_reducible refine bG.mk ?_)|(with_reducible refine bF.mk ?_));(with_reducible conv=>whnf);(with_reducible conv=>congr<;>reduce)))
    | ((with_reducible show(_∧_)∧_∧_);refine⟨⟨rfl,rfl⟩,?_,?_⟩<;>(with_reducible conv=>whnf)<;>repeat' (first|(with_reducible exact trivial)|(with_reducible refine And.intro ?_ ?_<;>with_reducible conv=>whnf))))
      refine cm.mk (k+1) ⟨by omega,fun j x hj hx=>by
        by_cases e:j=k
        ·subst e;rw[hx] at ha;cases ha;exact hp
        ·exact hno j x (by omega) hx⟩ (by omega) ?_
      (refine⟨⟨rfl,rfl⟩,?_⟩;(with_reducible conv=>whnf);(repeat' (first|(with_reducible exact trivial)|(with_reducible refine And.intro ?_ ?_<;>with_reducible conv=>whnf)));(all_goals try rfl))
      all_goals first
        |rfl
        |exact⟨.refl (ae _),ae _⟩
        |exact bP (ae _)
        |exact⟨⟨rfl,rfl,trivial⟩,trivial⟩
        |trace_state
  · simp only[dh] at h1
    obtain rfl:k=ks.length:=by omega
    repeat' (first
    |(first
    |((with_reducible show bk _ _ _ _);first|refine bk.ff ?_|refine bk.tt ?_|refine bk.no (by first|rfl|assumption|exact nf (by assumption)|exact nt (by assumption)|((try simp only[ay]);first|(simp[];done)|(simp[];omega))) ?_|refine bk.yes (by first|rfl|assumption|exact nf (by assumption)|exact nt (by assumption)|((try simp only[ay]);first|(simp[];done)|(simp[];omega))) ?_)
    |((with_reducible show bC _ _ _ _);refine bC.mk (by(try simp only[ay]);omega) ?_)
    |((with_reducible show aL _ _ _ _);refine aL.mk (by kernel_rfl) (by kernel_rfl) (by kernel_rfl) ?_))<;>((with_reducible conv=>whnf);(with_reducible conv=>congr<;>reduce);repeat((first|(with_reducible refine bG.mk ?_)|(with_reducible refine bF.mk ?_));(with_reducible conv=>whnf);(with_reducible conv=>congr<;>reduce)))
    |((with_reducible show(_∧_)∧_∧_);refine⟨⟨rfl,rfl⟩,?_,?_⟩<;>(with_reducible conv=>whnf)<;>repeat' (first|(with_reducible exact trivial)|(with_reducible refine And.intro ?_ ?_<;>with_reducible conv=>whnf))))
    all_goals first
      |exact jj fun j x hx=>hno j x (bg hx).1 hx
      |rfl
      |exact⟨.refl (ae _),ae _⟩
      |exact⟨⟨rfl,rfl,trivial⟩,trivial⟩
      |trace_state
set_option maxHeartbeats 16000000 in
/-- slices.DeleteFunc, of numbers -/
theorem Iu (hl:ks.length≤100000)(hf:∀a,a∈ks→an Tryz.prog 83 [kU f] [aj a,.ptr 0 0 0] [kU f] (bB (p a))):
    an Tryz.prog 81 [kU f,iX ks] [.own 1 0 ks.length,.clo (.func 83) [] [.ptr 0 0 0]] [kU f,iX (jy p ks++List.replicate (ks.length- (jy p ks).length) 0)] (.own 1 0 (jy p ks).length):=by
  have h125:=FZ hl hf
  obtain⟨l,m⟩:=f
  have hlm:(ks.map bV).length=ks.length:=cj ..
  cases hi:ks.findIdx? p with
  | none=>
    have e1:eC p ks=-1:=by unfold eC;rw[hi]
    have e2:jy p ks=ks:=by
      unfold jy;rw[List.filter_eq_self];intro a ha
      have:=List.findIdx?_eq_none_iff.1 hi a ha
      simpa using this
    rw[e1] at h125
    rw[e2,Nat.sub_self,List.replicate_zero,List.append_nil]
    refine an.aF (rvs:=[.tmp 4]) G au Tryz.func81 rfl Tryz.ntmps81 rfl rfl ?_;delta List.toArray;((with_reducible conv=>whnf);(with_reducible conv=>congr<;>reduce);repeat((first|(with_reducible refine bG.mk ?_)|(with_reducible refine bF.mk ?_));(with_reducible conv=>whnf);(with_reducible conv=>congr<;>reduce)))
    refine aa.dg (news:=[kU ⟨l,m⟩,iX ks]) [0,1] [] h125 FQ ⟨⟨rfl,rfl⟩,⟨rfl,trivial,⟨rfl,rfl⟩,trivial⟩,trivial⟩ ⟨⟨rfl,.inl ⟨rfl,rfl⟩⟩,⟨rfl,.inl ⟨rfl,ae _⟩⟩,trivial⟩ rfl ⟨⟨rfl,rfl⟩,rfl⟩ rfl ⟨⟨rfl,.inl ⟨rfl,rfl⟩⟩,⟨rfl,.inl ⟨rfl,ae _⟩⟩,trivial⟩ rfl rfl ?_;((with_reducible conv=>whnf);(with_reducible conv=>congr<;>reduce);repeat((first|(with_reducible refine bG.mk ?_)|(with_reducible refine bF.mk ?_));(with_reducible conv=>whnf);(with_reducible conv=>congr<;>reduce)))
    repeat' (first
    |(first
    |((with_reducible show bk _ _ _ _);first|refine bk.ff ?_|refine bk.tt ?_|refine bk.no (by first|rfl|assumption|exact nf (by assumption)|exact nt (by assumption)|((try simp only[ay]);first|(simp[];done)|(simp[];omega))) ?_|refine bk.yes (by first|rfl|assumption|exact nf (by assumption)|exact nt (by assumption)|((try simp only[ay]);first|(simp[];done)|(simp[];omega))) ?_)
    |((with_reducible show bC _ _ _ _);refine bC.mk (by(try simp only[ay]);omega) ?_)
    |((with_reducible show aL _ _ _ _);refine aL.mk (by kernel_rfl) (by kernel_rfl) (by kernel_rfl) ?_))<;>((with_reducible conv=>whnf);(with_reducible conv=>congr<;>reduce);repeat((first|(with_reducible refine bG.mk ?_)|(with_reducible refine bF.mk ?_));(with_reducible conv=>whnf);(with_reducible conv=>congr<;>reduce)))
    |((with_reducible show(_∧_)∧_∧_);refine⟨⟨rfl,rfl⟩,?_,?_⟩<;>(with_reducible conv=>whnf)<;>repeat' (first|(with_reducible exact trivial)|(with_reducible refine And.intro ?_ ?_<;>with_reducible conv=>whnf))))
    all_goals first
      |rfl
      |exact⟨.refl (ae _),ae _⟩
      |exact bP (ae _)
      |exact⟨⟨rfl,rfl,trivial⟩,trivial⟩
      |trace_state
  | some i0=>
    have e1:eC p ks=(i0:Int):=by unfold eC;rw[hi]
    rw[e1] at h125
    obtain⟨hi1,hi2,hi3⟩:=List.findIdx?_eq_some_iff_getElem.1 hi
    obtain⟨kp,hkp⟩:∃kp:Nat→List Int,kp=fun j=>jy p (ks.take j):=⟨_,rfl⟩
    have hk1:kp (i0+1)=ks.take i0:=by
      rw[hkp];unfold jy
      show List.filter _ (ks.take (i0+1))=_
      rw[List.take_add_one,bz hi1,List.filter_append]
      have h1:List.filter (fun x=> !p x) (ks.take i0)=ks.take i0:=by
        rw[List.filter_eq_self];intro a ha
        obtain⟨j,hj,rfl⟩:=List.mem_iff_getElem.1 ha
        rw[List.getElem_take]
        simp only[fP] at hj
        have:=hi3 j (by omega)
        simpa using this
      rw[h1];simp[hi2]
    have hstep:∀ (j:Nat) (x:Int),ks[j]? =some x→kp (j+1)=kp j++if p x=true then[] else[x]:=fun j x hx=>by
      rw[hkp];unfold jy
      show List.filter _ (ks.take (j+1))=_
      rw[List.take_add_one,hx,List.filter_append]
      congr 1
      show List.filter _ [x]=_
      rw[List.filter_cons]
      cases p x<;>rfl
    have hend:kp ks.length=jy p ks:=by rw[hkp];show jy p (ks.take ks.length)=_;rw[List.take_length]
    have hl1:kp (i0+1)++ [ks[i0]]++ks.drop (i0+1)=ks:=by
      rw[hk1,List.append_assoc,List.singleton_append,←List.drop_eq_getElem_cons hi1,List.take_append_drop]
    refine an.aF (rvs:=[.tmp 4]) G au Tryz.func81 rfl Tryz.ntmps81 rfl rfl ?_;delta List.toArray;((with_reducible conv=>whnf);(with_reducible conv=>congr<;>reduce);repeat((first|(with_reducible refine bG.mk ?_)|(with_reducible refine bF.mk ?_));(with_reducible conv=>whnf);(with_reducible conv=>congr<;>reduce)))
    refine aa.dg (news:=[kU ⟨l,m⟩,iX ks]) [0,1] [] h125 FQ ⟨⟨rfl,rfl⟩,⟨rfl,trivial,⟨rfl,rfl⟩,trivial⟩,trivial⟩ ⟨⟨rfl,.inl ⟨rfl,rfl⟩⟩,⟨rfl,.inl ⟨rfl,ae _⟩⟩,trivial⟩ rfl ⟨⟨rfl,rfl⟩,rfl⟩ rfl ⟨⟨rfl,.inl ⟨rfl,rfl⟩⟩,⟨rfl,.inl ⟨rfl,ae _⟩⟩,trivial⟩ rfl rfl ?_;((with_reducible conv=>whnf);(with_reducible conv=>congr<;>reduce);repeat((first|(with_reducible refine bG.mk ?_)|(with_reducible refine bF.mk ?_));(with_reducible conv=>whnf);(with_reducible conv=>congr<;>reduce)))
    repeat' (first
    |(first
    |((with_reducible show bk _ _ _ _);first|refine bk.ff ?_|refine bk.tt ?_|refine bk.no (by first|rfl|assumption|exact nf (by assumption)|exact nt (by assumption)|((try simp only[ay]);first|(simp[];done)|(simp[];omega))) ?_|refine bk.yes (by first|rfl|assumption|exact nf (by assumption)|exact nt (by assumption)|((try simp only[ay]);first|(simp[];done)|(simp[];omega))) ?_)
    |((with_reducible show bC _ _ _ _);refine bC.mk (by(try simp only[ay]);omega) ?_)
    |((with_reducible show aL _ _ _ _);refine aL.mk (by kernel_rfl) (by kernel_rfl) (by kernel_rfl) ?_))<;>((with_reducible conv=>whnf);(with_reducible conv=>congr<;>reduce);repeat((first|(with_reducible refine bG.mk ?_)|(with_reducible refine bF.mk ?_));(with_reducible conv=>whnf);(with_reducible conv=>congr<;>reduce)))
    |((with_reducible show(_∧_)∧_∧_);refine⟨⟨rfl,rfl⟩,?_,?_⟩<;>(with_reducible conv=>whnf)<;>repeat' (first|(with_reducible exact trivial)|(with_reducible refine And.intro ?_ ?_<;>with_reducible conv=>whnf))))
    refine cn.use G au (fun(i:Nat×List Int)=>[(0,.own 1 0 ks.length),(1,.clo (.func 83) [] [.ptr 0 0 0]),(5,aj (kp i.1).length),(6,aj i.1)])
      (fun i=>[(0,kU ⟨l,m⟩),(1,iX (kp i.1++i.2++ks.drop i.1))])
      (fun i=>i.1≤ks.length∧(kp i.1).length+i.2.length=i.1∧i.2≠ []) (fun i=>ks.length-i.1) (i0+1,[ks[i0]]) ⟨by show i0+1≤_;omega,by show(kp (i0+1)).length+1=i0+1;rw[hk1,fP,Nat.min_eq_left (by omega)],by simp⟩ ?_ ?_
    · (refine⟨⟨rfl,rfl⟩,?_⟩;(with_reducible conv=>whnf);(repeat' (first|(with_reducible exact trivial)|(with_reducible refine And.intro ?_ ?_<;>with_reducible conv=>whnf)));(all_goals try rfl))
      all_goals first
        |(show((kp (i0+1)).length:Int)=(i0:Int);rw[hk1,fP,Nat.min_eq_left (by omega)])
        |exact⟨⟨rfl,rfl,trivial⟩,trivial⟩
        |(show r6 _ ((kp (i0+1)++ [ks[i0]]++ks.drop (i0+1)).map bV) _;rw[hl1];exact⟨.refl (ae _),ae _⟩)
        |trace_state
    rintro⟨j,gar⟩ ⟨hj,hg,hg0⟩
    simp only at hj hg hg0
    ((with_reducible conv=>whnf);(with_reducible conv=>congr<;>reduce);repeat((first|(with_reducible refine bG.mk ?_)|(with_reducible refine bF.mk ?_));(with_reducible conv=>whnf);(with_reducible conv=>congr<;>reduce)))
    have hdl:(ks.drop j).length=ks.length-j:=List.length_drop ..
    have hlr:((kp j++gar++ks.drop j).map bV).length=ks.length:=by simp;omega
    refine bk.mk (fun h1=>?_) (fun h1=>?_)<;>(try simp only[ay] at h1)<;>((with_reducible conv=>whnf);(with_reducible conv=>congr<;>reduce);repeat((first|(with_reducible refine bG.mk ?_)|(with_reducible refine bF.mk ?_));(with_reducible conv=>whnf);(with_reducible conv=>congr<;>reduce)))
    · simp only[bO] at h1
      have hj':j<ks.length:=by omega
      obtain⟨x,hx⟩:∃x,ks[j]? =some x:=⟨_,bz hj'⟩
      have hdj:ks.drop j=x::ks.drop (j+1):=by
        rw[List.drop_eq_getElem_cons hj'];congr 1
        rw[bz hj'] at hx;exact Option.some.inj hx
      have hst:=hstep j x hx
      have hg1:=hf x (bT hx)
      rw[hdj]
      rw[hdj] at hlr
      obtain⟨z,gar',rfl⟩:=List.exists_cons_of_ne_nil hg0
      simp only[List.length_cons] at hg
      refine eO.mk j rfl (by omega) ?_
      ((with_reducible conv=>whnf);(with_reducible conv=>congr<;>reduce);repeat((first|(with_reducible refine bG.mk ?_)|(with_reducible refine bF.mk ?_));(with_reducible conv=>whnf);(with_reducible conv=>congr<;>reduce)))
      refine aZ.mk (aj x) (by rw[Nat.zero_add,fH,List.getElem?_append_right (by simp;omega),show j- (kp j++z::gar').length=0 by simp;omega];rfl) ?_;((with_reducible conv=>whnf);(with_reducible conv=>congr<;>reduce);repeat((first|(with_reducible refine bG.mk ?_)|(with_reducible refine bF.mk ?_));(with_reducible conv=>whnf);(with_reducible conv=>congr<;>reduce)))
      repeat' (first
    |(first
    |((with_reducible show bk _ _ _ _);first|refine bk.ff ?_|refine bk.tt ?_|refine bk.no (by first|rfl|assumption|exact nf (by assumption)|exact nt (by assumption)|((try simp only[ay]);first|(simp[];done)|(simp[];omega))) ?_|refine bk.yes (by first|rfl|assumption|exact nf (by assumption)|exact nt (by assumption)|((try simp only[ay]);first|(simp[];done)|(simp[];omega))) ?_)
    |((with_reducible show bC _ _ _ _);refine bC.mk (by(try simp only[ay]);omega) ?_)
    |((with_reducible show aL _ _ _ _);refine aL.mk (by kernel_rfl) (by kernel_rfl) (by kernel_rfl) ?_))<;>((with_reducible conv=>whnf);(with_reducible conv=>congr<;>reduce);repeat((first|(with_reducible refine bG.mk ?_)|(with_reducible refine bF.mk ?_));(with_reducible conv=>whnf);(with_reducible conv=>congr<;>reduce)))
    | ((with_reducible show(_∧_)∧_∧_);refine⟨⟨rfl,rfl⟩,?_,?_⟩<;>(with_reducible conv=>whnf)<;>repeat' (first|(with_reducible exact trivial)|(with_reducible refine And.intro ?_ ?_<;>with_reducible conv=>whnf))))
      refine aa.dg (news:=[kU ⟨l,m⟩]) [0] [] hg1 Oi ⟨rfl,⟨rfl,rfl⟩,trivial⟩ (B8 rfl) rfl ⟨⟨rfl,rfl⟩,rfl⟩ rfl ⟨⟨rfl,.inl ⟨rfl,rfl⟩⟩,trivial⟩ rfl rfl ?_;((with_reducible conv=>whnf);(with_reducible conv=>congr<;>reduce);repeat((first|(with_reducible refine bG.mk ?_)|(with_reducible refine bF.mk ?_));(with_reducible conv=>whnf);(with_reducible conv=>congr<;>reduce)))
      cases hp:p x with
      | true=>
        rw[hp,if_pos rfl,List.append_nil] at hst
        have hl2:kp (j+1)++ (z::gar'++ [x])++ks.drop (j+1)=kp j++z::gar'++x::ks.drop (j+1):=by rw[hst];simp
        repeat' (first
    |(first
    |((with_reducible show bk _ _ _ _);first|refine bk.ff ?_|refine bk.tt ?_|refine bk.no (by first|rfl|assumption|exact nf (by assumption)|exact nt (by assumption)|((try simp only[ay]);first|(simp[];done)|(simp[];omega))) ?_|refine bk.yes (by first|rfl|assumption|exact nf (by assumption)|exact nt (by assumption)|((try simp only[ay]);first|(simp[];done)|(simp[];omega))) ?_)
    |((with_reducible show bC _ _ _ _);refine bC.mk (by(try simp only[ay]);omega) ?_)
    |((with_reducible show aL _ _ _ _);refine aL.mk (by kernel_rfl) (by kernel_rfl) (by kernel_rfl) ?_))<;>((with_reducible conv=>whnf);(with_reducible conv=>congr<;>reduce);repeat((first|(with_reducible refine bG.mk ?_)|(with_reducible refine bF.mk ?_));(with_reducible conv=>whnf);(with_reducible conv=>congr<;>reduce)))
    | ((with_reducible show(_∧_)∧_∧_);refine⟨⟨rfl,rfl⟩,?_,?_⟩<;>(with_reducible conv=>whnf)<;>repeat' (first|(with_reducible exact trivial)|(with_reducible refine And.intro ?_ ?_<;>with_reducible conv=>whnf))))
        refine cm.mk (j+1,z::gar'++ [x]) ⟨by show j+1≤_;omega,by show(kp (j+1)).length+_=j+1;rw[hst];simp;omega,by simp⟩ (by show ks.length- (j+1)<ks.length-j;omega) ?_
        (refine⟨⟨rfl,rfl⟩,?_⟩;(with_reducible conv=>whnf);(repeat' (first|(with_reducible exact trivial)|(with_reducible refine And.intro ?_ ?_<;>with_reducible conv=>whnf)));(all_goals try rfl))
        all_goals first
          |exact⟨⟨rfl,rfl,trivial⟩,trivial⟩
          |(show((kp (j+1)).length:Int)=((kp j).length:Int);rw[hst])
          |(show r6 _ ((kp (j+1)++ (z::gar'++ [x])++ks.drop (j+1)).map bV) _;rw[hl2];exact⟨.refl (ae _),ae _⟩)
          |trace_state
      | false=>
        rw[hp,if_neg (by simp)] at hst
        have hl2:((kp j++z::gar'++x::ks.drop (j+1)).map bV).set (0+ (kp j).length) (aj x)=(kp (j+1)++ (gar'++ [x])++ks.drop (j+1)).map bV:=by
          rw[hst,Nat.zero_add,List.append_assoc,List.cons_append,gY,List.set_append,if_neg (by simp),cj,Nat.sub_self,List.map_cons,List.set_cons_zero,show aj x=bV x from rfl]
          simp
        repeat' (first
    |(first
    |((with_reducible show bk _ _ _ _);first|refine bk.ff ?_|refine bk.tt ?_|refine bk.no (by first|rfl|assumption|exact nf (by assumption)|exact nt (by assumption)|((try simp only[ay]);first|(simp[];done)|(simp[];omega))) ?_|refine bk.yes (by first|rfl|assumption|exact nf (by assumption)|exact nt (by assumption)|((try simp only[ay]);first|(simp[];done)|(simp[];omega))) ?_)
    |((with_reducible show bC _ _ _ _);refine bC.mk (by(try simp only[ay]);omega) ?_)
    |((with_reducible show aL _ _ _ _);refine aL.mk (by kernel_rfl) (by kernel_rfl) (by kernel_rfl) ?_))<;>((with_reducible conv=>whnf);(with_reducible conv=>congr<;>reduce);repeat((first|(with_reducible refine bG.mk ?_)|(with_reducible refine bF.mk ?_));(with_reducible conv=>whnf);(with_reducible conv=>congr<;>reduce)))
    | ((with_reducible show(_∧_)∧_∧_);refine⟨⟨rfl,rfl⟩,?_,?_⟩<;>(with_reducible conv=>whnf)<;>repeat' (first|(with_reducible exact trivial)|(with_reducible refine And.intro ?_ ?_<;>with_reducible conv=>whnf))))
        refine eO.mk (kp j).length rfl (by omega) ?_;((with_reducible conv=>whnf);(with_reducible conv=>congr<;>reduce);repeat((first|(with_reducible refine bG.mk ?_)|(with_reducible refine bF.mk ?_));(with_reducible conv=>whnf);(with_reducible conv=>congr<;>reduce)))
        refine aZ.mk (aj z) (by rw[Nat.zero_add,fH,List.append_assoc,List.getElem?_append_right (Nat.le_refl _),Nat.sub_self];rfl) ?_;((with_reducible conv=>whnf);(with_reducible conv=>congr<;>reduce);repeat((first|(with_reducible refine bG.mk ?_)|(with_reducible refine bF.mk ?_));(with_reducible conv=>whnf);(with_reducible conv=>congr<;>reduce)))
        rw[hl2]
        repeat' (first
    |(first
    |((with_reducible show bk _ _ _ _);first|refine bk.ff ?_|refine bk.tt ?_|refine bk.no (by first|rfl|assumption|exact nf (by assumption)|exact nt (by assumption)|((try simp only[ay]);first|(simp[];done)|(simp[];omega))) ?_|refine bk.yes (by first|rfl|assumption|exact nf (by assumption)|exact nt (by assumption)|((try simp only[ay]);first|(simp[];done)|(simp[];omega))) ?_)
    |((with_reducible show bC _ _ _ _);refine bC.mk (by(try simp only[ay]);omega) ?_)
    |((with_reducible show aL _ _ _ _);refine aL.mk (by kernel_rfl) (by kernel_rfl) (by kernel_rfl) ?_))<;>((with_reducible conv=>whnf);(with_reducible conv=>congr<;>reduce);repeat((first|(with_reducible refine bG.mk ?_)|(with_reducible refine bF.mk ?_));(with_reducible conv=>whnf);(with_reducible conv=>congr<;>reduce)))
    | ((with_reducible show(_∧_)∧_∧_);refine⟨⟨rfl,rfl⟩,?_,?_⟩<;>(with_reducible conv=>whnf)<;>repeat' (first|(with_reducible exact trivial)|(with_reducible refine And.intro ?_ ?_<;>with_reducible conv=>whnf))))
        refine cm.mk (j+1,gar'++ [x]) ⟨by show j+1≤_;omega,by show(kp (j+1)).length+_=j+1;rw[hst];simp;omega,by simp⟩ (by show ks.length- (j+1)<ks.length-j;omega) ?_
        (refine⟨⟨rfl,rfl⟩,?_⟩;(with_reducible conv=>whnf);(repeat' (first|(with_reducible exact trivial)|(with_reducible refine And.intro ?_ ?_<;>with_reducible conv=>whnf)));(all_goals try rfl))
        all_goals first
          |exact⟨⟨rfl,rfl,trivial⟩,trivial⟩
          |exact⟨.refl (ae _),ae _⟩
          |(show((kp (j+1)).length:Int)=((kp j).length:Int)+1;rw[hst];simp)
          |trace_state
    · simp only[dh] at h1
      obtain rfl:j=ks.length:=by omega
      repeat' (first
    |(first
    |((with_reducible show bk _ _ _ _);first|refine bk.ff ?_|refine bk.tt ?_|refine bk.no (by first|rfl|assumption|exact nf (by assumption)|exact nt (by assumption)|((try simp only[ay]);first|(simp[];done)|(simp[];omega))) ?_|refine bk.yes (by first|rfl|assumption|exact nf (by assumption)|exact nt (by assumption)|((try simp only[ay]);first|(simp[];done)|(simp[];omega))) ?_)
    |((with_reducible show bC _ _ _ _);refine bC.mk (by(try simp only[ay]);omega) ?_)
    |((with_reducible show aL _ _ _ _);refine aL.mk (by kernel_rfl) (by kernel_rfl) (by kernel_rfl) ?_))<;>((with_reducible conv=>whnf);(with_reducible conv=>congr<;>reduce);repeat((first|(with_reducible refine bG.mk ?_)|(with_reducible refine bF.mk ?_));(with_reducible conv=>whnf);(with_reducible conv=>congr<;>reduce)))
    | ((with_reducible show(_∧_)∧_∧_);refine⟨⟨rfl,rfl⟩,?_,?_⟩<;>(with_reducible conv=>whnf)<;>repeat' (first|(with_reducible exact trivial)|(with_reducible refine And.intro ?_ ?_<;>with_reducible conv=>whnf))))
      refine Bi.mk (kp ks.length).length gar.length rfl (by(try simp only[ay]);omega) (by omega) ?_;((with_reducible conv=>whnf);(with_reducible conv=>congr<;>reduce);repeat((first|(with_reducible refine bG.mk ?_)|(with_reducible refine bF.mk ?_));(with_reducible conv=>whnf);(with_reducible conv=>congr<;>reduce)))
      have hpos:0<gar.length:=List.length_pos_iff.2 hg0
      refine aN.clear ((kp ks.length++List.replicate gar.length 0).map bV) (by
        rw[Nat.zero_add,gY,gY,gY,List.append_assoc,List.take_left' (cj ..),List.map_replicate];rfl) rfl Tryz.underlying33 Tryz.zeroValue3 rfl rfl rfl rfl hpos rfl (by simp) rfl ?_;((with_reducible conv=>whnf);(with_reducible conv=>congr<;>reduce);repeat((first|(with_reducible refine bG.mk ?_)|(with_reducible refine bF.mk ?_));(with_reducible conv=>whnf);(with_reducible conv=>congr<;>reduce)))
      repeat' (first
    |(first
    |((with_reducible show bk _ _ _ _);first|refine bk.ff ?_|refine bk.tt ?_|refine bk.no (by first|rfl|assumption|exact nf (by assumption)|exact nt (by assumption)|((try simp only[ay]);first|(simp[];done)|(simp[];omega))) ?_|refine bk.yes (by first|rfl|assumption|exact nf (by assumption)|exact nt (by assumption)|((try simp only[ay]);first|(simp[];done)|(simp[];omega))) ?_)
    |((with_reducible show bC _ _ _ _);refine bC.mk (by(try simp only[ay]);omega) ?_)
    |((with_reducible show aL _ _ _ _);refine aL.mk (by kernel_rfl) (by kernel_rfl) (by kernel_rfl) ?_))<;>((with_reducible conv=>whnf);(with_reducible conv=>congr<;>reduce);repeat((first|(with_reducible refine bG.mk ?_)|(with_reducible refine bF.mk ?_));(with_reducible conv=>whnf);(with_reducible conv=>congr<;>reduce)))
    | ((with_reducible show(_∧_)∧_∧_);refine⟨⟨rfl,rfl⟩,?_,?_⟩<;>(with_reducible conv=>whnf)<;>repeat' (first|(with_reducible exact trivial)|(with_reducible refine And.intro ?_ ?_<;>with_reducible conv=>whnf))))
      refine Bi.mk 0 (kp ks.length).length rfl (by(try simp only[ay]);omega) (by omega) ?_;((with_reducible conv=>whnf);(with_reducible conv=>congr<;>reduce);repeat((first|(with_reducible refine bG.mk ?_)|(with_reducible refine bF.mk ?_));(with_reducible conv=>whnf);(with_reducible conv=>congr<;>reduce)))
      repeat' (first
    |(first
    |((with_reducible show bk _ _ _ _);first|refine bk.ff ?_|refine bk.tt ?_|refine bk.no (by first|rfl|assumption|exact nf (by assumption)|exact nt (by assumption)|((try simp only[ay]);first|(simp[];done)|(simp[];omega))) ?_|refine bk.yes (by first|rfl|assumption|exact nf (by assumption)|exact nt (by assumption)|((try simp only[ay]);first|(simp[];done)|(simp[];omega))) ?_)
    |((with_reducible show bC _ _ _ _);refine bC.mk (by(try simp only[ay]);omega) ?_)
    |((with_reducible show aL _ _ _ _);refine aL.mk (by kernel_rfl) (by kernel_rfl) (by kernel_rfl) ?_))<;>((with_reducible conv=>whnf);(with_reducible conv=>congr<;>reduce);repeat((first|(with_reducible refine bG.mk ?_)|(with_reducible refine bF.mk ?_));(with_reducible conv=>whnf);(with_reducible conv=>congr<;>reduce)))
    | ((with_reducible show(_∧_)∧_∧_);refine⟨⟨rfl,rfl⟩,?_,?_⟩<;>(with_reducible conv=>whnf)<;>repeat' (first|(with_reducible exact trivial)|(with_reducible refine And.intro ?_ ?_<;>with_reducible conv=>whnf))))
      all_goals first
        |rfl
        |(rw[hend];done)
        |exact⟨⟨rfl,rfl,trivial⟩,trivial⟩
        |(rw[←hend,show ks.length- (kp ks.length).length=gar.length by omega];exact⟨.refl (ae _),ae _⟩)
        |(show r6 _ ((jy p ks++List.replicate (ks.length- (jy p ks).length) 0).map bV) _;rw[←hend,show ks.length- (kp ks.length).length=gar.length by omega];exact⟨.refl (ae _),ae _⟩)
        |trace_state
end
end Go.Proofs.Heir
namespace Go.Proofs.Heir
open Go Go.Am Go.RowKit Go.Lib
set_option maxRecDepth 100000
set_option maxHeartbeats 8000000




section
variable {l : List ai} {m x : Int} {p : Int → Bool} {ks : List Int} {cf : Nat → List (Int × List (ByteArray × Int))}
end
end Go.Proofs.Heir
namespace Go.Proofs.Heir
open Go Go.Am Go.RowKit Go.Lib
set_option maxRecDepth 100000

end Go.Proofs.Heir
namespace Go.Proofs.Heir
open Go Go.Am Go.RowKit Go.Shelf
set_option maxRecDepth 100000
set_option maxHeartbeats 8000000

end Go.Proofs.Heir
namespace Go.Proofs.Heir
open Go Go.Am Go.RowKit Go.Lib
set_option maxRecDepth 100000
set_option maxHeartbeats 8000000



end Go.Proofs.Heir
namespace Go.Proofs.Heir
open Go Go.Am Go.RowKit Go.Lib
set_option maxRecDepth 100000

end Go.Proofs.Heir
namespace Go.Proofs.Heir
open Go Go.Am Go.RowKit Go.Lib
set_option maxRecDepth 100000
set_option maxHeartbeats 8000000



end Go.Proofs.Heir
namespace Go.Proofs.Heir
open Go Go.Am Go.RowKit Go.Lib
set_option maxRecDepth 100000

end Go.Proofs.Heir
namespace Go.Proofs.Heir
open Go Go.Am Go.RowKit Go.Lib
set_option maxRecDepth 100000
set_option maxHeartbeats 8000000



theorem Gg {l:List ai}{m:Nat}{n:Int}:gh l (m+1) n=if(nd l n).parent=-1 then true else gh l m (nd l n).parent:=rfl
theorem DL {l:List ai}{m:Nat}{b:Int}:lW l (m+1) b=if(nd l b).parent=-1 then false else(yS l (nd l b).parent b||lW l m (nd l b).parent):=rfl
theorem Hh (f:ForM)(hs:bE f.nodes)(T:Tree f.nodes)(k:Nat)(x:ai)(hx:f.nodes[k]? =some x):an Tryz.prog 64 [] [aY f,aj k] [] (bB (jv f.nodes k)):=by
 have h28:∀x∈f.nodes,an Tryz.prog 130 [] [az x] [] (bB (fI x)):=fun x hx=>JM x (by have:=hs.attrs x hx;omega)
 have h20:∀ (k:Nat) (x:ai),f.nodes[k]? =some x→an Tryz.prog 62 [] [aY f,aj k] [] (aj (lJ f.nodes k)):=fun k x hx=>FK f hs k x hx fun c hc=>by
  have:=T.kid k (dM hx) c
  rw[cz hx] at this
  exact(this hc).1
 have hfin:=T.fin k (dM hx)
 have hpar:=T.par
 have hk:=(bg hx).1
 obtain⟨l,m⟩:=f
 unfold jv
 simp only at h28 h20 hx hfin hpar hk ⊢
 rw[cz hx]
 have hx':=hx
 have h28x:=h28 x (bT hx)
 have hw:fI x=false→x.kind=1→∀b:Bool,lW l l.length k=b→(fI x||(decide (x.kind=1)&&lW l l.length k))=b:=fun h1 h2 b h=>by rw[h1,h2,h];simp
 have hwn:fI x=false→x.kind≠1→(fI x||(decide (x.kind=1)&&lW l l.length k))=false:=fun h1 h2=>by rw[h1,bY h2];rfl
 have hwy:fI x=true→(fI x||(decide (x.kind=1)&&lW l l.length k))=true:=fun h1=>by rw[h1];rfl
 have hdk:=@Hj x
 obtain⟨a1,a2,a3,a4,a5,a6,a7,a8,a9,a10⟩:=x
 have hxp:(nd l k).parent=a6:=by rw[cz hx]
 simp only at hw hwn hwy hdk ⊢
 refine an.aF (rvs:=[.tmp 4]) G au Tryz.func64 rfl Tryz.ntmps64 rfl rfl ?_;with_reducible refine wD ?_
 refine aG.mk k (az _) rfl (ah hx) ?_;with_reducible refine wK ?_
 refine cL h28x Iy ?_;with_reducible refine wK ?_
 cases d0:fI ⟨a1,a2,a3,a4,a5,a6,a7,a8,a9,a10⟩ with
 | true=>
   have e1:=hdk d0
   rw[Bool.true_or]
   (have fct:=And.intro d0 (e1);(repeat' (first
  |refine gF ?_|refine aE ?_ ?_
  |((refine aG.mk k (az _) rfl (ah hx) ?_)<;>with_reducible refine wK ?_)
  | apply trivial));all_goals clear fct)
   all_goals simp[e1]
 | false =>
   by_cases e1:¬a1=1
   ·rw[bY e1]
    (have fct:=And.intro d0 ((eq_false e1));(repeat' (first
  |refine gF ?_|refine aE ?_ ?_
  |((refine aG.mk k (az _) rfl (ah hx) ?_)<;>with_reducible refine wK ?_)
  | apply trivial));all_goals clear fct)
    all_goals simp
   have e1:=Decidable.not_not.1 e1
   rw[dV e1,Bool.false_or,Bool.true_and]
   (have fct:=And.intro d0 (e1);(repeat' (first
  |refine gF ?_|refine aE ?_ ?_
  |((refine aG.mk k (az _) rfl (ah hx) ?_)<;>with_reducible refine wK ?_)
  | apply trivial));all_goals clear fct)
   refine cn.use G au (fun(i:Nat×Nat)=>[(2,.ptr 20 0 0),(5,aj i.2),(6,aj (nd l i.2).parent)]) (fun _=>[(20,.live 2 [aY ⟨l,m⟩] false)])
    (fun i=>i.2<l.length∧gh l i.1 i.2=true∧lW l l.length k=lW l i.1 i.2) (fun i=>i.1) (l.length,k) ⟨hk,hfin,rfl⟩
    ⟨⟨rfl,rfl⟩,⟨⟨rfl,rfl⟩,rfl,hxp,trivial⟩,⟨⟨rfl,rfl,trivial⟩,trivial⟩,trivial⟩ ?_
   rintro⟨n,b⟩ ⟨hb,hf,hwk⟩
   simp only at hb hf hwk
   obtain⟨y,hy⟩:∃y,l[b]? =some y:=⟨_,bz hb⟩
   have hpb:=hpar b (dM hy)
   cases n with
   |zero=>simp[gh] at hf
   |succ n=>
   rw[Gg] at hf
   rw[DL] at hwk
   rw[cz hy] at hf hwk hpb
   with_reducible refine wK ?_
   simp only[cz hy]
   obtain⟨b1,b2,b3,b4,b5,b6,b7,b8,b9,b10⟩:=y
   simp only at hf hwk hpb ⊢
   by_cases p1:b6=-1
   ·rw[if_pos p1] at hwk
    rw[hwk]
    (have fct:=p1;(repeat' (first
  |refine gF ?_|refine aE ?_ ?_
  | apply trivial));all_goals clear fct)
   ·rw [if_neg p1] at hf hwk
    obtain⟨i,z,rfl,hz,hnz⟩:=aU.1 (hpb p1).1
    have h28z:=h28 z (bT hz)
    have h20z:=h20 i z hz
    have hi:=(bg hz).1
    have hzp:(nd l i).parent=z.parent:=by rw[hnz]
    unfold yS at hwk
    rw[hnz] at hwk
    obtain⟨z1,z2,z3,z4,z5,z6,z7,z8,z9,z10⟩:=z
    simp only at hwk hzp
    have hne:¬ ((i:Int)=-1):=p1
    refine bk.yes (by simp[hne]) ?_;with_reducible refine wK ?_
    refine aG.mk i (az ⟨z1,z2,z3,z4,z5,z6,z7,z8,z9,z10⟩) rfl (ah hz) ?_;with_reducible refine wK ?_
    by_cases f1:z2=Ij
    ·cases d1:fI ⟨z1,z2,z3,z4,z5,z6,z7,z8,z9,z10⟩ with
     | true=>
       by_cases g1:lJ l i=b
       ·rw[d1,bY (fun h:lJ l i≠b=>h g1),Bool.and_false,Bool.and_false,Bool.false_or] at hwk
        (have fct:=And.intro f1 (And.intro d1 (g1));(repeat' (first
  |refine gF ?_|refine aE ?_ ?_
  | ((first
   |((with_reducible refine kQ 130 ?_);refine cL h28z Iy ?_)
   |((with_reducible refine kQ 62 ?_);refine cL h20z Nu ?_)
   |(refine aG.mk i (az ⟨z1,z2,z3,z4,z5,z6,z7,z8,z9,z10⟩) rfl (ah hz) ?_)
   |((with_reducible show cm _ _);refine cm.mk (n,i) ⟨hi,hf,hwk⟩ (Nat.lt_succ_self n) ⟨⟨rfl,rfl⟩,⟨⟨rfl,rfl⟩,rfl,hzp,trivial⟩,⟨⟨rfl,rfl,trivial⟩,trivial⟩,trivial⟩))<;>with_reducible refine wK ?_)
  |apply trivial));all_goals clear fct)
       ·rw[d1,dV f1,dV (show lJ l i≠b from g1)] at hwk
        rw[hwk]
        (have fct:=And.intro f1 (And.intro d1 ((eq_false g1)));(repeat' (first
  |refine gF ?_|refine aE ?_ ?_
  | ((first
   |((with_reducible refine kQ 130 ?_);refine cL h28z Iy ?_)
   |((with_reducible refine kQ 62 ?_);refine cL h20z Nu ?_))<;>with_reducible refine wK ?_)
  |apply trivial));all_goals clear fct)
        all_goals simp
     | false=>
       rw[d1,Bool.false_and,Bool.and_false,Bool.false_or] at hwk
       (have fct:=And.intro f1 (d1);(repeat' (first
  |refine gF ?_|refine aE ?_ ?_
  | ((first
   |((with_reducible refine kQ 130 ?_);refine cL h28z Iy ?_)
   |(refine aG.mk i (az ⟨z1,z2,z3,z4,z5,z6,z7,z8,z9,z10⟩) rfl (ah hz) ?_)
   |((with_reducible show cm _ _);refine cm.mk (n,i) ⟨hi,hf,hwk⟩ (Nat.lt_succ_self n) ⟨⟨rfl,rfl⟩,⟨⟨rfl,rfl⟩,rfl,hzp,trivial⟩,⟨⟨rfl,rfl,trivial⟩,trivial⟩,trivial⟩))<;>with_reducible refine wK ?_)
  | apply trivial));all_goals clear fct)
    ·rw[bY f1,Bool.false_and,Bool.false_or] at hwk
     (have fct:=(eq_false f1);(repeat' (first
  |refine gF ?_|refine aE ?_ ?_
  | ((first
   |(refine aG.mk i (az ⟨z1,z2,z3,z4,z5,z6,z7,z8,z9,z10⟩) rfl (ah hz) ?_)
   |((with_reducible show cm _ _);refine cm.mk (n,i) ⟨hi,hf,hwk⟩ (Nat.lt_succ_self n) ⟨⟨rfl,rfl⟩,⟨⟨rfl,rfl⟩,rfl,hzp,trivial⟩,⟨⟨rfl,rfl,trivial⟩,trivial⟩,trivial⟩))<;>with_reducible refine wK ?_)
  |apply trivial));all_goals clear fct)
theorem uM (f:ForM)(hs:bE f.nodes)(n:Int):an Tryz.prog 21 [] [aY f,aj n] [] (bB (af f.nodes n&&(aX f&&jv f.nodes n))):=by
 have h13:=ng f hs
 have h18:aX f=true→∀ (k:Nat) (x:ai),f.nodes[k]? =some x→an Tryz.prog 64 [] [aY f,aj k] [] (bB (jv f.nodes k)):=fun hr k x hx=>Hh f hs (gl hr) k x hx
 obtain⟨l,m⟩:=f
 simp only at h13 h18 ⊢
 have hlm:(l.map bJ).length=l.length:=cj ..
 refine an.aF (rvs:=[.tmp 4]) G au Tryz.func21 rfl Tryz.ntmps21 rfl rfl ?_;with_reducible refine wD ?_
 by_cases e0:¬0≤n
 ·have ht:af l n=false:=by unfold af;simp[e0]
  rw[ht]
  (have fct:=(eq_false e0);(repeat' (first
  |refine gF ?_|refine aE ?_ ?_
  |apply trivial));all_goals clear fct)
  all_goals simp
 have e0:=Decidable.not_not.1 e0
 by_cases e1:¬n< (l.length:Int)
 ·have ht:af l n=false:=by unfold af;simp[e1]
  rw[ht]
  (have fct:=And.intro e0 (And.intro hlm ((eq_false e1)));(repeat' (first
  |refine gF ?_|refine aE ?_ ?_
  |apply trivial));all_goals clear fct)
  all_goals simp
 have e1:=Decidable.not_not.1 e1
 have ht:af l n=true:=by unfold af;simp[e0,e1]
 obtain⟨k,x,rfl,hx,_⟩:=aU.1 ht
 rw[ht]
 cases hr:aX ⟨l,m⟩ with
 | false=>
   (have fct:=And.intro hlm (And.intro e0 (And.intro e1 (hr)));(repeat' (first
  |refine gF ?_|refine aE ?_ ?_
  |(((with_reducible refine kQ 17 ?_);refine cL h13 jX ?_)<;>with_reducible refine wK ?_)
  | apply trivial));all_goals clear fct)
   all_goals simp
 | true=>
   have h18':=h18 hr k x hx
   (have fct:=And.intro hlm (And.intro e0 (And.intro e1 (hr)));(repeat' (first
  |refine gF ?_|refine aE ?_ ?_
  | ((first
   |((with_reducible refine kQ 17 ?_);refine cL h13 jX ?_)
   |((with_reducible refine kQ 64 ?_);refine cL h18' N5 ?_))<;>with_reducible refine wK ?_)
  | apply trivial));all_goals clear fct)
   all_goals simp

end Go.Proofs.Heir
