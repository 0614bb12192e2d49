/- Models, plain laws and contracts of functions of the given program; conditions as stated in each theorem. By an AI agent. -/
import Derived.Test.YtkhjcnjicjgfiaaGreatDoorWN14
import Derived.Test.YtkhjcnjicjgfiaaGreatDoorWN24
import Derived.Test.YtkhjcnjicjgfiaaGreatDoorWN15
import Derived.Test.YtkhjcnjicjgfiaaGreatDoorWN11
import Derived.Test.YtkhjcnjicjgfiaaGreatDoorWN25
import Derived.Test.YtkhjcnjicjgfiaaGreatDoorWN12
import Derived.Test.YtkhjcnjicjgfiaaGreatDoorWN13
import Derived.Laws.StructEq
import Derived.Tactics
set_option linter.unusedSimpArgs false
set_option linter.unusedVariables false
namespace Go.Proofs.Heir
open Go Go.Am Go.RowKit Go.Lib
set_option maxRecDepth 100000
def jI (p:Int→Bool)(l:List Int):List Int:=l.filter fun x=> !p x
theorem EJ {m:ML}{fz:Nat→Bool}{tab:List (Nat×Nat)}{n:Nat}{a b:List Int}(h:a=b):xu (MF tab fz m n) (a.map bU) (b.map bU):=by subst h;exact bP (aa _)
@[reducible] def lG (f : ForM) : MS := .live 2 [aM f] false
theorem Jb (f:ForM)(c:Int)(hc:ae f.nodes c=true):ak Tryz.prog 83 [lG f] [ah c,.ptr 0 0 0] [lG f] (bC (!decide ((nd f.nodes c).kind=1))):=by
  obtain⟨k,x,rfl,hx,hnx⟩:=aU.1 hc
  rw[hnx]
  obtain⟨l,m⟩:=f
  obtain⟨x1,x2,x3,x4,x5,x6,x7,x8,x9,x10⟩:=x
  simp only at hx
  refine ak.aD (rvs:=[.tmp 3]) G au Tryz.func83 rfl Tryz.ntmps83 rfl rfl ?_;delta List.toArray;((with_reducible conv=>whnf);(with_reducible conv=>congr<;>reduce);repeat((first|(with_reducible refine bK.mk ?_)|(with_reducible refine bL.mk ?_));(with_reducible conv=>whnf);(with_reducible conv=>congr<;>reduce)))
  repeat' (first
    |(first
    |((with_reducible show aX _ _ _ _);first|refine aX.ff ?_|refine aX.tt ?_|refine aX.no (by first|rfl|assumption|exact nf (by assumption)|exact nt (by assumption)|((try simp only[ay]);first|(simp[];done)|(simp[];omega))) ?_|refine aX.yes (by first|rfl|assumption|exact nf (by assumption)|exact nt (by assumption)|((try simp only[ay]);first|(simp[];done)|(simp[];omega))) ?_)
    |((with_reducible show bE _ _ _ _);refine bE.mk (by(try simp only[ay]);omega) ?_)
    |((with_reducible show aI _ _ _ _);refine aI.mk (by kernel_rfl) (by kernel_rfl) (by kernel_rfl) ?_)
    |((with_reducible show bg _ _ _ _ _);refine bg.mk k (aP ⟨x1,x2,x3,x4,x5,x6,x7,x8,x9,x10⟩) rfl (aB hx) ?_))<;>((with_reducible conv=>whnf);(with_reducible conv=>congr<;>reduce);repeat((first|(with_reducible refine bK.mk ?_)|(with_reducible refine bL.mk ?_));(with_reducible conv=>whnf);(with_reducible conv=>congr<;>reduce)))
    |((with_reducible show(_∧_)∧_∧_);refine⟨⟨rfl,rfl⟩,?_,?_⟩<;>(with_reducible conv=>whnf)<;>repeat' (first|(with_reducible exact trivial)|(with_reducible refine And.intro ?_ ?_<;>with_reducible conv=>whnf))))
  all_goals first|rfl|exact⟨⟨rfl,rfl,trivial⟩,trivial⟩|trace_state
section
variable {f : ForM} {p : Int → Bool} {ks : List Int}
theorem B9 {m':ML}{b:Nat}{r:List Nat}(h1:eD m' b=lG f):A6 (r4 1 0 (b::r)) [] m' [lG f] (b::r):=by
  simp only[A6,h1]
  exact⟨⟨trivial,.inl ⟨rfl,rfl⟩⟩,trivial⟩
set_option maxHeartbeats 16000000 in
/-- slices.IndexFunc, of that closure -/
theorem EP (hl:ks.length≤100000)(hf:∀a,a∈ks→ak Tryz.prog 83 [lG f] [ah a,.ptr 0 0 0] [lG f] (bC (p a))):
    ak Tryz.prog 125 [lG f,jW ks] [.own 1 0 ks.length,.clo (.func 83) [] [.ptr 0 0 0]] [lG f,jW ks] (ah (fU p ks)):=by
  obtain⟨l,m⟩:=f
  have hlm:(ks.map bU).length=ks.length:=bW ..
  refine ak.aD (rvs:=[.tmp 4]) G au Tryz.func125 rfl Tryz.ntmps125 rfl rfl ?_;delta List.toArray;((with_reducible conv=>whnf);(with_reducible conv=>congr<;>reduce);repeat((first|(with_reducible refine bK.mk ?_)|(with_reducible refine bL.mk ?_));(with_reducible conv=>whnf);(with_reducible conv=>congr<;>reduce)))
  refine bX.use G au (fun(k:Nat)=>[(0,.own 1 0 ks.length),(1,.clo (.func 83) [] [.ptr 0 0 0]),(7,ah ks.length),(8,ah k)]) (fun _=>[(0,lG ⟨l,m⟩),(1,jW ks)])
    (fun k=>k≤ks.length∧∀j x,j<k→ks[j]? =some x→p x=false) (fun k=>ks.length-k) 0 ⟨Nat.zero_le _,fun j x h=>by omega⟩ ?_ ?_
  · (refine⟨⟨rfl,rfl⟩,?_⟩;(with_reducible conv=>whnf);(repeat' (first|(with_reducible exact trivial)|(with_reducible refine And.intro ?_ ?_<;>with_reducible conv=>whnf)));(all_goals try rfl))
    all_goals first
      |rfl
      |exact⟨.refl (aa _),aa _⟩
      |exact bP (aa _)
      |exact⟨⟨rfl,rfl,trivial⟩,trivial⟩
      |trace_state
  rintro k ⟨hk,hno⟩
  ((with_reducible conv=>whnf);(with_reducible conv=>congr<;>reduce);repeat((first|(with_reducible refine bK.mk ?_)|(with_reducible refine bL.mk ?_));(with_reducible conv=>whnf);(with_reducible conv=>congr<;>reduce)))
  refine aX.mk (fun h1=>?_) (fun h1=>?_)<;>(try simp only[ay] at h1)<;>((with_reducible conv=>whnf);(with_reducible conv=>congr<;>reduce);repeat((first|(with_reducible refine bK.mk ?_)|(with_reducible refine bL.mk ?_));(with_reducible conv=>whnf);(with_reducible conv=>congr<;>reduce)))
  · simp only[bH] at h1
    have hk':k<ks.length:=by omega
    obtain⟨a,ha⟩:∃a,ks[k]? =some a:=⟨_,bD hk'⟩
    have hg1:=hf a (bO ha)
    refine ee.mk k rfl hk' ?_;((with_reducible conv=>whnf);(with_reducible conv=>congr<;>reduce);repeat((first|(with_reducible refine bK.mk ?_)|(with_reducible refine bL.mk ?_));(with_reducible conv=>whnf);(with_reducible conv=>congr<;>reduce)))
    refine aT.mk (ah a) (by first|exact gr ha|(rw[Nat.zero_add];exact gr ha)) ?_;((with_reducible conv=>whnf);(with_reducible conv=>congr<;>reduce);repeat((first|(with_reducible refine bK.mk ?_)|(with_reducible refine bL.mk ?_));(with_reducible conv=>whnf);(with_reducible conv=>congr<;>reduce)))
    repeat' (first
    |(first
    |((with_reducible show aX _ _ _ _);first|refine aX.ff ?_|refine aX.tt ?_|refine aX.no (by first|rfl|assumption|exact nf (by assumption)|exact nt (by assumption)|((try simp only[ay]);first|(simp[];done)|(simp[];omega))) ?_|refine aX.yes (by first|rfl|assumption|exact nf (by assumption)|exact nt (by assumption)|((try simp only[ay]);first|(simp[];done)|(simp[];omega))) ?_)
    |((with_reducible show bE _ _ _ _);refine bE.mk (by(try simp only[ay]);omega) ?_)
    |((with_reducible show aI _ _ _ _);refine aI.mk (by kernel_rfl) (by kernel_rfl) (by kernel_rfl) ?_))<;>((with_reducible conv=>whnf);(with_reducible conv=>congr<;>reduce);repeat((first|(with_reducible refine bK.mk ?_)|(with_reducible refine bL.mk ?_));(with_reducible conv=>whnf);(with_reducible conv=>congr<;>reduce)))
    |((with_reducible show(_∧_)∧_∧_);refine⟨⟨rfl,rfl⟩,?_,?_⟩<;>(with_reducible conv=>whnf)<;>repeat' (first|(with_reducible exact trivial)|(with_reducible refine And.intro ?_ ?_<;>with_reducible conv=>whnf))))
    refine af.c7 (news:=[lG ⟨l,m⟩]) [0] [] hg1 Ms ⟨rfl,⟨rfl,rfl⟩,trivial⟩ (B9 rfl) rfl ⟨⟨rfl,rfl⟩,rfl⟩ rfl ⟨⟨rfl,.inl ⟨rfl,rfl⟩⟩,trivial⟩ rfl rfl ?_;((with_reducible conv=>whnf);(with_reducible conv=>congr<;>reduce);repeat((first|(with_reducible refine bK.mk ?_)|(with_reducible refine bL.mk ?_));(with_reducible conv=>whnf);(with_reducible conv=>congr<;>reduce)))
    cases hp:p a with
    | true=>
      repeat' (first
    |(first
    |((with_reducible show aX _ _ _ _);first|refine aX.ff ?_|refine aX.tt ?_|refine aX.no (by first|rfl|assumption|exact nf (by assumption)|exact nt (by assumption)|((try simp only[ay]);first|(simp[];done)|(simp[];omega))) ?_|refine aX.yes (by first|rfl|assumption|exact nf (by assumption)|exact nt (by assumption)|((try simp only[ay]);first|(simp[];done)|(simp[];omega))) ?_)
    |((with_reducible show bE _ _ _ _);refine bE.mk (by(try simp only[ay]);omega) ?_)
    |((with_reducible show aI _ _ _ _);refine aI.mk (by kernel_rfl) (by kernel_rfl) (by kernel_rfl) ?_))<;>((with_reducible conv=>whnf);(with_reducible conv=>congr<;>reduce);repeat((first|(with_reducible refine bK.mk ?_)|(with_reducible refine bL.mk ?_));(with_reducible conv=>whnf);(with_reducible conv=>congr<;>reduce)))
    | ((with_reducible show(_∧_)∧_∧_);refine⟨⟨rfl,rfl⟩,?_,?_⟩<;>(with_reducible conv=>whnf)<;>repeat' (first|(with_reducible exact trivial)|(with_reducible refine And.intro ?_ ?_<;>with_reducible conv=>whnf))))
      all_goals first
        |exact fJ ha hp hno
        |rfl
        |exact⟨.refl (aa _),aa _⟩
        |exact⟨⟨rfl,rfl,trivial⟩,trivial⟩
        |trace_state
    | false=>
      repeat' (first
    |(first
    |((with_reducible show aX _ _ _ _);first|refine aX.ff ?_|refine aX.tt ?_|refine aX.no (by first|rfl|assumption|exact nf (by assumption)|exact nt (by assumption)|((try simp only[ay]);first|(simp[];done)|(simp[];omega))) ?_|refine aX.yes (by first|rfl|assumption|exact nf (by assumption)|exact nt (by assumption)|((try simp only[ay]);first|(simp[];done)|(simp[];omega))) ?_)
    |((with_reducible show bE _ _ _ _);refine bE.mk (by(try simp only[ay]);omega) ?_)
    |((with_reducible show aI _ _ _ _);refine aI.mk (by kernel_rfl) (by kernel_rfl) (by kernel_rfl) ?_))<;>((with_reducible conv=>whnf);(with_reducible conv=>congr<;>reduce);repeat((first|(with_reducible refine bK.mk ?_)|(with_reducible refine bL.mk ?_));(with_reducible conv=>whnf);(with_reducible conv=>congr<;>reduce)))
    | ((with_reducible show(_∧_)∧_∧_);refine⟨⟨rfl,rfl⟩,?_,?_⟩<;>(with_reducible conv=>whnf)<;>repeat' (first|(with_reducible exact trivial)|(with_reducible refine And.intro ?_ ?_<;>with_reducible conv=>whnf))))
      refine bR.mk (k+1) ⟨by omega,fun j x hj hx=>by
        by_cases e:j=k
        ·subst e;rw[hx] at ha;cases ha;exact hp
        ·exact hno j x (by omega) hx⟩ (by omega) ?_
      (refine⟨⟨rfl,rfl⟩,?_⟩;(with_reducible conv=>whnf);(repeat' (first|(with_reducible exact trivial)|(with_reducible refine And.intro ?_ ?_<;>with_reducible conv=>whnf)));(all_goals try rfl))
      all_goals first
        |rfl
        |exact⟨.refl (aa _),aa _⟩
        |exact bP (aa _)
        |exact⟨⟨rfl,rfl,trivial⟩,trivial⟩
        |trace_state
  · simp only[cR] at h1
    obtain rfl:k=ks.length:=by omega
    repeat' (first
    |(first
    |((with_reducible show aX _ _ _ _);first|refine aX.ff ?_|refine aX.tt ?_|refine aX.no (by first|rfl|assumption|exact nf (by assumption)|exact nt (by assumption)|((try simp only[ay]);first|(simp[];done)|(simp[];omega))) ?_|refine aX.yes (by first|rfl|assumption|exact nf (by assumption)|exact nt (by assumption)|((try simp only[ay]);first|(simp[];done)|(simp[];omega))) ?_)
    |((with_reducible show bE _ _ _ _);refine bE.mk (by(try simp only[ay]);omega) ?_)
    |((with_reducible show aI _ _ _ _);refine aI.mk (by kernel_rfl) (by kernel_rfl) (by kernel_rfl) ?_))<;>((with_reducible conv=>whnf);(with_reducible conv=>congr<;>reduce);repeat((first|(with_reducible refine bK.mk ?_)|(with_reducible refine bL.mk ?_));(with_reducible conv=>whnf);(with_reducible conv=>congr<;>reduce)))
    |((with_reducible show(_∧_)∧_∧_);refine⟨⟨rfl,rfl⟩,?_,?_⟩<;>(with_reducible conv=>whnf)<;>repeat' (first|(with_reducible exact trivial)|(with_reducible refine And.intro ?_ ?_<;>with_reducible conv=>whnf))))
    all_goals first
      |exact jB fun j x hx=>hno j x (aY hx).1 hx
      |rfl
      |exact⟨.refl (aa _),aa _⟩
      |exact⟨⟨rfl,rfl,trivial⟩,trivial⟩
      |trace_state
set_option maxHeartbeats 16000000 in
/-- slices.DeleteFunc, of numbers -/
theorem HY (hl:ks.length≤100000)(hf:∀a,a∈ks→ak Tryz.prog 83 [lG f] [ah a,.ptr 0 0 0] [lG f] (bC (p a))):
    ak Tryz.prog 81 [lG f,jW ks] [.own 1 0 ks.length,.clo (.func 83) [] [.ptr 0 0 0]] [lG f,jW (jI p ks++List.replicate (ks.length- (jI p ks).length) 0)] (.own 1 0 (jI p ks).length):=by
  have h125:=EP hl hf
  obtain⟨l,m⟩:=f
  have hlm:(ks.map bU).length=ks.length:=bW ..
  cases hi:ks.findIdx? p with
  | none=>
    have e1:fU p ks=-1:=by unfold fU;rw[hi]
    have e2:jI p ks=ks:=by
      unfold jI;rw[List.filter_eq_self];intro a ha
      have:=List.findIdx?_eq_none_iff.1 hi a ha
      simpa using this
    rw[e1] at h125
    rw[e2,Nat.sub_self,List.replicate_zero,List.append_nil]
    refine ak.aD (rvs:=[.tmp 4]) G au Tryz.func81 rfl Tryz.ntmps81 rfl rfl ?_;delta List.toArray;((with_reducible conv=>whnf);(with_reducible conv=>congr<;>reduce);repeat((first|(with_reducible refine bK.mk ?_)|(with_reducible refine bL.mk ?_));(with_reducible conv=>whnf);(with_reducible conv=>congr<;>reduce)))
    refine af.c7 (news:=[lG ⟨l,m⟩,jW ks]) [0,1] [] h125 Ja ⟨⟨rfl,rfl⟩,⟨rfl,trivial,⟨rfl,rfl⟩,trivial⟩,trivial⟩ ⟨⟨rfl,.inl ⟨rfl,rfl⟩⟩,⟨rfl,.inl ⟨rfl,aa _⟩⟩,trivial⟩ rfl ⟨⟨rfl,rfl⟩,rfl⟩ rfl ⟨⟨rfl,.inl ⟨rfl,rfl⟩⟩,⟨rfl,.inl ⟨rfl,aa _⟩⟩,trivial⟩ rfl rfl ?_;((with_reducible conv=>whnf);(with_reducible conv=>congr<;>reduce);repeat((first|(with_reducible refine bK.mk ?_)|(with_reducible refine bL.mk ?_));(with_reducible conv=>whnf);(with_reducible conv=>congr<;>reduce)))
    repeat' (first
    |(first
    |((with_reducible show aX _ _ _ _);first|refine aX.ff ?_|refine aX.tt ?_|refine aX.no (by first|rfl|assumption|exact nf (by assumption)|exact nt (by assumption)|((try simp only[ay]);first|(simp[];done)|(simp[];omega))) ?_|refine aX.yes (by first|rfl|assumption|exact nf (by assumption)|exact nt (by assumption)|((try simp only[ay]);first|(simp[];done)|(simp[];omega))) ?_)
    |((with_reducible show bE _ _ _ _);refine bE.mk (by(try simp only[ay]);omega) ?_)
    |((with_reducible show aI _ _ _ _);refine aI.mk (by kernel_rfl) (by kernel_rfl) (by kernel_rfl) ?_))<;>((with_reducible conv=>whnf);(with_reducible conv=>congr<;>reduce);repeat((first|(with_reducible refine bK.mk ?_)|(with_reducible refine bL.mk ?_));(with_reducible conv=>whnf);(with_reducible conv=>congr<;>reduce)))
    |((with_reducible show(_∧_)∧_∧_);refine⟨⟨rfl,rfl⟩,?_,?_⟩<;>(with_reducible conv=>whnf)<;>repeat' (first|(with_reducible exact trivial)|(with_reducible refine And.intro ?_ ?_<;>with_reducible conv=>whnf))))
    all_goals first
      |rfl
      |exact⟨.refl (aa _),aa _⟩
      |exact bP (aa _)
      |exact⟨⟨rfl,rfl,trivial⟩,trivial⟩
      |trace_state
  | some i0=>
    have e1:fU p ks=(i0:Int):=by unfold fU;rw[hi]
    rw[e1] at h125
    obtain⟨hi1,hi2,hi3⟩:=List.findIdx?_eq_some_iff_getElem.1 hi
    obtain⟨kp,hkp⟩:∃kp:Nat→List Int,kp=fun j=>jI p (ks.take j):=⟨_,rfl⟩
    have hk1:kp (i0+1)=ks.take i0:=by
      rw[hkp];unfold jI
      show List.filter _ (ks.take (i0+1))=_
      rw[List.take_add_one,bD hi1,List.filter_append]
      have h1:List.filter (fun x=> !p x) (ks.take i0)=ks.take i0:=by
        rw[List.filter_eq_self];intro a ha
        obtain⟨j,hj,rfl⟩:=List.mem_iff_getElem.1 ha
        rw[List.getElem_take]
        simp only[gh] at hj
        have:=hi3 j (by omega)
        simpa using this
      rw[h1];simp[hi2]
    have hstep:∀ (j:Nat) (x:Int),ks[j]? =some x→kp (j+1)=kp j++if p x=true then[] else[x]:=fun j x hx=>by
      rw[hkp];unfold jI
      show List.filter _ (ks.take (j+1))=_
      rw[List.take_add_one,hx,List.filter_append]
      congr 1
      show List.filter _ [x]=_
      rw[List.filter_cons]
      cases p x<;>rfl
    have hend:kp ks.length=jI p ks:=by rw[hkp];show jI p (ks.take ks.length)=_;rw[List.take_length]
    have hl1:kp (i0+1)++ [ks[i0]]++ks.drop (i0+1)=ks:=by
      rw[hk1,List.append_assoc,List.singleton_append,←List.drop_eq_getElem_cons hi1,List.take_append_drop]
    refine ak.aD (rvs:=[.tmp 4]) G au Tryz.func81 rfl Tryz.ntmps81 rfl rfl ?_;delta List.toArray;((with_reducible conv=>whnf);(with_reducible conv=>congr<;>reduce);repeat((first|(with_reducible refine bK.mk ?_)|(with_reducible refine bL.mk ?_));(with_reducible conv=>whnf);(with_reducible conv=>congr<;>reduce)))
    refine af.c7 (news:=[lG ⟨l,m⟩,jW ks]) [0,1] [] h125 Ja ⟨⟨rfl,rfl⟩,⟨rfl,trivial,⟨rfl,rfl⟩,trivial⟩,trivial⟩ ⟨⟨rfl,.inl ⟨rfl,rfl⟩⟩,⟨rfl,.inl ⟨rfl,aa _⟩⟩,trivial⟩ rfl ⟨⟨rfl,rfl⟩,rfl⟩ rfl ⟨⟨rfl,.inl ⟨rfl,rfl⟩⟩,⟨rfl,.inl ⟨rfl,aa _⟩⟩,trivial⟩ rfl rfl ?_;((with_reducible conv=>whnf);(with_reducible conv=>congr<;>reduce);repeat((first|(with_reducible refine bK.mk ?_)|(with_reducible refine bL.mk ?_));(with_reducible conv=>whnf);(with_reducible conv=>congr<;>reduce)))
    repeat' (first
    |(first
    |((with_reducible show aX _ _ _ _);first|refine aX.ff ?_|refine aX.tt ?_|refine aX.no (by first|rfl|assumption|exact nf (by assumption)|exact nt (by assumption)|((try simp only[ay]);first|(simp[];done)|(simp[];omega))) ?_|refine aX.yes (by first|rfl|assumption|exact nf (by assumption)|exact nt (by assumption)|((try simp only[ay]);first|(simp[];done)|(simp[];omega))) ?_)
    |((with_reducible show bE _ _ _ _);refine bE.mk (by(try simp only[ay]);omega) ?_)
    |((with_reducible show aI _ _ _ _);refine aI.mk (by kernel_rfl) (by kernel_rfl) (by kernel_rfl) ?_))<;>((with_reducible conv=>whnf);(with_reducible conv=>congr<;>reduce);repeat((first|(with_reducible refine bK.mk ?_)|(with_reducible refine bL.mk ?_));(with_reducible conv=>whnf);(with_reducible conv=>congr<;>reduce)))
    |((with_reducible show(_∧_)∧_∧_);refine⟨⟨rfl,rfl⟩,?_,?_⟩<;>(with_reducible conv=>whnf)<;>repeat' (first|(with_reducible exact trivial)|(with_reducible refine And.intro ?_ ?_<;>with_reducible conv=>whnf))))
    refine bX.use G au (fun(i:Nat×List Int)=>[(0,.own 1 0 ks.length),(1,.clo (.func 83) [] [.ptr 0 0 0]),(5,ah (kp i.1).length),(6,ah i.1)])
      (fun i=>[(0,lG ⟨l,m⟩),(1,jW (kp i.1++i.2++ks.drop i.1))])
      (fun i=>i.1≤ks.length∧(kp i.1).length+i.2.length=i.1∧i.2≠ []) (fun i=>ks.length-i.1) (i0+1,[ks[i0]]) ⟨by show i0+1≤_;omega,by show(kp (i0+1)).length+1=i0+1;rw[hk1,gh,Nat.min_eq_left (by omega)],by simp⟩ ?_ ?_
    · (refine⟨⟨rfl,rfl⟩,?_⟩;(with_reducible conv=>whnf);(repeat' (first|(with_reducible exact trivial)|(with_reducible refine And.intro ?_ ?_<;>with_reducible conv=>whnf)));(all_goals try rfl))
      all_goals first
        |(show((kp (i0+1)).length:Int)=(i0:Int);rw[hk1,gh,Nat.min_eq_left (by omega)])
        |exact⟨⟨rfl,rfl,trivial⟩,trivial⟩
        |(show qx _ ((kp (i0+1)++ [ks[i0]]++ks.drop (i0+1)).map bU) _;rw[hl1];exact⟨.refl (aa _),aa _⟩)
        |trace_state
    rintro⟨j,gar⟩ ⟨hj,hg,hg0⟩
    simp only at hj hg hg0
    ((with_reducible conv=>whnf);(with_reducible conv=>congr<;>reduce);repeat((first|(with_reducible refine bK.mk ?_)|(with_reducible refine bL.mk ?_));(with_reducible conv=>whnf);(with_reducible conv=>congr<;>reduce)))
    have hdl:(ks.drop j).length=ks.length-j:=List.length_drop ..
    have hlr:((kp j++gar++ks.drop j).map bU).length=ks.length:=by simp;omega
    refine aX.mk (fun h1=>?_) (fun h1=>?_)<;>(try simp only[ay] at h1)<;>((with_reducible conv=>whnf);(with_reducible conv=>congr<;>reduce);repeat((first|(with_reducible refine bK.mk ?_)|(with_reducible refine bL.mk ?_));(with_reducible conv=>whnf);(with_reducible conv=>congr<;>reduce)))
    · simp only[bH] at h1
      have hj':j<ks.length:=by omega
      obtain⟨x,hx⟩:∃x,ks[j]? =some x:=⟨_,bD hj'⟩
      have hdj:ks.drop j=x::ks.drop (j+1):=by
        rw[List.drop_eq_getElem_cons hj'];congr 1
        rw[bD hj'] at hx;exact Option.some.inj hx
      have hst:=hstep j x hx
      have hg1:=hf x (bO hx)
      rw[hdj]
      rw[hdj] at hlr
      obtain⟨z,gar',rfl⟩:=List.exists_cons_of_ne_nil hg0
      simp only[List.length_cons] at hg
      refine ee.mk j rfl (by omega) ?_
      ((with_reducible conv=>whnf);(with_reducible conv=>congr<;>reduce);repeat((first|(with_reducible refine bK.mk ?_)|(with_reducible refine bL.mk ?_));(with_reducible conv=>whnf);(with_reducible conv=>congr<;>reduce)))
      refine aT.mk (ah x) (by rw[Nat.zero_add,fI,List.getElem?_append_right (by simp;omega),show j- (kp j++z::gar').length=0 by simp;omega];rfl) ?_;((with_reducible conv=>whnf);(with_reducible conv=>congr<;>reduce);repeat((first|(with_reducible refine bK.mk ?_)|(with_reducible refine bL.mk ?_));(with_reducible conv=>whnf);(with_reducible conv=>congr<;>reduce)))
      repeat' (first
    |(first
    |((with_reducible show aX _ _ _ _);first|refine aX.ff ?_|refine aX.tt ?_|refine aX.no (by first|rfl|assumption|exact nf (by assumption)|exact nt (by assumption)|((try simp only[ay]);first|(simp[];done)|(simp[];omega))) ?_|refine aX.yes (by first|rfl|assumption|exact nf (by assumption)|exact nt (by assumption)|((try simp only[ay]);first|(simp[];done)|(simp[];omega))) ?_)
    |((with_reducible show bE _ _ _ _);refine bE.mk (by(try simp only[ay]);omega) ?_)
    |((with_reducible show aI _ _ _ _);refine aI.mk (by kernel_rfl) (by kernel_rfl) (by kernel_rfl) ?_))<;>((with_reducible conv=>whnf);(with_reducible conv=>congr<;>reduce);repeat((first|(with_reducible refine bK.mk ?_)|(with_reducible refine bL.mk ?_));(with_reducible conv=>whnf);(with_reducible conv=>congr<;>reduce)))
    | ((with_reducible show(_∧_)∧_∧_);refine⟨⟨rfl,rfl⟩,?_,?_⟩<;>(with_reducible conv=>whnf)<;>repeat' (first|(with_reducible exact trivial)|(with_reducible refine And.intro ?_ ?_<;>with_reducible conv=>whnf))))
      refine af.c7 (news:=[lG ⟨l,m⟩]) [0] [] hg1 Ms ⟨rfl,⟨rfl,rfl⟩,trivial⟩ (B9 rfl) rfl ⟨⟨rfl,rfl⟩,rfl⟩ rfl ⟨⟨rfl,.inl ⟨rfl,rfl⟩⟩,trivial⟩ rfl rfl ?_;((with_reducible conv=>whnf);(with_reducible conv=>congr<;>reduce);repeat((first|(with_reducible refine bK.mk ?_)|(with_reducible refine bL.mk ?_));(with_reducible conv=>whnf);(with_reducible conv=>congr<;>reduce)))
      cases hp:p x with
      | true=>
        rw[hp,if_pos rfl,List.append_nil] at hst
        have hl2:kp (j+1)++ (z::gar'++ [x])++ks.drop (j+1)=kp j++z::gar'++x::ks.drop (j+1):=by rw[hst];simp
        repeat' (first
    |(first
    |((with_reducible show aX _ _ _ _);first|refine aX.ff ?_|refine aX.tt ?_|refine aX.no (by first|rfl|assumption|exact nf (by assumption)|exact nt (by assumption)|((try simp only[ay]);first|(simp[];done)|(simp[];omega))) ?_|refine aX.yes (by first|rfl|assumption|exact nf (by assumption)|exact nt (by assumption)|((try simp only[ay]);first|(simp[];done)|(simp[];omega))) ?_)
    |((with_reducible show bE _ _ _ _);refine bE.mk (by(try simp only[ay]);omega) ?_)
    |((with_reducible show aI _ _ _ _);refine aI.mk (by kernel_rfl) (by kernel_rfl) (by kernel_rfl) ?_))<;>((with_reducible conv=>whnf);(with_reducible conv=>congr<;>reduce);repeat((first|(with_reducible refine bK.mk ?_)|(with_reducible refine bL.mk ?_));(with_reducible conv=>whnf);(with_reducible conv=>congr<;>reduce)))
    | ((with_reducible show(_∧_)∧_∧_);refine⟨⟨rfl,rfl⟩,?_,?_⟩<;>(with_reducible conv=>whnf)<;>repeat' (first|(with_reducible exact trivial)|(with_reducible refine And.intro ?_ ?_<;>with_reducible conv=>whnf))))
        refine bR.mk (j+1,z::gar'++ [x]) ⟨by show j+1≤_;omega,by show(kp (j+1)).length+_=j+1;rw[hst];simp;omega,by simp⟩ (by show ks.length- (j+1)<ks.length-j;omega) ?_
        (refine⟨⟨rfl,rfl⟩,?_⟩;(with_reducible conv=>whnf);(repeat' (first|(with_reducible exact trivial)|(with_reducible refine And.intro ?_ ?_<;>with_reducible conv=>whnf)));(all_goals try rfl))
        all_goals first
          |exact⟨⟨rfl,rfl,trivial⟩,trivial⟩
          |(show((kp (j+1)).length:Int)=((kp j).length:Int);rw[hst])
          |(show qx _ ((kp (j+1)++ (z::gar'++ [x])++ks.drop (j+1)).map bU) _;rw[hl2];exact⟨.refl (aa _),aa _⟩)
          |trace_state
      | false=>
        rw[hp,if_neg (by simp)] at hst
        have hl2:((kp j++z::gar'++x::ks.drop (j+1)).map bU).set (0+ (kp j).length) (ah x)=(kp (j+1)++ (gar'++ [x])++ks.drop (j+1)).map bU:=by
          rw[hst,Nat.zero_add,List.append_assoc,List.cons_append,iq,List.set_append,if_neg (by simp),bW,Nat.sub_self,List.map_cons,List.set_cons_zero,show ah x=bU x from rfl]
          simp
        repeat' (first
    |(first
    |((with_reducible show aX _ _ _ _);first|refine aX.ff ?_|refine aX.tt ?_|refine aX.no (by first|rfl|assumption|exact nf (by assumption)|exact nt (by assumption)|((try simp only[ay]);first|(simp[];done)|(simp[];omega))) ?_|refine aX.yes (by first|rfl|assumption|exact nf (by assumption)|exact nt (by assumption)|((try simp only[ay]);first|(simp[];done)|(simp[];omega))) ?_)
    |((with_reducible show bE _ _ _ _);refine bE.mk (by(try simp only[ay]);omega) ?_)
    |((with_reducible show aI _ _ _ _);refine aI.mk (by kernel_rfl) (by kernel_rfl) (by kernel_rfl) ?_))<;>((with_reducible conv=>whnf);(with_reducible conv=>congr<;>reduce);repeat((first|(with_reducible refine bK.mk ?_)|(with_reducible refine bL.mk ?_));(with_reducible conv=>whnf);(with_reducible conv=>congr<;>reduce)))
    | ((with_reducible show(_∧_)∧_∧_);refine⟨⟨rfl,rfl⟩,?_,?_⟩<;>(with_reducible conv=>whnf)<;>repeat' (first|(with_reducible exact trivial)|(with_reducible refine And.intro ?_ ?_<;>with_reducible conv=>whnf))))
        refine ee.mk (kp j).length rfl (by omega) ?_;((with_reducible conv=>whnf);(with_reducible conv=>congr<;>reduce);repeat((first|(with_reducible refine bK.mk ?_)|(with_reducible refine bL.mk ?_));(with_reducible conv=>whnf);(with_reducible conv=>congr<;>reduce)))
        refine aT.mk (ah z) (by rw[Nat.zero_add,fI,List.append_assoc,List.getElem?_append_right (Nat.le_refl _),Nat.sub_self];rfl) ?_;((with_reducible conv=>whnf);(with_reducible conv=>congr<;>reduce);repeat((first|(with_reducible refine bK.mk ?_)|(with_reducible refine bL.mk ?_));(with_reducible conv=>whnf);(with_reducible conv=>congr<;>reduce)))
        rw[hl2]
        repeat' (first
    |(first
    |((with_reducible show aX _ _ _ _);first|refine aX.ff ?_|refine aX.tt ?_|refine aX.no (by first|rfl|assumption|exact nf (by assumption)|exact nt (by assumption)|((try simp only[ay]);first|(simp[];done)|(simp[];omega))) ?_|refine aX.yes (by first|rfl|assumption|exact nf (by assumption)|exact nt (by assumption)|((try simp only[ay]);first|(simp[];done)|(simp[];omega))) ?_)
    |((with_reducible show bE _ _ _ _);refine bE.mk (by(try simp only[ay]);omega) ?_)
    |((with_reducible show aI _ _ _ _);refine aI.mk (by kernel_rfl) (by kernel_rfl) (by kernel_rfl) ?_))<;>((with_reducible conv=>whnf);(with_reducible conv=>congr<;>reduce);repeat((first|(with_reducible refine bK.mk ?_)|(with_reducible refine bL.mk ?_));(with_reducible conv=>whnf);(with_reducible conv=>congr<;>reduce)))
    | ((with_reducible show(_∧_)∧_∧_);refine⟨⟨rfl,rfl⟩,?_,?_⟩<;>(with_reducible conv=>whnf)<;>repeat' (first|(with_reducible exact trivial)|(with_reducible refine And.intro ?_ ?_<;>with_reducible conv=>whnf))))
        refine bR.mk (j+1,gar'++ [x]) ⟨by show j+1≤_;omega,by show(kp (j+1)).length+_=j+1;rw[hst];simp;omega,by simp⟩ (by show ks.length- (j+1)<ks.length-j;omega) ?_
        (refine⟨⟨rfl,rfl⟩,?_⟩;(with_reducible conv=>whnf);(repeat' (first|(with_reducible exact trivial)|(with_reducible refine And.intro ?_ ?_<;>with_reducible conv=>whnf)));(all_goals try rfl))
        all_goals first
          |exact⟨⟨rfl,rfl,trivial⟩,trivial⟩
          |exact⟨.refl (aa _),aa _⟩
          |(show((kp (j+1)).length:Int)=((kp j).length:Int)+1;rw[hst];simp)
          |trace_state
    · simp only[cR] at h1
      obtain rfl:j=ks.length:=by omega
      repeat' (first
    |(first
    |((with_reducible show aX _ _ _ _);first|refine aX.ff ?_|refine aX.tt ?_|refine aX.no (by first|rfl|assumption|exact nf (by assumption)|exact nt (by assumption)|((try simp only[ay]);first|(simp[];done)|(simp[];omega))) ?_|refine aX.yes (by first|rfl|assumption|exact nf (by assumption)|exact nt (by assumption)|((try simp only[ay]);first|(simp[];done)|(simp[];omega))) ?_)
    |((with_reducible show bE _ _ _ _);refine bE.mk (by(try simp only[ay]);omega) ?_)
    |((with_reducible show aI _ _ _ _);refine aI.mk (by kernel_rfl) (by kernel_rfl) (by kernel_rfl) ?_))<;>((with_reducible conv=>whnf);(with_reducible conv=>congr<;>reduce);repeat((first|(with_reducible refine bK.mk ?_)|(with_reducible refine bL.mk ?_));(with_reducible conv=>whnf);(with_reducible conv=>congr<;>reduce)))
    | ((with_reducible show(_∧_)∧_∧_);refine⟨⟨rfl,rfl⟩,?_,?_⟩<;>(with_reducible conv=>whnf)<;>repeat' (first|(with_reducible exact trivial)|(with_reducible refine And.intro ?_ ?_<;>with_reducible conv=>whnf))))
      refine A0.mk (kp ks.length).length gar.length rfl (by(try simp only[ay]);omega) (by omega) ?_;((with_reducible conv=>whnf);(with_reducible conv=>congr<;>reduce);repeat((first|(with_reducible refine bK.mk ?_)|(with_reducible refine bL.mk ?_));(with_reducible conv=>whnf);(with_reducible conv=>congr<;>reduce)))
      have hpos:0<gar.length:=List.length_pos_iff.2 hg0
      refine aW.clear ((kp ks.length++List.replicate gar.length 0).map bU) (by
        rw[Nat.zero_add,iq,iq,iq,List.append_assoc,List.take_left' (bW ..),List.map_replicate];rfl) rfl Tryz.underlying33 Tryz.zeroValue3 rfl rfl rfl rfl hpos rfl (by simp) rfl ?_;((with_reducible conv=>whnf);(with_reducible conv=>congr<;>reduce);repeat((first|(with_reducible refine bK.mk ?_)|(with_reducible refine bL.mk ?_));(with_reducible conv=>whnf);(with_reducible conv=>congr<;>reduce)))
      repeat' (first
    |(first
    |((with_reducible show aX _ _ _ _);first|refine aX.ff ?_|refine aX.tt ?_|refine aX.no (by first|rfl|assumption|exact nf (by assumption)|exact nt (by assumption)|((try simp only[ay]);first|(simp[];done)|(simp[];omega))) ?_|refine aX.yes (by first|rfl|assumption|exact nf (by assumption)|exact nt (by assumption)|((try simp only[ay]);first|(simp[];done)|(simp[];omega))) ?_)
    |((with_reducible show bE _ _ _ _);refine bE.mk (by(try simp only[ay]);omega) ?_)
    |((with_reducible show aI _ _ _ _);refine aI.mk (by kernel_rfl) (by kernel_rfl) (by kernel_rfl) ?_))<;>((with_reducible conv=>whnf);(with_reducible conv=>congr<;>reduce);repeat((first|(with_reducible refine bK.mk ?_)|(with_reducible refine bL.mk ?_));(with_reducible conv=>whnf);(with_reducible conv=>congr<;>reduce)))
    | ((with_reducible show(_∧_)∧_∧_);refine⟨⟨rfl,rfl⟩,?_,?_⟩<;>(with_reducible conv=>whnf)<;>repeat' (first|(with_reducible exact trivial)|(with_reducible refine And.intro ?_ ?_<;>with_reducible conv=>whnf))))
      refine A0.mk 0 (kp ks.length).length rfl (by(try simp only[ay]);omega) (by omega) ?_;((with_reducible conv=>whnf);(with_reducible conv=>congr<;>reduce);repeat((first|(with_reducible refine bK.mk ?_)|(with_reducible refine bL.mk ?_));(with_reducible conv=>whnf);(with_reducible conv=>congr<;>reduce)))
      repeat' (first
    |(first
    |((with_reducible show aX _ _ _ _);first|refine aX.ff ?_|refine aX.tt ?_|refine aX.no (by first|rfl|assumption|exact nf (by assumption)|exact nt (by assumption)|((try simp only[ay]);first|(simp[];done)|(simp[];omega))) ?_|refine aX.yes (by first|rfl|assumption|exact nf (by assumption)|exact nt (by assumption)|((try simp only[ay]);first|(simp[];done)|(simp[];omega))) ?_)
    |((with_reducible show bE _ _ _ _);refine bE.mk (by(try simp only[ay]);omega) ?_)
    |((with_reducible show aI _ _ _ _);refine aI.mk (by kernel_rfl) (by kernel_rfl) (by kernel_rfl) ?_))<;>((with_reducible conv=>whnf);(with_reducible conv=>congr<;>reduce);repeat((first|(with_reducible refine bK.mk ?_)|(with_reducible refine bL.mk ?_));(with_reducible conv=>whnf);(with_reducible conv=>congr<;>reduce)))
    | ((with_reducible show(_∧_)∧_∧_);refine⟨⟨rfl,rfl⟩,?_,?_⟩<;>(with_reducible conv=>whnf)<;>repeat' (first|(with_reducible exact trivial)|(with_reducible refine And.intro ?_ ?_<;>with_reducible conv=>whnf))))
      all_goals first
        |rfl
        |(rw[hend];done)
        |exact⟨⟨rfl,rfl,trivial⟩,trivial⟩
        |(rw[←hend,show ks.length- (kp ks.length).length=gar.length by omega];exact⟨.refl (aa _),aa _⟩)
        |(show qx _ ((jI p ks++List.replicate (ks.length- (jI p ks).length) 0).map bU) _;rw[←hend,show ks.length- (kp ks.length).length=gar.length by omega];exact⟨.refl (aa _),aa _⟩)
        |trace_state
end
end Go.Proofs.Heir
namespace Go.Proofs.Heir
open Go Go.Am Go.RowKit Go.Lib
set_option maxRecDepth 100000
set_option maxHeartbeats 8000000




section
variable {l : List ai} {m x : Int} {p : Int → Bool} {ks : List Int} {cf : Nat → List (Int × List (ByteArray × Int))}
end
end Go.Proofs.Heir
namespace Go.Proofs.Heir
open Go Go.Am Go.RowKit Go.Lib
set_option maxRecDepth 100000

end Go.Proofs.Heir
namespace Go.Proofs.Heir
open Go Go.Am Go.RowKit Go.Shelf
set_option maxRecDepth 100000
set_option maxHeartbeats 8000000

end Go.Proofs.Heir
namespace Go.Proofs.Heir
open Go Go.Am Go.RowKit Go.Lib
set_option maxRecDepth 100000
set_option maxHeartbeats 8000000



end Go.Proofs.Heir
namespace Go.Proofs.Heir
open Go Go.Am Go.RowKit Go.Lib
set_option maxRecDepth 100000

end Go.Proofs.Heir
namespace Go.Proofs.Heir
open Go Go.Am Go.RowKit Go.Lib
set_option maxRecDepth 100000
set_option maxHeartbeats 8000000



end Go.Proofs.Heir
namespace Go.Proofs.Heir
open Go Go.Am Go.RowKit Go.Lib
set_option maxRecDepth 100000

end Go.Proofs.Heir
namespace Go.Proofs.Heir
open Go Go.Am Go.RowKit Go.Lib
set_option maxRecDepth 100000
set_option maxHeartbeats 8000000





end Go.Proofs.Heir
