/- Models, plain laws and contracts of functions of the given program; conditions as stated in each theorem. By an AI agent. -/
import Derived.Test.YtkhjcnjicjgfiaaGreatDoorWD20
import Derived.Test.YtkhjcnjicjgfiaaGreatDoorWD15
import Derived.Test.YtkhjcnjicjgfiaaGreatDoorWD22
import Derived.Test.YtkhjcnjicjgfiaaGreatDoorWD19
set_option linter.unusedSimpArgs false
set_option linter.unusedVariables false
namespace Go.Proofs.Heir
open Go Go.Am Go.RowKit Go.Lib
set_option maxRecDepth 100000
set_option maxHeartbeats 8000000
@[reducible] def jN (l : List ai) (m : Int) (t : Nat) : MS := .live 3 [.agg [gq l, ay m, .mapr t]] false
theorem Cx {m':ML}{b t:Nat}{r:List Nat}{l:List ai}{m:Int}{c:List (Int×List (ByteArray×Int))}(h1:dc m' b=jN l m t)(h3:dc m' t=fA c):oU (kO 2 0 (b::t::r)) [] m' [jN l m 1,fA c] (b::t::r):=by
  simp only[oU,h1,h3]
  refine⟨⟨trivial,.inr ⟨⟨⟨rfl,rfl,?_,trivial⟩,trivial⟩,rfl⟩⟩,⟨trivial,.inl ⟨rfl,aO _⟩⟩,trivial⟩
  simp[MF,kO,mJ,Nat.beq_refl]
theorem yE {b t:Nat}{l:List ai}{m:Int}{c:List (Int×List (ByteArray×Int))}:l8 [b,t] [jN l m 1,fA c] [jN l m t,fA c]:=
  ⟨⟨rfl,.inr ⟨rfl,rfl,rfl⟩⟩,⟨rfl,.inl ⟨rfl,aO _⟩⟩,trivial⟩
theorem Ib (l:List ai)(m:Int)(hs:bO l)(hrt:aU ⟨l,m⟩=true)(c:List (Int×List (ByteArray×Int)))(hc:wm l c)(x n:Int)(hn:aa l n=true):
    an Tryz.prog 166 [jN l m 1,fA c] [ay n,.ptr 0 0 0,.fptr (ay x) 0] [jN l m 1,fA (iW l c n)] (aX (!decide (eC l n=x))):=by
  have h74:=DA l m hs hrt c hc n hn
  generalize iW l c n=c2 at h74 ⊢
  generalize eC l n=o at h74 ⊢
  refine an.aF (rvs:=[.tmp 4]) G aq Tryz.func166 rfl Tryz.ntmps166 rfl rfl ?_;with_reducible refine wD ?_
  repeat' (first
    |refine gK ?_
    | ((first
      |((with_reducible show ah _ _ 105 _ _ _ _);refine ah.dw (news:=[fA c2]) [1] [] h74 MK ⟨⟨rfl,rfl,trivial,trivial⟩,rfl,trivial⟩ ⟨⟨rfl,.inl ⟨rfl,aO c⟩⟩,trivial⟩ rfl ⟨⟨rfl,rfl⟩,rfl⟩ rfl ⟨⟨rfl,.inl ⟨rfl,aO c2⟩⟩,trivial⟩ rfl rfl ?_)
      |((with_reducible show aH _ _ _ _);refine dK ?_))<;>with_reducible refine wK ?_)
    |((with_reducible show(_∧_)∧_∧_);(refine eK ?_ ?_<;>with_reducible repeat' (first|exact trivial|(show _∧_;refine aK ?_ ?_)))))
  all_goals first
    |rfl
    |exact⟨.refl rfl,rfl⟩
    |exact⟨.refl (aO _),aO _⟩
    |trace_state
section
variable {l : List ai} {m x : Int} {p : Int → Bool} {ks : List Int} {cf : Nat → List (Int × List (ByteArray × Int))}
abbrev LW (l:List ai)(m x:Int)(p:Int→Bool)(ks:List Int)(cf:Nat→List (Int×List (ByteArray×Int))):Prop:=
  ∀ (j:Nat) (a:Int),ks[j]? =some a→an Tryz.prog 166 [jN l m 1,fA (cf j)] [ay a,.ptr 0 0 0,.fptr (ay x) 0] [jN l m 1,fA (cf (j+1))] (aX (p a))
theorem GZ (hl:ks.length≤100000)(hf:LW l m x p ks cf)(n1:Nat)(hn1:(match ks.findIdx? p with|some i=>i+1|none=>ks.length)=n1):
    an Tryz.prog 125 [jN l m 1,fA (cf 0),cU ks] [.own 2 0 ks.length,.clo (.func 166) [] [.ptr 0 0 0,.fptr (ay x) 0]] [jN l m 1,fA (cf n1),cU ks] (ay (dI p ks)):=by
  have hno:∀ (j:Nat) (a:Int),ks[j]? =some a→(∀i,ks.findIdx? p=some i→j<i)→p a=false:=fun j a ha h=>by
    cases hi:ks.findIdx? p with
    | none=>
      have:=List.findIdx?_eq_none_iff.1 hi a (bN ha)
      simpa using this
    | some i0=>
      obtain⟨h1,h2,h3⟩:=List.findIdx?_eq_some_iff_getElem.1 hi
      have h4:=h3 j (h i0 hi)
      have hj:=(br ha).1
      rw[bh hj] at ha
      rw[Option.some.inj ha] at h4
      simpa using h4
  have hyes:∀i,ks.findIdx? p=some i→∃a,ks[i]? =some a∧p a=true∧n1=i+1∧dI p ks=(i:Int):=fun i hi=>by
    obtain⟨h1,h2,h3⟩:=List.findIdx?_eq_some_iff_getElem.1 hi
    exact⟨_,bh h1,h2,by rw[←hn1,hi],by unfold dI;rw[hi]⟩
  have hend:ks.findIdx? p=none→n1=ks.length∧dI p ks=-1:=fun hi=>⟨by rw[←hn1,hi],by unfold dI;rw[hi]⟩
  clear hn1
  refine an.aF (rvs:=[.tmp 4]) G aq Tryz.func125 rfl Tryz.ntmps125 rfl rfl ?_;with_reducible refine wD ?_
  refine bD.use G aq (fun(k:Nat)=>[(0,.own 2 0 ks.length),(1,.clo (.func 166) [] [.ptr 0 0 0,.fptr (ay x) 0]),(7,ay ks.length),(8,ay k)])
    (fun k=>[(0,jN l m 1),(1,fA (cf k)),(2,cU ks)])
    (fun k=>k≤ks.length∧∀i,ks.findIdx? p=some i→k≤i) (fun k=>ks.length-k) 0 ⟨Nat.zero_le _,fun _ _=>Nat.zero_le _⟩ ?_ ?_
  · (refine fK ?_;(with_reducible repeat' (first|exact trivial|(show _∧_;refine aK ?_ ?_)));(all_goals try rfl))
    all_goals first
      |exact⟨.refl rfl,rfl⟩
      |exact⟨.refl (aO _),aO _⟩
      |exact⟨.refl (ae _),ae _⟩
      |trace_state
  rintro k ⟨hk,hki⟩
  with_reducible refine wK ?_
  refine aL.mk (fun h1=>?_) (fun h1=>?_)<;>(try simp only[ak] at h1)<;>with_reducible refine wK ?_
  · have hk' :k<ks.length:=by simp only[bH] at h1;omega
    obtain⟨a,ha⟩:∃a,ks[k]? =some a:=⟨_,bh hk'⟩
    have h83:=hf k a ha
    refine gX.mk k rfl (by omega) ?_;with_reducible refine wK ?_
    refine bE.mk (ay a) (by rw[Nat.zero_add];exact iy ha) ?_;with_reducible refine wK ?_
    refine ah.dw (news:=[jN l m 1,fA (cf (k+1))]) [0,1] [] h83 My ⟨rfl,⟨rfl,rfl⟩,⟨rfl,rfl⟩,trivial⟩ (Cx rfl rfl) rfl ⟨⟨rfl,rfl⟩,rfl⟩ rfl yE rfl rfl ?_
    with_reducible refine wK ?_
    cases hpa:p a with
    | true =>
      have hi:ks.findIdx? p=some k:=by
        cases hi:ks.findIdx? p with
        | none=>
          have:=List.findIdx?_eq_none_iff.1 hi a (bN ha)
          rw[hpa] at this;simp at this
        | some i0=>
          have h2:=hki i0 hi
          by_cases e:k=i0
          ·rw[e]
          · have:=hno k a ha fun i hi'=>by rw[hi] at hi';cases hi';omega
            rw[hpa] at this;cases this
      obtain⟨_,_,_,g3,g4⟩:=hyes k hi
      rw[g4]
      subst g3
      repeat' (first
    |refine gK ?_
    | ((with_reducible show(_∧_)∧_∧_);(refine eK ?_ ?_<;>with_reducible repeat' (first|exact trivial|(show _∧_;refine aK ?_ ?_)))))
      all_goals first
        |rfl
        |exact⟨.refl rfl,rfl⟩
        |exact⟨.refl (aO _),aO _⟩
        |exact⟨.refl (ae _),ae _⟩
        |trace_state
    | false=>
      repeat' (first
    |refine gK ?_
    | ((with_reducible show(_∧_)∧_∧_);(refine eK ?_ ?_<;>with_reducible repeat' (first|exact trivial|(show _∧_;refine aK ?_ ?_)))))
      refine aT.mk (k+1) ⟨by omega,fun i hi=>?_⟩ (by omega) ?_
      · have h2:=hki i hi
        by_cases e:k=i
        · obtain⟨b,hb,hpb,_⟩:=hyes i hi
          rw[←e,ha] at hb
          cases hb
          rw[hpa] at hpb;cases hpb
        ·omega
      · (refine fK ?_;(with_reducible repeat' (first|exact trivial|(show _∧_;refine aK ?_ ?_)));(all_goals try rfl))
        all_goals first
          |exact⟨.refl rfl,rfl⟩
          |exact⟨.refl (aO _),aO _⟩
          |exact⟨.refl (ae _),ae _⟩
          |trace_state
  · have hkl:k=ks.length:=by simp only[dG] at h1;omega
    subst hkl
    have hi:ks.findIdx? p=none:=by
      cases hi:ks.findIdx? p with
      |none=>rfl
      | some i0=>
        have h2:=hki i0 hi
        have:=(List.findIdx?_eq_some_iff_getElem.1 hi).1
        omega
    obtain⟨g1,g2⟩:=hend hi
    rw[g2]
    subst g1
    repeat' (first
    |refine gK ?_
    |((with_reducible show(_∧_)∧_∧_);(refine eK ?_ ?_<;>with_reducible repeat' (first|exact trivial|(show _∧_;refine aK ?_ ?_)))))
    all_goals first
      |rfl
      |exact⟨.refl rfl,rfl⟩
      |exact⟨.refl (aO _),aO _⟩
      |exact⟨.refl (ae _),ae _⟩
      |trace_state
end
end Go.Proofs.Heir
namespace Go.Proofs.Heir
open Go Go.Am Go.RowKit Go.Lib
set_option maxRecDepth 100000
def j0 (p:Int→Bool)(l:List Int):List Int:=l.filter fun x=> !p x
theorem uu {m':ML}{b t q:Nat}{l:List ai}{m:Int}{c:List (Int×List (ByteArray×Int))}{ks:List Int}(h1:dc m' b=jN l m t)(h3:dc m' t=fA c)(h4:dc m' q=cU ks):oU (kO 3 0 [b,t,q]) [] m' [jN l m 1,fA c,cU ks] [b,t,q]:=by
  simp only[oU,h1,h3,h4]
  refine⟨⟨trivial,.inr ⟨⟨⟨rfl,rfl,?_,trivial⟩,trivial⟩,rfl⟩⟩,⟨trivial,.inl ⟨rfl,aO _⟩⟩,⟨trivial,.inl ⟨rfl,ae _⟩⟩,trivial⟩
  simp[MF,kO,mJ,Nat.beq_refl]
theorem qi {b t q:Nat}{l:List ai}{m:Int}{c:List (Int×List (ByteArray×Int))}{ks:List Int}:l8 [b,t,q] [jN l m 1,fA c,cU ks] [jN l m t,fA c,cU ks]:=
  ⟨⟨rfl,.inr ⟨rfl,rfl,rfl⟩⟩,⟨rfl,.inl ⟨rfl,aO _⟩⟩,⟨rfl,.inl ⟨rfl,ae _⟩⟩,trivial⟩
set_option maxHeartbeats 16000000 in
/-- slices.DeleteFunc, of numbers, by that closure -/
theorem IV {l:List ai}{m y:Int}{p:Int→Bool}{ks:List Int}{cf:Nat→List (Int×List (ByteArray×Int))}(hl:ks.length≤100000)(hf:LW l m y p ks cf):
    an Tryz.prog 81 [jN l m 1,fA (cf 0),cU ks] [.own 2 0 ks.length,.clo (.func 166) [] [.ptr 0 0 0,.fptr (ay y) 0]]
      [jN l m 1,fA (cf ks.length),cU (j0 p ks++List.replicate (ks.length- (j0 p ks).length) 0)] (.own 2 0 (j0 p ks).length):=by
  have hlm:(ks.map bu).length=ks.length:=bM ..
  have h130:=fun n1=>GZ hl hf n1
  cases hi:ks.findIdx? p with
  | none=>
    have e1:dI p ks=-1:=by unfold dI;rw[hi]
    have e2:j0 p ks=ks:=by
      unfold j0;rw[List.filter_eq_self];intro a ha
      have:=List.findIdx?_eq_none_iff.1 hi a ha
      simpa using this
    have h130:=h130 ks.length (by rw[hi])
    rw[e1] at h130
    rw[e2,Nat.sub_self,List.replicate_zero,List.append_nil]
    refine an.aF (rvs:=[.tmp 4]) G aq Tryz.func81 rfl Tryz.ntmps81 rfl rfl ?_;delta List.toArray;((with_reducible conv=>whnf);(with_reducible conv=>congr<;>reduce);repeat((first|(with_reducible refine aY.mk ?_)|(with_reducible refine aZ.mk ?_));(with_reducible conv=>whnf);(with_reducible conv=>congr<;>reduce)))
    refine ah.dw (news:=[jN l m 1,fA (cf ks.length),cU ks]) [0,1,2] [] h130 AL ⟨⟨rfl,rfl⟩,⟨rfl,trivial,⟨rfl,rfl⟩,⟨rfl,rfl⟩,trivial⟩,trivial⟩ (uu rfl rfl rfl) rfl ⟨⟨rfl,rfl⟩,rfl⟩ rfl qi rfl rfl ?_;((with_reducible conv=>whnf);(with_reducible conv=>congr<;>reduce);repeat((first|(with_reducible refine aY.mk ?_)|(with_reducible refine aZ.mk ?_));(with_reducible conv=>whnf);(with_reducible conv=>congr<;>reduce)))
    repeat' (first
    |(first
    |((with_reducible show aL _ _ _ _);first|refine aL.ff ?_|refine aL.tt ?_|refine aL.no (by first|rfl|assumption|exact nf (by assumption)|exact nt (by assumption)|((try simp only[ak]);first|(simp[];done)|(simp[];omega))) ?_|refine aL.yes (by first|rfl|assumption|exact nf (by assumption)|exact nt (by assumption)|((try simp only[ak]);first|(simp[];done)|(simp[];omega))) ?_)
    |((with_reducible show aP _ _ _ _);refine aP.mk (by(try simp only[ak]);omega) ?_)
    |((with_reducible show aH _ _ _ _);refine aH.mk (by kernel_rfl) (by kernel_rfl) (by kernel_rfl) ?_))<;>((with_reducible conv=>whnf);(with_reducible conv=>congr<;>reduce);repeat((first|(with_reducible refine aY.mk ?_)|(with_reducible refine aZ.mk ?_));(with_reducible conv=>whnf);(with_reducible conv=>congr<;>reduce)))
    |((with_reducible show(_∧_)∧_∧_);refine⟨⟨rfl,rfl⟩,?_,?_⟩<;>(with_reducible conv=>whnf)<;>repeat' (first|(with_reducible exact trivial)|(with_reducible refine And.intro ?_ ?_<;>with_reducible conv=>whnf))))
    all_goals first
      |rfl
      |exact⟨.refl rfl,rfl⟩
      |exact⟨.refl (aO _),aO _⟩
      |exact⟨.refl (ae _),ae _⟩
      |trace_state
  | some i0=>
    have e1:dI p ks=(i0:Int):=by unfold dI;rw[hi]
    have h130:=h130 (i0+1) (by rw[hi])
    rw[e1] at h130
    obtain⟨hi1,hi2,hi3⟩:=List.findIdx?_eq_some_iff_getElem.1 hi
    obtain⟨kp,hkp⟩:∃kp:Nat→List Int,kp=fun j=>j0 p (ks.take j):=⟨_,rfl⟩
    have hk1:kp (i0+1)=ks.take i0:=by
      rw[hkp];unfold j0
      show List.filter _ (ks.take (i0+1))=_
      rw[List.take_add_one,bh hi1,List.filter_append]
      have h1:List.filter (fun x=> !p x) (ks.take i0)=ks.take i0:=by
        rw[List.filter_eq_self];intro a ha
        obtain⟨j,hj,rfl⟩:=List.mem_iff_getElem.1 ha
        rw[List.getElem_take]
        simp only[gI] at hj
        have:=hi3 j (by omega)
        simpa using this
      rw[h1];simp[hi2]
    have hstep:∀ (j:Nat) (x:Int),ks[j]? =some x→kp (j+1)=kp j++if p x=true then[] else[x]:=fun j x hx=>by
      rw[hkp];unfold j0
      show List.filter _ (ks.take (j+1))=_
      rw[List.take_add_one,hx,List.filter_append]
      congr 1
      show List.filter _ [x]=_
      rw[List.filter_cons]
      cases p x<;>rfl
    have hend:kp ks.length=j0 p ks:=by rw[hkp];show j0 p (ks.take ks.length)=_;rw[List.take_length]
    have hl1:kp (i0+1)++ [ks[i0]]++ks.drop (i0+1)=ks:=by
      rw[hk1,List.append_assoc,List.singleton_append,←List.drop_eq_getElem_cons hi1,List.take_append_drop]
    refine an.aF (rvs:=[.tmp 4]) G aq Tryz.func81 rfl Tryz.ntmps81 rfl rfl ?_;delta List.toArray;((with_reducible conv=>whnf);(with_reducible conv=>congr<;>reduce);repeat((first|(with_reducible refine aY.mk ?_)|(with_reducible refine aZ.mk ?_));(with_reducible conv=>whnf);(with_reducible conv=>congr<;>reduce)))
    refine ah.dw (news:=[jN l m 1,fA (cf (i0+1)),cU ks]) [0,1,2] [] h130 AL ⟨⟨rfl,rfl⟩,⟨rfl,trivial,⟨rfl,rfl⟩,⟨rfl,rfl⟩,trivial⟩,trivial⟩ (uu rfl rfl rfl) rfl ⟨⟨rfl,rfl⟩,rfl⟩ rfl qi rfl rfl ?_;((with_reducible conv=>whnf);(with_reducible conv=>congr<;>reduce);repeat((first|(with_reducible refine aY.mk ?_)|(with_reducible refine aZ.mk ?_));(with_reducible conv=>whnf);(with_reducible conv=>congr<;>reduce)))
    repeat' (first
    |(first
    |((with_reducible show aL _ _ _ _);first|refine aL.ff ?_|refine aL.tt ?_|refine aL.no (by first|rfl|assumption|exact nf (by assumption)|exact nt (by assumption)|((try simp only[ak]);first|(simp[];done)|(simp[];omega))) ?_|refine aL.yes (by first|rfl|assumption|exact nf (by assumption)|exact nt (by assumption)|((try simp only[ak]);first|(simp[];done)|(simp[];omega))) ?_)
    |((with_reducible show aP _ _ _ _);refine aP.mk (by(try simp only[ak]);omega) ?_)
    |((with_reducible show aH _ _ _ _);refine aH.mk (by kernel_rfl) (by kernel_rfl) (by kernel_rfl) ?_))<;>((with_reducible conv=>whnf);(with_reducible conv=>congr<;>reduce);repeat((first|(with_reducible refine aY.mk ?_)|(with_reducible refine aZ.mk ?_));(with_reducible conv=>whnf);(with_reducible conv=>congr<;>reduce)))
    |((with_reducible show(_∧_)∧_∧_);refine⟨⟨rfl,rfl⟩,?_,?_⟩<;>(with_reducible conv=>whnf)<;>repeat' (first|(with_reducible exact trivial)|(with_reducible refine And.intro ?_ ?_<;>with_reducible conv=>whnf))))
    refine bD.use G aq (fun(i:Nat×List Int)=>[(0,.own 2 0 ks.length),(1,.clo (.func 166) [] [.ptr 0 0 0,.fptr (ay y) 0]),(5,ay (kp i.1).length),(6,ay i.1)])
      (fun i=>[(0,jN l m 1),(1,fA (cf i.1)),(2,cU (kp i.1++i.2++ks.drop i.1))])
      (fun i=>i.1≤ks.length∧(kp i.1).length+i.2.length=i.1∧i.2≠ []) (fun i=>ks.length-i.1) (i0+1,[ks[i0]]) ⟨by show i0+1≤_;omega,by show(kp (i0+1)).length+1=i0+1;rw[hk1,gI,Nat.min_eq_left (by omega)],by simp⟩ ?_ ?_
    · (refine⟨⟨rfl,rfl⟩,?_⟩;(with_reducible conv=>whnf);(repeat' (first|(with_reducible exact trivial)|(with_reducible refine And.intro ?_ ?_<;>with_reducible conv=>whnf)));(all_goals try rfl))
      all_goals first
        |(show((kp (i0+1)).length:Int)=(i0:Int);rw[hk1,gI,Nat.min_eq_left (by omega)])
        |exact⟨.refl rfl,rfl⟩
        |exact⟨.refl (aO _),aO _⟩
        |(show o3 _ ((kp (i0+1)++ [ks[i0]]++ks.drop (i0+1)).map bu) _;rw[hl1];exact⟨.refl (ae _),ae _⟩)
        |trace_state
    rintro⟨j,gar⟩ ⟨hj,hg,hg0⟩
    simp only at hj hg hg0
    ((with_reducible conv=>whnf);(with_reducible conv=>congr<;>reduce);repeat((first|(with_reducible refine aY.mk ?_)|(with_reducible refine aZ.mk ?_));(with_reducible conv=>whnf);(with_reducible conv=>congr<;>reduce)))
    have hdl:(ks.drop j).length=ks.length-j:=List.length_drop ..
    have hlr:((kp j++gar++ks.drop j).map bu).length=ks.length:=by simp;omega
    refine aL.mk (fun h1=>?_) (fun h1=>?_)<;>(try simp only[ak] at h1)<;>((with_reducible conv=>whnf);(with_reducible conv=>congr<;>reduce);repeat((first|(with_reducible refine aY.mk ?_)|(with_reducible refine aZ.mk ?_));(with_reducible conv=>whnf);(with_reducible conv=>congr<;>reduce)))
    · simp only[bH] at h1
      have hj':j<ks.length:=by omega
      obtain⟨x,hx⟩:∃x,ks[j]? =some x:=⟨_,bh hj'⟩
      have hdj:ks.drop j=x::ks.drop (j+1):=by
        rw[List.drop_eq_getElem_cons hj'];congr 1
        rw[bh hj'] at hx;exact Option.some.inj hx
      have hst:=hstep j x hx
      have h83:=hf j x hx
      rw[hdj]
      rw[hdj] at hlr
      obtain⟨z,gar',rfl⟩:=List.exists_cons_of_ne_nil hg0
      simp only[List.length_cons] at hg
      refine gX.mk j rfl (by omega) ?_
      ((with_reducible conv=>whnf);(with_reducible conv=>congr<;>reduce);repeat((first|(with_reducible refine aY.mk ?_)|(with_reducible refine aZ.mk ?_));(with_reducible conv=>whnf);(with_reducible conv=>congr<;>reduce)))
      refine bE.mk (ay x) (by rw[Nat.zero_add,dM,List.getElem?_append_right (by simp;omega),show j- (kp j++z::gar').length=0 by simp;omega];rfl) ?_;((with_reducible conv=>whnf);(with_reducible conv=>congr<;>reduce);repeat((first|(with_reducible refine aY.mk ?_)|(with_reducible refine aZ.mk ?_));(with_reducible conv=>whnf);(with_reducible conv=>congr<;>reduce)))
      repeat' (first
    |(first
    |((with_reducible show aL _ _ _ _);first|refine aL.ff ?_|refine aL.tt ?_|refine aL.no (by first|rfl|assumption|exact nf (by assumption)|exact nt (by assumption)|((try simp only[ak]);first|(simp[];done)|(simp[];omega))) ?_|refine aL.yes (by first|rfl|assumption|exact nf (by assumption)|exact nt (by assumption)|((try simp only[ak]);first|(simp[];done)|(simp[];omega))) ?_)
    |((with_reducible show aP _ _ _ _);refine aP.mk (by(try simp only[ak]);omega) ?_)
    |((with_reducible show aH _ _ _ _);refine aH.mk (by kernel_rfl) (by kernel_rfl) (by kernel_rfl) ?_))<;>((with_reducible conv=>whnf);(with_reducible conv=>congr<;>reduce);repeat((first|(with_reducible refine aY.mk ?_)|(with_reducible refine aZ.mk ?_));(with_reducible conv=>whnf);(with_reducible conv=>congr<;>reduce)))
    | ((with_reducible show(_∧_)∧_∧_);refine⟨⟨rfl,rfl⟩,?_,?_⟩<;>(with_reducible conv=>whnf)<;>repeat' (first|(with_reducible exact trivial)|(with_reducible refine And.intro ?_ ?_<;>with_reducible conv=>whnf))))
      refine ah.dw (news:=[jN l m 1,fA (cf (j+1))]) [0,1] [] h83 My ⟨rfl,⟨rfl,rfl⟩,⟨rfl,rfl⟩,trivial⟩ (Cx rfl rfl) rfl ⟨⟨rfl,rfl⟩,rfl⟩ rfl yE rfl rfl ?_;((with_reducible conv=>whnf);(with_reducible conv=>congr<;>reduce);repeat((first|(with_reducible refine aY.mk ?_)|(with_reducible refine aZ.mk ?_));(with_reducible conv=>whnf);(with_reducible conv=>congr<;>reduce)))
      cases hp:p x with
      | true=>
        rw[hp,if_pos rfl,List.append_nil] at hst
        have hl2:kp (j+1)++ (z::gar'++ [x])++ks.drop (j+1)=kp j++z::gar'++x::ks.drop (j+1):=by rw[hst];simp
        repeat' (first
    |(first
    |((with_reducible show aL _ _ _ _);first|refine aL.ff ?_|refine aL.tt ?_|refine aL.no (by first|rfl|assumption|exact nf (by assumption)|exact nt (by assumption)|((try simp only[ak]);first|(simp[];done)|(simp[];omega))) ?_|refine aL.yes (by first|rfl|assumption|exact nf (by assumption)|exact nt (by assumption)|((try simp only[ak]);first|(simp[];done)|(simp[];omega))) ?_)
    |((with_reducible show aP _ _ _ _);refine aP.mk (by(try simp only[ak]);omega) ?_)
    |((with_reducible show aH _ _ _ _);refine aH.mk (by kernel_rfl) (by kernel_rfl) (by kernel_rfl) ?_))<;>((with_reducible conv=>whnf);(with_reducible conv=>congr<;>reduce);repeat((first|(with_reducible refine aY.mk ?_)|(with_reducible refine aZ.mk ?_));(with_reducible conv=>whnf);(with_reducible conv=>congr<;>reduce)))
    | ((with_reducible show(_∧_)∧_∧_);refine⟨⟨rfl,rfl⟩,?_,?_⟩<;>(with_reducible conv=>whnf)<;>repeat' (first|(with_reducible exact trivial)|(with_reducible refine And.intro ?_ ?_<;>with_reducible conv=>whnf))))
        refine aT.mk (j+1,z::gar'++ [x]) ⟨by show j+1≤_;omega,by show(kp (j+1)).length+_=j+1;rw[hst];simp;omega,by simp⟩ (by show ks.length- (j+1)<ks.length-j;omega) ?_
        (refine⟨⟨rfl,rfl⟩,?_⟩;(with_reducible conv=>whnf);(repeat' (first|(with_reducible exact trivial)|(with_reducible refine And.intro ?_ ?_<;>with_reducible conv=>whnf)));(all_goals try rfl))
        all_goals first
          |exact⟨.refl rfl,rfl⟩
          |exact⟨.refl (aO _),aO _⟩
          |(show((kp (j+1)).length:Int)=((kp j).length:Int);rw[hst])
          |(show o3 _ ((kp (j+1)++ (z::gar'++ [x])++ks.drop (j+1)).map bu) _;rw[hl2];exact⟨.refl (ae _),ae _⟩)
          |trace_state
      | false=>
        rw[hp,if_neg (by simp)] at hst
        have hl2:((kp j++z::gar'++x::ks.drop (j+1)).map bu).set (0+ (kp j).length) (ay x)=(kp (j+1)++ (gar'++ [x])++ks.drop (j+1)).map bu:=by
          rw[hst,Nat.zero_add,List.append_assoc,List.cons_append,gL,List.set_append,if_neg (by simp),bM,Nat.sub_self,List.map_cons,List.set_cons_zero,show ay x=bu x from rfl]
          simp
        repeat' (first
    |(first
    |((with_reducible show aL _ _ _ _);first|refine aL.ff ?_|refine aL.tt ?_|refine aL.no (by first|rfl|assumption|exact nf (by assumption)|exact nt (by assumption)|((try simp only[ak]);first|(simp[];done)|(simp[];omega))) ?_|refine aL.yes (by first|rfl|assumption|exact nf (by assumption)|exact nt (by assumption)|((try simp only[ak]);first|(simp[];done)|(simp[];omega))) ?_)
    |((with_reducible show aP _ _ _ _);refine aP.mk (by(try simp only[ak]);omega) ?_)
    |((with_reducible show aH _ _ _ _);refine aH.mk (by kernel_rfl) (by kernel_rfl) (by kernel_rfl) ?_))<;>((with_reducible conv=>whnf);(with_reducible conv=>congr<;>reduce);repeat((first|(with_reducible refine aY.mk ?_)|(with_reducible refine aZ.mk ?_));(with_reducible conv=>whnf);(with_reducible conv=>congr<;>reduce)))
    | ((with_reducible show(_∧_)∧_∧_);refine⟨⟨rfl,rfl⟩,?_,?_⟩<;>(with_reducible conv=>whnf)<;>repeat' (first|(with_reducible exact trivial)|(with_reducible refine And.intro ?_ ?_<;>with_reducible conv=>whnf))))
        refine gX.mk (kp j).length rfl (by omega) ?_;((with_reducible conv=>whnf);(with_reducible conv=>congr<;>reduce);repeat((first|(with_reducible refine aY.mk ?_)|(with_reducible refine aZ.mk ?_));(with_reducible conv=>whnf);(with_reducible conv=>congr<;>reduce)))
        refine bE.mk (ay z) (by rw[Nat.zero_add,dM,List.append_assoc,List.getElem?_append_right (Nat.le_refl _),Nat.sub_self];rfl) ?_;((with_reducible conv=>whnf);(with_reducible conv=>congr<;>reduce);repeat((first|(with_reducible refine aY.mk ?_)|(with_reducible refine aZ.mk ?_));(with_reducible conv=>whnf);(with_reducible conv=>congr<;>reduce)))
        rw[hl2]
        repeat' (first
    |(first
    |((with_reducible show aL _ _ _ _);first|refine aL.ff ?_|refine aL.tt ?_|refine aL.no (by first|rfl|assumption|exact nf (by assumption)|exact nt (by assumption)|((try simp only[ak]);first|(simp[];done)|(simp[];omega))) ?_|refine aL.yes (by first|rfl|assumption|exact nf (by assumption)|exact nt (by assumption)|((try simp only[ak]);first|(simp[];done)|(simp[];omega))) ?_)
    |((with_reducible show aP _ _ _ _);refine aP.mk (by(try simp only[ak]);omega) ?_)
    |((with_reducible show aH _ _ _ _);refine aH.mk (by kernel_rfl) (by kernel_rfl) (by kernel_rfl) ?_))<;>((with_reducible conv=>whnf);(with_reducible conv=>congr<;>reduce);repeat((first|(with_reducible refine aY.mk ?_)|(with_reducible refine aZ.mk ?_));(with_reducible conv=>whnf);(with_reducible conv=>congr<;>reduce)))
    | ((with_reducible show(_∧_)∧_∧_);refine⟨⟨rfl,rfl⟩,?_,?_⟩<;>(with_reducible conv=>whnf)<;>repeat' (first|(with_reducible exact trivial)|(with_reducible refine And.intro ?_ ?_<;>with_reducible conv=>whnf))))
        refine aT.mk (j+1,gar'++ [x]) ⟨by show j+1≤_;omega,by show(kp (j+1)).length+_=j+1;rw[hst];simp;omega,by simp⟩ (by show ks.length- (j+1)<ks.length-j;omega) ?_
        (refine⟨⟨rfl,rfl⟩,?_⟩;(with_reducible conv=>whnf);(repeat' (first|(with_reducible exact trivial)|(with_reducible refine And.intro ?_ ?_<;>with_reducible conv=>whnf)));(all_goals try rfl))
        all_goals first
          |exact⟨.refl rfl,rfl⟩
          |exact⟨.refl (aO _),aO _⟩
          |exact⟨.refl (ae _),ae _⟩
          |(show((kp (j+1)).length:Int)=((kp j).length:Int)+1;rw[hst];simp)
          |trace_state
    · simp only[dG] at h1
      obtain rfl:j=ks.length:=by omega
      repeat' (first
    |(first
    |((with_reducible show aL _ _ _ _);first|refine aL.ff ?_|refine aL.tt ?_|refine aL.no (by first|rfl|assumption|exact nf (by assumption)|exact nt (by assumption)|((try simp only[ak]);first|(simp[];done)|(simp[];omega))) ?_|refine aL.yes (by first|rfl|assumption|exact nf (by assumption)|exact nt (by assumption)|((try simp only[ak]);first|(simp[];done)|(simp[];omega))) ?_)
    |((with_reducible show aP _ _ _ _);refine aP.mk (by(try simp only[ak]);omega) ?_)
    |((with_reducible show aH _ _ _ _);refine aH.mk (by kernel_rfl) (by kernel_rfl) (by kernel_rfl) ?_))<;>((with_reducible conv=>whnf);(with_reducible conv=>congr<;>reduce);repeat((first|(with_reducible refine aY.mk ?_)|(with_reducible refine aZ.mk ?_));(with_reducible conv=>whnf);(with_reducible conv=>congr<;>reduce)))
    | ((with_reducible show(_∧_)∧_∧_);refine⟨⟨rfl,rfl⟩,?_,?_⟩<;>(with_reducible conv=>whnf)<;>repeat' (first|(with_reducible exact trivial)|(with_reducible refine And.intro ?_ ?_<;>with_reducible conv=>whnf))))
      refine uM.mk (kp ks.length).length gar.length rfl (by(try simp only[ak]);omega) (by omega) ?_;((with_reducible conv=>whnf);(with_reducible conv=>congr<;>reduce);repeat((first|(with_reducible refine aY.mk ?_)|(with_reducible refine aZ.mk ?_));(with_reducible conv=>whnf);(with_reducible conv=>congr<;>reduce)))
      have hpos:0<gar.length:=List.length_pos_iff.2 hg0
      refine bt.clear ((kp ks.length++List.replicate gar.length 0).map bu) (by
        rw[Nat.zero_add,gL,gL,gL,List.append_assoc,List.take_left' (bM ..),List.map_replicate];rfl) rfl Tryz.underlying33 Tryz.zeroValue3 rfl rfl rfl rfl hpos rfl (by simp) rfl ?_;((with_reducible conv=>whnf);(with_reducible conv=>congr<;>reduce);repeat((first|(with_reducible refine aY.mk ?_)|(with_reducible refine aZ.mk ?_));(with_reducible conv=>whnf);(with_reducible conv=>congr<;>reduce)))
      repeat' (first
    |(first
    |((with_reducible show aL _ _ _ _);first|refine aL.ff ?_|refine aL.tt ?_|refine aL.no (by first|rfl|assumption|exact nf (by assumption)|exact nt (by assumption)|((try simp only[ak]);first|(simp[];done)|(simp[];omega))) ?_|refine aL.yes (by first|rfl|assumption|exact nf (by assumption)|exact nt (by assumption)|((try simp only[ak]);first|(simp[];done)|(simp[];omega))) ?_)
    |((with_reducible show aP _ _ _ _);refine aP.mk (by(try simp only[ak]);omega) ?_)
    |((with_reducible show aH _ _ _ _);refine aH.mk (by kernel_rfl) (by kernel_rfl) (by kernel_rfl) ?_))<;>((with_reducible conv=>whnf);(with_reducible conv=>congr<;>reduce);repeat((first|(with_reducible refine aY.mk ?_)|(with_reducible refine aZ.mk ?_));(with_reducible conv=>whnf);(with_reducible conv=>congr<;>reduce)))
    | ((with_reducible show(_∧_)∧_∧_);refine⟨⟨rfl,rfl⟩,?_,?_⟩<;>(with_reducible conv=>whnf)<;>repeat' (first|(with_reducible exact trivial)|(with_reducible refine And.intro ?_ ?_<;>with_reducible conv=>whnf))))
      refine uM.mk 0 (kp ks.length).length rfl (by(try simp only[ak]);omega) (by omega) ?_;((with_reducible conv=>whnf);(with_reducible conv=>congr<;>reduce);repeat((first|(with_reducible refine aY.mk ?_)|(with_reducible refine aZ.mk ?_));(with_reducible conv=>whnf);(with_reducible conv=>congr<;>reduce)))
      repeat' (first
    |(first
    |((with_reducible show aL _ _ _ _);first|refine aL.ff ?_|refine aL.tt ?_|refine aL.no (by first|rfl|assumption|exact nf (by assumption)|exact nt (by assumption)|((try simp only[ak]);first|(simp[];done)|(simp[];omega))) ?_|refine aL.yes (by first|rfl|assumption|exact nf (by assumption)|exact nt (by assumption)|((try simp only[ak]);first|(simp[];done)|(simp[];omega))) ?_)
    |((with_reducible show aP _ _ _ _);refine aP.mk (by(try simp only[ak]);omega) ?_)
    |((with_reducible show aH _ _ _ _);refine aH.mk (by kernel_rfl) (by kernel_rfl) (by kernel_rfl) ?_))<;>((with_reducible conv=>whnf);(with_reducible conv=>congr<;>reduce);repeat((first|(with_reducible refine aY.mk ?_)|(with_reducible refine aZ.mk ?_));(with_reducible conv=>whnf);(with_reducible conv=>congr<;>reduce)))
    | ((with_reducible show(_∧_)∧_∧_);refine⟨⟨rfl,rfl⟩,?_,?_⟩<;>(with_reducible conv=>whnf)<;>repeat' (first|(with_reducible exact trivial)|(with_reducible refine And.intro ?_ ?_<;>with_reducible conv=>whnf))))
      all_goals first
        |exact⟨.refl rfl,rfl⟩
        |exact⟨.refl (aO _),aO _⟩
        |(rw[hend];done)
        |(rw[←hend,show ks.length- (kp ks.length).length=gar.length by omega];exact⟨.refl (ae _),ae _⟩)
        |(show o3 _ ((j0 p ks++List.replicate (ks.length- (j0 p ks).length) 0).map bu) _;rw[←hend,show ks.length- (kp ks.length).length=gar.length by omega];exact⟨.refl (ae _),ae _⟩)
        |trace_state
end Go.Proofs.Heir
