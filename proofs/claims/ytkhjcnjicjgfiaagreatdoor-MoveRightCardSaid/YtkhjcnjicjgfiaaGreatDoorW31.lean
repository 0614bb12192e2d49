/- Models, plain laws and contracts of functions of the given program; conditions as stated in each theorem. By an AI agent. -/
import Derived.Test.YtkhjcnjicjgfiaaGreatDoorW16
import Derived.Test.YtkhjcnjicjgfiaaGreatDoorW19
import Derived.Test.YtkhjcnjicjgfiaaGreatDoorW20
import Derived.Test.YtkhjcnjicjgfiaaGreatDoorW24
import Derived.Test.YtkhjcnjicjgfiaaGreatDoorW30
import Derived.Test.YtkhjcnjicjgfiaaGreatDoorW14
set_option linter.unusedSimpArgs false
set_option linter.unusedVariables false
namespace Go.Proofs.Heir
open Go Go.Am Go.RowKit Go.Lib
set_option maxRecDepth 100000
set_option maxHeartbeats 8000000
set_option maxHeartbeats 8000000
theorem HP (f:ForM)(n:Int):aj Tryz.prog 138 [] [ah n,.fptr (aN f) 0] [] (bA (!af f.nodes n)):=by
  obtain⟨l,m⟩:=f
  have hlm:(l.map bM).length=l.length:=bP ..
  refine aj.aA (rvs:=[.tmp 3]) G ak Tryz.func138 rfl Tryz.ntmps138 rfl rfl ?_;with_reducible refine wD ?_
  repeat' (first
    |refine pK ?_
    | ((first
      |((with_reducible show aM _ _ _ _);(refine aM.mk (fun hp=>?_) (fun hp=>?_)<;>(try simp only[aq,aP,cj,Bool.not_eq_true',Bool.not_eq_false',Decidable.not_not,Int.not_lt,Int.not_le] at hp))))<;>with_reducible refine wK ?_)
    |((with_reducible show(_∧_)∧_∧_);(refine eK ?_ ?_<;>with_reducible repeat' (first|exact trivial|(show _∧_;refine aK ?_ ?_)))))
  ·unfold af;rw[bB (show ¬0≤n by omega)];rfl
  · unfold af;rw[bO hp,hlm,Bool.true_and,←decide_not]
    exact decide_eq_decide.2 Int.not_lt
theorem CE (l:List ai)(n:Int):(!decide (0≤fU (fun n=> !af l n) [n]))=af l n:=by
  unfold fU
  cases h:af l n<;>simp[List.findIdx?_cons,h]
theorem vO (l:List ai)(a b:Int):(!decide (0≤fU (fun n=> !af l n) [a,b]))=(af l a&&af l b):=by
  unfold fU
  cases h:af l a<;>cases k:af l b<;>simp[List.findIdx?_cons,h,k]
theorem Eg (f:ForM)(hs:bq f.nodes)(l:List Int)(hl:l.length≤100000):aj Tryz.prog 71 [] [aN f,bY l] [] (bA (bC f&& !decide (0≤fU (fun n=> !af f.nodes n) l))):=by
  have h17:=th f hs
  have h127:=CA 138 Mm [.fptr (aN f) 0] rfl (fun n=> !af f.nodes n) l hl (fun a _=>HP f a)
  obtain⟨ns,m⟩:=f
  simp only at h17 h127 ⊢
  refine aj.aA (rvs:=[.tmp 4]) G ak Tryz.func71 rfl Tryz.ntmps71 rfl rfl ?_;with_reducible refine wD ?_
  refine ae.lit [] h17 Jw ⟨⟨rfl,rfl,trivial⟩,trivial⟩ rfl rfl ?_;with_reducible refine wK ?_
  cases h0:bC ⟨ns,m⟩ with
  | false=>
    repeat' (first
    |refine gK ?_
    |((with_reducible show(_∧_)∧_∧_);(refine eK ?_ ?_<;>with_reducible repeat' (first|exact trivial|(show _∧_;refine aK ?_ ?_)))))
    all_goals rfl
  | true=>
    repeat' (first
    |refine gK ?_
    |((with_reducible show(_∧_)∧_∧_);(refine eK ?_ ?_<;>with_reducible repeat' (first|exact trivial|(show _∧_;refine aK ?_ ?_)))))
    refine ae.lit [20] h127 Lx ⟨rfl,⟨rfl,trivial,⟨_,_,_,_,_,rfl,rfl,rfl,rfl,rfl,⟨rfl,rfl,trivial⟩⟩,trivial⟩,trivial⟩ rfl rfl ?_;with_reducible refine wK ?_
    repeat' (first
    |refine gK ?_
    |((with_reducible show(_∧_)∧_∧_);(refine eK ?_ ?_<;>with_reducible repeat' (first|exact trivial|(show _∧_;refine aK ?_ ?_)))))
    all_goals rfl
theorem wV (f:ForM)(hs:bq f.nodes)(n:Int):aj Tryz.prog 71 [] [aN f,bY [n]] [] (bA (bC f&&af f.nodes n)):=by
  have:=Eg f hs [n] (by simp)
  rwa [CE] at this
theorem BQ (f:ForM)(hs:bq f.nodes)(a b:Int):aj Tryz.prog 71 [] [aN f,bY [a,b]] [] (bA (bC f&&(af f.nodes a&&af f.nodes b))):=by
  have:=Eg f hs [a,b] (by simp)
  rwa [vO] at this
theorem over_self {l:List ai}(T:U.Tree l){a:Int}(ha:af l a=true):a∈U.bT l a:=by
  obtain⟨r,hr⟩:=U.dV T ha
  rw[hr];exact gE
theorem xZ (f:ForM)(hs:bq f.nodes)(a b:Int)(hr:bC f=true)(ha:af f.nodes a=true)(hb:af f.nodes b=true):aj Tryz.prog 143 [] [aN f,ah a,ah b] [] (bA (fI f.nodes a b)):=by
  have h147:=wQ f hs [a,b] (by simp)
  rw[vO,hr,ha,hb] at h147
  have h149:=fun k x hx=>Cl f k x hx
  have T:=U.jz hr
  have ha0:=br ha
  obtain⟨l,m⟩:=f
  simp only at h147 h149 T ha hb ⊢
  refine aj.aA (rvs:=[.tmp 6]) G ak Tryz.func143 rfl Tryz.ntmps143 rfl rfl ?_;with_reducible refine wD ?_
  refine ae.lit [101] h147 G2 ⟨⟨rfl,rfl,trivial⟩,bX (l:=[a,b]) rfl rfl rfl rfl,trivial⟩ rfl rfl ?_;with_reducible refine wK ?_
  repeat' (first
    |refine gK ?_
    |((with_reducible show(_∧_)∧_∧_);(refine eK ?_ ?_<;>with_reducible repeat' (first|exact trivial|(show _∧_;refine aK ?_ ?_)))))
  refine bE.use G ak (fun(c:Int)=>[(1,ah a),(2,ah c),(3,.ptr 30 0 0)]) (fun c=>[(30,.live 2 [aN ⟨l,m⟩] false)])
    (fun c=>(c=-1∧fI l a b=false)∨(af l c=true∧fI l a b=decide (a∈U.bT l c))) (fun c=>if c=-1 then 0 else(U.bT l c).length+1) b (.inr ⟨hb,rfl⟩)
    (by refine⟨⟨rfl,rfl⟩,⟨rfl,rfl,⟨rfl,rfl⟩,trivial⟩,⟨⟨rfl,rfl,trivial⟩,trivial⟩,trivial⟩) ?_
  rintro c hc
  with_reducible refine wK ?_
  rcases hc with⟨rfl,hov⟩|⟨hc,hov⟩
  · rw[hov]
    have fa:((-1:Int)=a)=False:=eq_false (by omega)
    (have fct:=fa;(repeat' (first
    |refine gF ?_
    |((with_reducible show(_∧_)∧_∧_);(refine eK ?_ ?_<;>with_reducible repeat' (first|exact trivial|(show _∧_;refine aK ?_ ?_))))));all_goals clear fct)
    all_goals (first|rfl|(simp;omega)|trace_state)
  · obtain⟨i,y,rfl,hy,hny⟩:=aI.1 hc
    have h:=h149 i y hy
    have fi:((i:Int)=-1)=False:=eq_false (by omega)
    by_cases e:(i:Int)=a
    · have ft:=eq_true e
      have hin:a∈U.bT l (i:Int):=by rw[e];exact over_self T ha
      have hov':fI l a b=true:=by rw[hov];exact bO hin
      rw[hov']
      (have fct:=And.intro fi (ft);(repeat' (first
    |refine gF ?_
    | ((with_reducible show(_∧_)∧_∧_);(refine eK ?_ ?_<;>with_reducible repeat' (first|exact trivial|(show _∧_;refine aK ?_ ?_))))));all_goals clear fct)
      all_goals (first|rfl|(simp[e];done)|trace_state)
    · have ff:=eq_false e
      by_cases eu:cZ y=-1
      · rw[eu] at h
        have hw:=U.eR T hc (by rw[hny];exact eu)
        (have fct:=And.intro fi (ff);(repeat' (first
    |refine gF ?_
    |(((with_reducible show ae _ _ 149 _ _ _ _);refine ae.lit [] h GC ⟨⟨rfl,rfl,trivial⟩,rfl,trivial⟩ rfl rfl ?_)<;>with_reducible refine wK ?_)
    | ((with_reducible show(_∧_)∧_∧_);(refine eK ?_ ?_<;>with_reducible repeat' (first|exact trivial|(show _∧_;refine aK ?_ ?_))))));all_goals clear fct)
        refine aW.mk (-1) (.inl ⟨rfl,by rw[hov,hw];exact bB (by simp;omega)⟩) (by rw[if_pos rfl,if_neg (by omega)];omega) ⟨⟨rfl,rfl⟩,⟨rfl,rfl,⟨rfl,rfl⟩,trivial⟩,⟨⟨rfl,rfl,trivial⟩,trivial⟩,trivial⟩
      · have hu:=sW T _ hc (by rw[hny];exact eu)
        have hway:=U.cB T hc (by rw[hny];exact eu)
        rw[hny] at hu hway
        generalize cZ y=u at h eu hu hway
        (have fct:=And.intro fi (ff);(repeat' (first
    |refine gF ?_
    |(((with_reducible show ae _ _ 149 _ _ _ _);refine ae.lit [] h GC ⟨⟨rfl,rfl,trivial⟩,rfl,trivial⟩ rfl rfl ?_)<;>with_reducible refine wK ?_)
    | ((with_reducible show(_∧_)∧_∧_);(refine eK ?_ ?_<;>with_reducible repeat' (first|exact trivial|(show _∧_;refine aK ?_ ?_))))));all_goals clear fct)
        refine aW.mk u (.inr ⟨hu,by rw[hov,hway];exact decide_eq_decide.2 ⟨fun q=>(eB.1 q).resolve_left (fun r=>e r.symm),fun q=>fJ _ q⟩⟩) (by rw[if_neg eu,if_neg (by omega),hway];simp) ⟨⟨rfl,rfl⟩,⟨rfl,rfl,⟨rfl,rfl⟩,trivial⟩,⟨⟨rfl,rfl,trivial⟩,trivial⟩,trivial⟩
@[reducible] def Fx (l : List ai) (m p c g : Int) : AV := .agg [oU l, ah m, ah p, ah c, ah g]
theorem nZ (l:List ai)(m p c g:Int)(k:Nat)(x:ai)(hx:l[k]? =some x):aj Tryz.prog 142 [] [Fx l m p c g,ah k] [] (ah x.kind):=by
  obtain⟨a1,a2,a3,a4,a5,a6,a7,a8,a9,a10⟩:=x
  refine aj.aA (rvs:=[.tmp 4]) G ak Tryz.func142 rfl Tryz.ntmps142 rfl rfl ?_;with_reducible refine wD ?_
  repeat' (first
    |refine gK ?_
    |(((with_reducible show aH _ _ _ _ _);refine aH.mk k (aG _) rfl (az hx) ?_)<;>with_reducible refine wK ?_)
    |((with_reducible show(_∧_)∧_∧_);(refine eK ?_ ?_<;>with_reducible repeat' (first|exact trivial|(show _∧_;refine aK ?_ ?_)))))
  all_goals rfl
theorem DN (l:List ai)(g:Int)(cs:List Int)(kd c:Int){j:Nat}(h:cs[j]? =some c):c7 l g (cs.take (j+1)) kd=c7 l g (cs.take j) kd+ (if c≠g∧(nd l c).kind=kd then 1 else 0):=by
  unfold c7
  rw[List.take_add_one,h,List.countP_append]
  congr 1
  show List.countP _ [c]=_
  rw[List.countP_cons,List.countP_nil]
  by_cases h1:c=g<;>by_cases h2:(nd l c).kind=kd<;>simp[h1,h2]
theorem xy (l:List ai)(g:Int)(cs:List Int)(kd:Int):c7 l g cs kd≤cs.length:=List.countP_le_length
theorem xV (l:List ai)(m p c g:Int)(cs:List Int)(kd:Int)(hcs:∀c∈cs,af l c=true)(hlen:cs.length≤1000):aj Tryz.prog 191 [] [Fx l m p c g,bY cs,ah kd] [] (ah (c7 l g cs kd:Nat)):=by
  have h142:=fun k x hx=>nZ l m p c g k x hx
  have hli:(cs.map bJ).length=cs.length:=bP ..
  refine aj.aA (rvs:=[.tmp 6]) G ak Tryz.func191 rfl Tryz.ntmps191 rfl rfl ?_;with_reducible refine wD ?_
  repeat' (first
    |refine gK ?_
    |((with_reducible show(_∧_)∧_∧_);(refine eK ?_ ?_<;>with_reducible repeat' (first|exact trivial|(show _∧_;refine aK ?_ ?_)))))
  refine bE.use G ak (fun(j:Nat)=>[(2,ah kd),(3,.ptr 30 0 0),(7,ah (c7 l g (cs.take j) kd:Nat)),(10,bY cs),(11,ah cs.length),(12,ah j)]) (fun j=>[(30,.live 5 [Fx l m p c g] false)])
    (fun j=>j≤cs.length) (fun j=>cs.length-j) 0 (Nat.zero_le _) ?_ ?_
  · (refine fK ?_;(with_reducible repeat' (first|exact trivial|(show _∧_;refine aK ?_ ?_)));(all_goals try rfl))
    all_goals first|exact⟨rfl,rfl⟩|rfl|(simp[c7];done)|trace_state
  intro j hj
  with_reducible refine wK ?_
  refine aM.mk (fun h1=>?_) (fun h1=>?_)<;>(try simp only[aq] at h1)<;>with_reducible refine wK ?_
  · have hjl:j<cs.length:=by simp only[aP,aq] at h1;omega
    obtain⟨c0,hc⟩:∃c,cs[j]? =some c:=⟨_,bH hjl⟩
    obtain⟨i,y,rfl,hy,hny⟩:=aI.1 (hcs c0 (bV hc))
    have h:=h142 i y hy
    have hst:=DN l g cs kd (i:Int) hc
    rw[hny] at hst
    have hle:c7 l g (cs.take j) kd≤1000:=Nat.le_trans (xy l g (cs.take j) kd) (by rw[gd];omega)
    generalize c7 l g (cs.take j) kd=M at hst hle ⊢
    obtain⟨b1,b2,b3,b4,b5,b6,b7,b8,b9,b10⟩:=y
    refine aH.mk j (ah (i:Int)) rfl (ct hc) ?_;with_reducible refine wK ?_
    by_cases e1:(i:Int)=g
    · rw[if_neg (fun q=>q.1 e1)] at hst
      have fa:=eq_true e1
      (have fct:=fa;(repeat' (first
    |refine gF ?_
    |(((with_reducible show ae _ _ 142 _ _ _ _);refine ae.lit [] h wU ⟨⟨rfl,rfl,rfl,rfl,rfl,trivial⟩,rfl,trivial⟩ rfl rfl ?_)<;>with_reducible refine wK ?_)
    | ((with_reducible show(_∧_)∧_∧_);(refine eK ?_ ?_<;>with_reducible repeat' (first|exact trivial|(show _∧_;refine aK ?_ ?_))))));all_goals clear fct)
      refine aW.mk (j+1) (by omega) (by omega) ?_
      rw[hst]
      (refine fK ?_;(with_reducible repeat' (first|exact trivial|(show _∧_;refine aK ?_ ?_)));(all_goals try rfl))
      all_goals first|exact⟨rfl,rfl⟩|rfl|(show((j+1:Nat):Int)=(j:Int)+1;omega)|(simp;done)|trace_state
    · have fa:=eq_false e1
      by_cases e2:b1=kd
      · rw[if_pos ⟨e1,e2⟩] at hst
        have fb:=eq_true e2
        (have fct:=And.intro fa (fb);(repeat' (first
    |refine gF ?_
    |(((with_reducible show ae _ _ 142 _ _ _ _);refine ae.lit [] h wU ⟨⟨rfl,rfl,rfl,rfl,rfl,trivial⟩,rfl,trivial⟩ rfl rfl ?_)<;>with_reducible refine wK ?_)
    | ((with_reducible show(_∧_)∧_∧_);(refine eK ?_ ?_<;>with_reducible repeat' (first|exact trivial|(show _∧_;refine aK ?_ ?_))))));all_goals clear fct)
        refine aW.mk (j+1) (by omega) (by omega) ?_
        rw[hst]
        (refine fK ?_;(with_reducible repeat' (first|exact trivial|(show _∧_;refine aK ?_ ?_)));(all_goals try rfl))
        all_goals first|exact⟨rfl,rfl⟩|rfl|(show((j+1:Nat):Int)=(j:Int)+1;omega)|(show((M+1:Nat):Int)=(M:Int)+1;omega)|(simp;done)|trace_state
      · rw[if_neg (fun q=>e2 q.2)] at hst
        have fb:=eq_false e2
        (have fct:=And.intro fa (fb);(repeat' (first
    |refine gF ?_
    |(((with_reducible show ae _ _ 142 _ _ _ _);refine ae.lit [] h wU ⟨⟨rfl,rfl,rfl,rfl,rfl,trivial⟩,rfl,trivial⟩ rfl rfl ?_)<;>with_reducible refine wK ?_)
    | ((with_reducible show(_∧_)∧_∧_);(refine eK ?_ ?_<;>with_reducible repeat' (first|exact trivial|(show _∧_;refine aK ?_ ?_))))));all_goals clear fct)
        refine aW.mk (j+1) (by omega) (by omega) ?_
        rw[hst]
        (refine fK ?_;(with_reducible repeat' (first|exact trivial|(show _∧_;refine aK ?_ ?_)));(all_goals try rfl))
        all_goals first|exact⟨rfl,rfl⟩|rfl|(show((j+1:Nat):Int)=(j:Int)+1;omega)|(simp;done)|trace_state
  · have hjl:j=cs.length:=by simp only[cj,aq] at h1;omega
    subst hjl
    rw[List.take_length]
    repeat' (first
    |refine gK ?_
    |((with_reducible show(_∧_)∧_∧_);(refine eK ?_ ?_<;>with_reducible repeat' (first|exact trivial|(show _∧_;refine aK ?_ ?_)))))
    all_goals first|rfl|trace_state
theorem r9 (l:List ai)(m:Int)(p:Nat)(c g:Int)(cs:List Int)(y:ai)(hy:l[p]? =some y)(hcs:∀c∈cs,af l c=true)(hlen:cs.length≤1000)(hks:∀c∈y.kids,af l c=true)(hkl:y.kids.length≤1000):aj Tryz.prog 144 [] [Fx l m p c g,bY cs] [] (bA (dU l p g cs)):=by
  have ha:=xV l m p c g cs 2 hcs hlen
  have hb:=xV l m p c g cs 1 hcs hlen
  have hk:=xV l m p c g y.kids 1 hks hkl
  have l1:=xy l g cs 1
  have l2:=xy l g y.kids 1
  have hn:nd l (p:Int)=y:=cI hy
  unfold dU
  rw[hn]
  obtain⟨a1,a2,a3,a4,a5,a6,a7,a8,a9,a10⟩:=y
  simp only at hk hks hkl l2 ⊢
  generalize c7 l g cs 2=A at ha ⊢
  generalize c7 l g cs 1=B at hb l1 ⊢
  generalize c7 l g a7 1=C at hk l2 ⊢
  refine aj.aA (rvs:=[.tmp 4]) G ak Tryz.func144 rfl Tryz.ntmps144 rfl rfl ?_;with_reducible refine wD ?_
  repeat' (first
    |refine pK ?_
    | ((first
      |((with_reducible show aM _ _ _ _);(refine aM.mk (fun hp=>?_) (fun hp=>?_)<;>(try simp only[aq,aP,cj,Bool.not_eq_true',Bool.not_eq_false',Decidable.not_not,Int.not_lt,Int.not_le] at hp)))
      |((with_reducible show ae _ _ 191 _ _ _ _);first|refine ae.lit [] ha KQ ⟨⟨rfl,rfl,rfl,rfl,rfl,trivial⟩,rfl,rfl,trivial⟩ rfl rfl ?_|refine ae.lit [] hb KQ ⟨⟨rfl,rfl,rfl,rfl,rfl,trivial⟩,rfl,rfl,trivial⟩ rfl rfl ?_|refine ae.lit [] hk KQ ⟨⟨rfl,rfl,rfl,rfl,rfl,trivial⟩,rfl,rfl,trivial⟩ rfl rfl ?_)
      |((with_reducible show aH _ _ _ _ _);refine aH.mk p (aG _) rfl (az hy) ?_))<;>with_reducible refine wK ?_)
    |((with_reducible show(_∧_)∧_∧_);(refine eK ?_ ?_<;>with_reducible repeat' (first|exact trivial|(show _∧_;refine aK ?_ ?_)))))
  all_goals (first|(have hA:¬0<A:=(by omega);have hB:0<B:=(by omega);rw[bB hA,bO hB,Bool.false_or,Bool.true_and];exact(decide_eq_decide.2 (by omega):decide (1<B+C)=decide ((1:Int)< (B:Int)+ (C:Int))))|(simp;omega)|trace_state)
theorem Hj (l:List ai)(m:Int)(hs:bq l)(n:Int)(p:Nat)(c g:Int)(y:ai)(hy:l[p]? =some y)(hr:bC ⟨l,m⟩=true)(hn:af l n=true):aj Tryz.prog 150 [] [Fx l m p c g,ah n] [] (bA (k8 l n p)):=by
  have h142:=nZ l m p c g p y hy
  have h143:=xZ ⟨l,m⟩ hs n p hr hn (aI.2 ⟨p,y,rfl,hy,cI hy⟩)
  unfold k8
  rw[cI hy]
  obtain⟨a1,a2,a3,a4,a5,a6,a7,a8,a9,a10⟩:=y
  simp only at h142 h143 ⊢
  refine aj.aA (rvs:=[.tmp 4]) G ak Tryz.func150 rfl Tryz.ntmps150 rfl rfl ?_;with_reducible refine wD ?_
  by_cases e:a1=2
  · have fa:=eq_true e
    (have fct:=fa;(repeat' (first
    |refine gF ?_
    | ((first
      |((with_reducible show ae _ _ 142 _ _ _ _);refine ae.lit [] h142 wU ⟨⟨rfl,rfl,rfl,rfl,rfl,trivial⟩,rfl,trivial⟩ rfl rfl ?_)
      |((with_reducible show ae _ _ 143 _ _ _ _);refine ae.lit [] h143 Hs ⟨⟨rfl,rfl,trivial⟩,rfl,rfl,trivial⟩ rfl rfl ?_))<;>with_reducible refine wK ?_)
    |((with_reducible show(_∧_)∧_∧_);(refine eK ?_ ?_<;>with_reducible repeat' (first|exact trivial|(show _∧_;refine aK ?_ ?_))))));all_goals clear fct)
    all_goals (first|rfl|(simp[e];done)|trace_state)
  · have fa:=eq_false e
    (have fct:=fa;(repeat' (first
    |refine gF ?_
    | ((first
      |((with_reducible show ae _ _ 142 _ _ _ _);refine ae.lit [] h142 wU ⟨⟨rfl,rfl,rfl,rfl,rfl,trivial⟩,rfl,trivial⟩ rfl rfl ?_)
      |((with_reducible show ae _ _ 143 _ _ _ _);refine ae.lit [] h143 Hs ⟨⟨rfl,rfl,trivial⟩,rfl,rfl,trivial⟩ rfl rfl ?_))<;>with_reducible refine wK ?_)
    |((with_reducible show(_∧_)∧_∧_);(refine eK ?_ ?_<;>with_reducible repeat' (first|exact trivial|(show _∧_;refine aK ?_ ?_))))));all_goals clear fct)
    all_goals (first|rfl|(simp[e];done)|trace_state)
end Go.Proofs.Heir
namespace Go.Proofs.Heir
open Go Go.Am Go.RowKit Go.Lib
set_option maxRecDepth 100000
set_option maxHeartbeats 8000000
set_option maxHeartbeats 16000000
theorem EU (l:List ai)(m:Int)(hs:bq l)(n p:Nat)(g:Int)(x y:ai)(hx:l[n]? =some x)(hy:l[p]? =some y)(R:RF l m):aj Tryz.prog 76 [] [Fx l m p (-1) g,ah n] [] (ah (dI l p (-1) g n)):=by
  have tn:af l (n:Int)=true:=aI.2 ⟨n,x,rfl,hx,cI hx⟩
  have tp:af l (p:Int)=true:=aI.2 ⟨p,y,rfl,hy,cI hy⟩
  have ndx:=cI hx
  have ndy:=cI hy
  have h1:=nZ l m p (-1) g p y hy
  have h2:=nZ l m p (-1) g n x hx
  have ho:=xZ ⟨l,m⟩ hs n p (dB.2 R) tn tp
  have hky:∀c∈y.kids,af l c=true:=fun c hc=>(R.kid p tp c (by rw[ndy];exact hc)).1
  have hkx:∀c∈x.kids,af l c=true:=fun c hc=>(R.kid n tn c (by rw[ndx];exact hc)).1
  have lky:y.kids.length≤1000:=Nat.le_trans (hs.kids y (bV hy)) (by omega)
  have lkx:x.kids.length≤1000:=Nat.le_trans (hs.kids x (bV hx)) (by omega)
  have c1:=r9 l m p (-1) g x.kids y hy hkx lkx hky lky
  have c2:=r9 l m p (-1) g [(n:Int)] y hy (fun c hc=>by rw[je.1 hc];exact tn) (by simp) hky lky
  unfold dI
  rw[ndx,ndy]
  simp only at ho
  generalize fI l n p=O at ho ⊢
  generalize dU l p g x.kids=C1 at c1 ⊢
  generalize dU l p g [(n:Int)]=C2 at c2 ⊢
  obtain⟨b1,b2,b3,b4,b5,b6,b7,b8,b9,b10⟩:=x
  obtain⟨a1,a2,a3,a4,a5,a6,a7,a8,a9,a10⟩:=y
  simp only at h1 h2 c1 ⊢
  refine aj.aA (rvs:=[.tmp 4]) G ak Tryz.func76 rfl Tryz.ntmps76 rfl rfl ?_;with_reducible refine wD ?_
  repeat' (first
    |refine pK ?_
    | ((first
      |((with_reducible show aM _ _ _ _);(refine aM.mk (fun hp=>?_) (fun hp=>?_)<;>(try simp only[aq,aP,cj,Bool.not_eq_true',Bool.not_eq_false',Decidable.not_not,Int.not_lt,Int.not_le] at hp)))
      |((with_reducible show ae _ _ 142 _ _ _ _);first|refine ae.lit [] h1 wU ⟨⟨rfl,rfl,rfl,rfl,rfl,trivial⟩,rfl,trivial⟩ rfl rfl ?_|refine ae.lit [] h2 wU ⟨⟨rfl,rfl,rfl,rfl,rfl,trivial⟩,rfl,trivial⟩ rfl rfl ?_)
      |((with_reducible show ae _ _ 143 _ _ _ _);refine ae.lit [] ho Hs ⟨⟨rfl,rfl,trivial⟩,rfl,rfl,trivial⟩ rfl rfl ?_)
      |((with_reducible show ae _ _ 144 _ _ _ _);first|refine ae.lit [] c1 HX ⟨⟨rfl,rfl,rfl,rfl,rfl,trivial⟩,rfl,trivial⟩ rfl rfl ?_|refine ae.lit [771] c2 HX ⟨⟨rfl,rfl,rfl,rfl,rfl,trivial⟩,bX (l:=[(n:Int)]) rfl rfl rfl rfl,trivial⟩ rfl rfl ?_)
      |((with_reducible show aH _ _ _ _ _);refine aH.mk n (aG _) rfl (az hx) ?_))<;>with_reducible refine wK ?_)
    |((with_reducible show(_∧_)∧_∧_);(refine eK ?_ ?_<;>with_reducible repeat' (first|exact trivial|(show _∧_;refine aK ?_ ?_)))))
  all_goals (first|rfl|(simp_all[dS];done)|trace_state)
theorem Fl (l:List ai)(m:Int)(hs:bq l)(n p c:Nat)(g:Int)(x y z:ai)(hx:l[n]? =some x)(hy:l[p]? =some y)(hz:l[c]? =some z)(R:RF l m):aj Tryz.prog 76 [] [Fx l m p c g,ah n] [] (ah (dI l p c g n)):=by
  have tn:af l (n:Int)=true:=aI.2 ⟨n,x,rfl,hx,cI hx⟩
  have tp:af l (p:Int)=true:=aI.2 ⟨p,y,rfl,hy,cI hy⟩
  have ndx:=cI hx
  have ndy:=cI hy
  have ndz:=cI hz
  have h1:=nZ l m p c g p y hy
  have h2:=nZ l m p c g n x hx
  have ho:=xZ ⟨l,m⟩ hs n p (dB.2 R) tn tp
  have hky:∀c∈y.kids,af l c=true:=fun c hc=>(R.kid p tp c (by rw[ndy];exact hc)).1
  have hkx:∀c∈x.kids,af l c=true:=fun c hc=>(R.kid n tn c (by rw[ndx];exact hc)).1
  have lky:y.kids.length≤1000:=Nat.le_trans (hs.kids y (bV hy)) (by omega)
  have lkx:x.kids.length≤1000:=Nat.le_trans (hs.kids x (bV hx)) (by omega)
  have c1:=r9 l m p c g x.kids y hy hkx lkx hky lky
  have c2:=r9 l m p c g [(n:Int)] y hy (fun c hc=>by rw[je.1 hc];exact tn) (by simp) hky lky
  unfold dI
  rw[ndx,ndy,ndz]
  simp only at ho
  generalize fI l n p=O at ho ⊢
  generalize dU l p g x.kids=C1 at c1 ⊢
  generalize dU l p g [(n:Int)]=C2 at c2 ⊢
  obtain⟨b1,b2,b3,b4,b5,b6,b7,b8,b9,b10⟩:=x
  obtain⟨a1,a2,a3,a4,a5,a6,a7,a8,a9,a10⟩:=y
  obtain⟨e1,e2,e3,e4,e5,e6,e7,e8,e9,e10⟩:=z
  have fc:((c:Int)=-1)=False:=eq_false (by omega)
  simp only at h1 h2 c1 ⊢
  refine aj.aA (rvs:=[.tmp 4]) G ak Tryz.func76 rfl Tryz.ntmps76 rfl rfl ?_;with_reducible refine wD ?_
  (have fct:=fc;(repeat' (first
    |refine pF ?_
    | ((first
      |((with_reducible show aM _ _ _ _);(refine aM.mk (fun hp=>?_) (fun hp=>?_)<;>(try simp only[aq,aP,cj,Bool.not_eq_true',Bool.not_eq_false',Decidable.not_not,Int.not_lt,Int.not_le] at hp)))
      |((with_reducible show ae _ _ 142 _ _ _ _);first|refine ae.lit [] h1 wU ⟨⟨rfl,rfl,rfl,rfl,rfl,trivial⟩,rfl,trivial⟩ rfl rfl ?_|refine ae.lit [] h2 wU ⟨⟨rfl,rfl,rfl,rfl,rfl,trivial⟩,rfl,trivial⟩ rfl rfl ?_)
      |((with_reducible show ae _ _ 143 _ _ _ _);refine ae.lit [] ho Hs ⟨⟨rfl,rfl,trivial⟩,rfl,rfl,trivial⟩ rfl rfl ?_)
      |((with_reducible show ae _ _ 144 _ _ _ _);first|refine ae.lit [] c1 HX ⟨⟨rfl,rfl,rfl,rfl,rfl,trivial⟩,rfl,trivial⟩ rfl rfl ?_|refine ae.lit [771] c2 HX ⟨⟨rfl,rfl,rfl,rfl,rfl,trivial⟩,bX (l:=[(n:Int)]) rfl rfl rfl rfl,trivial⟩ rfl rfl ?_)
      |((with_reducible show aH _ _ _ _ _);first|refine aH.mk n (aG _) rfl (az hx) ?_|refine aH.mk c (aG _) rfl (az hz) ?_))<;>with_reducible refine wK ?_)
    |((with_reducible show(_∧_)∧_∧_);(refine eK ?_ ?_<;>with_reducible repeat' (first|exact trivial|(show _∧_;refine aK ?_ ?_))))));all_goals clear fct)
  all_goals (first|rfl|(simp_all[dS];done)|trace_state)
theorem Ef (l:List ai)(m:Int)(hs:bq l)(n p c g:Int)(hn:af l n=true)(hp:af l p=true)(hc:c=-1∨af l c=true)(R:RF l m):aj Tryz.prog 76 [] [Fx l m p c g,ah n] [] (ah (dI l p c g n)):=by
  obtain⟨a,x,rfl,hx,_⟩:=aI.1 hn
  obtain⟨b,y,rfl,hy,_⟩:=aI.1 hp
  rcases hc with rfl|hc
  ·exact EU l m hs a b g x y hx hy R
  · obtain⟨i,z,rfl,hz,_⟩:=aI.1 hc
    exact Fl l m hs a b i g x y z hx hy hz R
theorem Fm (f:ForM)(hs:bq f.nodes)(n p c:Int):aj Tryz.prog 30 [] [aN f,ah n,ah p,ah c] [] (ah (kV f n p c)):=by
  have h2:=BQ f hs n p
  have h1:=wV f hs c
  have h76:dh f n p c=true→aj Tryz.prog 76 [] [Fx f.nodes f.most p c (-1),ah n] [] (ah (dI f.nodes p c (-1) n)):=fun h=>by
    obtain⟨l,m⟩:=f
    unfold dh at h
    simp only[bg,dw,aP] at h
    exact Ef l m hs n p c (-1) h.1.2.1 h.1.2.2 h.2 (dB.1 h.1.1)
  obtain⟨l,m⟩:=f
  unfold kV
  unfold dh at h76 ⊢
  simp only at h2 h1 h76 ⊢
  cases e2:(bC ⟨l,m⟩&&(af l n&&af l p)) with
  | false=>
    rw[e2] at h2
    refine aj.aA (rvs:=[.tmp 8]) G ak Tryz.func30 rfl Tryz.ntmps30 rfl rfl ?_;with_reducible refine wD ?_
    refine ae.lit [121] h2 Aa ⟨⟨rfl,rfl,trivial⟩,bX (l:=[n,p]) rfl rfl rfl rfl,trivial⟩ rfl rfl ?_;with_reducible refine wK ?_
    repeat' (first
    |refine gK ?_
    |((with_reducible show(_∧_)∧_∧_);(refine eK ?_ ?_<;>with_reducible repeat' (first|exact trivial|(show _∧_;refine aK ?_ ?_)))))
    all_goals first|rfl|trace_state
  | true =>
    rw[e2] at h2 h76
    have er:bC ⟨l,m⟩=true:=(Bool.and_eq_true_iff.1 e2).1
    rw[er,Bool.true_and] at h1
    by_cases ec:c=-1
    · subst ec
      have h:=h76 rfl
      refine aj.aA (rvs:=[.tmp 8]) G ak Tryz.func30 rfl Tryz.ntmps30 rfl rfl ?_;with_reducible refine wD ?_
      refine ae.lit [121] h2 Aa ⟨⟨rfl,rfl,trivial⟩,bX (l:=[n,p]) rfl rfl rfl rfl,trivial⟩ rfl rfl ?_;with_reducible refine wK ?_
      repeat' (first
    |refine gK ?_
    |(((with_reducible show ae _ _ 76 _ _ _ _);refine ae.lit [] h KT ⟨⟨rfl,rfl,rfl,rfl,rfl,trivial⟩,rfl,trivial⟩ rfl rfl ?_)<;>with_reducible refine wK ?_)
    | ((with_reducible show(_∧_)∧_∧_);(refine eK ?_ ?_<;>with_reducible repeat' (first|exact trivial|(show _∧_;refine aK ?_ ?_)))))
      all_goals first|rfl|trace_state
    · have fc:=eq_false ec
      cases e1:af l c with
      | false=>
        rw[e1] at h1
        rw[bB ec]
        refine aj.aA (rvs:=[.tmp 8]) G ak Tryz.func30 rfl Tryz.ntmps30 rfl rfl ?_;with_reducible refine wD ?_
        refine ae.lit [121] h2 Aa ⟨⟨rfl,rfl,trivial⟩,bX (l:=[n,p]) rfl rfl rfl rfl,trivial⟩ rfl rfl ?_;with_reducible refine wK ?_
        (have fct:=fc;(repeat' (first
    |refine gF ?_
    |(((with_reducible show ae _ _ 71 _ _ _ _);refine ae.lit [211] h1 Aa ⟨⟨rfl,rfl,trivial⟩,bX (l:=[c]) rfl rfl rfl rfl,trivial⟩ rfl rfl ?_)<;>with_reducible refine wK ?_)
    | ((with_reducible show(_∧_)∧_∧_);(refine eK ?_ ?_<;>with_reducible repeat' (first|exact trivial|(show _∧_;refine aK ?_ ?_))))));all_goals clear fct)
        all_goals first|rfl|trace_state
      | true=>
        rw[e1] at h1
        have h:=h76 (by rw[e1];simp)
        rw[bB ec]
        refine aj.aA (rvs:=[.tmp 8]) G ak Tryz.func30 rfl Tryz.ntmps30 rfl rfl ?_;with_reducible refine wD ?_
        refine ae.lit [121] h2 Aa ⟨⟨rfl,rfl,trivial⟩,bX (l:=[n,p]) rfl rfl rfl rfl,trivial⟩ rfl rfl ?_;with_reducible refine wK ?_
        (have fct:=fc;(repeat' (first
    |refine gF ?_
    | ((first
      |((with_reducible show ae _ _ 71 _ _ _ _);refine ae.lit [211] h1 Aa ⟨⟨rfl,rfl,trivial⟩,bX (l:=[c]) rfl rfl rfl rfl,trivial⟩ rfl rfl ?_)
      |((with_reducible show ae _ _ 76 _ _ _ _);refine ae.lit [] h KT ⟨⟨rfl,rfl,rfl,rfl,rfl,trivial⟩,rfl,trivial⟩ rfl rfl ?_))<;>with_reducible refine wK ?_)
    | ((with_reducible show(_∧_)∧_∧_);(refine eK ?_ ?_<;>with_reducible repeat' (first|exact trivial|(show _∧_;refine aK ?_ ?_))))));all_goals clear fct)
        all_goals first|rfl|trace_state
theorem qp:∀ {cs:List Int} {b:Int} {i:Nat},cs[i]? =some b→(∀ (j:Nat) x,j<i→cs[j]? =some x→x≠b)→cu cs b=(cs[i+1]?).getD (-1)
  | a::r,b,0,h,_=>by
    cases h
    rw[wC,if_pos rfl,List.getElem?_cons_succ]
    cases r<;>rfl
  | a::r,b,i+1,h,hno=>by
    rw[List.getElem?_cons_succ] at h
    rw[wC,if_neg (hno 0 a (by omega) rfl),List.getElem?_cons_succ]
    exact qp h fun j x hj hx=>hno (j+1) x (by omega) (by rw[List.getElem?_cons_succ];exact hx)
theorem KM (f:ForM)(hs:bq f.nodes)(n p c:Int):aj Tryz.prog 28 [] [aN f,ah n,ah p,ah c] [] (ah (ej f n p c)):=by
  have h30:=Fm f hs n p c
  unfold ej
  by_cases e0:kV f n p c=0
  · rw [if_neg (fun q=>q e0)]
    by_cases ec:c=n
    · subst ec
      rw[if_neg (fun q=>q rfl)]
      rw[e0] at h30
      have ha:dh f c p c=true:=by
        cases h:dh f c p c with
        |true=>rfl
        |false=>unfold kV at e0;rw[h] at e0;simp at e0
      have ht:dI f.nodes p c (-1) c=0:=by unfold kV at e0;rw[if_pos ha] at e0;exact e0
      unfold dh at ha
      simp only[bg,dw,aP] at ha
      obtain⟨⟨hr,hn,hp⟩,_⟩:=ha
      have R:RF f.nodes f.most:=dB.1 hr
      have hc0:=br hn
      have hin:c∈ (nd f.nodes p).kids:=by
        refine(R.child hp hn).1 ?_
        unfold dI at ht
        by_cases e1:(!dS (nd f.nodes p).kind||fI f.nodes c p)=true
        ·rw[if_pos e1] at ht;omega
        rw[if_neg e1] at ht
        by_cases e2:c≠-1∧(nd f.nodes c).parent≠p
        ·rw[if_pos e2] at ht;omega
        ·exact Classical.byContradiction fun q=>e2 ⟨by omega,q⟩
      obtain⟨i,hi,hic,hno,_⟩:=j7 hin
      obtain⟨k,y,rfl,hy,hny⟩:=aI.1 hp
      rw[hny] at hi hic hno ⊢
      have hkl:y.kids.length≤60:=hs.kids y (bV hy)
      have h73:=qU y.kids (by omega) c
      rw[fo hic (bO rfl) fun j x hj hx=>bB (hno j x hj hx)] at h73
      rw[qp hic hno]
      obtain⟨l,m⟩:=f
      obtain⟨a1,a2,a3,a4,a5,a6,a7,a8,a9,a10⟩:=y
      simp only at h73 hi hic hy hkl ⊢
      have hla:(a7.map bJ).length=a7.length:=bP ..
      cases hx:a7[i+1]? with
      | none=>
        have hge:a7.length≤i+1:=List.getElem?_eq_none_iff.1 hx
        have fa:(((i:Int)+1< (a7.length:Int)))=False:=eq_false (by omega)
        refine aj.aA (rvs:=[.tmp 8]) G ak Tryz.func28 rfl Tryz.ntmps28 rfl rfl ?_;with_reducible refine wD ?_
        repeat' (first
    |refine pK ?_
    | ((first
      |((with_reducible show aM _ _ _ _);(refine aM.mk (fun hp=>?_) (fun hp=>?_)<;>(try simp only[aq,aP,cj,Bool.not_eq_true',Bool.not_eq_false',Decidable.not_not,Int.not_lt,Int.not_le] at hp)))
      |((with_reducible show ae _ _ 30 _ _ _ _);refine ae.lit [] h30 KY ⟨⟨rfl,rfl,trivial⟩,rfl,rfl,rfl,trivial⟩ rfl rfl ?_)
      |((with_reducible show ae _ _ 73 _ _ _ _);refine ae.lit [] h73 GQ ⟨rfl,rfl,trivial⟩ rfl rfl ?_)
      |((with_reducible show aH _ _ _ _ _);first|refine aH.mk k (aG _) rfl (az hy) ?_|(exfalso;omega)))<;>with_reducible refine wK ?_)
    | ((with_reducible show(_∧_)∧_∧_);(refine eK ?_ ?_<;>with_reducible repeat' (first|exact trivial|(show _∧_;refine aK ?_ ?_)))))
        all_goals first|rfl|exact absurd trivial hp|(exfalso;omega)|trace_state
      | some z=>
        have hlt:i+1<a7.length:=(aZ hx).1
        refine aj.aA (rvs:=[.tmp 8]) G ak Tryz.func28 rfl Tryz.ntmps28 rfl rfl ?_;with_reducible refine wD ?_
        repeat' (first
    |refine pK ?_
    | ((first
      |((with_reducible show aM _ _ _ _);(refine aM.mk (fun hp=>?_) (fun hp=>?_)<;>(try simp only[aq,aP,cj,Bool.not_eq_true',Bool.not_eq_false',Decidable.not_not,Int.not_lt,Int.not_le] at hp)))
      |((with_reducible show ae _ _ 30 _ _ _ _);refine ae.lit [] h30 KY ⟨⟨rfl,rfl,trivial⟩,rfl,rfl,rfl,trivial⟩ rfl rfl ?_)
      |((with_reducible show ae _ _ 73 _ _ _ _);refine ae.lit [] h73 GQ ⟨rfl,rfl,trivial⟩ rfl rfl ?_)
      |((with_reducible show aH _ _ _ _ _);first|refine aH.mk k (aG _) rfl (az hy) ?_|refine aH.mk (i+1) (ah z) (by first|rfl|(show((i:Int)+1)=((i+1:Nat):Int);omega)) (ct hx) ?_))<;>with_reducible refine wK ?_)
    | ((with_reducible show(_∧_)∧_∧_);(refine eK ?_ ?_<;>with_reducible repeat' (first|exact trivial|(show _∧_;refine aK ?_ ?_)))))
        all_goals first|rfl|exact absurd trivial hp|(exfalso;omega)|trace_state
    · rw[if_pos ec,]
      rw[e0] at h30
      have fc:=eq_false ec
      obtain⟨l,m⟩:=f
      refine aj.aA (rvs:=[.tmp 8]) G ak Tryz.func28 rfl Tryz.ntmps28 rfl rfl ?_;with_reducible refine wD ?_
      (have fct:=fc;(repeat' (first
    |refine gF ?_
    |(((with_reducible show ae _ _ 30 _ _ _ _);refine ae.lit [] h30 KY ⟨⟨rfl,rfl,trivial⟩,rfl,rfl,rfl,trivial⟩ rfl rfl ?_)<;>with_reducible refine wK ?_)
    | ((with_reducible show(_∧_)∧_∧_);(refine eK ?_ ?_<;>with_reducible repeat' (first|exact trivial|(show _∧_;refine aK ?_ ?_))))));all_goals clear fct)
      all_goals first|rfl|trace_state
  · rw[if_pos e0]
    have f0:=eq_false e0
    obtain⟨l,m⟩:=f
    refine aj.aA (rvs:=[.tmp 8]) G ak Tryz.func28 rfl Tryz.ntmps28 rfl rfl ?_;with_reducible refine wD ?_
    (have fct:=f0;(repeat' (first
    |refine gF ?_
    |(((with_reducible show ae _ _ 30 _ _ _ _);refine ae.lit [] h30 KY ⟨⟨rfl,rfl,trivial⟩,rfl,rfl,rfl,trivial⟩ rfl rfl ?_)<;>with_reducible refine wK ?_)
    |((with_reducible show(_∧_)∧_∧_);(refine eK ?_ ?_<;>with_reducible repeat' (first|exact trivial|(show _∧_;refine aK ?_ ?_))))));all_goals clear fct)
    all_goals first|rfl|trace_state
theorem AO (f:ForM)(hs:bq f.nodes)(n:Nat)(y:ai)(hy:f.nodes[n]? =some y)(hr:bC f=true):aj Tryz.prog 27 [] [aN f,ah n] [aF (cC f.nodes n)] (.own 0 0 (cC f.nodes n).length):=by
  have h1:=wV f hs n
  rw[hr,aI.2 ⟨n,y,rfl,hy,cI hy⟩] at h1
  have h72:=BO y.kids (by have:=hs.kids y (bV hy);omega)
  unfold cC
  rw[cI hy]
  obtain⟨l,m⟩:=f
  obtain⟨a1,a2,a3,a4,a5,a6,a7,a8,a9,a10⟩:=y
  simp only at h72 hy ⊢
  by_cases e:a1=3
  · rw [if_pos e]
    have fe:=eq_true e
    refine aj.aA (rvs:=[.tmp 4]) G ak Tryz.func27 rfl Tryz.ntmps27 rfl rfl ?_;with_reducible refine wD ?_
    refine ae.lit [81] h1 Aa ⟨⟨rfl,rfl,trivial⟩,bX (l:=[(n:Int)]) rfl rfl rfl rfl,trivial⟩ rfl rfl ?_;with_reducible refine wK ?_
    (have fct:=fe;(repeat' (first
    |refine gF ?_
    | ((first
      |((with_reducible show aH _ _ _ _ _);refine aH.mk n (aG _) rfl (az hy) ?_)
      |((with_reducible show ae _ _ 72 _ _ _ _);refine ae.new 251 [] h72 Gs ⟨rfl,trivial⟩ rfl rfl rfl (mR _) rfl ?_))<;>with_reducible refine wK ?_)
    |((with_reducible show(_∧_)∧_∧_);(refine eK ?_ ?_<;>with_reducible repeat' (first|exact trivial|(show _∧_;refine aK ?_ ?_))))));all_goals clear fct)
    all_goals first|rfl|exact cq (aa _)|exact cq (aa [(n:Int)])|exact aa [(n:Int)]|exact⟨.refl (aa _),aa _⟩|trace_state
  · rw[if_neg e]
    have fe:=eq_false e
    refine aj.aA (rvs:=[.tmp 4]) G ak Tryz.func27 rfl Tryz.ntmps27 rfl rfl ?_;with_reducible refine wD ?_
    refine ae.lit [81] h1 Aa ⟨⟨rfl,rfl,trivial⟩,bX (l:=[(n:Int)]) rfl rfl rfl rfl,trivial⟩ rfl rfl ?_;with_reducible refine wK ?_
    (have fct:=fe;(repeat' (first
    |refine gF ?_
    |(((with_reducible show aH _ _ _ _ _);refine aH.mk n (aG _) rfl (az hy) ?_)<;>with_reducible refine wK ?_)
    |((with_reducible show(_∧_)∧_∧_);(refine eK ?_ ?_<;>with_reducible repeat' (first|exact trivial|(show _∧_;refine aK ?_ ?_))))));all_goals clear fct)
    all_goals first|rfl|exact cq (aa _)|exact cq (aa [(n:Int)])|exact aa [(n:Int)]|exact⟨.refl (aa _),aa _⟩|trace_state
theorem Km (f:ForM)(hs:bq f.nodes)(n p c:Int):aj Tryz.prog 85 [] [aN f,ah n,ah p,ah c] [] (ah (iw f n p c)):=by
  have h2:=BQ f hs n p
  have h1:=wV f hs c
  have h76:dh f n p c=true→aj Tryz.prog 76 [] [Fx f.nodes f.most p c c,ah n] [] (ah (dI f.nodes p c c n)):=fun h=>by
    obtain⟨l,m⟩:=f
    unfold dh at h
    simp only[bg,dw,aP] at h
    exact Ef l m hs n p c c h.1.2.1 h.1.2.2 h.2 (dB.1 h.1.1)
  have h150:dh f n p c=true→aj Tryz.prog 150 [] [Fx f.nodes f.most p c c,ah n] [] (bA (k8 f.nodes n p)):=fun h=>by
    obtain⟨l,m⟩:=f
    unfold dh at h
    simp only[bg,dw,aP] at h
    obtain⟨k,y,rfl,hy,_⟩:=aI.1 h.1.2.2
    exact Hj l m hs n k c c y hy h.1.1 h.1.2.1
  obtain⟨l,m⟩:=f
  unfold iw
  unfold dh at h76 h150 ⊢
  simp only at h2 h1 h76 h150 ⊢
  generalize dI l p c c n=T at h76 ⊢
  generalize k8 l n p=Q at h150 ⊢
  cases e2:(bC ⟨l,m⟩&&(af l n&&af l p)) with
  | false=>
    rw[e2] at h2
    refine aj.aA (rvs:=[.tmp 8]) G ak Tryz.func85 rfl Tryz.ntmps85 rfl rfl ?_;with_reducible refine wD ?_
    refine ae.lit [141] h2 Aa ⟨⟨rfl,rfl,trivial⟩,bX (l:=[n,p]) rfl rfl rfl rfl,trivial⟩ rfl rfl ?_;with_reducible refine wK ?_
    repeat' (first
    |refine gK ?_
    |((with_reducible show(_∧_)∧_∧_);(refine eK ?_ ?_<;>with_reducible repeat' (first|exact trivial|(show _∧_;refine aK ?_ ?_)))))
    all_goals first|rfl|trace_state
  | true =>
    rw[e2] at h2 h76 h150
    have er:bC ⟨l,m⟩=true:=(Bool.and_eq_true_iff.1 e2).1
    rw[er,Bool.true_and] at h1
    by_cases ec:c=-1
    · subst ec
      have h:=h76 rfl
      have h5:=h150 rfl
      by_cases eT:T=0
      · have fT:=eq_true eT
        refine aj.aA (rvs:=[.tmp 8]) G ak Tryz.func85 rfl Tryz.ntmps85 rfl rfl ?_;with_reducible refine wD ?_
        refine ae.lit [141] h2 Aa ⟨⟨rfl,rfl,trivial⟩,bX (l:=[n,p]) rfl rfl rfl rfl,trivial⟩ rfl rfl ?_;with_reducible refine wK ?_
        (have fct:=fT;(repeat' (first
    |refine gF ?_
    |(((with_reducible show ae _ _ 76 _ _ _ _);refine ae.lit [] h KT ⟨⟨rfl,rfl,rfl,rfl,rfl,trivial⟩,rfl,trivial⟩ rfl rfl ?_)<;>with_reducible refine wK ?_)
    | ((with_reducible show(_∧_)∧_∧_);(refine eK ?_ ?_<;>with_reducible repeat' (first|exact trivial|(show _∧_;refine aK ?_ ?_))))));all_goals clear fct)
        all_goals first|rfl|(simp[eT];done)|trace_state
      · have fT:=eq_false eT
        cases Q
        · refine aj.aA (rvs:=[.tmp 8]) G ak Tryz.func85 rfl Tryz.ntmps85 rfl rfl ?_;with_reducible refine wD ?_
          refine ae.lit [141] h2 Aa ⟨⟨rfl,rfl,trivial⟩,bX (l:=[n,p]) rfl rfl rfl rfl,trivial⟩ rfl rfl ?_;with_reducible refine wK ?_
          (have fct:=fT;(repeat' (first
    |refine gF ?_
    | ((first
      |((with_reducible show ae _ _ 76 _ _ _ _);refine ae.lit [] h KT ⟨⟨rfl,rfl,rfl,rfl,rfl,trivial⟩,rfl,trivial⟩ rfl rfl ?_)
      |((with_reducible show ae _ _ 150 _ _ _ _);refine ae.lit [] h5 LL ⟨⟨rfl,rfl,rfl,rfl,rfl,trivial⟩,rfl,trivial⟩ rfl rfl ?_))<;>with_reducible refine wK ?_)
    | ((with_reducible show(_∧_)∧_∧_);(refine eK ?_ ?_<;>with_reducible repeat' (first|exact trivial|(show _∧_;refine aK ?_ ?_))))));all_goals clear fct)
          all_goals first|rfl|(simp[eT];done)|trace_state
        · refine aj.aA (rvs:=[.tmp 8]) G ak Tryz.func85 rfl Tryz.ntmps85 rfl rfl ?_;with_reducible refine wD ?_
          refine ae.lit [141] h2 Aa ⟨⟨rfl,rfl,trivial⟩,bX (l:=[n,p]) rfl rfl rfl rfl,trivial⟩ rfl rfl ?_;with_reducible refine wK ?_
          (have fct:=fT;(repeat' (first
    |refine gF ?_
    | ((first
      |((with_reducible show ae _ _ 76 _ _ _ _);refine ae.lit [] h KT ⟨⟨rfl,rfl,rfl,rfl,rfl,trivial⟩,rfl,trivial⟩ rfl rfl ?_)
      |((with_reducible show ae _ _ 150 _ _ _ _);refine ae.lit [] h5 LL ⟨⟨rfl,rfl,rfl,rfl,rfl,trivial⟩,rfl,trivial⟩ rfl rfl ?_))<;>with_reducible refine wK ?_)
    |((with_reducible show(_∧_)∧_∧_);(refine eK ?_ ?_<;>with_reducible repeat' (first|exact trivial|(show _∧_;refine aK ?_ ?_))))));all_goals clear fct)
          all_goals first|rfl|(simp[eT];done)|trace_state
    · have fc:=eq_false ec
      cases e1:af l c with
      | false=>
        rw[e1] at h1
        rw[bB ec]
        refine aj.aA (rvs:=[.tmp 8]) G ak Tryz.func85 rfl Tryz.ntmps85 rfl rfl ?_;with_reducible refine wD ?_
        refine ae.lit [141] h2 Aa ⟨⟨rfl,rfl,trivial⟩,bX (l:=[n,p]) rfl rfl rfl rfl,trivial⟩ rfl rfl ?_;with_reducible refine wK ?_
        (have fct:=fc;(repeat' (first
    |refine gF ?_
    |(((with_reducible show ae _ _ 71 _ _ _ _);refine ae.lit [231] h1 Aa ⟨⟨rfl,rfl,trivial⟩,bX (l:=[c]) rfl rfl rfl rfl,trivial⟩ rfl rfl ?_)<;>with_reducible refine wK ?_)
    | ((with_reducible show(_∧_)∧_∧_);(refine eK ?_ ?_<;>with_reducible repeat' (first|exact trivial|(show _∧_;refine aK ?_ ?_))))));all_goals clear fct)
        all_goals first|rfl|trace_state
      | true=>
        rw[e1] at h1
        have h:=h76 (by rw[e1];simp)
        rw[bB ec]
        refine aj.aA (rvs:=[.tmp 8]) G ak Tryz.func85 rfl Tryz.ntmps85 rfl rfl ?_;with_reducible refine wD ?_
        refine ae.lit [141] h2 Aa ⟨⟨rfl,rfl,trivial⟩,bX (l:=[n,p]) rfl rfl rfl rfl,trivial⟩ rfl rfl ?_;with_reducible refine wK ?_
        (have fct:=fc;(repeat' (first
    |refine gF ?_
    | ((first
      |((with_reducible show ae _ _ 71 _ _ _ _);refine ae.lit [231] h1 Aa ⟨⟨rfl,rfl,trivial⟩,bX (l:=[c]) rfl rfl rfl rfl,trivial⟩ rfl rfl ?_)
      |((with_reducible show ae _ _ 76 _ _ _ _);refine ae.lit [] h KT ⟨⟨rfl,rfl,rfl,rfl,rfl,trivial⟩,rfl,trivial⟩ rfl rfl ?_))<;>with_reducible refine wK ?_)
    | ((with_reducible show(_∧_)∧_∧_);(refine eK ?_ ?_<;>with_reducible repeat' (first|exact trivial|(show _∧_;refine aK ?_ ?_))))));all_goals clear fct)
        all_goals first|rfl|trace_state
end Go.Proofs.Heir
section
namespace Go.Proofs.Heir
open Go Go.Am Go.RowKit Go.Lib
set_option maxRecDepth 100000
set_option maxHeartbeats 8000000
set_option maxHeartbeats 8000000
variable {l l' : List ai} {m : Int}
theorem Cn {k:Nat}{y:ai}(hy:l[k]? =some y)(f:ForM)(hf:f=⟨l,m⟩):aj Tryz.prog 158 [] [aN f,ah k] [] (bY (cC l k)):=by
  subst hf
  unfold cC
  rw[cI hy]
  obtain⟨y1,y2,y3,y4,y5,y6,y7,y8,y9,y10⟩:=y
  by_cases e:y1=3
  · subst e
    refine aj.aA (rvs:=[.tmp 4]) G ak Tryz.func158 rfl Tryz.ntmps158 rfl rfl ?_;with_reducible refine wD ?_
    repeat' (first
    |refine gK ?_
    |(((with_reducible show aH _ _ _ _ _);refine aH.mk k (aG _) rfl (az hy) ?_)<;>with_reducible refine wK ?_)
    |((with_reducible show(_∧_)∧_∧_);(refine eK ?_ ?_<;>with_reducible repeat' (first|exact trivial|(show _∧_;refine aK ?_ ?_)))))
    all_goals first|rfl|trace_state
  · rw[if_neg e]
    have fe:=eq_false e
    refine aj.aA (rvs:=[.tmp 4]) G ak Tryz.func158 rfl Tryz.ntmps158 rfl rfl ?_;with_reducible refine wD ?_
    (have fct:=fe;(repeat' (first
    |refine gF ?_
    |(((with_reducible show aH _ _ _ _ _);refine aH.mk k (aG _) rfl (az hy) ?_)<;>with_reducible refine wK ?_)
    |((with_reducible show(_∧_)∧_∧_);(refine eK ?_ ?_<;>with_reducible repeat' (first|exact trivial|(show _∧_;refine aK ?_ ?_))))));all_goals clear fct)
    all_goals first|rfl|exact bX (l:=[(k:Int)]) rfl rfl rfl rfl|trace_state
theorem G0 (l:List Int)(hl:l.length≤100000)(n:Int):aj Tryz.prog 160 [] [bY l,ah n] [] (ah (fU (fun x=>decide (x=n)) l)):=by
  have hlm:(l.map bJ).length=l.length:=bP ..
  refine aj.aA (rvs:=[.tmp 4]) G ak Tryz.func160 rfl Tryz.ntmps160 rfl rfl ?_;with_reducible refine wD ?_
  refine bE.use G ak (fun(k:Nat)=>[(0,bY l),(1,ah n),(5,ah k)]) (fun _=>[]) (fun k=>k≤l.length∧∀j x,j<k→l[j]? =some x→decide (x=n)=false) (fun k=>l.length-k) 0 ⟨Nat.zero_le _,fun j x h=>by omega⟩ ?_ ?_
  · (refine fK ?_;(with_reducible repeat' (first|exact trivial|(show _∧_;refine aK ?_ ?_)));(all_goals try rfl))
    all_goals first|rfl|trace_state
  rintro k ⟨hk,hno⟩
  with_reducible refine wK ?_
  refine aM.mk (fun h1=>?_) (fun h1=>?_)<;>(try simp only[aq] at h1)<;>with_reducible refine wK ?_
  · have hk':k<l.length:=by simp only[aP] at h1;omega
    obtain⟨a,ha⟩:∃a,l[k]? =some a:=⟨_,bH hk'⟩
    by_cases e:a=n
    · rw[fo (p:=fun x=>decide (x=n)) ha (bO e) hno]
      have fe:=eq_true e
      (have fct:=fe;(repeat' (first
    |refine gF ?_
    |(((with_reducible show aH _ _ _ _ _);refine aH.mk k (ah a) rfl (ct ha) ?_)<;>with_reducible refine wK ?_)
    | ((with_reducible show(_∧_)∧_∧_);(refine eK ?_ ?_<;>with_reducible repeat' (first|exact trivial|(show _∧_;refine aK ?_ ?_))))));all_goals clear fct)
      all_goals first|rfl|trace_state
    · have fe:=eq_false e
      (have fct:=fe;(repeat' (first
    |refine gF ?_
    |(((with_reducible show aH _ _ _ _ _);refine aH.mk k (ah a) rfl (ct ha) ?_)<;>with_reducible refine wK ?_)
    | ((with_reducible show(_∧_)∧_∧_);(refine eK ?_ ?_<;>with_reducible repeat' (first|exact trivial|(show _∧_;refine aK ?_ ?_))))));all_goals clear fct)
      refine aW.mk (k+1) ⟨by omega,fun j x hj hx=>?_⟩ (by omega) ?_
      · rcases Nat.lt_or_ge j k with h3|h3
        ·exact hno j x h3 hx
        · have:j=k:=by omega
          subst this
          rw[ha] at hx;cases hx
          exact bB e
      · (refine fK ?_;(with_reducible repeat' (first|exact trivial|(show _∧_;refine aK ?_ ?_)));(all_goals try rfl))
        all_goals first|rfl|trace_state
  · rw[gx (p:=fun x=>decide (x=n)) fun j x hx=>hno j x (by have:=(aZ hx).1;simp only[cj] at h1;omega) hx]
    repeat' (first
    |refine gK ?_
    |((with_reducible show(_∧_)∧_∧_);(refine eK ?_ ?_<;>with_reducible repeat' (first|exact trivial|(show _∧_;refine aK ?_ ?_)))))
    all_goals first|rfl|trace_state
theorem As (hs:bq l){k:Nat}{y:ai}(hy:l[k]? =some y)(c:Int)(f:ForM)(hf:f=⟨l,m⟩):aj Tryz.prog 92 [] [aN f,ah k,ah c] [] (ah (cu y.kids c)):=by
  subst hf
  have hkl:y.kids.length≤60:=hs.kids y (bV hy)
  have h160:=G0 y.kids (by omega) c
  obtain⟨y1,y2,y3,y4,y5,y6,y7,y8,y9,y10⟩:=y
  simp only at*
  have hym:(y7.map bJ).length=y7.length:=bP ..
  by_cases hmem:c∈y7
  · obtain⟨i,hi,hib,hno,_⟩:=j7 hmem
    rw[wM hib hno] at h160
    rw[qp hib hno]
    have f0:=eq_false (show ¬ (i:Int)<0 by omega)
    cases h:y7[i+1]? with
    | none=>
      have:=List.getElem?_eq_none_iff.1 h
      have f1:=eq_true (show(y7.length:Int)≤ (i:Int)+1 by omega)
      refine aj.aA (rvs:=[.tmp 6]) G ak Tryz.func92 rfl Tryz.ntmps92 rfl rfl ?_;with_reducible refine wD ?_
      (have fct:=And.intro hym (And.intro f0 (f1));(repeat' (first
    |refine gF ?_
    | ((first
      |((with_reducible show aH _ _ _ _ _);refine aH.mk k (aG _) rfl (az hy) ?_)
      |((with_reducible show ae _ _ 160 _ _ _ _);refine ae.lit [] h160 KB ⟨rfl,rfl,trivial⟩ rfl rfl ?_)
      |((with_reducible show aB _ _ _ _);refine dK ?_))<;>with_reducible refine wK ?_)
    | ((with_reducible show(_∧_)∧_∧_);(refine eK ?_ ?_<;>with_reducible repeat' (first|exact trivial|(show _∧_;refine aK ?_ ?_))))));all_goals clear fct)
      all_goals first|rfl|trace_state
    | some z=>
      have:=(aZ h).1
      have f1:=eq_false (show ¬ (y7.length:Int)≤ (i:Int)+1 by omega)
      refine aj.aA (rvs:=[.tmp 6]) G ak Tryz.func92 rfl Tryz.ntmps92 rfl rfl ?_;with_reducible refine wD ?_
      (have fct:=And.intro hym (And.intro f0 (f1));(repeat' (first
    |refine gF ?_
    | ((first
      |((with_reducible show aH _ _ _ _ _);first|refine aH.mk k (aG _) rfl (az hy) ?_|refine aH.mk (i+1) (ah z) (by first|rfl|(show((i:Int)+1)=((i+1:Nat):Int);omega)) (ct h) ?_)
      |((with_reducible show ae _ _ 160 _ _ _ _);refine ae.lit [] h160 KB ⟨rfl,rfl,trivial⟩ rfl rfl ?_)
      |((with_reducible show aB _ _ _ _);refine dK ?_))<;>with_reducible refine wK ?_)
    | ((with_reducible show(_∧_)∧_∧_);(refine eK ?_ ?_<;>with_reducible repeat' (first|exact trivial|(show _∧_;refine aK ?_ ?_))))));all_goals clear fct)
      all_goals first|rfl|trace_state
  · rw [zw hmem]
    rw[gx (p:=fun x=>decide (x=c)) fun j x hx=>bB fun e=>hmem (e▸bV hx)] at h160
    refine aj.aA (rvs:=[.tmp 6]) G ak Tryz.func92 rfl Tryz.ntmps92 rfl rfl ?_;with_reducible refine wD ?_
    (have fct:=hym;(repeat' (first
    |refine gF ?_
    | ((first
      |((with_reducible show aH _ _ _ _ _);refine aH.mk k (aG _) rfl (az hy) ?_)
      |((with_reducible show ae _ _ 160 _ _ _ _);refine ae.lit [] h160 KB ⟨rfl,rfl,trivial⟩ rfl rfl ?_)
      |((with_reducible show aB _ _ _ _);refine dK ?_))<;>with_reducible refine wK ?_)
    |((with_reducible show(_∧_)∧_∧_);(refine eK ?_ ?_<;>with_reducible repeat' (first|exact trivial|(show _∧_;refine aK ?_ ?_))))));all_goals clear fct)
    all_goals first|rfl|trace_state
theorem Dx {g:Int}{cs:List Int}{kd:Int}{j:Nat}{c:Int}(h:cs[j]? =some c):c7 l g (cs.take (j+1)) kd=c7 l g (cs.take j) kd+if c≠g∧(nd l c).kind=kd then 1 else 0:=by
  unfold c7
  rw[List.take_add_one,h,List.countP_append]
  congr 1
  show List.countP _ [c]=_
  rw[List.countP_cons,List.countP_nil,Nat.zero_add]
  by_cases e1:c=g
  ·rw[if_neg (by simp[e1]),if_neg (fun q=>q.1 e1)]
  · by_cases e2:(nd l c).kind=kd
    ·rw[if_pos (by simp[e1,e2]),if_pos ⟨e1,e2⟩]
    ·rw[if_neg (by simp[e2]),if_neg (fun q=>e2 q.2)]
theorem BG (f:ForM)(cs:List Int)(hcs:∀c∈cs,af f.nodes c=true)(hlen:cs.length≤1000)(kd g:Int):aj Tryz.prog 159 [] [aN f,bY cs,ah kd,ah g] [] (ah (c7 f.nodes g cs kd:Nat)):=by
  obtain⟨l,m⟩:=f
  simp only at*
  have hcm:(cs.map bJ).length=cs.length:=bP ..
  refine aj.aA (rvs:=[.tmp 8]) G ak Tryz.func159 rfl Tryz.ntmps159 rfl rfl ?_;with_reducible refine wD ?_
  refine bE.use G ak (fun(j:Nat)=>[(1,bY cs),(2,ah kd),(3,ah g),(4,.ptr 40 0 0),(9,ah (c7 l g (cs.take j) kd:Nat)),(10,ah j)]) (fun _=>[(40,.live 2 [aN ⟨l,m⟩] false)]) (fun j=>j≤cs.length) (fun j=>cs.length-j) 0 (Nat.zero_le _) ?_ ?_
  · (refine fK ?_;(with_reducible repeat' (first|exact trivial|(show _∧_;refine aK ?_ ?_)));(all_goals try rfl))
    all_goals first|rfl|exact⟨rfl,rfl⟩|trace_state
  intro j hj
  have hml:c7 l g (cs.take j) kd≤cs.length:=Nat.le_trans List.countP_le_length (by rw[gd];omega)
  with_reducible refine wK ?_
  refine aM.mk (fun h1=>?_) (fun h1=>?_)<;>(try simp only[aq] at h1)<;>with_reducible refine wK ?_
  · have hjl:j<cs.length:=by simp only[aP,aq] at h1;omega
    obtain⟨c,hc⟩:∃c,cs[j]? =some c:=⟨_,bH hjl⟩
    obtain⟨i,y,rfl,hy,hyn⟩:=aI.1 (hcs c (bV hc))
    have hst:=Dx (l:=l) (g:=g) (kd:=kd) hc
    rw[hyn] at hst
    obtain⟨y1,y2,y3,y4,y5,y6,y7,y8,y9,y10⟩:=y
    simp only at hst
    generalize c7 l g (cs.take j) kd=M at*
    by_cases e1:(i:Int)=g
    · rw[if_neg (fun q=>q.1 e1),Nat.add_zero] at hst
      have fa:=eq_true e1
      (have fct:=fa;(repeat' (first
    |refine gF ?_
    |(((with_reducible show aH _ _ _ _ _);refine aH.mk j (ah (i:Int)) rfl (ct hc) ?_)<;>with_reducible refine wK ?_)
    | ((with_reducible show(_∧_)∧_∧_);(refine eK ?_ ?_<;>with_reducible repeat' (first|exact trivial|(show _∧_;refine aK ?_ ?_))))));all_goals clear fct)
      refine aW.mk (j+1) (by omega) (by omega) ?_
      rw[hst]
      (refine fK ?_;(with_reducible repeat' (first|exact trivial|(show _∧_;refine aK ?_ ?_)));(all_goals try rfl))
      all_goals first|exact⟨rfl,rfl⟩|rfl|trace_state
    · have fa:=eq_false e1
      by_cases e2:y1=kd
      · rw[if_pos ⟨e1,e2⟩] at hst
        have fb:=eq_true e2
        (have fct:=And.intro fa (fb);(repeat' (first
    |refine gF ?_
    |(((with_reducible show aH _ _ _ _ _);first|refine aH.mk j (ah (i:Int)) rfl (ct hc) ?_|refine aH.mk i (aG _) rfl (az hy) ?_)<;>with_reducible refine wK ?_)
    | ((with_reducible show(_∧_)∧_∧_);(refine eK ?_ ?_<;>with_reducible repeat' (first|exact trivial|(show _∧_;refine aK ?_ ?_))))));all_goals clear fct)
        refine aW.mk (j+1) (by omega) (by omega) ?_
        rw[hst]
        (refine fK ?_;(with_reducible repeat' (first|exact trivial|(show _∧_;refine aK ?_ ?_)));(all_goals try rfl))
        all_goals first|exact⟨rfl,rfl⟩|rfl|trace_state
      · rw[if_neg (fun q=>e2 q.2),Nat.add_zero] at hst
        have fb:=eq_false e2
        (have fct:=And.intro fa (fb);(repeat' (first
    |refine gF ?_
    |(((with_reducible show aH _ _ _ _ _);first|refine aH.mk j (ah (i:Int)) rfl (ct hc) ?_|refine aH.mk i (aG _) rfl (az hy) ?_)<;>with_reducible refine wK ?_)
    | ((with_reducible show(_∧_)∧_∧_);(refine eK ?_ ?_<;>with_reducible repeat' (first|exact trivial|(show _∧_;refine aK ?_ ?_))))));all_goals clear fct)
        refine aW.mk (j+1) (by omega) (by omega) ?_
        rw[hst]
        (refine fK ?_;(with_reducible repeat' (first|exact trivial|(show _∧_;refine aK ?_ ?_)));(all_goals try rfl))
        all_goals first|exact⟨rfl,rfl⟩|rfl|trace_state
  · obtain rfl:j=cs.length:=by simp only[cj,aq] at h1;omega
    rw[List.take_length]
    repeat' (first
    |refine gK ?_
    |((with_reducible show(_∧_)∧_∧_);(refine eK ?_ ?_<;>with_reducible repeat' (first|exact trivial|(show _∧_;refine aK ?_ ?_)))))
    all_goals first|rfl|trace_state
theorem Iq (R:RF l m)(h60:l.length≤60){n p:Int}(hn:af l n=true)(hp:af l p=true)(f:ForM)(hf:f=⟨l,m⟩):aj Tryz.prog 157 [] [aN f,ah n,ah p] [] (bA (fI l n p)):=by
  subst hf
  obtain⟨k,y,rfl,hy,_⟩:=aI.1 hn
  have h197:=xG ⟨l,m⟩ (cD R h60) R.tree l.length k y hy (U.lC R.tree hn)
  have hol:=U.jx R.tree l.length hn
  have h31:=An (U.bQ l l.length k) (by omega) p
  have ho:fI l k p=decide (0< (((U.bQ l l.length k).count p:Nat):Int)):=by
    unfold fI
    rw[decide_eq_decide,←U.kF R.tree hn hp]
    rw[←List.count_pos_iff]
    omega
  rw[ho]
  simp only at h197
  generalize U.bQ l l.length k=o at*
  refine aj.aA (rvs:=[.tmp 6]) G ak Tryz.func157 rfl Tryz.ntmps157 rfl rfl ?_;with_reducible refine wD ?_
  repeat' (first
    |refine gK ?_
    | ((first
      |((with_reducible show ae _ _ 197 _ _ _ _);refine ae.val [] h197 Gd ⟨⟨rfl,rfl,trivial⟩,rfl,trivial⟩ rfl rfl rfl ?_)
      |((with_reducible show ae _ _ 31 _ _ _ _);refine ae.lit [] h31 Ku ⟨rfl,rfl,trivial⟩ rfl rfl ?_)
      |((with_reducible show aB _ _ _ _);refine dK ?_))<;>with_reducible refine wK ?_)
    |((with_reducible show(_∧_)∧_∧_);(refine eK ?_ ?_<;>with_reducible repeat' (first|exact trivial|(show _∧_;refine aK ?_ ?_)))))
  all_goals first|rfl|trace_state
end Go.Proofs.Heir
end
