/- Models, plain laws and contracts of functions of the given program; conditions as stated in each theorem. By an AI agent. -/
import Derived.Test.YtkhjcnjicjgfiaaGreatDoorWN26
import Derived.Test.YtkhjcnjicjgfiaaGreatDoorWN24
import Derived.Test.YtkhjcnjicjgfiaaGreatDoorWN27
import Derived.Test.YtkhjcnjicjgfiaaGreatDoorWN15
import Derived.Test.YtkhjcnjicjgfiaaGreatDoorWN22
import Derived.Test.YtkhjcnjicjgfiaaGreatDoorWN16
import Derived.Test.YtkhjcnjicjgfiaaGreatDoorWN23
import Derived.Test.YtkhjcnjicjgfiaaGreatDoorWN17
import Derived.Test.YtkhjcnjicjgfiaaGreatDoorWN13
set_option linter.unusedSimpArgs false
set_option linter.unusedVariables false
namespace Go.Proofs.Heir
open Go Go.Am Go.RowKit Go.Lib
set_option maxRecDepth 100000
set_option maxHeartbeats 8000000
theorem CN (l:List Int):jL [jW l]:=⟨bG.ja fun r hr=>by
  obtain⟨a,_,rfl⟩:=List.mem_map.1 hr
  rfl,aa l,trivial⟩
def zl (f:ForM)(n:Int):List Int:=jI (fun c=> !decide ((nd f.nodes c).kind=1)) (lX f n)
def Lx (f:ForM)(n:Int):List Int:=List.replicate ((lX f n).length- (zl f n).length) 0
theorem Bi (f:ForM)(hs:bw f.nodes)(n:Int)(e0:(bt f&&ae f.nodes n)=true)(hl:(lX f n).length≤100000):ak Tryz.prog 34 [] [aM f,ah n] [.live 1 ((zl f n++Lx f n).map bU) false] (.own 0 0 (zl f n).length):=by
  have h82:=Cg f hs n e0
  have h81:=HY (f:=f) (p:=fun c=> !decide ((nd f.nodes c).kind=1)) hl fun a ha=>Jb f a (tg a ha)
  unfold Lx
  rw[show jI (fun c=> !decide ((nd f.nodes c).kind=1)) (lX f n)=zl f n from rfl] at h81
  generalize lX f n=al at h82 h81 ⊢
  generalize zl f n=el at h81 ⊢
  obtain⟨l,m⟩:=f
  refine ak.aD (rvs:=[.tmp 4]) G au Tryz.func34 rfl Tryz.ntmps34 rfl rfl ?_;with_reducible refine wD ?_
  repeat' (first
    |refine gK ?_
    | ((first
      |((with_reducible show af _ _ 82 _ _ _ _);refine af.new 71 [] h82 Mh ⟨⟨rfl,rfl,trivial⟩,rfl,trivial⟩ rfl rfl rfl (CN _) rfl ?_)
      |((with_reducible show af _ _ 81 _ _ _ _);refine af.c7 (news:=[lG ⟨l,m⟩,jW (el++List.replicate (al.length-el.length) 0)]) [20,71] [] h81 MG ⟨⟨rfl,rfl⟩,⟨rfl,trivial,⟨rfl,rfl⟩,trivial⟩,trivial⟩ ⟨⟨rfl,.inl ⟨rfl,rfl⟩⟩,⟨rfl,.inl ⟨rfl,aa _⟩⟩,trivial⟩ rfl ⟨⟨rfl,rfl⟩,rfl⟩ rfl ⟨⟨rfl,.inl ⟨rfl,rfl⟩⟩,⟨rfl,.inl ⟨rfl,aa _⟩⟩,trivial⟩ rfl rfl ?_)
      |((with_reducible show aI _ _ _ _);refine dK ?_))<;>with_reducible refine wK ?_)
    |((with_reducible show(_∧_)∧_∧_);(refine eK ?_ ?_<;>with_reducible repeat' (first|exact trivial|(show _∧_;refine aK ?_ ?_)))))
  all_goals first
    |rfl
    |exact EJ rfl
    |exact⟨.refl (aa _),aa _⟩
    |trace_state
@[reducible] def Gf : ByteArray := ⟨#[111, 117, 116]⟩
theorem xg (l:List ai)(m:Int)(hs:bw l)(k:Nat)(y:ai)(hy:l[k]? =some y)(hp:y.parent=-1):
    ak Tryz.prog 78 [aL m l.length 1 fH,cu l] [.ptr 0 0 0,.fptr (ah k) 0] [aL m l.length 1 fH,cu l] (.lit (gI Gf 6)):=by
  have hkl:k<l.length:=(aY hy).1
  have hlm:(l.map bF).length=l.length:=bW ..
  have h60:=jV Gf 6 (by decide)
  obtain⟨y1,y2,y3,y4,y5,y6,y7,y8,y9,y10⟩:=y
  simp only at hp
  have hp':=eq_true hp
  refine ak.eA [] (rvs:=[.tmp 3]) G au Tryz.func78 rfl Tryz.ntmps78 rfl rfl ?_;with_reducible refine wD ?_
  (have fct:=And.intro hlm (hp');(repeat' (first
    |refine gF ?_
    | ((first
      |((with_reducible show ee _ _ _ _ _);refine ee.mk k rfl hkl ?_)
      |((with_reducible show aT _ _ _ _ _);refine aT.mk (aP ⟨y1,y2,y3,y4,y5,y6,y7,y8,y9,y10⟩) (by first|exact aB hy|(rw[Nat.zero_add];exact aB hy)) ?_)
      |((with_reducible show af _ _ 60 _ _ _ _);refine af.lit [] h60 FR ⟨rfl,rfl,trivial⟩ rfl rfl ?_)
      |((with_reducible show aI _ _ _ _);refine dK ?_))<;>with_reducible refine wK ?_)
    |((with_reducible show(_∧_)∧_∧_);(refine eK ?_ ?_<;>with_reducible repeat' (first|exact trivial|(show _∧_;refine aK ?_ ?_))))));all_goals clear fct)
  all_goals first
    |rfl
    |exact⟨.refl rfl,rfl⟩
    |exact(.inl rfl:mY _)
    |exact⟨.refl (aF _),aF _⟩
    |trace_state
theorem yX (f:ForM)(hs:bw f.nodes)(hr:bt f=true)(k:Nat)(y:ai)(hy:f.nodes[k]? =some y)(hp:y.parent=-1):ak Tryz.prog 32 [] [aM f,ah k] [] (.tup [aM f,lE [],ah 6]):=by
  have h77:=nQ f hs k (by rw[hr,iz hy];rfl)
  have h56:=s9 f hs 78 Mq [.fptr (ah k) 0] rfl Gf 6 (xg f.nodes f.most hs k y hy hp)
  obtain⟨l,m⟩:=f
  have hn:=eL ⟨l,m⟩ [] 6
  refine ak.aD (rvs:=[.cell 4 24,.tmp 5,.tmp 6]) G au Tryz.func32 rfl Tryz.ntmps32 rfl rfl ?_;with_reducible refine wD ?_
  repeat' (first
    |refine gK ?_
    | ((first
      |((with_reducible show af _ _ 77 _ _ _ _);refine af.lit [] h77 Ka ⟨⟨rfl,rfl,trivial⟩,rfl,trivial⟩ rfl rfl ?_)
      |((with_reducible show af _ _ 56 _ _ _ _);refine af.val [30] h56 D3 ⟨⟨rfl,rfl,trivial⟩,⟨rfl,rfl⟩,⟨rfl,trivial,⟨_,_,_,_,_,rfl,rfl,rfl,rfl,rfl,rfl⟩,trivial⟩,trivial⟩ rfl rfl hn ?_)
      |((with_reducible show aI _ _ _ _);refine dK ?_))<;>with_reducible refine wK ?_)
    |((with_reducible show(_∧_)∧_∧_);(refine eK ?_ ?_<;>with_reducible repeat' (first|exact trivial|(show _∧_;refine aK ?_ ?_)))))
  all_goals first|rfl|trace_state
theorem zu {l:List ai}{m:Int}{a b:Nat}{ka kb k2:List Int}{y:ai}{told:List aJ}{l':List ai}(hL:l.length≤1000)(hy:l[b]? =some y)(hp:y.parent≠-1)(hlen:l'.length=l.length)
    (h79:ak Tryz.prog 79 [aL m l.length 4 (.own 3 0 0),aA ka,aA kb,aN [],aQ l a 1 b 2] [.ptr 0 0 0,ah b]
      [aL m l.length 4 (.own 6 0 told.length),.dead,aA kb,.dead,aQ l' a 5 b 2,aA k2,aN told] (.tup [])) (hab:b≠a):
    ak Tryz.prog 78 [aL m l.length 4 (.own 3 0 0),aA ka,aA kb,aN [],aQ l a 1 b 2] [.ptr 0 0 0,.fptr (ah b) 0]
      [aL m l.length 4 (.own 6 0 told.length),.dead,aA kb,.dead,aQ l' a 5 b 2,aA k2,aN told] eF:=by
  have hbl:=(aY hy).1
  have g2:(aO l a 1 b 2)[b]? =some (dW y 2):=uD hy hab
  have hlr:(aO l a 1 b 2).length=l.length:=bM
  obtain⟨y1,y2,y3,y4,y5,y6,y7,y8,y9,y10⟩:=y
  simp only at hp
  have hp':=eq_false hp
  refine ak.eA [(5,151),(6,163)] (rvs:=[.tmp 3]) G au Tryz.func78 rfl Tryz.ntmps78 rfl rfl ?_;with_reducible refine wD ?_
  (have fct:=hp';(repeat' (first
    |refine gF ?_
    | ((first
      |((with_reducible show ee _ _ _ _ _);refine ee.mk b rfl (by first|exact hbl|(simp;omega)) ?_)
      |((with_reducible show aT _ _ _ _ _);refine aT.mk _ (by first|exact g2|(rw[Nat.zero_add];exact g2)) ?_)
      |((with_reducible show af _ _ 79 _ _ _ _);refine af.c7 (news:=[aL m l.length 4 (.own 163 0 told.length),.dead,aA kb,.dead,aQ l' a 151 b 2,aA k2,aN told]) [0,1,2,3,4,151,163] [] h79 J9 ⟨⟨rfl,rfl⟩,rfl,trivial⟩ ⟨⟨rfl,.inr ⟨⟨⟨⟨rfl,rfl⟩,rfl,⟨rfl,rfl⟩,trivial⟩,trivial⟩,rfl⟩⟩,⟨rfl,.inl ⟨rfl,aa _⟩⟩,⟨rfl,.inl ⟨rfl,aa _⟩⟩,⟨rfl,.inl ⟨rfl,aj _⟩⟩,⟨rfl,bI (fun _=>rfl) (fun _=>rfl)⟩,trivial⟩ rfl ⟨⟨rfl,rfl⟩,rfl⟩ rfl ⟨⟨rfl,.inr ⟨rfl,rfl,rfl⟩⟩,⟨rfl,.inl ⟨rfl,aa _⟩⟩,⟨rfl,bB rfl rfl (by decide) (by decide)⟩,⟨rfl,.inl ⟨rfl,aa _⟩⟩,⟨rfl,.inl ⟨rfl,aj _⟩⟩,trivial⟩ rfl rfl ?_)
      |((with_reducible show aI _ _ _ _);refine dK ?_))<;>with_reducible refine wK ?_)
    |((with_reducible show(_∧_)∧_∧_);(refine eK ?_ ?_<;>with_reducible repeat' (first|exact trivial|(show _∧_;refine aK ?_ ?_))))));all_goals clear fct)
  all_goals first
    |rfl
    |exact⟨.refl (aa _),aa _⟩
    |exact⟨.refl (aj _),aj _⟩
    |exact bu (fun _=>rfl) (fun _=>rfl)
    |trace_state
theorem J2 (f:ForM)(hs:bw f.nodes){a b:Nat}{ya yb:ai}(hab:a≠b)(ha:f.nodes[a]? =some ya)(hb:f.nodes[b]? =some yb)(g:Nat)(cg:aq Tryz.prog g)(caps:List AV)(hcaps:br caps=true)(l':List ai)(k2:List Int)(told:List aJ)(hl:l'.length=f.nodes.length)
    (hka:∀y,l'[a]? =some y→y.kids=k2) (hkb:∀y,l'[b]? =some y→y.kids=yb.kids)
    (hg:ak Tryz.prog g [aL f.most f.nodes.length 4 (.own 3 0 0),aA ya.kids,aA yb.kids,aN [],aQ f.nodes a 1 b 2] (.ptr 0 0 0::caps)
      [aL f.most f.nodes.length 4 (.own 6 0 told.length),.dead,aA yb.kids,.dead,aQ l' a 5 b 2,aA k2,aN told] eF):
    ak Tryz.prog 56 [] [aM f,eF,.clo (.func g) [] caps] [] (.tup [aM ⟨l',f.most⟩,lE told,ah 0]):=by
  have h121:=IA f hs hab ha hb
  have hlm:(l'.map bF).length=f.nodes.length:=by rw[bW,hl]
  obtain⟨l,m⟩:=f
  simp only at*
  refine ak.aD (rvs:=[.cell 6 24,.tmp 7,.tmp 8]) G au Tryz.func56 rfl Tryz.ntmps56 rfl rfl ?_;with_reducible refine wD ?_
  repeat' (first
    |refine gK ?_
    | ((first
      |((with_reducible show af _ _ 121 _ _ _ _);refine af.c7 (news:=[aL m l.length 114 (.own 113 0 0),aA ya.kids,aA yb.kids,.live 9 [] false,aQ l a 111 b 112]) [110,111,112,113,114] [] h121 DA ⟨⟨rfl,rfl,trivial⟩,trivial⟩ trivial rfl ⟨⟨rfl,rfl⟩,rfl⟩ rfl ⟨⟨rfl,.inr ⟨rfl,rfl,rfl⟩⟩,⟨rfl,.inl ⟨rfl,aa _⟩⟩,⟨rfl,.inl ⟨rfl,aa _⟩⟩,⟨rfl,.inl ⟨rfl,rfl⟩⟩,⟨rfl,bB rfl rfl (by decide) (by decide)⟩,trivial⟩ rfl rfl ?_)
      |((with_reducible show aW _ _ _ _ _);first|refine aW.lu true Tryz.underlying98 rfl rfl rfl rfl rfl ?_|refine aW.kS false Tryz.underlying98 rfl rfl rfl rfl rfl ?_)
      |((with_reducible show af _ _ _ _ _ _ _);refine af.c7 (news:=[aL m l.length 114 (.own 163 0 told.length),.dead,aA yb.kids,.dead,aQ l' a 161 b 112,aA k2,aN told]) [110,111,112,113,114,161,163] [] hg cg ⟨⟨rfl,rfl⟩,bP hcaps⟩ ⟨⟨rfl,.inr ⟨⟨⟨⟨rfl,rfl⟩,rfl,⟨rfl,rfl⟩,trivial⟩,trivial⟩,rfl⟩⟩,⟨rfl,.inl ⟨rfl,aa _⟩⟩,⟨rfl,.inl ⟨rfl,aa _⟩⟩,⟨rfl,.inl ⟨rfl,rfl⟩⟩,⟨rfl,bI (fun _=>rfl) (fun _=>rfl)⟩,trivial⟩ rfl ⟨⟨rfl,rfl⟩,rfl⟩ rfl ⟨⟨rfl,.inr ⟨rfl,rfl,rfl⟩⟩,⟨rfl,.inl ⟨rfl,aa _⟩⟩,⟨rfl,bB rfl rfl (by decide) (by decide)⟩,⟨rfl,.inl ⟨rfl,aa _⟩⟩,⟨rfl,.inl ⟨rfl,aj _⟩⟩,trivial⟩ rfl rfl ?_)
      |((with_reducible show aI _ _ _ _);refine dK ?_))<;>with_reducible refine wK ?_)
    |((with_reducible show(_∧_)∧_∧_);(refine eK ?_ ?_<;>with_reducible repeat' (first|exact trivial|(show _∧_;refine aK ?_ ?_)))))
  all_goals first
    |rfl
    |exact jh rfl rfl rfl (by simp) (aj _)
    |exact(by rw[←hl];exact sY (ra:=false) (rb:=false) (ea:=[]) (eb:=[]) rfl rfl (fun y hy=>by rw[List.append_nil,hka y hy];exact⟨rfl,rfl⟩) (fun y hy=>by rw[List.append_nil,hkb y hy];exact⟨rfl,rfl⟩))
    |trace_state
end Go.Proofs.Heir
namespace Go.Proofs.Heir
open Go Go.Am Go.RowKit Go.Lib
set_option maxRecDepth 100000
set_option maxHeartbeats 8000000
set_option maxHeartbeats 8000000
theorem Gn (f:ForM)(n:Int):ak Tryz.prog 138 [] [ah n,.fptr (aM f) 0] [] (bC (!ae f.nodes n)):=by
  obtain⟨l,m⟩:=f
  have hlm:(l.map bF).length=l.length:=bW ..
  refine ak.aD (rvs:=[.tmp 3]) G au Tryz.func138 rfl Tryz.ntmps138 rfl rfl ?_;with_reducible refine wD ?_
  repeat' (first
    |refine pK ?_
    | ((first
      |((with_reducible show aX _ _ _ _);(refine aX.mk (fun hp=>?_) (fun hp=>?_)<;>(try simp only[ay,bH,cR,Bool.not_eq_true',Bool.not_eq_false',Decidable.not_not,Int.not_lt,Int.not_le] at hp))))<;>with_reducible refine wK ?_)
    |((with_reducible show(_∧_)∧_∧_);(refine eK ?_ ?_<;>with_reducible repeat' (first|exact trivial|(show _∧_;refine aK ?_ ?_)))))
  ·unfold ae;rw[dx (show ¬0≤n by omega)];rfl
  · unfold ae;rw[dJ hp,hlm,Bool.true_and,←decide_not]
    exact decide_eq_decide.2 Int.not_lt
theorem Dq (l:List ai)(n:Int):(!decide (0≤fU (fun n=> !ae l n) [n]))=ae l n:=by
  unfold fU
  cases h:ae l n<;>simp[List.findIdx?_cons,h]
theorem vl (l:List ai)(a b:Int):(!decide (0≤fU (fun n=> !ae l n) [a,b]))=(ae l a&&ae l b):=by
  unfold fU
  cases h:ae l a<;>cases k:ae l b<;>simp[List.findIdx?_cons,h,k]
theorem D8 (f:ForM)(hs:bw f.nodes)(l:List Int)(hl:l.length≤100000):ak Tryz.prog 71 [] [aM f,cN l] [] (bC (bt f&& !decide (0≤fU (fun n=> !ae f.nodes n) l))):=by
  have h17:=oy f hs
  have h127:=BM 138 LZ [.fptr (aM f) 0] rfl (fun n=> !ae f.nodes n) l hl (fun a _=>Gn f a)
  obtain⟨ns,m⟩:=f
  simp only at h17 h127 ⊢
  refine ak.aD (rvs:=[.tmp 4]) G au Tryz.func71 rfl Tryz.ntmps71 rfl rfl ?_;with_reducible refine wD ?_
  refine af.lit [] h17 Em ⟨⟨rfl,rfl,trivial⟩,trivial⟩ rfl rfl ?_;with_reducible refine wK ?_
  cases h0:bt ⟨ns,m⟩ with
  | false=>
    repeat' (first
    |refine gK ?_
    |((with_reducible show(_∧_)∧_∧_);(refine eK ?_ ?_<;>with_reducible repeat' (first|exact trivial|(show _∧_;refine aK ?_ ?_)))))
    all_goals rfl
  | true=>
    repeat' (first
    |refine gK ?_
    |((with_reducible show(_∧_)∧_∧_);(refine eK ?_ ?_<;>with_reducible repeat' (first|exact trivial|(show _∧_;refine aK ?_ ?_)))))
    refine af.lit [20] h127 KD ⟨rfl,⟨rfl,trivial,⟨_,_,_,_,_,rfl,rfl,rfl,rfl,rfl,⟨rfl,rfl,trivial⟩⟩,trivial⟩,trivial⟩ rfl rfl ?_;with_reducible refine wK ?_
    repeat' (first
    |refine gK ?_
    |((with_reducible show(_∧_)∧_∧_);(refine eK ?_ ?_<;>with_reducible repeat' (first|exact trivial|(show _∧_;refine aK ?_ ?_)))))
    all_goals rfl
theorem xw (f:ForM)(hs:bw f.nodes)(n:Int):ak Tryz.prog 71 [] [aM f,cN [n]] [] (bC (bt f&&ae f.nodes n)):=by
  have:=D8 f hs [n] (by simp)
  rwa [Dq] at this
theorem Cc (f:ForM)(hs:bw f.nodes)(a b:Int):ak Tryz.prog 71 [] [aM f,cN [a,b]] [] (bC (bt f&&(ae f.nodes a&&ae f.nodes b))):=by
  have:=D8 f hs [a,b] (by simp)
  rwa [vl] at this
theorem over_self {l:List ai}(T:U.Tree l){a:Int}(ha:ae l a=true):a∈U.bf l a:=by
  obtain⟨r,hr⟩:=U.dI T ha
  rw[hr];exact gj
theorem wu (f:ForM)(hs:bw f.nodes)(a b:Int)(hr:bt f=true)(ha:ae f.nodes a=true)(hb:ae f.nodes b=true):ak Tryz.prog 143 [] [aM f,ah a,ah b] [] (bC (iP f.nodes a b)):=by
  have h147:=wN f hs [a,b] (by simp)
  rw[vl,hr,ha,hb] at h147
  have h149:=fun k x hx=>Cj f k x hx
  have T:=U.jv hr
  have ha0:=bj ha
  obtain⟨l,m⟩:=f
  simp only at h147 h149 T ha hb ⊢
  refine ak.aD (rvs:=[.tmp 6]) G au Tryz.func143 rfl Tryz.ntmps143 rfl rfl ?_;with_reducible refine wD ?_
  refine af.lit [101] h147 HH ⟨⟨rfl,rfl,trivial⟩,cq (l:=[a,b]) rfl rfl rfl rfl,trivial⟩ rfl rfl ?_;with_reducible refine wK ?_
  repeat' (first
    |refine gK ?_
    |((with_reducible show(_∧_)∧_∧_);(refine eK ?_ ?_<;>with_reducible repeat' (first|exact trivial|(show _∧_;refine aK ?_ ?_)))))
  refine bX.use G au (fun(c:Int)=>[(1,ah a),(2,ah c),(3,.ptr 30 0 0)]) (fun c=>[(30,.live 2 [aM ⟨l,m⟩] false)])
    (fun c=>(c=-1∧iP l a b=false)∨(ae l c=true∧iP l a b=decide (a∈U.bf l c))) (fun c=>if c=-1 then 0 else(U.bf l c).length+1) b (.inr ⟨hb,rfl⟩)
    (by refine⟨⟨rfl,rfl⟩,⟨rfl,rfl,⟨rfl,rfl⟩,trivial⟩,⟨⟨rfl,rfl,trivial⟩,trivial⟩,trivial⟩) ?_
  rintro c hc
  with_reducible refine wK ?_
  rcases hc with⟨rfl,hov⟩|⟨hc,hov⟩
  · rw[hov]
    have fa:((-1:Int)=a)=False:=eq_false (by omega)
    (have fct:=fa;(repeat' (first
    |refine gF ?_
    |((with_reducible show(_∧_)∧_∧_);(refine eK ?_ ?_<;>with_reducible repeat' (first|exact trivial|(show _∧_;refine aK ?_ ?_))))));all_goals clear fct)
    all_goals (first|rfl|(simp;omega)|trace_state)
  · obtain⟨i,y,rfl,hy,hny⟩:=aU.1 hc
    have h:=h149 i y hy
    have fi:((i:Int)=-1)=False:=eq_false (by omega)
    by_cases e:(i:Int)=a
    · have ft:=eq_true e
      have hin:a∈U.bf l (i:Int):=by rw[e];exact over_self T ha
      have hov':iP l a b=true:=by rw[hov];exact dJ hin
      rw[hov']
      (have fct:=And.intro fi (ft);(repeat' (first
    |refine gF ?_
    | ((with_reducible show(_∧_)∧_∧_);(refine eK ?_ ?_<;>with_reducible repeat' (first|exact trivial|(show _∧_;refine aK ?_ ?_))))));all_goals clear fct)
      all_goals (first|rfl|(simp[e];done)|trace_state)
    · have ff:=eq_false e
      by_cases eu:cP y=-1
      · rw[eu] at h
        have hw:=U.dL T hc (by rw[hny];exact eu)
        (have fct:=And.intro fi (ff);(repeat' (first
    |refine gF ?_
    |(((with_reducible show af _ _ 149 _ _ _ _);refine af.lit [] h G8 ⟨⟨rfl,rfl,trivial⟩,rfl,trivial⟩ rfl rfl ?_)<;>with_reducible refine wK ?_)
    | ((with_reducible show(_∧_)∧_∧_);(refine eK ?_ ?_<;>with_reducible repeat' (first|exact trivial|(show _∧_;refine aK ?_ ?_))))));all_goals clear fct)
        refine bR.mk (-1) (.inl ⟨rfl,by rw[hov,hw];exact dx (by simp;omega)⟩) (by rw[if_pos rfl,if_neg (by omega)];omega) ⟨⟨rfl,rfl⟩,⟨rfl,rfl,⟨rfl,rfl⟩,trivial⟩,⟨⟨rfl,rfl,trivial⟩,trivial⟩,trivial⟩
      · have hu:=tr T _ hc (by rw[hny];exact eu)
        have hway:=U.bQ T hc (by rw[hny];exact eu)
        rw[hny] at hu hway
        generalize cP y=u at h eu hu hway
        (have fct:=And.intro fi (ff);(repeat' (first
    |refine gF ?_
    |(((with_reducible show af _ _ 149 _ _ _ _);refine af.lit [] h G8 ⟨⟨rfl,rfl,trivial⟩,rfl,trivial⟩ rfl rfl ?_)<;>with_reducible refine wK ?_)
    | ((with_reducible show(_∧_)∧_∧_);(refine eK ?_ ?_<;>with_reducible repeat' (first|exact trivial|(show _∧_;refine aK ?_ ?_))))));all_goals clear fct)
        refine bR.mk u (.inr ⟨hu,by rw[hov,hway];exact decide_eq_decide.2 ⟨fun q=>(dU.1 q).resolve_left (fun r=>e r.symm),fun q=>eP _ q⟩⟩) (by rw[if_neg eu,if_neg (by omega),hway];simp) ⟨⟨rfl,rfl⟩,⟨rfl,rfl,⟨rfl,rfl⟩,trivial⟩,⟨⟨rfl,rfl,trivial⟩,trivial⟩,trivial⟩
@[reducible] def Eu (l : List ai) (m p c g : Int) : AV := .agg [qD l, ah m, ah p, ah c, ah g]
theorem nV (l:List ai)(m p c g:Int)(k:Nat)(x:ai)(hx:l[k]? =some x):ak Tryz.prog 142 [] [Eu l m p c g,ah k] [] (ah x.kind):=by
  obtain⟨a1,a2,a3,a4,a5,a6,a7,a8,a9,a10⟩:=x
  refine ak.aD (rvs:=[.tmp 4]) G au Tryz.func142 rfl Tryz.ntmps142 rfl rfl ?_;with_reducible refine wD ?_
  repeat' (first
    |refine gK ?_
    |(((with_reducible show bg _ _ _ _ _);refine bg.mk k (aP _) rfl (aB hx) ?_)<;>with_reducible refine wK ?_)
    |((with_reducible show(_∧_)∧_∧_);(refine eK ?_ ?_<;>with_reducible repeat' (first|exact trivial|(show _∧_;refine aK ?_ ?_)))))
  all_goals rfl
theorem DL (l:List ai)(g:Int)(cs:List Int)(kd c:Int){j:Nat}(h:cs[j]? =some c):gY l g (cs.take (j+1)) kd=gY l g (cs.take j) kd+ (if c≠g∧(nd l c).kind=kd then 1 else 0):=by
  unfold gY
  rw[List.take_add_one,h,List.countP_append]
  congr 1
  show List.countP _ [c]=_
  rw[List.countP_cons,List.countP_nil]
  by_cases h1:c=g<;>by_cases h2:(nd l c).kind=kd<;>simp[h1,h2]
theorem xh (l:List ai)(g:Int)(cs:List Int)(kd:Int):gY l g cs kd≤cs.length:=List.countP_le_length
theorem xD (l:List ai)(m p c g:Int)(cs:List Int)(kd:Int)(hcs:∀c∈cs,ae l c=true)(hlen:cs.length≤1000):ak Tryz.prog 191 [] [Eu l m p c g,cN cs,ah kd] [] (ah (gY l g cs kd:Nat)):=by
  have h142:=fun k x hx=>nV l m p c g k x hx
  have hli:(cs.map bU).length=cs.length:=bW ..
  refine ak.aD (rvs:=[.tmp 6]) G au Tryz.func191 rfl Tryz.ntmps191 rfl rfl ?_;with_reducible refine wD ?_
  repeat' (first
    |refine gK ?_
    |((with_reducible show(_∧_)∧_∧_);(refine eK ?_ ?_<;>with_reducible repeat' (first|exact trivial|(show _∧_;refine aK ?_ ?_)))))
  refine bX.use G au (fun(j:Nat)=>[(2,ah kd),(3,.ptr 30 0 0),(7,ah (gY l g (cs.take j) kd:Nat)),(10,cN cs),(11,ah cs.length),(12,ah j)]) (fun j=>[(30,.live 5 [Eu l m p c g] false)])
    (fun j=>j≤cs.length) (fun j=>cs.length-j) 0 (Nat.zero_le _) ?_ ?_
  · (refine fK ?_;(with_reducible repeat' (first|exact trivial|(show _∧_;refine aK ?_ ?_)));(all_goals try rfl))
    all_goals first|exact⟨rfl,rfl⟩|rfl|(simp[gY];done)|trace_state
  intro j hj
  with_reducible refine wK ?_
  refine aX.mk (fun h1=>?_) (fun h1=>?_)<;>(try simp only[ay] at h1)<;>with_reducible refine wK ?_
  · have hjl:j<cs.length:=by simp only[bH,ay] at h1;omega
    obtain⟨c0,hc⟩:∃c,cs[j]? =some c:=⟨_,bD hjl⟩
    obtain⟨i,y,rfl,hy,hny⟩:=aU.1 (hcs c0 (bO hc))
    have h:=h142 i y hy
    have hst:=DL l g cs kd (i:Int) hc
    rw[hny] at hst
    have hle:gY l g (cs.take j) kd≤1000:=Nat.le_trans (xh l g (cs.take j) kd) (by rw[gh];omega)
    generalize gY l g (cs.take j) kd=M at hst hle ⊢
    obtain⟨b1,b2,b3,b4,b5,b6,b7,b8,b9,b10⟩:=y
    refine bg.mk j (ah (i:Int)) rfl (gr hc) ?_;with_reducible refine wK ?_
    by_cases e1:(i:Int)=g
    · rw[if_neg (fun q=>q.1 e1)] at hst
      have fa:=eq_true e1
      (have fct:=fa;(repeat' (first
    |refine gF ?_
    |(((with_reducible show af _ _ 142 _ _ _ _);refine af.lit [] h xm ⟨⟨rfl,rfl,rfl,rfl,rfl,trivial⟩,rfl,trivial⟩ rfl rfl ?_)<;>with_reducible refine wK ?_)
    | ((with_reducible show(_∧_)∧_∧_);(refine eK ?_ ?_<;>with_reducible repeat' (first|exact trivial|(show _∧_;refine aK ?_ ?_))))));all_goals clear fct)
      refine bR.mk (j+1) (by omega) (by omega) ?_
      rw[hst]
      (refine fK ?_;(with_reducible repeat' (first|exact trivial|(show _∧_;refine aK ?_ ?_)));(all_goals try rfl))
      all_goals first|exact⟨rfl,rfl⟩|rfl|(show((j+1:Nat):Int)=(j:Int)+1;omega)|(simp;done)|trace_state
    · have fa:=eq_false e1
      by_cases e2:b1=kd
      · rw[if_pos ⟨e1,e2⟩] at hst
        have fb:=eq_true e2
        (have fct:=And.intro fa (fb);(repeat' (first
    |refine gF ?_
    |(((with_reducible show af _ _ 142 _ _ _ _);refine af.lit [] h xm ⟨⟨rfl,rfl,rfl,rfl,rfl,trivial⟩,rfl,trivial⟩ rfl rfl ?_)<;>with_reducible refine wK ?_)
    | ((with_reducible show(_∧_)∧_∧_);(refine eK ?_ ?_<;>with_reducible repeat' (first|exact trivial|(show _∧_;refine aK ?_ ?_))))));all_goals clear fct)
        refine bR.mk (j+1) (by omega) (by omega) ?_
        rw[hst]
        (refine fK ?_;(with_reducible repeat' (first|exact trivial|(show _∧_;refine aK ?_ ?_)));(all_goals try rfl))
        all_goals first|exact⟨rfl,rfl⟩|rfl|(show((j+1:Nat):Int)=(j:Int)+1;omega)|(show((M+1:Nat):Int)=(M:Int)+1;omega)|(simp;done)|trace_state
      · rw[if_neg (fun q=>e2 q.2)] at hst
        have fb:=eq_false e2
        (have fct:=And.intro fa (fb);(repeat' (first
    |refine gF ?_
    |(((with_reducible show af _ _ 142 _ _ _ _);refine af.lit [] h xm ⟨⟨rfl,rfl,rfl,rfl,rfl,trivial⟩,rfl,trivial⟩ rfl rfl ?_)<;>with_reducible refine wK ?_)
    | ((with_reducible show(_∧_)∧_∧_);(refine eK ?_ ?_<;>with_reducible repeat' (first|exact trivial|(show _∧_;refine aK ?_ ?_))))));all_goals clear fct)
        refine bR.mk (j+1) (by omega) (by omega) ?_
        rw[hst]
        (refine fK ?_;(with_reducible repeat' (first|exact trivial|(show _∧_;refine aK ?_ ?_)));(all_goals try rfl))
        all_goals first|exact⟨rfl,rfl⟩|rfl|(show((j+1:Nat):Int)=(j:Int)+1;omega)|(simp;done)|trace_state
  · have hjl:j=cs.length:=by simp only[cR,ay] at h1;omega
    subst hjl
    rw[List.take_length]
    repeat' (first
    |refine gK ?_
    |((with_reducible show(_∧_)∧_∧_);(refine eK ?_ ?_<;>with_reducible repeat' (first|exact trivial|(show _∧_;refine aK ?_ ?_)))))
    all_goals first|rfl|trace_state
theorem sH (l:List ai)(m:Int)(p:Nat)(c g:Int)(cs:List Int)(y:ai)(hy:l[p]? =some y)(hcs:∀c∈cs,ae l c=true)(hlen:cs.length≤1000)(hks:∀c∈y.kids,ae l c=true)(hkl:y.kids.length≤1000):ak Tryz.prog 144 [] [Eu l m p c g,cN cs] [] (bC (gp l p g cs)):=by
  have ha:=xD l m p c g cs 2 hcs hlen
  have hb:=xD l m p c g cs 1 hcs hlen
  have hk:=xD l m p c g y.kids 1 hks hkl
  have l1:=xh l g cs 1
  have l2:=xh l g y.kids 1
  have hn:nd l (p:Int)=y:=cU hy
  unfold gp
  rw[hn]
  obtain⟨a1,a2,a3,a4,a5,a6,a7,a8,a9,a10⟩:=y
  simp only at hk hks hkl l2 ⊢
  generalize gY l g cs 2=A at ha ⊢
  generalize gY l g cs 1=B at hb l1 ⊢
  generalize gY l g a7 1=C at hk l2 ⊢
  refine ak.aD (rvs:=[.tmp 4]) G au Tryz.func144 rfl Tryz.ntmps144 rfl rfl ?_;with_reducible refine wD ?_
  repeat' (first
    |refine pK ?_
    | ((first
      |((with_reducible show aX _ _ _ _);(refine aX.mk (fun hp=>?_) (fun hp=>?_)<;>(try simp only[ay,bH,cR,Bool.not_eq_true',Bool.not_eq_false',Decidable.not_not,Int.not_lt,Int.not_le] at hp)))
      |((with_reducible show af _ _ 191 _ _ _ _);first|refine af.lit [] ha Jj ⟨⟨rfl,rfl,rfl,rfl,rfl,trivial⟩,rfl,rfl,trivial⟩ rfl rfl ?_|refine af.lit [] hb Jj ⟨⟨rfl,rfl,rfl,rfl,rfl,trivial⟩,rfl,rfl,trivial⟩ rfl rfl ?_|refine af.lit [] hk Jj ⟨⟨rfl,rfl,rfl,rfl,rfl,trivial⟩,rfl,rfl,trivial⟩ rfl rfl ?_)
      |((with_reducible show bg _ _ _ _ _);refine bg.mk p (aP _) rfl (aB hy) ?_))<;>with_reducible refine wK ?_)
    |((with_reducible show(_∧_)∧_∧_);(refine eK ?_ ?_<;>with_reducible repeat' (first|exact trivial|(show _∧_;refine aK ?_ ?_)))))
  all_goals (first|(have hA:¬0<A:=(by omega);have hB:0<B:=(by omega);rw[dx hA,dJ hB,Bool.false_or,Bool.true_and];exact(decide_eq_decide.2 (by omega):decide (1<B+C)=decide ((1:Int)< (B:Int)+ (C:Int))))|(simp;omega)|trace_state)
theorem Ie (l:List ai)(m:Int)(hs:bw l)(n:Int)(p:Nat)(c g:Int)(y:ai)(hy:l[p]? =some y)(hr:bt ⟨l,m⟩=true)(hn:ae l n=true):ak Tryz.prog 150 [] [Eu l m p c g,ah n] [] (bC (oa l n p)):=by
  have h142:=nV l m p c g p y hy
  have h143:=wu ⟨l,m⟩ hs n p hr hn (aU.2 ⟨p,y,rfl,hy,cU hy⟩)
  unfold oa
  rw[cU hy]
  obtain⟨a1,a2,a3,a4,a5,a6,a7,a8,a9,a10⟩:=y
  simp only at h142 h143 ⊢
  refine ak.aD (rvs:=[.tmp 4]) G au Tryz.func150 rfl Tryz.ntmps150 rfl rfl ?_;with_reducible refine wD ?_
  by_cases e:a1=2
  · have fa:=eq_true e
    (have fct:=fa;(repeat' (first
    |refine gF ?_
    | ((first
      |((with_reducible show af _ _ 142 _ _ _ _);refine af.lit [] h142 xm ⟨⟨rfl,rfl,rfl,rfl,rfl,trivial⟩,rfl,trivial⟩ rfl rfl ?_)
      |((with_reducible show af _ _ 143 _ _ _ _);refine af.lit [] h143 Gu ⟨⟨rfl,rfl,trivial⟩,rfl,rfl,trivial⟩ rfl rfl ?_))<;>with_reducible refine wK ?_)
    |((with_reducible show(_∧_)∧_∧_);(refine eK ?_ ?_<;>with_reducible repeat' (first|exact trivial|(show _∧_;refine aK ?_ ?_))))));all_goals clear fct)
    all_goals (first|rfl|(simp[e];done)|trace_state)
  · have fa:=eq_false e
    (have fct:=fa;(repeat' (first
    |refine gF ?_
    | ((first
      |((with_reducible show af _ _ 142 _ _ _ _);refine af.lit [] h142 xm ⟨⟨rfl,rfl,rfl,rfl,rfl,trivial⟩,rfl,trivial⟩ rfl rfl ?_)
      |((with_reducible show af _ _ 143 _ _ _ _);refine af.lit [] h143 Gu ⟨⟨rfl,rfl,trivial⟩,rfl,rfl,trivial⟩ rfl rfl ?_))<;>with_reducible refine wK ?_)
    |((with_reducible show(_∧_)∧_∧_);(refine eK ?_ ?_<;>with_reducible repeat' (first|exact trivial|(show _∧_;refine aK ?_ ?_))))));all_goals clear fct)
    all_goals (first|rfl|(simp[e];done)|trace_state)
end Go.Proofs.Heir
namespace Go.Proofs.Heir
open Go Go.Am Go.RowKit Go.Lib
set_option maxRecDepth 100000
set_option maxHeartbeats 8000000
set_option maxHeartbeats 16000000
theorem EG (l:List ai)(m:Int)(hs:bw l)(n p:Nat)(g:Int)(x y:ai)(hx:l[n]? =some x)(hy:l[p]? =some y)(R:RF l m):ak Tryz.prog 76 [] [Eu l m p (-1) g,ah n] [] (ah (fg l p (-1) g n)):=by
  have tn:ae l (n:Int)=true:=aU.2 ⟨n,x,rfl,hx,cU hx⟩
  have tp:ae l (p:Int)=true:=aU.2 ⟨p,y,rfl,hy,cU hy⟩
  have ndx:=cU hx
  have ndy:=cU hy
  have h1:=nV l m p (-1) g p y hy
  have h2:=nV l m p (-1) g n x hx
  have ho:=wu ⟨l,m⟩ hs n p (ck.2 R) tn tp
  have hky:∀c∈y.kids,ae l c=true:=fun c hc=>(R.kid p tp c (by rw[ndy];exact hc)).1
  have hkx:∀c∈x.kids,ae l c=true:=fun c hc=>(R.kid n tn c (by rw[ndx];exact hc)).1
  have lky:y.kids.length≤1000:=Nat.le_trans (hs.kids y (bO hy)) (by omega)
  have lkx:x.kids.length≤1000:=Nat.le_trans (hs.kids x (bO hx)) (by omega)
  have c1:=sH l m p (-1) g x.kids y hy hkx lkx hky lky
  have c2:=sH l m p (-1) g [(n:Int)] y hy (fun c hc=>by rw[gA.1 hc];exact tn) (by simp) hky lky
  unfold fg
  rw[ndx,ndy]
  simp only at ho
  generalize iP l n p=O at ho ⊢
  generalize gp l p g x.kids=C1 at c1 ⊢
  generalize gp l p g [(n:Int)]=C2 at c2 ⊢
  obtain⟨b1,b2,b3,b4,b5,b6,b7,b8,b9,b10⟩:=x
  obtain⟨a1,a2,a3,a4,a5,a6,a7,a8,a9,a10⟩:=y
  simp only at h1 h2 c1 ⊢
  refine ak.aD (rvs:=[.tmp 4]) G au Tryz.func76 rfl Tryz.ntmps76 rfl rfl ?_;with_reducible refine wD ?_
  repeat' (first
    |refine pK ?_
    | ((first
      |((with_reducible show aX _ _ _ _);(refine aX.mk (fun hp=>?_) (fun hp=>?_)<;>(try simp only[ay,bH,cR,Bool.not_eq_true',Bool.not_eq_false',Decidable.not_not,Int.not_lt,Int.not_le] at hp)))
      |((with_reducible show af _ _ 142 _ _ _ _);first|refine af.lit [] h1 xm ⟨⟨rfl,rfl,rfl,rfl,rfl,trivial⟩,rfl,trivial⟩ rfl rfl ?_|refine af.lit [] h2 xm ⟨⟨rfl,rfl,rfl,rfl,rfl,trivial⟩,rfl,trivial⟩ rfl rfl ?_)
      |((with_reducible show af _ _ 143 _ _ _ _);refine af.lit [] ho Gu ⟨⟨rfl,rfl,trivial⟩,rfl,rfl,trivial⟩ rfl rfl ?_)
      |((with_reducible show af _ _ 144 _ _ _ _);first|refine af.lit [] c1 Gm ⟨⟨rfl,rfl,rfl,rfl,rfl,trivial⟩,rfl,trivial⟩ rfl rfl ?_|refine af.lit [771] c2 Gm ⟨⟨rfl,rfl,rfl,rfl,rfl,trivial⟩,cq (l:=[(n:Int)]) rfl rfl rfl rfl,trivial⟩ rfl rfl ?_)
      |((with_reducible show bg _ _ _ _ _);refine bg.mk n (aP _) rfl (aB hx) ?_))<;>with_reducible refine wK ?_)
    |((with_reducible show(_∧_)∧_∧_);(refine eK ?_ ?_<;>with_reducible repeat' (first|exact trivial|(show _∧_;refine aK ?_ ?_)))))
  all_goals (first|rfl|(simp_all[eN];done)|trace_state)
theorem DV (l:List ai)(m:Int)(hs:bw l)(n p c:Nat)(g:Int)(x y z:ai)(hx:l[n]? =some x)(hy:l[p]? =some y)(hz:l[c]? =some z)(R:RF l m):ak Tryz.prog 76 [] [Eu l m p c g,ah n] [] (ah (fg l p c g n)):=by
  have tn:ae l (n:Int)=true:=aU.2 ⟨n,x,rfl,hx,cU hx⟩
  have tp:ae l (p:Int)=true:=aU.2 ⟨p,y,rfl,hy,cU hy⟩
  have ndx:=cU hx
  have ndy:=cU hy
  have ndz:=cU hz
  have h1:=nV l m p c g p y hy
  have h2:=nV l m p c g n x hx
  have ho:=wu ⟨l,m⟩ hs n p (ck.2 R) tn tp
  have hky:∀c∈y.kids,ae l c=true:=fun c hc=>(R.kid p tp c (by rw[ndy];exact hc)).1
  have hkx:∀c∈x.kids,ae l c=true:=fun c hc=>(R.kid n tn c (by rw[ndx];exact hc)).1
  have lky:y.kids.length≤1000:=Nat.le_trans (hs.kids y (bO hy)) (by omega)
  have lkx:x.kids.length≤1000:=Nat.le_trans (hs.kids x (bO hx)) (by omega)
  have c1:=sH l m p c g x.kids y hy hkx lkx hky lky
  have c2:=sH l m p c g [(n:Int)] y hy (fun c hc=>by rw[gA.1 hc];exact tn) (by simp) hky lky
  unfold fg
  rw[ndx,ndy,ndz]
  simp only at ho
  generalize iP l n p=O at ho ⊢
  generalize gp l p g x.kids=C1 at c1 ⊢
  generalize gp l p g [(n:Int)]=C2 at c2 ⊢
  obtain⟨b1,b2,b3,b4,b5,b6,b7,b8,b9,b10⟩:=x
  obtain⟨a1,a2,a3,a4,a5,a6,a7,a8,a9,a10⟩:=y
  obtain⟨e1,e2,e3,e4,e5,e6,e7,e8,e9,e10⟩:=z
  have fc:((c:Int)=-1)=False:=eq_false (by omega)
  simp only at h1 h2 c1 ⊢
  refine ak.aD (rvs:=[.tmp 4]) G au Tryz.func76 rfl Tryz.ntmps76 rfl rfl ?_;with_reducible refine wD ?_
  (have fct:=fc;(repeat' (first
    |refine pF ?_
    | ((first
      |((with_reducible show aX _ _ _ _);(refine aX.mk (fun hp=>?_) (fun hp=>?_)<;>(try simp only[ay,bH,cR,Bool.not_eq_true',Bool.not_eq_false',Decidable.not_not,Int.not_lt,Int.not_le] at hp)))
      |((with_reducible show af _ _ 142 _ _ _ _);first|refine af.lit [] h1 xm ⟨⟨rfl,rfl,rfl,rfl,rfl,trivial⟩,rfl,trivial⟩ rfl rfl ?_|refine af.lit [] h2 xm ⟨⟨rfl,rfl,rfl,rfl,rfl,trivial⟩,rfl,trivial⟩ rfl rfl ?_)
      |((with_reducible show af _ _ 143 _ _ _ _);refine af.lit [] ho Gu ⟨⟨rfl,rfl,trivial⟩,rfl,rfl,trivial⟩ rfl rfl ?_)
      |((with_reducible show af _ _ 144 _ _ _ _);first|refine af.lit [] c1 Gm ⟨⟨rfl,rfl,rfl,rfl,rfl,trivial⟩,rfl,trivial⟩ rfl rfl ?_|refine af.lit [771] c2 Gm ⟨⟨rfl,rfl,rfl,rfl,rfl,trivial⟩,cq (l:=[(n:Int)]) rfl rfl rfl rfl,trivial⟩ rfl rfl ?_)
      |((with_reducible show bg _ _ _ _ _);first|refine bg.mk n (aP _) rfl (aB hx) ?_|refine bg.mk c (aP _) rfl (aB hz) ?_))<;>with_reducible refine wK ?_)
    |((with_reducible show(_∧_)∧_∧_);(refine eK ?_ ?_<;>with_reducible repeat' (first|exact trivial|(show _∧_;refine aK ?_ ?_))))));all_goals clear fct)
  all_goals (first|rfl|(simp_all[eN];done)|trace_state)
theorem Gb (l:List ai)(m:Int)(hs:bw l)(n p c g:Int)(hn:ae l n=true)(hp:ae l p=true)(hc:c=-1∨ae l c=true)(R:RF l m):ak Tryz.prog 76 [] [Eu l m p c g,ah n] [] (ah (fg l p c g n)):=by
  obtain⟨a,x,rfl,hx,_⟩:=aU.1 hn
  obtain⟨b,y,rfl,hy,_⟩:=aU.1 hp
  rcases hc with rfl|hc
  ·exact EG l m hs a b g x y hx hy R
  · obtain⟨i,z,rfl,hz,_⟩:=aU.1 hc
    exact DV l m hs a b i g x y z hx hy hz R
theorem EK (f:ForM)(hs:bw f.nodes)(n p c:Int):ak Tryz.prog 30 [] [aM f,ah n,ah p,ah c] [] (ah (mB f n p c)):=by
  have h2:=Cc f hs n p
  have h1:=xw f hs c
  have h76:dN f n p c=true→ak Tryz.prog 76 [] [Eu f.nodes f.most p c (-1),ah n] [] (ah (fg f.nodes p c (-1) n)):=fun h=>by
    obtain⟨l,m⟩:=f
    unfold dN at h
    simp only[bN,j8,bH] at h
    exact Gb l m hs n p c (-1) h.1.2.1 h.1.2.2 h.2 (ck.1 h.1.1)
  obtain⟨l,m⟩:=f
  unfold mB
  unfold dN at h76 ⊢
  simp only at h2 h1 h76 ⊢
  cases e2:(bt ⟨l,m⟩&&(ae l n&&ae l p)) with
  | false=>
    rw[e2] at h2
    refine ak.aD (rvs:=[.tmp 8]) G au Tryz.func30 rfl Tryz.ntmps30 rfl rfl ?_;with_reducible refine wD ?_
    refine af.lit [121] h2 zP ⟨⟨rfl,rfl,trivial⟩,cq (l:=[n,p]) rfl rfl rfl rfl,trivial⟩ rfl rfl ?_;with_reducible refine wK ?_
    repeat' (first
    |refine gK ?_
    |((with_reducible show(_∧_)∧_∧_);(refine eK ?_ ?_<;>with_reducible repeat' (first|exact trivial|(show _∧_;refine aK ?_ ?_)))))
    all_goals first|rfl|trace_state
  | true =>
    rw[e2] at h2 h76
    have er:bt ⟨l,m⟩=true:=(Bool.and_eq_true_iff.1 e2).1
    rw[er,Bool.true_and] at h1
    by_cases ec:c=-1
    · subst ec
      have h:=h76 rfl
      refine ak.aD (rvs:=[.tmp 8]) G au Tryz.func30 rfl Tryz.ntmps30 rfl rfl ?_;with_reducible refine wD ?_
      refine af.lit [121] h2 zP ⟨⟨rfl,rfl,trivial⟩,cq (l:=[n,p]) rfl rfl rfl rfl,trivial⟩ rfl rfl ?_;with_reducible refine wK ?_
      repeat' (first
    |refine gK ?_
    |(((with_reducible show af _ _ 76 _ _ _ _);refine af.lit [] h J7 ⟨⟨rfl,rfl,rfl,rfl,rfl,trivial⟩,rfl,trivial⟩ rfl rfl ?_)<;>with_reducible refine wK ?_)
    | ((with_reducible show(_∧_)∧_∧_);(refine eK ?_ ?_<;>with_reducible repeat' (first|exact trivial|(show _∧_;refine aK ?_ ?_)))))
      all_goals first|rfl|trace_state
    · have fc:=eq_false ec
      cases e1:ae l c with
      | false=>
        rw[e1] at h1
        rw[dx ec]
        refine ak.aD (rvs:=[.tmp 8]) G au Tryz.func30 rfl Tryz.ntmps30 rfl rfl ?_;with_reducible refine wD ?_
        refine af.lit [121] h2 zP ⟨⟨rfl,rfl,trivial⟩,cq (l:=[n,p]) rfl rfl rfl rfl,trivial⟩ rfl rfl ?_;with_reducible refine wK ?_
        (have fct:=fc;(repeat' (first
    |refine gF ?_
    |(((with_reducible show af _ _ 71 _ _ _ _);refine af.lit [211] h1 zP ⟨⟨rfl,rfl,trivial⟩,cq (l:=[c]) rfl rfl rfl rfl,trivial⟩ rfl rfl ?_)<;>with_reducible refine wK ?_)
    | ((with_reducible show(_∧_)∧_∧_);(refine eK ?_ ?_<;>with_reducible repeat' (first|exact trivial|(show _∧_;refine aK ?_ ?_))))));all_goals clear fct)
        all_goals first|rfl|trace_state
      | true=>
        rw[e1] at h1
        have h:=h76 (by rw[e1];simp)
        rw[dx ec]
        refine ak.aD (rvs:=[.tmp 8]) G au Tryz.func30 rfl Tryz.ntmps30 rfl rfl ?_;with_reducible refine wD ?_
        refine af.lit [121] h2 zP ⟨⟨rfl,rfl,trivial⟩,cq (l:=[n,p]) rfl rfl rfl rfl,trivial⟩ rfl rfl ?_;with_reducible refine wK ?_
        (have fct:=fc;(repeat' (first
    |refine gF ?_
    | ((first
      |((with_reducible show af _ _ 71 _ _ _ _);refine af.lit [211] h1 zP ⟨⟨rfl,rfl,trivial⟩,cq (l:=[c]) rfl rfl rfl rfl,trivial⟩ rfl rfl ?_)
      |((with_reducible show af _ _ 76 _ _ _ _);refine af.lit [] h J7 ⟨⟨rfl,rfl,rfl,rfl,rfl,trivial⟩,rfl,trivial⟩ rfl rfl ?_))<;>with_reducible refine wK ?_)
    | ((with_reducible show(_∧_)∧_∧_);(refine eK ?_ ?_<;>with_reducible repeat' (first|exact trivial|(show _∧_;refine aK ?_ ?_))))));all_goals clear fct)
        all_goals first|rfl|trace_state
end Go.Proofs.Heir
namespace Go.Proofs.Heir
open Go Go.Am Go.RowKit Go.Lib
set_option maxRecDepth 100000
set_option maxHeartbeats 8000000
set_option maxHeartbeats 2000000
section
variable {l : List ai} {m : Int}
end
theorem lC:∀ {cs:List Int} {b:Int},b∈cs→∃k:Nat,k<cs.length∧cs[k]? =some b∧(∀ (j:Nat) x,j<k→cs[j]? =some x→x≠b)∧cs.takeWhile (fun c=>decide (c≠b))=cs.take k∧cs.dropWhile (fun c=>decide (c≠b))=cs.drop k∧cs.erase b=cs.take k++cs.drop (k+1)
  |[],b,h=>by cases h
  | a :: r,b,h=>by
    by_cases e:a=b
    · subst e
      refine⟨0,by simp,rfl,fun j x hj=>by omega,?_,?_,?_⟩
      ·rw[List.takeWhile_cons,if_neg (by simp)];rfl
      ·rw[List.dropWhile_cons,if_neg (by simp)];rfl
      ·rw[List.erase_cons_head];rfl
    · obtain⟨k,h1,h2,h3,h4,h5,h6⟩:=lC ((dU.1 h).resolve_left fun q=>e q.symm)
      refine⟨k+1,by simp;omega,by simpa using h2,fun j x hj hx=>?_,?_,?_,?_⟩
      · cases j with
        |zero=>simp at hx;rw[←hx];exact e
        |succ j=>exact h3 j x (by omega) (by simpa using hx)
      ·rw[List.takeWhile_cons,if_pos (by simpa using e),h4];rfl
      ·rw[List.dropWhile_cons,if_pos (by simpa using e),h5];rfl
      ·rw[List.erase_cons,if_neg (by simpa using e),h6];rfl
theorem JS {cs:List Int}{b k:Int}{i:Nat}(hb:b≠-1)(h4:cs.takeWhile (fun c=>decide (c≠b))=cs.take i)(h5:cs.dropWhile (fun c=>decide (c≠b))=cs.drop i):qO cs b k=cs.take i++k::cs.drop i:=by
  unfold qO
  rw[if_neg hb,h4,h5]
theorem HF (cs:List Int)(k:Int):qO cs (-1) k=cs++ [k]:=by unfold qO;rw[if_pos rfl]
end Go.Proofs.Heir
namespace Go.Proofs.Heir
open Go Go.Am Go.RowKit Go.Lib
set_option maxRecDepth 100000
set_option maxHeartbeats 8000000
set_option maxHeartbeats 16000000
theorem sB:∀ {cs:List Int} {b:Int} {i:Nat},cs[i]? =some b→(∀ (j:Nat) x,j<i→cs[j]? =some x→x≠b)→cw cs b=(cs[i+1]?).getD (-1)
  | a::r,b,0,h,_=>by
    cases h
    rw[uX,if_pos rfl,List.getElem?_cons_succ]
    cases r<;>rfl
  | a::r,b,i+1,h,hno=>by
    rw[List.getElem?_cons_succ] at h
    rw[uX,if_neg (hno 0 a (by omega) rfl),List.getElem?_cons_succ]
    exact sB h fun j x hj hx=>hno (j+1) x (by omega) (by rw[List.getElem?_cons_succ];exact hx)
theorem Jy (f:ForM)(hs:bw f.nodes)(n p c:Int):ak Tryz.prog 28 [] [aM f,ah n,ah p,ah c] [] (ah (eR f n p c)):=by
  have h30:=EK f hs n p c
  unfold eR
  by_cases e0:mB f n p c=0
  · rw [if_neg (fun q=>q e0)]
    by_cases ec:c=n
    · subst ec
      rw[if_neg (fun q=>q rfl)]
      rw[e0] at h30
      have ha:dN f c p c=true:=by
        cases h:dN f c p c with
        |true=>rfl
        |false=>unfold mB at e0;rw[h] at e0;simp at e0
      have ht:fg f.nodes p c (-1) c=0:=by unfold mB at e0;rw[if_pos ha] at e0;exact e0
      unfold dN at ha
      simp only[bN,j8,bH] at ha
      obtain⟨⟨hr,hn,hp⟩,_⟩:=ha
      have R:RF f.nodes f.most:=ck.1 hr
      have hc0:=bj hn
      have hin:c∈ (nd f.nodes p).kids:=by
        refine(R.child hp hn).1 ?_
        unfold fg at ht
        by_cases e1:(!eN (nd f.nodes p).kind||iP f.nodes c p)=true
        ·rw[if_pos e1] at ht;omega
        rw[if_neg e1] at ht
        by_cases e2:c≠-1∧(nd f.nodes c).parent≠p
        ·rw[if_pos e2] at ht;omega
        ·exact Classical.byContradiction fun q=>e2 ⟨by omega,q⟩
      obtain⟨i,hi,hic,hno,_⟩:=lC hin
      obtain⟨k,y,rfl,hy,hny⟩:=aU.1 hp
      rw[hny] at hi hic hno ⊢
      have hkl:y.kids.length≤60:=hs.kids y (bO hy)
      have h73:=qu y.kids (by omega) c
      rw[fJ hic (dJ rfl) fun j x hj hx=>dx (hno j x hj hx)] at h73
      rw[sB hic hno]
      obtain⟨l,m⟩:=f
      obtain⟨a1,a2,a3,a4,a5,a6,a7,a8,a9,a10⟩:=y
      simp only at h73 hi hic hy hkl ⊢
      have hla:(a7.map bU).length=a7.length:=bW ..
      cases hx:a7[i+1]? with
      | none=>
        have hge:a7.length≤i+1:=List.getElem?_eq_none_iff.1 hx
        have fa:(((i:Int)+1< (a7.length:Int)))=False:=eq_false (by omega)
        refine ak.aD (rvs:=[.tmp 8]) G au Tryz.func28 rfl Tryz.ntmps28 rfl rfl ?_;with_reducible refine wD ?_
        repeat' (first
    |refine pK ?_
    | ((first
      |((with_reducible show aX _ _ _ _);(refine aX.mk (fun hp=>?_) (fun hp=>?_)<;>(try simp only[ay,bH,cR,Bool.not_eq_true',Bool.not_eq_false',Decidable.not_not,Int.not_lt,Int.not_le] at hp)))
      |((with_reducible show af _ _ 30 _ _ _ _);refine af.lit [] h30 Kb ⟨⟨rfl,rfl,trivial⟩,rfl,rfl,rfl,trivial⟩ rfl rfl ?_)
      |((with_reducible show af _ _ 73 _ _ _ _);refine af.lit [] h73 GW ⟨rfl,rfl,trivial⟩ rfl rfl ?_)
      |((with_reducible show bg _ _ _ _ _);first|refine bg.mk k (aP _) rfl (aB hy) ?_|(exfalso;omega)))<;>with_reducible refine wK ?_)
    | ((with_reducible show(_∧_)∧_∧_);(refine eK ?_ ?_<;>with_reducible repeat' (first|exact trivial|(show _∧_;refine aK ?_ ?_)))))
        all_goals first|rfl|exact absurd trivial hp|(exfalso;omega)|trace_state
      | some z=>
        have hlt:i+1<a7.length:=(aY hx).1
        refine ak.aD (rvs:=[.tmp 8]) G au Tryz.func28 rfl Tryz.ntmps28 rfl rfl ?_;with_reducible refine wD ?_
        repeat' (first
    |refine pK ?_
    | ((first
      |((with_reducible show aX _ _ _ _);(refine aX.mk (fun hp=>?_) (fun hp=>?_)<;>(try simp only[ay,bH,cR,Bool.not_eq_true',Bool.not_eq_false',Decidable.not_not,Int.not_lt,Int.not_le] at hp)))
      |((with_reducible show af _ _ 30 _ _ _ _);refine af.lit [] h30 Kb ⟨⟨rfl,rfl,trivial⟩,rfl,rfl,rfl,trivial⟩ rfl rfl ?_)
      |((with_reducible show af _ _ 73 _ _ _ _);refine af.lit [] h73 GW ⟨rfl,rfl,trivial⟩ rfl rfl ?_)
      |((with_reducible show bg _ _ _ _ _);first|refine bg.mk k (aP _) rfl (aB hy) ?_|refine bg.mk (i+1) (ah z) (by first|rfl|(show((i:Int)+1)=((i+1:Nat):Int);omega)) (gr hx) ?_))<;>with_reducible refine wK ?_)
    | ((with_reducible show(_∧_)∧_∧_);(refine eK ?_ ?_<;>with_reducible repeat' (first|exact trivial|(show _∧_;refine aK ?_ ?_)))))
        all_goals first|rfl|exact absurd trivial hp|(exfalso;omega)|trace_state
    · rw[if_pos ec,]
      rw[e0] at h30
      have fc:=eq_false ec
      obtain⟨l,m⟩:=f
      refine ak.aD (rvs:=[.tmp 8]) G au Tryz.func28 rfl Tryz.ntmps28 rfl rfl ?_;with_reducible refine wD ?_
      (have fct:=fc;(repeat' (first
    |refine gF ?_
    |(((with_reducible show af _ _ 30 _ _ _ _);refine af.lit [] h30 Kb ⟨⟨rfl,rfl,trivial⟩,rfl,rfl,rfl,trivial⟩ rfl rfl ?_)<;>with_reducible refine wK ?_)
    | ((with_reducible show(_∧_)∧_∧_);(refine eK ?_ ?_<;>with_reducible repeat' (first|exact trivial|(show _∧_;refine aK ?_ ?_))))));all_goals clear fct)
      all_goals first|rfl|trace_state
  · rw[if_pos e0]
    have f0:=eq_false e0
    obtain⟨l,m⟩:=f
    refine ak.aD (rvs:=[.tmp 8]) G au Tryz.func28 rfl Tryz.ntmps28 rfl rfl ?_;with_reducible refine wD ?_
    (have fct:=f0;(repeat' (first
    |refine gF ?_
    |(((with_reducible show af _ _ 30 _ _ _ _);refine af.lit [] h30 Kb ⟨⟨rfl,rfl,trivial⟩,rfl,rfl,rfl,trivial⟩ rfl rfl ?_)<;>with_reducible refine wK ?_)
    |((with_reducible show(_∧_)∧_∧_);(refine eK ?_ ?_<;>with_reducible repeat' (first|exact trivial|(show _∧_;refine aK ?_ ?_))))));all_goals clear fct)
    all_goals first|rfl|trace_state
theorem Ba (f:ForM)(hs:bw f.nodes)(n:Nat)(y:ai)(hy:f.nodes[n]? =some y)(hr:bt f=true):ak Tryz.prog 27 [] [aM f,ah n] [aA (dn f.nodes n)] (.own 0 0 (dn f.nodes n).length):=by
  have h1:=xw f hs n
  rw[hr,aU.2 ⟨n,y,rfl,hy,cU hy⟩] at h1
  have h72:=Bj y.kids (by have:=hs.kids y (bO hy);omega)
  unfold dn
  rw[cU hy]
  obtain⟨l,m⟩:=f
  obtain⟨a1,a2,a3,a4,a5,a6,a7,a8,a9,a10⟩:=y
  simp only at h72 hy ⊢
  by_cases e:a1=3
  · rw [if_pos e]
    have fe:=eq_true e
    refine ak.aD (rvs:=[.tmp 4]) G au Tryz.func27 rfl Tryz.ntmps27 rfl rfl ?_;with_reducible refine wD ?_
    refine af.lit [81] h1 zP ⟨⟨rfl,rfl,trivial⟩,cq (l:=[(n:Int)]) rfl rfl rfl rfl,trivial⟩ rfl rfl ?_;with_reducible refine wK ?_
    (have fct:=fe;(repeat' (first
    |refine gF ?_
    | ((first
      |((with_reducible show bg _ _ _ _ _);refine bg.mk n (aP _) rfl (aB hy) ?_)
      |((with_reducible show af _ _ 72 _ _ _ _);refine af.new 251 [] h72 Gj ⟨rfl,trivial⟩ rfl rfl rfl (mR _) rfl ?_))<;>with_reducible refine wK ?_)
    |((with_reducible show(_∧_)∧_∧_);(refine eK ?_ ?_<;>with_reducible repeat' (first|exact trivial|(show _∧_;refine aK ?_ ?_))))));all_goals clear fct)
    all_goals first|rfl|exact bP (aa _)|exact bP (aa [(n:Int)])|exact aa [(n:Int)]|exact⟨.refl (aa _),aa _⟩|trace_state
  · rw[if_neg e]
    have fe:=eq_false e
    refine ak.aD (rvs:=[.tmp 4]) G au Tryz.func27 rfl Tryz.ntmps27 rfl rfl ?_;with_reducible refine wD ?_
    refine af.lit [81] h1 zP ⟨⟨rfl,rfl,trivial⟩,cq (l:=[(n:Int)]) rfl rfl rfl rfl,trivial⟩ rfl rfl ?_;with_reducible refine wK ?_
    (have fct:=fe;(repeat' (first
    |refine gF ?_
    |(((with_reducible show bg _ _ _ _ _);refine bg.mk n (aP _) rfl (aB hy) ?_)<;>with_reducible refine wK ?_)
    |((with_reducible show(_∧_)∧_∧_);(refine eK ?_ ?_<;>with_reducible repeat' (first|exact trivial|(show _∧_;refine aK ?_ ?_))))));all_goals clear fct)
    all_goals first|rfl|exact bP (aa _)|exact bP (aa [(n:Int)])|exact aa [(n:Int)]|exact⟨.refl (aa _),aa _⟩|trace_state
theorem JH (f:ForM)(hs:bw f.nodes)(n p c:Int):ak Tryz.prog 85 [] [aM f,ah n,ah p,ah c] [] (ah (jY f n p c)):=by
  have h2:=Cc f hs n p
  have h1:=xw f hs c
  have h76:dN f n p c=true→ak Tryz.prog 76 [] [Eu f.nodes f.most p c c,ah n] [] (ah (fg f.nodes p c c n)):=fun h=>by
    obtain⟨l,m⟩:=f
    unfold dN at h
    simp only[bN,j8,bH] at h
    exact Gb l m hs n p c c h.1.2.1 h.1.2.2 h.2 (ck.1 h.1.1)
  have h150:dN f n p c=true→ak Tryz.prog 150 [] [Eu f.nodes f.most p c c,ah n] [] (bC (oa f.nodes n p)):=fun h=>by
    obtain⟨l,m⟩:=f
    unfold dN at h
    simp only[bN,j8,bH] at h
    obtain⟨k,y,rfl,hy,_⟩:=aU.1 h.1.2.2
    exact Ie l m hs n k c c y hy h.1.1 h.1.2.1
  obtain⟨l,m⟩:=f
  unfold jY
  unfold dN at h76 h150 ⊢
  simp only at h2 h1 h76 h150 ⊢
  generalize fg l p c c n=T at h76 ⊢
  generalize oa l n p=Q at h150 ⊢
  cases e2:(bt ⟨l,m⟩&&(ae l n&&ae l p)) with
  | false=>
    rw[e2] at h2
    refine ak.aD (rvs:=[.tmp 8]) G au Tryz.func85 rfl Tryz.ntmps85 rfl rfl ?_;with_reducible refine wD ?_
    refine af.lit [141] h2 zP ⟨⟨rfl,rfl,trivial⟩,cq (l:=[n,p]) rfl rfl rfl rfl,trivial⟩ rfl rfl ?_;with_reducible refine wK ?_
    repeat' (first
    |refine gK ?_
    |((with_reducible show(_∧_)∧_∧_);(refine eK ?_ ?_<;>with_reducible repeat' (first|exact trivial|(show _∧_;refine aK ?_ ?_)))))
    all_goals first|rfl|trace_state
  | true =>
    rw[e2] at h2 h76 h150
    have er:bt ⟨l,m⟩=true:=(Bool.and_eq_true_iff.1 e2).1
    rw[er,Bool.true_and] at h1
    by_cases ec:c=-1
    · subst ec
      have h:=h76 rfl
      have h5:=h150 rfl
      by_cases eT:T=0
      · have fT:=eq_true eT
        refine ak.aD (rvs:=[.tmp 8]) G au Tryz.func85 rfl Tryz.ntmps85 rfl rfl ?_;with_reducible refine wD ?_
        refine af.lit [141] h2 zP ⟨⟨rfl,rfl,trivial⟩,cq (l:=[n,p]) rfl rfl rfl rfl,trivial⟩ rfl rfl ?_;with_reducible refine wK ?_
        (have fct:=fT;(repeat' (first
    |refine gF ?_
    |(((with_reducible show af _ _ 76 _ _ _ _);refine af.lit [] h J7 ⟨⟨rfl,rfl,rfl,rfl,rfl,trivial⟩,rfl,trivial⟩ rfl rfl ?_)<;>with_reducible refine wK ?_)
    | ((with_reducible show(_∧_)∧_∧_);(refine eK ?_ ?_<;>with_reducible repeat' (first|exact trivial|(show _∧_;refine aK ?_ ?_))))));all_goals clear fct)
        all_goals first|rfl|(simp[eT];done)|trace_state
      · have fT:=eq_false eT
        cases Q
        · refine ak.aD (rvs:=[.tmp 8]) G au Tryz.func85 rfl Tryz.ntmps85 rfl rfl ?_;with_reducible refine wD ?_
          refine af.lit [141] h2 zP ⟨⟨rfl,rfl,trivial⟩,cq (l:=[n,p]) rfl rfl rfl rfl,trivial⟩ rfl rfl ?_;with_reducible refine wK ?_
          (have fct:=fT;(repeat' (first
    |refine gF ?_
    | ((first
      |((with_reducible show af _ _ 76 _ _ _ _);refine af.lit [] h J7 ⟨⟨rfl,rfl,rfl,rfl,rfl,trivial⟩,rfl,trivial⟩ rfl rfl ?_)
      |((with_reducible show af _ _ 150 _ _ _ _);refine af.lit [] h5 La ⟨⟨rfl,rfl,rfl,rfl,rfl,trivial⟩,rfl,trivial⟩ rfl rfl ?_))<;>with_reducible refine wK ?_)
    | ((with_reducible show(_∧_)∧_∧_);(refine eK ?_ ?_<;>with_reducible repeat' (first|exact trivial|(show _∧_;refine aK ?_ ?_))))));all_goals clear fct)
          all_goals first|rfl|(simp[eT];done)|trace_state
        · refine ak.aD (rvs:=[.tmp 8]) G au Tryz.func85 rfl Tryz.ntmps85 rfl rfl ?_;with_reducible refine wD ?_
          refine af.lit [141] h2 zP ⟨⟨rfl,rfl,trivial⟩,cq (l:=[n,p]) rfl rfl rfl rfl,trivial⟩ rfl rfl ?_;with_reducible refine wK ?_
          (have fct:=fT;(repeat' (first
    |refine gF ?_
    | ((first
      |((with_reducible show af _ _ 76 _ _ _ _);refine af.lit [] h J7 ⟨⟨rfl,rfl,rfl,rfl,rfl,trivial⟩,rfl,trivial⟩ rfl rfl ?_)
      |((with_reducible show af _ _ 150 _ _ _ _);refine af.lit [] h5 La ⟨⟨rfl,rfl,rfl,rfl,rfl,trivial⟩,rfl,trivial⟩ rfl rfl ?_))<;>with_reducible refine wK ?_)
    |((with_reducible show(_∧_)∧_∧_);(refine eK ?_ ?_<;>with_reducible repeat' (first|exact trivial|(show _∧_;refine aK ?_ ?_))))));all_goals clear fct)
          all_goals first|rfl|(simp[eT];done)|trace_state
    · have fc:=eq_false ec
      cases e1:ae l c with
      | false=>
        rw[e1] at h1
        rw[dx ec]
        refine ak.aD (rvs:=[.tmp 8]) G au Tryz.func85 rfl Tryz.ntmps85 rfl rfl ?_;with_reducible refine wD ?_
        refine af.lit [141] h2 zP ⟨⟨rfl,rfl,trivial⟩,cq (l:=[n,p]) rfl rfl rfl rfl,trivial⟩ rfl rfl ?_;with_reducible refine wK ?_
        (have fct:=fc;(repeat' (first
    |refine gF ?_
    |(((with_reducible show af _ _ 71 _ _ _ _);refine af.lit [231] h1 zP ⟨⟨rfl,rfl,trivial⟩,cq (l:=[c]) rfl rfl rfl rfl,trivial⟩ rfl rfl ?_)<;>with_reducible refine wK ?_)
    | ((with_reducible show(_∧_)∧_∧_);(refine eK ?_ ?_<;>with_reducible repeat' (first|exact trivial|(show _∧_;refine aK ?_ ?_))))));all_goals clear fct)
        all_goals first|rfl|trace_state
      | true=>
        rw[e1] at h1
        have h:=h76 (by rw[e1];simp)
        rw[dx ec]
        refine ak.aD (rvs:=[.tmp 8]) G au Tryz.func85 rfl Tryz.ntmps85 rfl rfl ?_;with_reducible refine wD ?_
        refine af.lit [141] h2 zP ⟨⟨rfl,rfl,trivial⟩,cq (l:=[n,p]) rfl rfl rfl rfl,trivial⟩ rfl rfl ?_;with_reducible refine wK ?_
        (have fct:=fc;(repeat' (first
    |refine gF ?_
    | ((first
      |((with_reducible show af _ _ 71 _ _ _ _);refine af.lit [231] h1 zP ⟨⟨rfl,rfl,trivial⟩,cq (l:=[c]) rfl rfl rfl rfl,trivial⟩ rfl rfl ?_)
      |((with_reducible show af _ _ 76 _ _ _ _);refine af.lit [] h J7 ⟨⟨rfl,rfl,rfl,rfl,rfl,trivial⟩,rfl,trivial⟩ rfl rfl ?_))<;>with_reducible refine wK ?_)
    | ((with_reducible show(_∧_)∧_∧_);(refine eK ?_ ?_<;>with_reducible repeat' (first|exact trivial|(show _∧_;refine aK ?_ ?_))))));all_goals clear fct)
        all_goals first|rfl|trace_state
end Go.Proofs.Heir
