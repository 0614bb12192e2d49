/- Models, plain laws and contracts of functions of the given program; conditions as stated in each theorem. By an AI agent. -/
import Derived.Test.YtkhjcnjicjgfiaaGreatDoorWD30
import Derived.Test.YtkhjcnjicjgfiaaGreatDoorWD31
import Derived.Test.YtkhjcnjicjgfiaaGreatDoorWD14
import Derived.Test.YtkhjcnjicjgfiaaGreatDoorWD25
import Derived.Test.YtkhjcnjicjgfiaaGreatDoorWD27
import Derived.Test.YtkhjcnjicjgfiaaGreatDoorWD12
import Derived.Test.YtkhjcnjicjgfiaaGreatDoorWD26
import Derived.Test.YtkhjcnjicjgfiaaGreatDoorWD28
import Derived.Test.YtkhjcnjicjgfiaaGreatDoorWD19
import Derived.Test.YtkhjcnjicjgfiaaGreatDoorWD20
import Derived.Test.YtkhjcnjicjgfiaaGreatDoorWD15
import Derived.Test.YtkhjcnjicjgfiaaGreatDoorWD13
set_option linter.unusedSimpArgs false
set_option linter.unusedVariables false
namespace Go.Proofs.Heir
open Go Go.Am Go.RowKit Go.Lib
set_option maxRecDepth 100000
set_option maxHeartbeats 8000000
@[reducible] def rI (what : ByteArray) (e : Int) : Value := .iface 178 (.agg #[.string what, .iface 176 (.agg #[.int .i64 e])])
@[reducible] def xZ : ByteArray := ⟨#[97, 115, 107, 101, 100]⟩
@[reducible] def uG : AV := .lit .nilIface
theorem sC (what:ByteArray)(e:Int)(he:e≠0)(w:World):Calls Tryz.prog 60 #[.string what,.int .i64 e] w fun ev w'=>ev=.returned (rI what e)∧w'=w:=by
  go_enter Tryz.func60,Tryz.ntmps60
  go_wp2
  go_ret
  exact⟨rfl,rfl⟩
theorem zb (what:ByteArray)(e:Int)(he:e≠0):an Tryz.prog 60 [] [cw what,ay e] [] (.lit (rI what e)):=
  an.iH (vs:=[.string what,.int .i64 e]) fun w _=>(sC what e he w).mono (by rintro e w' ⟨rfl,rfl⟩;exact⟨rfl,Below.refl _ _⟩)
theorem vB (f:ForM)(hs:bO f.nodes)(n:Int)(h:(aU f&&aa f.nodes n)=true):an Tryz.prog 77 [] [bF f,ay n] [] uG:=by
  have h17:=ng f hs
  have hr:aU f=true:=by simp only[bJ] at h;exact h.1
  have ht:aa f.nodes n=true:=by simp only[bJ] at h;exact h.2
  rw[hr] at h17
  obtain⟨l,m⟩:=f
  simp only at h17 ht
  have hlm:(l.map cj).length=l.length:=bM ..
  have e0:¬n<0:=by unfold aa at ht;simp at ht;omega
  have e1:¬ (l.length:Int)≤n:=by unfold aa at ht;simp at ht;omega
  refine an.aF (rvs:=[.tmp 4]) G aq Tryz.func77 rfl Tryz.ntmps77 rfl rfl ?_;with_reducible refine wD ?_
  (have fct:=And.intro hlm (And.intro e0 (e1));(repeat' (first
    |refine gF ?_
    |(((with_reducible show ah _ _ 17 _ _ _ _);refine ah.lit [] h17 yg ⟨⟨rfl,rfl,trivial⟩,trivial⟩ rfl rfl ?_)<;>with_reducible refine wK ?_)
    |((with_reducible show(_∧_)∧_∧_);(refine eK ?_ ?_<;>with_reducible repeat' (first|exact trivial|(show _∧_;refine aK ?_ ?_))))));all_goals clear fct)
  all_goals rfl
theorem Fi (f:ForM)(hs:bO f.nodes)(n:Int)(h:(aU f&&aa f.nodes n)=false):an Tryz.prog 77 [] [bF f,ay n] [] (.lit (rI xZ 1)):=by
  have h17:=ng f hs
  have h60:=zb xZ 1 (by decide)
  obtain⟨l,m⟩:=f
  simp only at h h17
  have hlm:(l.map cj).length=l.length:=bM ..
  cases hr:aU ⟨l,m⟩ with
  | false=>
    rw[hr] at h17
    refine an.aF (rvs:=[.tmp 4]) G aq Tryz.func77 rfl Tryz.ntmps77 rfl rfl ?_;with_reducible refine wD ?_
    (have fct:=hlm;(repeat' (first
    |refine gF ?_
    | ((first
      |((with_reducible show ah _ _ 17 _ _ _ _);refine ah.lit [] h17 yg ⟨⟨rfl,rfl,trivial⟩,trivial⟩ rfl rfl ?_)
      |((with_reducible show ah _ _ 60 _ _ _ _);refine ah.lit [] h60 NQ ⟨rfl,rfl,trivial⟩ rfl rfl ?_))<;>with_reducible refine wK ?_)
    |((with_reducible show(_∧_)∧_∧_);(refine eK ?_ ?_<;>with_reducible repeat' (first|exact trivial|(show _∧_;refine aK ?_ ?_))))));all_goals clear fct)
    all_goals rfl
  | true=>
    have ht:aa l n=false:=by rw[hr] at h;simpa using h
    rw[hr] at h17
    by_cases e0:n<0
    · refine an.aF (rvs:=[.tmp 4]) G aq Tryz.func77 rfl Tryz.ntmps77 rfl rfl ?_;with_reducible refine wD ?_
      (have fct:=And.intro hlm (e0);(repeat' (first
    |refine gF ?_
    | ((first
      |((with_reducible show ah _ _ 17 _ _ _ _);refine ah.lit [] h17 yg ⟨⟨rfl,rfl,trivial⟩,trivial⟩ rfl rfl ?_)
      |((with_reducible show ah _ _ 60 _ _ _ _);refine ah.lit [] h60 NQ ⟨rfl,rfl,trivial⟩ rfl rfl ?_))<;>with_reducible refine wK ?_)
    | ((with_reducible show(_∧_)∧_∧_);(refine eK ?_ ?_<;>with_reducible repeat' (first|exact trivial|(show _∧_;refine aK ?_ ?_))))));all_goals clear fct)
      all_goals rfl
    · have e1:(l.length:Int)≤n:=by unfold aa at ht;simp at ht;omega
      refine an.aF (rvs:=[.tmp 4]) G aq Tryz.func77 rfl Tryz.ntmps77 rfl rfl ?_;with_reducible refine wD ?_
      (have fct:=And.intro hlm (And.intro e0 (e1));(repeat' (first
    |refine gF ?_
    | ((first
      |((with_reducible show ah _ _ 17 _ _ _ _);refine ah.lit [] h17 yg ⟨⟨rfl,rfl,trivial⟩,trivial⟩ rfl rfl ?_)
      |((with_reducible show ah _ _ 60 _ _ _ _);refine ah.lit [] h60 NQ ⟨rfl,rfl,trivial⟩ rfl rfl ?_))<;>with_reducible refine wK ?_)
    | ((with_reducible show(_∧_)∧_∧_);(refine eK ?_ ?_<;>with_reducible repeat' (first|exact trivial|(show _∧_;refine aK ?_ ?_))))));all_goals clear fct)
      all_goals rfl
@[reducible] def tP : AV := .lit (.slice none 0 0)

theorem Az {m:ML}{fz:Nat→Bool}{tab:List (Nat×Nat)}{n t len wd:Nat}{ro:Bool}{rows rows':List AV}(h1:dc m t=.live wd rows ro)(h2:fz t=true)(h3:rows=rows')(h4:len=rows'.length)(h5:aV rows'=true):sN m fz (MF tab fz m n) (.sl wd rows') t 0 len:=by
  subst h3;subst h4
  exact .cut h1 h2 (by omega) (by rw[List.drop_zero,nU (by omega)]) h5
@[reducible] def HN (l : List bZ) : AV := .sl 9 (l.map kE)
theorem FQ (f:ForM)(hs:bO f.nodes)(g:Nat)(cg:af Tryz.prog g)(caps:List AV)(hcaps:aV caps=true)(what:ByteArray)(e:Int)(hg:an Tryz.prog g [dg f.most f.nodes.length 1 tP,iP f.nodes] (.ptr 0 0 0::caps) [dg f.most f.nodes.length 1 tP,iP f.nodes] (.lit (rI what e))):
    an Tryz.prog 56 [] [bF f,uG,.clo (.func g) [] caps] [] (.tup [bF f,HN [],ay e]):=by
  have h121:=Dc f hs
  have h122:=FB what e
  obtain⟨l,m⟩:=f
  simp only at*
  refine an.aF (rvs:=[.cell 6 24,.tmp 7,.tmp 8]) G aq Tryz.func56 rfl Tryz.ntmps56 rfl rfl ?_;with_reducible refine wD ?_
  repeat' (first
    |refine gK ?_
    | ((first
      |((with_reducible show ah _ _ 121 _ _ _ _);refine ah.dw (news:=[dg m l.length 111 tP,iP l]) [110,111] [] h121 LL ⟨⟨rfl,rfl,trivial⟩,trivial⟩ trivial rfl ⟨⟨rfl,rfl⟩,rfl⟩ rfl ⟨⟨rfl,.inr ⟨rfl,rfl,rfl⟩⟩,⟨rfl,.inl ⟨rfl,bI _⟩⟩,trivial⟩ rfl rfl ?_)
      |((with_reducible show bt _ _ _ _ _);first|refine bt.AE true Tryz.underlying98 rfl rfl rfl rfl rfl ?_|refine bt.AE false Tryz.underlying98 rfl rfl rfl rfl rfl ?_|refine bt.Ae false Tryz.underlying98 rfl rfl rfl rfl rfl ?_|refine bt.Ae true Tryz.underlying98 rfl rfl rfl rfl rfl ?_)
      |((with_reducible show ah _ _ 122 _ _ _ _);refine ah.lit [] h122 Nd ⟨⟨rfl,rfl⟩,trivial⟩ rfl rfl ?_)
      |((with_reducible show ah _ _ _ _ _ _ _);refine ah.dw (news:=[dg m l.length 111 tP,iP l]) [110,111] [] hg cg ⟨⟨rfl,rfl⟩,aQ hcaps⟩ ⟨⟨rfl,.inr ⟨⟨⟨⟨rfl,rfl⟩,rfl,.inl rfl,trivial⟩,trivial⟩,rfl⟩⟩,⟨rfl,.inl ⟨rfl,bI _⟩⟩,trivial⟩ rfl ⟨⟨rfl,rfl⟩,rfl⟩ rfl ⟨⟨rfl,.inr ⟨rfl,rfl,rfl⟩⟩,⟨rfl,.inl ⟨rfl,bI _⟩⟩,trivial⟩ rfl rfl ?_)
      |((with_reducible show aH _ _ _ _);refine dK ?_))<;>with_reducible refine wK ?_)
    |((with_reducible show(_∧_)∧_∧_);(refine eK ?_ ?_<;>with_reducible repeat' (first|exact trivial|(show _∧_;refine aK ?_ ?_)))))
  all_goals first
    |rfl
    |exact Az rfl rfl rfl hlm.symm (bI _)
    |exact Az rfl rfl rfl rfl rfl
    |exact⟨.refl rfl,rfl⟩
    |exact(.inl rfl:wX _)
    |exact .inr (.inr ⟨9,rfl⟩)
    |trace_state
theorem Hq (f:ForM)(hs:bO f.nodes)(g:Nat)(caps:List AV)(what:ByteArray)(e:Int)                   :
    an Tryz.prog 56 [] [bF f,.lit (rI what e),.clo (.func g) [] caps] [] (.tup [bF f,HN [],ay e]):=by
  have h121:=Dc f hs
  have h122:=FB what e
  obtain⟨l,m⟩:=f
  simp only at*
  refine an.aF (rvs:=[.cell 6 24,.tmp 7,.tmp 8]) G aq Tryz.func56 rfl Tryz.ntmps56 rfl rfl ?_;with_reducible refine wD ?_
  repeat' (first
    |refine gK ?_
    | ((first
      |((with_reducible show ah _ _ 121 _ _ _ _);refine ah.dw (news:=[dg m l.length 111 tP,iP l]) [110,111] [] h121 LL ⟨⟨rfl,rfl,trivial⟩,trivial⟩ trivial rfl ⟨⟨rfl,rfl⟩,rfl⟩ rfl ⟨⟨rfl,.inr ⟨rfl,rfl,rfl⟩⟩,⟨rfl,.inl ⟨rfl,bI _⟩⟩,trivial⟩ rfl rfl ?_)
      |((with_reducible show bt _ _ _ _ _);first|refine bt.AE true Tryz.underlying98 rfl rfl rfl rfl rfl ?_|refine bt.AE false Tryz.underlying98 rfl rfl rfl rfl rfl ?_|refine bt.Ae false Tryz.underlying98 rfl rfl rfl rfl rfl ?_|refine bt.Ae true Tryz.underlying98 rfl rfl rfl rfl rfl ?_)
      |((with_reducible show ah _ _ 122 _ _ _ _);refine ah.lit [] h122 Nd ⟨⟨rfl,rfl⟩,trivial⟩ rfl rfl ?_)
      |((with_reducible show aH _ _ _ _);refine dK ?_))<;>with_reducible refine wK ?_)
    |((with_reducible show(_∧_)∧_∧_);(refine eK ?_ ?_<;>with_reducible repeat' (first|exact trivial|(show _∧_;refine aK ?_ ?_)))))
  all_goals first
    |rfl
    |exact Az rfl rfl rfl hlm.symm (bI _)
    |exact Az rfl rfl rfl rfl rfl
    |exact⟨.refl rfl,rfl⟩
    |exact(.inl rfl:wX _)
    |exact .inr (.inr ⟨9,rfl⟩)
    |trace_state
theorem oP (f:ForM)(ns:List bZ)(e:Int):bj (.tup [bF f,HN ns,ay e])=true:=by
  have h1:=bI f.nodes
  have h2:aV (ns.map kE)=true:=dL kE (fun _=>rfl) _
  simp[bj,aV,h1,h2]
@[reducible] def GG : ByteArray := ⟨#[111, 117, 116]⟩
theorem wZ (l:List ai)(m:Int)(hs:bO l)(k:Nat)(y:ai)(hy:l[k]? =some y)(hp:y.parent=-1):
    an Tryz.prog 78 [dg m l.length 1 tP,iP l] [.ptr 0 0 0,.fptr (ay k) 0] [dg m l.length 1 tP,iP l] (.lit (rI GG 6)):=by
  have hkl:k<l.length:=(br hy).1
  have hlm:(l.map cj).length=l.length:=bM ..
  have h60:=zb GG 6 (by decide)
  obtain⟨y1,y2,y3,y4,y5,y6,y7,y8,y9,y10⟩:=y
  simp only at hp
  have hp':=eq_true hp
  refine an.sS [] (rvs:=[.tmp 3]) G aq Tryz.func78 rfl Tryz.ntmps78 rfl rfl ?_;with_reducible refine wD ?_
  (have fct:=And.intro hlm (hp');(repeat' (first
    |refine gF ?_
    | ((first
      |((with_reducible show gX _ _ _ _ _);refine gX.mk k rfl hkl ?_)
      |((with_reducible show bE _ _ _ _ _);refine bE.mk (aR ⟨y1,y2,y3,y4,y5,y6,y7,y8,y9,y10⟩) (by first|exact aI hy|(rw[Nat.zero_add];exact aI hy)) ?_)
      |((with_reducible show ah _ _ 60 _ _ _ _);refine ah.lit [] h60 NQ ⟨rfl,rfl,trivial⟩ rfl rfl ?_)
      |((with_reducible show aH _ _ _ _);refine dK ?_))<;>with_reducible refine wK ?_)
    |((with_reducible show(_∧_)∧_∧_);(refine eK ?_ ?_<;>with_reducible repeat' (first|exact trivial|(show _∧_;refine aK ?_ ?_))))));all_goals clear fct)
  all_goals first
    |rfl
    |exact⟨.refl rfl,rfl⟩
    |exact(.inl rfl:wX _)
    |exact⟨.refl (bI _),bI _⟩
    |trace_state
theorem yT (f:ForM)(hs:bO f.nodes)(hr:aU f=true)(k:Nat)(y:ai)(hy:f.nodes[k]? =some y)(hp:y.parent=-1):an Tryz.prog 32 [] [bF f,ay k] [] (.tup [bF f,HN [],ay 6]):=by
  have h77:=vB f hs k (by rw[hr,eF hy];rfl)
  have h56:=FQ f hs 78 Pj [.fptr (ay k) 0] rfl GG 6 (wZ f.nodes f.most hs k y hy hp)
  obtain⟨l,m⟩:=f
  have hn:=oP ⟨l,m⟩ [] 6
  refine an.aF (rvs:=[.cell 4 24,.tmp 5,.tmp 6]) G aq Tryz.func32 rfl Tryz.ntmps32 rfl rfl ?_;with_reducible refine wD ?_
  repeat' (first
    |refine gK ?_
    | ((first
      |((with_reducible show ah _ _ 77 _ _ _ _);refine ah.lit [] h77 Ol ⟨⟨rfl,rfl,trivial⟩,rfl,trivial⟩ rfl rfl ?_)
      |((with_reducible show ah _ _ 56 _ _ _ _);refine ah.val [30] h56 O2 ⟨⟨rfl,rfl,trivial⟩,⟨rfl,rfl⟩,⟨rfl,trivial,⟨_,_,_,_,_,rfl,rfl,rfl,rfl,rfl,rfl⟩,trivial⟩,trivial⟩ rfl rfl hn ?_)
      |((with_reducible show aH _ _ _ _);refine dK ?_))<;>with_reducible refine wK ?_)
    |((with_reducible show(_∧_)∧_∧_);(refine eK ?_ ?_<;>with_reducible repeat' (first|exact trivial|(show _∧_;refine aK ?_ ?_)))))
  all_goals first|rfl|trace_state
theorem zA {l:List ai}{m:Int}{a b:Nat}{ka kb k2:List Int}{y:ai}{told:List bZ}{l':List ai}(hL:l.length≤1000)(hy:l[b]? =some y)(hp:y.parent≠-1)(hlen:l'.length=l.length)
    (h79:an Tryz.prog 79 [dg m l.length 4 (.own 3 0 0),bS ka,bS kb,gP [],cZ l a 1 b 2] [.ptr 0 0 0,ay b]
      [dg m l.length 4 (.own 6 0 told.length),.dead,bS kb,.dead,cZ l' a 5 b 2,bS k2,gP told] (.tup [])) (hab:b≠a):
    an Tryz.prog 78 [dg m l.length 4 (.own 3 0 0),bS ka,bS kb,gP [],cZ l a 1 b 2] [.ptr 0 0 0,.fptr (ay b) 0]
      [dg m l.length 4 (.own 6 0 told.length),.dead,bS kb,.dead,cZ l' a 5 b 2,bS k2,gP told] uG:=by
  have hbl:=(br hy).1
  have g2:(bC l a 1 b 2)[b]? =some (gw y 2):=Km hy hab
  have hlr:(bC l a 1 b 2).length=l.length:=bR
  obtain⟨y1,y2,y3,y4,y5,y6,y7,y8,y9,y10⟩:=y
  simp only at hp
  have hp':=eq_false hp
  refine an.sS [(5,151),(6,163)] (rvs:=[.tmp 3]) G aq Tryz.func78 rfl Tryz.ntmps78 rfl rfl ?_;with_reducible refine wD ?_
  (have fct:=hp';(repeat' (first
    |refine gF ?_
    | ((first
      |((with_reducible show gX _ _ _ _ _);refine gX.mk b rfl (by first|exact hbl|(simp;omega)) ?_)
      |((with_reducible show bE _ _ _ _ _);refine bE.mk _ (by first|exact g2|(rw[Nat.zero_add];exact g2)) ?_)
      |((with_reducible show ah _ _ 79 _ _ _ _);refine ah.dw (news:=[dg m l.length 4 (.own 163 0 told.length),.dead,bS kb,.dead,cZ l' a 151 b 2,bS k2,gP told]) [0,1,2,3,4,151,163] [] h79 Pp ⟨⟨rfl,rfl⟩,rfl,trivial⟩ ⟨⟨rfl,.inr ⟨⟨⟨⟨rfl,rfl⟩,rfl,⟨rfl,rfl⟩,trivial⟩,trivial⟩,rfl⟩⟩,⟨rfl,.inl ⟨rfl,ae _⟩⟩,⟨rfl,.inl ⟨rfl,ae _⟩⟩,⟨rfl,.inl ⟨rfl,bK _⟩⟩,⟨rfl,k8 (fun _=>rfl) (fun _=>rfl)⟩,trivial⟩ rfl ⟨⟨rfl,rfl⟩,rfl⟩ rfl ⟨⟨rfl,.inr ⟨rfl,rfl,rfl⟩⟩,⟨rfl,.inl ⟨rfl,ae _⟩⟩,⟨rfl,jr rfl rfl (by decide) (by decide)⟩,⟨rfl,.inl ⟨rfl,ae _⟩⟩,⟨rfl,.inl ⟨rfl,bK _⟩⟩,trivial⟩ rfl rfl ?_)
      |((with_reducible show aH _ _ _ _);refine dK ?_))<;>with_reducible refine wK ?_)
    |((with_reducible show(_∧_)∧_∧_);(refine eK ?_ ?_<;>with_reducible repeat' (first|exact trivial|(show _∧_;refine aK ?_ ?_))))));all_goals clear fct)
  all_goals first
    |rfl
    |exact⟨.refl (ae _),ae _⟩
    |exact⟨.refl (bK _),bK _⟩
    |exact cR (fun _=>rfl) (fun _=>rfl)
    |trace_state
theorem LQ (f:ForM)(hs:bO f.nodes){a b:Nat}{ya yb:ai}(hab:a≠b)(ha:f.nodes[a]? =some ya)(hb:f.nodes[b]? =some yb)(g:Nat)(cg:af Tryz.prog g)(caps:List AV)(hcaps:aV caps=true)(l':List ai)(k2:List Int)(told:List bZ)(hl:l'.length=f.nodes.length)
    (hka:∀y,l'[a]? =some y→y.kids=k2) (hkb:∀y,l'[b]? =some y→y.kids=yb.kids)
    (hg:an Tryz.prog g [dg f.most f.nodes.length 4 (.own 3 0 0),bS ya.kids,bS yb.kids,gP [],cZ f.nodes a 1 b 2] (.ptr 0 0 0::caps)
      [dg f.most f.nodes.length 4 (.own 6 0 told.length),.dead,bS yb.kids,.dead,cZ l' a 5 b 2,bS k2,gP told] uG):
    an Tryz.prog 56 [] [bF f,uG,.clo (.func g) [] caps] [] (.tup [bF ⟨l',f.most⟩,HN told,ay 0]):=by
  have h121:=MU f hs hab ha hb
  have hlm:(l'.map cj).length=f.nodes.length:=by rw[bM,hl]
  obtain⟨l,m⟩:=f
  simp only at*
  refine an.aF (rvs:=[.cell 6 24,.tmp 7,.tmp 8]) G aq Tryz.func56 rfl Tryz.ntmps56 rfl rfl ?_;with_reducible refine wD ?_
  repeat' (first
    |refine gK ?_
    | ((first
      |((with_reducible show ah _ _ 121 _ _ _ _);refine ah.dw (news:=[dg m l.length 114 (.own 113 0 0),bS ya.kids,bS yb.kids,.live 9 [] false,cZ l a 111 b 112]) [110,111,112,113,114] [] h121 LL ⟨⟨rfl,rfl,trivial⟩,trivial⟩ trivial rfl ⟨⟨rfl,rfl⟩,rfl⟩ rfl ⟨⟨rfl,.inr ⟨rfl,rfl,rfl⟩⟩,⟨rfl,.inl ⟨rfl,ae _⟩⟩,⟨rfl,.inl ⟨rfl,ae _⟩⟩,⟨rfl,.inl ⟨rfl,rfl⟩⟩,⟨rfl,jr rfl rfl (by decide) (by decide)⟩,trivial⟩ rfl rfl ?_)
      |((with_reducible show bt _ _ _ _ _);first|refine bt.AE true Tryz.underlying98 rfl rfl rfl rfl rfl ?_|refine bt.Ae false Tryz.underlying98 rfl rfl rfl rfl rfl ?_)
      |((with_reducible show ah _ _ _ _ _ _ _);refine ah.dw (news:=[dg m l.length 114 (.own 163 0 told.length),.dead,bS yb.kids,.dead,cZ l' a 161 b 112,bS k2,gP told]) [110,111,112,113,114,161,163] [] hg cg ⟨⟨rfl,rfl⟩,aQ hcaps⟩ ⟨⟨rfl,.inr ⟨⟨⟨⟨rfl,rfl⟩,rfl,⟨rfl,rfl⟩,trivial⟩,trivial⟩,rfl⟩⟩,⟨rfl,.inl ⟨rfl,ae _⟩⟩,⟨rfl,.inl ⟨rfl,ae _⟩⟩,⟨rfl,.inl ⟨rfl,rfl⟩⟩,⟨rfl,k8 (fun _=>rfl) (fun _=>rfl)⟩,trivial⟩ rfl ⟨⟨rfl,rfl⟩,rfl⟩ rfl ⟨⟨rfl,.inr ⟨rfl,rfl,rfl⟩⟩,⟨rfl,.inl ⟨rfl,ae _⟩⟩,⟨rfl,jr rfl rfl (by decide) (by decide)⟩,⟨rfl,.inl ⟨rfl,ae _⟩⟩,⟨rfl,.inl ⟨rfl,bK _⟩⟩,trivial⟩ rfl rfl ?_)
      |((with_reducible show aH _ _ _ _);refine dK ?_))<;>with_reducible refine wK ?_)
    |((with_reducible show(_∧_)∧_∧_);(refine eK ?_ ?_<;>with_reducible repeat' (first|exact trivial|(show _∧_;refine aK ?_ ?_)))))
  all_goals first
    |rfl
    |exact Az rfl rfl rfl (by simp) (bK _)
    |exact(by rw[←hl];exact yx (ra:=false) (rb:=false) (ea:=[]) (eb:=[]) rfl rfl (fun y hy=>by rw[List.append_nil,hka y hy];exact⟨rfl,rfl⟩) (fun y hy=>by rw[List.append_nil,hkb y hy];exact⟨rfl,rfl⟩))
    |trace_state
end Go.Proofs.Heir
namespace Go.Proofs.Heir
open Go Go.Am Go.RowKit Go.Lib
set_option maxRecDepth 100000
set_option maxHeartbeats 8000000
set_option maxHeartbeats 2000000
structure r6 (f g:ForM) (ns:List bZ):Prop where
  right:aU g=true
  len:g.nodes.length=f.nodes.length
  told:Told f.nodes g.nodes ns
  kind:∀x,aa f.nodes x=true→(nd g.nodes x).kind=(nd f.nodes x).kind
  chain:∀n,aa f.nodes n=true→∀t,cz t=true→nW t=t→tZ n t (GX (nd f.nodes n).attrs t) ns=some (GX (nd g.nodes n).attrs t)
theorem r6.nil {f:ForM}(h:aU f=true):r6 f f []:=⟨h,rfl,.nil _,fun _ _=>rfl,fun _ _ _ _ _=>rfl⟩
theorem r6.last {f g:ForM}{ns:List bZ}(h:r6 f g ns){n:Int}(hn:aa f.nodes n=true)(h1:(nd f.nodes n).kind=1):runN (NT (pI f.nodes n),(nd f.nodes n).doc) (o8 n ns)=some (NT (pI g.nodes n),(nd g.nodes n).doc):=h.told.run n hn h1
section
variable {l : List ai} {m : Int}
end
theorem yI:∀ {cs:List Int} {b:Int},b∈cs→∃k:Nat,k<cs.length∧cs[k]? =some b∧(∀ (j:Nat) x,j<k→cs[j]? =some x→x≠b)∧cs.takeWhile (fun c=>decide (c≠b))=cs.take k∧cs.dropWhile (fun c=>decide (c≠b))=cs.drop k∧cs.erase b=cs.take k++cs.drop (k+1)
  |[],b,h=>by cases h
  | a :: r,b,h=>by
    by_cases e:a=b
    · subst e
      refine⟨0,by simp,rfl,fun j x hj=>by omega,?_,?_,?_⟩
      ·rw[List.takeWhile_cons,if_neg (by simp)];rfl
      ·rw[List.dropWhile_cons,if_neg (by simp)];rfl
      ·rw[List.erase_cons_head];rfl
    · obtain⟨k,h1,h2,h3,h4,h5,h6⟩:=yI ((dZ.1 h).resolve_left fun q=>e q.symm)
      refine⟨k+1,by simp;omega,by simpa using h2,fun j x hj hx=>?_,?_,?_,?_⟩
      · cases j with
        |zero=>simp at hx;rw[←hx];exact e
        |succ j=>exact h3 j x (by omega) (by simpa using hx)
      ·rw[List.takeWhile_cons,if_pos (by simpa using e),h4];rfl
      ·rw[List.dropWhile_cons,if_pos (by simpa using e),h5];rfl
      ·rw[List.erase_cons,if_neg (by simpa using e),h6];rfl
end Go.Proofs.Heir
namespace Go.Proofs.Heir
open Go Go.Am Go.RowKit Go.Lib
set_option maxRecDepth 100000
set_option maxHeartbeats 8000000
theorem A9 (f:ForM)(n:Int)(what:ByteArray)(e:Int)(r:ForM)(ns:List bZ)(z:Int)(h77:an Tryz.prog 77 [] [bF f,ay n] [] (.lit (rI what e)))
    (h56:an Tryz.prog 56 [] [bF f,.lit (rI what e),.clo (.func 78) [] [.fptr (ay n) 0]] [] (.tup [bF r,HN ns,ay z])):an Tryz.prog 32 [] [bF f,ay n] [] (.tup [bF r,HN ns,ay z]):=by
  obtain⟨l,m⟩:=f
  obtain⟨l',m'⟩:=r
  refine an.aF (rvs:=[.cell 4 24,.tmp 5,.tmp 6]) G aq Tryz.func32 rfl Tryz.ntmps32 rfl rfl ?_;with_reducible refine wD ?_
  repeat' (first
    |refine gK ?_
    | ((first
      |((with_reducible show ah _ _ 77 _ _ _ _);refine ah.lit [] h77 Ol ⟨⟨rfl,rfl,trivial⟩,rfl,trivial⟩ rfl rfl ?_)
      |((with_reducible show ah _ _ 56 _ _ _ _);refine ah.val [30] h56 O2 ⟨⟨rfl,rfl,trivial⟩,⟨rfl,rfl⟩,⟨rfl,trivial,⟨_,_,_,_,_,rfl,rfl,rfl,rfl,rfl,rfl⟩,trivial⟩,trivial⟩ rfl rfl rfl ?_)
      |((with_reducible show aH _ _ _ _);refine dK ?_))<;>with_reducible refine wK ?_)
    |((with_reducible show(_∧_)∧_∧_);(refine eK ?_ ?_<;>with_reducible repeat' (first|exact trivial|(show _∧_;refine aK ?_ ?_)))))
  all_goals first|rfl|trace_state
theorem AZ (f:ForM)(n:Int)(r:ForM)(ns:List bZ)(z:Int)(h77:an Tryz.prog 77 [] [bF f,ay n] [] uG)
    (h56:an Tryz.prog 56 [] [bF f,uG,.clo (.func 78) [] [.fptr (ay n) 0]] [] (.tup [bF r,HN ns,ay z])):an Tryz.prog 32 [] [bF f,ay n] [] (.tup [bF r,HN ns,ay z]):=by
  obtain⟨l,m⟩:=f
  obtain⟨l',m'⟩:=r
  refine an.aF (rvs:=[.cell 4 24,.tmp 5,.tmp 6]) G aq Tryz.func32 rfl Tryz.ntmps32 rfl rfl ?_;with_reducible refine wD ?_
  repeat' (first
    |refine gK ?_
    | ((first
      |((with_reducible show ah _ _ 77 _ _ _ _);refine ah.lit [] h77 Ol ⟨⟨rfl,rfl,trivial⟩,rfl,trivial⟩ rfl rfl ?_)
      |((with_reducible show ah _ _ 56 _ _ _ _);refine ah.val [30] h56 O2 ⟨⟨rfl,rfl,trivial⟩,⟨rfl,rfl⟩,⟨rfl,trivial,⟨_,_,_,_,_,rfl,rfl,rfl,rfl,rfl,rfl⟩,trivial⟩,trivial⟩ rfl rfl rfl ?_)
      |((with_reducible show aH _ _ _ _);refine dK ?_))<;>with_reducible refine wK ?_)
    |((with_reducible show(_∧_)∧_∧_);(refine eK ?_ ?_<;>with_reducible repeat' (first|exact trivial|(show _∧_;refine aK ?_ ?_)))))
  all_goals first|rfl|trace_state
theorem Gr (l:List ai)(m:Int)(R:RF l m){n:Int}(hn:aa l n=true)(x:bZ):ru l n x=(Gz ⟨l,m⟩ n).map (jX x):=by
  unfold ru Gz MM jz pT jX
  rw[if_pos (by rw[lV.2 R,hn];rfl)]
  simp
theorem Jf (l:List ai)(m:Int)(R:RF l m)(hl:l.length≤64)(n:Int)(hn:aa l n=true):(pT ⟨l,m⟩ n).length≤1000∧(Gz ⟨l,m⟩ n).length≤1000:=by
  have h:(pT ⟨l,m⟩ n).length≤1000:=by
    unfold pT
    rw[if_pos (by rw[lV.2 R,hn];rfl)]
    have:=U.lD R.tree l.length hn
    show(U.cD l l.length n).length≤1000
    omega
  exact⟨h,Nat.le_trans (List.length_filter_le ..) h⟩
theorem K9 (f:ForM)(hs:bO f.nodes)(n:Int):an Tryz.prog 32 [] [bF f,ay n] [] (.tup [bF (ji f n).1,HN (ji f n).2.1,ay (ji f n).2.2]):=by
  cases hrt:(aU f&&aa f.nodes n) with
  | false=>
    have e:ji f n=(f,[],1):=by unfold ji;rw[hrt];rfl
    rw[e]
    exact A9 f n xZ 1 f [] 1 (Fi f hs n hrt) (Hq f hs 78 _ xZ 1)
  | true =>
    simp only[bJ] at hrt
    obtain⟨hr,ht⟩:=hrt
    obtain⟨b,y,rfl,hy,_⟩:=bp.1 ht
    obtain⟨l,m⟩:=f
    have R:RF l m:=lV.1 hr
    have hnd:=fZ hy
    by_cases hp:y.parent=-1
    · have e:=tQ R ht (by rw[hnd];exact hp)
      rw[e]
      exact yT ⟨l,m⟩ hs hr b y hy hp
    · have hq:=R.par b ht (by rw[hnd];exact hp)
      rw[hnd] at hq
      have e:=ur R ht (by rw[hnd];exact hp)
      rw[e]
      obtain⟨a,ya,hpa,ha,_⟩:=bp.1 hq.2.1
      rw[hpa] at hq hp
      have hnda:=fZ ha
      have hmem:(b:Int)∈ya.kids:=by
        have:=hq.2.2.2
        rwa [hnda] at this
      have hab:b≠a:=by
        intro e
        have h1:=R.tv ht
        rw[R.uq ht (by rw[hnd,hpa];exact hp),hnd,hpa,e] at h1
        exact h1 rfl
      obtain⟨i,hi,hib,hno,_,_,her⟩:=yI hmem
      have hs64:l.length≤64:=hs.len
      have hkl:ya.kids.length≤60:=hs.kids ya (bN ha)
      have hel:=Jf l m R hs64 b ht
      have h35:=HJ ⟨l,m⟩ hs b
      rw[show D4 ⟨l,m⟩ b=pI l b by unfold D4 pI;rw[hr,ht];rfl] at h35
      have h34:=HR ⟨l,m⟩ hs b (by rw[hr,ht];rfl) (by omega)
      have h73:=GF ya.kids (by omega) b
      rw[kS hib (dB rfl) fun j x hj hx=>dQ (hno j x hj hx)] at h73
      have h145:=AP (rows:=ya.kids.map bu) (Fk ya.kids) i (i+1) (by omega) (by simp;omega)
      rw[bM,←List.map_take,←List.map_drop,←gL,show i+ (ya.kids.length- (i+1))=(ya.kids.take i++ya.kids.drop (i+1)).length by simp;omega] at h145
      have hto:(if pI l b=true then ru l b (kZ 2 0 0) else[])=(if pI l b=true then(Gz ⟨l,m⟩ b).map (jX uh) else[]):=by
        rw[Gr l m R ht];rfl
      have h79:=NG (l:=l) (m:=m) (a:=a) (b:=b) (i:=i) (ns:=[]) (told:=if pI l b=true then(Gz ⟨l,m⟩ b).map (jX uh) else[]) rfl (by omega) ha (kb:=y.kids) (fun z hz=>by rw[hy] at hz;cases hz;rfl) hy hab rfl hpa hi (by omega) hel.2 (by simp) h35 h34 h73 h145
      have hout:dh l b=(l.set a {ya with kids:=ya.kids.take i++ya.kids.drop (i+1)}).set b {y with parent:=-1}:=by
        unfold dh
        rw[hnd,if_neg (by rw[hpa];exact hp)]
        unfold zi
        rw[hpa,hnda]
        dsimp only
        rw[her,Int.toNat_natCast,Int.toNat_natCast]
        congr 1
        have:nd (l.set a {ya with kids:=ya.kids.take i++ya.kids.drop (i+1)}) b=y:=fZ (by rw[List.getElem?_set,if_neg (fun e=>hab e.symm)];exact hy)
        rw[this]
      rw[hto,hout]
      have hlen:((l.set a {ya with kids:=ya.kids.take i++ya.kids.drop (i+1)}).set b {y with parent:=-1}).length=l.length:=by simp
      generalize(if pI l b=true then(Gz ⟨l,m⟩ b).map (jX uh) else[])=told at h79 ⊢
      have hA:∀z,((l.set a {ya with kids:=ya.kids.take i++ya.kids.drop (i+1)}).set b {y with parent:=-1})[a]? =some z→z.kids=ya.kids.take i++ya.kids.drop (i+1):=fun z hz=>by
        rw[List.getElem?_set,if_neg hab,List.getElem?_set,if_pos rfl,if_pos (br ha).1] at hz
        cases hz;rfl
      have hB:∀z,((l.set a {ya with kids:=ya.kids.take i++ya.kids.drop (i+1)}).set b {y with parent:=-1})[b]? =some z→z.kids=y.kids:=fun z hz=>by
        rw[List.getElem?_set,if_pos rfl,if_pos (by rw[List.length_set];exact(br hy).1)] at hz
        cases hz;rfl
      exact AZ ⟨l,m⟩ b _ _ 0 (vB ⟨l,m⟩ hs b (by rw[hr,ht];rfl))
        (LQ ⟨l,m⟩ hs (fun e=>hab e.symm) ha hy 78 Pj [.fptr (ay b) 0] rfl _ _ told hlen hA hB
          (zA (show l.length≤1000 by omega) hy (by rw[hpa];exact hp) hlen h79 hab))
end Go.Proofs.Heir
namespace Go.Proofs.Heir
open Go Go.Am Go.RowKit Go.Lib
set_option maxRecDepth 100000
set_option maxHeartbeats 8000000
set_option maxHeartbeats 2000000
section
variable {l l' : List ai} {m : Int}
theorem Gi (T:Tree l){a b:Int}(ha:aa l a=true)(hb:aa l b=true)(h1:a∈bk l b)(h2:b∈bk l a):a=b:=by
  obtain⟨t,ht⟩:=fO T b hb a h1
  obtain⟨s,hs⟩:=fO T a ha b h2
  have e1:=congrArg List.length ht
  have e2:=congrArg List.length hs
  rw[j7] at e1 e2
  have:t=[]:=List.length_eq_zero_iff.1 (by omega)
  rw[this,List.nil_append] at ht
  obtain⟨r1,q1⟩:=dm T ha
  obtain⟨r2,q2⟩:=dm T hb
  rw[q1,q2] at ht
  exact(List.cons.inj ht).1.symm
theorem GY (T:Tree l){a b k:Int}(hk:aa l k=true)(ha:a∈bk l k)(hb:b∈bk l k):a∈bk l b∨b∈bk l a:=by
  obtain⟨t,ht⟩:=fO T k hk a ha
  obtain⟨s,hs⟩:=fO T k hk b hb
  have hat:=eB T k hk a ha
  have hbt:=eB T k hk b hb
  rw[ht] at hs
  rcases List.append_eq_append_iff.1 hs with⟨c,_,h⟩|⟨c,_,h⟩
  ·right;rw[h];exact List.mem_append_right _ (eV T hbt)
  ·left;rw[h];exact List.mem_append_right _ (eV T hat)
theorem EC (T:Tree l){k:Int}(hk:aa l k=true):(bk l k).Nodup:=by
  unfold bk
  rw[zC]
  exact MD (by rw[←AK];exact T.fin k hk)
theorem zc (R:RF l m){n k:Int}(hn:aa l n=true)(hk:aa l k=true)(h:n∉bk l k):bk (dh l n) k=bk l k:=by
  have T:=R.tJ
  unfold bk at h ⊢
  rw[zC] at h
  rw[zC,zC,o5]
  refine(wj (P:=fun x=>aa l x=true) (k:=n) (g:=fun n=>(nd l n).parent) (g':=fun x=>(nd (dh l n) x).parent) (fun x hx hne=>?_) (fun y hy h=>(R.par y hy h).2.1) hk (by rw[←AK];exact T.fin k hk) h).2
  show(nd (dh l n) x).parent=(nd l x).parent
  rw[(gg R hn x hx).2.2.1,if_neg hne]
theorem BA (R:RF l m){n:Int}(hn:aa l n=true)(hp:(nd l n).parent≠-1):∀k,aa l k=true→n∈bk l k→∃t,bk l k=t++bk l n∧bk (dh l n) k=t++ [n]:=by
  have T:=R.tJ
  have T1:=(qp R hn).tJ
  have Q:=fJ (o5 l n)
  have L:=gg R hn
  refine kr T (P:=fun k=>n∈bk l k→∃t,bk l k=t++bk l n∧bk (dh l n) k=t++ [n]) (fun k hk hu hw=>?_) (fun k hk hu hq ih hw=>?_)
  · rw[fj T hk hu,kX] at hw
    rw[←hw] at hu;exact absurd hu hp
  · by_cases e:k=n
    · subst e
      refine⟨[],rfl,?_⟩
      rw[fj T1 (by rw[Q];exact hk) (by rw[(L k hk).2.2.1,if_pos rfl])];rfl
    · rw[bP T hk hu] at hw
      obtain⟨t,h1,h2⟩:=ih ((dZ.1 hw).resolve_left fun q=>e q.symm)
      have hpk:(nd (dh l n) k).parent=(nd l k).parent:=by rw[(L k hk).2.2.1,if_neg e]
      refine⟨k::t,by rw[bP T hk hu,h1];rfl,?_⟩
      rw[bP T1 (by rw[Q];exact hk) (by rw[hpk];exact hu),hpk,h2];rfl
theorem DM {x y:ai}(h:iX x y):bU x=bU y:=by unfold bU;rw[h.kind,h.name]
theorem xM {q p:Int→Bool}:∀ {cs:List Int},(∀c∈cs,q c=p c)→cs.find? q=cs.find? p
  |[],_=>rfl
  |a::r,h=>by rw[List.find?_cons,List.find?_cons,h a jC,xM fun c hc=>h c (gy _ hc)]
theorem Bj (R:RF l m){n:Int}(hn:aa l n=true)(hp:(nd l n).parent≠-1){k:Int}(hk:aa l k=true):
    (n∉bk l k→iZ (dh l n) k=iZ l k)∧(n∈bk l k→iZ (dh l n) k=if iZ l k≠-1∧n∈bk l (iZ l k) then iZ l k else-1):=by
  have T:=R.tJ
  have L:=gg R hn
  have hq:∀c,aa l c=true→bU (nd (dh l n) c)=bU (nd l c):=fun c hc=>DM (L c hc).1
  refine⟨fun h=>?_,fun h=>?_⟩
  · unfold iZ gu
    rw[zc R hn hk h,xM fun c hc=>hq c (eB T k hk c (List.mem_of_mem_tail hc))]
  · obtain ⟨t,h1,h2⟩:=BA R hn hp k hk h
    have hnd:=EC T hk
    have hwt:=eB T k hk
    unfold iZ gu
    rw[h2]
    have e1:(t++ [n]).tail.find? (fun p=>bU (nd (dh l n) p))=(t++ [n]).tail.find? (fun p=>bU (nd l p)):=xM fun c hc=>hq c (by
      rcases List.mem_append.1 (List.mem_of_mem_tail hc) with q|q
      ·exact hwt c (by rw[h1];exact List.mem_append_left _ q)
      ·rw[kX.1 q];exact hn)
    rw[e1,h1]
    obtain⟨r,hr⟩:=dm T hn
    have habove:∀y∈r,¬n∈bk l y:=fun y hy hw=>by
      have hyw:y∈bk l n:=by rw[hr];exact gy _ hy
      have:=Gi T hn (eB T n hn y hyw) hw hyw
      rw[h1,hr] at hnd
      have h3:=(List.nodup_append.1 hnd).2.1
      rw[List.nodup_cons] at h3
      exact h3.1 (this▸hy)
    cases t with
    | nil=>
      rw[hr]
      show(([]:List Int).find? _).getD (-1)=if(r.find? fun p=>bU (nd l p)).getD (-1)≠-1∧n∈bk l ((r.find? fun p=>bU (nd l p)).getD (-1)) then _ else _
      cases e:r.find? fun p=>bU (nd l p) with
      |none=>rw[if_neg (fun q=>q.1 rfl)];rfl
      | some y=>
        have hno:¬ ((some y).getD (-1)≠-1∧n∈bk l ((some y).getD (-1))):=fun q=>habove y (List.mem_of_find?_eq_some e) q.2
        rw[if_neg hno];rfl
    | cons x t=>
      show((t++ [n]).find? _).getD (-1)=if((t++bk l n).find? fun p=>bU (nd l p)).getD (-1)≠-1∧n∈bk l (((t++bk l n).find? fun p=>bU (nd l p)).getD (-1)) then((t++bk l n).find? fun p=>bU (nd l p)).getD (-1) else-1
      rw[List.find?_append,List.find?_append]
      cases e:t.find? fun p=>bU (nd l p) with
      | some y=>
        have hyt:=List.mem_of_find?_eq_some e
        have hyk:y∈bk l k:=by rw[h1];exact List.mem_append_left _ (gy _ hyt)
        have hyn:y∉bk l n:=fun q=>by
          rw[h1] at hnd
          exact(List.nodup_append.1 hnd).2.2 y (gy _ hyt) y q rfl
        have hw:n∈bk l y:=(GY T hk h hyk).resolve_right hyn
        have h0:=bQ (hwt y hyk)
        show y=if y≠-1∧n∈bk l y then y else-1
        rw[if_pos ⟨by omega,hw⟩]
      | none =>
        rw[hr]
        show(([n].find? fun p=>bU (nd l p))).getD (-1)=if((n::r).find? fun p=>bU (nd l p)).getD (-1)≠-1∧n∈bk l (((n::r).find? fun p=>bU (nd l p)).getD (-1)) then((n::r).find? fun p=>bU (nd l p)).getD (-1) else-1
        rw[List.find?_cons,List.find?_cons]
        cases eq:bU (nd l n) with
        | true=>
          have h0:=bQ hn
          show n=if n≠-1∧n∈bk l n then n else-1
          rw[if_pos ⟨by omega,eV T hn⟩]
        | false=>
          show(-1:Int)=if(r.find? fun p=>bU (nd l p)).getD (-1)≠-1∧n∈bk l ((r.find? fun p=>bU (nd l p)).getD (-1)) then _ else-1
          cases e2:r.find? fun p=>bU (nd l p) with
          |none=>rw[if_neg (fun q=>q.1 rfl)]
          | some y=>
            show(-1:Int)=if y≠-1∧n∈bk l y then y else-1
            rw[if_neg (fun q=>habove y (List.mem_of_find?_eq_some e2) q.2)]
theorem FA {x y:ai}(h:iX x y)(w:ByteArray):kz x w=kz y w:=by unfold kz;rw[h.attrs]
theorem DK (R:RF l m){n:Int}(hn:aa l n=true)(hp:(nd l n).parent≠-1){k:Int}(hk:aa l k=true)(h1:(nd l k).kind=1)(ha:kz (nd l k) eW=none):
    (n∉bk l k→eC (dh l n) k=eC l k)∧(n∈bk l k→eC (dh l n) k=if eC l k≠-1∧n∈bk l (eC l k) then eC l k else-1):=by
  have L:=gg R hn k hk
  have e1:eC l k=iZ l k:=Av ⟨h1,.inl ha⟩
  have e2:eC (dh l n) k=iZ (dh l n) k:=Av ⟨by rw[L.1.kind];exact h1,.inl (by rw[FA L.1];exact ha)⟩
  rw[e1,e2]
  exact Bj R hn hp hk
end
section
variable {l l' : List ai} {m : Int}
end
section
variable {l l' : List ai} {m : Int}
theorem I1 (R:RF l m){n:Int}(hn:aa l n=true){q:Int}(hq:aa l q=true)(hne:q≠ (nd l n).parent):ux (dh l n) q=ux l q:=by
  have L:=gg R hn
  unfold ux Hj
  rw[(L q hq).2.2.2,if_neg hne,AQ (p:=q7 (dh l n)) (q:=q7 l) fun k hk=>?_]
  have hk':=(R.kid q hq k hk).1
  unfold q7
  rw[(L k hk').1.kind,(L k hk').1.name]
theorem xw (R:RF l m){n:Int}(hn:aa l n=true)(hp:(nd l n).parent≠-1){k:Int}(hk:aa l k=true)(h:(nd l n).parent∉bk l k):jL (dh l n) k=jL l k:=by
  have T:=R.tJ
  have R1:=qp R hn
  have Q:=fJ (o5 l n)
  have L:=gg R hn
  have hpt:=(R.par n hn hp).2.1
  have hnk:n∉bk l k:=fun q=>h (by
    have:(nd l n).parent∈bk l n:=by rw[bP T hn hp];exact gy _ (eV T hpt)
    exact kV T hk this q)
  rw[Bool.eq_iff_iff,Cn R1.tJ (by rw[Q];exact hk),Cn T hk,zc R hn hk hnk,zM (L k hk).1,(L k hk).1.kind]
  refine or_congr Iff.rfl (and_congr Iff.rfl (exists_congr fun c=>and_congr_right fun hc=>?_))
  have hct:=eB T k hk c hc
  have hcn:c≠n:=fun e=>hnk (e▸hc)
  rw[(L c hct).2.2.1,if_neg hcn]
  refine and_congr_right fun hcp=>?_
  have hqt:=(R.par c hct hcp).2.1
  have hqn:(nd l c).parent≠ (nd l n).parent:=fun e=>h (by
    have:(nd l c).parent∈bk l c:=by rw[bP T hct hcp];exact gy _ (eV T hqt)
    rw[←e];exact kV T hk this hc)
  rw[(L _ hqt).1.name,zM (L _ hqt).1,I1 R hn hqt hqn]
theorem yd (R:RF l m){n:Int}(hn:aa l n=true)(hp:(nd l n).parent≠-1){k:Int}(hk:aa l k=true)(ha:kz (nd l k) eW=none)(h:n∉bk l k):eC (dh l n) k=eC l k:=by
  by_cases h1:(nd l k).kind=1
  ·exact(DK R hn hp hk h1 ha).1 h
  · unfold eC
    rw[(gg R hn k hk).1.kind,if_neg h1,if_neg h1]
end
theorem zz {s t:StateM}(h:s.df=t.df)(d:bw)(cs:List aM):jK s d cs=jK t d cs∧cJ s d cs=cJ t d cs:=by
  unfold jK cJ eO
  rw[h];exact⟨rfl,rfl⟩
theorem H9 {f g:ForM}{d:bw}{cs:List aM}{n:Int}{s t:StateM}(h1:s.df=t.df)(h2:s.phase=t.phase)(hk:(nd g.nodes n).kind=(nd f.nodes n).kind):ia g d cs n s=ia f d cs n t:=by
  unfold ia
  rw[(zz h1 d cs).1,(zz h1 d cs).2,h2,hk]
theorem zL {f g:ForM}{d:bw}{cs:List aM}{n:Int}{s:StateM}(hk:(nd g.nodes n).kind=(nd f.nodes n).kind){x:ej}(h:x∈s5 g d cs n (mw f d cs n s)):x.node=n∧((x.todo.kind=5∧eC g.nodes n≠eC f.nodes n)∨(x.todo.kind=6∧jL g.nodes n≠jL f.nodes n)):=by
  have tl:∀ (c:aM) (t:gi),x∈iG c n t→x=⟨n,t⟩:=fun c t hx=>by
    unfold iG at hx
    split at hx
    ·exact kX.1 hx
    ·cases hx
  unfold s5 at h
  split at h
  · rename_i hd
    have hdf:ia f d cs n s=true:=by
      rw[←hd]
      refine(H9 ?_ ?_ hk).symm
      ·unfold mw;split<;>rfl
      ·unfold mw;split<;>rfl
    have hs:mw f d cs n s=⟨s.phase,s.df,eC f.nodes n,jL f.nodes n⟩:=by unfold mw;rw[if_pos hdf]
    rw[hs] at h
    dsimp only at h
    rcases List.mem_append.1 h with q|q
    · split at q
      ·cases q
      · rename_i hne
        rw[tl _ _ q]
        exact⟨rfl,.inl ⟨rfl,fun e=>hne e.symm⟩⟩
    · split at q
      ·cases q
      · rename_i hne
        rw[tl _ _ q]
        exact⟨rfl,.inr ⟨rfl,fun e=>hne e.symm⟩⟩
  ·cases h
theorem A6 {f g:ForM}{st:List StateM}{d:bw}{cs:List aM}(hv:gB f st d=true)(hk:∀k:Nat,k<st.length→(nd g.nodes k).kind=(nd f.nodes k).kind){x:ej}(h:x∈iO g (fg f st d cs) d cs):
    ∃k:Nat,k<st.length∧x.node=k∧((x.todo.kind=5∧eC g.nodes k≠eC f.nodes k)∨(x.todo.kind=6∧jL g.nodes k≠jL f.nodes k)):=by
  unfold iO at h
  split at h
  · unfold Kr at h
    obtain⟨k,hk2,hx⟩:=List.mem_flatMap.1 h
    have e:fg f st d cs=AH f d cs st st.length:=by unfold fg;rw[if_pos hv]
    have hlt:k<st.length:=by
      have:=List.mem_range.1 hk2
      rwa [e,jZ] at this
    have hs:qh (fg f st d cs) k=mw f d cs (k:Int) (qh st k):=by
      rw[e,Bm (nI hlt),if_pos hlt]
    rw[hs] at hx
    have:=zL (hk k hlt) hx
    exact⟨k,hlt,this.1,this.2⟩
  ·cases h
theorem BF {l:List ai}{m:Int}(R:RF l m){n:Int}(hn:aa l n=true)(hp:(nd l n).parent≠-1){st:List StateM}{d:bw}{cs:List aM}(hl:st.length=l.length)(hv:gB ⟨l,m⟩ st d=true){x:ej}(h:x∈iO ⟨dh l n,m⟩ (fg ⟨l,m⟩ st d cs) d cs):
    ∃k:Nat,k<l.length∧x.node=k∧((x.todo.kind=5∧(n∈bk l k∨kz (nd l k) eW≠none))∨(x.todo.kind=6∧(nd l n).parent∈bk l k)):=by
  have th:∀k:Nat,k<l.length→aa l (k:Int)=true:=fun k hk=>by unfold aa;simp;omega
  obtain⟨k,h1,h2,h3⟩:=A6 (f:=⟨l,m⟩) (g:=⟨dh l n,m⟩) hv (fun k hk=>(gg R hn k (th k (by omega))).1.kind) h
  have hkt:=th k (by omega)
  refine⟨k,by omega,h2,?_⟩
  rcases h3 with⟨a,b⟩|⟨a,b⟩
  · refine .inl ⟨a,Classical.byContradiction fun q=>?_⟩
    have q1:n∉bk l k:=fun w=>q (.inl w)
    have q2:kz (nd l k) eW=none:=Classical.byContradiction fun w=>q (.inr w)
    exact b (yd R hn hp hkt q2 q1)
  · refine .inr ⟨a,Classical.byContradiction fun q=>?_⟩
    exact b (xw R hn hp hkt q)
end Go.Proofs.Heir
namespace Go.Proofs.Heir
open Go Go.Am Go.RowKit Go.Lib
set_option maxRecDepth 100000
set_option maxHeartbeats 8000000
set_option maxHeartbeats 8000000
theorem Ho {f:ForM}{st:List StateM}{d:bw}{cs:List aM}:(fg f st d cs).length=st.length:=by
 unfold fg
 split
 ·exact jZ ..
 ·rfl
end Go.Proofs.Heir
section
namespace Go.Proofs.Heir
open Go Go.Am Go.RowKit Go.Lib
set_option maxRecDepth 100000
theorem F5 (f:ForM)(hs:bO f.nodes)(hr:aU f=true)(a b:Int)(ha:aa f.nodes a=true)(hb:aa f.nodes b=true):an Tryz.prog 20 [] [bF f,ay a,ay b] [] (aX (BY f.nodes a b)):=by
  have T:=dY hr
  have h25:=xI f hs [a,b] (by simp)
  have h0:dI (fun n=> !aa f.nodes n) [a,b]=-1:=jm fun j x hx=>by
    have:x∈ [a,b]:=bN hx
    simp only[dZ,List.not_mem_nil,or_false] at this
    rcases this with rfl|rfl
    ·rw[ha];rfl
    ·rw[hb];rfl
  rw[h0,hr,show(true&& !decide ((0:Int)≤ -1))=true from rfl] at h25
  unfold BY
  have hstep:=fun n h1 h2=>bP T (n:=n) h1 h2
  have hself:=fun n h1=>eV T (n:=n) h1
  have htop:=fun n h1 h2=>fj T (n:=n) h1 h2
  have hpar:∀n,aa f.nodes n=true→(nd f.nodes n).parent=-1∨aa f.nodes (nd f.nodes n).parent=true:=fun n hn=>by
    by_cases h:(nd f.nodes n).parent=-1
    ·exact .inl h
    ·exact .inr (T.par n hn h).1
  obtain⟨l,m⟩:=f
  simp only at h25 hb hstep htop hself hpar ha ⊢
  refine an.aF (rvs:=[.tmp 6]) G aq Tryz.func20 rfl Tryz.ntmps20 rfl rfl ?_;with_reducible refine wD ?_
  refine ah.lit [101] h25 NN ⟨⟨rfl,rfl,trivial⟩,⟨_,_,_,_,rfl,rfl,rfl,Nat.le_refl _,rfl,.refl rfl⟩,trivial⟩ rfl rfl ?_;with_reducible refine wK ?_
  refine aL.no rfl ?_;with_reducible refine wK ?_
  refine bD.use G aq (fun(c:Int)=>[(1,ay a),(2,ay c),(3,.ptr 30 0 0)]) (fun _=>[(30,.live 2 [bF ⟨l,m⟩] false)])
    (fun c=>(c=-1∨aa l c=true)∧(a∈bk l b↔ (c≠-1∧a∈bk l c))) (fun c=>if c=-1 then 0 else(bk l c).length) b ⟨.inr hb,⟨fun h=>⟨by have:=bQ hb;omega,h⟩,fun h=>h.2⟩⟩
    ⟨⟨rfl,rfl⟩,⟨rfl,rfl,⟨rfl,rfl⟩,trivial⟩,⟨⟨rfl,rfl,trivial⟩,trivial⟩,trivial⟩ ?_
  rintro c ⟨hc,hiff⟩
  with_reducible refine wK ?_
  have ha0:=bQ ha
  by_cases ec:c=-1
  · subst ec
    have hno:decide (a∈bk l b)=false:=dQ fun h=>(hiff.1 h).1 rfl
    rw[hno]
    have hna:¬ -1=a:=by omega
    (have fct:=(eq_false hna);(repeat' (first
    |refine gF ?_
    |((with_reducible show(_∧_)∧_∧_);(refine eK ?_ ?_<;>with_reducible repeat' (first|exact trivial|(show _∧_;refine aK ?_ ?_))))));all_goals clear fct)
    all_goals simp[hna]
  · have hct :=hc.resolve_left ec
    by_cases ea:c=a
    · subst ea
      have hyes:decide (c∈bk l b)=true:=dB (hiff.2 ⟨ec,hself c hct⟩)
      rw[hyes]
      (have fct:=(eq_false ec);(repeat' (first
    |refine gF ?_
    | ((with_reducible show(_∧_)∧_∧_);(refine eK ?_ ?_<;>with_reducible repeat' (first|exact trivial|(show _∧_;refine aK ?_ ?_))))));all_goals clear fct)
      all_goals simp
    · obtain ⟨i,y,e,hy,hny⟩:=bp.1 hct
      have hpc:=hpar c hct
      have hst:=hstep c hct
      have htp:=htop c hct
      rw[hny] at hpc hst htp
      obtain⟨b1,b2,b3,b4,b5,b6,b7,b8,b9,b10⟩:=y
      simp only at hpc hst htp
      have hni:(a∈bk l b↔ (b6≠-1∧a∈bk l b6))∧(if b6=-1 then 0 else(bk l b6).length)< (if c=-1 then 0 else(bk l c).length):=by
        rw[if_neg ec]
        by_cases e6:b6=-1
        · rw[htp e6,if_pos e6]
          refine⟨?_,by simp⟩
          rw[hiff,htp e6]
          constructor
          ·rintro⟨_,h⟩;rw[kX] at h;exact absurd h.symm ea
          ·rintro⟨h,_⟩;exact absurd e6 h
        · rw [hst e6,if_neg e6]
          refine⟨?_,by simp⟩
          rw[hiff,hst e6,dZ]
          constructor
          · rintro⟨_,h|h⟩
            ·exact absurd h.symm ea
            ·exact⟨e6,h⟩
          ·rintro⟨_,h⟩;exact⟨ec,.inr h⟩
      (have fct:=And.intro (eq_false ec) ((eq_false ea));(repeat' (first
    |refine gF ?_
    | ((first
      |(refine bn.mk i (aR ⟨b1,b2,b3,b4,b5,b6,b7,b8,b9,b10⟩) e (aI hy) ?_)
      |((with_reducible show aT _ _);refine aT.mk b6 ⟨hpc,hni.1⟩ hni.2 ⟨⟨rfl,rfl⟩,⟨rfl,rfl,⟨rfl,rfl⟩,trivial⟩,⟨⟨rfl,rfl,trivial⟩,trivial⟩,trivial⟩))<;>with_reducible refine wK ?_)
    |((with_reducible show(_∧_)∧_∧_);(refine eK ?_ ?_<;>with_reducible repeat' (first|exact trivial|(show _∧_;refine aK ?_ ?_))))));all_goals clear fct)
set_option maxHeartbeats 8000000
end Go.Proofs.Heir
end
