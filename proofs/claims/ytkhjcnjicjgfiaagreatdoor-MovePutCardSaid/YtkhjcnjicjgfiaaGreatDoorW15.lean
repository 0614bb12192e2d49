/- Models, plain laws and contracts of functions of the given program; conditions as stated in each theorem. By an AI agent. -/
import Derived.Test.YtkhjcnjicjgfiaaGreatDoorW13
import Derived.Test.YtkhjcnjicjgfiaaGreatDoorW14
import Derived.Test.YtkhjcnjicjgfiaaGreatDoorW6
import Derived.Test.YtkhjcnjicjgfiaaGreatDoorW8
import Derived.Test.YtkhjcnjicjgfiaaGreatDoorW7
set_option linter.unusedSimpArgs false
set_option linter.unusedVariables false
namespace Go.Proofs.Heir
open Go Go.Am Go.RowKit Go.Lib
set_option maxRecDepth 100000
set_option maxHeartbeats 8000000
@[reducible] def hO (what : ByteArray) (e : Int) : Value := .iface 178 (.agg #[.string what, .iface 176 (.agg #[.int .i64 e])])
@[reducible] def mH : ByteArray := ⟨#[97, 115, 107, 101, 100]⟩
@[reducible] def sk : ByteArray := ⟨#[101, 108, 101, 109]⟩
@[reducible] def eI : AV := .lit .nilIface
theorem vH (what:ByteArray)(w:World):Calls Tryz.prog 60 #[.string what,.int .i64 0] w fun ev w'=>ev=.returned .nilIface∧w'=w:=by
  go_enter Tryz.func60,Tryz.ntmps60
  go_wp2
  go_ret
  exact⟨rfl,rfl⟩
theorem uR (what:ByteArray)(e:Int)(he:e≠0)(w:World):Calls Tryz.prog 60 #[.string what,.int .i64 e] w fun ev w'=>ev=.returned (hO what e)∧w'=w:=by
  go_enter Tryz.func60,Tryz.ntmps60
  go_wp2
  go_ret
  exact⟨rfl,rfl⟩
theorem lH (what:ByteArray):aj Tryz.prog 60 [] [bX what,ah 0] [] eI:=
  aj.jf (vs:=[.string what,.int .i64 0]) fun w _=>(vH what w).mono (by rintro e w' ⟨rfl,rfl⟩;exact⟨rfl,Below.refl _ _⟩)
theorem jM (what:ByteArray)(e:Int)(he:e≠0):aj Tryz.prog 60 [] [bX what,ah e] [] (.lit (hO what e)):=
  aj.jf (vs:=[.string what,.int .i64 e]) fun w _=>(uR what e he w).mono (by rintro e w' ⟨rfl,rfl⟩;exact⟨rfl,Below.refl _ _⟩)
theorem oo (f:ForM)(hs:bC f.nodes)(n:Int)(h:(bw f&&af f.nodes n)=true):aj Tryz.prog 77 [] [aR f,ah n] [] eI:=by
  have h17:=o4 f hs
  have hr:bw f=true:=by simp only[bO] at h;exact h.1
  have ht:af f.nodes n=true:=by simp only[bO] at h;exact h.2
  rw[hr] at h17
  obtain⟨l,m⟩:=f
  simp only at h17 ht
  have hlm:(l.map bM).length=l.length:=bN ..
  have e0:¬n<0:=by unfold af at ht;simp at ht;omega
  have e1:¬ (l.length:Int)≤n:=by unfold af at ht;simp at ht;omega
  refine aj.aD (rvs:=[.tmp 4]) G au Tryz.func77 rfl Tryz.ntmps77 rfl rfl ?_;with_reducible refine wD ?_
  (have fct:=And.intro hlm (And.intro e0 (e1));(repeat' (first
    |refine gF ?_
    |(((with_reducible show ae _ _ 17 _ _ _ _);refine ae.lit [] h17 qy ⟨⟨rfl,rfl,trivial⟩,trivial⟩ rfl rfl ?_)<;>with_reducible refine wK ?_)
    |((with_reducible show(_∧_)∧_∧_);(refine eK ?_ ?_<;>with_reducible repeat' (first|exact trivial|(show _∧_;refine aK ?_ ?_))))));all_goals clear fct)
  all_goals rfl
theorem Ao (f:ForM)(hs:bC f.nodes)(n:Int)(h:(bw f&&af f.nodes n)=false):aj Tryz.prog 77 [] [aR f,ah n] [] (.lit (hO mH 1)):=by
  have h17:=o4 f hs
  have h60:=jM mH 1 (by decide)
  obtain⟨l,m⟩:=f
  simp only at h h17
  have hlm:(l.map bM).length=l.length:=bN ..
  cases hr:bw ⟨l,m⟩ with
  | false=>
    rw[hr] at h17
    refine aj.aD (rvs:=[.tmp 4]) G au Tryz.func77 rfl Tryz.ntmps77 rfl rfl ?_;with_reducible refine wD ?_
    (have fct:=hlm;(repeat' (first
    |refine gF ?_
    | ((first
      |((with_reducible show ae _ _ 17 _ _ _ _);refine ae.lit [] h17 qy ⟨⟨rfl,rfl,trivial⟩,trivial⟩ rfl rfl ?_)
      |((with_reducible show ae _ _ 60 _ _ _ _);refine ae.lit [] h60 F3 ⟨rfl,rfl,trivial⟩ rfl rfl ?_))<;>with_reducible refine wK ?_)
    |((with_reducible show(_∧_)∧_∧_);(refine eK ?_ ?_<;>with_reducible repeat' (first|exact trivial|(show _∧_;refine aK ?_ ?_))))));all_goals clear fct)
    all_goals rfl
  | true=>
    have ht:af l n=false:=by rw[hr] at h;simpa using h
    rw[hr] at h17
    by_cases e0:n<0
    · refine aj.aD (rvs:=[.tmp 4]) G au Tryz.func77 rfl Tryz.ntmps77 rfl rfl ?_;with_reducible refine wD ?_
      (have fct:=And.intro hlm (e0);(repeat' (first
    |refine gF ?_
    | ((first
      |((with_reducible show ae _ _ 17 _ _ _ _);refine ae.lit [] h17 qy ⟨⟨rfl,rfl,trivial⟩,trivial⟩ rfl rfl ?_)
      |((with_reducible show ae _ _ 60 _ _ _ _);refine ae.lit [] h60 F3 ⟨rfl,rfl,trivial⟩ rfl rfl ?_))<;>with_reducible refine wK ?_)
    | ((with_reducible show(_∧_)∧_∧_);(refine eK ?_ ?_<;>with_reducible repeat' (first|exact trivial|(show _∧_;refine aK ?_ ?_))))));all_goals clear fct)
      all_goals rfl
    · have e1:(l.length:Int)≤n:=by unfold af at ht;simp at ht;omega
      refine aj.aD (rvs:=[.tmp 4]) G au Tryz.func77 rfl Tryz.ntmps77 rfl rfl ?_;with_reducible refine wD ?_
      (have fct:=And.intro hlm (And.intro e0 (e1));(repeat' (first
    |refine gF ?_
    | ((first
      |((with_reducible show ae _ _ 17 _ _ _ _);refine ae.lit [] h17 qy ⟨⟨rfl,rfl,trivial⟩,trivial⟩ rfl rfl ?_)
      |((with_reducible show ae _ _ 60 _ _ _ _);refine ae.lit [] h60 F3 ⟨rfl,rfl,trivial⟩ rfl rfl ?_))<;>with_reducible refine wK ?_)
    | ((with_reducible show(_∧_)∧_∧_);(refine eK ?_ ?_<;>with_reducible repeat' (first|exact trivial|(show _∧_;refine aK ?_ ?_))))));all_goals clear fct)
      all_goals rfl
theorem Af (f:ForM)(hs:bC f.nodes)(k:Nat)(y:ai)(hy:f.nodes[k]? =some y)(hr:bw f=true)(hk:y.kind=1):aj Tryz.prog 57 [] [aR f,ah k] [] eI:=by
  have h77:=oo f hs k (by rw[hr,eH hy];rfl)
  obtain⟨l,m⟩:=f
  simp only at h77 hy
  have hkl:k<l.length:=(bj hy).1
  have hlm:(l.map bM).length=l.length:=bN ..
  obtain⟨y1,y2,y3,y4,y5,y6,y7,y8,y9,y10⟩:=y
  simp only at hk
  subst hk
  refine aj.aD (rvs:=[.tmp 4]) G au Tryz.func57 rfl Tryz.ntmps57 rfl rfl ?_;with_reducible refine wD ?_
  (have fct:=hlm;(repeat' (first
    |refine gF ?_
    | ((first
      |((with_reducible show ae _ _ 77 _ _ _ _);refine ae.lit [] h77 L6 ⟨⟨rfl,rfl,trivial⟩,rfl,trivial⟩ rfl rfl ?_)
      |((with_reducible show aN _ _ _ _ _);refine aN.mk k (aL ⟨1,y2,y3,y4,y5,y6,y7,y8,y9,y10⟩) rfl (ay hy) ?_)
      |((with_reducible show aZ _ _ _ _ _);first|refine aZ.lO true Tryz.underlying98 rfl rfl rfl rfl rfl ?_|refine aZ.lp false Tryz.underlying98 rfl rfl rfl rfl rfl ?_))<;>with_reducible refine wK ?_)
    |((with_reducible show(_∧_)∧_∧_);(refine eK ?_ ?_<;>with_reducible repeat' (first|exact trivial|(show _∧_;refine aK ?_ ?_))))));all_goals clear fct)
  all_goals first|rfl|trace_state
theorem yd (f:ForM)(hs:bC f.nodes)(k:Nat)(y:ai)(hy:f.nodes[k]? =some y)(hr:bw f=true)(hk:y.kind≠1):aj Tryz.prog 57 [] [aR f,ah k] [] (.lit (hO sk 5)):=by
  have h77:=oo f hs k (by rw[hr,eH hy];rfl)
  have h60:=jM sk 5 (by decide)
  obtain⟨l,m⟩:=f
  simp only at h77 hy
  have hkl:k<l.length:=(bj hy).1
  have hlm:(l.map bM).length=l.length:=bN ..
  obtain⟨y1,y2,y3,y4,y5,y6,y7,y8,y9,y10⟩:=y
  simp only at hk
  have hk:=dy hk
  refine aj.aD (rvs:=[.tmp 4]) G au Tryz.func57 rfl Tryz.ntmps57 rfl rfl ?_;with_reducible refine wD ?_
  (have fct:=And.intro hlm (hk);(repeat' (first
    |refine gF ?_
    | ((first
      |((with_reducible show ae _ _ 77 _ _ _ _);refine ae.lit [] h77 L6 ⟨⟨rfl,rfl,trivial⟩,rfl,trivial⟩ rfl rfl ?_)
      |((with_reducible show ae _ _ 60 _ _ _ _);refine ae.lit [] h60 F3 ⟨rfl,rfl,trivial⟩ rfl rfl ?_)
      |((with_reducible show aN _ _ _ _ _);refine aN.mk k (aL ⟨y1,y2,y3,y4,y5,y6,y7,y8,y9,y10⟩) rfl (ay hy) ?_)
      |((with_reducible show aZ _ _ _ _ _);first|refine aZ.lO true Tryz.underlying98 rfl rfl rfl rfl rfl ?_|refine aZ.lp false Tryz.underlying98 rfl rfl rfl rfl rfl ?_))<;>with_reducible refine wK ?_)
    |((with_reducible show(_∧_)∧_∧_);(refine eK ?_ ?_<;>with_reducible repeat' (first|exact trivial|(show _∧_;refine aK ?_ ?_))))));all_goals clear fct)
  all_goals first|rfl|trace_state
theorem Ee (f:ForM)(hs:bC f.nodes)(n:Int)(h:(bw f&&af f.nodes n)=false):aj Tryz.prog 57 [] [aR f,ah n] [] (.lit (hO mH 1)):=by
  have h77:=Ao f hs n h
  refine aj.aD (rvs:=[.tmp 4]) G au Tryz.func57 rfl Tryz.ntmps57 rfl rfl ?_;with_reducible refine wD ?_
  repeat' (first
    |refine gK ?_
    | ((first
      |((with_reducible show ae _ _ 77 _ _ _ _);refine ae.lit [] h77 L6 ⟨⟨rfl,rfl,trivial⟩,rfl,trivial⟩ rfl rfl ?_)
      |((with_reducible show aZ _ _ _ _ _);first|refine aZ.lO false Tryz.underlying98 rfl rfl rfl rfl rfl ?_|refine aZ.lp true Tryz.underlying98 rfl rfl rfl rfl rfl ?_))<;>with_reducible refine wK ?_)
    |((with_reducible show(_∧_)∧_∧_);(refine eK ?_ ?_<;>with_reducible repeat' (first|exact trivial|(show _∧_;refine aK ?_ ?_)))))
  all_goals first|rfl|trace_state
@[reducible] def gG : AV := .lit (.slice none 0 0)
theorem KY {l:List ai}{k:Nat}{y:ai}(hy:l[k]? =some y)(xs:List AttrM):(l.map bM).set (0+k) (bM {y with attrs:=xs})=(gM l k xs).map bM:=by
  show _=(l.set ((k:Int).toNat) {nd l k with attrs:=xs}).map bM
  rw[cF hy,Int.toNat_natCast,Nat.zero_add,List.map_set]
@[reducible] def rE (y : ai) (k : Nat) (s : ByteArray) (xs : List AttrM) : aQ := ⟨4, k, 0, 0, cH s, decide (0 ≤ ck y.attrs s), decide (0 ≤ ck xs s), rq y.attrs s, rq xs s⟩
theorem uu (l:List ai)(m:Int)(hs:bC l)(k:Nat)(y:ai)(hy:l[k]? =some y)(s:ByteArray)(hs3:s.size≤100000)(xs:List AttrM)(hx:xs.length≤100000)(hh:0≤ck y.attrs s∨0≤ck xs s):
    aj Tryz.prog 61 [aP m l.length 1 gG,cJ l] [.ptr 0 0 0,ah k,bX s,cV xs] [aP m l.length 1 (.own 2 0 1),cJ (gM l k xs),.live 9 [gm (rE y k s xs)] false] (.tup []):=by
  have h124:=Ei s hs3
  have h23:=ue y.attrs (by have:=hs.attrs y (bV hy);omega) s
  have h23x:=ue xs hx s
  have hkl:k<l.length:=(bj hy).1
  have hrow:=KY hy xs
  have hlm:(l.map bM).length=l.length:=bN ..
  have ha:(gM l k xs).length=l.length:=eZ ..
  generalize gM l k xs=l' at hrow ha
  obtain⟨y1,y2,y3,y4,y5,y6,y7,y8,y9,y10⟩:=y
  simp only at h23 hh hrow
  refine aj.eR [(2,591)] (rvs:=[]) G au Tryz.func61 rfl Tryz.ntmps61 rfl rfl ?_;with_reducible refine wD ?_
  cases hb:decide (0≤ck y5 s) with
  | true=>
    (have fct:=hb;(repeat' (first
    |refine gF ?_
    | ((first
      |((with_reducible show ae _ _ 124 _ _ _ _);refine ae.lit [] h124 Ka ⟨rfl,trivial⟩ rfl rfl ?_)
      |((with_reducible show eY _ _ _ _ _);refine eY.mk k rfl hkl ?_)
      |((with_reducible show bh _ _ _ _ _);first|refine bh.mk (aL ⟨y1,y2,y3,y4,y5,y6,y7,y8,y9,y10⟩) (by first|exact ay hy|(rw[Nat.zero_add];exact ay hy)) ?_|refine bh.mk _ rfl ?_)
      |((with_reducible show dZ _ _ _ _ _ _ _ _ _ _);refine dZ.mk [] [_] ⟨rfl,rfl,rfl⟩ ⟨rfl,rfl,rfl⟩ rfl (by simp) (by simp) ?_)
      |((with_reducible show aI _ _ _ _);refine dK ?_)
      |((with_reducible show ae _ _ 23 _ _ _ _);first|(refine ae.lit [] h23 Mc ⟨rfl,rfl,trivial⟩ rfl rfl ?_)|(refine ae.lit [] h23x Mc ⟨rfl,rfl,trivial⟩ rfl rfl ?_)))<;>with_reducible refine wK ?_)
    |((with_reducible show(_∧_)∧_∧_);(refine eK ?_ ?_<;>with_reducible repeat' (first|exact trivial|(show _∧_;refine aK ?_ ?_))))));all_goals clear fct)
    all_goals first
      |rfl
      |exact⟨.refl rfl,rfl⟩
      |exact(.inl rfl:kx _)
      |(refine cast (congrArg (tu _ _) hrow.symm) ?_;exact⟨.refl (aM _),aM _⟩)
      |trace_state
  | false=>
    have hbx:decide (0≤ck xs s)=true:=dG (hh.resolve_left (of_decide_eq_false hb))
    (have fct:=And.intro hb (hbx);(repeat' (first
    |refine gF ?_
    | ((first
      |((with_reducible show ae _ _ 124 _ _ _ _);refine ae.lit [] h124 Ka ⟨rfl,trivial⟩ rfl rfl ?_)
      |((with_reducible show eY _ _ _ _ _);refine eY.mk k rfl hkl ?_)
      |((with_reducible show bh _ _ _ _ _);first|refine bh.mk (aL ⟨y1,y2,y3,y4,y5,y6,y7,y8,y9,y10⟩) (by first|exact ay hy|(rw[Nat.zero_add];exact ay hy)) ?_|refine bh.mk _ rfl ?_)
      |((with_reducible show dZ _ _ _ _ _ _ _ _ _ _);refine dZ.mk [] [_] ⟨rfl,rfl,rfl⟩ ⟨rfl,rfl,rfl⟩ rfl (by simp) (by simp) ?_)
      |((with_reducible show aI _ _ _ _);refine dK ?_)
      |((with_reducible show ae _ _ 23 _ _ _ _);first|(refine ae.lit [] h23 Mc ⟨rfl,rfl,trivial⟩ rfl rfl ?_)|(refine ae.lit [] h23x Mc ⟨rfl,rfl,trivial⟩ rfl rfl ?_)))<;>with_reducible refine wK ?_)
    |((with_reducible show(_∧_)∧_∧_);(refine eK ?_ ?_<;>with_reducible repeat' (first|exact trivial|(show _∧_;refine aK ?_ ?_))))));all_goals clear fct)
    all_goals first
      |rfl
      |exact⟨.refl rfl,rfl⟩
      |exact(.inl rfl:kx _)
      |(refine cast (congrArg (tu _ _) hrow.symm) ?_;exact⟨.refl (aM _),aM _⟩)
      |trace_state
@[reducible] def GQ : ByteArray := ⟨#[115, 101, 116]⟩
@[reducible] def uB : ByteArray := ⟨#[116, 111, 103, 103, 108, 101]⟩
theorem wV (xs:List AttrM)(e:Int):bD (.tup [cV xs,ah e])=true:=by
  have:=gw xs
  simp[bD,bu,this]
theorem rM (xs:List AttrM)(b:Bool)(e:Int):bD (.tup [cV xs,bG b,ah e])=true:=by
  have:=gw xs
  simp[bD,bu,this]
theorem sF {l:List AttrM}{s v:ByteArray}(he:(cw l s v).2=0):0≤ck (cw l s v).1 s:=by
  obtain⟨k,hk⟩:=HY he
  have h1:=(pz he).2
  have h2:=(lP he).1.2.1
  rw[yM h1.right h2 hk rfl]
  omega
theorem Jg (l:List ai)(m:Int)(hs:bC l)(k:Nat)(y:ai)(hy:l[k]? =some y)(s v:ByteArray)(hs3:s.size≤100000)(he:(cw y.attrs s v).2=0):
    aj Tryz.prog 58 [aP m l.length 1 gG,cJ l] [.ptr 0 0 0,.fptr (ah k) 0,.fptr (bX s) 0,.fptr (bX v) 0]
      [aP m l.length 1 (.own 2 0 1),cJ (gM l k (cw y.attrs s v).1),.live 9 [gm (rE y k s (cw y.attrs s v).1)] false] eI:=by
  have hl:=hs.attrs y (bV hy)
  have hkl:k<l.length:=(bj hy).1
  have hlm:(l.map bM).length=l.length:=bN ..
  have h59:=CC y.attrs (by omega) s v
  have h61:=uu l m hs k y hy s hs3 (cw y.attrs s v).1 (by have:=Ap y.attrs s v;omega) (.inr (sF he))
  rw[he] at h59
  have ha:(gM l k (cw y.attrs s v).1).length=l.length:=eZ ..
  generalize gM l k (cw y.attrs s v).1=l' at h61 ha ⊢
  generalize rE y k s (cw y.attrs s v).1=x at h61 ⊢
  obtain⟨y1,y2,y3,y4,y5,y6,y7,y8,y9,y10⟩:=y
  simp only at*
  refine aj.eR [(2,311)] (rvs:=[.tmp 5]) G au Tryz.func58 rfl Tryz.ntmps58 rfl rfl ?_;with_reducible refine wD ?_
  repeat' (first
    |refine gK ?_
    | ((first
      |((with_reducible show ae _ _ 59 _ _ _ _);refine ae.val [] h59 Pr ⟨rfl,rfl,rfl,trivial⟩ rfl rfl (wV _ _) ?_)
      |((with_reducible show eY _ _ _ _ _);refine eY.mk k rfl hkl ?_)
      |((with_reducible show bh _ _ _ _ _);first|refine bh.mk (aL ⟨y1,y2,y3,y4,y5,y6,y7,y8,y9,y10⟩) (by first|exact ay hy|(rw[Nat.zero_add];exact ay hy)) ?_|refine bh.mk _ rfl ?_)
      |((with_reducible show ae _ _ 61 _ _ _ _);refine ae.dx (news:=[aP m l.length 1 (.own 311 0 1),cJ l',.live 9 [gm x] false]) [0,1,311] [] h61 PK ⟨⟨rfl,rfl⟩,rfl,rfl,rfl,trivial⟩ ⟨⟨rfl,.inr ⟨⟨⟨⟨rfl,rfl⟩,rfl,.inl rfl,trivial⟩,trivial⟩,rfl⟩⟩,⟨rfl,.inl ⟨rfl,aM _⟩⟩,trivial⟩ rfl ⟨⟨rfl,rfl⟩,rfl⟩ rfl ⟨⟨rfl,.inr ⟨rfl,rfl,rfl⟩⟩,⟨rfl,.inl ⟨rfl,aM _⟩⟩,⟨rfl,.inl ⟨rfl,rfl⟩⟩,trivial⟩ rfl rfl ?_)
      |((with_reducible show aI _ _ _ _);refine dK ?_))<;>with_reducible refine wK ?_)
    |((with_reducible show(_∧_)∧_∧_);(refine eK ?_ ?_<;>with_reducible repeat' (first|exact trivial|(show _∧_;refine aK ?_ ?_)))))
  all_goals first
    |rfl
    |exact⟨.refl rfl,rfl⟩
    |exact(.inl rfl:kx _)
    |exact⟨.refl (aM _),aM _⟩
    |trace_state
theorem H8 (l:List ai)(m:Int)(hs:bC l)(k:Nat)(y:ai)(hy:l[k]? =some y)(s v:ByteArray)(hs3:s.size≤100000)(he:(cw y.attrs s v).2≠0):
    aj Tryz.prog 58 [aP m l.length 1 gG,cJ l] [.ptr 0 0 0,.fptr (ah k) 0,.fptr (bX s) 0,.fptr (bX v) 0]
      [aP m l.length 1 gG,cJ l] (.lit (hO GQ (cw y.attrs s v).2)):=by
  have hl:=hs.attrs y (bV hy)
  have hkl:k<l.length:=(bj hy).1
  have hlm:(l.map bM).length=l.length:=bN ..
  have h59:=CC y.attrs (by omega) s v
  have h60:=jM GQ (cw y.attrs s v).2 he
  have hd:=dy he
  generalize(cw y.attrs s v).2=e at h59 h60 hd he ⊢
  obtain⟨y1,y2,y3,y4,y5,y6,y7,y8,y9,y10⟩:=y
  simp only at*
  refine aj.eR [] (rvs:=[.tmp 5]) G au Tryz.func58 rfl Tryz.ntmps58 rfl rfl ?_;with_reducible refine wD ?_
  (have fct:=hd;(repeat' (first
    |refine gF ?_
    | ((first
      |((with_reducible show ae _ _ 59 _ _ _ _);refine ae.val [] h59 Pr ⟨rfl,rfl,rfl,trivial⟩ rfl rfl (wV _ _) ?_)
      |((with_reducible show eY _ _ _ _ _);refine eY.mk k rfl hkl ?_)
      |((with_reducible show bh _ _ _ _ _);first|refine bh.mk (aL ⟨y1,y2,y3,y4,y5,y6,y7,y8,y9,y10⟩) (by first|exact ay hy|(rw[Nat.zero_add];exact ay hy)) ?_|refine bh.mk _ rfl ?_)
      |((with_reducible show ae _ _ 60 _ _ _ _);refine ae.lit [] h60 F3 ⟨rfl,rfl,trivial⟩ rfl rfl ?_)
      |((with_reducible show aI _ _ _ _);refine dK ?_))<;>with_reducible refine wK ?_)
    |((with_reducible show(_∧_)∧_∧_);(refine eK ?_ ?_<;>with_reducible repeat' (first|exact trivial|(show _∧_;refine aK ?_ ?_))))));all_goals clear fct)
  all_goals first
    |rfl
    |exact⟨.refl rfl,rfl⟩
    |exact(.inl rfl:kx _)
    |exact⟨.refl (aM _),aM _⟩
    |trace_state
theorem A0 (l:List ai)(m:Int)(hs:bC l)(k:Nat)(y:ai)(hy:l[k]? =some y)(s:ByteArray)(hs3:s.size≤100000)(c:Int)(he:(bI y.attrs s c).2.2=0)(hw:decide (0≤ck y.attrs s)≠ (bI y.attrs s c).2.1)(hf:0≤ck y.attrs s∨0≤ck (bI y.attrs s c).1 s):
    aj Tryz.prog 94 [aP m l.length 1 gG,cJ l] [.ptr 0 0 0,.fptr (ah k) 0,.fptr (bX s) 0,.fptr (ah c) 0]
      [aP m l.length 1 (.own 2 0 1),cJ (gM l k (bI y.attrs s c).1),.live 9 [gm (rE y k s (bI y.attrs s c).1)] false] eI:=by
  have hl:=hs.attrs y (bV hy)
  have hkl:k<l.length:=(bj hy).1
  have hlm:(l.map bM).length=l.length:=bN ..
  have h23:=ue y.attrs (by omega) s
  have h95:=CS y.attrs (by omega) s c
  have h61:=uu l m hs k y hy s hs3 (bI y.attrs s c).1 (by have:=AI y.attrs s c;omega) hf
  rw[he] at h95
  have hw:(decide (0≤ck y.attrs s)==(bI y.attrs s c).2.1)=false:=by simpa using hw
  have ha:(gM l k (bI y.attrs s c).1).length=l.length:=eZ ..
  generalize gM l k (bI y.attrs s c).1=l' at h61 ha ⊢
  generalize rE y k s (bI y.attrs s c).1=x at h61 ⊢
  obtain⟨y1,y2,y3,y4,y5,y6,y7,y8,y9,y10⟩:=y
  simp only at*
  refine aj.eR [(2,521)] (rvs:=[.tmp 5]) G au Tryz.func94 rfl Tryz.ntmps94 rfl rfl ?_;with_reducible refine wD ?_
  (have fct:=hw;(repeat' (first
    |refine gF ?_
    | ((first
      |((with_reducible show ae _ _ 23 _ _ _ _);refine ae.lit [] h23 Mc ⟨rfl,rfl,trivial⟩ rfl rfl ?_)
      |((with_reducible show ae _ _ 95 _ _ _ _);refine ae.val [] h95 O6 ⟨rfl,rfl,rfl,trivial⟩ rfl rfl (rM _ _ _) ?_)
      |((with_reducible show eY _ _ _ _ _);refine eY.mk k rfl hkl ?_)
      |((with_reducible show bh _ _ _ _ _);first|refine bh.mk (aL ⟨y1,y2,y3,y4,y5,y6,y7,y8,y9,y10⟩) (by first|exact ay hy|(rw[Nat.zero_add];exact ay hy)) ?_|refine bh.mk _ rfl ?_)
      |((with_reducible show ae _ _ 61 _ _ _ _);refine ae.dx (news:=[aP m l.length 1 (.own 521 0 1),cJ l',.live 9 [gm x] false]) [0,1,521] [] h61 PK ⟨⟨rfl,rfl⟩,rfl,rfl,rfl,trivial⟩ ⟨⟨rfl,.inr ⟨⟨⟨⟨rfl,rfl⟩,rfl,.inl rfl,trivial⟩,trivial⟩,rfl⟩⟩,⟨rfl,.inl ⟨rfl,aM _⟩⟩,trivial⟩ rfl ⟨⟨rfl,rfl⟩,rfl⟩ rfl ⟨⟨rfl,.inr ⟨rfl,rfl,rfl⟩⟩,⟨rfl,.inl ⟨rfl,aM _⟩⟩,⟨rfl,.inl ⟨rfl,rfl⟩⟩,trivial⟩ rfl rfl ?_)
      |((with_reducible show aI _ _ _ _);refine dK ?_))<;>with_reducible refine wK ?_)
    |((with_reducible show(_∧_)∧_∧_);(refine eK ?_ ?_<;>with_reducible repeat' (first|exact trivial|(show _∧_;refine aK ?_ ?_))))));all_goals clear fct)
  all_goals first
    |rfl
    |exact⟨.refl rfl,rfl⟩
    |exact(.inl rfl:kx _)
    |exact⟨.refl (aM _),aM _⟩
    |trace_state
theorem zk (l:List ai)(m:Int)(hs:bC l)(k:Nat)(y:ai)(hy:l[k]? =some y)(s:ByteArray)(hs3:s.size≤100000)(c:Int)(he:(bI y.attrs s c).2.2=0)(hw:decide (0≤ck y.attrs s)=(bI y.attrs s c).2.1):
    aj Tryz.prog 94 [aP m l.length 1 gG,cJ l] [.ptr 0 0 0,.fptr (ah k) 0,.fptr (bX s) 0,.fptr (ah c) 0]
      [aP m l.length 1 gG,cJ l] eI:=by
  have hl:=hs.attrs y (bV hy)
  have hkl:k<l.length:=(bj hy).1
  have hlm:(l.map bM).length=l.length:=bN ..
  have h23:=ue y.attrs (by omega) s
  have h95:=CS y.attrs (by omega) s c
  rw[he] at h95
  have hw:(decide (0≤ck y.attrs s)==(bI y.attrs s c).2.1)=true:=by simpa using hw
  obtain⟨y1,y2,y3,y4,y5,y6,y7,y8,y9,y10⟩:=y
  simp only at*
  refine aj.eR [] (rvs:=[.tmp 5]) G au Tryz.func94 rfl Tryz.ntmps94 rfl rfl ?_;with_reducible refine wD ?_
  (have fct:=hw;(repeat' (first
    |refine gF ?_
    | ((first
      |((with_reducible show ae _ _ 23 _ _ _ _);refine ae.lit [] h23 Mc ⟨rfl,rfl,trivial⟩ rfl rfl ?_)
      |((with_reducible show ae _ _ 95 _ _ _ _);refine ae.val [] h95 O6 ⟨rfl,rfl,rfl,trivial⟩ rfl rfl (rM _ _ _) ?_)
      |((with_reducible show eY _ _ _ _ _);refine eY.mk k rfl hkl ?_)
      |((with_reducible show bh _ _ _ _ _);first|refine bh.mk (aL ⟨y1,y2,y3,y4,y5,y6,y7,y8,y9,y10⟩) (by first|exact ay hy|(rw[Nat.zero_add];exact ay hy)) ?_|refine bh.mk _ rfl ?_)
      |((with_reducible show aI _ _ _ _);refine dK ?_))<;>with_reducible refine wK ?_)
    |((with_reducible show(_∧_)∧_∧_);(refine eK ?_ ?_<;>with_reducible repeat' (first|exact trivial|(show _∧_;refine aK ?_ ?_))))));all_goals clear fct)
  all_goals first
    |rfl
    |exact⟨.refl rfl,rfl⟩
    |exact(.inl rfl:kx _)
    |exact⟨.refl (aM _),aM _⟩
    |trace_state
theorem zU (l:List ai)(m:Int)(hs:bC l)(k:Nat)(y:ai)(hy:l[k]? =some y)(s:ByteArray)(hs3:s.size≤100000)(c:Int)(he:(bI y.attrs s c).2.2≠0):
    aj Tryz.prog 94 [aP m l.length 1 gG,cJ l] [.ptr 0 0 0,.fptr (ah k) 0,.fptr (bX s) 0,.fptr (ah c) 0]
      [aP m l.length 1 gG,cJ l] (.lit (hO uB (bI y.attrs s c).2.2)):=by
  have hl:=hs.attrs y (bV hy)
  have hkl:k<l.length:=(bj hy).1
  have hlm:(l.map bM).length=l.length:=bN ..
  have h23:=ue y.attrs (by omega) s
  have h95:=CS y.attrs (by omega) s c
  have h60:=jM uB (bI y.attrs s c).2.2 he
  have hd:=dy he
  generalize(bI y.attrs s c).2.2=e at h95 h60 hd he ⊢
  obtain⟨y1,y2,y3,y4,y5,y6,y7,y8,y9,y10⟩:=y
  simp only at*
  refine aj.eR [] (rvs:=[.tmp 5]) G au Tryz.func94 rfl Tryz.ntmps94 rfl rfl ?_;with_reducible refine wD ?_
  (have fct:=hd;(repeat' (first
    |refine gF ?_
    | ((first
      |((with_reducible show ae _ _ 23 _ _ _ _);refine ae.lit [] h23 Mc ⟨rfl,rfl,trivial⟩ rfl rfl ?_)
      |((with_reducible show ae _ _ 95 _ _ _ _);refine ae.val [] h95 O6 ⟨rfl,rfl,rfl,trivial⟩ rfl rfl (rM _ _ _) ?_)
      |((with_reducible show eY _ _ _ _ _);refine eY.mk k rfl hkl ?_)
      |((with_reducible show bh _ _ _ _ _);first|refine bh.mk (aL ⟨y1,y2,y3,y4,y5,y6,y7,y8,y9,y10⟩) (by first|exact ay hy|(rw[Nat.zero_add];exact ay hy)) ?_|refine bh.mk _ rfl ?_)
      |((with_reducible show ae _ _ 60 _ _ _ _);refine ae.lit [] h60 F3 ⟨rfl,rfl,trivial⟩ rfl rfl ?_)
      |((with_reducible show aI _ _ _ _);refine dK ?_))<;>with_reducible refine wK ?_)
    |((with_reducible show(_∧_)∧_∧_);(refine eK ?_ ?_<;>with_reducible repeat' (first|exact trivial|(show _∧_;refine aK ?_ ?_))))));all_goals clear fct)
  all_goals first
    |rfl
    |exact⟨.refl rfl,rfl⟩
    |exact(.inl rfl:kx _)
    |exact⟨.refl (aM _),aM _⟩
    |trace_state
theorem oT {m:ML}{fz:Nat→Bool}{tab:List (Nat×Nat)}{n t len wd:Nat}{ro:Bool}{rows rows':List AV}(h1:eG m t=.live wd rows ro)(h2:fz t=true)(h3:rows=rows')(h4:len=rows'.length)(h5:bu rows'=true):zm m fz (MF tab fz m n) (.sl wd rows') t 0 len:=by
  subst h3;subst h4
  exact .cut h1 h2 (by omega) (by rw[List.drop_zero,sn (by omega)]) h5
@[reducible] def lQ (l : List aQ) : AV := .sl 9 (l.map gm)
theorem xJ (f:ForM)(hs:bC f.nodes)(g:Nat)(cg:ak Tryz.prog g)(caps:List AV)(hcaps:bu caps=true)(l':List ai)(x:aQ)(hl:l'.length=f.nodes.length)(hg:aj Tryz.prog g [aP f.most f.nodes.length 1 gG,cJ f.nodes] (.ptr 0 0 0::caps) [aP f.most f.nodes.length 1 (.own 2 0 1),cJ l',.live 9 [gm x] false] eI):
    aj Tryz.prog 56 [] [aR f,eI,.clo (.func g) [] caps] [] (.tup [aR ⟨l',f.most⟩,lQ [x],ah 0]):=by
  have h121:=tQ f hs
  have hlm:(l'.map bM).length=f.nodes.length:=by rw[bN,hl]
  obtain⟨l,m⟩:=f
  simp only at*
  refine aj.aD (rvs:=[.cell 6 24,.tmp 7,.tmp 8]) G au Tryz.func56 rfl Tryz.ntmps56 rfl rfl ?_;with_reducible refine wD ?_
  repeat' (first
    |refine gK ?_
    | ((first
      |((with_reducible show ae _ _ 121 _ _ _ _);refine ae.dx (news:=[aP m l.length 111 gG,cJ l]) [110,111] [] h121 CO ⟨⟨rfl,rfl,trivial⟩,trivial⟩ trivial rfl ⟨⟨rfl,rfl⟩,rfl⟩ rfl ⟨⟨rfl,.inr ⟨rfl,rfl,rfl⟩⟩,⟨rfl,.inl ⟨rfl,aM _⟩⟩,trivial⟩ rfl rfl ?_)
      |((with_reducible show aZ _ _ _ _ _);first|refine aZ.lO true Tryz.underlying98 rfl rfl rfl rfl rfl ?_|refine aZ.lO false Tryz.underlying98 rfl rfl rfl rfl rfl ?_|refine aZ.lp false Tryz.underlying98 rfl rfl rfl rfl rfl ?_|refine aZ.lp true Tryz.underlying98 rfl rfl rfl rfl rfl ?_)
      |((with_reducible show ae _ _ 122 _ _ _ _);refine ae.lit [] h122 J4 ⟨⟨rfl,rfl⟩,trivial⟩ rfl rfl ?_)
      |((with_reducible show ae _ _ _ _ _ _ _);refine ae.dx (news:=[aP m l.length 111 (.own 161 0 1),cJ l',.live 9 [gm x] false]) [110,111,161] [] hg cg ⟨⟨rfl,rfl⟩,bS hcaps⟩ ⟨⟨rfl,.inr ⟨⟨⟨⟨rfl,rfl⟩,rfl,.inl rfl,trivial⟩,trivial⟩,rfl⟩⟩,⟨rfl,.inl ⟨rfl,aM _⟩⟩,trivial⟩ rfl ⟨⟨rfl,rfl⟩,rfl⟩ rfl ⟨⟨rfl,.inr ⟨rfl,rfl,rfl⟩⟩,⟨rfl,.inl ⟨rfl,aM _⟩⟩,⟨rfl,.inl ⟨rfl,rfl⟩⟩,trivial⟩ rfl rfl ?_)
      |((with_reducible show aI _ _ _ _);refine dK ?_))<;>with_reducible refine wK ?_)
    |((with_reducible show(_∧_)∧_∧_);(refine eK ?_ ?_<;>with_reducible repeat' (first|exact trivial|(show _∧_;refine aK ?_ ?_)))))
  all_goals first
    |rfl
    |exact oT rfl rfl rfl hlm.symm (aM _)
    |exact oT rfl rfl rfl rfl rfl
    |exact⟨.refl rfl,rfl⟩
    |exact(.inl rfl:kx _)
    |exact .inr (.inr ⟨9,rfl⟩)
    |trace_state
theorem CI (f:ForM)(hs:bC f.nodes)(g:Nat)(cg:ak Tryz.prog g)(caps:List AV)(hcaps:bu caps=true)(l':List ai)(hl:l'.length=f.nodes.length)(hg:aj Tryz.prog g [aP f.most f.nodes.length 1 gG,cJ f.nodes] (.ptr 0 0 0::caps) [aP f.most f.nodes.length 1 gG,cJ l'] eI):
    aj Tryz.prog 56 [] [aR f,eI,.clo (.func g) [] caps] [] (.tup [aR ⟨l',f.most⟩,lQ [],ah 0]):=by
  have h121:=tQ f hs
  have hlm:(l'.map bM).length=f.nodes.length:=by rw[bN,hl]
  obtain⟨l,m⟩:=f
  simp only at*
  refine aj.aD (rvs:=[.cell 6 24,.tmp 7,.tmp 8]) G au Tryz.func56 rfl Tryz.ntmps56 rfl rfl ?_;with_reducible refine wD ?_
  repeat' (first
    |refine gK ?_
    | ((first
      |((with_reducible show ae _ _ 121 _ _ _ _);refine ae.dx (news:=[aP m l.length 111 gG,cJ l]) [110,111] [] h121 CO ⟨⟨rfl,rfl,trivial⟩,trivial⟩ trivial rfl ⟨⟨rfl,rfl⟩,rfl⟩ rfl ⟨⟨rfl,.inr ⟨rfl,rfl,rfl⟩⟩,⟨rfl,.inl ⟨rfl,aM _⟩⟩,trivial⟩ rfl rfl ?_)
      |((with_reducible show aZ _ _ _ _ _);first|refine aZ.lO true Tryz.underlying98 rfl rfl rfl rfl rfl ?_|refine aZ.lO false Tryz.underlying98 rfl rfl rfl rfl rfl ?_|refine aZ.lp false Tryz.underlying98 rfl rfl rfl rfl rfl ?_|refine aZ.lp true Tryz.underlying98 rfl rfl rfl rfl rfl ?_)
      |((with_reducible show ae _ _ 122 _ _ _ _);refine ae.lit [] h122 J4 ⟨⟨rfl,rfl⟩,trivial⟩ rfl rfl ?_)
      |((with_reducible show ae _ _ _ _ _ _ _);refine ae.dx (news:=[aP m l.length 111 gG,cJ l']) [110,111] [] hg cg ⟨⟨rfl,rfl⟩,bS hcaps⟩ ⟨⟨rfl,.inr ⟨⟨⟨⟨rfl,rfl⟩,rfl,.inl rfl,trivial⟩,trivial⟩,rfl⟩⟩,⟨rfl,.inl ⟨rfl,aM _⟩⟩,trivial⟩ rfl ⟨⟨rfl,rfl⟩,rfl⟩ rfl ⟨⟨rfl,.inr ⟨rfl,rfl,rfl⟩⟩,⟨rfl,.inl ⟨rfl,aM _⟩⟩,trivial⟩ rfl rfl ?_)
      |((with_reducible show aI _ _ _ _);refine dK ?_))<;>with_reducible refine wK ?_)
    |((with_reducible show(_∧_)∧_∧_);(refine eK ?_ ?_<;>with_reducible repeat' (first|exact trivial|(show _∧_;refine aK ?_ ?_)))))
  all_goals first
    |rfl
    |exact oT rfl rfl rfl hlm.symm (aM _)
    |exact oT rfl rfl rfl rfl rfl
    |exact⟨.refl rfl,rfl⟩
    |exact(.inl rfl:kx _)
    |exact .inr (.inr ⟨9,rfl⟩)
    |trace_state
theorem vI (f:ForM)(hs:bC f.nodes)(g:Nat)(cg:ak Tryz.prog g)(caps:List AV)(hcaps:bu caps=true)(what:ByteArray)(e:Int)(hg:aj Tryz.prog g [aP f.most f.nodes.length 1 gG,cJ f.nodes] (.ptr 0 0 0::caps) [aP f.most f.nodes.length 1 gG,cJ f.nodes] (.lit (hO what e))):
    aj Tryz.prog 56 [] [aR f,eI,.clo (.func g) [] caps] [] (.tup [aR f,lQ [],ah e]):=by
  have h121:=tQ f hs
  have h122:=IB what e
  obtain⟨l,m⟩:=f
  simp only at*
  refine aj.aD (rvs:=[.cell 6 24,.tmp 7,.tmp 8]) G au Tryz.func56 rfl Tryz.ntmps56 rfl rfl ?_;with_reducible refine wD ?_
  repeat' (first
    |refine gK ?_
    | ((first
      |((with_reducible show ae _ _ 121 _ _ _ _);refine ae.dx (news:=[aP m l.length 111 gG,cJ l]) [110,111] [] h121 CO ⟨⟨rfl,rfl,trivial⟩,trivial⟩ trivial rfl ⟨⟨rfl,rfl⟩,rfl⟩ rfl ⟨⟨rfl,.inr ⟨rfl,rfl,rfl⟩⟩,⟨rfl,.inl ⟨rfl,aM _⟩⟩,trivial⟩ rfl rfl ?_)
      |((with_reducible show aZ _ _ _ _ _);first|refine aZ.lO true Tryz.underlying98 rfl rfl rfl rfl rfl ?_|refine aZ.lO false Tryz.underlying98 rfl rfl rfl rfl rfl ?_|refine aZ.lp false Tryz.underlying98 rfl rfl rfl rfl rfl ?_|refine aZ.lp true Tryz.underlying98 rfl rfl rfl rfl rfl ?_)
      |((with_reducible show ae _ _ 122 _ _ _ _);refine ae.lit [] h122 J4 ⟨⟨rfl,rfl⟩,trivial⟩ rfl rfl ?_)
      |((with_reducible show ae _ _ _ _ _ _ _);refine ae.dx (news:=[aP m l.length 111 gG,cJ l]) [110,111] [] hg cg ⟨⟨rfl,rfl⟩,bS hcaps⟩ ⟨⟨rfl,.inr ⟨⟨⟨⟨rfl,rfl⟩,rfl,.inl rfl,trivial⟩,trivial⟩,rfl⟩⟩,⟨rfl,.inl ⟨rfl,aM _⟩⟩,trivial⟩ rfl ⟨⟨rfl,rfl⟩,rfl⟩ rfl ⟨⟨rfl,.inr ⟨rfl,rfl,rfl⟩⟩,⟨rfl,.inl ⟨rfl,aM _⟩⟩,trivial⟩ rfl rfl ?_)
      |((with_reducible show aI _ _ _ _);refine dK ?_))<;>with_reducible refine wK ?_)
    |((with_reducible show(_∧_)∧_∧_);(refine eK ?_ ?_<;>with_reducible repeat' (first|exact trivial|(show _∧_;refine aK ?_ ?_)))))
  all_goals first
    |rfl
    |exact oT rfl rfl rfl hlm.symm (aM _)
    |exact oT rfl rfl rfl rfl rfl
    |exact⟨.refl rfl,rfl⟩
    |exact(.inl rfl:kx _)
    |exact .inr (.inr ⟨9,rfl⟩)
    |trace_state
theorem jZ (f:ForM)(hs:bC f.nodes)(g:Nat)(caps:List AV)(what:ByteArray)(e:Int)                   :
    aj Tryz.prog 56 [] [aR f,.lit (hO what e),.clo (.func g) [] caps] [] (.tup [aR f,lQ [],ah e]):=by
  have h121:=tQ f hs
  have h122:=IB what e
  obtain⟨l,m⟩:=f
  simp only at*
  refine aj.aD (rvs:=[.cell 6 24,.tmp 7,.tmp 8]) G au Tryz.func56 rfl Tryz.ntmps56 rfl rfl ?_;with_reducible refine wD ?_
  repeat' (first
    |refine gK ?_
    | ((first
      |((with_reducible show ae _ _ 121 _ _ _ _);refine ae.dx (news:=[aP m l.length 111 gG,cJ l]) [110,111] [] h121 CO ⟨⟨rfl,rfl,trivial⟩,trivial⟩ trivial rfl ⟨⟨rfl,rfl⟩,rfl⟩ rfl ⟨⟨rfl,.inr ⟨rfl,rfl,rfl⟩⟩,⟨rfl,.inl ⟨rfl,aM _⟩⟩,trivial⟩ rfl rfl ?_)
      |((with_reducible show aZ _ _ _ _ _);first|refine aZ.lO true Tryz.underlying98 rfl rfl rfl rfl rfl ?_|refine aZ.lO false Tryz.underlying98 rfl rfl rfl rfl rfl ?_|refine aZ.lp false Tryz.underlying98 rfl rfl rfl rfl rfl ?_|refine aZ.lp true Tryz.underlying98 rfl rfl rfl rfl rfl ?_)
      |((with_reducible show ae _ _ 122 _ _ _ _);refine ae.lit [] h122 J4 ⟨⟨rfl,rfl⟩,trivial⟩ rfl rfl ?_)
      |((with_reducible show aI _ _ _ _);refine dK ?_))<;>with_reducible refine wK ?_)
    |((with_reducible show(_∧_)∧_∧_);(refine eK ?_ ?_<;>with_reducible repeat' (first|exact trivial|(show _∧_;refine aK ?_ ?_)))))
  all_goals first
    |rfl
    |exact oT rfl rfl rfl hlm.symm (aM _)
    |exact oT rfl rfl rfl rfl rfl
    |exact⟨.refl rfl,rfl⟩
    |exact(.inl rfl:kx _)
    |exact .inr (.inr ⟨9,rfl⟩)
    |trace_state
end Go.Proofs.Heir
