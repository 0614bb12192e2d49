/- Models, plain laws and contracts of functions of the given program; conditions as stated in each theorem. By an AI agent. -/
import Derived.Test.YtkhjcnjicjgfiaaGreatDoorWN20
import Derived.Test.YtkhjcnjicjgfiaaGreatDoorWN21
import Derived.Test.YtkhjcnjicjgfiaaGreatDoorWN14
import Derived.Test.YtkhjcnjicjgfiaaGreatDoorWN17
import Derived.Test.YtkhjcnjicjgfiaaGreatDoorWN18
import Derived.Test.YtkhjcnjicjgfiaaGreatDoorWN11
set_option linter.unusedSimpArgs false
set_option linter.unusedVariables false
namespace Go.Proofs.Heir
open Go Go.Am Go.RowKit Go.Lib
set_option maxRecDepth 100000
set_option maxHeartbeats 8000000
@[reducible] def gI (what : ByteArray) (e : Int) : Value := .iface 178 (.agg #[.string what, .iface 176 (.agg #[.int .i64 e])])
@[reducible] def lM : ByteArray := ⟨#[97, 115, 107, 101, 100]⟩
@[reducible] def qP : ByteArray := ⟨#[101, 108, 101, 109]⟩
@[reducible] def eF : AV := .lit .nilIface
theorem sQ (what:ByteArray)(w:World):Calls Tryz.prog 60 #[.string what,.int .i64 0] w fun ev w'=>ev=.returned .nilIface∧w'=w:=by
  go_enter Tryz.func60,Tryz.ntmps60
  go_wp2
  go_ret
  exact⟨rfl,rfl⟩
theorem um (what:ByteArray)(e:Int)(he:e≠0)(w:World):Calls Tryz.prog 60 #[.string what,.int .i64 e] w fun ev w'=>ev=.returned (gI what e)∧w'=w:=by
  go_enter Tryz.func60,Tryz.ntmps60
  go_wp2
  go_ret
  exact⟨rfl,rfl⟩
theorem lD (what:ByteArray):ak Tryz.prog 60 [] [bS what,ah 0] [] eF:=
  ak.jG (vs:=[.string what,.int .i64 0]) fun w _=>(sQ what w).mono (by rintro e w' ⟨rfl,rfl⟩;exact⟨rfl,Below.refl _ _⟩)
theorem jV (what:ByteArray)(e:Int)(he:e≠0):ak Tryz.prog 60 [] [bS what,ah e] [] (.lit (gI what e)):=
  ak.jG (vs:=[.string what,.int .i64 e]) fun w _=>(um what e he w).mono (by rintro e w' ⟨rfl,rfl⟩;exact⟨rfl,Below.refl _ _⟩)
theorem nQ (f:ForM)(hs:bw f.nodes)(n:Int)(h:(bt f&&ae f.nodes n)=true):ak Tryz.prog 77 [] [aM f,ah n] [] eF:=by
  have h17:=oy f hs
  have hr:bt f=true:=by simp only[bN] at h;exact h.1
  have ht:ae f.nodes n=true:=by simp only[bN] at h;exact h.2
  rw[hr] at h17
  obtain⟨l,m⟩:=f
  simp only at h17 ht
  have hlm:(l.map bF).length=l.length:=bW ..
  have e0:¬n<0:=by unfold ae at ht;simp at ht;omega
  have e1:¬ (l.length:Int)≤n:=by unfold ae at ht;simp at ht;omega
  refine ak.aD (rvs:=[.tmp 4]) G au Tryz.func77 rfl Tryz.ntmps77 rfl rfl ?_;with_reducible refine wD ?_
  (have fct:=And.intro hlm (And.intro e0 (e1));(repeat' (first
    |refine gF ?_
    |(((with_reducible show af _ _ 17 _ _ _ _);refine af.lit [] h17 Em ⟨⟨rfl,rfl,trivial⟩,trivial⟩ rfl rfl ?_)<;>with_reducible refine wK ?_)
    |((with_reducible show(_∧_)∧_∧_);(refine eK ?_ ?_<;>with_reducible repeat' (first|exact trivial|(show _∧_;refine aK ?_ ?_))))));all_goals clear fct)
  all_goals rfl
theorem yo (f:ForM)(hs:bw f.nodes)(n:Int)(h:(bt f&&ae f.nodes n)=false):ak Tryz.prog 77 [] [aM f,ah n] [] (.lit (gI lM 1)):=by
  have h17:=oy f hs
  have h60:=jV lM 1 (by decide)
  obtain⟨l,m⟩:=f
  simp only at h h17
  have hlm:(l.map bF).length=l.length:=bW ..
  cases hr:bt ⟨l,m⟩ with
  | false=>
    rw[hr] at h17
    refine ak.aD (rvs:=[.tmp 4]) G au Tryz.func77 rfl Tryz.ntmps77 rfl rfl ?_;with_reducible refine wD ?_
    (have fct:=hlm;(repeat' (first
    |refine gF ?_
    | ((first
      |((with_reducible show af _ _ 17 _ _ _ _);refine af.lit [] h17 Em ⟨⟨rfl,rfl,trivial⟩,trivial⟩ rfl rfl ?_)
      |((with_reducible show af _ _ 60 _ _ _ _);refine af.lit [] h60 FR ⟨rfl,rfl,trivial⟩ rfl rfl ?_))<;>with_reducible refine wK ?_)
    |((with_reducible show(_∧_)∧_∧_);(refine eK ?_ ?_<;>with_reducible repeat' (first|exact trivial|(show _∧_;refine aK ?_ ?_))))));all_goals clear fct)
    all_goals rfl
  | true=>
    have ht:ae l n=false:=by rw[hr] at h;simpa using h
    rw[hr] at h17
    by_cases e0:n<0
    · refine ak.aD (rvs:=[.tmp 4]) G au Tryz.func77 rfl Tryz.ntmps77 rfl rfl ?_;with_reducible refine wD ?_
      (have fct:=And.intro hlm (e0);(repeat' (first
    |refine gF ?_
    | ((first
      |((with_reducible show af _ _ 17 _ _ _ _);refine af.lit [] h17 Em ⟨⟨rfl,rfl,trivial⟩,trivial⟩ rfl rfl ?_)
      |((with_reducible show af _ _ 60 _ _ _ _);refine af.lit [] h60 FR ⟨rfl,rfl,trivial⟩ rfl rfl ?_))<;>with_reducible refine wK ?_)
    | ((with_reducible show(_∧_)∧_∧_);(refine eK ?_ ?_<;>with_reducible repeat' (first|exact trivial|(show _∧_;refine aK ?_ ?_))))));all_goals clear fct)
      all_goals rfl
    · have e1:(l.length:Int)≤n:=by unfold ae at ht;simp at ht;omega
      refine ak.aD (rvs:=[.tmp 4]) G au Tryz.func77 rfl Tryz.ntmps77 rfl rfl ?_;with_reducible refine wD ?_
      (have fct:=And.intro hlm (And.intro e0 (e1));(repeat' (first
    |refine gF ?_
    | ((first
      |((with_reducible show af _ _ 17 _ _ _ _);refine af.lit [] h17 Em ⟨⟨rfl,rfl,trivial⟩,trivial⟩ rfl rfl ?_)
      |((with_reducible show af _ _ 60 _ _ _ _);refine af.lit [] h60 FR ⟨rfl,rfl,trivial⟩ rfl rfl ?_))<;>with_reducible refine wK ?_)
    | ((with_reducible show(_∧_)∧_∧_);(refine eK ?_ ?_<;>with_reducible repeat' (first|exact trivial|(show _∧_;refine aK ?_ ?_))))));all_goals clear fct)
      all_goals rfl
theorem zj (f:ForM)(hs:bw f.nodes)(k:Nat)(y:ai)(hy:f.nodes[k]? =some y)(hr:bt f=true)(hk:y.kind=1):ak Tryz.prog 57 [] [aM f,ah k] [] eF:=by
  have h77:=nQ f hs k (by rw[hr,iz hy];rfl)
  obtain⟨l,m⟩:=f
  simp only at h77 hy
  have hkl:k<l.length:=(aY hy).1
  have hlm:(l.map bF).length=l.length:=bW ..
  obtain⟨y1,y2,y3,y4,y5,y6,y7,y8,y9,y10⟩:=y
  simp only at hk
  subst hk
  refine ak.aD (rvs:=[.tmp 4]) G au Tryz.func57 rfl Tryz.ntmps57 rfl rfl ?_;with_reducible refine wD ?_
  (have fct:=hlm;(repeat' (first
    |refine gF ?_
    | ((first
      |((with_reducible show af _ _ 77 _ _ _ _);refine af.lit [] h77 Ka ⟨⟨rfl,rfl,trivial⟩,rfl,trivial⟩ rfl rfl ?_)
      |((with_reducible show bg _ _ _ _ _);refine bg.mk k (aP ⟨1,y2,y3,y4,y5,y6,y7,y8,y9,y10⟩) rfl (aB hy) ?_)
      |((with_reducible show aW _ _ _ _ _);first|refine aW.lu true Tryz.underlying98 rfl rfl rfl rfl rfl ?_|refine aW.kS false Tryz.underlying98 rfl rfl rfl rfl rfl ?_))<;>with_reducible refine wK ?_)
    |((with_reducible show(_∧_)∧_∧_);(refine eK ?_ ?_<;>with_reducible repeat' (first|exact trivial|(show _∧_;refine aK ?_ ?_))))));all_goals clear fct)
  all_goals first|rfl|trace_state
theorem vh (f:ForM)(hs:bw f.nodes)(k:Nat)(y:ai)(hy:f.nodes[k]? =some y)(hr:bt f=true)(hk:y.kind≠1):ak Tryz.prog 57 [] [aM f,ah k] [] (.lit (gI qP 5)):=by
  have h77:=nQ f hs k (by rw[hr,iz hy];rfl)
  have h60:=jV qP 5 (by decide)
  obtain⟨l,m⟩:=f
  simp only at h77 hy
  have hkl:k<l.length:=(aY hy).1
  have hlm:(l.map bF).length=l.length:=bW ..
  obtain⟨y1,y2,y3,y4,y5,y6,y7,y8,y9,y10⟩:=y
  simp only at hk
  have hk:=dx hk
  refine ak.aD (rvs:=[.tmp 4]) G au Tryz.func57 rfl Tryz.ntmps57 rfl rfl ?_;with_reducible refine wD ?_
  (have fct:=And.intro hlm (hk);(repeat' (first
    |refine gF ?_
    | ((first
      |((with_reducible show af _ _ 77 _ _ _ _);refine af.lit [] h77 Ka ⟨⟨rfl,rfl,trivial⟩,rfl,trivial⟩ rfl rfl ?_)
      |((with_reducible show af _ _ 60 _ _ _ _);refine af.lit [] h60 FR ⟨rfl,rfl,trivial⟩ rfl rfl ?_)
      |((with_reducible show bg _ _ _ _ _);refine bg.mk k (aP ⟨y1,y2,y3,y4,y5,y6,y7,y8,y9,y10⟩) rfl (aB hy) ?_)
      |((with_reducible show aW _ _ _ _ _);first|refine aW.lu true Tryz.underlying98 rfl rfl rfl rfl rfl ?_|refine aW.kS false Tryz.underlying98 rfl rfl rfl rfl rfl ?_))<;>with_reducible refine wK ?_)
    |((with_reducible show(_∧_)∧_∧_);(refine eK ?_ ?_<;>with_reducible repeat' (first|exact trivial|(show _∧_;refine aK ?_ ?_))))));all_goals clear fct)
  all_goals first|rfl|trace_state
theorem Ch (f:ForM)(hs:bw f.nodes)(n:Int)(h:(bt f&&ae f.nodes n)=false):ak Tryz.prog 57 [] [aM f,ah n] [] (.lit (gI lM 1)):=by
  have h77:=yo f hs n h
  refine ak.aD (rvs:=[.tmp 4]) G au Tryz.func57 rfl Tryz.ntmps57 rfl rfl ?_;with_reducible refine wD ?_
  repeat' (first
    |refine gK ?_
    | ((first
      |((with_reducible show af _ _ 77 _ _ _ _);refine af.lit [] h77 Ka ⟨⟨rfl,rfl,trivial⟩,rfl,trivial⟩ rfl rfl ?_)
      |((with_reducible show aW _ _ _ _ _);first|refine aW.lu false Tryz.underlying98 rfl rfl rfl rfl rfl ?_|refine aW.kS true Tryz.underlying98 rfl rfl rfl rfl rfl ?_))<;>with_reducible refine wK ?_)
    |((with_reducible show(_∧_)∧_∧_);(refine eK ?_ ?_<;>with_reducible repeat' (first|exact trivial|(show _∧_;refine aK ?_ ?_)))))
  all_goals first|rfl|trace_state
@[reducible] def D9 : ByteArray := ⟨#[115, 101, 116]⟩
@[reducible] def wB : ByteArray := ⟨#[117, 110, 115, 101, 116]⟩
theorem vk (xs:List AttrM)(e:Int):bz (.tup [cJ xs,ah e])=true:=by
  have:=fW xs
  simp[bz,br,this]
theorem qB (xs:List AttrM)(b:Bool):bz (.tup [cJ xs,bC b])=true:=by
  have:=fW xs
  simp[bz,br,this]
theorem uV {l:List AttrM}{s v:ByteArray}(he:(dS l s v).2=0):0≤bV (dS l s v).1 s:=by
  obtain⟨k,hk⟩:=JJ he
  have h1:=(A1 he).2
  have h2:=(vY he).1.2.1
  rw[HR h1.right h2 hk rfl]
  omega
theorem GM (l:List ai)(m:Int)(hs:bw l)(k:Nat)(y:ai)(hy:l[k]? =some y)(s v:ByteArray)(hs3:s.size≤100000)(he:(dS y.attrs s v).2=0):
    ak Tryz.prog 58 [aL m l.length 1 fH,cu l] [.ptr 0 0 0,.fptr (ah k) 0,.fptr (bS s) 0,.fptr (bS v) 0]
      [aL m l.length 1 (.own 2 0 1),cu (iv l k (dS y.attrs s v).1),.live 9 [dY (qH y k s (dS y.attrs s v).1)] false] eF:=by
  have hl:=hs.attrs y (bO hy)
  have hkl:k<l.length:=(aY hy).1
  have hlm:(l.map bF).length=l.length:=bW ..
  have h59:=Gh y.attrs (by omega) s v
  have h61:=uh l m hs k y hy s hs3 (dS y.attrs s v).1 (by have:=FD y.attrs s v;omega) (.inr (uV he))
  rw[he] at h59
  have ha:(iv l k (dS y.attrs s v).1).length=l.length:=gV ..
  generalize iv l k (dS y.attrs s v).1=l' at h61 ha ⊢
  generalize qH y k s (dS y.attrs s v).1=x at h61 ⊢
  obtain⟨y1,y2,y3,y4,y5,y6,y7,y8,y9,y10⟩:=y
  simp only at*
  refine ak.eA [(2,311)] (rvs:=[.tmp 5]) G au Tryz.func58 rfl Tryz.ntmps58 rfl rfl ?_;with_reducible refine wD ?_
  repeat' (first
    |refine gK ?_
    | ((first
      |((with_reducible show af _ _ 59 _ _ _ _);refine af.val [] h59 Mm ⟨rfl,rfl,rfl,trivial⟩ rfl rfl (vk _ _) ?_)
      |((with_reducible show ee _ _ _ _ _);refine ee.mk k rfl hkl ?_)
      |((with_reducible show aT _ _ _ _ _);first|refine aT.mk (aP ⟨y1,y2,y3,y4,y5,y6,y7,y8,y9,y10⟩) (by first|exact aB hy|(rw[Nat.zero_add];exact aB hy)) ?_|refine aT.mk _ rfl ?_)
      |((with_reducible show af _ _ 61 _ _ _ _);refine af.c7 (news:=[aL m l.length 1 (.own 311 0 1),cu l',.live 9 [dY x] false]) [0,1,311] [] h61 LF ⟨⟨rfl,rfl⟩,rfl,rfl,rfl,trivial⟩ ⟨⟨rfl,.inr ⟨⟨⟨⟨rfl,rfl⟩,rfl,.inl rfl,trivial⟩,trivial⟩,rfl⟩⟩,⟨rfl,.inl ⟨rfl,aF _⟩⟩,trivial⟩ rfl ⟨⟨rfl,rfl⟩,rfl⟩ rfl ⟨⟨rfl,.inr ⟨rfl,rfl,rfl⟩⟩,⟨rfl,.inl ⟨rfl,aF _⟩⟩,⟨rfl,.inl ⟨rfl,rfl⟩⟩,trivial⟩ rfl rfl ?_)
      |((with_reducible show aI _ _ _ _);refine dK ?_))<;>with_reducible refine wK ?_)
    |((with_reducible show(_∧_)∧_∧_);(refine eK ?_ ?_<;>with_reducible repeat' (first|exact trivial|(show _∧_;refine aK ?_ ?_)))))
  all_goals first
    |rfl
    |exact⟨.refl rfl,rfl⟩
    |exact(.inl rfl:mY _)
    |exact⟨.refl (aF _),aF _⟩
    |trace_state
theorem EB (l:List ai)(m:Int)(hs:bw l)(k:Nat)(y:ai)(hy:l[k]? =some y)(s v:ByteArray)(hs3:s.size≤100000)(he:(dS y.attrs s v).2≠0):
    ak Tryz.prog 58 [aL m l.length 1 fH,cu l] [.ptr 0 0 0,.fptr (ah k) 0,.fptr (bS s) 0,.fptr (bS v) 0]
      [aL m l.length 1 fH,cu l] (.lit (gI D9 (dS y.attrs s v).2)):=by
  have hl:=hs.attrs y (bO hy)
  have hkl:k<l.length:=(aY hy).1
  have hlm:(l.map bF).length=l.length:=bW ..
  have h59:=Gh y.attrs (by omega) s v
  have h60:=jV D9 (dS y.attrs s v).2 he
  have hd:=dx he
  generalize(dS y.attrs s v).2=e at h59 h60 hd he ⊢
  obtain⟨y1,y2,y3,y4,y5,y6,y7,y8,y9,y10⟩:=y
  simp only at*
  refine ak.eA [] (rvs:=[.tmp 5]) G au Tryz.func58 rfl Tryz.ntmps58 rfl rfl ?_;with_reducible refine wD ?_
  (have fct:=hd;(repeat' (first
    |refine gF ?_
    | ((first
      |((with_reducible show af _ _ 59 _ _ _ _);refine af.val [] h59 Mm ⟨rfl,rfl,rfl,trivial⟩ rfl rfl (vk _ _) ?_)
      |((with_reducible show ee _ _ _ _ _);refine ee.mk k rfl hkl ?_)
      |((with_reducible show aT _ _ _ _ _);first|refine aT.mk (aP ⟨y1,y2,y3,y4,y5,y6,y7,y8,y9,y10⟩) (by first|exact aB hy|(rw[Nat.zero_add];exact aB hy)) ?_|refine aT.mk _ rfl ?_)
      |((with_reducible show af _ _ 60 _ _ _ _);refine af.lit [] h60 FR ⟨rfl,rfl,trivial⟩ rfl rfl ?_)
      |((with_reducible show aI _ _ _ _);refine dK ?_))<;>with_reducible refine wK ?_)
    |((with_reducible show(_∧_)∧_∧_);(refine eK ?_ ?_<;>with_reducible repeat' (first|exact trivial|(show _∧_;refine aK ?_ ?_))))));all_goals clear fct)
  all_goals first
    |rfl
    |exact⟨.refl rfl,rfl⟩
    |exact(.inl rfl:mY _)
    |exact⟨.refl (aF _),aF _⟩
    |trace_state
theorem AR (l:List ai)(m:Int)(hs:bw l)(k:Nat)(y:ai)(hy:l[k]? =some y)(s:ByteArray)(hs3:s.size≤100000)(hr:bJ s=true)(hf:0≤bV y.attrs s∨0≤bV (cz y.attrs s).1 s):
    ak Tryz.prog 66 [aL m l.length 1 fH,cu l] [.ptr 0 0 0,.fptr (bS s) 0,.fptr (ah k) 0]
      [aL m l.length 1 (.own 2 0 1),cu (iv l k (cz y.attrs s).1),.live 9 [dY (qH y k s (cz y.attrs s).1)] false] eF:=by
  have hl:=hs.attrs y (bO hy)
  have hkl:k<l.length:=(aY hy).1
  have hlm:(l.map bF).length=l.length:=bW ..
  have h67:=rB s
  have h68:=AP y.attrs (by omega) s
  rw[hr] at h67
  have h61:=uh l m hs k y hy s hs3 (cz y.attrs s).1 (by have:=rI y.attrs s;omega) hf
  have ha:(iv l k (cz y.attrs s).1).length=l.length:=gV ..
  generalize iv l k (cz y.attrs s).1=l' at h61 ha ⊢
  generalize qH y k s (cz y.attrs s).1=x at h61 ⊢
  obtain⟨y1,y2,y3,y4,y5,y6,y7,y8,y9,y10⟩:=y
  simp only at*
  refine ak.eA [(2,291)] (rvs:=[.tmp 4]) G au Tryz.func66 rfl Tryz.ntmps66 rfl rfl ?_;with_reducible refine wD ?_
  repeat' (first
    |refine gK ?_
    | ((first
      |((with_reducible show af _ _ 67 _ _ _ _);refine af.lit [] h67 DT ⟨rfl,trivial⟩ rfl rfl ?_)
      |((with_reducible show af _ _ 68 _ _ _ _);refine af.val [] h68 LV ⟨rfl,rfl,trivial⟩ rfl rfl (qB _ _) ?_)
      |((with_reducible show ee _ _ _ _ _);refine ee.mk k rfl hkl ?_)
      |((with_reducible show aT _ _ _ _ _);first|refine aT.mk (aP ⟨y1,y2,y3,y4,y5,y6,y7,y8,y9,y10⟩) (by first|exact aB hy|(rw[Nat.zero_add];exact aB hy)) ?_|refine aT.mk _ rfl ?_)
      |((with_reducible show af _ _ 61 _ _ _ _);refine af.c7 (news:=[aL m l.length 1 (.own 291 0 1),cu l',.live 9 [dY x] false]) [0,1,291] [] h61 LF ⟨⟨rfl,rfl⟩,rfl,rfl,rfl,trivial⟩ ⟨⟨rfl,.inr ⟨⟨⟨⟨rfl,rfl⟩,rfl,.inl rfl,trivial⟩,trivial⟩,rfl⟩⟩,⟨rfl,.inl ⟨rfl,aF _⟩⟩,trivial⟩ rfl ⟨⟨rfl,rfl⟩,rfl⟩ rfl ⟨⟨rfl,.inr ⟨rfl,rfl,rfl⟩⟩,⟨rfl,.inl ⟨rfl,aF _⟩⟩,⟨rfl,.inl ⟨rfl,rfl⟩⟩,trivial⟩ rfl rfl ?_)
      |((with_reducible show aI _ _ _ _);refine dK ?_))<;>with_reducible refine wK ?_)
    |((with_reducible show(_∧_)∧_∧_);(refine eK ?_ ?_<;>with_reducible repeat' (first|exact trivial|(show _∧_;refine aK ?_ ?_)))))
  all_goals first
    |rfl
    |exact⟨.refl rfl,rfl⟩
    |exact(.inl rfl:mY _)
    |exact⟨.refl (aF _),aF _⟩
    |trace_state
theorem Cx (l:List ai)(m:Int)(hs:bw l)(k:Nat)(y:ai)(hy:l[k]? =some y)(s:ByteArray)(hs3:s.size≤100000)(hr:bJ s=true)(hf:¬0≤bV y.attrs s∧¬0≤bV (cz y.attrs s).1 s):
    ak Tryz.prog 66 [aL m l.length 1 fH,cu l] [.ptr 0 0 0,.fptr (bS s) 0,.fptr (ah k) 0]
      [aL m l.length 1 fH,cu (iv l k (cz y.attrs s).1)] eF:=by
  have hl:=hs.attrs y (bO hy)
  have hkl:k<l.length:=(aY hy).1
  have hlm:(l.map bF).length=l.length:=bW ..
  have h67:=rB s
  have h68:=AP y.attrs (by omega) s
  rw[hr] at h67
  have h61:=Dm l m hs k y hy s hs3 (cz y.attrs s).1 (by have:=rI y.attrs s;omega) hf
  have ha:(iv l k (cz y.attrs s).1).length=l.length:=gV ..
  generalize iv l k (cz y.attrs s).1=l' at h61 ha ⊢
  obtain⟨y1,y2,y3,y4,y5,y6,y7,y8,y9,y10⟩:=y
  simp only at*
  refine ak.eA [] (rvs:=[.tmp 4]) G au Tryz.func66 rfl Tryz.ntmps66 rfl rfl ?_;with_reducible refine wD ?_
  repeat' (first
    |refine gK ?_
    | ((first
      |((with_reducible show af _ _ 67 _ _ _ _);refine af.lit [] h67 DT ⟨rfl,trivial⟩ rfl rfl ?_)
      |((with_reducible show af _ _ 68 _ _ _ _);refine af.val [] h68 LV ⟨rfl,rfl,trivial⟩ rfl rfl (qB _ _) ?_)
      |((with_reducible show ee _ _ _ _ _);refine ee.mk k rfl hkl ?_)
      |((with_reducible show aT _ _ _ _ _);first|refine aT.mk (aP ⟨y1,y2,y3,y4,y5,y6,y7,y8,y9,y10⟩) (by first|exact aB hy|(rw[Nat.zero_add];exact aB hy)) ?_|refine aT.mk _ rfl ?_)
      |((with_reducible show af _ _ 61 _ _ _ _);refine af.c7 (news:=[aL m l.length 1 fH,cu l']) [0,1] [] h61 LF ⟨⟨rfl,rfl⟩,rfl,rfl,rfl,trivial⟩ ⟨⟨rfl,.inr ⟨⟨⟨⟨rfl,rfl⟩,rfl,.inl rfl,trivial⟩,trivial⟩,rfl⟩⟩,⟨rfl,.inl ⟨rfl,aF _⟩⟩,trivial⟩ rfl ⟨⟨rfl,rfl⟩,rfl⟩ rfl ⟨⟨rfl,.inr ⟨rfl,rfl,rfl⟩⟩,⟨rfl,.inl ⟨rfl,aF _⟩⟩,trivial⟩ rfl rfl ?_)
      |((with_reducible show aI _ _ _ _);refine dK ?_))<;>with_reducible refine wK ?_)
    |((with_reducible show(_∧_)∧_∧_);(refine eK ?_ ?_<;>with_reducible repeat' (first|exact trivial|(show _∧_;refine aK ?_ ?_)))))
  all_goals first
    |rfl
    |exact⟨.refl rfl,rfl⟩
    |exact(.inl rfl:mY _)
    |exact⟨.refl (aF _),aF _⟩
    |trace_state
theorem AE (l:List ai)(m:Int)(hs:bw l)(k:Nat)(y:ai)(hy:l[k]? =some y)(s:ByteArray)(hs3:s.size≤100000)(hr:bJ s=false):
    ak Tryz.prog 66 [aL m l.length 1 fH,cu l] [.ptr 0 0 0,.fptr (bS s) 0,.fptr (ah k) 0]
      [aL m l.length 1 fH,cu l] (.lit (gI wB 4)):=by
  have hl:=hs.attrs y (bO hy)
  have hkl:k<l.length:=(aY hy).1
  have hlm:(l.map bF).length=l.length:=bW ..
  have h67:=rB s
  have h68:=AP y.attrs (by omega) s
  rw[hr] at h67
  have h60:=jV wB 4 (by decide)
  obtain⟨y1,y2,y3,y4,y5,y6,y7,y8,y9,y10⟩:=y
  simp only at*
  refine ak.eA [] (rvs:=[.tmp 4]) G au Tryz.func66 rfl Tryz.ntmps66 rfl rfl ?_;with_reducible refine wD ?_
  repeat' (first
    |refine gK ?_
    | ((first
      |((with_reducible show af _ _ 67 _ _ _ _);refine af.lit [] h67 DT ⟨rfl,trivial⟩ rfl rfl ?_)
      |((with_reducible show af _ _ 68 _ _ _ _);refine af.val [] h68 LV ⟨rfl,rfl,trivial⟩ rfl rfl (qB _ _) ?_)
      |((with_reducible show ee _ _ _ _ _);refine ee.mk k rfl hkl ?_)
      |((with_reducible show aT _ _ _ _ _);first|refine aT.mk (aP ⟨y1,y2,y3,y4,y5,y6,y7,y8,y9,y10⟩) (by first|exact aB hy|(rw[Nat.zero_add];exact aB hy)) ?_|refine aT.mk _ rfl ?_)
      |((with_reducible show af _ _ 60 _ _ _ _);refine af.lit [] h60 FR ⟨rfl,rfl,trivial⟩ rfl rfl ?_)
      |((with_reducible show aI _ _ _ _);refine dK ?_))<;>with_reducible refine wK ?_)
    |((with_reducible show(_∧_)∧_∧_);(refine eK ?_ ?_<;>with_reducible repeat' (first|exact trivial|(show _∧_;refine aK ?_ ?_)))))
  all_goals first
    |rfl
    |exact⟨.refl rfl,rfl⟩
    |exact(.inl rfl:mY _)
    |exact⟨.refl (aF _),aF _⟩
    |trace_state
theorem jh {m:ML}{fz:Nat→Bool}{tab:List (Nat×Nat)}{n t len wd:Nat}{ro:Bool}{rows rows':List AV}(h1:eD m t=.live wd rows ro)(h2:fz t=true)(h3:rows=rows')(h4:len=rows'.length)(h5:br rows'=true):xd m fz (MF tab fz m n) (.sl wd rows') t 0 len:=by
  subst h3;subst h4
  exact .cut h1 h2 (by omega) (by rw[List.drop_zero,qL (by omega)]) h5
@[reducible] def lE (l : List aJ) : AV := .sl 9 (l.map dY)
theorem u4 (f:ForM)(hs:bw f.nodes)(g:Nat)(cg:aq Tryz.prog g)(caps:List AV)(hcaps:br caps=true)(l':List ai)(x:aJ)(hl:l'.length=f.nodes.length)(hg:ak Tryz.prog g [aL f.most f.nodes.length 1 fH,cu f.nodes] (.ptr 0 0 0::caps) [aL f.most f.nodes.length 1 (.own 2 0 1),cu l',.live 9 [dY x] false] eF):
    ak Tryz.prog 56 [] [aM f,eF,.clo (.func g) [] caps] [] (.tup [aM ⟨l',f.most⟩,lE [x],ah 0]):=by
  have h121:=sD f hs
  have hlm:(l'.map bF).length=f.nodes.length:=by rw[bW,hl]
  obtain⟨l,m⟩:=f
  simp only at*
  refine ak.aD (rvs:=[.cell 6 24,.tmp 7,.tmp 8]) G au Tryz.func56 rfl Tryz.ntmps56 rfl rfl ?_;with_reducible refine wD ?_
  repeat' (first
    |refine gK ?_
    | ((first
      |((with_reducible show af _ _ 121 _ _ _ _);refine af.c7 (news:=[aL m l.length 111 fH,cu l]) [110,111] [] h121 DA ⟨⟨rfl,rfl,trivial⟩,trivial⟩ trivial rfl ⟨⟨rfl,rfl⟩,rfl⟩ rfl ⟨⟨rfl,.inr ⟨rfl,rfl,rfl⟩⟩,⟨rfl,.inl ⟨rfl,aF _⟩⟩,trivial⟩ rfl rfl ?_)
      |((with_reducible show aW _ _ _ _ _);first|refine aW.lu true Tryz.underlying98 rfl rfl rfl rfl rfl ?_|refine aW.lu false Tryz.underlying98 rfl rfl rfl rfl rfl ?_|refine aW.kS false Tryz.underlying98 rfl rfl rfl rfl rfl ?_|refine aW.kS true Tryz.underlying98 rfl rfl rfl rfl rfl ?_)
      |((with_reducible show af _ _ 122 _ _ _ _);refine af.lit [] h122 HT ⟨⟨rfl,rfl⟩,trivial⟩ rfl rfl ?_)
      |((with_reducible show af _ _ _ _ _ _ _);refine af.c7 (news:=[aL m l.length 111 (.own 161 0 1),cu l',.live 9 [dY x] false]) [110,111,161] [] hg cg ⟨⟨rfl,rfl⟩,bP hcaps⟩ ⟨⟨rfl,.inr ⟨⟨⟨⟨rfl,rfl⟩,rfl,.inl rfl,trivial⟩,trivial⟩,rfl⟩⟩,⟨rfl,.inl ⟨rfl,aF _⟩⟩,trivial⟩ rfl ⟨⟨rfl,rfl⟩,rfl⟩ rfl ⟨⟨rfl,.inr ⟨rfl,rfl,rfl⟩⟩,⟨rfl,.inl ⟨rfl,aF _⟩⟩,⟨rfl,.inl ⟨rfl,rfl⟩⟩,trivial⟩ rfl rfl ?_)
      |((with_reducible show aI _ _ _ _);refine dK ?_))<;>with_reducible refine wK ?_)
    |((with_reducible show(_∧_)∧_∧_);(refine eK ?_ ?_<;>with_reducible repeat' (first|exact trivial|(show _∧_;refine aK ?_ ?_)))))
  all_goals first
    |rfl
    |exact jh rfl rfl rfl hlm.symm (aF _)
    |exact jh rfl rfl rfl rfl rfl
    |exact⟨.refl rfl,rfl⟩
    |exact(.inl rfl:mY _)
    |exact .inr (.inr ⟨9,rfl⟩)
    |trace_state
theorem AF (f:ForM)(hs:bw f.nodes)(g:Nat)(cg:aq Tryz.prog g)(caps:List AV)(hcaps:br caps=true)(l':List ai)(hl:l'.length=f.nodes.length)(hg:ak Tryz.prog g [aL f.most f.nodes.length 1 fH,cu f.nodes] (.ptr 0 0 0::caps) [aL f.most f.nodes.length 1 fH,cu l'] eF):
    ak Tryz.prog 56 [] [aM f,eF,.clo (.func g) [] caps] [] (.tup [aM ⟨l',f.most⟩,lE [],ah 0]):=by
  have h121:=sD f hs
  have hlm:(l'.map bF).length=f.nodes.length:=by rw[bW,hl]
  obtain⟨l,m⟩:=f
  simp only at*
  refine ak.aD (rvs:=[.cell 6 24,.tmp 7,.tmp 8]) G au Tryz.func56 rfl Tryz.ntmps56 rfl rfl ?_;with_reducible refine wD ?_
  repeat' (first
    |refine gK ?_
    | ((first
      |((with_reducible show af _ _ 121 _ _ _ _);refine af.c7 (news:=[aL m l.length 111 fH,cu l]) [110,111] [] h121 DA ⟨⟨rfl,rfl,trivial⟩,trivial⟩ trivial rfl ⟨⟨rfl,rfl⟩,rfl⟩ rfl ⟨⟨rfl,.inr ⟨rfl,rfl,rfl⟩⟩,⟨rfl,.inl ⟨rfl,aF _⟩⟩,trivial⟩ rfl rfl ?_)
      |((with_reducible show aW _ _ _ _ _);first|refine aW.lu true Tryz.underlying98 rfl rfl rfl rfl rfl ?_|refine aW.lu false Tryz.underlying98 rfl rfl rfl rfl rfl ?_|refine aW.kS false Tryz.underlying98 rfl rfl rfl rfl rfl ?_|refine aW.kS true Tryz.underlying98 rfl rfl rfl rfl rfl ?_)
      |((with_reducible show af _ _ 122 _ _ _ _);refine af.lit [] h122 HT ⟨⟨rfl,rfl⟩,trivial⟩ rfl rfl ?_)
      |((with_reducible show af _ _ _ _ _ _ _);refine af.c7 (news:=[aL m l.length 111 fH,cu l']) [110,111] [] hg cg ⟨⟨rfl,rfl⟩,bP hcaps⟩ ⟨⟨rfl,.inr ⟨⟨⟨⟨rfl,rfl⟩,rfl,.inl rfl,trivial⟩,trivial⟩,rfl⟩⟩,⟨rfl,.inl ⟨rfl,aF _⟩⟩,trivial⟩ rfl ⟨⟨rfl,rfl⟩,rfl⟩ rfl ⟨⟨rfl,.inr ⟨rfl,rfl,rfl⟩⟩,⟨rfl,.inl ⟨rfl,aF _⟩⟩,trivial⟩ rfl rfl ?_)
      |((with_reducible show aI _ _ _ _);refine dK ?_))<;>with_reducible refine wK ?_)
    |((with_reducible show(_∧_)∧_∧_);(refine eK ?_ ?_<;>with_reducible repeat' (first|exact trivial|(show _∧_;refine aK ?_ ?_)))))
  all_goals first
    |rfl
    |exact jh rfl rfl rfl hlm.symm (aF _)
    |exact jh rfl rfl rfl rfl rfl
    |exact⟨.refl rfl,rfl⟩
    |exact(.inl rfl:mY _)
    |exact .inr (.inr ⟨9,rfl⟩)
    |trace_state
theorem s9 (f:ForM)(hs:bw f.nodes)(g:Nat)(cg:aq Tryz.prog g)(caps:List AV)(hcaps:br caps=true)(what:ByteArray)(e:Int)(hg:ak Tryz.prog g [aL f.most f.nodes.length 1 fH,cu f.nodes] (.ptr 0 0 0::caps) [aL f.most f.nodes.length 1 fH,cu f.nodes] (.lit (gI what e))):
    ak Tryz.prog 56 [] [aM f,eF,.clo (.func g) [] caps] [] (.tup [aM f,lE [],ah e]):=by
  have h121:=sD f hs
  have h122:=FN what e
  obtain⟨l,m⟩:=f
  simp only at*
  refine ak.aD (rvs:=[.cell 6 24,.tmp 7,.tmp 8]) G au Tryz.func56 rfl Tryz.ntmps56 rfl rfl ?_;with_reducible refine wD ?_
  repeat' (first
    |refine gK ?_
    | ((first
      |((with_reducible show af _ _ 121 _ _ _ _);refine af.c7 (news:=[aL m l.length 111 fH,cu l]) [110,111] [] h121 DA ⟨⟨rfl,rfl,trivial⟩,trivial⟩ trivial rfl ⟨⟨rfl,rfl⟩,rfl⟩ rfl ⟨⟨rfl,.inr ⟨rfl,rfl,rfl⟩⟩,⟨rfl,.inl ⟨rfl,aF _⟩⟩,trivial⟩ rfl rfl ?_)
      |((with_reducible show aW _ _ _ _ _);first|refine aW.lu true Tryz.underlying98 rfl rfl rfl rfl rfl ?_|refine aW.lu false Tryz.underlying98 rfl rfl rfl rfl rfl ?_|refine aW.kS false Tryz.underlying98 rfl rfl rfl rfl rfl ?_|refine aW.kS true Tryz.underlying98 rfl rfl rfl rfl rfl ?_)
      |((with_reducible show af _ _ 122 _ _ _ _);refine af.lit [] h122 HT ⟨⟨rfl,rfl⟩,trivial⟩ rfl rfl ?_)
      |((with_reducible show af _ _ _ _ _ _ _);refine af.c7 (news:=[aL m l.length 111 fH,cu l]) [110,111] [] hg cg ⟨⟨rfl,rfl⟩,bP hcaps⟩ ⟨⟨rfl,.inr ⟨⟨⟨⟨rfl,rfl⟩,rfl,.inl rfl,trivial⟩,trivial⟩,rfl⟩⟩,⟨rfl,.inl ⟨rfl,aF _⟩⟩,trivial⟩ rfl ⟨⟨rfl,rfl⟩,rfl⟩ rfl ⟨⟨rfl,.inr ⟨rfl,rfl,rfl⟩⟩,⟨rfl,.inl ⟨rfl,aF _⟩⟩,trivial⟩ rfl rfl ?_)
      |((with_reducible show aI _ _ _ _);refine dK ?_))<;>with_reducible refine wK ?_)
    |((with_reducible show(_∧_)∧_∧_);(refine eK ?_ ?_<;>with_reducible repeat' (first|exact trivial|(show _∧_;refine aK ?_ ?_)))))
  all_goals first
    |rfl
    |exact jh rfl rfl rfl hlm.symm (aF _)
    |exact jh rfl rfl rfl rfl rfl
    |exact⟨.refl rfl,rfl⟩
    |exact(.inl rfl:mY _)
    |exact .inr (.inr ⟨9,rfl⟩)
    |trace_state
theorem j5 (f:ForM)(hs:bw f.nodes)(g:Nat)(caps:List AV)(what:ByteArray)(e:Int)                   :
    ak Tryz.prog 56 [] [aM f,.lit (gI what e),.clo (.func g) [] caps] [] (.tup [aM f,lE [],ah e]):=by
  have h121:=sD f hs
  have h122:=FN what e
  obtain⟨l,m⟩:=f
  simp only at*
  refine ak.aD (rvs:=[.cell 6 24,.tmp 7,.tmp 8]) G au Tryz.func56 rfl Tryz.ntmps56 rfl rfl ?_;with_reducible refine wD ?_
  repeat' (first
    |refine gK ?_
    | ((first
      |((with_reducible show af _ _ 121 _ _ _ _);refine af.c7 (news:=[aL m l.length 111 fH,cu l]) [110,111] [] h121 DA ⟨⟨rfl,rfl,trivial⟩,trivial⟩ trivial rfl ⟨⟨rfl,rfl⟩,rfl⟩ rfl ⟨⟨rfl,.inr ⟨rfl,rfl,rfl⟩⟩,⟨rfl,.inl ⟨rfl,aF _⟩⟩,trivial⟩ rfl rfl ?_)
      |((with_reducible show aW _ _ _ _ _);first|refine aW.lu true Tryz.underlying98 rfl rfl rfl rfl rfl ?_|refine aW.lu false Tryz.underlying98 rfl rfl rfl rfl rfl ?_|refine aW.kS false Tryz.underlying98 rfl rfl rfl rfl rfl ?_|refine aW.kS true Tryz.underlying98 rfl rfl rfl rfl rfl ?_)
      |((with_reducible show af _ _ 122 _ _ _ _);refine af.lit [] h122 HT ⟨⟨rfl,rfl⟩,trivial⟩ rfl rfl ?_)
      |((with_reducible show aI _ _ _ _);refine dK ?_))<;>with_reducible refine wK ?_)
    |((with_reducible show(_∧_)∧_∧_);(refine eK ?_ ?_<;>with_reducible repeat' (first|exact trivial|(show _∧_;refine aK ?_ ?_)))))
  all_goals first
    |rfl
    |exact jh rfl rfl rfl hlm.symm (aF _)
    |exact jh rfl rfl rfl rfl rfl
    |exact⟨.refl rfl,rfl⟩
    |exact(.inl rfl:mY _)
    |exact .inr (.inr ⟨9,rfl⟩)
    |trace_state
theorem eL (f:ForM)(ns:List aJ)(e:Int):bz (.tup [aM f,lE ns,ah e])=true:=by
  have h1:=aF f.nodes
  have h2:br (ns.map dY)=true:=iD dY (fun _=>rfl) _
  simp[bz,br,h1,h2]
theorem Ci (f:ForM)(n:Int)(s v:ByteArray)          (r:ForM)(ns:List aJ)(z:Int)(h57:ak Tryz.prog 57 [] [aM f,ah n] [] eF)
    (h56:ak Tryz.prog 56 [] [aM f,eF,.clo (.func 58) [] [.fptr (ah n) 0,.fptr (bS s) 0,.fptr (bS v) 0]] [] (.tup [aM r,lE ns,ah z])):ak Tryz.prog 18 [] [aM f,ah n,bS s,bS v] [] (.tup [aM r,lE ns,ah z]):=by
  obtain⟨l,m⟩:=f
  obtain⟨l',m'⟩:=r
  have hn:=eL ⟨l',m'⟩ ns z
  refine ak.aD (rvs:=[.cell 8 24,.tmp 9,.tmp 10]) G au Tryz.func18 rfl Tryz.ntmps18 rfl rfl ?_;with_reducible refine wD ?_
  repeat' (first
    |refine gK ?_
    | ((first
      |((with_reducible show af _ _ 57 _ _ _ _);refine af.lit [] h57 Lh ⟨⟨rfl,rfl,trivial⟩,rfl,trivial⟩ rfl rfl ?_)
      |((with_reducible show af _ _ 56 _ _ _ _);refine af.val [50,60,70] h56 D3 ⟨⟨rfl,rfl,trivial⟩,⟨rfl,rfl⟩,⟨rfl,trivial,⟨_,_,_,_,_,rfl,rfl,rfl,rfl,rfl,rfl⟩,⟨_,_,_,_,_,rfl,rfl,rfl,rfl,rfl,rfl⟩,⟨_,_,_,_,_,rfl,rfl,rfl,rfl,rfl,rfl⟩,trivial⟩,trivial⟩ rfl rfl hn ?_)
      |((with_reducible show aI _ _ _ _);refine dK ?_))<;>with_reducible refine wK ?_)
    |((with_reducible show(_∧_)∧_∧_);(refine eK ?_ ?_<;>with_reducible repeat' (first|exact trivial|(show _∧_;refine aK ?_ ?_)))))
  all_goals first|rfl|trace_state
theorem BN (f:ForM)(n:Int)(s v:ByteArray)(what:ByteArray)(e:Int)(r:ForM)(ns:List aJ)(z:Int)(h57:ak Tryz.prog 57 [] [aM f,ah n] [] (.lit (gI what e)))
    (h56:ak Tryz.prog 56 [] [aM f,(.lit (gI what e)),.clo (.func 58) [] [.fptr (ah n) 0,.fptr (bS s) 0,.fptr (bS v) 0]] [] (.tup [aM r,lE ns,ah z])):ak Tryz.prog 18 [] [aM f,ah n,bS s,bS v] [] (.tup [aM r,lE ns,ah z]):=by
  obtain⟨l,m⟩:=f
  obtain⟨l',m'⟩:=r
  have hn:=eL ⟨l',m'⟩ ns z
  refine ak.aD (rvs:=[.cell 8 24,.tmp 9,.tmp 10]) G au Tryz.func18 rfl Tryz.ntmps18 rfl rfl ?_;with_reducible refine wD ?_
  repeat' (first
    |refine gK ?_
    | ((first
      |((with_reducible show af _ _ 57 _ _ _ _);refine af.lit [] h57 Lh ⟨⟨rfl,rfl,trivial⟩,rfl,trivial⟩ rfl rfl ?_)
      |((with_reducible show af _ _ 56 _ _ _ _);refine af.val [50,60,70] h56 D3 ⟨⟨rfl,rfl,trivial⟩,⟨rfl,rfl⟩,⟨rfl,trivial,⟨_,_,_,_,_,rfl,rfl,rfl,rfl,rfl,rfl⟩,⟨_,_,_,_,_,rfl,rfl,rfl,rfl,rfl,rfl⟩,⟨_,_,_,_,_,rfl,rfl,rfl,rfl,rfl,rfl⟩,trivial⟩,trivial⟩ rfl rfl hn ?_)
      |((with_reducible show aI _ _ _ _);refine dK ?_))<;>with_reducible refine wK ?_)
    |((with_reducible show(_∧_)∧_∧_);(refine eK ?_ ?_<;>with_reducible repeat' (first|exact trivial|(show _∧_;refine aK ?_ ?_)))))
  all_goals first|rfl|trace_state
theorem qz (f:ForM)(n:Int)(s:ByteArray)          (r:ForM)(ns:List aJ)(z:Int)(h57:ak Tryz.prog 57 [] [aM f,ah n] [] eF)
    (h56:ak Tryz.prog 56 [] [aM f,eF,.clo (.func 66) [] [.fptr (bS s) 0,.fptr (ah n) 0]] [] (.tup [aM r,lE ns,ah z])):ak Tryz.prog 24 [] [aM f,ah n,bS s] [] (.tup [aM r,lE ns,ah z]):=by
  obtain⟨l,m⟩:=f
  obtain⟨l',m'⟩:=r
  have hn:=eL ⟨l',m'⟩ ns z
  refine ak.aD (rvs:=[.cell 6 24,.tmp 7,.tmp 8]) G au Tryz.func24 rfl Tryz.ntmps24 rfl rfl ?_;with_reducible refine wD ?_
  repeat' (first
    |refine gK ?_
    | ((first
      |((with_reducible show af _ _ 57 _ _ _ _);refine af.lit [] h57 Lh ⟨⟨rfl,rfl,trivial⟩,rfl,trivial⟩ rfl rfl ?_)
      |((with_reducible show af _ _ 56 _ _ _ _);refine af.val [50,40] h56 D3 ⟨⟨rfl,rfl,trivial⟩,⟨rfl,rfl⟩,⟨rfl,trivial,⟨_,_,_,_,_,rfl,rfl,rfl,rfl,rfl,rfl⟩,⟨_,_,_,_,_,rfl,rfl,rfl,rfl,rfl,rfl⟩,trivial⟩,trivial⟩ rfl rfl hn ?_)
      |((with_reducible show aI _ _ _ _);refine dK ?_))<;>with_reducible refine wK ?_)
    |((with_reducible show(_∧_)∧_∧_);(refine eK ?_ ?_<;>with_reducible repeat' (first|exact trivial|(show _∧_;refine aK ?_ ?_)))))
  all_goals first|rfl|trace_state
theorem wh (f:ForM)(n:Int)(s:ByteArray)(what:ByteArray)(e:Int)(r:ForM)(ns:List aJ)(z:Int)(h57:ak Tryz.prog 57 [] [aM f,ah n] [] (.lit (gI what e)))
    (h56:ak Tryz.prog 56 [] [aM f,(.lit (gI what e)),.clo (.func 66) [] [.fptr (bS s) 0,.fptr (ah n) 0]] [] (.tup [aM r,lE ns,ah z])):ak Tryz.prog 24 [] [aM f,ah n,bS s] [] (.tup [aM r,lE ns,ah z]):=by
  obtain⟨l,m⟩:=f
  obtain⟨l',m'⟩:=r
  have hn:=eL ⟨l',m'⟩ ns z
  refine ak.aD (rvs:=[.cell 6 24,.tmp 7,.tmp 8]) G au Tryz.func24 rfl Tryz.ntmps24 rfl rfl ?_;with_reducible refine wD ?_
  repeat' (first
    |refine gK ?_
    | ((first
      |((with_reducible show af _ _ 57 _ _ _ _);refine af.lit [] h57 Lh ⟨⟨rfl,rfl,trivial⟩,rfl,trivial⟩ rfl rfl ?_)
      |((with_reducible show af _ _ 56 _ _ _ _);refine af.val [50,40] h56 D3 ⟨⟨rfl,rfl,trivial⟩,⟨rfl,rfl⟩,⟨rfl,trivial,⟨_,_,_,_,_,rfl,rfl,rfl,rfl,rfl,rfl⟩,⟨_,_,_,_,_,rfl,rfl,rfl,rfl,rfl,rfl⟩,trivial⟩,trivial⟩ rfl rfl hn ?_)
      |((with_reducible show aI _ _ _ _);refine dK ?_))<;>with_reducible refine wK ?_)
    |((with_reducible show(_∧_)∧_∧_);(refine eK ?_ ?_<;>with_reducible repeat' (first|exact trivial|(show _∧_;refine aK ?_ ?_)))))
  all_goals first|rfl|trace_state
theorem FK (f:ForM)(hs:bw f.nodes)(n:Int)(s v:ByteArray)(hs3:s.size≤100000):ak Tryz.prog 18 [] [aM f,ah n,bS s,bS v] [] (.tup [aM (je f n s v).1,lE (je f n s v).2.1,ah (je f n s v).2.2]):=by
  cases ht:(bt f&&ae f.nodes n) with
  | false=>
    have e:je f n s v=(f,[],1):=by unfold je jk;rw[ht];rfl
    rw[e]
    exact BN f n s v lM 1 f [] 1 (Ch f hs n ht) (j5 f hs 58 _ lM 1)
  | true =>
    simp only[bN] at ht
    obtain⟨hr,ht⟩:=ht
    obtain⟨k,y,rfl,hy,_⟩:=aU.1 ht
    have hnd:=cU hy
    by_cases hk:y.kind=1
    · have he0:jk f k=0:=by unfold jk;rw[hr,ht,hnd,hk];rfl
      have h57:=zj f hs k y hy hr hk
      by_cases he:(dS y.attrs s v).2=0
      · have e:je f k s v=(⟨iv f.nodes k (dS y.attrs s v).1,f.most⟩,[qH y k s (dS y.attrs s v).1],0):=by
          unfold je;rw[he0,hnd];simp only[he,ne_eq,not_true,if_false]
          unfold jq gq;rw[hnd,if_pos (.inr (uV he))]
        rw[e]
        exact Ci f k s v _ _ _ h57 (u4 f hs 58 Mn _ rfl _ _ (gV ..) (GM f.nodes f.most hs k y hy s v hs3 he))
      · have e:je f k s v=(f,[],(dS y.attrs s v).2):=by
          unfold je;rw[he0,hnd];simp[he]
        rw[e]
        exact Ci f k s v _ _ _ h57 (s9 f hs 58 Mn _ rfl D9 _ (EB f.nodes f.most hs k y hy s v hs3 he))
    · have e:je f k s v=(f,[],5):=by
        have:jk f k=5:=by unfold jk;rw[hr,ht,hnd];simp[hk]
        unfold je;rw[this];rfl
      rw[e]
      exact BN f k s v qP 5 f [] 5 (vh f hs k y hy hr hk) (j5 f hs 58 _ qP 5)
theorem Js (f:ForM)(hs:bw f.nodes)(n:Int)(s:ByteArray)(hs3:s.size≤100000):ak Tryz.prog 24 [] [aM f,ah n,bS s] [] (.tup [aM (fV f n s).1,lE (fV f n s).2.1,ah (fV f n s).2.2]):=by
  cases ht:(bt f&&ae f.nodes n) with
  | false=>
    have e:fV f n s=(f,[],1):=by unfold fV jk;rw[ht];rfl
    rw[e]
    exact wh f n s lM 1 f [] 1 (Ch f hs n ht) (j5 f hs 66 _ lM 1)
  | true =>
    simp only[bN] at ht
    obtain⟨hr,ht⟩:=ht
    obtain⟨k,y,rfl,hy,_⟩:=aU.1 ht
    have hnd:=cU hy
    by_cases hk:y.kind=1
    · have he0:jk f k=0:=by unfold jk;rw[hr,ht,hnd,hk];rfl
      have h57:=zj f hs k y hy hr hk
      by_cases he:bJ s=true
      · have e:fV f k s=jq f k s (cz y.attrs s).1:=by
          unfold fV;rw[he0,hnd,he];rfl
        rw[e]
        unfold jq gq
        rw[hnd]
        by_cases hf:0≤bV y.attrs s∨0≤bV (cz y.attrs s).1 s
        · rw[if_pos hf]
          exact qz f k s _ _ _ h57 (u4 f hs 66 Lq _ rfl _ _ (gV ..) (AR f.nodes f.most hs k y hy s hs3 he hf))
        · rw[if_neg hf]
          exact qz f k s _ _ _ h57 (AF f hs 66 Lq _ rfl _ (gV ..) (Cx f.nodes f.most hs k y hy s hs3 he ⟨fun h=>hf (.inl h),fun h=>hf (.inr h)⟩))
      · have he:=Bool.eq_false_iff.2 he
        have e:fV f k s=(f,[],4):=by
          unfold fV;rw[he0,he];rfl
        rw[e]
        exact qz f k s _ _ _ h57 (s9 f hs 66 Lq _ rfl wB _ (AE f.nodes f.most hs k y hy s hs3 he))
    · have e:fV f k s=(f,[],5):=by
        have:jk f k=5:=by unfold jk;rw[hr,ht,hnd];simp[hk]
        unfold fV;rw[this];rfl
      rw[e]
      exact wh f k s qP 5 f [] 5 (vh f hs k y hy hr hk) (j5 f hs 66 _ qP 5)
end Go.Proofs.Heir
namespace Go.Proofs.Heir
open Go Go.Am Go.RowKit Go.Lib
set_option maxRecDepth 100000

end Go.Proofs.Heir
namespace Go.Proofs.Heir
open Go Go.Am Go.RowKit Go.Lib
set_option maxRecDepth 100000
set_option maxHeartbeats 8000000
set_option maxHeartbeats 2000000
@[reducible] def dW (y : ai) (t : Nat) : AV := .agg [ah y.kind, bS y.name, bS y.is, bS y.data, cJ y.attrs, ah y.parent, .own t 0 y.kids.length, ah y.host, ah y.under, ah y.doc]
def dF (y:ai)(t:Nat):AV:=dW y t
def dZ (a ta b tb i:Nat)(y:ai):AV:=if i=a then dF y ta else if i=b then dF y tb else bF y
def aO (l:List ai)(a ta b tb:Nat):List AV:=l.mapIdx fun i y=>dZ a ta b tb i y
@[reducible] def aQ (l : List ai) (a ta b tb : Nat) : MS := .live 10 (aO l a ta b tb) false
section
variable {l : List ai} {a ta b tb i : Nat} {y : ai}
theorem bM:(aO l a ta b tb).length=l.length:=List.length_mapIdx ..
theorem cO (h:l[i]? =some y):(aO l a ta b tb)[i]? =some (dZ a ta b tb i y):=by
  unfold aO
  rw[List.getElem?_mapIdx,h];rfl
theorem rm (y:ai)(h:i<l.length):(aO l a ta b tb).set i (dZ a ta b tb i y)=aO (l.set i y) a ta b tb:=by
  apply List.ext_getElem?
  intro j
  unfold aO
  rw[List.getElem?_set,List.getElem?_mapIdx,List.getElem?_mapIdx,List.getElem?_set,List.length_mapIdx]
  by_cases e:i=j
  · subst e
    rw[if_pos rfl,if_pos rfl,if_pos h,if_pos h];rfl
  ·rw[if_neg e,if_neg e]
theorem dh (ha:i≠a)(hb:i≠b):dZ a ta b tb i y=aP y:=by unfold dZ;rw[if_neg ha,if_neg hb];rfl
theorem Ep:dZ a ta b tb a y=dW y ta:=by unfold dZ;rw[if_pos rfl];rfl
theorem FC (h:b≠a):dZ a ta b tb b y=dW y tb:=by unfold dZ;rw[if_neg h,if_pos rfl];rfl
theorem AX:(cells (dZ a ta b tb i y)).length=10:=by
  unfold dZ
  split
  ·rfl
  ·split<;>rfl
theorem lQ:bG 10 (aO l a ta b tb):=bG.ja fun x hx=>by
  obtain⟨j,hj⟩:=List.getElem?_of_mem hx
  unfold aO at hj
  rw[List.getElem?_mapIdx] at hj
  cases e:l[j]? with
  |none=>rw[e] at hj;cases hj
  |some z=>rw[e] at hj;cases hj;exact AX
theorem lg {j:Nat}{x:AV}(h:(aO l a ta b tb)[j]? =some x):∃z,l[j]? =some z∧x=dZ a ta b tb j z:=by
  unfold aO at h
  rw[List.getElem?_mapIdx] at h
  cases e:l[j]? with
  |none=>rw[e] at h;cases h
  |some z=>rw[e] at h;cases h;exact⟨z,rfl,rfl⟩
end
section
variable {m : ML} {fz : Nat → Bool} {tab : List (Nat × Nat)} {l : List ai} {a ta b tb t n : Nat}
theorem ko (x:ai):bz (bF x)=true:=by
  show bz (.agg [ah x.kind,bS x.name,bS x.is,bS x.data,cJ x.attrs,ah x.parent,cN x.kids,ah x.host,ah x.under,ah x.doc])=true
  rfl
theorem DW {cs ex:List Int}{ro:Bool}(h1:eD m t=.live 1 ((cs++ex).map bU) ro)(h2:fz t=true):xd m fz (MF tab fz m n) (cN cs) t 0 cs.length:=
  .cut h1 h2 (by simp) (by rw[List.drop_zero,iq,List.take_append_of_le_length (by simp),qL (by simp)]) (aa cs)
theorem sY {ro ra rb:Bool}{ea eb:List Int}{k:Nat}(hm:eD m t=.live 10 (aO l a ta b tb) ro)(hf:fz t=true)(ha:∀y,l[a]? =some y→eD m ta=.live 1 ((y.kids++ea).map bU) ra∧fz ta=true)(hb:∀y,l[b]? =some y→eD m tb=.live 1 ((y.kids++eb).map bU) rb∧fz tb=true):xd m fz (MF tab fz m (k+2)) (qD l) t 0 l.length:=by
  have hk:∀ (u:Nat) (e:List Int) (r:Bool) (y:ai),eD m u=.live 1 ((y.kids++e).map bU) r→fz u=true→MF tab fz m (k+2) (bF y) (dF y u):=fun u e r y q1 q2=>
    ⟨rfl,rfl,rfl,rfl,jn _ _ rfl,rfl,DW q1 q2,rfl,rfl,rfl,trivial⟩
  refine⟨10,_,ro,l.map bF,hm,hf,rfl,by rw[bM];omega,iD bF ko l,by rw[List.drop_zero,qL (by rw[bM];omega),bM,bW],fun i x z hx hz=>?_⟩
  rw[List.drop_zero,qL (by rw[bM];omega)] at hz
  obtain⟨y,hy,rfl⟩:=lg hz
  rw[fI,hy] at hx
  cases hx
  show MF tab fz m (k+2) (bF y) (dZ a ta b tb i y)
  unfold dZ
  by_cases e:i=a
  · rw[if_pos e]
    subst e
    exact hk ta ea ra y (ha y hy).1 (ha y hy).2
  · rw [if_neg e]
    by_cases c:i=b
    · rw[if_pos c]
      subst c
      exact hk tb eb rb y (hb y hy).1 (hb y hy).2
    ·rw[if_neg c];exact jn _ _ (ko y)
end
theorem zD {R:AV→AV→Prop}:∀ {a b:List AV},gb R a b→xu R a b
  |[],[],_=>trivial
  |x::a,y::b,h=>⟨h.2 0 x y rfl rfl,zD ⟨by have:=h.1;simpa using this,fun i p q h1 h2=>h.2 (i+1) p q (by simpa using h1) (by simpa using h2)⟩⟩
  |[],_::_,h=>by have:=h.1;simp at this
  |_::_,[],h=>by have:=h.1;simp at this
theorem qN {w:Nat}:∀ {a b:List AV},a.length=b.length→bG w a→bG w b→n9 a b=true
  |[],[],_,_,_=>rfl
  | x ::a,y::b,hl,ha,hb=>by
    have e:r8 (eV (dA x)) (eV (dA y))=true:=by
      rw[eo,c6,c6,eS,eS,ha.tail.1,hb.tail.1]
      exact Nat.beq_refl _
    simp only[n9,e]
    exact qN (by simpa using hl) ha.tail.2 hb.tail.2
  |[],_::_,hl,_,_=>by simp at hl
  |_::_,[],hl,_,_=>by simp at hl
theorem Bm {f:AV→AV}:∀ {a b:List AV},a.length=b.length→(∀ (i:Nat) x y,a[i]? =some x→b[i]? =some y→x=f y)→a=ef f b
  |[],[],_,_=>rfl
  | x::a,y::b,hl,h=>by
    show x::a=f y::ef f b
    rw[←h 0 x y rfl rfl,←Bm (by simpa using hl) fun i p q h1 h2=>h (i+1) p q (by simpa using h1) (by simpa using h2)]
  |[],_::_,hl,_=>by simp at hl
  |_::_,[],hl,_=>by simp at hl
theorem Ca {p:AV→Bool}:∀ {a:List AV},(∀x∈a,p x=true)→iZ p a=true
  |[],_=>rfl
  | x::a,h=>by
    simp only[iZ,h x gj]
    exact Ca fun y hy=>h y (eP _ hy)
section
variable {l : List ai} {a ta b tb ta0 tb0 n : Nat} {names : List Nat}
theorem DM (h1:iA names ta0=some ta)(h2:iA names tb0=some tb):aO l a ta b tb=ef (oD names 12) (aO l a ta0 b tb0):=by
  refine Bm (by rw[bM,bM]) fun i x y hx hy=>?_
  obtain⟨z,hz,rfl⟩:=lg hx
  obtain⟨z2,hz2,rfl⟩:=lg hy
  rw[hz] at hz2;cases hz2
  have key:∀u u0:Nat,iA names u0=some u→dF z u=oD names 12 (dF z u0):=fun u u0 h=>by
    show dW z u=oD names 12 (dW z u0)
    simp only[dW,oD,ef,h]
  unfold dZ
  split
  ·exact key _ _ h1
  · split
    ·exact key _ _ h2
    ·rfl
theorem Fp (h1:ta<n)(h2:tb<n):iZ (za 12 n) (aO l a ta b tb)=true:=by
  refine Ca fun x hx=>?_
  obtain⟨j,hj⟩:=List.getElem?_of_mem hx
  obtain⟨z,_,rfl⟩:=lg hj
  have key:∀u:Nat,u<n→za 12 n (dF z u)=true:=fun u h=>by
    have hb:Nat.ble (u+1) n=true:=by rw[Nat.ble_eq];exact h
    show za 12 n (dW z u)=true
    simp[dW,za,iZ,bz,hb]
  unfold dZ
  split
  ·exact key _ h1
  · split
    ·exact key _ h2
    · show za 12 n (aP z)=true
      simp[za,iZ,bz]
end
end Go.Proofs.Heir
