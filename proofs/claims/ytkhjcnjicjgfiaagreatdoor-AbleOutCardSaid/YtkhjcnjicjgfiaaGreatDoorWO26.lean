/- Models, plain laws and contracts of functions of the given program; conditions as stated in each theorem. By an AI agent. -/
import Derived.Test.YtkhjcnjicjgfiaaGreatDoorWO24
import Derived.Test.YtkhjcnjicjgfiaaGreatDoorWO25
import Derived.Test.YtkhjcnjicjgfiaaGreatDoorWO14
import Derived.Test.YtkhjcnjicjgfiaaGreatDoorWO18
import Derived.Test.YtkhjcnjicjgfiaaGreatDoorWO12
import Derived.Test.YtkhjcnjicjgfiaaGreatDoorWO17
import Derived.Test.YtkhjcnjicjgfiaaGreatDoorWO19
import Derived.Test.YtkhjcnjicjgfiaaGreatDoorWO16
import Derived.Test.YtkhjcnjicjgfiaaGreatDoorWO15
set_option linter.unusedSimpArgs false
set_option linter.unusedVariables false
namespace Go.Proofs.Heir
open Go Go.Am Go.RowKit Go.Lib
set_option maxRecDepth 100000
set_option maxHeartbeats 8000000
@[reducible] def jt (what : ByteArray) (e : Int) : Value := .iface 178 (.agg #[.string what, .iface 176 (.agg #[.int .i64 e])])
@[reducible] def oA : ByteArray := ⟨#[97, 115, 107, 101, 100]⟩
@[reducible] def xR : ByteArray := ⟨#[101, 108, 101, 109]⟩
@[reducible] def fZ : AV := .lit .nilIface
theorem sU (what:ByteArray)(w:World):Calls Tryz.prog 60 #[.string what,.int .i64 0] w fun ev w'=>ev=.returned .nilIface∧w'=w:=by
  go_enter Tryz.func60,Tryz.ntmps60
  go_wp2
  go_ret
  exact⟨rfl,rfl⟩
theorem tO (what:ByteArray)(e:Int)(he:e≠0)(w:World):Calls Tryz.prog 60 #[.string what,.int .i64 e] w fun ev w'=>ev=.returned (jt what e)∧w'=w:=by
  go_enter Tryz.func60,Tryz.ntmps60
  go_wp2
  go_ret
  exact⟨rfl,rfl⟩
theorem s7 (what:ByteArray):an Tryz.prog 60 [] [cu what,aj 0] [] fZ:=
  an.iN (vs:=[.string what,.int .i64 0]) fun w _=>(sU what w).mono (by rintro e w' ⟨rfl,rfl⟩;exact⟨rfl,Below.refl _ _⟩)
theorem mG (what:ByteArray)(e:Int)(he:e≠0):an Tryz.prog 60 [] [cu what,aj e] [] (.lit (jt what e)):=
  an.iN (vs:=[.string what,.int .i64 e]) fun w _=>(tO what e he w).mono (by rintro e w' ⟨rfl,rfl⟩;exact⟨rfl,Below.refl _ _⟩)
theorem nM (f:ForM)(hs:bE f.nodes)(n:Int)(h:(aX f&&af f.nodes n)=true):an Tryz.prog 77 [] [aY f,aj n] [] fZ:=by
  have h17:=ng f hs
  have hr:aX f=true:=by simp only[bQ] at h;exact h.1
  have ht:af f.nodes n=true:=by simp only[bQ] at h;exact h.2
  rw[hr] at h17
  obtain⟨l,m⟩:=f
  simp only at h17 ht
  have hlm:(l.map bJ).length=l.length:=cj ..
  have e0:¬n<0:=by unfold af at ht;simp at ht;omega
  have e1:¬ (l.length:Int)≤n:=by unfold af at ht;simp at ht;omega
  refine an.aF (rvs:=[.tmp 4]) G au Tryz.func77 rfl Tryz.ntmps77 rfl rfl ?_;with_reducible refine wD ?_
  (have fct:=And.intro hlm (And.intro e0 (e1));(repeat' (first
    |refine gF ?_
    |(((with_reducible show aa _ _ 17 _ _ _ _);refine aa.lit [] h17 jX ⟨⟨rfl,rfl,trivial⟩,trivial⟩ rfl rfl ?_)<;>with_reducible refine wK ?_)
    |((with_reducible show(_∧_)∧_∧_);(refine eK ?_ ?_<;>with_reducible repeat' (first|exact trivial|(show _∧_;refine aK ?_ ?_))))));all_goals clear fct)
  all_goals rfl
theorem zb (f:ForM)(hs:bE f.nodes)(n:Int)(h:(aX f&&af f.nodes n)=false):an Tryz.prog 77 [] [aY f,aj n] [] (.lit (jt oA 1)):=by
  have h17:=ng f hs
  have h60:=mG oA 1 (by decide)
  obtain⟨l,m⟩:=f
  simp only at h h17
  have hlm:(l.map bJ).length=l.length:=cj ..
  cases hr:aX ⟨l,m⟩ with
  | false=>
    rw[hr] at h17
    refine an.aF (rvs:=[.tmp 4]) G au Tryz.func77 rfl Tryz.ntmps77 rfl rfl ?_;with_reducible refine wD ?_
    (have fct:=hlm;(repeat' (first
    |refine gF ?_
    | ((first
      |((with_reducible show aa _ _ 17 _ _ _ _);refine aa.lit [] h17 jX ⟨⟨rfl,rfl,trivial⟩,trivial⟩ rfl rfl ?_)
      |((with_reducible show aa _ _ 60 _ _ _ _);refine aa.lit [] h60 Km ⟨rfl,rfl,trivial⟩ rfl rfl ?_))<;>with_reducible refine wK ?_)
    |((with_reducible show(_∧_)∧_∧_);(refine eK ?_ ?_<;>with_reducible repeat' (first|exact trivial|(show _∧_;refine aK ?_ ?_))))));all_goals clear fct)
    all_goals rfl
  | true=>
    have ht:af l n=false:=by rw[hr] at h;simpa using h
    rw[hr] at h17
    by_cases e0:n<0
    · refine an.aF (rvs:=[.tmp 4]) G au Tryz.func77 rfl Tryz.ntmps77 rfl rfl ?_;with_reducible refine wD ?_
      (have fct:=And.intro hlm (e0);(repeat' (first
    |refine gF ?_
    | ((first
      |((with_reducible show aa _ _ 17 _ _ _ _);refine aa.lit [] h17 jX ⟨⟨rfl,rfl,trivial⟩,trivial⟩ rfl rfl ?_)
      |((with_reducible show aa _ _ 60 _ _ _ _);refine aa.lit [] h60 Km ⟨rfl,rfl,trivial⟩ rfl rfl ?_))<;>with_reducible refine wK ?_)
    | ((with_reducible show(_∧_)∧_∧_);(refine eK ?_ ?_<;>with_reducible repeat' (first|exact trivial|(show _∧_;refine aK ?_ ?_))))));all_goals clear fct)
      all_goals rfl
    · have e1:(l.length:Int)≤n:=by unfold af at ht;simp at ht;omega
      refine an.aF (rvs:=[.tmp 4]) G au Tryz.func77 rfl Tryz.ntmps77 rfl rfl ?_;with_reducible refine wD ?_
      (have fct:=And.intro hlm (And.intro e0 (e1));(repeat' (first
    |refine gF ?_
    | ((first
      |((with_reducible show aa _ _ 17 _ _ _ _);refine aa.lit [] h17 jX ⟨⟨rfl,rfl,trivial⟩,trivial⟩ rfl rfl ?_)
      |((with_reducible show aa _ _ 60 _ _ _ _);refine aa.lit [] h60 Km ⟨rfl,rfl,trivial⟩ rfl rfl ?_))<;>with_reducible refine wK ?_)
    | ((with_reducible show(_∧_)∧_∧_);(refine eK ?_ ?_<;>with_reducible repeat' (first|exact trivial|(show _∧_;refine aK ?_ ?_))))));all_goals clear fct)
      all_goals rfl
theorem F9 (f:ForM)(hs:bE f.nodes)(k:Nat)(y:ai)(hy:f.nodes[k]? =some y)(hr:aX f=true)(hk:y.kind=1):an Tryz.prog 57 [] [aY f,aj k] [] fZ:=by
  have h77:=nM f hs k (by rw[hr,dM hy];rfl)
  obtain⟨l,m⟩:=f
  simp only at h77 hy
  have hkl:k<l.length:=(bg hy).1
  have hlm:(l.map bJ).length=l.length:=cj ..
  obtain⟨y1,y2,y3,y4,y5,y6,y7,y8,y9,y10⟩:=y
  simp only at hk
  subst hk
  refine an.aF (rvs:=[.tmp 4]) G au Tryz.func57 rfl Tryz.ntmps57 rfl rfl ?_;with_reducible refine wD ?_
  (have fct:=hlm;(repeat' (first
    |refine gF ?_
    | ((first
      |((with_reducible show aa _ _ 77 _ _ _ _);refine aa.lit [] h77 L0 ⟨⟨rfl,rfl,trivial⟩,rfl,trivial⟩ rfl rfl ?_)
      |((with_reducible show aG _ _ _ _ _);refine aG.mk k (az ⟨1,y2,y3,y4,y5,y6,y7,y8,y9,y10⟩) rfl (ah hy) ?_)
      |((with_reducible show aN _ _ _ _ _);first|refine aN.kg true Tryz.underlying98 rfl rfl rfl rfl rfl ?_|refine aN.kK false Tryz.underlying98 rfl rfl rfl rfl rfl ?_))<;>with_reducible refine wK ?_)
    |((with_reducible show(_∧_)∧_∧_);(refine eK ?_ ?_<;>with_reducible repeat' (first|exact trivial|(show _∧_;refine aK ?_ ?_))))));all_goals clear fct)
  all_goals first|rfl|trace_state
theorem DX (f:ForM)(hs:bE f.nodes)(k:Nat)(y:ai)(hy:f.nodes[k]? =some y)(hr:aX f=true)(hk:y.kind≠1):an Tryz.prog 57 [] [aY f,aj k] [] (.lit (jt xR 5)):=by
  have h77:=nM f hs k (by rw[hr,dM hy];rfl)
  have h60:=mG xR 5 (by decide)
  obtain⟨l,m⟩:=f
  simp only at h77 hy
  have hkl:k<l.length:=(bg hy).1
  have hlm:(l.map bJ).length=l.length:=cj ..
  obtain⟨y1,y2,y3,y4,y5,y6,y7,y8,y9,y10⟩:=y
  simp only at hk
  have hk:=bY hk
  refine an.aF (rvs:=[.tmp 4]) G au Tryz.func57 rfl Tryz.ntmps57 rfl rfl ?_;with_reducible refine wD ?_
  (have fct:=And.intro hlm (hk);(repeat' (first
    |refine gF ?_
    | ((first
      |((with_reducible show aa _ _ 77 _ _ _ _);refine aa.lit [] h77 L0 ⟨⟨rfl,rfl,trivial⟩,rfl,trivial⟩ rfl rfl ?_)
      |((with_reducible show aa _ _ 60 _ _ _ _);refine aa.lit [] h60 Km ⟨rfl,rfl,trivial⟩ rfl rfl ?_)
      |((with_reducible show aG _ _ _ _ _);refine aG.mk k (az ⟨y1,y2,y3,y4,y5,y6,y7,y8,y9,y10⟩) rfl (ah hy) ?_)
      |((with_reducible show aN _ _ _ _ _);first|refine aN.kg true Tryz.underlying98 rfl rfl rfl rfl rfl ?_|refine aN.kK false Tryz.underlying98 rfl rfl rfl rfl rfl ?_))<;>with_reducible refine wK ?_)
    |((with_reducible show(_∧_)∧_∧_);(refine eK ?_ ?_<;>with_reducible repeat' (first|exact trivial|(show _∧_;refine aK ?_ ?_))))));all_goals clear fct)
  all_goals first|rfl|trace_state
theorem Iv (f:ForM)(hs:bE f.nodes)(n:Int)(h:(aX f&&af f.nodes n)=false):an Tryz.prog 57 [] [aY f,aj n] [] (.lit (jt oA 1)):=by
  have h77:=zb f hs n h
  refine an.aF (rvs:=[.tmp 4]) G au Tryz.func57 rfl Tryz.ntmps57 rfl rfl ?_;with_reducible refine wD ?_
  repeat' (first
    |refine gK ?_
    | ((first
      |((with_reducible show aa _ _ 77 _ _ _ _);refine aa.lit [] h77 L0 ⟨⟨rfl,rfl,trivial⟩,rfl,trivial⟩ rfl rfl ?_)
      |((with_reducible show aN _ _ _ _ _);first|refine aN.kg false Tryz.underlying98 rfl rfl rfl rfl rfl ?_|refine aN.kK true Tryz.underlying98 rfl rfl rfl rfl rfl ?_))<;>with_reducible refine wK ?_)
    |((with_reducible show(_∧_)∧_∧_);(refine eK ?_ ?_<;>with_reducible repeat' (first|exact trivial|(show _∧_;refine aK ?_ ?_)))))
  all_goals first|rfl|trace_state
@[reducible] def ga : AV := .lit (.slice none 0 0)
theorem CT {l:List ai}{k:Nat}{y:ai}(hy:l[k]? =some y)(xs:List AttrM):(l.map bJ).set (0+k) (bJ {y with attrs:=xs})=(iM l k xs).map bJ:=by
  show _=(l.set ((k:Int).toNat) {nd l k with attrs:=xs}).map bJ
  rw[cz hy,Int.toNat_natCast,Nat.zero_add,List.map_set]
@[reducible] def Bz (y : ai) (k : Nat) (s : ByteArray) (xs : List AttrM) : aR := ⟨4, k, 0, 0, fR s, decide (0 ≤ bU y.attrs s), decide (0 ≤ bU xs s), n4 y.attrs s, n4 xs s⟩
theorem Bs (l:List ai)(m:Int)(hs:bE l)(k:Nat)(y:ai)(hy:l[k]? =some y)(s:ByteArray)(hs3:s.size≤100000)(xs:List AttrM)(hx:xs.length≤100000)(hh:0≤bU y.attrs s∨0≤bU xs s):
    an Tryz.prog 61 [aQ m l.length 1 ga,cJ l] [.ptr 0 0 0,aj k,cu s,dG xs] [aQ m l.length 1 (.own 2 0 1),cJ (iM l k xs),.live 9 [gG (Bz y k s xs)] false] (.tup []):=by
  have h124:=xV s hs3
  have h23:=qP y.attrs (by have:=hs.attrs y (bT hy);omega) s
  have h23x:=qP xs hx s
  have hkl:k<l.length:=(bg hy).1
  have hrow:=CT hy xs
  have hlm:(l.map bJ).length=l.length:=cj ..
  have ha:(iM l k xs).length=l.length:=gL ..
  generalize iM l k xs=l' at hrow ha
  obtain⟨y1,y2,y3,y4,y5,y6,y7,y8,y9,y10⟩:=y
  simp only at h23 hh hrow
  refine an.fA [(2,591)] (rvs:=[]) G au Tryz.func61 rfl Tryz.ntmps61 rfl rfl ?_;with_reducible refine wD ?_
  cases hb:decide (0≤bU y5 s) with
  | true=>
    (have fct:=hb;(repeat' (first
    |refine gF ?_
    | ((first
      |((with_reducible show aa _ _ 124 _ _ _ _);refine aa.lit [] h124 Gs ⟨rfl,trivial⟩ rfl rfl ?_)
      |((with_reducible show eO _ _ _ _ _);refine eO.mk k rfl hkl ?_)
      |((with_reducible show aZ _ _ _ _ _);first|refine aZ.mk (az ⟨y1,y2,y3,y4,y5,y6,y7,y8,y9,y10⟩) (by first|exact ah hy|(rw[Nat.zero_add];exact ah hy)) ?_|refine aZ.mk _ rfl ?_)
      |((with_reducible show j0 _ _ _ _ _ _ _ _ _ _);refine j0.mk [] [_] ⟨rfl,rfl,rfl⟩ ⟨rfl,rfl,rfl⟩ rfl (by simp) (by simp) ?_)
      |((with_reducible show aL _ _ _ _);refine dK ?_)
      |((with_reducible show aa _ _ 23 _ _ _ _);first|(refine aa.lit [] h23 mc ⟨rfl,rfl,trivial⟩ rfl rfl ?_)|(refine aa.lit [] h23x mc ⟨rfl,rfl,trivial⟩ rfl rfl ?_)))<;>with_reducible refine wK ?_)
    |((with_reducible show(_∧_)∧_∧_);(refine eK ?_ ?_<;>with_reducible repeat' (first|exact trivial|(show _∧_;refine aK ?_ ?_))))));all_goals clear fct)
    all_goals first
      |rfl
      |exact⟨.refl rfl,rfl⟩
      |exact(.inl rfl:nX _)
      |(refine cast (congrArg (r6 _ _) hrow.symm) ?_;exact⟨.refl (aM _),aM _⟩)
      |trace_state
  | false=>
    have hbx:decide (0≤bU xs s)=true:=dV (hh.resolve_left (of_decide_eq_false hb))
    (have fct:=And.intro hb (hbx);(repeat' (first
    |refine gF ?_
    | ((first
      |((with_reducible show aa _ _ 124 _ _ _ _);refine aa.lit [] h124 Gs ⟨rfl,trivial⟩ rfl rfl ?_)
      |((with_reducible show eO _ _ _ _ _);refine eO.mk k rfl hkl ?_)
      |((with_reducible show aZ _ _ _ _ _);first|refine aZ.mk (az ⟨y1,y2,y3,y4,y5,y6,y7,y8,y9,y10⟩) (by first|exact ah hy|(rw[Nat.zero_add];exact ah hy)) ?_|refine aZ.mk _ rfl ?_)
      |((with_reducible show j0 _ _ _ _ _ _ _ _ _ _);refine j0.mk [] [_] ⟨rfl,rfl,rfl⟩ ⟨rfl,rfl,rfl⟩ rfl (by simp) (by simp) ?_)
      |((with_reducible show aL _ _ _ _);refine dK ?_)
      |((with_reducible show aa _ _ 23 _ _ _ _);first|(refine aa.lit [] h23 mc ⟨rfl,rfl,trivial⟩ rfl rfl ?_)|(refine aa.lit [] h23x mc ⟨rfl,rfl,trivial⟩ rfl rfl ?_)))<;>with_reducible refine wK ?_)
    |((with_reducible show(_∧_)∧_∧_);(refine eK ?_ ?_<;>with_reducible repeat' (first|exact trivial|(show _∧_;refine aK ?_ ?_))))));all_goals clear fct)
    all_goals first
      |rfl
      |exact⟨.refl rfl,rfl⟩
      |exact(.inl rfl:nX _)
      |(refine cast (congrArg (r6 _ _) hrow.symm) ?_;exact⟨.refl (aM _),aM _⟩)
      |trace_state
theorem D3 (l:List ai)(m:Int)(hs:bE l)(k:Nat)(y:ai)(hy:l[k]? =some y)(s:ByteArray)(hs3:s.size≤100000)(xs:List AttrM)(hx:xs.length≤100000)(hh:¬0≤bU y.attrs s∧¬0≤bU xs s):
    an Tryz.prog 61 [aQ m l.length 1 ga,cJ l] [.ptr 0 0 0,aj k,cu s,dG xs] [aQ m l.length 1 ga,cJ (iM l k xs)] (.tup []):=by
  have h124:=xV s hs3
  have h23:=qP y.attrs (by have:=hs.attrs y (bT hy);omega) s
  have h23x:=qP xs hx s
  have hkl:k<l.length:=(bg hy).1
  have hrow:=CT hy xs
  have hlm:(l.map bJ).length=l.length:=cj ..
  have ha:(iM l k xs).length=l.length:=gL ..
  generalize iM l k xs=l' at hrow ha
  obtain⟨y1,y2,y3,y4,y5,y6,y7,y8,y9,y10⟩:=y
  simp only at h23 hh hrow
  refine an.fA [] (rvs:=[]) G au Tryz.func61 rfl Tryz.ntmps61 rfl rfl ?_;with_reducible refine wD ?_
  have hb:decide (0≤bU y5 s)=false:=bY hh.1
  have hbx:decide (0≤bU xs s)=false:=bY hh.2
  (have fct:=And.intro hb (hbx);(repeat' (first
    |refine gF ?_
    | ((first
      |((with_reducible show aa _ _ 124 _ _ _ _);refine aa.lit [] h124 Gs ⟨rfl,trivial⟩ rfl rfl ?_)
      |((with_reducible show eO _ _ _ _ _);refine eO.mk k rfl hkl ?_)
      |((with_reducible show aZ _ _ _ _ _);first|refine aZ.mk (az ⟨y1,y2,y3,y4,y5,y6,y7,y8,y9,y10⟩) (by first|exact ah hy|(rw[Nat.zero_add];exact ah hy)) ?_|refine aZ.mk _ rfl ?_)
      |((with_reducible show j0 _ _ _ _ _ _ _ _ _ _);refine j0.mk [] [_] ⟨rfl,rfl,rfl⟩ ⟨rfl,rfl,rfl⟩ rfl (by simp) (by simp) ?_)
      |((with_reducible show aL _ _ _ _);refine dK ?_)
      |((with_reducible show aa _ _ 23 _ _ _ _);first|(refine aa.lit [] h23 mc ⟨rfl,rfl,trivial⟩ rfl rfl ?_)|(refine aa.lit [] h23x mc ⟨rfl,rfl,trivial⟩ rfl rfl ?_)))<;>with_reducible refine wK ?_)
    |((with_reducible show(_∧_)∧_∧_);(refine eK ?_ ?_<;>with_reducible repeat' (first|exact trivial|(show _∧_;refine aK ?_ ?_))))));all_goals clear fct)
  all_goals first
    |rfl
    |exact⟨.refl rfl,rfl⟩
    |exact(.inl rfl:nX _)
    |(refine cast (congrArg (r6 _ _) hrow.symm) ?_;exact⟨.refl (aM _),aM _⟩)
    |trace_state
@[reducible] def wX : ByteArray := ⟨#[117, 110, 115, 101, 116]⟩
theorem rf (xs:List AttrM)(b:Bool):bu (.tup [dG xs,bB b])=true:=by
  have:=gu xs
  simp[bu,br,this]
theorem BS (l:List ai)(m:Int)(hs:bE l)(k:Nat)(y:ai)(hy:l[k]? =some y)(s:ByteArray)(hs3:s.size≤100000)(hr:bH s=true)(hf:0≤bU y.attrs s∨0≤bU (bS y.attrs s).1 s):
    an Tryz.prog 66 [aQ m l.length 1 ga,cJ l] [.ptr 0 0 0,.fptr (cu s) 0,.fptr (aj k) 0]
      [aQ m l.length 1 (.own 2 0 1),cJ (iM l k (bS y.attrs s).1),.live 9 [gG (Bz y k s (bS y.attrs s).1)] false] fZ:=by
  have hl:=hs.attrs y (bT hy)
  have hkl:k<l.length:=(bg hy).1
  have hlm:(l.map bJ).length=l.length:=cj ..
  have h67:=o3 s
  have h68:=A0 y.attrs (by omega) s
  rw[hr] at h67
  have h61:=Bs l m hs k y hy s hs3 (bS y.attrs s).1 (by have:=rS y.attrs s;omega) hf
  have ha:(iM l k (bS y.attrs s).1).length=l.length:=gL ..
  generalize iM l k (bS y.attrs s).1=l' at h61 ha ⊢
  generalize Bz y k s (bS y.attrs s).1=x at h61 ⊢
  obtain⟨y1,y2,y3,y4,y5,y6,y7,y8,y9,y10⟩:=y
  simp only at*
  refine an.fA [(2,291)] (rvs:=[.tmp 4]) G au Tryz.func66 rfl Tryz.ntmps66 rfl rfl ?_;with_reducible refine wD ?_
  repeat' (first
    |refine gK ?_
    | ((first
      |((with_reducible show aa _ _ 67 _ _ _ _);refine aa.lit [] h67 CB ⟨rfl,trivial⟩ rfl rfl ?_)
      |((with_reducible show aa _ _ 68 _ _ _ _);refine aa.val [] h68 NL ⟨rfl,rfl,trivial⟩ rfl rfl (rf _ _) ?_)
      |((with_reducible show eO _ _ _ _ _);refine eO.mk k rfl hkl ?_)
      |((with_reducible show aZ _ _ _ _ _);first|refine aZ.mk (az ⟨y1,y2,y3,y4,y5,y6,y7,y8,y9,y10⟩) (by first|exact ah hy|(rw[Nat.zero_add];exact ah hy)) ?_|refine aZ.mk _ rfl ?_)
      |((with_reducible show aa _ _ 61 _ _ _ _);refine aa.dg (news:=[aQ m l.length 1 (.own 291 0 1),cJ l',.live 9 [gG x] false]) [0,1,291] [] h61 N6 ⟨⟨rfl,rfl⟩,rfl,rfl,rfl,trivial⟩ ⟨⟨rfl,.inr ⟨⟨⟨⟨rfl,rfl⟩,rfl,.inl rfl,trivial⟩,trivial⟩,rfl⟩⟩,⟨rfl,.inl ⟨rfl,aM _⟩⟩,trivial⟩ rfl ⟨⟨rfl,rfl⟩,rfl⟩ rfl ⟨⟨rfl,.inr ⟨rfl,rfl,rfl⟩⟩,⟨rfl,.inl ⟨rfl,aM _⟩⟩,⟨rfl,.inl ⟨rfl,rfl⟩⟩,trivial⟩ rfl rfl ?_)
      |((with_reducible show aL _ _ _ _);refine dK ?_))<;>with_reducible refine wK ?_)
    |((with_reducible show(_∧_)∧_∧_);(refine eK ?_ ?_<;>with_reducible repeat' (first|exact trivial|(show _∧_;refine aK ?_ ?_)))))
  all_goals first
    |rfl
    |exact⟨.refl rfl,rfl⟩
    |exact(.inl rfl:nX _)
    |exact⟨.refl (aM _),aM _⟩
    |trace_state
theorem ED (l:List ai)(m:Int)(hs:bE l)(k:Nat)(y:ai)(hy:l[k]? =some y)(s:ByteArray)(hs3:s.size≤100000)(hr:bH s=true)(hf:¬0≤bU y.attrs s∧¬0≤bU (bS y.attrs s).1 s):
    an Tryz.prog 66 [aQ m l.length 1 ga,cJ l] [.ptr 0 0 0,.fptr (cu s) 0,.fptr (aj k) 0]
      [aQ m l.length 1 ga,cJ (iM l k (bS y.attrs s).1)] fZ:=by
  have hl:=hs.attrs y (bT hy)
  have hkl:k<l.length:=(bg hy).1
  have hlm:(l.map bJ).length=l.length:=cj ..
  have h67:=o3 s
  have h68:=A0 y.attrs (by omega) s
  rw[hr] at h67
  have h61:=D3 l m hs k y hy s hs3 (bS y.attrs s).1 (by have:=rS y.attrs s;omega) hf
  have ha:(iM l k (bS y.attrs s).1).length=l.length:=gL ..
  generalize iM l k (bS y.attrs s).1=l' at h61 ha ⊢
  obtain⟨y1,y2,y3,y4,y5,y6,y7,y8,y9,y10⟩:=y
  simp only at*
  refine an.fA [] (rvs:=[.tmp 4]) G au Tryz.func66 rfl Tryz.ntmps66 rfl rfl ?_;with_reducible refine wD ?_
  repeat' (first
    |refine gK ?_
    | ((first
      |((with_reducible show aa _ _ 67 _ _ _ _);refine aa.lit [] h67 CB ⟨rfl,trivial⟩ rfl rfl ?_)
      |((with_reducible show aa _ _ 68 _ _ _ _);refine aa.val [] h68 NL ⟨rfl,rfl,trivial⟩ rfl rfl (rf _ _) ?_)
      |((with_reducible show eO _ _ _ _ _);refine eO.mk k rfl hkl ?_)
      |((with_reducible show aZ _ _ _ _ _);first|refine aZ.mk (az ⟨y1,y2,y3,y4,y5,y6,y7,y8,y9,y10⟩) (by first|exact ah hy|(rw[Nat.zero_add];exact ah hy)) ?_|refine aZ.mk _ rfl ?_)
      |((with_reducible show aa _ _ 61 _ _ _ _);refine aa.dg (news:=[aQ m l.length 1 ga,cJ l']) [0,1] [] h61 N6 ⟨⟨rfl,rfl⟩,rfl,rfl,rfl,trivial⟩ ⟨⟨rfl,.inr ⟨⟨⟨⟨rfl,rfl⟩,rfl,.inl rfl,trivial⟩,trivial⟩,rfl⟩⟩,⟨rfl,.inl ⟨rfl,aM _⟩⟩,trivial⟩ rfl ⟨⟨rfl,rfl⟩,rfl⟩ rfl ⟨⟨rfl,.inr ⟨rfl,rfl,rfl⟩⟩,⟨rfl,.inl ⟨rfl,aM _⟩⟩,trivial⟩ rfl rfl ?_)
      |((with_reducible show aL _ _ _ _);refine dK ?_))<;>with_reducible refine wK ?_)
    |((with_reducible show(_∧_)∧_∧_);(refine eK ?_ ?_<;>with_reducible repeat' (first|exact trivial|(show _∧_;refine aK ?_ ?_)))))
  all_goals first
    |rfl
    |exact⟨.refl rfl,rfl⟩
    |exact(.inl rfl:nX _)
    |exact⟨.refl (aM _),aM _⟩
    |trace_state
theorem BG (l:List ai)(m:Int)(hs:bE l)(k:Nat)(y:ai)(hy:l[k]? =some y)(s:ByteArray)(hs3:s.size≤100000)(hr:bH s=false):
    an Tryz.prog 66 [aQ m l.length 1 ga,cJ l] [.ptr 0 0 0,.fptr (cu s) 0,.fptr (aj k) 0]
      [aQ m l.length 1 ga,cJ l] (.lit (jt wX 4)):=by
  have hl:=hs.attrs y (bT hy)
  have hkl:k<l.length:=(bg hy).1
  have hlm:(l.map bJ).length=l.length:=cj ..
  have h67:=o3 s
  have h68:=A0 y.attrs (by omega) s
  rw[hr] at h67
  have h60:=mG wX 4 (by decide)
  obtain⟨y1,y2,y3,y4,y5,y6,y7,y8,y9,y10⟩:=y
  simp only at*
  refine an.fA [] (rvs:=[.tmp 4]) G au Tryz.func66 rfl Tryz.ntmps66 rfl rfl ?_;with_reducible refine wD ?_
  repeat' (first
    |refine gK ?_
    | ((first
      |((with_reducible show aa _ _ 67 _ _ _ _);refine aa.lit [] h67 CB ⟨rfl,trivial⟩ rfl rfl ?_)
      |((with_reducible show aa _ _ 68 _ _ _ _);refine aa.val [] h68 NL ⟨rfl,rfl,trivial⟩ rfl rfl (rf _ _) ?_)
      |((with_reducible show eO _ _ _ _ _);refine eO.mk k rfl hkl ?_)
      |((with_reducible show aZ _ _ _ _ _);first|refine aZ.mk (az ⟨y1,y2,y3,y4,y5,y6,y7,y8,y9,y10⟩) (by first|exact ah hy|(rw[Nat.zero_add];exact ah hy)) ?_|refine aZ.mk _ rfl ?_)
      |((with_reducible show aa _ _ 60 _ _ _ _);refine aa.lit [] h60 Km ⟨rfl,rfl,trivial⟩ rfl rfl ?_)
      |((with_reducible show aL _ _ _ _);refine dK ?_))<;>with_reducible refine wK ?_)
    |((with_reducible show(_∧_)∧_∧_);(refine eK ?_ ?_<;>with_reducible repeat' (first|exact trivial|(show _∧_;refine aK ?_ ?_)))))
  all_goals first
    |rfl
    |exact⟨.refl rfl,rfl⟩
    |exact(.inl rfl:nX _)
    |exact⟨.refl (aM _),aM _⟩
    |trace_state
theorem oe {m:ML}{fz:Nat→Bool}{tab:List (Nat×Nat)}{n t len wd:Nat}{ro:Bool}{rows rows':List AV}(h1:dX m t=.live wd rows ro)(h2:fz t=true)(h3:rows=rows')(h4:len=rows'.length)(h5:br rows'=true):xU m fz (MF tab fz m n) (.sl wd rows') t 0 len:=by
  subst h3;subst h4
  exact .cut h1 h2 (by omega) (by rw[List.drop_zero,qB (by omega)]) h5
@[reducible] def uj (l : List aR) : AV := .sl 9 (l.map gG)
theorem Eu (f:ForM)(hs:bE f.nodes)(g:Nat)(cg:ak Tryz.prog g)(caps:List AV)(hcaps:br caps=true)(l':List ai)(x:aR)(hl:l'.length=f.nodes.length)(hg:an Tryz.prog g [aQ f.most f.nodes.length 1 ga,cJ f.nodes] (.ptr 0 0 0::caps) [aQ f.most f.nodes.length 1 (.own 2 0 1),cJ l',.live 9 [gG x] false] fZ):
    an Tryz.prog 56 [] [aY f,fZ,.clo (.func g) [] caps] [] (.tup [aY ⟨l',f.most⟩,uj [x],aj 0]):=by
  have h121:=sE f hs
  have hlm:(l'.map bJ).length=f.nodes.length:=by rw[cj,hl]
  obtain⟨l,m⟩:=f
  simp only at*
  refine an.aF (rvs:=[.cell 6 24,.tmp 7,.tmp 8]) G au Tryz.func56 rfl Tryz.ntmps56 rfl rfl ?_;with_reducible refine wD ?_
  repeat' (first
    |refine gK ?_
    | ((first
      |((with_reducible show aa _ _ 121 _ _ _ _);refine aa.dg (news:=[aQ m l.length 111 ga,cJ l]) [110,111] [] h121 DR ⟨⟨rfl,rfl,trivial⟩,trivial⟩ trivial rfl ⟨⟨rfl,rfl⟩,rfl⟩ rfl ⟨⟨rfl,.inr ⟨rfl,rfl,rfl⟩⟩,⟨rfl,.inl ⟨rfl,aM _⟩⟩,trivial⟩ rfl rfl ?_)
      |((with_reducible show aN _ _ _ _ _);first|refine aN.kg true Tryz.underlying98 rfl rfl rfl rfl rfl ?_|refine aN.kg false Tryz.underlying98 rfl rfl rfl rfl rfl ?_|refine aN.kK false Tryz.underlying98 rfl rfl rfl rfl rfl ?_|refine aN.kK true Tryz.underlying98 rfl rfl rfl rfl rfl ?_)
      |((with_reducible show aa _ _ 122 _ _ _ _);refine aa.lit [] h122 JS ⟨⟨rfl,rfl⟩,trivial⟩ rfl rfl ?_)
      |((with_reducible show aa _ _ _ _ _ _ _);refine aa.dg (news:=[aQ m l.length 111 (.own 161 0 1),cJ l',.live 9 [gG x] false]) [110,111,161] [] hg cg ⟨⟨rfl,rfl⟩,bP hcaps⟩ ⟨⟨rfl,.inr ⟨⟨⟨⟨rfl,rfl⟩,rfl,.inl rfl,trivial⟩,trivial⟩,rfl⟩⟩,⟨rfl,.inl ⟨rfl,aM _⟩⟩,trivial⟩ rfl ⟨⟨rfl,rfl⟩,rfl⟩ rfl ⟨⟨rfl,.inr ⟨rfl,rfl,rfl⟩⟩,⟨rfl,.inl ⟨rfl,aM _⟩⟩,⟨rfl,.inl ⟨rfl,rfl⟩⟩,trivial⟩ rfl rfl ?_)
      |((with_reducible show aL _ _ _ _);refine dK ?_))<;>with_reducible refine wK ?_)
    |((with_reducible show(_∧_)∧_∧_);(refine eK ?_ ?_<;>with_reducible repeat' (first|exact trivial|(show _∧_;refine aK ?_ ?_)))))
  all_goals first
    |rfl
    |exact oe rfl rfl rfl hlm.symm (aM _)
    |exact oe rfl rfl rfl rfl rfl
    |exact⟨.refl rfl,rfl⟩
    |exact(.inl rfl:nX _)
    |exact .inr (.inr ⟨9,rfl⟩)
    |trace_state
theorem Bt (f:ForM)(hs:bE f.nodes)(g:Nat)(cg:ak Tryz.prog g)(caps:List AV)(hcaps:br caps=true)(l':List ai)(hl:l'.length=f.nodes.length)(hg:an Tryz.prog g [aQ f.most f.nodes.length 1 ga,cJ f.nodes] (.ptr 0 0 0::caps) [aQ f.most f.nodes.length 1 ga,cJ l'] fZ):
    an Tryz.prog 56 [] [aY f,fZ,.clo (.func g) [] caps] [] (.tup [aY ⟨l',f.most⟩,uj [],aj 0]):=by
  have h121:=sE f hs
  have hlm:(l'.map bJ).length=f.nodes.length:=by rw[cj,hl]
  obtain⟨l,m⟩:=f
  simp only at*
  refine an.aF (rvs:=[.cell 6 24,.tmp 7,.tmp 8]) G au Tryz.func56 rfl Tryz.ntmps56 rfl rfl ?_;with_reducible refine wD ?_
  repeat' (first
    |refine gK ?_
    | ((first
      |((with_reducible show aa _ _ 121 _ _ _ _);refine aa.dg (news:=[aQ m l.length 111 ga,cJ l]) [110,111] [] h121 DR ⟨⟨rfl,rfl,trivial⟩,trivial⟩ trivial rfl ⟨⟨rfl,rfl⟩,rfl⟩ rfl ⟨⟨rfl,.inr ⟨rfl,rfl,rfl⟩⟩,⟨rfl,.inl ⟨rfl,aM _⟩⟩,trivial⟩ rfl rfl ?_)
      |((with_reducible show aN _ _ _ _ _);first|refine aN.kg true Tryz.underlying98 rfl rfl rfl rfl rfl ?_|refine aN.kg false Tryz.underlying98 rfl rfl rfl rfl rfl ?_|refine aN.kK false Tryz.underlying98 rfl rfl rfl rfl rfl ?_|refine aN.kK true Tryz.underlying98 rfl rfl rfl rfl rfl ?_)
      |((with_reducible show aa _ _ 122 _ _ _ _);refine aa.lit [] h122 JS ⟨⟨rfl,rfl⟩,trivial⟩ rfl rfl ?_)
      |((with_reducible show aa _ _ _ _ _ _ _);refine aa.dg (news:=[aQ m l.length 111 ga,cJ l']) [110,111] [] hg cg ⟨⟨rfl,rfl⟩,bP hcaps⟩ ⟨⟨rfl,.inr ⟨⟨⟨⟨rfl,rfl⟩,rfl,.inl rfl,trivial⟩,trivial⟩,rfl⟩⟩,⟨rfl,.inl ⟨rfl,aM _⟩⟩,trivial⟩ rfl ⟨⟨rfl,rfl⟩,rfl⟩ rfl ⟨⟨rfl,.inr ⟨rfl,rfl,rfl⟩⟩,⟨rfl,.inl ⟨rfl,aM _⟩⟩,trivial⟩ rfl rfl ?_)
      |((with_reducible show aL _ _ _ _);refine dK ?_))<;>with_reducible refine wK ?_)
    |((with_reducible show(_∧_)∧_∧_);(refine eK ?_ ?_<;>with_reducible repeat' (first|exact trivial|(show _∧_;refine aK ?_ ?_)))))
  all_goals first
    |rfl
    |exact oe rfl rfl rfl hlm.symm (aM _)
    |exact oe rfl rfl rfl rfl rfl
    |exact⟨.refl rfl,rfl⟩
    |exact(.inl rfl:nX _)
    |exact .inr (.inr ⟨9,rfl⟩)
    |trace_state
theorem Aq (f:ForM)(hs:bE f.nodes)(g:Nat)(cg:ak Tryz.prog g)(caps:List AV)(hcaps:br caps=true)(what:ByteArray)(e:Int)(hg:an Tryz.prog g [aQ f.most f.nodes.length 1 ga,cJ f.nodes] (.ptr 0 0 0::caps) [aQ f.most f.nodes.length 1 ga,cJ f.nodes] (.lit (jt what e))):
    an Tryz.prog 56 [] [aY f,fZ,.clo (.func g) [] caps] [] (.tup [aY f,uj [],aj e]):=by
  have h121:=sE f hs
  have h122:=Fi what e
  obtain⟨l,m⟩:=f
  simp only at*
  refine an.aF (rvs:=[.cell 6 24,.tmp 7,.tmp 8]) G au Tryz.func56 rfl Tryz.ntmps56 rfl rfl ?_;with_reducible refine wD ?_
  repeat' (first
    |refine gK ?_
    | ((first
      |((with_reducible show aa _ _ 121 _ _ _ _);refine aa.dg (news:=[aQ m l.length 111 ga,cJ l]) [110,111] [] h121 DR ⟨⟨rfl,rfl,trivial⟩,trivial⟩ trivial rfl ⟨⟨rfl,rfl⟩,rfl⟩ rfl ⟨⟨rfl,.inr ⟨rfl,rfl,rfl⟩⟩,⟨rfl,.inl ⟨rfl,aM _⟩⟩,trivial⟩ rfl rfl ?_)
      |((with_reducible show aN _ _ _ _ _);first|refine aN.kg true Tryz.underlying98 rfl rfl rfl rfl rfl ?_|refine aN.kg false Tryz.underlying98 rfl rfl rfl rfl rfl ?_|refine aN.kK false Tryz.underlying98 rfl rfl rfl rfl rfl ?_|refine aN.kK true Tryz.underlying98 rfl rfl rfl rfl rfl ?_)
      |((with_reducible show aa _ _ 122 _ _ _ _);refine aa.lit [] h122 JS ⟨⟨rfl,rfl⟩,trivial⟩ rfl rfl ?_)
      |((with_reducible show aa _ _ _ _ _ _ _);refine aa.dg (news:=[aQ m l.length 111 ga,cJ l]) [110,111] [] hg cg ⟨⟨rfl,rfl⟩,bP hcaps⟩ ⟨⟨rfl,.inr ⟨⟨⟨⟨rfl,rfl⟩,rfl,.inl rfl,trivial⟩,trivial⟩,rfl⟩⟩,⟨rfl,.inl ⟨rfl,aM _⟩⟩,trivial⟩ rfl ⟨⟨rfl,rfl⟩,rfl⟩ rfl ⟨⟨rfl,.inr ⟨rfl,rfl,rfl⟩⟩,⟨rfl,.inl ⟨rfl,aM _⟩⟩,trivial⟩ rfl rfl ?_)
      |((with_reducible show aL _ _ _ _);refine dK ?_))<;>with_reducible refine wK ?_)
    |((with_reducible show(_∧_)∧_∧_);(refine eK ?_ ?_<;>with_reducible repeat' (first|exact trivial|(show _∧_;refine aK ?_ ?_)))))
  all_goals first
    |rfl
    |exact oe rfl rfl rfl hlm.symm (aM _)
    |exact oe rfl rfl rfl rfl rfl
    |exact⟨.refl rfl,rfl⟩
    |exact(.inl rfl:nX _)
    |exact .inr (.inr ⟨9,rfl⟩)
    |trace_state
theorem pO (f:ForM)(hs:bE f.nodes)(g:Nat)(caps:List AV)(what:ByteArray)(e:Int)                   :
    an Tryz.prog 56 [] [aY f,.lit (jt what e),.clo (.func g) [] caps] [] (.tup [aY f,uj [],aj e]):=by
  have h121:=sE f hs
  have h122:=Fi what e
  obtain⟨l,m⟩:=f
  simp only at*
  refine an.aF (rvs:=[.cell 6 24,.tmp 7,.tmp 8]) G au Tryz.func56 rfl Tryz.ntmps56 rfl rfl ?_;with_reducible refine wD ?_
  repeat' (first
    |refine gK ?_
    | ((first
      |((with_reducible show aa _ _ 121 _ _ _ _);refine aa.dg (news:=[aQ m l.length 111 ga,cJ l]) [110,111] [] h121 DR ⟨⟨rfl,rfl,trivial⟩,trivial⟩ trivial rfl ⟨⟨rfl,rfl⟩,rfl⟩ rfl ⟨⟨rfl,.inr ⟨rfl,rfl,rfl⟩⟩,⟨rfl,.inl ⟨rfl,aM _⟩⟩,trivial⟩ rfl rfl ?_)
      |((with_reducible show aN _ _ _ _ _);first|refine aN.kg true Tryz.underlying98 rfl rfl rfl rfl rfl ?_|refine aN.kg false Tryz.underlying98 rfl rfl rfl rfl rfl ?_|refine aN.kK false Tryz.underlying98 rfl rfl rfl rfl rfl ?_|refine aN.kK true Tryz.underlying98 rfl rfl rfl rfl rfl ?_)
      |((with_reducible show aa _ _ 122 _ _ _ _);refine aa.lit [] h122 JS ⟨⟨rfl,rfl⟩,trivial⟩ rfl rfl ?_)
      |((with_reducible show aL _ _ _ _);refine dK ?_))<;>with_reducible refine wK ?_)
    |((with_reducible show(_∧_)∧_∧_);(refine eK ?_ ?_<;>with_reducible repeat' (first|exact trivial|(show _∧_;refine aK ?_ ?_)))))
  all_goals first
    |rfl
    |exact oe rfl rfl rfl hlm.symm (aM _)
    |exact oe rfl rfl rfl rfl rfl
    |exact⟨.refl rfl,rfl⟩
    |exact(.inl rfl:nX _)
    |exact .inr (.inr ⟨9,rfl⟩)
    |trace_state
theorem ot (f:ForM)(ns:List aR)(e:Int):bu (.tup [aY f,uj ns,aj e])=true:=by
  have h1:=aM f.nodes
  have h2:br (ns.map gG)=true:=ic gG (fun _=>rfl) _
  simp[bu,br,h1,h2]
theorem qG (f:ForM)(n:Int)(s:ByteArray)          (r:ForM)(ns:List aR)(z:Int)(h57:an Tryz.prog 57 [] [aY f,aj n] [] fZ)
    (h56:an Tryz.prog 56 [] [aY f,fZ,.clo (.func 66) [] [.fptr (cu s) 0,.fptr (aj n) 0]] [] (.tup [aY r,uj ns,aj z])):an Tryz.prog 24 [] [aY f,aj n,cu s] [] (.tup [aY r,uj ns,aj z]):=by
  obtain⟨l,m⟩:=f
  obtain⟨l',m'⟩:=r
  have hn:=ot ⟨l',m'⟩ ns z
  refine an.aF (rvs:=[.cell 6 24,.tmp 7,.tmp 8]) G au Tryz.func24 rfl Tryz.ntmps24 rfl rfl ?_;with_reducible refine wD ?_
  repeat' (first
    |refine gK ?_
    | ((first
      |((with_reducible show aa _ _ 57 _ _ _ _);refine aa.lit [] h57 Oh ⟨⟨rfl,rfl,trivial⟩,rfl,trivial⟩ rfl rfl ?_)
      |((with_reducible show aa _ _ 56 _ _ _ _);refine aa.val [50,40] h56 Lm ⟨⟨rfl,rfl,trivial⟩,⟨rfl,rfl⟩,⟨rfl,trivial,⟨_,_,_,_,_,rfl,rfl,rfl,rfl,rfl,rfl⟩,⟨_,_,_,_,_,rfl,rfl,rfl,rfl,rfl,rfl⟩,trivial⟩,trivial⟩ rfl rfl hn ?_)
      |((with_reducible show aL _ _ _ _);refine dK ?_))<;>with_reducible refine wK ?_)
    |((with_reducible show(_∧_)∧_∧_);(refine eK ?_ ?_<;>with_reducible repeat' (first|exact trivial|(show _∧_;refine aK ?_ ?_)))))
  all_goals first|rfl|trace_state
theorem wS (f:ForM)(n:Int)(s:ByteArray)(what:ByteArray)(e:Int)(r:ForM)(ns:List aR)(z:Int)(h57:an Tryz.prog 57 [] [aY f,aj n] [] (.lit (jt what e)))
    (h56:an Tryz.prog 56 [] [aY f,(.lit (jt what e)),.clo (.func 66) [] [.fptr (cu s) 0,.fptr (aj n) 0]] [] (.tup [aY r,uj ns,aj z])):an Tryz.prog 24 [] [aY f,aj n,cu s] [] (.tup [aY r,uj ns,aj z]):=by
  obtain⟨l,m⟩:=f
  obtain⟨l',m'⟩:=r
  have hn:=ot ⟨l',m'⟩ ns z
  refine an.aF (rvs:=[.cell 6 24,.tmp 7,.tmp 8]) G au Tryz.func24 rfl Tryz.ntmps24 rfl rfl ?_;with_reducible refine wD ?_
  repeat' (first
    |refine gK ?_
    | ((first
      |((with_reducible show aa _ _ 57 _ _ _ _);refine aa.lit [] h57 Oh ⟨⟨rfl,rfl,trivial⟩,rfl,trivial⟩ rfl rfl ?_)
      |((with_reducible show aa _ _ 56 _ _ _ _);refine aa.val [50,40] h56 Lm ⟨⟨rfl,rfl,trivial⟩,⟨rfl,rfl⟩,⟨rfl,trivial,⟨_,_,_,_,_,rfl,rfl,rfl,rfl,rfl,rfl⟩,⟨_,_,_,_,_,rfl,rfl,rfl,rfl,rfl,rfl⟩,trivial⟩,trivial⟩ rfl rfl hn ?_)
      |((with_reducible show aL _ _ _ _);refine dK ?_))<;>with_reducible refine wK ?_)
    |((with_reducible show(_∧_)∧_∧_);(refine eK ?_ ?_<;>with_reducible repeat' (first|exact trivial|(show _∧_;refine aK ?_ ?_)))))
  all_goals first|rfl|trace_state
theorem Lb (f:ForM)(hs:bE f.nodes)(n:Int)(s:ByteArray)(hs3:s.size≤100000):an Tryz.prog 24 [] [aY f,aj n,cu s] [] (.tup [aY (eR f n s).1,uj (eR f n s).2.1,aj (eR f n s).2.2]):=by
  cases ht:(aX f&&af f.nodes n) with
  | false=>
    have e:eR f n s=(f,[],1):=by unfold eR kD;rw[ht];rfl
    rw[e]
    exact wS f n s oA 1 f [] 1 (Iv f hs n ht) (pO f hs 66 _ oA 1)
  | true =>
    simp only[bQ] at ht
    obtain⟨hr,ht⟩:=ht
    obtain⟨k,y,rfl,hy,_⟩:=aU.1 ht
    have hnd:=cz hy
    by_cases hk:y.kind=1
    · have he0:kD f k=0:=by unfold kD;rw[hr,ht,hnd,hk];rfl
      have h57:=F9 f hs k y hy hr hk
      by_cases he:bH s=true
      · have e:eR f k s=sG f k s (bS y.attrs s).1:=by
          unfold eR;rw[he0,hnd,he];rfl
        rw[e]
        unfold sG iy
        rw[hnd]
        by_cases hf:0≤bU y.attrs s∨0≤bU (bS y.attrs s).1 s
        · rw[if_pos hf]
          exact qG f k s _ _ _ h57 (Eu f hs 66 NQ _ rfl _ _ (gL ..) (BS f.nodes f.most hs k y hy s hs3 he hf))
        · rw[if_neg hf]
          exact qG f k s _ _ _ h57 (Bt f hs 66 NQ _ rfl _ (gL ..) (ED f.nodes f.most hs k y hy s hs3 he ⟨fun h=>hf (.inl h),fun h=>hf (.inr h)⟩))
      · have he:=Bool.eq_false_iff.2 he
        have e:eR f k s=(f,[],4):=by
          unfold eR;rw[he0,he];rfl
        rw[e]
        exact qG f k s _ _ _ h57 (Aq f hs 66 NQ _ rfl wX _ (BG f.nodes f.most hs k y hy s hs3 he))
    · have e:eR f k s=(f,[],5):=by
        have:kD f k=5:=by unfold kD;rw[hr,ht,hnd];simp[hk]
        unfold eR;rw[this];rfl
      rw[e]
      exact wS f k s xR 5 f [] 5 (DX f hs k y hy hr hk) (pO f hs 66 _ xR 5)
@[reducible] def F5 : ByteArray := ⟨#[111, 117, 116]⟩
theorem w8 (l:List ai)(m:Int)(hs:bE l)(k:Nat)(y:ai)(hy:l[k]? =some y)(hp:y.parent=-1):
    an Tryz.prog 78 [aQ m l.length 1 ga,cJ l] [.ptr 0 0 0,.fptr (aj k) 0] [aQ m l.length 1 ga,cJ l] (.lit (jt F5 6)):=by
  have hkl:k<l.length:=(bg hy).1
  have hlm:(l.map bJ).length=l.length:=cj ..
  have h60:=mG F5 6 (by decide)
  obtain⟨y1,y2,y3,y4,y5,y6,y7,y8,y9,y10⟩:=y
  simp only at hp
  have hp':=eq_true hp
  refine an.fA [] (rvs:=[.tmp 3]) G au Tryz.func78 rfl Tryz.ntmps78 rfl rfl ?_;with_reducible refine wD ?_
  (have fct:=And.intro hlm (hp');(repeat' (first
    |refine gF ?_
    | ((first
      |((with_reducible show eO _ _ _ _ _);refine eO.mk k rfl hkl ?_)
      |((with_reducible show aZ _ _ _ _ _);refine aZ.mk (az ⟨y1,y2,y3,y4,y5,y6,y7,y8,y9,y10⟩) (by first|exact ah hy|(rw[Nat.zero_add];exact ah hy)) ?_)
      |((with_reducible show aa _ _ 60 _ _ _ _);refine aa.lit [] h60 Km ⟨rfl,rfl,trivial⟩ rfl rfl ?_)
      |((with_reducible show aL _ _ _ _);refine dK ?_))<;>with_reducible refine wK ?_)
    |((with_reducible show(_∧_)∧_∧_);(refine eK ?_ ?_<;>with_reducible repeat' (first|exact trivial|(show _∧_;refine aK ?_ ?_))))));all_goals clear fct)
  all_goals first
    |rfl
    |exact⟨.refl rfl,rfl⟩
    |exact(.inl rfl:nX _)
    |exact⟨.refl (aM _),aM _⟩
    |trace_state
theorem Ar (f:ForM)(hs:bE f.nodes)(hr:aX f=true)(k:Nat)(y:ai)(hy:f.nodes[k]? =some y)(hp:y.parent=-1):an Tryz.prog 32 [] [aY f,aj k] [] (.tup [aY f,uj [],aj 6]):=by
  have h77:=nM f hs k (by rw[hr,dM hy];rfl)
  have h56:=Aq f hs 78 Oe [.fptr (aj k) 0] rfl F5 6 (w8 f.nodes f.most hs k y hy hp)
  obtain⟨l,m⟩:=f
  have hn:=ot ⟨l,m⟩ [] 6
  refine an.aF (rvs:=[.cell 4 24,.tmp 5,.tmp 6]) G au Tryz.func32 rfl Tryz.ntmps32 rfl rfl ?_;with_reducible refine wD ?_
  repeat' (first
    |refine gK ?_
    | ((first
      |((with_reducible show aa _ _ 77 _ _ _ _);refine aa.lit [] h77 L0 ⟨⟨rfl,rfl,trivial⟩,rfl,trivial⟩ rfl rfl ?_)
      |((with_reducible show aa _ _ 56 _ _ _ _);refine aa.val [30] h56 Lm ⟨⟨rfl,rfl,trivial⟩,⟨rfl,rfl⟩,⟨rfl,trivial,⟨_,_,_,_,_,rfl,rfl,rfl,rfl,rfl,rfl⟩,trivial⟩,trivial⟩ rfl rfl hn ?_)
      |((with_reducible show aL _ _ _ _);refine dK ?_))<;>with_reducible refine wK ?_)
    |((with_reducible show(_∧_)∧_∧_);(refine eK ?_ ?_<;>with_reducible repeat' (first|exact trivial|(show _∧_;refine aK ?_ ?_)))))
  all_goals first|rfl|trace_state
theorem yJ {l:List ai}{m:Int}{a b:Nat}{ka kb k2:List Int}{y:ai}{told:List aR}{l':List ai}(hL:l.length≤1000)(hy:l[b]? =some y)(hp:y.parent≠-1)(hlen:l'.length=l.length)
    (h79:an Tryz.prog 79 [aQ m l.length 4 (.own 3 0 0),aI ka,aI kb,aW [],aT l a 1 b 2] [.ptr 0 0 0,aj b]
      [aQ m l.length 4 (.own 6 0 told.length),.dead,aI kb,.dead,aT l' a 5 b 2,aI k2,aW told] (.tup [])) (hab:b≠a):
    an Tryz.prog 78 [aQ m l.length 4 (.own 3 0 0),aI ka,aI kb,aW [],aT l a 1 b 2] [.ptr 0 0 0,.fptr (aj b) 0]
      [aQ m l.length 4 (.own 6 0 told.length),.dead,aI kb,.dead,aT l' a 5 b 2,aI k2,aW told] fZ:=by
  have hbl:=(bg hy).1
  have g2:(aP l a 1 b 2)[b]? =some (dN y 2):=s5 hy hab
  have hlr:(aP l a 1 b 2).length=l.length:=bN
  obtain⟨y1,y2,y3,y4,y5,y6,y7,y8,y9,y10⟩:=y
  simp only at hp
  have hp':=eq_false hp
  refine an.fA [(5,151),(6,163)] (rvs:=[.tmp 3]) G au Tryz.func78 rfl Tryz.ntmps78 rfl rfl ?_;with_reducible refine wD ?_
  (have fct:=hp';(repeat' (first
    |refine gF ?_
    | ((first
      |((with_reducible show eO _ _ _ _ _);refine eO.mk b rfl (by first|exact hbl|(simp;omega)) ?_)
      |((with_reducible show aZ _ _ _ _ _);refine aZ.mk _ (by first|exact g2|(rw[Nat.zero_add];exact g2)) ?_)
      |((with_reducible show aa _ _ 79 _ _ _ _);refine aa.dg (news:=[aQ m l.length 4 (.own 163 0 told.length),.dead,aI kb,.dead,aT l' a 151 b 2,aI k2,aW told]) [0,1,2,3,4,151,163] [] h79 MY ⟨⟨rfl,rfl⟩,rfl,trivial⟩ ⟨⟨rfl,.inr ⟨⟨⟨⟨rfl,rfl⟩,rfl,⟨rfl,rfl⟩,trivial⟩,trivial⟩,rfl⟩⟩,⟨rfl,.inl ⟨rfl,ae _⟩⟩,⟨rfl,.inl ⟨rfl,ae _⟩⟩,⟨rfl,.inl ⟨rfl,aq _⟩⟩,⟨rfl,bR (fun _=>rfl) (fun _=>rfl)⟩,trivial⟩ rfl ⟨⟨rfl,rfl⟩,rfl⟩ rfl ⟨⟨rfl,.inr ⟨rfl,rfl,rfl⟩⟩,⟨rfl,.inl ⟨rfl,ae _⟩⟩,⟨rfl,bM rfl rfl (by decide) (by decide)⟩,⟨rfl,.inl ⟨rfl,ae _⟩⟩,⟨rfl,.inl ⟨rfl,aq _⟩⟩,trivial⟩ rfl rfl ?_)
      |((with_reducible show aL _ _ _ _);refine dK ?_))<;>with_reducible refine wK ?_)
    |((with_reducible show(_∧_)∧_∧_);(refine eK ?_ ?_<;>with_reducible repeat' (first|exact trivial|(show _∧_;refine aK ?_ ?_))))));all_goals clear fct)
  all_goals first
    |rfl
    |exact⟨.refl (ae _),ae _⟩
    |exact⟨.refl (aq _),aq _⟩
    |exact bt (fun _=>rfl) (fun _=>rfl)
    |trace_state
theorem Lj (f:ForM)(hs:bE f.nodes){a b:Nat}{ya yb:ai}(hab:a≠b)(ha:f.nodes[a]? =some ya)(hb:f.nodes[b]? =some yb)(g:Nat)(cg:ak Tryz.prog g)(caps:List AV)(hcaps:br caps=true)(l':List ai)(k2:List Int)(told:List aR)(hl:l'.length=f.nodes.length)
    (hka:∀y,l'[a]? =some y→y.kids=k2) (hkb:∀y,l'[b]? =some y→y.kids=yb.kids)
    (hg:an Tryz.prog g [aQ f.most f.nodes.length 4 (.own 3 0 0),aI ya.kids,aI yb.kids,aW [],aT f.nodes a 1 b 2] (.ptr 0 0 0::caps)
      [aQ f.most f.nodes.length 4 (.own 6 0 told.length),.dead,aI yb.kids,.dead,aT l' a 5 b 2,aI k2,aW told] fZ):
    an Tryz.prog 56 [] [aY f,fZ,.clo (.func g) [] caps] [] (.tup [aY ⟨l',f.most⟩,uj told,aj 0]):=by
  have h121:=Ke f hs hab ha hb
  have hlm:(l'.map bJ).length=f.nodes.length:=by rw[cj,hl]
  obtain⟨l,m⟩:=f
  simp only at*
  refine an.aF (rvs:=[.cell 6 24,.tmp 7,.tmp 8]) G au Tryz.func56 rfl Tryz.ntmps56 rfl rfl ?_;with_reducible refine wD ?_
  repeat' (first
    |refine gK ?_
    | ((first
      |((with_reducible show aa _ _ 121 _ _ _ _);refine aa.dg (news:=[aQ m l.length 114 (.own 113 0 0),aI ya.kids,aI yb.kids,.live 9 [] false,aT l a 111 b 112]) [110,111,112,113,114] [] h121 DR ⟨⟨rfl,rfl,trivial⟩,trivial⟩ trivial rfl ⟨⟨rfl,rfl⟩,rfl⟩ rfl ⟨⟨rfl,.inr ⟨rfl,rfl,rfl⟩⟩,⟨rfl,.inl ⟨rfl,ae _⟩⟩,⟨rfl,.inl ⟨rfl,ae _⟩⟩,⟨rfl,.inl ⟨rfl,rfl⟩⟩,⟨rfl,bM rfl rfl (by decide) (by decide)⟩,trivial⟩ rfl rfl ?_)
      |((with_reducible show aN _ _ _ _ _);first|refine aN.kg true Tryz.underlying98 rfl rfl rfl rfl rfl ?_|refine aN.kK false Tryz.underlying98 rfl rfl rfl rfl rfl ?_)
      |((with_reducible show aa _ _ _ _ _ _ _);refine aa.dg (news:=[aQ m l.length 114 (.own 163 0 told.length),.dead,aI yb.kids,.dead,aT l' a 161 b 112,aI k2,aW told]) [110,111,112,113,114,161,163] [] hg cg ⟨⟨rfl,rfl⟩,bP hcaps⟩ ⟨⟨rfl,.inr ⟨⟨⟨⟨rfl,rfl⟩,rfl,⟨rfl,rfl⟩,trivial⟩,trivial⟩,rfl⟩⟩,⟨rfl,.inl ⟨rfl,ae _⟩⟩,⟨rfl,.inl ⟨rfl,ae _⟩⟩,⟨rfl,.inl ⟨rfl,rfl⟩⟩,⟨rfl,bR (fun _=>rfl) (fun _=>rfl)⟩,trivial⟩ rfl ⟨⟨rfl,rfl⟩,rfl⟩ rfl ⟨⟨rfl,.inr ⟨rfl,rfl,rfl⟩⟩,⟨rfl,.inl ⟨rfl,ae _⟩⟩,⟨rfl,bM rfl rfl (by decide) (by decide)⟩,⟨rfl,.inl ⟨rfl,ae _⟩⟩,⟨rfl,.inl ⟨rfl,aq _⟩⟩,trivial⟩ rfl rfl ?_)
      |((with_reducible show aL _ _ _ _);refine dK ?_))<;>with_reducible refine wK ?_)
    |((with_reducible show(_∧_)∧_∧_);(refine eK ?_ ?_<;>with_reducible repeat' (first|exact trivial|(show _∧_;refine aK ?_ ?_)))))
  all_goals first
    |rfl
    |exact oe rfl rfl rfl (by simp) (aq _)
    |exact(by rw[←hl];exact ux (ra:=false) (rb:=false) (ea:=[]) (eb:=[]) rfl rfl (fun y hy=>by rw[List.append_nil,hka y hy];exact⟨rfl,rfl⟩) (fun y hy=>by rw[List.append_nil,hkb y hy];exact⟨rfl,rfl⟩))
    |trace_state
end Go.Proofs.Heir
namespace Go.Proofs.Heir
open Go Go.Am Go.RowKit Go.Lib
set_option maxRecDepth 100000
set_option maxHeartbeats 8000000
set_option maxHeartbeats 8000000
theorem IB (f:ForM)(n:Int):an Tryz.prog 138 [] [aj n,.fptr (aY f) 0] [] (bB (!af f.nodes n)):=by
  obtain⟨l,m⟩:=f
  have hlm:(l.map bJ).length=l.length:=cj ..
  refine an.aF (rvs:=[.tmp 3]) G au Tryz.func138 rfl Tryz.ntmps138 rfl rfl ?_;with_reducible refine wD ?_
  repeat' (first
    |refine pK ?_
    | ((first
      |((with_reducible show bk _ _ _ _);(refine bk.mk (fun hp=>?_) (fun hp=>?_)<;>(try simp only[ay,bO,dh,Bool.not_eq_true',Bool.not_eq_false',Decidable.not_not,Int.not_lt,Int.not_le] at hp))))<;>with_reducible refine wK ?_)
    |((with_reducible show(_∧_)∧_∧_);(refine eK ?_ ?_<;>with_reducible repeat' (first|exact trivial|(show _∧_;refine aK ?_ ?_)))))
  ·unfold af;rw[bY (show ¬0≤n by omega)];rfl
  · unfold af;rw[dV hp,hlm,Bool.true_and,←decide_not]
    exact decide_eq_decide.2 Int.not_lt
theorem Ex (l:List ai)(n:Int):(!decide (0≤eC (fun n=> !af l n) [n]))=af l n:=by
  unfold eC
  cases h:af l n<;>simp[List.findIdx?_cons,h]
theorem we (l:List ai)(a b:Int):(!decide (0≤eC (fun n=> !af l n) [a,b]))=(af l a&&af l b):=by
  unfold eC
  cases h:af l a<;>cases k:af l b<;>simp[List.findIdx?_cons,h,k]
theorem EX (f:ForM)(hs:bE f.nodes)(l:List Int)(hl:l.length≤100000):an Tryz.prog 71 [] [aY f,cF l] [] (bB (aX f&& !decide (0≤eC (fun n=> !af f.nodes n) l))):=by
  have h17:=ng f hs
  have h127:=Dg 138 Nd [.fptr (aY f) 0] rfl (fun n=> !af f.nodes n) l hl (fun a _=>IB f a)
  obtain⟨ns,m⟩:=f
  simp only at h17 h127 ⊢
  refine an.aF (rvs:=[.tmp 4]) G au Tryz.func71 rfl Tryz.ntmps71 rfl rfl ?_;with_reducible refine wD ?_
  refine aa.lit [] h17 jX ⟨⟨rfl,rfl,trivial⟩,trivial⟩ rfl rfl ?_;with_reducible refine wK ?_
  cases h0:aX ⟨ns,m⟩ with
  | false=>
    repeat' (first
    |refine gK ?_
    |((with_reducible show(_∧_)∧_∧_);(refine eK ?_ ?_<;>with_reducible repeat' (first|exact trivial|(show _∧_;refine aK ?_ ?_)))))
    all_goals rfl
  | true=>
    repeat' (first
    |refine gK ?_
    |((with_reducible show(_∧_)∧_∧_);(refine eK ?_ ?_<;>with_reducible repeat' (first|exact trivial|(show _∧_;refine aK ?_ ?_)))))
    refine aa.lit [20] h127 KB ⟨rfl,⟨rfl,trivial,⟨_,_,_,_,_,rfl,rfl,rfl,rfl,rfl,⟨rfl,rfl,trivial⟩⟩,trivial⟩,trivial⟩ rfl rfl ?_;with_reducible refine wK ?_
    repeat' (first
    |refine gK ?_
    |((with_reducible show(_∧_)∧_∧_);(refine eK ?_ ?_<;>with_reducible repeat' (first|exact trivial|(show _∧_;refine aK ?_ ?_)))))
    all_goals rfl
theorem BY (f:ForM)(hs:bE f.nodes)(n:Int):an Tryz.prog 71 [] [aY f,cF [n]] [] (bB (aX f&&af f.nodes n)):=by
  have:=EX f hs [n] (by simp)
  rwa [Ex] at this
theorem JE (f:ForM)(hs:bE f.nodes)(a b:Int):an Tryz.prog 71 [] [aY f,cF [a,b]] [] (bB (aX f&&(af f.nodes a&&af f.nodes b))):=by
  have:=EX f hs [a,b] (by simp)
  rwa [we] at this
theorem over_self {l:List ai}(T:U.Tree l){a:Int}(ha:af l a=true):a∈U.bA l a:=by
  obtain⟨r,hr⟩:=U.dP T ha
  rw[hr];exact dJ
theorem Cs (f:ForM)(hs:bE f.nodes)(a b:Int)(hr:aX f=true)(ha:af f.nodes a=true)(hb:af f.nodes b=true):an Tryz.prog 143 [] [aY f,aj a,aj b] [] (bB (mT f.nodes a b)):=by
  have h147:=xK f hs [a,b] (by simp)
  rw[we,hr,ha,hb] at h147
  have h149:=fun k x hx=>Da f k x hx
  have T:=U.gl hr
  have ha0:=aV ha
  obtain⟨l,m⟩:=f
  simp only at h147 h149 T ha hb ⊢
  refine an.aF (rvs:=[.tmp 6]) G au Tryz.func143 rfl Tryz.ntmps143 rfl rfl ?_;with_reducible refine wD ?_
  refine aa.lit [101] h147 H7 ⟨⟨rfl,rfl,trivial⟩,dj (l:=[a,b]) rfl rfl rfl rfl,trivial⟩ rfl rfl ?_;with_reducible refine wK ?_
  repeat' (first
    |refine gK ?_
    |((with_reducible show(_∧_)∧_∧_);(refine eK ?_ ?_<;>with_reducible repeat' (first|exact trivial|(show _∧_;refine aK ?_ ?_)))))
  refine cn.use G au (fun(c:Int)=>[(1,aj a),(2,aj c),(3,.ptr 30 0 0)]) (fun c=>[(30,.live 2 [aY ⟨l,m⟩] false)])
    (fun c=>(c=-1∧mT l a b=false)∨(af l c=true∧mT l a b=decide (a∈U.bA l c))) (fun c=>if c=-1 then 0 else(U.bA l c).length+1) b (.inr ⟨hb,rfl⟩)
    (by refine⟨⟨rfl,rfl⟩,⟨rfl,rfl,⟨rfl,rfl⟩,trivial⟩,⟨⟨rfl,rfl,trivial⟩,trivial⟩,trivial⟩) ?_
  rintro c hc
  with_reducible refine wK ?_
  rcases hc with⟨rfl,hov⟩|⟨hc,hov⟩
  · rw[hov]
    have fa:((-1:Int)=a)=False:=eq_false (by omega)
    (have fct:=fa;(repeat' (first
    |refine gF ?_
    |((with_reducible show(_∧_)∧_∧_);(refine eK ?_ ?_<;>with_reducible repeat' (first|exact trivial|(show _∧_;refine aK ?_ ?_))))));all_goals clear fct)
    all_goals (first|rfl|(simp;omega)|trace_state)
  · obtain⟨i,y,rfl,hy,hny⟩:=aU.1 hc
    have h:=h149 i y hy
    have fi:((i:Int)=-1)=False:=eq_false (by omega)
    by_cases e:(i:Int)=a
    · have ft:=eq_true e
      have hin:a∈U.bA l (i:Int):=by rw[e];exact over_self T ha
      have hov':mT l a b=true:=by rw[hov];exact dV hin
      rw[hov']
      (have fct:=And.intro fi (ft);(repeat' (first
    |refine gF ?_
    | ((with_reducible show(_∧_)∧_∧_);(refine eK ?_ ?_<;>with_reducible repeat' (first|exact trivial|(show _∧_;refine aK ?_ ?_))))));all_goals clear fct)
      all_goals (first|rfl|(simp[e];done)|trace_state)
    · have ff:=eq_false e
      by_cases eu:c8 y=-1
      · rw[eu] at h
        have hw:=U.dR T hc (by rw[hny];exact eu)
        (have fct:=And.intro fi (ff);(repeat' (first
    |refine gF ?_
    |(((with_reducible show aa _ _ 149 _ _ _ _);refine aa.lit [] h JV ⟨⟨rfl,rfl,trivial⟩,rfl,trivial⟩ rfl rfl ?_)<;>with_reducible refine wK ?_)
    | ((with_reducible show(_∧_)∧_∧_);(refine eK ?_ ?_<;>with_reducible repeat' (first|exact trivial|(show _∧_;refine aK ?_ ?_))))));all_goals clear fct)
        refine cm.mk (-1) (.inl ⟨rfl,by rw[hov,hw];exact bY (by simp;omega)⟩) (by rw[if_pos rfl,if_neg (by omega)];omega) ⟨⟨rfl,rfl⟩,⟨rfl,rfl,⟨rfl,rfl⟩,trivial⟩,⟨⟨rfl,rfl,trivial⟩,trivial⟩,trivial⟩
      · have hu:=uE T _ hc (by rw[hny];exact eu)
        have hway:=U.bW T hc (by rw[hny];exact eu)
        rw[hny] at hu hway
        generalize c8 y=u at h eu hu hway
        (have fct:=And.intro fi (ff);(repeat' (first
    |refine gF ?_
    |(((with_reducible show aa _ _ 149 _ _ _ _);refine aa.lit [] h JV ⟨⟨rfl,rfl,trivial⟩,rfl,trivial⟩ rfl rfl ?_)<;>with_reducible refine wK ?_)
    | ((with_reducible show(_∧_)∧_∧_);(refine eK ?_ ?_<;>with_reducible repeat' (first|exact trivial|(show _∧_;refine aK ?_ ?_))))));all_goals clear fct)
        refine cm.mk u (.inr ⟨hu,by rw[hov,hway];exact decide_eq_decide.2 ⟨fun q=>(dm.1 q).resolve_left (fun r=>e r.symm),fun q=>c7 _ q⟩⟩) (by rw[if_neg eu,if_neg (by omega),hway];simp) ⟨⟨rfl,rfl⟩,⟨rfl,rfl,⟨rfl,rfl⟩,trivial⟩,⟨⟨rfl,rfl,trivial⟩,trivial⟩,trivial⟩
@[reducible] def Kg (l : List ai) (m p c g : Int) : AV := .agg [rE l, aj m, aj p, aj c, aj g]
theorem qe (l:List ai)(m p c g:Int)(k:Nat)(x:ai)(hx:l[k]? =some x):an Tryz.prog 142 [] [Kg l m p c g,aj k] [] (aj x.kind):=by
  obtain⟨a1,a2,a3,a4,a5,a6,a7,a8,a9,a10⟩:=x
  refine an.aF (rvs:=[.tmp 4]) G au Tryz.func142 rfl Tryz.ntmps142 rfl rfl ?_;with_reducible refine wD ?_
  repeat' (first
    |refine gK ?_
    |(((with_reducible show aG _ _ _ _ _);refine aG.mk k (az _) rfl (ah hx) ?_)<;>with_reducible refine wK ?_)
    |((with_reducible show(_∧_)∧_∧_);(refine eK ?_ ?_<;>with_reducible repeat' (first|exact trivial|(show _∧_;refine aK ?_ ?_)))))
  all_goals rfl
theorem Ee (l:List ai)(g:Int)(cs:List Int)(kd c:Int){j:Nat}(h:cs[j]? =some c):gU l g (cs.take (j+1)) kd=gU l g (cs.take j) kd+ (if c≠g∧(nd l c).kind=kd then 1 else 0):=by
  unfold gU
  rw[List.take_add_one,h,List.countP_append]
  congr 1
  show List.countP _ [c]=_
  rw[List.countP_cons,List.countP_nil]
  by_cases h1:c=g<;>by_cases h2:(nd l c).kind=kd<;>simp[h1,h2]
theorem yh (l:List ai)(g:Int)(cs:List Int)(kd:Int):gU l g cs kd≤cs.length:=List.countP_le_length
theorem xo (l:List ai)(m p c g:Int)(cs:List Int)(kd:Int)(hcs:∀c∈cs,af l c=true)(hlen:cs.length≤1000):an Tryz.prog 191 [] [Kg l m p c g,cF cs,aj kd] [] (aj (gU l g cs kd:Nat)):=by
  have h142:=fun k x hx=>qe l m p c g k x hx
  have hli:(cs.map bV).length=cs.length:=cj ..
  refine an.aF (rvs:=[.tmp 6]) G au Tryz.func191 rfl Tryz.ntmps191 rfl rfl ?_;with_reducible refine wD ?_
  repeat' (first
    |refine gK ?_
    |((with_reducible show(_∧_)∧_∧_);(refine eK ?_ ?_<;>with_reducible repeat' (first|exact trivial|(show _∧_;refine aK ?_ ?_)))))
  refine cn.use G au (fun(j:Nat)=>[(2,aj kd),(3,.ptr 30 0 0),(7,aj (gU l g (cs.take j) kd:Nat)),(10,cF cs),(11,aj cs.length),(12,aj j)]) (fun j=>[(30,.live 5 [Kg l m p c g] false)])
    (fun j=>j≤cs.length) (fun j=>cs.length-j) 0 (Nat.zero_le _) ?_ ?_
  · (refine fK ?_;(with_reducible repeat' (first|exact trivial|(show _∧_;refine aK ?_ ?_)));(all_goals try rfl))
    all_goals first|exact⟨rfl,rfl⟩|rfl|(simp[gU];done)|trace_state
  intro j hj
  with_reducible refine wK ?_
  refine bk.mk (fun h1=>?_) (fun h1=>?_)<;>(try simp only[ay] at h1)<;>with_reducible refine wK ?_
  · have hjl:j<cs.length:=by simp only[bO,ay] at h1;omega
    obtain⟨c0,hc⟩:∃c,cs[j]? =some c:=⟨_,bz hjl⟩
    obtain⟨i,y,rfl,hy,hny⟩:=aU.1 (hcs c0 (bT hc))
    have h:=h142 i y hy
    have hst:=Ee l g cs kd (i:Int) hc
    rw[hny] at hst
    have hle:gU l g (cs.take j) kd≤1000:=Nat.le_trans (yh l g (cs.take j) kd) (by rw[fP];omega)
    generalize gU l g (cs.take j) kd=M at hst hle ⊢
    obtain⟨b1,b2,b3,b4,b5,b6,b7,b8,b9,b10⟩:=y
    refine aG.mk j (aj (i:Int)) rfl (bK hc) ?_;with_reducible refine wK ?_
    by_cases e1:(i:Int)=g
    · rw[if_neg (fun q=>q.1 e1)] at hst
      have fa:=eq_true e1
      (have fct:=fa;(repeat' (first
    |refine gF ?_
    |(((with_reducible show aa _ _ 142 _ _ _ _);refine aa.lit [] h A4 ⟨⟨rfl,rfl,rfl,rfl,rfl,trivial⟩,rfl,trivial⟩ rfl rfl ?_)<;>with_reducible refine wK ?_)
    | ((with_reducible show(_∧_)∧_∧_);(refine eK ?_ ?_<;>with_reducible repeat' (first|exact trivial|(show _∧_;refine aK ?_ ?_))))));all_goals clear fct)
      refine cm.mk (j+1) (by omega) (by omega) ?_
      rw[hst]
      (refine fK ?_;(with_reducible repeat' (first|exact trivial|(show _∧_;refine aK ?_ ?_)));(all_goals try rfl))
      all_goals first|exact⟨rfl,rfl⟩|rfl|(show((j+1:Nat):Int)=(j:Int)+1;omega)|(simp;done)|trace_state
    · have fa:=eq_false e1
      by_cases e2:b1=kd
      · rw[if_pos ⟨e1,e2⟩] at hst
        have fb:=eq_true e2
        (have fct:=And.intro fa (fb);(repeat' (first
    |refine gF ?_
    |(((with_reducible show aa _ _ 142 _ _ _ _);refine aa.lit [] h A4 ⟨⟨rfl,rfl,rfl,rfl,rfl,trivial⟩,rfl,trivial⟩ rfl rfl ?_)<;>with_reducible refine wK ?_)
    | ((with_reducible show(_∧_)∧_∧_);(refine eK ?_ ?_<;>with_reducible repeat' (first|exact trivial|(show _∧_;refine aK ?_ ?_))))));all_goals clear fct)
        refine cm.mk (j+1) (by omega) (by omega) ?_
        rw[hst]
        (refine fK ?_;(with_reducible repeat' (first|exact trivial|(show _∧_;refine aK ?_ ?_)));(all_goals try rfl))
        all_goals first|exact⟨rfl,rfl⟩|rfl|(show((j+1:Nat):Int)=(j:Int)+1;omega)|(show((M+1:Nat):Int)=(M:Int)+1;omega)|(simp;done)|trace_state
      · rw[if_neg (fun q=>e2 q.2)] at hst
        have fb:=eq_false e2
        (have fct:=And.intro fa (fb);(repeat' (first
    |refine gF ?_
    |(((with_reducible show aa _ _ 142 _ _ _ _);refine aa.lit [] h A4 ⟨⟨rfl,rfl,rfl,rfl,rfl,trivial⟩,rfl,trivial⟩ rfl rfl ?_)<;>with_reducible refine wK ?_)
    | ((with_reducible show(_∧_)∧_∧_);(refine eK ?_ ?_<;>with_reducible repeat' (first|exact trivial|(show _∧_;refine aK ?_ ?_))))));all_goals clear fct)
        refine cm.mk (j+1) (by omega) (by omega) ?_
        rw[hst]
        (refine fK ?_;(with_reducible repeat' (first|exact trivial|(show _∧_;refine aK ?_ ?_)));(all_goals try rfl))
        all_goals first|exact⟨rfl,rfl⟩|rfl|(show((j+1:Nat):Int)=(j:Int)+1;omega)|(simp;done)|trace_state
  · have hjl:j=cs.length:=by simp only[dh,ay] at h1;omega
    subst hjl
    rw[List.take_length]
    repeat' (first
    |refine gK ?_
    |((with_reducible show(_∧_)∧_∧_);(refine eK ?_ ?_<;>with_reducible repeat' (first|exact trivial|(show _∧_;refine aK ?_ ?_)))))
    all_goals first|rfl|trace_state
theorem so (l:List ai)(m:Int)(p:Nat)(c g:Int)(cs:List Int)(y:ai)(hy:l[p]? =some y)(hcs:∀c∈cs,af l c=true)(hlen:cs.length≤1000)(hks:∀c∈y.kids,af l c=true)(hkl:y.kids.length≤1000):an Tryz.prog 144 [] [Kg l m p c g,cF cs] [] (bB (iR l p g cs)):=by
  have ha:=xo l m p c g cs 2 hcs hlen
  have hb:=xo l m p c g cs 1 hcs hlen
  have hk:=xo l m p c g y.kids 1 hks hkl
  have l1:=yh l g cs 1
  have l2:=yh l g y.kids 1
  have hn:nd l (p:Int)=y:=cz hy
  unfold iR
  rw[hn]
  obtain⟨a1,a2,a3,a4,a5,a6,a7,a8,a9,a10⟩:=y
  simp only at hk hks hkl l2 ⊢
  generalize gU l g cs 2=A at ha ⊢
  generalize gU l g cs 1=B at hb l1 ⊢
  generalize gU l g a7 1=C at hk l2 ⊢
  refine an.aF (rvs:=[.tmp 4]) G au Tryz.func144 rfl Tryz.ntmps144 rfl rfl ?_;with_reducible refine wD ?_
  repeat' (first
    |refine pK ?_
    | ((first
      |((with_reducible show bk _ _ _ _);(refine bk.mk (fun hp=>?_) (fun hp=>?_)<;>(try simp only[ay,bO,dh,Bool.not_eq_true',Bool.not_eq_false',Decidable.not_not,Int.not_lt,Int.not_le] at hp)))
      |((with_reducible show aa _ _ 191 _ _ _ _);first|refine aa.lit [] ha KQ ⟨⟨rfl,rfl,rfl,rfl,rfl,trivial⟩,rfl,rfl,trivial⟩ rfl rfl ?_|refine aa.lit [] hb KQ ⟨⟨rfl,rfl,rfl,rfl,rfl,trivial⟩,rfl,rfl,trivial⟩ rfl rfl ?_|refine aa.lit [] hk KQ ⟨⟨rfl,rfl,rfl,rfl,rfl,trivial⟩,rfl,rfl,trivial⟩ rfl rfl ?_)
      |((with_reducible show aG _ _ _ _ _);refine aG.mk p (az _) rfl (ah hy) ?_))<;>with_reducible refine wK ?_)
    |((with_reducible show(_∧_)∧_∧_);(refine eK ?_ ?_<;>with_reducible repeat' (first|exact trivial|(show _∧_;refine aK ?_ ?_)))))
  all_goals (first|(have hA:¬0<A:=(by omega);have hB:0<B:=(by omega);rw[bY hA,dV hB,Bool.false_or,Bool.true_and];exact(decide_eq_decide.2 (by omega):decide (1<B+C)=decide ((1:Int)< (B:Int)+ (C:Int))))|(simp;omega)|trace_state)
end Go.Proofs.Heir
