/- Models, plain laws and contracts of functions of the given program; conditions as stated in each theorem. By an AI agent. -/
import Derived.Test.YtkhjcnjicjgfiaaGreatDoorW21
import Derived.Test.YtkhjcnjicjgfiaaGreatDoorW22
import Derived.Test.YtkhjcnjicjgfiaaGreatDoorW15
import Derived.Test.YtkhjcnjicjgfiaaGreatDoorW20
import Derived.Test.YtkhjcnjicjgfiaaGreatDoorW12
import Derived.Shelf.Spec.SlicesInsert
import Derived.Shelf.Spec.SlicesInsertGrow
import Derived.Test.YtkhjcnjicjgfiaaGreatDoorProg
import Derived.Shelf.RegionOpenPlain
import Derived.WalkKit
import Derived.IntWalk
import Derived.RangeFuncSeq
import Derived.Deep.RegionLaw
import Derived.Lib.SliceRun
import Derived.Laws.Tables
import Derived.Laws.CopyRow
import Derived.Sort.WalkB12
import Derived.Lib.Overlaps
import Derived.Laws.Externs
import Derived.Laws.IdiomCopy
set_option linter.unusedSimpArgs false
set_option linter.unusedVariables false
namespace Go.Proofs.Heir
open Go Go.Am Go.RowKit Go.Lib
set_option maxRecDepth 100000
set_option maxHeartbeats 8000000
@[reducible] def iV (what : ByteArray) (e : Int) : Value := .iface 178 (.agg #[.string what, .iface 176 (.agg #[.int .i64 e])])
@[reducible] def oM : ByteArray := ⟨#[97, 115, 107, 101, 100]⟩
@[reducible] def xL : ByteArray := ⟨#[101, 108, 101, 109]⟩
@[reducible] def gq : AV := .lit .nilIface
theorem tE (what:ByteArray)(w:World):Calls Tryz.prog 60 #[.string what,.int .i64 0] w fun ev w'=>ev=.returned .nilIface∧w'=w:=by
  go_enter Tryz.func60,Tryz.ntmps60
  go_wp2
  go_ret
  exact⟨rfl,rfl⟩
theorem uN (what:ByteArray)(e:Int)(he:e≠0)(w:World):Calls Tryz.prog 60 #[.string what,.int .i64 e] w fun ev w'=>ev=.returned (iV what e)∧w'=w:=by
  go_enter Tryz.func60,Tryz.ntmps60
  go_wp2
  go_ret
  exact⟨rfl,rfl⟩
theorem k7 (what:ByteArray):aj Tryz.prog 60 [] [cn what,ah 0] [] gq:=
  aj.jY (vs:=[.string what,.int .i64 0]) fun w _=>(tE what w).mono (by rintro e w' ⟨rfl,rfl⟩;exact⟨rfl,Below.refl _ _⟩)
theorem lE (what:ByteArray)(e:Int)(he:e≠0):aj Tryz.prog 60 [] [cn what,ah e] [] (.lit (iV what e)):=
  aj.jY (vs:=[.string what,.int .i64 e]) fun w _=>(uN what e he w).mono (by rintro e w' ⟨rfl,rfl⟩;exact⟨rfl,Below.refl _ _⟩)
theorem nG (f:ForM)(hs:bq f.nodes)(n:Int)(h:(bC f&&af f.nodes n)=true):aj Tryz.prog 77 [] [aN f,ah n] [] gq:=by
  have h17:=th f hs
  have hr:bC f=true:=by simp only[bg] at h;exact h.1
  have ht:af f.nodes n=true:=by simp only[bg] at h;exact h.2
  rw[hr] at h17
  obtain⟨l,m⟩:=f
  simp only at h17 ht
  have hlm:(l.map bM).length=l.length:=bP ..
  have e0:¬n<0:=by unfold af at ht;simp at ht;omega
  have e1:¬ (l.length:Int)≤n:=by unfold af at ht;simp at ht;omega
  refine aj.aA (rvs:=[.tmp 4]) G ak Tryz.func77 rfl Tryz.ntmps77 rfl rfl ?_;with_reducible refine wD ?_
  (have fct:=And.intro hlm (And.intro e0 (e1));(repeat' (first
    |refine gF ?_
    |(((with_reducible show ae _ _ 17 _ _ _ _);refine ae.lit [] h17 Jw ⟨⟨rfl,rfl,trivial⟩,trivial⟩ rfl rfl ?_)<;>with_reducible refine wK ?_)
    |((with_reducible show(_∧_)∧_∧_);(refine eK ?_ ?_<;>with_reducible repeat' (first|exact trivial|(show _∧_;refine aK ?_ ?_))))));all_goals clear fct)
  all_goals rfl
theorem yS (f:ForM)(hs:bq f.nodes)(n:Int)(h:(bC f&&af f.nodes n)=false):aj Tryz.prog 77 [] [aN f,ah n] [] (.lit (iV oM 1)):=by
  have h17:=th f hs
  have h60:=lE oM 1 (by decide)
  obtain⟨l,m⟩:=f
  simp only at h h17
  have hlm:(l.map bM).length=l.length:=bP ..
  cases hr:bC ⟨l,m⟩ with
  | false=>
    rw[hr] at h17
    refine aj.aA (rvs:=[.tmp 4]) G ak Tryz.func77 rfl Tryz.ntmps77 rfl rfl ?_;with_reducible refine wD ?_
    (have fct:=hlm;(repeat' (first
    |refine gF ?_
    | ((first
      |((with_reducible show ae _ _ 17 _ _ _ _);refine ae.lit [] h17 Jw ⟨⟨rfl,rfl,trivial⟩,trivial⟩ rfl rfl ?_)
      |((with_reducible show ae _ _ 60 _ _ _ _);refine ae.lit [] h60 Gv ⟨rfl,rfl,trivial⟩ rfl rfl ?_))<;>with_reducible refine wK ?_)
    |((with_reducible show(_∧_)∧_∧_);(refine eK ?_ ?_<;>with_reducible repeat' (first|exact trivial|(show _∧_;refine aK ?_ ?_))))));all_goals clear fct)
    all_goals rfl
  | true=>
    have ht:af l n=false:=by rw[hr] at h;simpa using h
    rw[hr] at h17
    by_cases e0:n<0
    · refine aj.aA (rvs:=[.tmp 4]) G ak Tryz.func77 rfl Tryz.ntmps77 rfl rfl ?_;with_reducible refine wD ?_
      (have fct:=And.intro hlm (e0);(repeat' (first
    |refine gF ?_
    | ((first
      |((with_reducible show ae _ _ 17 _ _ _ _);refine ae.lit [] h17 Jw ⟨⟨rfl,rfl,trivial⟩,trivial⟩ rfl rfl ?_)
      |((with_reducible show ae _ _ 60 _ _ _ _);refine ae.lit [] h60 Gv ⟨rfl,rfl,trivial⟩ rfl rfl ?_))<;>with_reducible refine wK ?_)
    | ((with_reducible show(_∧_)∧_∧_);(refine eK ?_ ?_<;>with_reducible repeat' (first|exact trivial|(show _∧_;refine aK ?_ ?_))))));all_goals clear fct)
      all_goals rfl
    · have e1:(l.length:Int)≤n:=by unfold af at ht;simp at ht;omega
      refine aj.aA (rvs:=[.tmp 4]) G ak Tryz.func77 rfl Tryz.ntmps77 rfl rfl ?_;with_reducible refine wD ?_
      (have fct:=And.intro hlm (And.intro e0 (e1));(repeat' (first
    |refine gF ?_
    | ((first
      |((with_reducible show ae _ _ 17 _ _ _ _);refine ae.lit [] h17 Jw ⟨⟨rfl,rfl,trivial⟩,trivial⟩ rfl rfl ?_)
      |((with_reducible show ae _ _ 60 _ _ _ _);refine ae.lit [] h60 Gv ⟨rfl,rfl,trivial⟩ rfl rfl ?_))<;>with_reducible refine wK ?_)
    | ((with_reducible show(_∧_)∧_∧_);(refine eK ?_ ?_<;>with_reducible repeat' (first|exact trivial|(show _∧_;refine aK ?_ ?_))))));all_goals clear fct)
      all_goals rfl
theorem Ga (f:ForM)(hs:bq f.nodes)(k:Nat)(y:ai)(hy:f.nodes[k]? =some y)(hr:bC f=true)(hk:y.kind=1):aj Tryz.prog 57 [] [aN f,ah k] [] gq:=by
  have h77:=nG f hs k (by rw[hr,fR hy];rfl)
  obtain⟨l,m⟩:=f
  simp only at h77 hy
  have hkl:k<l.length:=(aZ hy).1
  have hlm:(l.map bM).length=l.length:=bP ..
  obtain⟨y1,y2,y3,y4,y5,y6,y7,y8,y9,y10⟩:=y
  simp only at hk
  subst hk
  refine aj.aA (rvs:=[.tmp 4]) G ak Tryz.func57 rfl Tryz.ntmps57 rfl rfl ?_;with_reducible refine wD ?_
  (have fct:=hlm;(repeat' (first
    |refine gF ?_
    | ((first
      |((with_reducible show ae _ _ 77 _ _ _ _);refine ae.lit [] h77 KS ⟨⟨rfl,rfl,trivial⟩,rfl,trivial⟩ rfl rfl ?_)
      |((with_reducible show aH _ _ _ _ _);refine aH.mk k (aG ⟨1,y2,y3,y4,y5,y6,y7,y8,y9,y10⟩) rfl (az hy) ?_)
      |((with_reducible show bD _ _ _ _ _);first|refine bD.mN true Tryz.underlying98 rfl rfl rfl rfl rfl ?_|refine bD.nr false Tryz.underlying98 rfl rfl rfl rfl rfl ?_))<;>with_reducible refine wK ?_)
    |((with_reducible show(_∧_)∧_∧_);(refine eK ?_ ?_<;>with_reducible repeat' (first|exact trivial|(show _∧_;refine aK ?_ ?_))))));all_goals clear fct)
  all_goals first|rfl|trace_state
theorem Dz (f:ForM)(hs:bq f.nodes)(k:Nat)(y:ai)(hy:f.nodes[k]? =some y)(hr:bC f=true)(hk:y.kind≠1):aj Tryz.prog 57 [] [aN f,ah k] [] (.lit (iV xL 5)):=by
  have h77:=nG f hs k (by rw[hr,fR hy];rfl)
  have h60:=lE xL 5 (by decide)
  obtain⟨l,m⟩:=f
  simp only at h77 hy
  have hkl:k<l.length:=(aZ hy).1
  have hlm:(l.map bM).length=l.length:=bP ..
  obtain⟨y1,y2,y3,y4,y5,y6,y7,y8,y9,y10⟩:=y
  simp only at hk
  have hk:=bB hk
  refine aj.aA (rvs:=[.tmp 4]) G ak Tryz.func57 rfl Tryz.ntmps57 rfl rfl ?_;with_reducible refine wD ?_
  (have fct:=And.intro hlm (hk);(repeat' (first
    |refine gF ?_
    | ((first
      |((with_reducible show ae _ _ 77 _ _ _ _);refine ae.lit [] h77 KS ⟨⟨rfl,rfl,trivial⟩,rfl,trivial⟩ rfl rfl ?_)
      |((with_reducible show ae _ _ 60 _ _ _ _);refine ae.lit [] h60 Gv ⟨rfl,rfl,trivial⟩ rfl rfl ?_)
      |((with_reducible show aH _ _ _ _ _);refine aH.mk k (aG ⟨y1,y2,y3,y4,y5,y6,y7,y8,y9,y10⟩) rfl (az hy) ?_)
      |((with_reducible show bD _ _ _ _ _);first|refine bD.mN true Tryz.underlying98 rfl rfl rfl rfl rfl ?_|refine bD.nr false Tryz.underlying98 rfl rfl rfl rfl rfl ?_))<;>with_reducible refine wK ?_)
    |((with_reducible show(_∧_)∧_∧_);(refine eK ?_ ?_<;>with_reducible repeat' (first|exact trivial|(show _∧_;refine aK ?_ ?_))))));all_goals clear fct)
  all_goals first|rfl|trace_state
theorem HT (f:ForM)(hs:bq f.nodes)(n:Int)(h:(bC f&&af f.nodes n)=false):aj Tryz.prog 57 [] [aN f,ah n] [] (.lit (iV oM 1)):=by
  have h77:=yS f hs n h
  refine aj.aA (rvs:=[.tmp 4]) G ak Tryz.func57 rfl Tryz.ntmps57 rfl rfl ?_;with_reducible refine wD ?_
  repeat' (first
    |refine gK ?_
    | ((first
      |((with_reducible show ae _ _ 77 _ _ _ _);refine ae.lit [] h77 KS ⟨⟨rfl,rfl,trivial⟩,rfl,trivial⟩ rfl rfl ?_)
      |((with_reducible show bD _ _ _ _ _);first|refine bD.mN false Tryz.underlying98 rfl rfl rfl rfl rfl ?_|refine bD.nr true Tryz.underlying98 rfl rfl rfl rfl rfl ?_))<;>with_reducible refine wK ?_)
    |((with_reducible show(_∧_)∧_∧_);(refine eK ?_ ?_<;>with_reducible repeat' (first|exact trivial|(show _∧_;refine aK ?_ ?_)))))
  all_goals first|rfl|trace_state
end Go.Proofs.Heir
namespace Go.Proofs.Heir
open Go Go.Am Go.RowKit Go.Lib
set_option maxRecDepth 100000
set_option maxHeartbeats 8000000
set_option maxHeartbeats 8000000
theorem He {l:List AttrM}{n:ByteArray}(hr:c6 l=true)(hn:cm n=true){k:Nat}{a:AttrM}(h:l[k]? =some a)(e:a.name=dQ n):eW l n=k:=by
  rw[qw hr hn,←e];exact sM (xD hr) h
theorem wA {l:List AttrM}{n v:ByteArray}(h:(eV l n v).2=0):(c6 l=true∧cm n=true∧v.size≤200)∧((∃ (k:Nat) (o:AttrM),eW l n=k∧l[k]? =some o∧o.name=dQ n∧(eV l n v).1=l.set k ⟨dQ n,v⟩)∨(¬0≤eW l n∧l.length≠40∧(eV l n v).1=l++ [⟨dQ n,v⟩])):=by
  unfold eV at h ⊢
  by_cases hE:pq l n=0
  · obtain⟨h1,h2,_⟩:=oS hE
    rw[if_pos hE] at h ⊢
    by_cases hv:v.size≤200
    · rw [if_pos hv] at h ⊢
      refine⟨⟨h1,h2,hv⟩,?_⟩
      by_cases hP:0≤eW l n
      · rw[if_pos hP]
        rcases nE l n with e|⟨k,o,e1,e2,e3⟩
        ·omega
        ·exact .inl ⟨k,o,e1,e2,e3,by rw[e1,Int.toNat_natCast]⟩
      · rw[if_neg hP] at h ⊢
        by_cases hl:l.length=40
        ·rw[if_pos hl] at h;cases h
        ·rw[if_neg hl];exact .inr ⟨hP,hl,rfl⟩
    ·rw[if_neg hv] at h;cases h
  ·rw[if_neg hE] at h;exact absurd h hE
theorem J2 {l:List AttrM}{n v:ByteArray}(h:(eV l n v).2=0):∃k:Nat,(eV l n v).1[k]? =some ⟨dQ n,v⟩:=by
  rcases(wA h).2 with⟨k,o,_,h2,_,h4⟩|⟨_,_,h4⟩
  · have:=(aZ h2).1
    exact⟨k,by rw[h4,List.getElem?_set,if_pos rfl,if_pos this]⟩
  ·exact⟨l.length,by rw[h4,List.getElem?_append_right (Nat.le_refl _),Nat.sub_self];rfl⟩
section
variable {l l' : List ai} {m : Int}
end
end Go.Proofs.Heir
namespace Go.Proofs.Heir
open Go Go.Am Go.RowKit Go.Lib
set_option maxRecDepth 100000
set_option maxHeartbeats 8000000
set_option maxHeartbeats 2000000
section
variable {l l' : List ai} {m : Int}
end
end Go.Proofs.Heir
namespace Go.Proofs.Heir
open Go Go.Am Go.RowKit Go.Lib
set_option maxRecDepth 100000
set_option maxHeartbeats 8000000
@[reducible] def FX : ByteArray := ⟨#[115, 101, 116]⟩
theorem v8 (xs:List AttrM)(e:Int):bG (.tup [cO xs,ah e])=true:=by
  have:=kD xs
  simp[bG,bz,this]
theorem wh {l:List AttrM}{s v:ByteArray}(he:(eV l s v).2=0):0≤eW (eV l s v).1 s:=by
  obtain⟨k,hk⟩:=J2 he
  have h1:=(Kw he).2
  have h2:=(wA he).1.2.1
  rw[He h1.right h2 hk rfl]
  omega
theorem Hg (l:List ai)(m:Int)(hs:bq l)(k:Nat)(y:ai)(hy:l[k]? =some y)(s v:ByteArray)(hs3:s.size≤100000)(he:(eV y.attrs s v).2=0):
    aj Tryz.prog 58 [aT m l.length 1 lF,ef l] [.ptr 0 0 0,.fptr (ah k) 0,.fptr (cn s) 0,.fptr (cn v) 0]
      [aT m l.length 1 (.own 2 0 1),ef (uV l k (eV y.attrs s v).1),.live 9 [dN (xb y k s (eV y.attrs s v).1)] false] gq:=by
  have hl:=hs.attrs y (bV hy)
  have hkl:k<l.length:=(aZ hy).1
  have hlm:(l.map bM).length=l.length:=bP ..
  have h59:=E0 y.attrs (by omega) s v
  have h61:=AX l m hs k y hy s hs3 (eV y.attrs s v).1 (by have:=D6 y.attrs s v;omega) (.inr (wh he))
  rw[he] at h59
  have ha:(uV l k (eV y.attrs s v).1).length=l.length:=xU ..
  generalize uV l k (eV y.attrs s v).1=l' at h61 ha ⊢
  generalize xb y k s (eV y.attrs s v).1=x at h61 ⊢
  obtain⟨y1,y2,y3,y4,y5,y6,y7,y8,y9,y10⟩:=y
  simp only at*
  refine aj.fW [(2,311)] (rvs:=[.tmp 5]) G ak Tryz.func58 rfl Tryz.ntmps58 rfl rfl ?_;with_reducible refine wD ?_
  repeat' (first
    |refine gK ?_
    | ((first
      |((with_reducible show ae _ _ 59 _ _ _ _);refine ae.val [] h59 Nc ⟨rfl,rfl,rfl,trivial⟩ rfl rfl (v8 _ _) ?_)
      |((with_reducible show fM _ _ _ _ _);refine fM.mk k rfl hkl ?_)
      |((with_reducible show bu _ _ _ _ _);first|refine bu.mk (aG ⟨y1,y2,y3,y4,y5,y6,y7,y8,y9,y10⟩) (by first|exact az hy|(rw[Nat.zero_add];exact az hy)) ?_|refine bu.mk _ rfl ?_)
      |((with_reducible show ae _ _ 61 _ _ _ _);refine ae.dy (news:=[aT m l.length 1 (.own 311 0 1),ef l',.live 9 [dN x] false]) [0,1,311] [] h61 Nk ⟨⟨rfl,rfl⟩,rfl,rfl,rfl,trivial⟩ ⟨⟨rfl,.inr ⟨⟨⟨⟨rfl,rfl⟩,rfl,.inl rfl,trivial⟩,trivial⟩,rfl⟩⟩,⟨rfl,.inl ⟨rfl,aQ _⟩⟩,trivial⟩ rfl ⟨⟨rfl,rfl⟩,rfl⟩ rfl ⟨⟨rfl,.inr ⟨rfl,rfl,rfl⟩⟩,⟨rfl,.inl ⟨rfl,aQ _⟩⟩,⟨rfl,.inl ⟨rfl,rfl⟩⟩,trivial⟩ rfl rfl ?_)
      |((with_reducible show aB _ _ _ _);refine dK ?_))<;>with_reducible refine wK ?_)
    |((with_reducible show(_∧_)∧_∧_);(refine eK ?_ ?_<;>with_reducible repeat' (first|exact trivial|(show _∧_;refine aK ?_ ?_)))))
  all_goals first
    |rfl
    |exact⟨.refl rfl,rfl⟩
    |exact(.inl rfl:rY _)
    |exact⟨.refl (aQ _),aQ _⟩
    |trace_state
theorem Ea (l:List ai)(m:Int)(hs:bq l)(k:Nat)(y:ai)(hy:l[k]? =some y)(s v:ByteArray)(hs3:s.size≤100000)(he:(eV y.attrs s v).2≠0):
    aj Tryz.prog 58 [aT m l.length 1 lF,ef l] [.ptr 0 0 0,.fptr (ah k) 0,.fptr (cn s) 0,.fptr (cn v) 0]
      [aT m l.length 1 lF,ef l] (.lit (iV FX (eV y.attrs s v).2)):=by
  have hl:=hs.attrs y (bV hy)
  have hkl:k<l.length:=(aZ hy).1
  have hlm:(l.map bM).length=l.length:=bP ..
  have h59:=E0 y.attrs (by omega) s v
  have h60:=lE FX (eV y.attrs s v).2 he
  have hd:=bB he
  generalize(eV y.attrs s v).2=e at h59 h60 hd he ⊢
  obtain⟨y1,y2,y3,y4,y5,y6,y7,y8,y9,y10⟩:=y
  simp only at*
  refine aj.fW [] (rvs:=[.tmp 5]) G ak Tryz.func58 rfl Tryz.ntmps58 rfl rfl ?_;with_reducible refine wD ?_
  (have fct:=hd;(repeat' (first
    |refine gF ?_
    | ((first
      |((with_reducible show ae _ _ 59 _ _ _ _);refine ae.val [] h59 Nc ⟨rfl,rfl,rfl,trivial⟩ rfl rfl (v8 _ _) ?_)
      |((with_reducible show fM _ _ _ _ _);refine fM.mk k rfl hkl ?_)
      |((with_reducible show bu _ _ _ _ _);first|refine bu.mk (aG ⟨y1,y2,y3,y4,y5,y6,y7,y8,y9,y10⟩) (by first|exact az hy|(rw[Nat.zero_add];exact az hy)) ?_|refine bu.mk _ rfl ?_)
      |((with_reducible show ae _ _ 60 _ _ _ _);refine ae.lit [] h60 Gv ⟨rfl,rfl,trivial⟩ rfl rfl ?_)
      |((with_reducible show aB _ _ _ _);refine dK ?_))<;>with_reducible refine wK ?_)
    |((with_reducible show(_∧_)∧_∧_);(refine eK ?_ ?_<;>with_reducible repeat' (first|exact trivial|(show _∧_;refine aK ?_ ?_))))));all_goals clear fct)
  all_goals first
    |rfl
    |exact⟨.refl rfl,rfl⟩
    |exact(.inl rfl:rY _)
    |exact⟨.refl (aQ _),aQ _⟩
    |trace_state
theorem kY {m:ML}{fz:Nat→Bool}{tab:List (Nat×Nat)}{n t len wd:Nat}{ro:Bool}{rows rows':List AV}(h1:eM m t=.live wd rows ro)(h2:fz t=true)(h3:rows=rows')(h4:len=rows'.length)(h5:bz rows'=true):xq m fz (MF tab fz m n) (.sl wd rows') t 0 len:=by
  subst h3;subst h4
  exact .cut h1 h2 (by omega) (by rw[List.drop_zero,qV (by omega)]) h5
@[reducible] def mD (l : List aO) : AV := .sl 9 (l.map dN)
theorem CS (f:ForM)(hs:bq f.nodes)(g:Nat)(cg:au Tryz.prog g)(caps:List AV)(hcaps:bz caps=true)(l':List ai)(x:aO)(hl:l'.length=f.nodes.length)(hg:aj Tryz.prog g [aT f.most f.nodes.length 1 lF,ef f.nodes] (.ptr 0 0 0::caps) [aT f.most f.nodes.length 1 (.own 2 0 1),ef l',.live 9 [dN x] false] gq):
    aj Tryz.prog 56 [] [aN f,gq,.clo (.func g) [] caps] [] (.tup [aN ⟨l',f.most⟩,mD [x],ah 0]):=by
  have h121:=xM f hs
  have hlm:(l'.map bM).length=f.nodes.length:=by rw[bP,hl]
  obtain⟨l,m⟩:=f
  simp only at*
  refine aj.aA (rvs:=[.cell 6 24,.tmp 7,.tmp 8]) G ak Tryz.func56 rfl Tryz.ntmps56 rfl rfl ?_;with_reducible refine wD ?_
  repeat' (first
    |refine gK ?_
    | ((first
      |((with_reducible show ae _ _ 121 _ _ _ _);refine ae.dy (news:=[aT m l.length 111 lF,ef l]) [110,111] [] h121 Ek ⟨⟨rfl,rfl,trivial⟩,trivial⟩ trivial rfl ⟨⟨rfl,rfl⟩,rfl⟩ rfl ⟨⟨rfl,.inr ⟨rfl,rfl,rfl⟩⟩,⟨rfl,.inl ⟨rfl,aQ _⟩⟩,trivial⟩ rfl rfl ?_)
      |((with_reducible show bD _ _ _ _ _);first|refine bD.mN true Tryz.underlying98 rfl rfl rfl rfl rfl ?_|refine bD.mN false Tryz.underlying98 rfl rfl rfl rfl rfl ?_|refine bD.nr false Tryz.underlying98 rfl rfl rfl rfl rfl ?_|refine bD.nr true Tryz.underlying98 rfl rfl rfl rfl rfl ?_)
      |((with_reducible show ae _ _ 122 _ _ _ _);refine ae.lit [] h122 JY ⟨⟨rfl,rfl⟩,trivial⟩ rfl rfl ?_)
      |((with_reducible show ae _ _ _ _ _ _ _);refine ae.dy (news:=[aT m l.length 111 (.own 161 0 1),ef l',.live 9 [dN x] false]) [110,111,161] [] hg cg ⟨⟨rfl,rfl⟩,cq hcaps⟩ ⟨⟨rfl,.inr ⟨⟨⟨⟨rfl,rfl⟩,rfl,.inl rfl,trivial⟩,trivial⟩,rfl⟩⟩,⟨rfl,.inl ⟨rfl,aQ _⟩⟩,trivial⟩ rfl ⟨⟨rfl,rfl⟩,rfl⟩ rfl ⟨⟨rfl,.inr ⟨rfl,rfl,rfl⟩⟩,⟨rfl,.inl ⟨rfl,aQ _⟩⟩,⟨rfl,.inl ⟨rfl,rfl⟩⟩,trivial⟩ rfl rfl ?_)
      |((with_reducible show aB _ _ _ _);refine dK ?_))<;>with_reducible refine wK ?_)
    |((with_reducible show(_∧_)∧_∧_);(refine eK ?_ ?_<;>with_reducible repeat' (first|exact trivial|(show _∧_;refine aK ?_ ?_)))))
  all_goals first
    |rfl
    |exact kY rfl rfl rfl hlm.symm (aQ _)
    |exact kY rfl rfl rfl rfl rfl
    |exact⟨.refl rfl,rfl⟩
    |exact(.inl rfl:rY _)
    |exact .inr (.inr ⟨9,rfl⟩)
    |trace_state
theorem zT (f:ForM)(hs:bq f.nodes)(g:Nat)(cg:au Tryz.prog g)(caps:List AV)(hcaps:bz caps=true)(what:ByteArray)(e:Int)(hg:aj Tryz.prog g [aT f.most f.nodes.length 1 lF,ef f.nodes] (.ptr 0 0 0::caps) [aT f.most f.nodes.length 1 lF,ef f.nodes] (.lit (iV what e))):
    aj Tryz.prog 56 [] [aN f,gq,.clo (.func g) [] caps] [] (.tup [aN f,mD [],ah e]):=by
  have h121:=xM f hs
  have h122:=E4 what e
  obtain⟨l,m⟩:=f
  simp only at*
  refine aj.aA (rvs:=[.cell 6 24,.tmp 7,.tmp 8]) G ak Tryz.func56 rfl Tryz.ntmps56 rfl rfl ?_;with_reducible refine wD ?_
  repeat' (first
    |refine gK ?_
    | ((first
      |((with_reducible show ae _ _ 121 _ _ _ _);refine ae.dy (news:=[aT m l.length 111 lF,ef l]) [110,111] [] h121 Ek ⟨⟨rfl,rfl,trivial⟩,trivial⟩ trivial rfl ⟨⟨rfl,rfl⟩,rfl⟩ rfl ⟨⟨rfl,.inr ⟨rfl,rfl,rfl⟩⟩,⟨rfl,.inl ⟨rfl,aQ _⟩⟩,trivial⟩ rfl rfl ?_)
      |((with_reducible show bD _ _ _ _ _);first|refine bD.mN true Tryz.underlying98 rfl rfl rfl rfl rfl ?_|refine bD.mN false Tryz.underlying98 rfl rfl rfl rfl rfl ?_|refine bD.nr false Tryz.underlying98 rfl rfl rfl rfl rfl ?_|refine bD.nr true Tryz.underlying98 rfl rfl rfl rfl rfl ?_)
      |((with_reducible show ae _ _ 122 _ _ _ _);refine ae.lit [] h122 JY ⟨⟨rfl,rfl⟩,trivial⟩ rfl rfl ?_)
      |((with_reducible show ae _ _ _ _ _ _ _);refine ae.dy (news:=[aT m l.length 111 lF,ef l]) [110,111] [] hg cg ⟨⟨rfl,rfl⟩,cq hcaps⟩ ⟨⟨rfl,.inr ⟨⟨⟨⟨rfl,rfl⟩,rfl,.inl rfl,trivial⟩,trivial⟩,rfl⟩⟩,⟨rfl,.inl ⟨rfl,aQ _⟩⟩,trivial⟩ rfl ⟨⟨rfl,rfl⟩,rfl⟩ rfl ⟨⟨rfl,.inr ⟨rfl,rfl,rfl⟩⟩,⟨rfl,.inl ⟨rfl,aQ _⟩⟩,trivial⟩ rfl rfl ?_)
      |((with_reducible show aB _ _ _ _);refine dK ?_))<;>with_reducible refine wK ?_)
    |((with_reducible show(_∧_)∧_∧_);(refine eK ?_ ?_<;>with_reducible repeat' (first|exact trivial|(show _∧_;refine aK ?_ ?_)))))
  all_goals first
    |rfl
    |exact kY rfl rfl rfl hlm.symm (aQ _)
    |exact kY rfl rfl rfl rfl rfl
    |exact⟨.refl rfl,rfl⟩
    |exact(.inl rfl:rY _)
    |exact .inr (.inr ⟨9,rfl⟩)
    |trace_state
theorem mM (f:ForM)(hs:bq f.nodes)(g:Nat)(caps:List AV)(what:ByteArray)(e:Int)                   :
    aj Tryz.prog 56 [] [aN f,.lit (iV what e),.clo (.func g) [] caps] [] (.tup [aN f,mD [],ah e]):=by
  have h121:=xM f hs
  have h122:=E4 what e
  obtain⟨l,m⟩:=f
  simp only at*
  refine aj.aA (rvs:=[.cell 6 24,.tmp 7,.tmp 8]) G ak Tryz.func56 rfl Tryz.ntmps56 rfl rfl ?_;with_reducible refine wD ?_
  repeat' (first
    |refine gK ?_
    | ((first
      |((with_reducible show ae _ _ 121 _ _ _ _);refine ae.dy (news:=[aT m l.length 111 lF,ef l]) [110,111] [] h121 Ek ⟨⟨rfl,rfl,trivial⟩,trivial⟩ trivial rfl ⟨⟨rfl,rfl⟩,rfl⟩ rfl ⟨⟨rfl,.inr ⟨rfl,rfl,rfl⟩⟩,⟨rfl,.inl ⟨rfl,aQ _⟩⟩,trivial⟩ rfl rfl ?_)
      |((with_reducible show bD _ _ _ _ _);first|refine bD.mN true Tryz.underlying98 rfl rfl rfl rfl rfl ?_|refine bD.mN false Tryz.underlying98 rfl rfl rfl rfl rfl ?_|refine bD.nr false Tryz.underlying98 rfl rfl rfl rfl rfl ?_|refine bD.nr true Tryz.underlying98 rfl rfl rfl rfl rfl ?_)
      |((with_reducible show ae _ _ 122 _ _ _ _);refine ae.lit [] h122 JY ⟨⟨rfl,rfl⟩,trivial⟩ rfl rfl ?_)
      |((with_reducible show aB _ _ _ _);refine dK ?_))<;>with_reducible refine wK ?_)
    |((with_reducible show(_∧_)∧_∧_);(refine eK ?_ ?_<;>with_reducible repeat' (first|exact trivial|(show _∧_;refine aK ?_ ?_)))))
  all_goals first
    |rfl
    |exact kY rfl rfl rfl hlm.symm (aQ _)
    |exact kY rfl rfl rfl rfl rfl
    |exact⟨.refl rfl,rfl⟩
    |exact(.inl rfl:rY _)
    |exact .inr (.inr ⟨9,rfl⟩)
    |trace_state
theorem bN (f:ForM)(ns:List aO)(e:Int):bG (.tup [aN f,mD ns,ah e])=true:=by
  have h1:=aQ f.nodes
  have h2:bz (ns.map dN)=true:=gJ dN (fun _=>rfl) _
  simp[bG,bz,h1,h2]
theorem Bt (f:ForM)(n:Int)(s v:ByteArray)          (r:ForM)(ns:List aO)(z:Int)(h57:aj Tryz.prog 57 [] [aN f,ah n] [] gq)
    (h56:aj Tryz.prog 56 [] [aN f,gq,.clo (.func 58) [] [.fptr (ah n) 0,.fptr (cn s) 0,.fptr (cn v) 0]] [] (.tup [aN r,mD ns,ah z])):aj Tryz.prog 18 [] [aN f,ah n,cn s,cn v] [] (.tup [aN r,mD ns,ah z]):=by
  obtain⟨l,m⟩:=f
  obtain⟨l',m'⟩:=r
  have hn:=bN ⟨l',m'⟩ ns z
  refine aj.aA (rvs:=[.cell 8 24,.tmp 9,.tmp 10]) G ak Tryz.func18 rfl Tryz.ntmps18 rfl rfl ?_;with_reducible refine wD ?_
  repeat' (first
    |refine gK ?_
    | ((first
      |((with_reducible show ae _ _ 57 _ _ _ _);refine ae.lit [] h57 M0 ⟨⟨rfl,rfl,trivial⟩,rfl,trivial⟩ rfl rfl ?_)
      |((with_reducible show ae _ _ 56 _ _ _ _);refine ae.val [50,60,70] h56 HA ⟨⟨rfl,rfl,trivial⟩,⟨rfl,rfl⟩,⟨rfl,trivial,⟨_,_,_,_,_,rfl,rfl,rfl,rfl,rfl,rfl⟩,⟨_,_,_,_,_,rfl,rfl,rfl,rfl,rfl,rfl⟩,⟨_,_,_,_,_,rfl,rfl,rfl,rfl,rfl,rfl⟩,trivial⟩,trivial⟩ rfl rfl hn ?_)
      |((with_reducible show aB _ _ _ _);refine dK ?_))<;>with_reducible refine wK ?_)
    |((with_reducible show(_∧_)∧_∧_);(refine eK ?_ ?_<;>with_reducible repeat' (first|exact trivial|(show _∧_;refine aK ?_ ?_)))))
  all_goals first|rfl|trace_state
theorem Bv (f:ForM)(n:Int)(s v:ByteArray)(what:ByteArray)(e:Int)(r:ForM)(ns:List aO)(z:Int)(h57:aj Tryz.prog 57 [] [aN f,ah n] [] (.lit (iV what e)))
    (h56:aj Tryz.prog 56 [] [aN f,(.lit (iV what e)),.clo (.func 58) [] [.fptr (ah n) 0,.fptr (cn s) 0,.fptr (cn v) 0]] [] (.tup [aN r,mD ns,ah z])):aj Tryz.prog 18 [] [aN f,ah n,cn s,cn v] [] (.tup [aN r,mD ns,ah z]):=by
  obtain⟨l,m⟩:=f
  obtain⟨l',m'⟩:=r
  have hn:=bN ⟨l',m'⟩ ns z
  refine aj.aA (rvs:=[.cell 8 24,.tmp 9,.tmp 10]) G ak Tryz.func18 rfl Tryz.ntmps18 rfl rfl ?_;with_reducible refine wD ?_
  repeat' (first
    |refine gK ?_
    | ((first
      |((with_reducible show ae _ _ 57 _ _ _ _);refine ae.lit [] h57 M0 ⟨⟨rfl,rfl,trivial⟩,rfl,trivial⟩ rfl rfl ?_)
      |((with_reducible show ae _ _ 56 _ _ _ _);refine ae.val [50,60,70] h56 HA ⟨⟨rfl,rfl,trivial⟩,⟨rfl,rfl⟩,⟨rfl,trivial,⟨_,_,_,_,_,rfl,rfl,rfl,rfl,rfl,rfl⟩,⟨_,_,_,_,_,rfl,rfl,rfl,rfl,rfl,rfl⟩,⟨_,_,_,_,_,rfl,rfl,rfl,rfl,rfl,rfl⟩,trivial⟩,trivial⟩ rfl rfl hn ?_)
      |((with_reducible show aB _ _ _ _);refine dK ?_))<;>with_reducible refine wK ?_)
    |((with_reducible show(_∧_)∧_∧_);(refine eK ?_ ?_<;>with_reducible repeat' (first|exact trivial|(show _∧_;refine aK ?_ ?_)))))
  all_goals first|rfl|trace_state
theorem JD (f:ForM)(hs:bq f.nodes)(n:Int)(s v:ByteArray)(hs3:s.size≤100000):aj Tryz.prog 18 [] [aN f,ah n,cn s,cn v] [] (.tup [aN (rQ f n s v).1,mD (rQ f n s v).2.1,ah (rQ f n s v).2.2]):=by
  cases ht:(bC f&&af f.nodes n) with
  | false=>
    have e:rQ f n s v=(f,[],1):=by unfold rQ tY;rw[ht];rfl
    rw[e]
    exact Bv f n s v oM 1 f [] 1 (HT f hs n ht) (mM f hs 58 _ oM 1)
  | true =>
    simp only[bg] at ht
    obtain⟨hr,ht⟩:=ht
    obtain⟨k,y,rfl,hy,_⟩:=aI.1 ht
    have hnd:=cI hy
    by_cases hk:y.kind=1
    · have he0:tY f k=0:=by unfold tY;rw[hr,ht,hnd,hk];rfl
      have h57:=Ga f hs k y hy hr hk
      by_cases he:(eV y.attrs s v).2=0
      · have e:rQ f k s v=(⟨uV f.nodes k (eV y.attrs s v).1,f.most⟩,[xb y k s (eV y.attrs s v).1],0):=by
          unfold rQ;rw[he0,hnd];simp only[he,ne_eq,not_true,if_false]
          unfold Ca CC;rw[hnd,if_pos (.inr (wh he))]
        rw[e]
        exact Bt f k s v _ _ _ h57 (CS f hs 58 Nf _ rfl _ _ (xU ..) (Hg f.nodes f.most hs k y hy s v hs3 he))
      · have e:rQ f k s v=(f,[],(eV y.attrs s v).2):=by
          unfold rQ;rw[he0,hnd];simp[he]
        rw[e]
        exact Bt f k s v _ _ _ h57 (zT f hs 58 Nf _ rfl FX _ (Ea f.nodes f.most hs k y hy s v hs3 he))
    · have e:rQ f k s v=(f,[],5):=by
        have:tY f k=5:=by unfold tY;rw[hr,ht,hnd];simp[hk]
        unfold rQ;rw[this];rfl
      rw[e]
      exact Bv f k s v xL 5 f [] 5 (Dz f hs k y hy hr hk) (mM f hs 58 _ xL 5)
theorem G4 (l:List ai)(k:Nat)(x:ai):(l.map bM).set (0+k) (bM x)=(l.set k x).map bM:=by rw[Nat.zero_add,List.map_set]
theorem zm (f:ForM)(h60:f.nodes.length≤64)(hl1:1≤f.nodes.length)(k:Nat)(hk:k<f.nodes.length)(x:ai):aj Tryz.prog 156 [] [aN f,ah k,aG x] [] (aN ⟨f.nodes.set k x,f.most⟩):=by
  have hlm:(f.nodes.map bM).length=f.nodes.length:=bP ..
  have hrow:=G4 f.nodes k x
  have hln:((f.nodes.set k x).map bM).length=f.nodes.length:=by rw[bP,List.length_set]
  obtain⟨y,hy⟩:∃y,f.nodes[k]? =some y:=⟨_,bH hk⟩
  obtain⟨y1,y2,y3,y4,y5,y6,y7,y8,y9,y10⟩:=y
  obtain⟨l,m⟩:=f
  obtain⟨x1,x2,x3,x4,x5,x6,x7,x8,x9,x10⟩:=x
  simp only at*
  refine aj.aA (rvs:=[.cell 6 24]) G ak Tryz.func156 rfl Tryz.ntmps156 rfl rfl ?_;with_reducible refine wD ?_
  (have fct:=hlm;(repeat' (first
    |refine gF ?_
    | ((first
      |((with_reducible show dO _ _ _ _ _ _ _ _ _ _);refine dO.mk [] (l.map bM) ⟨rfl,rfl,rfl⟩ ⟨rfl,rfl,rfl⟩ (vR l) (by simp;omega) (by simp;omega) ?_)
      |((with_reducible show fM _ _ _ _ _);refine fM.mk k rfl (by first|exact hk|(simp;omega)) ?_)
      |((with_reducible show bu _ _ _ _ _);refine bu.mk (aG ⟨y1,y2,y3,y4,y5,y6,y7,y8,y9,y10⟩) (by simpa using az hy) ?_)
      |((with_reducible show aB _ _ _ _);refine dK ?_))<;>with_reducible refine wK ?_)
    |((with_reducible show(_∧_)∧_∧_);(refine eK ?_ ?_<;>with_reducible repeat' (first|exact trivial|(show _∧_;refine aK ?_ ?_))))));all_goals clear fct)
  all_goals first
    |exact kY rfl rfl (by rw[List.nil_append];exact hrow) (by simp) (aQ _)
    |trace_state
theorem sD (f:ForM)(hs:bq f.nodes)(hl1:1≤f.nodes.length)(k:Nat)(hk:k<f.nodes.length)(x:ai):aj Tryz.prog 156 [] [aN f,ah k,aG x] [] (aN ⟨f.nodes.set k x,f.most⟩):=zm f hs.len hl1 k hk x
@[reducible] def kU (f : ForM) (ns : List aO) : AV := .agg [oU f.nodes, ah f.most, mD ns]
theorem lH (f:ForM):bG (aN f)=true:=by
  have h1:=aQ f.nodes
  simp[bG,bz,h1]
theorem dX (f:ForM)(ns:List aO):bG (kU f ns)=true:=by
  have h1:=aQ f.nodes
  have h2:bz (ns.map dN)=true:=gJ dN (fun _=>rfl) _
  simp[bG,bz,h1,h2]
end Go.Proofs.Heir
namespace Go.Proofs
open Go.Shelf
def Tryz.zS:Go.Shelf.Ren:=⟨fun|21=>140|27=>189|28=>190|35=>214|39=>228|n=>n,fun|22=>33|3=>3|4=>4|0=>0|n=>n,fun|n=>n⟩
theorem Tryz.Cz:Go.Proofs.Lays2.n21 Tryz.prog Tryz.zS:={
  mixed:=by kernel_rfl
  f21:=Tryz.func140.trans (congrArg some (by kernel_rfl))
  f27:=Tryz.func189.trans (congrArg some (by kernel_rfl))
  f28:=Tryz.func190.trans (congrArg some (by kernel_rfl))
  f35:=Tryz.func214.trans (congrArg some (by kernel_rfl))
  f39:=Tryz.func228.trans (congrArg some (by kernel_rfl))
  t0:=Tryz.underlying0
  a0:=Tryz.isAgg0
  z0:=Tryz.sizeOf0
  v0:=Tryz.zeroValue0
  t3:=Tryz.underlying3
  a3:=Tryz.isAgg3
  z3:=Tryz.sizeOf3
  v3:=Tryz.zeroValue3
  t4:=Tryz.underlying4
  a4:=Tryz.isAgg4
  z4:=Tryz.sizeOf4
  v4:=Tryz.zeroValue4
  t22:=Tryz.underlying33
  a22:=Tryz.isAgg33
  z22:=Tryz.sizeOf33
  v22:=Tryz.zeroValue33
  i3:=by kernel_rfl}
end Go.Proofs
namespace Go.Proofs.Heir
open Go.Am Go.RowKit Go.Lib
set_option maxRecDepth 100000
set_option maxHeartbeats 8000000
theorem AD (w:World)(ty:TypeId)(b o n c:Nat)(e:TypeId)(C:Array Value)(h:w.heap[b]? =some (.cells C e (0,0)))(hn:0<n)(hl:o+n≤C.size):
    ∃C',(Builtin.clear_ #[33] ty #[.slice (some ⟨b,o,none⟩) n c]).run Tryz.prog w=.ok (.tuple #[]) (w.setRow b C')∧C'.size=C.size∧∀q,q<o→C'[q]? =C[q]? :=by
  obtain⟨Z,hZ⟩:∃Z:List Value,(Builtin.zeroCells (Value.int .i64 0).cells n).toList=Z:=⟨_,rfl⟩
  have hsz:Z.length=n:=by
    rw[←hZ,Array.length_toList,size_zeroCells];exact Nat.mul_one n
  have hone:∀v∈Z,v.oneCell'=true:=by
    intro v hv
    rw[←hZ,Array.mem_toList_iff,Builtin.zeroCells,Array.mem_map] at hv
    obtain⟨i,_,rfl⟩:=hv
    show(#[Value.int .i64 0][i%1]!).oneCell'=true
    rw[Nat.mod_one];rfl
  have hst:=run_storeCells_at (P:=Tryz.prog) b o e Z 0 C w h (by rw[hsz];omega) hone
  rw[Nat.add_zero] at hst
  refine⟨(C.toList.take o++Z++C.toList.drop (o+Z.length)).toArray,?_,?_,?_⟩
  · obtain⟨m,rfl⟩:∃m,n=m+1:=⟨n-1,by omega⟩
    have hu:=Tryz.underlying33
    have hz:=Tryz.zeroValue3
    simp[Builtin.clear_,run_underlying hu,hz,hZ,hst]
  ·simp[hsz];omega
  · intro q hq
    simp only[List.getElem?_toArray]
    rw[List.append_assoc,List.getElem?_append_left (by simp;omega),List.getElem?_take,if_pos hq,Array.getElem?_toList]
theorem Bg (blk off cap n i j:Nat)(C:Array Value)(e:TypeId)(w:World)(hC:w.heap[blk]? =some (.cells C e (0,0)))(hfit:off+cap≤C.size)(hn:n≤cap)(hij:i<j)(hj:j≤n)
    (hone:∀q v,q<n→C[off+q]? =some v→v.oneCell'=true):
    Calls Tryz.prog 145 #[.slice (some ⟨blk,off,none⟩) n cap,.int .i64 i,.int .i64 j] w fun e' w'=>e'=.returned (.slice (some ⟨blk,off,none⟩) (i+ (n-j)) cap)∧
      ∃C',w'=w.drew.setRow blk C'∧C'.size=C.size∧∀q,q< (i+ (n-j))→C'[off+q]? =if q<i then C[off+q]? else C[off+q+ (j-i)]? :=by
  obtain⟨news,hnews⟩:∃news,news=(C.toList.drop (off+j)).take ((n-j)):=⟨_,rfl⟩
  have hCl:C.toList.length=C.size:=Array.length_toList
  have hlen:news.length=(n-j):=by rw[hnews,gd,List.length_drop,hCl];omega
  have hget:∀t,t< (n-j)→news[t]? =C[off+j+t]? :=by
    intro t ht
    rw[hnews,List.getElem?_take,if_pos ht,List.getElem?_drop,Array.getElem?_toList]
  have hcell:∀q,w.drew.cell? ⟨blk,q,none⟩=C[q]? :=fun q=>by
    show w.cell? _=_
    simp[World.cell?,hC]
  obtain ⟨A,hA,hsrc⟩:∃A:Addr,(if cap=j then some (⟨blk,off,none⟩:Addr) else some ⟨blk,off+j,none⟩)=some A∧Hid (∀t u,news[t]? =some u→w.drew.cell? (A.add t)=some u):=by
    by_cases h:cap=j
    · refine⟨⟨blk,off,none⟩,by simp[h],fun t u hu=>?_⟩
      have h0:news.length=0:=by rw[hlen];omega
      rw[pV.1 h0] at hu
      simp at hu
    · refine⟨⟨blk,off+j,none⟩,by simp[h],fun t u hu=>?_⟩
      have ht:t< (n-j):=by
        have:=(aZ hu).1
        rwa [hlen] at this
      rw[hget t ht] at hu
      rw[Addr.add_lit,hcell]
      exact hu
  have s1:Hid (news.length=(n-j)):=hlen
  have s2:Hid (∀u∈news,u.oneCell'=true):=by
    intro u hu
    obtain⟨t,ht⟩:=List.getElem?_of_mem hu
    have hlt:=(aZ ht).1
    rw[hlen] at hlt
    rw[hget t hlt,Nat.add_assoc] at ht
    exact hone _ u (by omega) ht
  have s3:Hid (∀t,t<news.length→(w.drew.cell? ⟨blk,off+i+t,none⟩).isSome=true∧w.drew.frozen? ⟨blk,off+i+t,none⟩=false):=by
    intro t ht
    rw[hlen] at ht
    refine⟨?_,?_⟩
    ·rw[hcell,Array.getElem?_eq_getElem (by omega)];rfl
    · show w.frozen? _=false
      simp[World.frozen?,hC]
  obtain⟨C1,hC1,hC1s,hC1q⟩:=gr blk e (0,0) news (off+i) C w.drew hC (by rw[hlen];omega)
  obtain⟨W1,hW1⟩:∃W1,W1=w.drew.setCells blk (off+i) news:=⟨_,rfl⟩
  have hW1h:W1.heap[blk]? =some (.cells C1 e (0,0)):=by rw[hW1,hC1];exact setRow_heap w.drew blk C C1 e (0,0) hC
  obtain⟨C2,hcl0,hC2s,hC2q⟩:=AD W1 0 blk (off+ (i+ (n-j))) (n- (i+ (n-j))) (cap- (i+ (n-j))) e C1 hW1h (by omega) (by omega)
  have hcl:∀ty,(Builtin.clear_ #[33] ty #[.slice (some ⟨blk,off+ (i+ (n-j)),none⟩) (n- (i+ (n-j))) (cap- (i+ (n-j)))]).run Tryz.prog W1=.ok (.tuple #[]) (W1.setRow blk C2):=fun ty=>hcl0
  have hW:Hid (W1=w.drew.setCells blk (off+i) news):=hW1
  have hfin:Hid (W1.setRow blk C2=w.drew.setRow blk C2∧C2.size=C.size∧∀q,q< (i+ (n-j))→C2[off+q]? =if q<i then C[off+q]? else C[off+q+ (j-i)]?):=by
    refine⟨by rw[hW1,hC1,setRow_setRow],by omega,fun q hq=>?_⟩
    rw[hC2q _ (by omega),hC1q,hlen]
    by_cases h:q<i
    ·rw[if_pos h,if_neg (by omega)]
    · rw[if_neg h,if_pos (by omega),hget _ (by omega)]
      congr 1;omega
  have hic:i≤cap:=by omega
  have hjc:j≤cap:=by omega
  obtain⟨i0,hi0,hz1⟩:∃i0,Tryz.prog.info? 3=some i0∧i0.size=1:=⟨(Tryz.prog.info? 3).getD default,by kernel_rfl,by kernel_rfl⟩
  clear hW1 hW1h hC1 hC1s hC1q hC2s hC2q hcl0 hget hcell hnews hlen hone hC hCl
  have mixed:Tryz.prog.follows Departure.mixedOrders=true:=by kernel_rfl
  go_enter Tryz.func145,Tryz.ntmps145
  go_wp2_with fail
  go_region_law_o (refine step_append_room rfl (.tmp 22) (.tmp 25) 33 rfl 3 i0 1 Tryz.underlying33 hi0 hz1 blk off i cap (by simp[Act.eval,Act.put]) A (n-j) (cap-j) news (by simp[Act.eval,Act.put]) (by rw[Nat.mul_one];exact s1.out) hsrc.out s2.out (by omega) (by simpa only[Nat.mul_one] using s3.out) ?_;rw[show off+i*1=off+i from by rw[Nat.mul_one],←hW.out])
  go_wp2
  go_ret
  exact⟨rfl,C2,hfin.out⟩
theorem uI {rows:List AV}(hone:kW (flat rows)=true)(i j:Nat)(hij:i<j)(hj:j≤rows.length):
    aj Tryz.prog 145 [.live 1 rows false] [.own 0 0 rows.length,ah i,ah j] [.dead,.live 1 (rows.take i++rows.drop j) false] (.own 1 0 (i+ (rows.length-j))):=by
  intro w W0 L vs hL hs hr
  obtain⟨v0,v1,v2,rfl⟩:∃v0 v1 v2,vs=[v0,v1,v2]:=by
    have:=hr.1
    match vs,this with
    |[a,b,c],_=>exact⟨a,b,c,rfl⟩
  have h1:=hr.2 1 _ v1 rfl rfl
  have h2:=hr.2 2 _ v2 rfl rfl
  cases h1;cases h2
  have h0:=hr.2 0 _ v0 rfl rfl
  obtain⟨B,hB,hobj⟩:=hs.objs 0 1 rows false rfl
  generalize hn:rows.length=n at h0
  cases h0 with
  |ownNil a1=>omega
  | @own _ _ _ cap e' n' B' a1 av ap a2 a3 a4=>
    rw[hB] at a1;cases a1
    subst hn
    obtain⟨C,e,fz,c1,c2,c3⟩:=hobj.blk av ap
    rw[c2 rfl] at c1
    have hwd:=hobj.width
    have hn':C.size=n':=by simp[World.shape?,c1] at a3;exact a3.2
    rw[hwd,Nat.zero_mul,Nat.add_zero]
    rw[hwd,Nat.zero_add] at a4
    have hfl:=cU hobj.wide
    have hcell:∀ (q:Nat) (c:AV),(flat rows)[q]? =some c→∃v,C[B.o+q]? =some v∧cH (Wr W0 L (aJ [.live 1 rows false])) L w c v:=fun q c hq=>by
      obtain⟨v,k1,k2⟩:=hobj.cell ap q c hq
      exact⟨v,by simpa[World.cell?,c1] using k1,k2⟩
    refine(Bg B.b B.o cap rows.length i j C e w c1 (by omega) a2 hij hj (fun q v hq hv=>?_)).mono ?_
    · obtain⟨v',k1,k2⟩:=hcell q _ (bH (by rw[hfl];omega))
      rw[hv] at k1;cases k1
      exact k2.one (List.all_eq_true.1 hone _ (List.getElem_mem _))
    · rintro e2 w' ⟨rfl,C',rfl,hsz,hq⟩
      have hwide:bS 1 (rows.take i++rows.drop j):=(hobj.wide.sub fun r hr=>List.mem_of_mem_take hr).append (hobj.wide.sub fun r hr=>List.mem_of_mem_drop hr)
      have hlen:(rows.take i++rows.drop j).length=i+ (rows.length-j):=by simp;omega
      have hre:=(hs.drawn (w.drawn+1)).reuse (t:=0) (tn:=1) (off:=0) (rows':=rows.take i++rows.drop j) (C':=C') rfl hB av rfl c1 hsz hwide (by rw[hlen];omega) (fun q c hc=>by
        rw[iW,n8 hobj.wide,nW hobj.wide,List.getElem?_append,gd,hfl,Nat.min_eq_left (by omega)] at hc
        have hlt:=hq q
        rw[Nat.zero_mul,Nat.add_zero]
        split at hc
        · rename_i hql
          rw[List.getElem?_take,if_pos hql] at hc
          obtain⟨v,k1,k2⟩:=hcell q c hc
          exact⟨v,by rw[hq q (by omega),if_pos (by omega)];exact k1,k2.grow (Grow.drawn _)⟩
        · rename_i hql
          rw[List.getElem?_drop] at hc
          have hin:=(aZ hc).1
          rw[hfl] at hin
          obtain⟨v,k1,k2⟩:=hcell _ c hc
          refine⟨v,?_,k2.grow (Grow.drawn _)⟩
          rw[hq q (by omega),if_neg (by omega),←k1]
          congr 1;omega)
      have hst:(⟨(bare [.live 1 rows false]).slots,bw (bare [.live 1 rows false]).mem [(1,.live 1 (rows.take i++rows.drop j) false),(0,.dead)]⟩:aD)=bare [.dead,.live 1 (rows.take i++rows.drop j) false]:=by
        unfold bare
        congr 1
        funext t
        match t with
        |0=>rfl
        |1=>rfl
        |t+2=>simp[bw,aJ]
      rw[hst] at hre
      refine⟨_,_,rfl,hre,?_⟩
      have:=cH.own (W:=Wr W0 (bI L 1 ⟨B.b,B.o+0,1,false,false⟩) (aJ [.dead,.live 1 (rows.take i++rows.drop j) false])) (μ:=bI L 1 ⟨B.b,B.o+0,1,false,false⟩)
        (w:=w.drew.setRow B.b C') (t:=1) (off:=0) (len:=i+ (rows.length-j)) (cap:=cap) (e:=e) (n:=C.size) (B:=⟨B.b,B.o+0,1,false,false⟩) (by simp[bI]) rfl rfl (by omega)
        (by simp[World.shape?,setRow_heap w.drew B.b C C' e (0,0) c1,hsz]) (by simp only[Nat.zero_add];omega)
      simpa using this
theorem Gg (b off cap n vb vo vc:Nat)(z:Int)(C:Array Value)(e:TypeId)(w:World)(hC:w.heap[b]? =some (.cells C e (0,0)))(hfit:off+cap≤C.size)(hn:n+1≤cap)(hx:w.cell? ⟨vb,vo,none⟩=some (.int .i64 z))(hn63:n≤100000):
    Calls Tryz.prog 140 #[.slice (some ⟨b,off,none⟩) n cap,.int .i64 n,.slice (some ⟨vb,vo,none⟩) 1 vc] w fun e' w'=>e'=.returned (.slice (some ⟨b,off,none⟩) (n+1) cap)∧w'=w.setCells b (off+n) [.int .i64 z]:=by
  obtain⟨old,hold⟩:∃v,w.cell? ⟨b,off+n,none⟩=some v:=by
    have:w.cell? ⟨b,off+n,none⟩=C[off+n]? :=by simp[World.cell?,hC]
    rw[this,Array.getElem?_eq_getElem (by omega)];exact⟨_,rfl⟩
  have hfz:w.frozen? ⟨b,off+n,none⟩=false:=by simp[World.frozen?,hC]
  have mixed:Tryz.prog.follows Departure.mixedOrders=true:=by kernel_rfl
  have hic:n≤cap:=by omega
  clear hC
  go_enter Tryz.func140,Tryz.ntmps140
  go_wp2
  all_goals (try go_ret)
  all_goals first|exact⟨rfl,rfl⟩|trace_state
theorem A5 (b off cap n i vb vo vc:Nat)(z:Int)(cs:List Value)(C:Array Value)(e:TypeId)(w:World)(hC:w.heap[b]? =some (.cells C e (0,0)))(hfit:off+cap≤C.size)(hn:n+1≤cap)(hi:i<n)(hx:w.cell? ⟨vb,vo,none⟩=some (.int .i64 z))(hn63:n≤100000)
    (hcl:cs.length=n) (hcs:∀j v,cs[j]? =some v→C[off+j]? =some v) (h1c:∀v∈cs,v.oneCell'=true) (hvb:vb≠b) (tA:TypeId) (kA:Nat) (hsa:w.shape? vb=some (tA,kA)) (hfa:w.frozen? ⟨vb,vo,none⟩=false) (hfe:w.frozen? ⟨vb,kA,none⟩=false):
    Calls Tryz.prog 140 #[.slice (some ⟨b,off,none⟩) n cap,.int .i64 i,.slice (some ⟨vb,vo,none⟩) 1 vc] w fun e' w'=>e'=.returned (.slice (some ⟨b,off,none⟩) (n+1) cap)∧w'=(w.drew.setCells b (off+ (i+1)) (cs.drop i)).setCells b (off+i) [.int .i64 z]:=by
  have hsb:w.shape? b=some (e,C.size):=by simp[World.shape?,hC]
  have hcell:∀q,w.cell? ⟨b,q,none⟩=C[q]? :=fun q=>by simp[World.cell?,hC]
  have hfz:∀q,w.frozen? ⟨b,q,none⟩=false:=fun q=>by simp[World.frozen?,hC]
  have hsp:∀j,j<n+1→(w.cell? ⟨b,off+j,none⟩).isSome=true:=fun j hj=>by rw[hcell,Array.getElem?_eq_getElem (by omega)];rfl
  have hsz:(Tryz.prog.info? 3).map (·.size)=some 1:=by kernel_rfl
  have hov:∀lb cb,(callFunc 189 #[.slice (some ⟨vb,vo,none⟩) 1 vc,.slice (some ⟨b,off+ (i+1),none⟩) lb cb]).run Tryz.prog w=.ok (.value (.bool false)) w:=fun lb cb=>by
    rw [run_callFunc_extern Tryz.func189 (by kernel_rfl) (by kernel_rfl) (by kernel_rfl) (e:=Extern.SlicesOverlaps.overlaps #[33,33] #[4]) (by kernel_rfl),
      Lib.run_overlaps_apart w 33 4 3 Tryz.underlying33 1 Tryz.sizeOf3 ⟨vb,vo,none⟩ ⟨b,off+ (i+1),none⟩ 1 vc lb cb hvb tA e kA C.size hsa hsb (by omega) hfa hfe]
    rfl
  have hdl:(cs.drop i).length=n-i:=by rw[List.length_drop,hcl]
  have hcp1:∀ty dc sc,(Builtin.copy_ #[33,33] ty #[.slice (some ⟨b,off+ (i+1),none⟩) (n-i) dc,.slice (some ⟨b,off+i,none⟩) (n+1-i) sc]).run Tryz.prog w.drew=.ok (goInt (cs.drop i).length) (w.drew.setCells b (off+ (i+1)) (cs.drop i)):=fun ty dc sc=>
    run_copy_cells w.drew _ _ ty 3 b (off+ (i+1)) (n-i) dc ⟨b,off+i,none⟩ (n+1-i) sc (cs.drop i) Tryz.underlying33 hsz (by rw[hdl];simp only[Nat.min_def];split<;>omega)
      (fun j v hj=>by rw[Addr.add_lit,Nat.add_assoc];show w.cell? _=_;rw[hcell];exact hcs (i+j) v (by rwa [List.getElem?_drop] at hj))
      (fun j hj=>by rw[Nat.add_assoc];exact hsp _ (by omega)) (fun j hj=>hfz _) (fun v hv=>h1c v (List.mem_of_mem_drop hv))
  obtain⟨W1,hW1⟩:∃W1,W1=w.drew.setCells b (off+ (i+1)) (cs.drop i):=⟨_,rfl⟩
  have hsp1:∀k,k<n+1→(W1.cell? ⟨b,off+k,none⟩).isSome=true:=fun k hk=>by
    rw[hW1]
    exact isSome_setCells b _ _ _ (fun j hj=>by rw[Nat.add_assoc];exact hsp _ (by omega)) _ (hsp k hk)
  have hcp2:∀ (W:World),(∀x,W.cell? x=W1.cell? x)→(∀x,W.frozen? x=W1.frozen? x)→∀ty dc,(Builtin.copy_ #[33,33] ty #[.slice (some ⟨b,off+i,none⟩) (n+1-i) dc,.slice (some ⟨vb,vo,none⟩) 1 vc]).run Tryz.prog W=.ok (goInt ([.int .i64 z]:List Value).length) (W.setCells b (off+i) [.int .i64 z]):=fun W hWc hWf ty dc=>
    run_copy_cells W _ _ ty 3 b (off+i) (n+1-i) dc ⟨vb,vo,none⟩ 1 vc [.int .i64 z] Tryz.underlying33 hsz (by show 1=_;simp only[Nat.min_def];split<;>omega)
      (fun j v hj=>by
        have hj0:j=0:=by have:=(aZ hj).1;simp at this;exact this
        subst hj0
        cases hj
        rw[Addr.add_lit,hWc,hW1,World.cell?_setCells_out b _ _ _ _ (fun h _=>absurd h hvb)]
        exact hx)
      (fun j hj=>by rw[hWc,Nat.add_assoc];exact hsp1 _ (by simp at hj;omega)) (fun j hj=>by rw[hWf,hW1,World.frozen?_setCells];exact hfz _) (fun v hv=>by simp at hv;subst hv;rfl)
  rw[←hW1] at hcp1
  have mixed:Tryz.prog.follows Departure.mixedOrders=true:=by kernel_rfl
  have hic:n≤cap:=by omega
  have hib:i≤cap:=by omega
  have hin:i≤n:=by omega
  have hp1:(0:Int)≤ (i:Int)+1:=by omega
  have hw1:IntKind.i64.wrap ((i:Int)+1)=(i:Int)+1:=by rw[IntKind.wrap_i64];omega
  have hw2:IntKind.i64.wrap ((n:Int)+1)=(n:Int)+1:=by rw[IntKind.wrap_i64];omega
  have hz2:¬ ((i:Int)=(n:Int)):=by omega
  have htn:((i:Int)+1).toNat=i+1:=by omega
  have hb2:¬ (cap=i+1):=by omega
  have hb3:(i:Int)≤ (n:Int)+1:=by omega
  have hb4:¬ (cap=i):=by omega
  clear hC
  go_enter Tryz.func140,Tryz.ntmps140
  go_wp2_with (simp only[hov])
  go_region_law_o (refine step_copy_runI rfl (.tmp 73) (.tmp 76) 33 33 rfl _ _ (by simp[Act.eval,Act.put]) (by simp[Act.eval,Act.put]) (hcp1 _ _ _) ?_)
  go_wp2_with (at_builtin;refine wpList_copy_runI _ rfl _ _ 33 33 rfl _ _ rfl rfl (hcp2 _ (fun _=>rfl) (fun _=>rfl) _ _) ?_)
  go_ret
  exact⟨rfl,rfl⟩
end Go.Proofs.Heir
namespace Go.Proofs.Heir
open Go.Am Go.RowKit Go.Lib Go.Shelf
set_option maxRecDepth 100000
set_option maxHeartbeats 8000000
theorem DE (b off n c i vb vo vc:Nat)(z:Int)(cs:List Value)(w:World)(hi:i<n)(hnc:n≤c)(hroom:c<n+1)(hn:n≤100000)(hcl:cs.length=n)(hcs:∀j v,cs[j]? =some v→w.cell? ⟨b,off+j,none⟩=some v)(hx:w.cell? ⟨vb,vo,none⟩=some (.int .i64 z))(h1c:∀v∈cs,v.oneCell'=true):
    Calls Tryz.prog 140 #[.slice (some ⟨b,off,none⟩) n c,.int .i64 i,.slice (some ⟨vb,vo,none⟩) 1 vc] w fun e w'=>
      e=.returned (.slice (some ⟨w.heap.size,0,none⟩) (n+1) (grownCap w (n+1) c 3))∧
      w'=(((w.alloc (.cells ((cs.take i).toArray++Builtin.zeroCells (Value.int .i64 0).cells (n+1-i)++Builtin.zeroCells (Value.int .i64 0).cells (grownCap w (n+1) c 3- (n+1))) 3)).drew.setCells w.heap.size i [.int .i64 z]).drew).setCells w.heap.size (i+1) (cs.drop i):=
  Any2.slices_Insert_int_grow Tryz.Cz b off n c i vb vo 1 vc cs [.int .i64 z] w hi (by decide) hnc hroom (by omega) hcl rfl hcs (fun j v hj=>by
    cases j with
    |zero=>cases hj;exact hx
    |succ j=>simp at hj) h1c (fun v hv=>by simp at hv;subst hv;rfl)
theorem qm (base:Option Addr)(n c vb vo vc:Nat)(z:Int)(cs:List Value)(w:World)(hnc:n≤c)(hroom:c<n+1)(hn:n≤100000)(hcl:cs.length=n)(hnil:base=none→n=0)(hcs:∀a,base=some a→∀j v,cs[j]? =some v→w.cell? (a.add j)=some v)(hx:w.cell? ⟨vb,vo,none⟩=some (.int .i64 z)):
    Calls Tryz.prog 140 #[.slice base n c,.int .i64 n,.slice (some ⟨vb,vo,none⟩) 1 vc] w fun e w'=>
      e=.returned (.slice (some ⟨w.heap.size,0,none⟩) (n+1) (grownCap w (n+1) c 3))∧
      w'=w.drew.alloc (.cells ((cs++ [Value.int .i64 z]).toArray++Builtin.zeroCells (Value.int .i64 0).cells (grownCap w (n+1) c 3- (n+1))) 3):=
  Any2.slices_Insert_int_end_grow Tryz.Cz base n c vb vo 1 vc cs [.int .i64 z] w (by decide) hnc hroom (by omega) hcl rfl hnil hcs (fun j v hj=>by
    cases j with
    |zero=>cases hj;exact hx
    |succ j=>simp at hj) (fun v hv=>by simp at hv;subst hv;rfl)
end Go.Proofs.Heir
namespace Go.Proofs.Heir
open Go.Am Go.RowKit Go.Lib
set_option maxRecDepth 100000
set_option maxHeartbeats 8000000
theorem xP (w:World)(C C':Array Value)(e:TypeId):(w.alloc (.cells C e)).setRow w.heap.size C'=w.alloc (.cells C' e):=by
  unfold World.setRow World.alloc
  congr 1
  apply Array.ext_getElem?
  intro k
  simp only[Array.getElem?_modify,Array.getElem?_push]
  by_cases h:w.heap.size=k
  ·subst h;simp
  · have:¬k=w.heap.size:=fun q=>h q.symm
    simp[h,this]
theorem mS (w:World)(C:Array Value)(e:TypeId)(vs:List Value)(o:Nat)(h:o+vs.length≤C.size):
    ∃C',(w.alloc (.cells C e)).setCells w.heap.size o vs=w.alloc (.cells C' e)∧C'.size=C.size∧∀q,C'[q]? =if o≤q∧q<o+vs.length then vs[q-o]? else C[q]? :=by
  have hb:(w.alloc (.cells C e)).heap[w.heap.size]? =some (.cells C e (0,0)):=by
    show(w.heap.push _)[w.heap.size]? =_
    simp
  obtain⟨C',h1,h2,h3⟩:=gr w.heap.size e (0,0) vs o C (w.alloc (.cells C e)) hb h
  exact⟨C',by rw[h1,xP],h2,h3⟩
end Go.Proofs.Heir
