/- Models, plain laws and contracts of functions of the given program; conditions as stated in each theorem. By an AI agent. -/
import Derived.Test.YtkhjcnjicjgfiaaGreatDoorW16
import Derived.Laws.StructEq
import Derived.Tactics
set_option linter.unusedSimpArgs false
set_option linter.unusedVariables false
namespace Go.Proofs.Heir
open Go Go.Am Go.RowKit Go.Lib
set_option maxRecDepth 100000
set_option maxHeartbeats 8000000



def oe (l:List ai)(n:Int):Int:=((U.bT l n).getLast?).getD n
theorem xE {l:List ai}(T:U.Tree l){n:Int}(hn:af l n=true)(hp:cZ (nd l n)=-1):oe l n=n:=by
 unfold oe;rw[U.eR T hn hp];rfl
theorem uO {l:List ai}(T:U.Tree l){n:Int}(hn:af l n=true)(hp:cZ (nd l n)≠-1)(hu:af l (cZ (nd l n))=true):oe l n=oe l (cZ (nd l n)):=by
 obtain⟨r,hr⟩:=U.dV T hu
 unfold oe;rw[U.cB T hn hp,hr,List.getLast?_cons_cons]
 cases h:(cZ (nd l n)::r).getLast? with
 |none=>simp at h
 |some a=>rfl
theorem sW {l:List ai}(T:U.Tree l):∀n,af l n=true→cZ (nd l n)≠-1→af l (cZ (nd l n))=true:=by
 refine U.ik T (P:=fun n=>cZ (nd l n)≠-1→af l (cZ (nd l n))=true) (fun n hn h0 h=>absurd h0 h) (fun n hn h0 h1 _ _=>h1)
theorem wJ {l:List ai}(T:U.Tree l):∀n,af l n=true→af l (oe l n)=true:=by
 refine U.ik T (fun n hn h=>?_) (fun n hn h hu ih=>?_)
 ·rw[xE T hn h];exact hn
 ·rw[uO T hn h hu];exact ih
theorem Cl (f:ForM)(k:Nat)(x:ai)(hx:f.nodes[k]? =some x):aj Tryz.prog 149 [] [aN f,ah k] [] (ah (cZ x)):=by
 obtain⟨l,m⟩:=f
 obtain⟨a1,a2,a3,a4,a5,a6,a7,a8,a9,a10⟩:=x
 unfold cZ
 refine aj.aA (rvs:=[.tmp 4]) G ak Tryz.func149 rfl Tryz.ntmps149 rfl rfl ?_;with_reducible refine wD ?_
 by_cases e:a6=-1
 ·subst e
  rw[if_pos rfl]
  repeat' (first
  |refine gK ?_|refine aE ?_ ?_
  |(((with_reducible show aH _ _ _ _ _);refine aH.mk k (aG _) rfl (az hx) ?_)<;>with_reducible refine wK ?_)
  |apply trivial)
 ·rw[if_neg e]
  (have fct:=(eq_false e);(repeat' (first
  |refine gF ?_|refine aE ?_ ?_
  |(((with_reducible show aH _ _ _ _ _);refine aH.mk k (aG _) rfl (az hx) ?_)<;>with_reducible refine wK ?_)
  |apply trivial));all_goals clear fct)
def JI (f:ForM)(n:Int):Int:=if(bC f&&af f.nodes n)=true then oe f.nodes n else-1
theorem Kf (f:ForM)(hs:bq f.nodes)(n:Int):aj Tryz.prog 84 [] [aN f,ah n] [] (ah (JI f n)):=by
 have h86:=wQ f hs [n] (by simp)
 have e1:(bC f&& !decide (0≤fU (fun n=> !af f.nodes n) [n]))=(bC f&&af f.nodes n):=by
  congr 1
  unfold fU
  cases h:af f.nodes n<;>simp[List.findIdx?_cons,h]
 rw[e1] at h86
 have h87:=fun k x hx=>Cl f k x hx
 obtain⟨l,m⟩:=f
 unfold JI
 simp only at h86 h87 ⊢
 refine aj.aA (rvs:=[.tmp 4]) G ak Tryz.func84 rfl Tryz.ntmps84 rfl rfl ?_;with_reducible refine wD ?_
 cases e0:(bC ⟨l,m⟩&&af l n) with
 | false=>
   rw[e0] at h86
   refine ae.lit [71] h86 G2 ⟨⟨rfl,rfl,trivial⟩,bX (l:=[n]) rfl rfl rfl rfl,trivial⟩ rfl rfl ?_;with_reducible refine wK ?_
   repeat' (first
  |refine gK ?_|refine aE ?_ ?_
  | apply trivial)
   all_goals rfl
 | true=>
   rw[e0] at h86
   refine ae.lit [71] h86 G2 ⟨⟨rfl,rfl,trivial⟩,bX (l:=[n]) rfl rfl rfl rfl,trivial⟩ rfl rfl ?_;with_reducible refine wK ?_
   rw[if_pos rfl]
   obtain⟨hr,hn⟩:bC ⟨l,m⟩=true∧af l n=true:=by simpa using e0
   have T:=U.jz hr
   simp only at T
   repeat' (first
  |refine gK ?_|refine aE ?_ ?_
  | apply trivial)
   refine bE.use G ak (fun(c:Int)=>[(1,ah c),(2,.ptr 20 0 0)]) (fun c=>[(20,.live 2 [aN ⟨l,m⟩] false)])
    (fun c=>af l c=true∧oe l c=oe l n) (fun c=>(U.bT l c).length) n ⟨hn,rfl⟩
    (by refine⟨⟨rfl,rfl⟩,⟨rfl,⟨rfl,rfl⟩,trivial⟩,⟨⟨rfl,rfl,trivial⟩,trivial⟩,trivial⟩) ?_
   rintro c ⟨hc,htop⟩
   with_reducible refine wK ?_
   obtain⟨i,y,rfl,hy,hny⟩:=aI.1 hc
   have h:=h87 i y hy
   by_cases e:cZ y=-1
   ·rw[e] at h
    rw[xE T hc (by rw[hny];exact e)] at htop
    repeat' (first
  |refine gK ?_|refine aE ?_ ?_
  |(((with_reducible refine kQ 149 ?_);refine cL h GC ?_)<;>with_reducible refine wK ?_)
  | apply trivial)
    all_goals exact htop.symm
   ·have hu:=sW T _ hc (by rw[hny];exact e)
    have hst:=uO T hc (by rw[hny];exact e) hu
    have hway:=U.cB T hc (by rw[hny];exact e)
    rw[hny] at hu hst hway
    generalize cZ y=u at h e hu hst hway
    (have fct:=(eq_false e);(repeat' (first
  |refine gF ?_|refine aE ?_ ?_
  |(((with_reducible refine kQ 149 ?_);refine cL h GC ?_)<;>with_reducible refine wK ?_)
  | apply trivial));all_goals clear fct)
    refine aW.mk u ⟨hu,by rw[←hst,htop]⟩ (by rw[hway];simp) ⟨⟨rfl,rfl⟩,⟨rfl,⟨rfl,rfl⟩,trivial⟩,⟨⟨rfl,rfl,trivial⟩,trivial⟩,trivial⟩
def DD (f:ForM)(n:Int):Bool:=(bC f&&af f.nodes n)&&decide ((nd f.nodes (oe f.nodes n)).kind=0)
theorem EP (f:ForM)(hs:bq f.nodes)(n:Int):aj Tryz.prog 35 [] [aN f,ah n] [] (bA (DD f n)):=by
 have h63:=Kf f hs n
 unfold JI at h63
 unfold DD
 cases e0:(bC f&&af f.nodes n) with
 | false=>
   rw[e0,if_neg (by simp)] at h63
   obtain⟨l,m⟩:=f
   refine aj.aA (rvs:=[.tmp 4]) G ak Tryz.func35 rfl Tryz.ntmps35 rfl rfl ?_;with_reducible refine wD ?_
   repeat' (first
  |refine gK ?_|refine aE ?_ ?_
  |(((with_reducible refine kQ 84 ?_);refine cL h63 M3 ?_)<;>with_reducible refine wK ?_)
  | apply trivial)
   all_goals rfl
 | true=>
   rw[e0,if_pos rfl] at h63
   obtain⟨hr,hn⟩:bC f=true∧af f.nodes n=true:=by simpa using e0
   have ht:=wJ (U.jz hr) n hn
   obtain⟨l,m⟩:=f
   simp only at h63 ht ⊢
   generalize oe l n=t at h63 ht ⊢
   obtain⟨i,y,rfl,hy,hny⟩:=aI.1 ht
   rw[hny]
   obtain⟨a1,a2,a3,a4,a5,a6,a7,a8,a9,a10⟩:=y
   refine aj.aA (rvs:=[.tmp 4]) G ak Tryz.func35 rfl Tryz.ntmps35 rfl rfl ?_;with_reducible refine wD ?_
   refine cL h63 M3 ?_;with_reducible refine wK ?_
   (have fct:=(show ¬ (i:Int)=-1 by omega);(repeat' (first
  |refine gF ?_|refine aE ?_ ?_
  |(((with_reducible show aH _ _ _ _ _);refine aH.mk i (aG _) rfl (az hy) ?_)<;>with_reducible refine wK ?_)
  | apply trivial));all_goals clear fct)
   all_goals simp
theorem GZ (f:ForM)(T:U.Tree f.nodes):∀n,af f.nodes n=true→aj Tryz.prog 195 [] [aN f,ah n] [] (ah (oe f.nodes n)):=by
 refine U.ik T (fun n hn h=>?_) (fun n hn h hu ih=>?_)
 ·rw[xE T hn h]
  obtain⟨i,y,rfl,hy,hny⟩:=aI.1 hn
  rw[hny] at h
  obtain⟨l,m⟩:=f
  obtain⟨a1,a2,a3,a4,a5,a6,a7,a8,a9,a10⟩:=y
  unfold cZ at h
  simp only at h hy ⊢
  have e6:a6=-1:=by
   by_cases e:a6=-1
   ·exact e
   ·rw[if_neg e] at h;exact h
  subst e6
  have e8:a8=-1:=by simpa using h
  subst e8
  refine aj.aA (rvs:=[.tmp 4]) G ak Tryz.func195 rfl Tryz.ntmps195 rfl rfl ?_;with_reducible refine wD ?_
  repeat' (first
  |refine gK ?_|refine aE ?_ ?_
  |(((with_reducible show aH _ _ _ _ _);refine aH.mk i (aG _) rfl (az hy) ?_)<;>with_reducible refine wK ?_)
  |apply trivial)
 ·rw[uO T hn h hu]
  obtain⟨i,y,rfl,hy,hny⟩:=aI.1 hn
  rw[hny] at h hu ih ⊢
  obtain⟨l,m⟩:=f
  obtain⟨a1,a2,a3,a4,a5,a6,a7,a8,a9,a10⟩:=y
  unfold cZ at h hu ih ⊢
  simp only at h hu ih hy ⊢
  by_cases e:a6=-1
  ·subst e
   rw[if_pos rfl] at h hu ih ⊢
   refine aj.aA (rvs:=[.tmp 4]) G ak Tryz.func195 rfl Tryz.ntmps195 rfl rfl ?_;with_reducible refine wD ?_
   (have fct:=(eq_false h);(repeat' (first
  |refine gF ?_|refine aE ?_ ?_
  | ((first
   |((with_reducible show aH _ _ _ _ _);refine aH.mk i (aG _) rfl (az hy) ?_)
   |((with_reducible refine kQ 195 ?_);refine cL ih JQ ?_))<;>with_reducible refine wK ?_)
  |apply trivial));all_goals clear fct)
  ·rw[if_neg e] at h hu ih ⊢
   refine aj.aA (rvs:=[.tmp 4]) G ak Tryz.func195 rfl Tryz.ntmps195 rfl rfl ?_;with_reducible refine wD ?_
   (have fct:=(eq_false e);(repeat' (first
  |refine gF ?_|refine aE ?_ ?_
  | ((first
   |((with_reducible show aH _ _ _ _ _);refine aH.mk i (aG _) rfl (az hy) ?_)
   |((with_reducible refine kQ 195 ?_);refine cL ih JQ ?_))<;>with_reducible refine wK ?_)
  |apply trivial));all_goals clear fct)
theorem GN (f:ForM)(T:U.Tree f.nodes)(n:Int)(hn:af f.nodes n=true):aj Tryz.prog 154 [] [aN f,ah n] [] (bA (decide ((nd f.nodes (oe f.nodes n)).kind=0))):=by
 have h84:=GZ f T n hn
 have ht:=wJ T n hn
 obtain⟨l,m⟩:=f
 simp only at h84 ht ⊢
 generalize oe l n=t at h84 ht ⊢
 obtain⟨i,y,rfl,hy,hny⟩:=aI.1 ht
 rw[hny]
 obtain⟨a1,a2,a3,a4,a5,a6,a7,a8,a9,a10⟩:=y
 refine aj.aA (rvs:=[.tmp 4]) G ak Tryz.func154 rfl Tryz.ntmps154 rfl rfl ?_;with_reducible refine wD ?_
 repeat' (first
  |refine gK ?_|refine aE ?_ ?_
  | ((first
   |((with_reducible show aH _ _ _ _ _);refine aH.mk i (aG _) rfl (az hy) ?_)
   |((with_reducible refine kQ 195 ?_);refine cL h84 JQ ?_))<;>with_reducible refine wK ?_)
  |apply trivial)
end Go.Proofs.Heir
namespace Go.Proofs.Heir
open Go Go.Am Go.RowKit Go.Lib
set_option maxRecDepth 100000
set_option maxHeartbeats 8000000
set_option maxHeartbeats 8000000
structure RF (l:List ai) (m:Int):Prop where
  head:jh ⟨l,m⟩=true
  Ib:∀n,af l n=true→fV (nd l n)=true
  own:∀n,af l n=true→gL l (nd l n).doc 0=true∧((nd l n).kind=0→(nd l n).doc=n)
  par:∀n,af l n=true→(nd l n).parent≠-1→((nd l n).kind=1∨(nd l n).kind=2)∧af l (nd l n).parent=true∧dS (nd l (nd l n).parent).kind=true∧n∈ (nd l (nd l n).parent).kids
  kid:∀n,af l n=true→∀c∈ (nd l n).kids,af l c=true∧(nd l c).parent=n∧(nd l c).doc=(nd l n).doc∧((nd l c).kind=1∨(nd l c).kind=2∧(nd l n).kind≠0)
  dup:∀n,af l n=true→(nd l n).kids.Nodup
  hold:∀n,af l n=true→(nd l n).kids≠ []→dS (nd l n).kind=true
  elems:∀n,af l n=true→(nd l n).kind=0→cA l (nd l n).kids≤1
  host:∀n,af l n=true→(nd l n).kind=4→gL l (nd l n).host 1=true∧(nd l (nd l n).host).under=n∧(nd l (nd l n).host).doc=(nd l n).doc
  noh:∀n,af l n=true→(nd l n).kind≠4→(nd l n).host=-1
  und:∀n,af l n=true→(nd l n).under≠-1→(nd l n).kind=1∧gL l (nd l n).under 4=true∧(nd l (nd l n).under).host=n
  ends:∀n,af l n=true→dJ l l.length n=true
theorem AN {l:List ai}{n:Int}{x:ai}:cN l n x=true↔fV x=true∧(gL l x.doc 0=true∧(x.kind=0→x.doc=n))∧(x.parent≠-1→(x.kind=1∨x.kind=2)∧af l x.parent=true∧dS (nd l x.parent).kind=true∧n∈ (nd l x.parent).kids)∧
    (∀c∈x.kids,af l c=true∧(nd l c).parent=n∧(nd l c).doc=x.doc∧((nd l c).kind=1∨(nd l c).kind=2∧x.kind≠0))∧x.kids.Nodup∧(x.kids≠ []→dS x.kind=true)∧(x.kind=0→cA l x.kids≤1)∧
    (x.kind=4→gL l x.host 1=true∧(nd l x.host).under=n∧(nd l x.host).doc=x.doc)∧(x.kind≠4→x.host=-1)∧(x.under≠-1→x.kind=1∧gL l x.under 4=true∧(nd l x.under).host=n):=by
  unfold cN o3 ot kN eL qz
  simp only[bg,dw,aP]
  rw[gI]
  have hk:∀c,uG l n x c=true↔af l c=true∧(nd l c).parent=n∧(nd l c).doc=x.doc∧((nd l c).kind=1∨(nd l c).kind=2∧x.kind≠0):=fun c=>by
    unfold uG
    simp only[bg,dw,aP]
  simp only[hk]
  by_cases e4:x.kind=4
  · rw [if_pos e4]
    simp only[bg,aP]
    constructor
    · rintro⟨a,⟨b1,b2⟩,c,⟨⟨d1,d2,_⟩,e1,e2⟩,f,g⟩
      exact⟨a,⟨b1,fun h=>b2.resolve_left (fun q=>q h)⟩,fun h=>let q:=c.resolve_left h;⟨q.1.1.1,q.1.1.2,q.1.2,q.2⟩,d1,d2,fun h=>e1.resolve_right h,fun h=>e2.resolve_left (fun q=>q h),fun _=>⟨f.1.1,f.1.2,f.2⟩,fun h=>absurd e4 h,fun h=>let q:=g.resolve_left h;⟨q.1.1,q.1.2,q.2⟩⟩
    · rintro⟨a,⟨b1,b2⟩,c,d1,d2,e1,e2,f,_,g⟩
      refine⟨a,⟨b1,?_⟩,?_,⟨⟨d1,d2,fun _ _=>by simp⟩,?_,?_⟩,?_,?_⟩
      · by_cases h:x.kind=0
        ·exact .inr (b2 h)
        ·exact .inl h
      · by_cases h:x.parent=-1
        ·exact .inl h
        ·have q:=c h;exact .inr ⟨⟨⟨q.1,q.2.1⟩,q.2.2.1⟩,q.2.2.2⟩
      · by_cases h:x.kids=[]
        ·exact .inr h
        ·exact .inl (e1 h)
      · by_cases h:x.kind=0
        ·exact .inr (e2 h)
        ·exact .inl h
      ·have q:=f e4;exact⟨⟨q.1,q.2.1⟩,q.2.2⟩
      · by_cases h:x.under=-1
        ·exact .inl h
        ·have q:=g h;exact .inr ⟨⟨q.1,q.2.1⟩,q.2.2⟩
  · rw [if_neg e4]
    simp only[aP]
    constructor
    · rintro⟨a,⟨b1,b2⟩,c,⟨⟨d1,d2,_⟩,e1,e2⟩,f,g⟩
      exact⟨a,⟨b1,fun h=>b2.resolve_left (fun q=>q h)⟩,fun h=>let q:=c.resolve_left h;⟨q.1.1.1,q.1.1.2,q.1.2,q.2⟩,d1,d2,fun h=>e1.resolve_right h,fun h=>e2.resolve_left (fun q=>q h),fun h=>absurd h e4,fun _=>f,fun h=>let q:=g.resolve_left h;⟨q.1.1,q.1.2,q.2⟩⟩
    · rintro⟨a,⟨b1,b2⟩,c,d1,d2,e1,e2,_,f,g⟩
      refine⟨a,⟨b1,?_⟩,?_,⟨⟨d1,d2,fun _ _=>by simp⟩,?_,?_⟩,f e4,?_⟩
      · by_cases h:x.kind=0
        ·exact .inr (b2 h)
        ·exact .inl h
      · by_cases h:x.parent=-1
        ·exact .inl h
        ·have q:=c h;exact .inr ⟨⟨⟨q.1,q.2.1⟩,q.2.2.1⟩,q.2.2.2⟩
      · by_cases h:x.kids=[]
        ·exact .inr h
        ·exact .inl (e1 h)
      · by_cases h:x.kind=0
        ·exact .inr (e2 h)
        ·exact .inl h
      · by_cases h:x.under=-1
        ·exact .inl h
        ·have q:=g h;exact .inr ⟨⟨q.1,q.2.1⟩,q.2.2⟩
theorem dB {l:List ai}{m:Int}:bC ⟨l,m⟩=true↔RF l m:=by
  unfold bC
  simp only[bg]
  rw[jI (fun n x=>cN l n x),jI (fun n _=>dJ l l.length n)]
  simp only[AN]
  constructor
  · rintro⟨h1,h2,h3⟩
    exact⟨h1,fun n hn=>(h2 n hn).1,fun n hn=>(h2 n hn).2.1,fun n hn=>(h2 n hn).2.2.1,fun n hn=>(h2 n hn).2.2.2.1,fun n hn=>(h2 n hn).2.2.2.2.1,fun n hn=>(h2 n hn).2.2.2.2.2.1,fun n hn=>(h2 n hn).2.2.2.2.2.2.1,fun n hn=>(h2 n hn).2.2.2.2.2.2.2.1,fun n hn=>(h2 n hn).2.2.2.2.2.2.2.2.1,fun n hn=>(h2 n hn).2.2.2.2.2.2.2.2.2,h3⟩
  · intro R
    exact⟨R.head,fun n hn=>⟨R.Ib n hn,R.own n hn,R.par n hn,R.kid n hn,R.dup n hn,R.hold n hn,R.elems n hn,R.host n hn,R.noh n hn,R.und n hn⟩,R.ends⟩
def kg (l:List ai)(n:Int)(g:ai→ai):List ai:=l.set n.toNat (g (nd l n))
theorem gW (l:List ai)(n:Int)(g:ai→ai):(kg l n g).length=l.length:=List.length_set ..
theorem bk {l l':List ai}(h:l'.length=l.length)(n:Int):af l' n=af l n:=by unfold af;rw[h]
theorem oH {l:List ai}{n x:Int}(g:ai→ai)(hn:af l n=true)(hx:af l x=true):nd (kg l n g) x=if x=n then g (nd l n) else nd l x:=by
  have h1:=br hn
  have h2:=br hx
  show((l.set n.toNat (g (nd l n)))[x.toNat]?).getD EF=_
  rw[List.getElem?_set]
  by_cases e:x=n
  · subst e
    rw[if_pos rfl,if_pos (by omega),if_pos rfl];rfl
  ·rw[if_neg (by omega),if_neg e];rfl
structure iy (x y:ai):Prop where
  kind:x.kind=y.kind
  name:x.name=y.name
  is:x.is=y.is
  data:x.data=y.data
  attrs:x.attrs=y.attrs
  host:x.host=y.host
  under:x.under=y.under
theorem iy.refl (x:ai):iy x x:=⟨rfl,rfl,rfl,rfl,rfl,rfl,rfl⟩
theorem iy.trans {x y z:ai}(h:iy x y)(k:iy y z):iy x z:=⟨h.1.trans k.1,h.2.trans k.2,h.3.trans k.3,h.4.trans k.4,h.5.trans k.5,h.6.trans k.6,h.7.trans k.7⟩
theorem iy.Ib {x y:ai}(h:iy x y):fV x=fV y:=by unfold fV;rw[h.kind,h.name,h.is,h.data,h.attrs]
section
variable {l l' : List ai} {m : Int}
theorem Ct (hl:l'.length=l.length)(hs:∀x,af l x=true→iy (nd l' x) (nd l x))(a k:Int):gL l' a k=gL l a k:=by
  unfold gL
  rw[bk hl]
  cases h:af l a with
  |false=>rfl
  |true=>rw[(hs a h).kind]
theorem nP (hs:∀x,af l x=true→iy (nd l' x) (nd l x)){cs:List Int}(h:∀c∈cs,af l c=true):cA l' cs=cA l cs:=by
  unfold cA
  exact List.countP_congr fun c hc=>by rw[(hs c (h c hc)).kind]
theorem RF.pos (R:RF l m):af l 0=true:=by
  have:=R.head
  unfold jh at this
  simp only[bg,aP] at this
  unfold af
  simp;omega
theorem RF.jW (R:RF l m)(hl:l'.length=l.length)(hs:∀x,af l x=true→iy (nd l' x) (nd l x))
    (own:∀n,af l n=true→gL l (nd l' n).doc 0=true∧((nd l n).kind=0→(nd l' n).doc=n))
    (par:∀n,af l n=true→(nd l' n).parent≠-1→((nd l n).kind=1∨(nd l n).kind=2)∧af l (nd l' n).parent=true∧dS (nd l (nd l' n).parent).kind=true∧n∈ (nd l' (nd l' n).parent).kids)
    (kid:∀n,af l n=true→∀c∈ (nd l' n).kids,af l c=true∧(nd l' c).parent=n∧(nd l' c).doc=(nd l' n).doc∧((nd l c).kind=1∨(nd l c).kind=2∧(nd l n).kind≠0))
    (dup:∀n,af l n=true→(nd l' n).kids.Nodup) (hold:∀n,af l n=true→(nd l' n).kids≠ []→dS (nd l n).kind=true)
    (elems:∀n,af l n=true→(nd l n).kind=0→cA l (nd l' n).kids≤1)
    (hdoc:∀n,af l n=true→(nd l n).kind=4→(nd l' (nd l n).host).doc=(nd l' n).doc)
    (ends:∀n,af l n=true→dJ l' l.length n=true):RF l' m:=by
  have T:=bk hl
  have I:=Ct hl hs
  have isT:∀ {a k:Int},gL l a k=true→af l a=true:=fun h=>by unfold gL at h;rw[bg] at h;exact h.1
  refine⟨?_,fun n hn=>?_,fun n hn=>?_,fun n hn h=>?_,fun n hn c hc=>?_,fun n hn=>?_,fun n hn h=>?_,fun n hn h=>?_,fun n hn h=>?_,fun n hn h=>?_,fun n hn h=>?_,fun n hn=>?_⟩
  · have:=R.head
    unfold jh at this ⊢
    rw[hl,(hs 0 R.pos).kind];exact this
  all_goals rw[T] at hn
  ·rw[(hs n hn).Ib];exact R.Ib n hn
  ·rw[I,(hs n hn).kind];exact own n hn
  · have q:=par n hn h
    rw[T,(hs n hn).kind,(hs _ q.2.1).kind];exact q
  · have q:=kid n hn c hc
    rw[T,(hs n hn).kind,(hs c q.1).kind];exact q
  ·exact dup n hn
  ·rw[(hs n hn).kind];exact hold n hn h
  · rw[(hs n hn).kind] at h
    rw[nP hs fun c hc=>(kid n hn c hc).1];exact elems n hn h
  · rw[(hs n hn).kind] at h
    have q:=R.host n hn h
    rw[I,(hs n hn).host,(hs _ (isT q.1)).under]
    exact⟨q.1,q.2.1,hdoc n hn h⟩
  · rw[(hs n hn).kind] at h
    rw[(hs n hn).host];exact R.noh n hn h
  · rw[(hs n hn).under] at h
    have q:=R.und n hn h
    rw[I,(hs n hn).kind,(hs n hn).under,(hs _ (isT q.2.1)).host];exact q
  ·rw[hl];exact ends n hn
theorem RF.tree (R:RF l m):U.Tree l:=U.jz (f:=⟨l,m⟩) (dB.2 R)
theorem RF.up (R:RF l m){n:Int}(hn:af l n=true)(h:cZ (nd l n)≠-1):af l (cZ (nd l n))=true:=sW R.tree n hn h
theorem sC {g g':Int→Int}{P:Int→Prop}(hg:∀x,P x→g' x=g x∨g' x=-1)(hP:∀x,P x→g x≠-1→P (g x)):∀ {k:Nat} {x:Int},P x→gi g k x=true→gi g' k x=true
  |0,_,_,h=>by simp[gi] at h
  | k +1,x,hx,h=>by
    unfold gi at h ⊢
    rcases hg x hx with e|e
    · rw[e]
      by_cases c:g x=-1
      ·rw[if_pos c]
      ·rw[if_neg c] at h ⊢;exact sC hg hP (hP x hx c) h
    ·rw[if_pos e]
theorem qO {g g':Int→Int}{P:Int→Prop}{k:Int}(hg:∀x,P x→x≠k→g' x=g x)(hP:∀x,P x→g x≠-1→P (g x)):∀ {j:Nat} {x:Int},P x→gi g j x=true→k∉rW g j x→gi g' j x=true∧rW g' j x=rW g j x
  |0,_,_,h,_=>by simp[gi] at h
  | j +1,x,hx,h,hk=>by
    unfold gi at h ⊢
    unfold rW at hk ⊢
    have hne:x≠k:=fun e=>hk (e▸gE)
    rw[hg x hx hne]
    by_cases c:g x=-1
    ·rw[if_pos c,if_pos c,if_pos c];exact⟨rfl,rfl⟩
    · rw[if_neg c] at h hk ⊢
      rw[if_neg c,if_neg c]
      have:=qO hg hP (hP x hx c) h (fun q=>hk (fJ _ q))
      exact⟨this.1,by rw[this.2]⟩
theorem Bx {g g':Int→Int}{P:Int→Prop}{k:Int}(hg:∀x,P x→x≠k→g' x=g x)(hP:∀x,P x→g x≠-1→P (g x)){M:Nat}(hk:gi g' M k=true):∀ {j:Nat} {x:Int},P x→gi g j x=true→gi g' (j+M) x=true
  |0,_,_,h=>by simp[gi] at h
  | j +1,x,hx,h=>by
    by_cases e:x=k
    ·subst e;exact(vS hk (by omega)).2
    · unfold gi at h
      rw[show j+1+M=(j+M)+1 by omega]
      unfold gi
      rw[hg x hx e]
      by_cases c:g x=-1
      ·rw[if_pos c]
      ·rw[if_neg c] at h ⊢;exact Bx hg hP hk (hP x hx c) h
theorem K4 (l:List ai):∀ (m:Nat) (n:Int),U.uT l m n=rW (fun n=>cZ (nd l n)) m n
  |0,_=>rfl
  |m+1,n=>by unfold U.uT rW;rw[K4 l m]
theorem Cg (l:List ai)(n:Int):U.bT l n=rW (fun n=>cZ (nd l n)) l.length n:=K4 l l.length n
theorem De {k:Nat}(hup:∀n,af l n=true→cZ (nd l n)≠-1→af l (cZ (nd l n))=true){n:Int}(hn:af l n=true)(h:dJ l k n=true):dJ l l.length n=true:=by
  rw[gY] at h ⊢
  exact Ks h (nC (Ky h) fun a ha=>br (Ml (P:=fun n=>af l n=true) (fun n hn hne=>hup n hn hne) hn a ha))
theorem RF.ja (R:RF l m){n:Int}(hn:af l n=true):cZ (nd l n)≠n:=fun e=>by
  have hp:=br hn
  have h:=U.cB R.tree hn (by rw[e];omega)
  rw[e] at h
  have:=congrArg List.length h
  simp at this
theorem RF.H6 (R:RF l m){n:Int}(hn:af l n=true)(h:(nd l n).kind=1∨(nd l n).kind=2):cZ (nd l n)=(nd l n).parent:=by
  unfold cZ
  split
  ·rename_i e;rw[e];exact R.noh n hn (by omega)
  ·rfl
theorem RF.fj (R:RF l m){n:Int}(hn:af l n=true)(h:(nd l n).parent≠-1):cZ (nd l n)=(nd l n).parent:=by
  unfold cZ;rw[if_neg h]
def bj (l:List ai)(n:Int):List ai:=if(nd l n).parent=-1 then l else kg (kg l (nd l n).parent fun x=>{x with kids:=x.kids.erase n}) n fun x=>{x with parent:=-1}
theorem c9 (l:List ai)(n:Int):(bj l n).length=l.length:=by
  unfold bj;split
  ·rfl
  ·rw[gW,gW]
theorem Kj (R:RF l m){n x:Int}(hn:af l n=true)(hp:(nd l n).parent≠-1)(hx:af l x=true):
    nd (bj l n) x=if x=n then{nd l n with parent:=-1} else if x=(nd l n).parent then{nd l x with kids:=(nd l x).kids.erase n} else nd l x:=by
  have hpt:=(R.par n hn hp).2.1
  have hne:(nd l n).parent≠n:=by have:=R.ja hn;rwa [R.fj hn hp] at this
  unfold bj
  rw[if_neg hp,oH _ (by rw[bk (gW ..)];exact hn) (by rw[bk (gW ..)];exact hx)]
  by_cases e:x=n
  ·rw[if_pos e,if_pos e,oH _ hpt hn,if_neg (fun q=>hne q.symm)]
  · rw[if_neg e,if_neg e,oH _ hpt hx]
    by_cases c:x=(nd l n).parent
    ·rw[if_pos c,if_pos c,←c]
    ·rw[if_neg c,if_neg c]
theorem gB (R:RF l m){n:Int}(hn:af l n=true)(x:Int)(hx:af l x=true):iy (nd (bj l n) x) (nd l x)∧(nd (bj l n) x).doc=(nd l x).doc∧((nd (bj l n) x).parent=if x=n then-1 else(nd l x).parent)∧((nd (bj l n) x).kids=if x=(nd l n).parent then(nd l x).kids.erase n else(nd l x).kids):=by
  by_cases hp:(nd l n).parent=-1
  · have h0:=br hx
    unfold bj
    rw[if_pos hp]
    refine⟨.refl _,rfl,?_,?_⟩
    · split
      ·rename_i e;rw[e,hp]
      ·rfl
    ·rw[if_neg (by omega)]
  · have hne:(nd l n).parent≠n:=by have:=R.ja hn;rwa [R.fj hn hp] at this
    rw[Kj R hn hp hx]
    by_cases e:x=n
    · subst e
      rw[if_pos rfl,if_pos rfl,if_neg (fun q=>hne q.symm)]
      exact⟨⟨rfl,rfl,rfl,rfl,rfl,rfl,rfl⟩,rfl,rfl,rfl⟩
    · rw [if_neg e,if_neg e]
      by_cases c:x=(nd l n).parent
      · rw[if_pos c,if_pos c]
        exact⟨⟨rfl,rfl,rfl,rfl,rfl,rfl,rfl⟩,rfl,rfl,rfl⟩
      · rw[if_neg c,if_neg c]
        exact⟨.refl _,rfl,rfl,rfl⟩
theorem Gc (R:RF l m){n:Int}(hn:af l n=true)(hk:(nd l n).kind=1∨(nd l n).kind=2∨(nd l n).parent=-1)(x:Int)(hx:af l x=true):cZ (nd (bj l n) x)=if x=n∧(nd l n).parent≠-1 then-1 else cZ (nd l x):=by
  obtain⟨h1,_,h3,_⟩:=gB R hn x hx
  by_cases e:x=n
  · subst e
    by_cases hp:(nd l x).parent=-1
    · rw[if_neg (fun q=>q.2 hp)]
      unfold cZ
      rw[h3,if_pos rfl,if_pos rfl,if_pos hp,h1.host]
    · rw[if_pos ⟨rfl,hp⟩]
      unfold cZ
      rw[h3,if_pos rfl,if_pos rfl,h1.host]
      exact R.noh x hx (by have:=(R.par x hx hp).1;omega)
  · rw[if_neg (fun q=>e q.1)]
    unfold cZ
    rw[h3,if_neg e,h1.host]
theorem dP (R:RF l m){n:Int}(hn:af l n=true):RF (bj l n) m:=by
  by_cases hp:(nd l n).parent=-1
  · have e:bj l n=l:=by unfold bj;rw[if_pos hp]
    rw[e];exact R
  have L:=gB R hn
  have hpt:=(R.par n hn hp).2.1
  have hkn:=(R.par n hn hp).1
  refine R.jW (c9 l n) (fun x hx=>(L x hx).1) (fun x hx=>?_) (fun x hx h=>?_) (fun x hx c hc=>?_) (fun x hx=>?_) (fun x hx h=>?_) (fun x hx h=>?_) (fun x hx h=>?_) (fun x hx=>?_)
  ·rw[(L x hx).2.1];exact R.own x hx
  · rw [(L x hx).2.2.1] at h ⊢
    by_cases e:x=n
    ·rw[if_pos e] at h;exact absurd rfl h
    · rw[if_neg e] at h ⊢
      obtain⟨q1,q2,q3,q4⟩:=R.par x hx h
      refine⟨q1,q2,q3,?_⟩
      rw[(L _ q2).2.2.2]
      split
      ·exact(List.mem_erase_of_ne e).2 q4
      ·exact q4
  · have hc':c∈ (nd l x).kids:=by
      rw[(L x hx).2.2.2] at hc
      split at hc
      ·exact List.mem_of_mem_erase hc
      ·exact hc
    obtain⟨q1,q2,q3,q4⟩:=R.kid x hx c hc'
    have hcn:c≠n:=fun e=>by
      subst e
      rw[(L x hx).2.2.2,if_pos q2.symm] at hc
      exact(List.Nodup.mem_erase_iff (R.dup x hx)).1 hc|>.1 rfl
    rw[(L c q1).2.2.1,if_neg hcn,(L c q1).2.1,(L x hx).2.1]
    exact⟨q1,q2,q3,q4⟩
  · rw[(L x hx).2.2.2]
    split
    ·exact(R.dup x hx).erase _
    ·exact R.dup x hx
  · refine R.hold x hx fun e=>h ?_
    rw[(L x hx).2.2.2,e];simp
  · rw[(L x hx).2.2.2]
    split
    ·exact Nat.le_trans (List.Sublist.countP_le List.erase_sublist) (R.elems x hx h)
    ·exact R.elems x hx h
  · have q:=(R.host x hx h).1
    have ht:af l (nd l x).host=true:=by unfold gL at q;rw[bg] at q;exact q.1
    rw[(L _ ht).2.1,(L x hx).2.1];exact(R.host x hx h).2.2
  · rw[gY]
    refine sC (g:=fun n=>cZ (nd l n)) (P:=fun x=>af l x=true) (fun y hy=>?_) (fun y hy h=>R.up hy h) hx (by rw[←gY];exact R.ends x hx)
    have:=Gc R hn (by rcases hkn with k|k<;>simp[k]) y hy
    simp only[this]
    split
    ·exact .inr rfl
    ·exact .inl rfl
def jR (cs:List Int)(b k:Int):List Int:=if b=-1 then cs++ [k] else cs.takeWhile (fun c=>decide (c≠b))++k::cs.dropWhile (fun c=>decide (c≠b))
theorem pg (cs:List Int)(b k:Int):(jR cs b k).Perm (k::cs):=by
  unfold jR
  split
  ·exact List.perm_append_singleton k cs
  · refine List.perm_middle.trans ?_
    rw[List.takeWhile_append_dropWhile]
theorem si {cs:List Int}{b k c:Int}:c∈jR cs b k↔c=k∨c∈cs:=by rw[(pg cs b k).mem_iff,eB]
def gy (l:List ai)(k p b:Int):List ai:=kg (kg l p fun x=>{x with kids:=jR x.kids b k}) k fun x=>{x with parent:=p}
theorem lu (l:List ai)(k p b:Int):(gy l k p b).length=l.length:=by unfold gy;rw[gW,gW]
theorem qH {k p b:Int}(hk:af l k=true)(hp:af l p=true)(hne:k≠p)(x:Int)(hx:af l x=true):iy (nd (gy l k p b) x) (nd l x)∧(nd (gy l k p b) x).doc=(nd l x).doc∧((nd (gy l k p b) x).parent=if x=k then p else(nd l x).parent)∧((nd (gy l k p b) x).kids=if x=p then jR (nd l x).kids b k else(nd l x).kids):=by
  unfold gy
  rw[oH _ (by rw[bk (gW ..)];exact hk) (by rw[bk (gW ..)];exact hx)]
  by_cases e:x=k
  · subst e
    rw[if_pos rfl,if_pos rfl,oH _ hp hx,if_neg hne,if_neg hne]
    exact⟨⟨rfl,rfl,rfl,rfl,rfl,rfl,rfl⟩,rfl,rfl,rfl⟩
  · rw [if_neg e,if_neg e,oH _ hp hx]
    by_cases c:x=p
    · subst c
      rw[if_pos rfl,if_pos rfl]
      exact⟨⟨rfl,rfl,rfl,rfl,rfl,rfl,rfl⟩,rfl,rfl,rfl⟩
    · rw[if_neg c,if_neg c]
      exact⟨.refl _,rfl,rfl,rfl⟩
theorem IL (R:RF l m){k p b:Int}(hk:af l k=true)(hp:af l p=true)(hne:k≠p)(x:Int)(hx:af l x=true):cZ (nd (gy l k p b) x)=if x=k then p else cZ (nd l x):=by
  obtain⟨h1,_,h3,_⟩:=qH (b:=b) hk hp hne x hx
  have:=br hp
  unfold cZ
  rw[h3,h1.host]
  by_cases e:x=k
  ·rw[if_pos e,if_pos e,if_neg (by omega)]
  ·rw[if_neg e,if_neg e]
theorem AU (R:RF l m){k p b:Int}(hk:af l k=true)(hp:af l p=true)(h1:(nd l k).parent=-1)(h2:(nd l k).kind=1∨(nd l k).kind=2)(h3:(nd l k).doc=(nd l p).doc)(h4:dS (nd l p).kind=true)
    (h5:(nd l p).kind=0→(nd l k).kind=1∧cA l (nd l p).kids=0) (h6:k∉U.bT l p):RF (gy l k p b) m:=by
  have hne:k≠p:=fun e=>h6 (by rw[e];exact U.cM R.tree hp)
  have L:=qH (b:=b) hk hp hne
  have hpp:=br hp
  have hkk:k∉ (nd l p).kids:=fun h=>by have:=(R.kid p hp k h).2.1;omega
  have hupL:∀x,af l x=true→cZ (nd (gy l k p b) x)=if x=k then p else cZ (nd l x):=IL R hk hp hne
  refine R.jW (lu l k p b) (fun x hx=>(L x hx).1) (fun x hx=>?_) (fun x hx h=>?_) (fun x hx c hc=>?_) (fun x hx=>?_) (fun x hx h=>?_) (fun x hx h=>?_) (fun x hx h=>?_) (fun x hx=>?_)
  ·rw[(L x hx).2.1];exact R.own x hx
  · rw [(L x hx).2.2.1] at h ⊢
    by_cases e:x=k
    · subst e
      rw[if_pos rfl,(L p hp).2.2.2,if_pos rfl]
      exact⟨h2,hp,h4,si.2 (.inl rfl)⟩
    · rw[if_neg e] at h ⊢
      obtain⟨q1,q2,q3,q4⟩:=R.par x hx h
      refine⟨q1,q2,q3,?_⟩
      rw[(L _ q2).2.2.2]
      split
      ·exact si.2 (.inr q4)
      ·exact q4
  · rw [(L x hx).2.2.2] at hc
    have hc':(x=p∧c=k)∨c∈ (nd l x).kids:=by
      split at hc
      · rename_i e
        rcases si.1 hc with q|q
        ·exact .inl ⟨e,q⟩
        ·exact .inr q
      ·exact .inr hc
    rcases hc' with⟨rfl,rfl⟩|hc'
    · rw [(L c hk).2.2.1,if_pos rfl,(L c hk).2.1,(L x hx).2.1]
      refine⟨hk,rfl,h3,?_⟩
      by_cases e:(nd l x).kind=0
      ·exact .inl (h5 e).1
      · rcases h2 with q|q
        ·exact .inl q
        ·exact .inr ⟨q,e⟩
    · obtain⟨q1,q2,q3,q4⟩:=R.kid x hx c hc'
      have hck:c≠k:=fun e=>by subst e;have:=br hx;omega
      rw[(L c q1).2.2.1,if_neg hck,(L c q1).2.1,(L x hx).2.1]
      exact⟨q1,q2,q3,q4⟩
  · rw [(L x hx).2.2.2]
    split
    · rename_i e
      subst e
      exact((pg _ b k).nodup_iff).2 (List.nodup_cons.2 ⟨hkk,R.dup x hx⟩)
    ·exact R.dup x hx
  · by_cases e:x=p
    ·rw[e];exact h4
    ·rw[(L x hx).2.2.2,if_neg e] at h;exact R.hold x hx h
  · rw [(L x hx).2.2.2]
    split
    · rename_i e
      subst e
      unfold cA
      rw[(pg _ b k).countP_eq]
      have:=(h5 h).2
      unfold cA at this
      rw[List.countP_cons,this]
      split<;>omega
    ·exact R.elems x hx h
  · have q:=(R.host x hx h).1
    have ht:af l (nd l x).host=true:=by unfold gL at q;rw[bg] at q;exact q.1
    rw[(L _ ht).2.1,(L x hx).2.1];exact(R.host x hx h).2.2
  · have hup':∀n,af (gy l k p b) n=true→cZ (nd (gy l k p b) n)≠-1→af (gy l k p b) (cZ (nd (gy l k p b) n))=true:=fun n hn h=>by
      rw[bk (lu ..)] at hn
      rw[hupL n hn] at h ⊢
      rw[bk (lu ..)]
      split
      ·exact hp
      ·rename_i e;rw[if_neg e] at h;exact R.up hn h
    have hg:∀x,af l x=true→x≠k→(fun n=>cZ (nd (gy l k p b) n)) x=(fun n=>cZ (nd l n)) x:=fun x hx e=>by
      show cZ _=cZ _
      rw[hupL x hx,if_neg e]
    have hP:∀x,af l x=true→(fun n=>cZ (nd l n)) x≠-1→af l ((fun n=>cZ (nd l n)) x)=true:=fun x hx h=>R.up hx h
    have hfp:gi (fun n=>cZ (nd (gy l k p b) n)) l.length p=true:=
      (qO (P:=fun x=>af l x=true) (k:=k) hg hP hp (by rw[←gY];exact R.ends p hp) (by rw[←Cg];exact h6)).1
    have hfk:gi (fun n=>cZ (nd (gy l k p b) n)) (l.length+1) k=true:=by
      unfold gi
      simp only[hupL k hk,if_true]
      rw[if_neg (by omega)];exact hfp
    have:=Bx (P:=fun x=>af l x=true) (k:=k) hg hP hfk hx (by rw[←gY];exact R.ends x hx)
    rw[←gY] at this
    have:=De hup' (by rw[bk (lu ..)];exact hx) this
    rwa [lu] at this
def iB (l:List ai)(s:List Int)(d:Int):List ai:=s.foldl (fun l k=>kg l k fun x=>{x with doc:=d}) l
theorem sr (d:Int):∀ (s:List Int) (l:List ai),(iB l s d).length=l.length
  |[],_=>rfl
  | k::s,l=>by
    show(iB (kg l k fun x=>{x with doc:=d}) s d).length=_
    rw[sr d s,gW]
theorem Ei (d:Int):∀ (s:List Int) (l:List ai),(∀k∈s,af l k=true)→∀x,af l x=true→nd (iB l s d) x=if x∈s then{nd l x with doc:=d} else nd l x
  |[],l,_,x,_=>by rw[if_neg (by simp)];rfl
  | k ::s,l,h,x,hx=>by
    have T:=bk (gW l k fun x=>{x with doc:=d})
    have hk:=h k gE
    show nd (iB (kg l k fun x=>{x with doc:=d}) s d) x=_
    rw[Ei d s _ (fun j hj=>by rw[T];exact h j (fJ _ hj)) x (by rw[T];exact hx),oH _ hk hx]
    by_cases e:x=k
    · subst e
      rw[if_pos rfl,if_pos (gE)]
      split<;>rfl
    · rw[if_neg e]
      by_cases c:x∈s
      ·rw[if_pos c,if_pos (fJ _ c)]
      ·rw[if_neg c,if_neg (fun q=>(eB.1 q).elim e c)]
theorem uy {s:List Int}{d:Int}(h:∀k∈s,af l k=true)(x:Int)(hx:af l x=true):iy (nd (iB l s d) x) (nd l x)∧((nd (iB l s d) x).doc=if x∈s then d else(nd l x).doc)∧(nd (iB l s d) x).parent=(nd l x).parent∧(nd (iB l s d) x).kids=(nd l x).kids:=by
  rw[Ei d s l h x hx]
  by_cases c:x∈s
  ·rw[if_pos c,if_pos c];exact⟨⟨rfl,rfl,rfl,rfl,rfl,rfl,rfl⟩,rfl,rfl,rfl⟩
  ·rw[if_neg c,if_neg c];exact⟨.refl _,rfl,rfl,rfl⟩
theorem RF.JJ (R:RF l m){n:Int}(hn:af l n=true)(h:(nd l n).kind=0):cZ (nd l n)=-1:=by
  unfold cZ
  by_cases hp:(nd l n).parent=-1
  ·rw[if_pos hp];exact R.noh n hn (by omega)
  ·have:=(R.par n hn hp).1;omega
theorem Iu (R:RF l m){n:Int}(hn:af l n=true)(htop:cZ (nd l n)=-1){x:Int}(hx:af l x=true)(hu:cZ (nd l x)≠-1):x∈U.bQ l l.length n↔cZ (nd l x)∈U.bQ l l.length n:=by
  rw[U.kF R.tree hn hx,U.kF R.tree hn (R.up hx hu),U.cB R.tree hx hu,eB]
  constructor
  · rintro(e|h)
    ·rw[←e] at hu;exact absurd htop hu
    ·exact h
  ·exact .inr
theorem Dq (R:RF l m){n d:Int}(hn:af l n=true)(htop:cZ (nd l n)=-1)(hk:(nd l n).kind≠0)(hd:gL l d 0=true):RF (iB l (U.bQ l l.length n) d) m:=by
  have hs:∀k∈U.bQ l l.length n,af l k=true:=fun k h=>(U.dL R.tree _ n hn k h).1
  have L:=uy (d:=d) hs
  have I:=fun{x:Int} (hx:af l x=true)=>Iu R hn htop (x:=x) hx
  refine R.jW (sr d _ l) (fun x hx=>(L x hx).1) (fun x hx=>?_) (fun x hx h=>?_) (fun x hx c hc=>?_) (fun x hx=>?_) (fun x hx h=>?_) (fun x hx h=>?_) (fun x hx h=>?_) (fun x hx=>?_)
  · rw [(L x hx).2.1]
    split
    · rename_i e
      refine⟨hd,fun h0=>?_⟩
      have:=(U.kF R.tree hn hx).1 e
      rw[U.eR R.tree hx (R.JJ hx h0),je] at this
      rw[←this] at h0;exact absurd h0 hk
    ·exact R.own x hx
  · rw[(L x hx).2.2.1] at h ⊢
    obtain⟨q1,q2,q3,q4⟩:=R.par x hx h
    exact⟨q1,q2,q3,by rw[(L _ q2).2.2.2];exact q4⟩
  · rw[(L x hx).2.2.2] at hc
    obtain⟨q1,q2,q3,q4⟩:=R.kid x hx c hc
    have h0:=br hx
    have hu:cZ (nd l c)=x:=by rw[R.fj q1 (by omega),q2]
    have hi:=I q1 (by omega)
    rw[hu] at hi
    rw[(L c q1).2.2.1,(L c q1).2.1,(L x hx).2.1]
    refine⟨q1,q2,?_,q4⟩
    by_cases e:x∈U.bQ l l.length n
    ·rw[if_pos e,if_pos (hi.2 e)]
    ·rw[if_neg e,if_neg (fun q=>e (hi.1 q))];exact q3
  ·rw[(L x hx).2.2.2];exact R.dup x hx
  ·rw[(L x hx).2.2.2] at h;exact R.hold x hx h
  ·rw[(L x hx).2.2.2];exact R.elems x hx h
  · obtain⟨q1,q2,q3⟩:=R.host x hx h
    have ht:af l (nd l x).host=true:=by unfold gL at q1;rw[bg] at q1;exact q1.1
    have hp:(nd l x).parent=-1:=Classical.byContradiction fun c=>by have:=(R.par x hx c).1;omega
    have h0:=br ht
    have hu:cZ (nd l x)=(nd l x).host:=by unfold cZ;rw[if_pos hp]
    have hi:=I hx (by omega)
    rw[hu] at hi
    rw[(L _ ht).2.1,(L x hx).2.1]
    by_cases e:x∈U.bQ l l.length n
    ·rw[if_pos e,if_pos (hi.1 e)]
    ·rw[if_neg e,if_neg (fun q=>e (hi.2 q))];exact q3
  · rw[gY]
    refine sC (g:=fun n=>cZ (nd l n)) (P:=fun x=>af l x=true) (fun y hy=>.inl ?_) (fun y hy h=>R.up hy h) hx (by rw[←gY];exact R.ends x hx)
    show cZ _=cZ _
    unfold cZ
    rw[(L y hy).2.2.1,(L y hy).1.host]
end
end Go.Proofs.Heir
namespace Go.Proofs.Heir
open Go Go.Am Go.RowKit Go.Lib
set_option maxRecDepth 100000
set_option maxHeartbeats 8000000
structure aO where
 kind:Int
 node:Int
 src:Int
 dst:Int
 name:ByteArray
 had:Bool
 has:Bool
 old:ByteArray
 new:ByteArray
 deriving DecidableEq
@[reducible] def lz (x : aO) : AV := .agg [ah x.kind, ah x.node, ah x.src, ah x.dst, cn x.name, bA x.had, bA x.has, cn x.old, cn x.new]
def dN (x:aO):AV:=lz x
theorem Fu {l:List aO}{k:Nat}{x:aO}(h:l[k]? =some x):(l.map dN)[k]? =some (lz x):=by rw[fZ,h];rfl
end Go.Proofs.Heir
namespace Go.Proofs.Heir
open Go Go.Am Go.RowKit Go.Lib
set_option maxRecDepth 100000
set_option maxHeartbeats 8000000
set_option maxHeartbeats 8000000
section
variable {l l' : List ai} {m : Int}
theorem tj (R:RF l m)(hl:l'.length=l.length){k p:Int}(hp:af l p=true)(hk:k∉U.bT l p)(hu:∀x,af l x=true→x≠k→cZ (nd l' x)=cZ (nd l x)):U.bT l' p=U.bT l p:=by
  rw[Cg] at hk
  rw[Cg,Cg,hl]
  exact(qO (P:=fun x=>af l x=true) (k:=k) (g:=fun n=>cZ (nd l n)) (g':=fun n=>cZ (nd l' n)) hu (fun x hx h=>R.up hx h) hp (by rw[←gY];exact R.ends p hp) hk).2
theorem Il (R:RF l m){k:Int}{x:Int}(hx:af l x=true)(hw:k∈U.bT l x):(nd l x).doc=(nd l k).doc:=by
  have key :∀y,af l y=true→k∈U.bT l y→(nd l y).doc=(nd l k).doc:=by
    refine U.ik R.tree (P:=fun y=>k∈U.bT l y→(nd l y).doc=(nd l k).doc) (fun y hy hu hw=>?_) (fun y hy hu hy2 ih hw=>?_)
    · rw[U.eR R.tree hy hu,je] at hw
      rw[←hw]
    · rw [U.cB R.tree hy hu,eB] at hw
      rcases hw with hw|hw
      ·rw[←hw]
      · rw [←ih hw]
        by_cases hp:(nd l y).parent=-1
        · have h4:(nd l y).kind=4:=Classical.byContradiction fun c=>hu (by unfold cZ;rw[if_pos hp];exact R.noh y hy c)
          have:cZ (nd l y)=(nd l y).host:=by unfold cZ;rw[if_pos hp]
          rw[this];exact(R.host y hy h4).2.2.symm
        · have q:=R.par y hy hp
          rw[R.fj hy hp]
          exact(R.kid _ q.2.1 y q.2.2.2).2.2.1
  exact key x hx hw
def cr (l:List ai)(k d:Int):List ai:=if(nd (bj l k) k).doc=d then bj l k else iB (bj l k) (U.bQ (bj l k) (bj l k).length k) d
theorem It (R:RF l m){k:Int}(hk:af l k=true)(hkk:(nd l k).kind=1∨(nd l k).kind=2):cZ (nd (bj l k) k)=-1:=by
  rw[Gc R hk (by rcases hkk with h|h<;>simp[h]) k hk]
  by_cases hp:(nd l k).parent=-1
  ·rw[if_neg (fun q=>q.2 hp),R.H6 hk hkk];exact hp
  ·rw[if_pos ⟨rfl,hp⟩]
theorem dH (l:List ai)(k d:Int):(cr l k d).length=l.length:=by
  unfold cr
  split
  ·exact c9 l k
  ·rw[sr,c9]
theorem iA (R:RF l m){k d:Int}(hk:af l k=true)(hkk:(nd l k).kind=1∨(nd l k).kind=2)(hd:gL l d 0=true):RF (cr l k d) m:=by
  have R1:=dP R hk
  have L:=gB R hk
  unfold cr
  split
  ·exact R1
  · refine Dq R1 (by rw[bk (c9 ..)];exact hk) (It R hk hkk) (by rw[(L k hk).1.kind];omega) ?_
    rw[Ct (c9 ..) (fun x hx=>(L x hx).1)];exact hd
theorem iF (R:RF l m){k d:Int}(hk:af l k=true)(hkk:(nd l k).kind=1∨(nd l k).kind=2)(x:Int)(hx:af l x=true):iy (nd (cr l k d) x) (nd l x)∧((nd (cr l k d) x).parent=if x=k then-1 else(nd l x).parent)∧((nd (cr l k d) x).kids=if x=(nd l k).parent then(nd l x).kids.erase k else(nd l x).kids)∧
    ((nd (cr l k d) x).doc=if k∈U.bT (bj l k) x then d else(nd l x).doc):=by
  have R1:=dP R hk
  have L:=gB R hk
  have T:=bk (c9 l k)
  have hk1:af (bj l k) k=true:=by rw[T];exact hk
  have hx1:af (bj l k) x=true:=by rw[T];exact hx
  unfold cr
  by_cases e:(nd (bj l k) k).doc=d
  · rw [if_pos e]
    refine⟨(L x hx).1,(L x hx).2.2.1,(L x hx).2.2.2,?_⟩
    split
    · rename_i hw
      rw[Il R1 hx1 hw];exact e
    ·exact(L x hx).2.1
  · rw[if_neg e]
    have D:=uy (d:=d) (s:=U.bQ (bj l k) (bj l k).length k) (l:=bj l k) (fun j hj=>(U.dL R1.tree _ k hk1 j hj).1) x hx1
    refine⟨D.1.trans (L x hx).1,D.2.2.1.trans (L x hx).2.2.1,D.2.2.2.trans (L x hx).2.2.2,?_⟩
    rw[D.2.1]
    by_cases c:x∈U.bQ (bj l k) (bj l k).length k
    ·rw[if_pos c,if_pos ((U.kF R1.tree hk1 hx1).1 c)]
    ·rw[if_neg c,if_neg (fun q=>c ((U.kF R1.tree hk1 hx1).2 q))];exact(L x hx).2.1
theorem Fg (R:RF l m){k d p:Int}(hk:af l k=true)(hkk:(nd l k).kind=1∨(nd l k).kind=2)(hp:af l p=true)(hw:k∉U.bT l p):U.bT (cr l k d) p=U.bT l p:=by
  refine tj R (dH ..) hp hw fun x hx hne=>?_
  obtain⟨h1,h2,_⟩:=iF R (d:=d) hk hkk x hx
  unfold cZ
  rw[h2,if_neg hne,h1.host]
theorem xA (R:RF l m){k p:Int}(hk:af l k=true)(hp:af l p=true)(hw:k∉U.bT l p):U.bT (bj l k) p=U.bT l p:=by
  refine tj R (c9 ..) hp hw fun x hx hne=>?_
  obtain⟨h1,_,h2,_⟩:=gB R hk x hx
  unfold cZ
  rw[h2,if_neg hne,h1.host]
structure gh (l:List ai) (k p b:Int):Prop where
  tk:af l k=true
  tp:af l p=true
  kk:(nd l k).kind=1∨(nd l k).kind=2
  hd:dS (nd l p).kind=true
  w:k∉U.bT l p
  ab:b=-1∨b≠k∧b∈ (nd l p).kids
  dc:(nd l p).kind=0→(nd l k).kind=1∧cA l ((nd l p).kids.erase k)=0
def cG (l:List ai)(k p b:Int):List ai:=gy (cr l k (nd l p).doc) k p b
theorem fF (l:List ai)(k p b:Int):(cG l k p b).length=l.length:=by unfold cG;rw[lu,dH]
theorem qF {cs:List Int}{k:Int}(h:k∉cs):cs.erase k=cs:=List.erase_of_not_mem h
theorem nN (R:RF l m){k d p:Int}(hk:af l k=true)(hkk:(nd l k).kind=1∨(nd l k).kind=2)(hp:af l p=true):(nd (cr l k d) p).kids=(nd l p).kids.erase k:=by
  rw[(iF R hk hkk p hp).2.2.1]
  split
  ·rfl
  · rename_i h
    exact(qF fun q=>h (R.kid p hp k q).2.1.symm).symm
theorem j9 (R:RF l m){k p b:Int}(C:gh l k p b):RF (cG l k p b) m:=by
  have T:=bk (dH l k (nd l p).doc)
  have L:=iF R (d:=(nd l p).doc) C.tk C.kk
  have hpd:=(R.own p C.tp).1
  have R1:=iA R C.tk C.kk hpd
  have hw1:k∉U.bT (bj l k) p:=by rw[xA R C.tk C.tp C.w];exact C.w
  have hkw:k∈U.bT (bj l k) k:=U.cM (dP R C.tk).tree (by rw[bk (c9 ..)];exact C.tk)
  refine AU R1 (by rw[T];exact C.tk) (by rw[T];exact C.tp) ?_ ?_ ?_ ?_ ?_ ?_
  ·rw[(L k C.tk).2.1,if_pos rfl]
  ·rw[(L k C.tk).1.kind];exact C.kk
  ·rw[(L k C.tk).2.2.2,if_pos hkw,(L p C.tp).2.2.2,if_neg hw1]
  ·rw[(L p C.tp).1.kind];exact C.hd
  · rw[(L p C.tp).1.kind,(L k C.tk).1.kind,nN R C.tk C.kk C.tp]
    intro h0
    have:=C.dc h0
    refine⟨this.1,?_⟩
    rw[nP (fun x hx=>(L x hx).1) fun c hc=>(R.kid p C.tp c (List.mem_of_mem_erase hc)).1]
    exact this.2
  ·rw[Fg R C.tk C.kk C.tp C.w];exact C.w
theorem jH (R:RF l m){k p b:Int}(C:gh l k p b)(x:Int)(hx:af l x=true):iy (nd (cG l k p b) x) (nd l x)∧((nd (cG l k p b) x).parent=if x=k then p else(nd l x).parent)∧
    ((nd (cG l k p b) x).kids=if x=p then jR ((nd l x).kids.erase k) b k else if x=(nd l k).parent then(nd l x).kids.erase k else(nd l x).kids)∧((nd (cG l k p b) x).doc=if k∈U.bT (bj l k) x then(nd l p).doc else(nd l x).doc):=by
  have T:=bk (dH l k (nd l p).doc)
  have hne:k≠p:=fun e=>C.w (by rw[e];exact U.cM R.tree C.tp)
  have L:=iF R (d:=(nd l p).doc) C.tk C.kk x hx
  have H:=qH (l:=cr l k (nd l p).doc) (b:=b) (by rw[T];exact C.tk) (by rw[T];exact C.tp) hne x (by rw[T];exact hx)
  have hkd:=nN R (d:=(nd l p).doc) C.tk C.kk C.tp
  unfold cG
  refine⟨H.1.trans L.1,?_,?_,H.2.1.trans L.2.2.2⟩
  · rw[H.2.2.1,L.2.1]
    by_cases e:x=k
    ·rw[if_pos e,if_pos e]
    ·rw[if_neg e,if_neg e,if_neg e]
  · rw [H.2.2.2]
    by_cases e:x=p
    · subst e
      rw[if_pos rfl,if_pos rfl,hkd]
    ·rw[if_neg e,if_neg e,L.2.2.1]
theorem EA (R:RF l m){k p b:Int}(C:gh l k p b){x:Int}(hx:af l x=true)(hw:k∉U.bT l x):U.bT (cG l k p b) x=U.bT l x:=by
  refine tj R (fF ..) hx hw fun y hy hne=>?_
  obtain⟨h1,h2,_⟩:=jH R C y hy
  unfold cZ
  rw[h2,if_neg hne,h1.host]
theorem wo (R:RF l m){k j p b:Int}(C:gh l k p b)(D:gh l j p b)(hne:j≠k)(h0:(nd l p).kind≠0):gh (cG l k p b) j p b:=by
  have T:=bk (fF l k p b)
  have L:=jH R C
  refine⟨by rw[T];exact D.tk,by rw[T];exact D.tp,by rw[(L j D.tk).1.kind];exact D.kk,by rw[(L p D.tp).1.kind];exact D.hd,by rw[EA R C D.tp C.w];exact D.w,?_,fun q=>?_⟩
  · rcases D.ab with h|⟨h1,h2⟩
    ·exact .inl h
    · refine .inr ⟨h1,?_⟩
      rw[(L p D.tp).2.2.1,if_pos rfl,si]
      refine .inr ((List.mem_erase_of_ne ?_).2 h2)
      rcases C.ab with c|c
      ·have:=br (R.kid p D.tp b h2).1;omega
      ·exact c.1
  ·rw[(L p D.tp).1.kind] at q;exact absurd q h0
end
def IN (l:List ai)(n:Int):List Int:=(U.bQ l l.length n).filter fun k=>decide ((nd l k).kind=1)
def ju (l:List ai)(n:Int):Bool:=decide ((nd l (oe l n)).kind=0)
def k9 (l:List ai)(n:Int)(x:aO):List aO:=(IN l n).map fun k=>{x with node:=k}
def dY (kind src dst:Int):aO:=⟨kind,0,src,dst,⟨#[]⟩,false,false,⟨#[]⟩,⟨#[]⟩⟩
def bW (s:List ai×List aO)(n:Int):List ai×List aO:=if(nd s.1 n).parent=-1 then s else(bj s.1 n,s.2++if ju s.1 n=true then k9 s.1 n (dY 2 0 0) else[])
def gC (s:List ai×List aO)(k d:Int):List ai×List aO:=if(nd (bW s k).1 k).doc=d then bW s k else(cr s.1 k d,(bW s k).2++k9 (cr s.1 k d) k (dY 3 (nd (bW s k).1 k).doc d))
def cz (p b:Int)(s:List ai×List aO)(k:Int):List ai×List aO:=(cG s.1 k p b,(gC s k (nd s.1 p).doc).2++if ju (cG s.1 k p b) k=true then k9 (cG s.1 k p b) k (dY 1 0 0) else[])
def cC (l:List ai)(n:Int):List Int:=if(nd l n).kind=3 then(nd l n).kids else[n]
def cJ (s:List ai×List aO)(n p b:Int):List ai×List aO:=(cC s.1 n).foldl (cz p b) (if(nd s.1 n).kind=3 then(cC s.1 n).foldl bW s else s)
theorem gl (s:List ai×List aO)(n:Int):(bW s n).1=bj s.1 n:=by
  unfold bW
  by_cases h:(nd s.1 n).parent=-1
  ·rw[if_pos h];unfold bj;rw[if_pos h]
  ·rw[if_neg h]
theorem qR (p b:Int)(s:List ai×List aO)(k:Int):(cz p b s k).1=cG s.1 k p b:=rfl
structure oh (l:List ai) (n p b:Int):Prop where
  tn:af l n=true
  tp:af l p=true
  kk:(nd l n).kind=1∨(nd l n).kind=2∨(nd l n).kind=3
  hd:dS (nd l p).kind=true
  w:n∉U.bT l p
  ab:b=-1∨b≠n∧b∈ (nd l p).kids
  dc:(nd l p).kind=0→(∀k∈cC l n,(nd l k).kind=1)∧(cC l n).length+cA l ((nd l p).kids.erase n)≤1
section
variable {l l' : List ai} {m : Int}
theorem gO {n:Int}(h:(nd l n).kind≠3):cC l n=[n]:=by unfold cC;rw[if_neg h]
theorem pZ {n p b:Int}(C:oh l n p b)(h:(nd l n).kind≠3):gh l n p b:=by
  refine⟨C.tn,C.tp,by have:=C.kk;omega,C.hd,C.w,C.ab,fun h0=>?_⟩
  have:=C.dc h0
  rw[gO h] at this
  exact⟨this.1 n (by simp),by have:=this.2;simp at this;omega⟩
theorem lV:∀ (ks:List Int) {l:List ai},RF l m→(∀k∈ks,af l k=true)→RF (ks.foldl bj l) m∧(ks.foldl bj l).length=l.length
  |[],l,R,_=>⟨R,rfl⟩
  | k::ks,l,R,h=>by
    have h1:=lV ks (dP R (h k gE)) (fun j hj=>by rw[bk (c9 ..)];exact h j (fJ _ hj))
    exact⟨h1.1,h1.2.trans (c9 ..)⟩
theorem jJ:∀ (ks:List Int) {l:List ai},RF l m→(∀k∈ks,af l k=true)→∀ (n:Int),(∀k∈ks,(nd l k).parent=n∨(nd l k).parent=-1)→∀x,af l x=true→iy (nd (ks.foldl bj l) x) (nd l x)∧(nd (ks.foldl bj l) x).doc=(nd l x).doc∧((nd (ks.foldl bj l) x).parent=if x∈ks then-1 else(nd l x).parent)∧(x≠n→(nd (ks.foldl bj l) x).kids=(nd l x).kids)
  |[],l,R,_,n,_,x,hx=>⟨.refl _,rfl,by rw[if_neg (by simp)];rfl,fun _=>rfl⟩
  | k :: ks,l,R,h,n,hp,x,hx=>by
    have T:=bk (c9 l k)
    have hk:=h k gE
    have L:=gB R hk
    have R1:=dP R hk
    have h1:=jJ ks R1 (fun j hj=>by rw[T];exact h j (fJ _ hj)) n (fun j hj=>by
      rw[(L j (h j (fJ _ hj))).2.2.1]
      split
      ·exact .inr rfl
      ·exact hp j (fJ _ hj)) x (by rw[T];exact hx)
    refine⟨h1.1.trans (L x hx).1,h1.2.1.trans (L x hx).2.1,?_,fun hne=>(h1.2.2.2 hne).trans ?_⟩
    · show(nd (ks.foldl bj (bj l k)) x).parent=_
      rw[h1.2.2.1,(L x hx).2.2.1]
      by_cases e:x=k
      · subst e
        rw[if_pos gE,if_pos rfl]
        split<;>rfl
      · rw[if_neg e]
        by_cases c:x∈ks
        ·rw[if_pos c,if_pos (fJ _ c)]
        ·rw[if_neg c,if_neg (fun q=>(eB.1 q).elim e c)]
    · rw [(L x hx).2.2.2]
      split
      · rename_i e
        rcases hp k gE with q|q
        ·exact absurd (e.trans q) hne
        ·have:=br hx;omega
      ·rfl
theorem zj:∀ (ks:List Int) {l:List ai},RF l m→(∀k∈ks,af l k=true)→∀ {p:Int},af l p=true→(∀k∈ks,k∉U.bT l p)→U.bT (ks.foldl bj l) p=U.bT l p
  |[],l,R,_,p,_,_=>rfl
  | k::ks,l,R,h,p,hp,hw=>by
    have T:=bk (c9 l k)
    have hk:=h k gE
    have e:=xA R hk hp (hw k gE)
    have h1:=zj ks (dP R hk) (fun j hj=>by rw[T];exact h j (fJ _ hj)) (by rw[T];exact hp) (fun j hj=>by rw[e];exact hw j (fJ _ hj))
    exact h1.trans e
theorem pC (R:RF l m){n p b:Int}(C:oh l n p b)(h3:(nd l n).kind=3):RF ((nd l n).kids.foldl bj l) m∧((nd l n).kids.foldl bj l).length=l.length∧(∀k∈ (nd l n).kids,gh ((nd l n).kids.foldl bj l) k p b∧(nd ((nd l n).kids.foldl bj l) k).parent=-1)∧((nd l p).kind=0→(nd l n).kids.length≤1):=by
  have hks:∀k∈ (nd l n).kids,af l k=true:=fun k hk=>(R.kid n C.tn k hk).1
  have h1:=lV (m:=m) (nd l n).kids R hks
  have L:=jJ (nd l n).kids R hks n (fun k hk=>.inl (R.kid n C.tn k hk).2.1)
  have hne:p≠n:=fun e=>C.w (by rw[←e];exact U.cM R.tree C.tp)
  have hwk:∀k∈ (nd l n).kids,k∉U.bT l p:=fun k hk hw=>by
    refine C.w (U.nT R.tree C.tp ?_ hw)
    have hn0:=br C.tn
    have q:=R.kid n C.tn k hk
    rw[U.cB R.tree q.1 (by rw[R.fj q.1 (by omega)];omega),R.fj q.1 (by omega),q.2.1]
    exact fJ _ (U.cM R.tree C.tn)
  have hW:=zj (nd l n).kids R hks C.tp hwk
  have T:=bk h1.2
  have hpar:cC l n=(nd l n).kids:=by unfold cC;rw[if_pos h3]
  refine⟨h1.1,h1.2,fun k hk=>⟨⟨by rw[T];exact hks k hk,by rw[T];exact C.tp,?_,by rw[(L p C.tp).1.kind];exact C.hd,by rw[hW];exact hwk k hk,?_,fun h0=>?_⟩,?_⟩,fun h0=>?_⟩
  ·rw[(L k (hks k hk)).1.kind];have:=(R.kid n C.tn k hk).2.2.2;omega
  · rw [(L p C.tp).2.2.2 hne]
    rcases C.ab with h|⟨h,h2⟩
    ·exact .inl h
    · refine .inr ⟨fun e=>hne ?_,h2⟩
      have q1:=(R.kid p C.tp b h2).2.1
      have q2:=(R.kid n C.tn k hk).2.1
      rw[e] at q1;rw[←q1,←q2]
  · rw [(L p C.tp).1.kind] at h0
    have q:=C.dc h0
    rw[hpar] at q
    have hk1:=q.1 k hk
    have hnk:n∉ (nd l p).kids:=fun h=>by have:=(R.kid p C.tp n h).2.2.2;omega
    have hkk:k∉ (nd l p).kids:=fun h=>by
      have q1:=(R.kid p C.tp k h).2.1
      have q2:=(R.kid n C.tn k hk).2.1
      exact hne (q1.symm.trans q2)
    rw[(L k (hks k hk)).1.kind,(L p C.tp).2.2.2 hne,qF hkk]
    refine⟨hk1,?_⟩
    rw[nP (fun x hx=>(L x hx).1) fun c hc=>(R.kid p C.tp c hc).1]
    have:=q.2
    rw[qF hnk] at this
    have:1≤ (nd l n).kids.length:=List.length_pos_of_mem hk
    omega
  ·rw[(L k (hks k hk)).2.2.1,if_pos hk]
  · have:=(C.dc h0).2
    rw[hpar] at this;omega
theorem mO {p b:Int}:∀ (ks:List Int) {l:List ai},RF l m→ks.Nodup→(∀k∈ks,gh l k p b)→((nd l p).kind=0→ks.length≤1)→RF (ks.foldl (fun l k=>cG l k p b) l) m∧(ks.foldl (fun l k=>cG l k p b) l).length=l.length
  |[],l,R,_,_,_=>⟨R,rfl⟩
  | k ::ks,l,R,hd,h,h0=>by
    rw[List.nodup_cons] at hd
    have C:=h k gE
    have h1:=mO (p:=p) (b:=b) ks (j9 R C) hd.2 (fun j hj=>wo R C (h j (fJ _ hj)) (fun e=>hd.1 (e▸hj)) (fun e=>by
      have q1:(k::ks).length≤1:=h0 e
      have q2:=List.length_pos_of_mem hj
      rw[List.length_cons] at q1;omega)) (fun e=>by
      rw[(jH R C p C.tp).1.kind] at e
      have q1:(k::ks).length≤1:=h0 e
      rw[List.length_cons] at q1;omega)
    exact⟨h1.1,h1.2.trans (fF ..)⟩
end
theorem gw:∀ (ks:List Int) (s:List ai×List aO),(ks.foldl bW s).1=ks.foldl bj s.1
  |[],s=>rfl
  | k::ks,s=>by
    show(ks.foldl bW (bW s k)).1=ks.foldl bj (bj s.1 k)
    rw[gw ks,gl]
theorem uk (p b:Int):∀ (ks:List Int) (s:List ai×List aO),(ks.foldl (cz p b) s).1=ks.foldl (fun l k=>cG l k p b) s.1
  |[],s=>rfl
  | k::ks,s=>by
    show(ks.foldl (cz p b) (cz p b s k)).1=_
    rw[uk p b ks];rfl
theorem nI {l:List ai}{m:Int}(R:RF l m)(t:List aO){n p b:Int}(C:oh l n p b):RF (cJ (l,t) n p b).1 m∧(cJ (l,t) n p b).1.length=l.length:=by
  unfold cJ
  rw[uk]
  by_cases h3:(nd l n).kind=3
  · have hpar:cC l n=(nd l n).kids:=by unfold cC;rw[if_pos h3]
    obtain⟨h1,h2,h4,h5⟩:=pC R C h3
    simp only[hpar,if_pos h3,gw]
    have hks:∀k∈ (nd l n).kids,af l k=true:=fun k hk=>(R.kid n C.tn k hk).1
    have L:=jJ (nd l n).kids R hks n (fun k hk=>.inl (R.kid n C.tn k hk).2.1)
    have:=mO (nd l n).kids h1 (R.dup n C.tn) (fun k hk=>(h4 k hk).1) (fun e=>h5 (by rw[←(L p C.tp).1.kind];exact e))
    exact⟨this.1,this.2.trans h2⟩
  · simp only[gO h3,if_neg h3]
    have:=mO [n] R (by simp) (fun k hk=>by rw[je.1 hk];exact pZ C h3) (fun _=>by simp)
    exact this
end Go.Proofs.Heir
