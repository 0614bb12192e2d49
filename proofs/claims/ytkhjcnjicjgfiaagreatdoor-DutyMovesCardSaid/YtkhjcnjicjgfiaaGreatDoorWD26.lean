/- Models, plain laws and contracts of functions of the given program; conditions as stated in each theorem. By an AI agent. -/
import Derived.Test.YtkhjcnjicjgfiaaGreatDoorWD16
import Derived.Test.YtkhjcnjicjgfiaaGreatDoorWD12
import Derived.Deep.RegionLaw
import Derived.Lib.SliceRun
import Derived.Laws.Tables
import Derived.Laws.CopyRow
import Derived.Sort.WalkB12
import Derived.Laws.StructEq
import Derived.Tactics
import Derived.Test.YtkhjcnjicjgfiaaGreatDoorWD14
import Derived.Test.YtkhjcnjicjgfiaaGreatDoorWD11
set_option linter.unusedSimpArgs false
set_option linter.unusedVariables false
namespace Go.Proofs.Heir
open Go Go.Am Go.RowKit Go.Lib
set_option maxRecDepth 100000
set_option maxHeartbeats 8000000
set_option maxHeartbeats 8000000
structure RF (l:List ai) (m:Int):Prop where
  head:oF ⟨l,m⟩=true
  Jz:∀n,aa l n=true→fE (nd l n)=true
  own:∀n,aa l n=true→nV l (nd l n).doc 0=true∧((nd l n).kind=0→(nd l n).doc=n)
  par:∀n,aa l n=true→(nd l n).parent≠-1→((nd l n).kind=1∨(nd l n).kind=2)∧aa l (nd l n).parent=true∧iD (nd l (nd l n).parent).kind=true∧n∈ (nd l (nd l n).parent).kids
  kid:∀n,aa l n=true→∀c∈ (nd l n).kids,aa l c=true∧(nd l c).parent=n∧(nd l c).doc=(nd l n).doc∧((nd l c).kind=1∨(nd l c).kind=2∧(nd l n).kind≠0)
  dup:∀n,aa l n=true→(nd l n).kids.Nodup
  hold:∀n,aa l n=true→(nd l n).kids≠ []→iD (nd l n).kind=true
  elems:∀n,aa l n=true→(nd l n).kind=0→eG l (nd l n).kids≤1
  host:∀n,aa l n=true→(nd l n).kind=4→nV l (nd l n).host 1=true∧(nd l (nd l n).host).under=n∧(nd l (nd l n).host).doc=(nd l n).doc
  noh:∀n,aa l n=true→(nd l n).kind≠4→(nd l n).host=-1
  und:∀n,aa l n=true→(nd l n).under≠-1→(nd l n).kind=1∧nV l (nd l n).under 4=true∧(nd l (nd l n).under).host=n
  ends:∀n,aa l n=true→fU l l.length n=true
theorem Bh {l:List ai}{n:Int}{x:ai}:cQ l n x=true↔fE x=true∧(nV l x.doc 0=true∧(x.kind=0→x.doc=n))∧(x.parent≠-1→(x.kind=1∨x.kind=2)∧aa l x.parent=true∧iD (nd l x.parent).kind=true∧n∈ (nd l x.parent).kids)∧
    (∀c∈x.kids,aa l c=true∧(nd l c).parent=n∧(nd l c).doc=x.doc∧((nd l c).kind=1∨(nd l c).kind=2∧x.kind≠0))∧x.kids.Nodup∧(x.kids≠ []→iD x.kind=true)∧(x.kind=0→eG l x.kids≤1)∧
    (x.kind=4→nV l x.host 1=true∧(nd l x.host).under=n∧(nd l x.host).doc=x.doc)∧(x.kind≠4→x.host=-1)∧(x.under≠-1→x.kind=1∧nV l x.under 4=true∧(nd l x.under).host=n):=by
  unfold cQ tK rA ou j1 tE
  simp only[bJ,Bool.or_eq_true,bH]
  rw[k9]
  have hk:∀c,zy l n x c=true↔aa l c=true∧(nd l c).parent=n∧(nd l c).doc=x.doc∧((nd l c).kind=1∨(nd l c).kind=2∧x.kind≠0):=fun c=>by
    unfold zy
    simp only[bJ,Bool.or_eq_true,bH]
  simp only[hk]
  by_cases e4:x.kind=4
  · rw [if_pos e4]
    simp only[bJ,bH]
    constructor
    · rintro⟨a,⟨b1,b2⟩,c,⟨⟨d1,d2,_⟩,e1,e2⟩,f,g⟩
      exact⟨a,⟨b1,fun h=>b2.resolve_left (fun q=>q h)⟩,fun h=>let q:=c.resolve_left h;⟨q.1.1.1,q.1.1.2,q.1.2,q.2⟩,d1,d2,fun h=>e1.resolve_right h,fun h=>e2.resolve_left (fun q=>q h),fun _=>⟨f.1.1,f.1.2,f.2⟩,fun h=>absurd e4 h,fun h=>let q:=g.resolve_left h;⟨q.1.1,q.1.2,q.2⟩⟩
    · rintro⟨a,⟨b1,b2⟩,c,d1,d2,e1,e2,f,_,g⟩
      refine⟨a,⟨b1,?_⟩,?_,⟨⟨d1,d2,fun _ _=>by simp⟩,?_,?_⟩,?_,?_⟩
      · by_cases h:x.kind=0
        ·exact .inr (b2 h)
        ·exact .inl h
      · by_cases h:x.parent=-1
        ·exact .inl h
        ·have q:=c h;exact .inr ⟨⟨⟨q.1,q.2.1⟩,q.2.2.1⟩,q.2.2.2⟩
      · by_cases h:x.kids=[]
        ·exact .inr h
        ·exact .inl (e1 h)
      · by_cases h:x.kind=0
        ·exact .inr (e2 h)
        ·exact .inl h
      ·have q:=f e4;exact⟨⟨q.1,q.2.1⟩,q.2.2⟩
      · by_cases h:x.under=-1
        ·exact .inl h
        ·have q:=g h;exact .inr ⟨⟨q.1,q.2.1⟩,q.2.2⟩
  · rw [if_neg e4]
    simp only[bH]
    constructor
    · rintro⟨a,⟨b1,b2⟩,c,⟨⟨d1,d2,_⟩,e1,e2⟩,f,g⟩
      exact⟨a,⟨b1,fun h=>b2.resolve_left (fun q=>q h)⟩,fun h=>let q:=c.resolve_left h;⟨q.1.1.1,q.1.1.2,q.1.2,q.2⟩,d1,d2,fun h=>e1.resolve_right h,fun h=>e2.resolve_left (fun q=>q h),fun h=>absurd h e4,fun _=>f,fun h=>let q:=g.resolve_left h;⟨q.1.1,q.1.2,q.2⟩⟩
    · rintro⟨a,⟨b1,b2⟩,c,d1,d2,e1,e2,_,f,g⟩
      refine⟨a,⟨b1,?_⟩,?_,⟨⟨d1,d2,fun _ _=>by simp⟩,?_,?_⟩,f e4,?_⟩
      · by_cases h:x.kind=0
        ·exact .inr (b2 h)
        ·exact .inl h
      · by_cases h:x.parent=-1
        ·exact .inl h
        ·have q:=c h;exact .inr ⟨⟨⟨q.1,q.2.1⟩,q.2.2.1⟩,q.2.2.2⟩
      · by_cases h:x.kids=[]
        ·exact .inr h
        ·exact .inl (e1 h)
      · by_cases h:x.kind=0
        ·exact .inr (e2 h)
        ·exact .inl h
      · by_cases h:x.under=-1
        ·exact .inl h
        ·have q:=g h;exact .inr ⟨⟨q.1,q.2.1⟩,q.2.2⟩
theorem lV {l:List ai}{m:Int}:aU ⟨l,m⟩=true↔RF l m:=by
  unfold aU
  simp only[bJ]
  rw[vq (fun n x=>cQ l n x),vq (fun n _=>fU l l.length n)]
  simp only[Bh]
  constructor
  · rintro⟨h1,h2,h3⟩
    exact⟨h1,fun n hn=>(h2 n hn).1,fun n hn=>(h2 n hn).2.1,fun n hn=>(h2 n hn).2.2.1,fun n hn=>(h2 n hn).2.2.2.1,fun n hn=>(h2 n hn).2.2.2.2.1,fun n hn=>(h2 n hn).2.2.2.2.2.1,fun n hn=>(h2 n hn).2.2.2.2.2.2.1,fun n hn=>(h2 n hn).2.2.2.2.2.2.2.1,fun n hn=>(h2 n hn).2.2.2.2.2.2.2.2.1,fun n hn=>(h2 n hn).2.2.2.2.2.2.2.2.2,h3⟩
  · intro R
    exact⟨R.head,fun n hn=>⟨R.Jz n hn,R.own n hn,R.par n hn,R.kid n hn,R.dup n hn,R.hold n hn,R.elems n hn,R.host n hn,R.noh n hn,R.und n hn⟩,R.ends⟩
def zi (l:List ai)(n:Int)(g:ai→ai):List ai:=l.set n.toNat (g (nd l n))
theorem r5 (l:List ai)(n:Int)(g:ai→ai):(zi l n g).length=l.length:=List.length_set ..
theorem fJ {l l':List ai}(h:l'.length=l.length)(n:Int):aa l' n=aa l n:=by unfold aa;rw[h]
theorem B8 {l:List ai}{n x:Int}(g:ai→ai)(hn:aa l n=true)(hx:aa l x=true):nd (zi l n g) x=if x=n then g (nd l n) else nd l x:=by
  have h1:=bQ hn
  have h2:=bQ hx
  show((l.set n.toNat (g (nd l n)))[x.toNat]?).getD FJ=_
  rw[List.getElem?_set]
  by_cases e:x=n
  · subst e
    rw[if_pos rfl,if_pos (by omega),if_pos rfl];rfl
  ·rw[if_neg (by omega),if_neg e];rfl
structure iX (x y:ai):Prop where
  kind:x.kind=y.kind
  name:x.name=y.name
  is:x.is=y.is
  data:x.data=y.data
  attrs:x.attrs=y.attrs
  host:x.host=y.host
  under:x.under=y.under
theorem iX.refl (x:ai):iX x x:=⟨rfl,rfl,rfl,rfl,rfl,rfl,rfl⟩
theorem iX.trans {x y z:ai}(h:iX x y)(k:iX y z):iX x z:=⟨h.1.trans k.1,h.2.trans k.2,h.3.trans k.3,h.4.trans k.4,h.5.trans k.5,h.6.trans k.6,h.7.trans k.7⟩
theorem iX.Jz {x y:ai}(h:iX x y):fE x=fE y:=by unfold fE;rw[h.kind,h.name,h.is,h.data,h.attrs]
section
variable {l l' : List ai} {m : Int}
theorem It (hl:l'.length=l.length)(hs:∀x,aa l x=true→iX (nd l' x) (nd l x))(a k:Int):nV l' a k=nV l a k:=by
  unfold nV
  rw[fJ hl]
  cases h:aa l a with
  |false=>rfl
  |true=>rw[(hs a h).kind]
theorem D5 (hs:∀x,aa l x=true→iX (nd l' x) (nd l x)){cs:List Int}(h:∀c∈cs,aa l c=true):eG l' cs=eG l cs:=by
  unfold eG
  exact List.countP_congr fun c hc=>by rw[(hs c (h c hc)).kind]
theorem RF.pos (R:RF l m):aa l 0=true:=by
  have:=R.head
  unfold oF at this
  simp only[bJ,bH] at this
  unfold aa
  simp;omega
theorem RF.jQ (R:RF l m)(hl:l'.length=l.length)(hs:∀x,aa l x=true→iX (nd l' x) (nd l x))
    (own:∀n,aa l n=true→nV l (nd l' n).doc 0=true∧((nd l n).kind=0→(nd l' n).doc=n))
    (par:∀n,aa l n=true→(nd l' n).parent≠-1→((nd l n).kind=1∨(nd l n).kind=2)∧aa l (nd l' n).parent=true∧iD (nd l (nd l' n).parent).kind=true∧n∈ (nd l' (nd l' n).parent).kids)
    (kid:∀n,aa l n=true→∀c∈ (nd l' n).kids,aa l c=true∧(nd l' c).parent=n∧(nd l' c).doc=(nd l' n).doc∧((nd l c).kind=1∨(nd l c).kind=2∧(nd l n).kind≠0))
    (dup:∀n,aa l n=true→(nd l' n).kids.Nodup) (hold:∀n,aa l n=true→(nd l' n).kids≠ []→iD (nd l n).kind=true)
    (elems:∀n,aa l n=true→(nd l n).kind=0→eG l (nd l' n).kids≤1)
    (hdoc:∀n,aa l n=true→(nd l n).kind=4→(nd l' (nd l n).host).doc=(nd l' n).doc)
    (ends:∀n,aa l n=true→fU l' l.length n=true):RF l' m:=by
  have T:=fJ hl
  have I:=It hl hs
  have isT:∀ {a k:Int},nV l a k=true→aa l a=true:=fun h=>by unfold nV at h;rw[bJ] at h;exact h.1
  refine⟨?_,fun n hn=>?_,fun n hn=>?_,fun n hn h=>?_,fun n hn c hc=>?_,fun n hn=>?_,fun n hn h=>?_,fun n hn h=>?_,fun n hn h=>?_,fun n hn h=>?_,fun n hn h=>?_,fun n hn=>?_⟩
  · have:=R.head
    unfold oF at this ⊢
    rw[hl,(hs 0 R.pos).kind];exact this
  all_goals rw[T] at hn
  ·rw[(hs n hn).Jz];exact R.Jz n hn
  ·rw[I,(hs n hn).kind];exact own n hn
  · have q:=par n hn h
    rw[T,(hs n hn).kind,(hs _ q.2.1).kind];exact q
  · have q:=kid n hn c hc
    rw[T,(hs n hn).kind,(hs c q.1).kind];exact q
  ·exact dup n hn
  ·rw[(hs n hn).kind];exact hold n hn h
  · rw[(hs n hn).kind] at h
    rw[D5 hs fun c hc=>(kid n hn c hc).1];exact elems n hn h
  · rw[(hs n hn).kind] at h
    have q:=R.host n hn h
    rw[I,(hs n hn).host,(hs _ (isT q.1)).under]
    exact⟨q.1,q.2.1,hdoc n hn h⟩
  · rw[(hs n hn).kind] at h
    rw[(hs n hn).host];exact R.noh n hn h
  · rw[(hs n hn).under] at h
    have q:=R.und n hn h
    rw[I,(hs n hn).kind,(hs n hn).under,(hs _ (isT q.2.1)).host];exact q
  ·rw[hl];exact ends n hn
theorem RF.tree (R:RF l m):U.Tree l:=U.dY (f:=⟨l,m⟩) (lV.2 R)
theorem RF.up (R:RF l m){n:Int}(hn:aa l n=true)(h:gb (nd l n)≠-1):aa l (gb (nd l n))=true:=zU R.tree n hn h
theorem xN {g g':Int→Int}{P:Int→Prop}(hg:∀x,P x→g' x=g x∨g' x=-1)(hP:∀x,P x→g x≠-1→P (g x)):∀ {k:Nat} {x:Int},P x→jk g k x=true→jk g' k x=true
  |0,_,_,h=>by simp[jk] at h
  | k +1,x,hx,h=>by
    unfold jk at h ⊢
    rcases hg x hx with e|e
    · rw[e]
      by_cases c:g x=-1
      ·rw[if_pos c]
      ·rw[if_neg c] at h ⊢;exact xN hg hP (hP x hx c) h
    ·rw[if_pos e]
theorem wj {g g':Int→Int}{P:Int→Prop}{k:Int}(hg:∀x,P x→x≠k→g' x=g x)(hP:∀x,P x→g x≠-1→P (g x)):∀ {j:Nat} {x:Int},P x→jk g j x=true→k∉yh g j x→jk g' j x=true∧yh g' j x=yh g j x
  |0,_,_,h,_=>by simp[jk] at h
  | j +1,x,hx,h,hk=>by
    unfold jk at h ⊢
    unfold yh at hk ⊢
    have hne:x≠k:=fun e=>hk (e▸jC)
    rw[hg x hx hne]
    by_cases c:g x=-1
    ·rw[if_pos c,if_pos c,if_pos c];exact⟨rfl,rfl⟩
    · rw[if_neg c] at h hk ⊢
      rw[if_neg c,if_neg c]
      have:=wj hg hP (hP x hx c) h (fun q=>hk (gy _ q))
      exact⟨this.1,by rw[this.2]⟩
theorem RF.tv (R:RF l m){n:Int}(hn:aa l n=true):gb (nd l n)≠n:=fun e=>by
  have hp:=bQ hn
  have h:=U.bP R.tree hn (by rw[e];omega)
  rw[e] at h
  have:=congrArg List.length h
  simp at this
theorem RF.uq (R:RF l m){n:Int}(hn:aa l n=true)(h:(nd l n).parent≠-1):gb (nd l n)=(nd l n).parent:=by
  unfold gb;rw[if_neg h]
def dh (l:List ai)(n:Int):List ai:=if(nd l n).parent=-1 then l else zi (zi l (nd l n).parent fun x=>{x with kids:=x.kids.erase n}) n fun x=>{x with parent:=-1}
theorem o5 (l:List ai)(n:Int):(dh l n).length=l.length:=by
  unfold dh;split
  ·rfl
  ·rw[r5,r5]
theorem L2 (R:RF l m){n x:Int}(hn:aa l n=true)(hp:(nd l n).parent≠-1)(hx:aa l x=true):
    nd (dh l n) x=if x=n then{nd l n with parent:=-1} else if x=(nd l n).parent then{nd l x with kids:=(nd l x).kids.erase n} else nd l x:=by
  have hpt:=(R.par n hn hp).2.1
  have hne:(nd l n).parent≠n:=by have:=R.tv hn;rwa [R.uq hn hp] at this
  unfold dh
  rw[if_neg hp,B8 _ (by rw[fJ (r5 ..)];exact hn) (by rw[fJ (r5 ..)];exact hx)]
  by_cases e:x=n
  ·rw[if_pos e,if_pos e,B8 _ hpt hn,if_neg (fun q=>hne q.symm)]
  · rw[if_neg e,if_neg e,B8 _ hpt hx]
    by_cases c:x=(nd l n).parent
    ·rw[if_pos c,if_pos c,←c]
    ·rw[if_neg c,if_neg c]
theorem gg (R:RF l m){n:Int}(hn:aa l n=true)(x:Int)(hx:aa l x=true):iX (nd (dh l n) x) (nd l x)∧(nd (dh l n) x).doc=(nd l x).doc∧((nd (dh l n) x).parent=if x=n then-1 else(nd l x).parent)∧((nd (dh l n) x).kids=if x=(nd l n).parent then(nd l x).kids.erase n else(nd l x).kids):=by
  by_cases hp:(nd l n).parent=-1
  · have h0:=bQ hx
    unfold dh
    rw[if_pos hp]
    refine⟨.refl _,rfl,?_,?_⟩
    · split
      ·rename_i e;rw[e,hp]
      ·rfl
    ·rw[if_neg (by omega)]
  · have hne:(nd l n).parent≠n:=by have:=R.tv hn;rwa [R.uq hn hp] at this
    rw[L2 R hn hp hx]
    by_cases e:x=n
    · subst e
      rw[if_pos rfl,if_pos rfl,if_neg (fun q=>hne q.symm)]
      exact⟨⟨rfl,rfl,rfl,rfl,rfl,rfl,rfl⟩,rfl,rfl,rfl⟩
    · rw [if_neg e,if_neg e]
      by_cases c:x=(nd l n).parent
      · rw[if_pos c,if_pos c]
        exact⟨⟨rfl,rfl,rfl,rfl,rfl,rfl,rfl⟩,rfl,rfl,rfl⟩
      · rw[if_neg c,if_neg c]
        exact⟨.refl _,rfl,rfl,rfl⟩
theorem L7 (R:RF l m){n:Int}(hn:aa l n=true)(hk:(nd l n).kind=1∨(nd l n).kind=2∨(nd l n).parent=-1)(x:Int)(hx:aa l x=true):gb (nd (dh l n) x)=if x=n∧(nd l n).parent≠-1 then-1 else gb (nd l x):=by
  obtain⟨h1,_,h3,_⟩:=gg R hn x hx
  by_cases e:x=n
  · subst e
    by_cases hp:(nd l x).parent=-1
    · rw[if_neg (fun q=>q.2 hp)]
      unfold gb
      rw[h3,if_pos rfl,if_pos rfl,if_pos hp,h1.host]
    · rw[if_pos ⟨rfl,hp⟩]
      unfold gb
      rw[h3,if_pos rfl,if_pos rfl,h1.host]
      exact R.noh x hx (by have:=(R.par x hx hp).1;omega)
  · rw[if_neg (fun q=>e q.1)]
    unfold gb
    rw[h3,if_neg e,h1.host]
theorem qp (R:RF l m){n:Int}(hn:aa l n=true):RF (dh l n) m:=by
  by_cases hp:(nd l n).parent=-1
  · have e:dh l n=l:=by unfold dh;rw[if_pos hp]
    rw[e];exact R
  have L:=gg R hn
  have hpt:=(R.par n hn hp).2.1
  have hkn:=(R.par n hn hp).1
  refine R.jQ (o5 l n) (fun x hx=>(L x hx).1) (fun x hx=>?_) (fun x hx h=>?_) (fun x hx c hc=>?_) (fun x hx=>?_) (fun x hx h=>?_) (fun x hx h=>?_) (fun x hx h=>?_) (fun x hx=>?_)
  ·rw[(L x hx).2.1];exact R.own x hx
  · rw [(L x hx).2.2.1] at h ⊢
    by_cases e:x=n
    ·rw[if_pos e] at h;exact absurd rfl h
    · rw[if_neg e] at h ⊢
      obtain⟨q1,q2,q3,q4⟩:=R.par x hx h
      refine⟨q1,q2,q3,?_⟩
      rw[(L _ q2).2.2.2]
      split
      ·exact(List.mem_erase_of_ne e).2 q4
      ·exact q4
  · have hc':c∈ (nd l x).kids:=by
      rw[(L x hx).2.2.2] at hc
      split at hc
      ·exact List.mem_of_mem_erase hc
      ·exact hc
    obtain⟨q1,q2,q3,q4⟩:=R.kid x hx c hc'
    have hcn:c≠n:=fun e=>by
      subst e
      rw[(L x hx).2.2.2,if_pos q2.symm] at hc
      exact(List.Nodup.mem_erase_iff (R.dup x hx)).1 hc|>.1 rfl
    rw[(L c q1).2.2.1,if_neg hcn,(L c q1).2.1,(L x hx).2.1]
    exact⟨q1,q2,q3,q4⟩
  · rw[(L x hx).2.2.2]
    split
    ·exact(R.dup x hx).erase _
    ·exact R.dup x hx
  · refine R.hold x hx fun e=>h ?_
    rw[(L x hx).2.2.2,e];simp
  · rw[(L x hx).2.2.2]
    split
    ·exact Nat.le_trans (List.Sublist.countP_le List.erase_sublist) (R.elems x hx h)
    ·exact R.elems x hx h
  · have q:=(R.host x hx h).1
    have ht:aa l (nd l x).host=true:=by unfold nV at q;rw[bJ] at q;exact q.1
    rw[(L _ ht).2.1,(L x hx).2.1];exact(R.host x hx h).2.2
  · rw[tY]
    refine xN (g:=fun n=>gb (nd l n)) (P:=fun x=>aa l x=true) (fun y hy=>?_) (fun y hy h=>R.up hy h) hx (by rw[←tY];exact R.ends x hx)
    have:=L7 R hn (by rcases hkn with k|k<;>simp[k]) y hy
    simp only[this]
    split
    ·exact .inr rfl
    ·exact .inl rfl
def Oy (cs:List Int)(b k:Int):List Int:=if b=-1 then cs++ [k] else cs.takeWhile (fun c=>decide (c≠b))++k::cs.dropWhile (fun c=>decide (c≠b))
def MX (l:List ai)(k p b:Int):List ai:=zi (zi l p fun x=>{x with kids:=Oy x.kids b k}) k fun x=>{x with parent:=p}
def Oq (l:List ai)(s:List Int)(d:Int):List ai:=s.foldl (fun l k=>zi l k fun x=>{x with doc:=d}) l
end
section
variable {l l' : List ai} {m : Int}
def HG (l:List ai)(k d:Int):List ai:=if(nd (dh l k) k).doc=d then dh l k else Oq (dh l k) (U.cD (dh l k) (dh l k).length k) d
def FO (l:List ai)(k p b:Int):List ai:=MX (HG l k (nd l p).doc) k p b
end
def MM (l:List ai)(n:Int):List Int:=(U.cD l l.length n).filter fun k=>decide ((nd l k).kind=1)
def pI (l:List ai)(n:Int):Bool:=decide ((nd l (qj l n)).kind=0)
def ru (l:List ai)(n:Int)(x:bZ):List bZ:=(MM l n).map fun k=>{x with node:=k}
def kZ (kind src dst:Int):bZ:=⟨kind,0,src,dst,⟨#[]⟩,false,false,⟨#[]⟩,⟨#[]⟩⟩
def uQ (s:List ai×List bZ)(n:Int):List ai×List bZ:=if(nd s.1 n).parent=-1 then s else(dh s.1 n,s.2++if pI s.1 n=true then ru s.1 n (kZ 2 0 0) else[])
def No (s:List ai×List bZ)(k d:Int):List ai×List bZ:=if(nd (uQ s k).1 k).doc=d then uQ s k else(HG s.1 k d,(uQ s k).2++ru (HG s.1 k d) k (kZ 3 (nd (uQ s k).1 k).doc d))
def MJ (p b:Int)(s:List ai×List bZ)(k:Int):List ai×List bZ:=(FO s.1 k p b,(No s k (nd s.1 p).doc).2++if pI (FO s.1 k p b) k=true then ru (FO s.1 k p b) k (kZ 1 0 0) else[])
def FM (l:List ai)(n:Int):List Int:=if(nd l n).kind=3 then(nd l n).kids else[n]
def oH (s:List ai×List bZ)(n p b:Int):List ai×List bZ:=(FM s.1 n).foldl (MJ p b) (if(nd s.1 n).kind=3 then(FM s.1 n).foldl uQ s else s)
theorem E9 (s:List ai×List bZ)(n:Int):(uQ s n).1=dh s.1 n:=by
  unfold uQ
  by_cases h:(nd s.1 n).parent=-1
  ·rw[if_pos h];unfold dh;rw[if_pos h]
  ·rw[if_neg h]
section
variable {l l' : List ai} {m : Int}
end
section
variable {l : List ai} {m : Int}
theorem RF.kinds (R:RF l m){n:Int}(hn:aa l n=true):0≤ (nd l n).kind∧(nd l n).kind≤4:=(Bv.1 (R.Jz n hn)).1
end
section
variable {l l' : List ai} {m : Int}
end
def ji (f:ForM)(n:Int):ForM×List bZ×Int:=if(aU f&&aa f.nodes n)=true then(if(nd f.nodes n).parent=-1 then(f,[],6) else(⟨(uQ (f.nodes,[]) n).1,f.most⟩,(uQ (f.nodes,[]) n).2,0)) else(f,[],1)
section
variable {l l' : List ai} {m : Int}
theorem ur (R:RF l m){n:Int}(hn:aa l n=true)(hp:(nd l n).parent≠-1):ji ⟨l,m⟩ n=(⟨dh l n,m⟩,(if pI l n=true then ru l n (kZ 2 0 0) else[]),0):=by
  unfold ji
  rw[if_pos (by rw[lV.2 R,hn];rfl),if_neg hp,E9]
  unfold uQ
  rw[if_neg hp,List.nil_append]
theorem tQ (R:RF l m){n:Int}(hn:aa l n=true)(hp:(nd l n).parent=-1):ji ⟨l,m⟩ n=(⟨l,m⟩,[],6):=by
  unfold ji
  rw[if_pos (by rw[lV.2 R,hn];rfl),if_pos hp]
end
section
variable {l l' : List ai} {m : Int}
end
def NT (b:Bool):Int:=if b=true then 1 else 0
def Dr (s:Int×Int)(x:bZ):Option (Int×Int):=
  match(if x.kind=1 then some (s.1+1,s.2) else if x.kind=2 then some (s.1-1,s.2) else if x.kind=3 then(if x.src≠s.2∨x.dst=s.2∨s.1≠0 then none else some (s.1,x.dst)) else some s:Option (Int×Int)) with
  |none=>none
  |some t=>if t.1<0∨1<t.1 then none else some t
def runN:Int×Int→List bZ→Option (Int×Int)
  |s,[]=>some s
  | s,x::r=>match Dr s x with
    |none=>none
    |some t=>runN t r
theorem ze:∀ (a b:List bZ) (s:Int×Int),runN s (a++b)=match runN s a with
    |none=>none
    |some t=>runN t b
  |[],b,s=>rfl
  | x::a,b,s=>by
    show(match Dr s x with|none=>none|some t=>runN t (a++b))=match(match Dr s x with|none=>none|some t=>runN t a) with|none=>none|some t=>runN t b
    cases Dr s x with
    |none=>rfl
    |some t=>exact ze a b t
def o8 (n:Int)(ns:List bZ):List bZ:=ns.filter fun x=>decide (x.node=n)
theorem yS (n:Int)(a b:List bZ):o8 n (a++b)=o8 n a++o8 n b:=List.filter_append ..
structure Told (l l':List ai) (ns:List bZ):Prop where
  el:∀x∈ns,aa l x.node=true∧(nd l x.node).kind=1
  run:∀n,aa l n=true→(nd l n).kind=1→runN (NT (pI l n),(nd l n).doc) (o8 n ns)=some (NT (pI l' n),(nd l' n).doc)
theorem Told.nil (l:List ai):Told l l []:=⟨fun x hx=>by simp at hx,fun n _ _=>rfl⟩
theorem Told.trans {a b c:List ai}{x y:List bZ}(hl:b.length=a.length)(hk:∀n,aa a n=true→(nd b n).kind=(nd a n).kind)(h:Told a b x)(k:Told b c y):Told a c (x++y):=by
  have T:=fJ hl
  refine⟨fun z hz=>?_,fun n hn h1=>?_⟩
  · rcases List.mem_append.1 hz with q|q
    ·exact h.el z q
    · have:=k.el z q
      rw[T] at this
      exact⟨this.1,by rw[←hk _ this.1];exact this.2⟩
  · rw[yS,ze,h.run n hn h1]
    exact k.run n (by rw[T];exact hn) (by rw[hk n hn];exact h1)
section
variable {l l' : List ai} {m : Int}
def uo (ns:List bZ):Prop:=∀x∈ns,x.kind≠4
theorem uo.nil:uo []:=fun x hx=>by simp at hx
theorem uo.app {a b:List bZ}(h:uo a)(k:uo b):uo (a++b):=fun x hx=>(List.mem_append.1 hx).elim (h x) (k x)
end
section
variable {l l' : List ai} {m : Int}
end
structure zq (x y:ai):Prop where
  kind:x.kind=y.kind
  parent:x.parent=y.parent
  kids:x.kids=y.kids
  host:x.host=y.host
  under:x.under=y.under
  doc:x.doc=y.doc
theorem zq.refl (x:ai):zq x x:=⟨rfl,rfl,rfl,rfl,rfl,rfl⟩
section
variable {l l' : List ai} {m : Int}
theorem HM (hl:l'.length=l.length)(hs:∀x,aa l x=true→zq (nd l' x) (nd l x))(a k:Int):nV l' a k=nV l a k:=by
  unfold nV
  rw[fJ hl]
  cases h:aa l a with
  |false=>rfl
  |true=>rw[(hs a h).kind]
theorem HF {x y:ai}(h:zq x y):gb x=gb y:=by unfold gb;rw[h.parent,h.host]
theorem RF.same (R:RF l m)(hl:l'.length=l.length)(hs:∀x,aa l x=true→zq (nd l' x) (nd l x))(hn:∀x,aa l x=true→fE (nd l' x)=true):RF l' m:=by
  have T:=fJ hl
  have I:=HM hl hs
  have isT:∀ {a k:Int},nV l a k=true→aa l a=true:=fun h=>by unfold nV at h;rw[bJ] at h;exact h.1
  refine⟨?_,fun n h0=>?_,fun n h0=>?_,fun n h0 h=>?_,fun n h0 c hc=>?_,fun n h0=>?_,fun n h0 h=>?_,fun n h0 h=>?_,fun n h0 h=>?_,fun n h0 h=>?_,fun n h0 h=>?_,fun n h0=>?_⟩
  · have:=R.head
    unfold oF at this ⊢
    rw[hl,(hs 0 R.pos).kind];exact this
  all_goals rw[T] at h0
  all_goals have S:=hs n h0
  ·exact hn n h0
  ·rw[I,S.kind,S.doc];exact R.own n h0
  · rw[S.parent] at h ⊢
    have q:=R.par n h0 h
    rw[T,S.kind,(hs _ q.2.1).kind,(hs _ q.2.1).kids];exact q
  · rw[S.kids] at hc
    have q:=R.kid n h0 c hc
    rw[T,S.kind,S.doc,(hs c q.1).kind,(hs c q.1).parent,(hs c q.1).doc];exact q
  ·rw[S.kids];exact R.dup n h0
  ·rw[S.kids] at h;rw[S.kind];exact R.hold n h0 h
  · rw [S.kind] at h
    rw[S.kids]
    have:eG l' (nd l n).kids=eG l (nd l n).kids:=by
      unfold eG
      exact List.countP_congr fun c hc=>by rw[(hs c (R.kid n h0 c hc).1).kind]
    rw[this];exact R.elems n h0 h
  · rw[S.kind] at h
    have q:=R.host n h0 h
    rw[I,S.host,S.doc,(hs _ (isT q.1)).under,(hs _ (isT q.1)).doc];exact q
  · rw[S.kind] at h
    rw[S.host];exact R.noh n h0 h
  · rw[S.under] at h
    have q:=R.und n h0 h
    rw[I,S.kind,S.under,(hs _ (isT q.2.1)).host];exact q
  · rw[hl,tY]
    refine xN (g:=fun n=>gb (nd l n)) (P:=fun x=>aa l x=true) (fun y hy=>.inl (HF (hs y hy))) (fun y hy h=>R.up hy h) h0 (by rw[←tY];exact R.ends n h0)
end
theorem zC (l:List ai):∀ (m:Nat) (n:Int),uc l m n=yh (fun n=>(nd l n).parent) m n
  |0,_=>rfl
  |m+1,n=>by unfold uc yh;rw[zC l m]
theorem AK (l:List ai):∀ (m:Nat) (n:Int),gd l m n=jk (fun n=>(nd l n).parent) m n
  |0,_=>rfl
  |m+1,n=>by unfold gd jk;rw[AK l m]
section
variable {l l' : List ai} {m : Int}
theorem RF.tJ (R:RF l m):Tree l:=dY (f:=⟨l,m⟩) (lV.2 R)
theorem Cn (T:Tree l){i:Int}(hi:aa l i=true):jL l i=true↔kJ (nd l i)=true∨((nd l i).kind=1∧∃c∈bk l i,(nd l c).parent≠-1∧(nd l (nd l c).parent).name=K1∧kJ (nd l (nd l c).parent)=true∧ux l (nd l c).parent≠c):=by
  unfold jL
  rw[Bool.or_eq_true,bJ,bH,wC T _ _ (T.fin i hi)]
  unfold zD
  simp only[bJ,bH]
  exact Iff.rfl
end
section
variable {l l' : List ai} {m : Int}
theorem zM {x y:ai}(h:iX x y):kJ x=kJ y:=by unfold kJ;rw[h.kind,h.attrs]
end
end Go.Proofs.Heir
namespace Go.Proofs.Heir
open Go.Am Go.RowKit Go.Lib
set_option maxRecDepth 100000

end Go.Proofs.Heir
namespace Go.Proofs.Heir
open Go.Am Go.RowKit Go.Lib
set_option maxRecDepth 100000
set_option maxHeartbeats 8000000
theorem pR (b:Nat)(e:TypeId)(fz:Nat×Nat):∀ (vs:List Value) (o:Nat) (C:Array Value) (w:World),w.heap[b]? =some (.cells C e fz)→o+vs.length≤C.size→
    ∃C',w.setCells b o vs=w.setRow b C'∧C'.size=C.size∧∀q,C'[q]? =if o≤q∧q<o+vs.length then vs[q-o]? else C[q]?
  |[],o,C,w,h,_=>⟨C,(setRow_self w b C e fz h).symm,rfl,fun q=>by rw[if_neg (by simp only[List.length_nil];omega)]⟩
  | v ::r,o,C,w,h,hl=>by
    have h1:w.setCell ⟨b,o,none⟩ v=w.setRow b (C.setIfInBounds o v):=by
      have hb:=(Array.getElem?_eq_some_iff.1 h)
      unfold World.setCell World.setRow
      congr 1
      apply Array.ext_getElem?
      intro k
      rw[Array.getElem?_modify,Array.getElem?_modify]
      by_cases hk:b=k
      ·subst hk;simp[h]
      ·simp[hk]
    have h2:=setRow_heap w b C (C.setIfInBounds o v) e fz h
    obtain⟨C',k1,k2,k3⟩:=pR b e fz r (o+1) (C.setIfInBounds o v) (w.setRow b (C.setIfInBounds o v)) h2 (by simp at hl ⊢;omega)
    refine⟨C',by rw[World.setCells,h1,k1,setRow_setRow],by simp[k2],fun q=>?_⟩
    rw[k3 q,Array.getElem?_setIfInBounds]
    simp only[List.length_cons] at hl ⊢
    by_cases hq:q=o
    · subst hq
      rw[if_neg (by omega),if_pos rfl,if_pos (by omega),if_pos (by omega),Nat.sub_self];rfl
    · by_cases hq2:o+1≤q∧q<o+1+r.length
      ·rw[if_pos hq2,if_pos (by omega),show q-o=(q- (o+1))+1 from by omega,List.getElem?_cons_succ]
      ·rw[if_neg hq2,if_neg (fun h=>hq h.symm),if_neg (by omega)]
end Go.Proofs.Heir
namespace Go.Proofs.Heir
open Go.Am Go.RowKit Go.Lib
set_option maxRecDepth 100000

end Go.Proofs.Heir
namespace Go.Proofs.Heir
open Go.Am Go.RowKit Go.Lib
set_option maxRecDepth 100000
set_option maxHeartbeats 8000000

end Go.Proofs.Heir
namespace Go.Proofs.Heir
open Go.Am Go.RowKit Go.Lib
set_option maxRecDepth 100000

end Go.Proofs.Heir
namespace Go.Proofs.Heir
open Go.Am Go.RowKit Go.Lib
set_option maxRecDepth 100000
set_option maxHeartbeats 8000000




end Go.Proofs.Heir
namespace Go.Proofs.Heir
open Go Go.Am Go.RowKit Go.Lib
set_option maxRecDepth 100000
theorem Bn {l:List AttrM}(h:iq l=true):l.length≤40∧(∀a∈l,Ms a=true)∧(l.map AttrM.name).Nodup:=by
  unfold iq at h;simp only[bJ,bH,List.all_eq_true] at h;exact⟨h.1.1,h.1.2,h.2⟩
end Go.Proofs.Heir
namespace Go.Proofs.Heir
open Go Go.Am Go.RowKit Go.Lib
set_option maxRecDepth 100000
set_option maxHeartbeats 8000000
set_option maxHeartbeats 8000000
section
variable {l l' : List ai} {m : Int}
theorem RF.attrs (R:RF l m){n:Int}(hn:aa l n=true)(hk:(nd l n).kind=1):iq (nd l n).attrs=true:=by
  have h:=R.Jz n hn
  unfold fE at h
  rw[if_pos hk] at h
  simp only[bJ] at h
  exact h.2
theorem RF.none (R:RF l m){n:Int}(hn:aa l n=true)(hk:(nd l n).kind≠1):(nd l n).attrs=[]∧(nd l n).name=⟨#[]⟩:=by
  rcases za R.tJ hn with h|h
  ·exact absurd h hk
  ·exact⟨h.2.2,h.2.1⟩
theorem E3 (R:RF l m)(h:l.length≤60):bO l:=by
  have key:∀x∈l,x.kids.length≤60∧x.attrs.length≤60∧x.name.size≤300:=fun x hx=>by
    obtain⟨i,hi⟩:=List.getElem?_of_mem hx
    have hn:=eF hi
    have he:=fZ hi
    have hk:=sQ (n:=l.length) (R.dup i hn) (fun c hc=>bQ (R.kid i hn c hc).1)
    rw[he] at hk
    refine⟨by omega,?_⟩
    by_cases e:x.kind=1
    · have ha:=R.attrs hn (by rw[he];exact e)
      rw[he] at ha
      have h1:=(Bn ha).1
      refine⟨by omega,?_⟩
      have hN:=R.Jz i hn
      rw[he] at hN
      unfold fE at hN
      rw[if_pos e] at hN
      simp only[bJ] at hN
      have h2:=hN.1.1.1.1
      unfold cz qM at h2
      simp only[bJ,bH] at h2
      have:x.name.size=x.name.data.toList.length:=by rw[Array.length_toList];rfl
      omega
    · have:=R.none hn (by rw[he];exact e)
      rw[he] at this
      rw[this.1,this.2]
      exact⟨by simp,by decide⟩
  exact⟨by omega,fun x hx=>(key x hx).1,fun x hx=>(key x hx).2.1,fun x hx=>(key x hx).2.2⟩
end
section
variable {l l' : List ai} {m : Int}
end
end Go.Proofs.Heir
namespace Go.Proofs.Heir
open Go Go.Am Go.RowKit Go.Lib
set_option maxRecDepth 100000
set_option maxHeartbeats 8000000
set_option maxHeartbeats 2000000
section
variable {l l' : List ai} {m : Int}
end
def GX (l:List AttrM)(s:ByteArray):ByteArray×Bool:=match l.find? (hasName s) with
  |some a=>(a.value,true)
  |none=>(Mc,false)
def xK (n:Int)(s:ByteArray)(t:ByteArray×Bool)(x:bZ):Option (ByteArray×Bool):=
  if x.node=n∧x.kind=4∧x.name=s then(if x.old≠t.1∨x.had≠t.2∨(x.had=false∧x.has=false)∨(x.has=false∧x.new≠Mc) then none else some (x.new,x.has)) else some t
def tZ (n:Int)(s:ByteArray):ByteArray×Bool→List bZ→Option (ByteArray×Bool)
  |t,[]=>some t
  | t,x::r=>match xK n s t x with
    |none=>none
    |some u=>tZ n s u r
theorem uI {n:Int}{s:ByteArray}{t:ByteArray×Bool}:∀ {ns:List bZ},(∀x∈ns,x.kind≠4)→tZ n s t ns=some t
  |[],_=>rfl
  | x ::r,h=>by
    have e:xK n s t x=some t:=by
      unfold xK
      rw[if_neg fun q=>h x jC q.2.1]
    show(match xK n s t x with|none=>none|some u=>tZ n s u r)=_
    rw[e]
    exact uI fun y hy=>h y (gy _ hy)
section
variable {l l' : List ai} {m : Int}
end
structure EU (f:ForM) (r:ForM×List bZ×Int):Prop where
  right:aU r.1=true
  len:r.1.nodes.length=f.nodes.length
  fail:r.2.2≠0→r.1=f∧r.2.1=[]
  told:Told f.nodes r.1.nodes r.2.1
  kind:∀x,aa f.nodes x=true→(nd r.1.nodes x).kind=(nd f.nodes x).kind
  chain:∀n,aa f.nodes n=true→∀t,cz t=true→nW t=t→tZ n t (GX (nd f.nodes n).attrs t) r.2.1=some (GX (nd r.1.nodes n).attrs t)
theorem EU.nil {f:ForM}(h:aU f=true)(e:Int):EU f (f,[],e):=⟨h,rfl,fun _=>⟨rfl,rfl⟩,.nil _,fun _ _=>rfl,fun _ _ _ _ _=>rfl⟩
section
variable {l : List ai} {m : Int}
theorem EU.move (R:RF l m){l':List ai}{ns:List bZ}(R':RF l' m)(hl:l'.length=l.length)(hs:∀x,aa l x=true→iX (nd l' x) (nd l x))(ht:Told l l' ns)(hn:uo ns):EU ⟨l,m⟩ (⟨l',m⟩,ns,0):=
  ⟨lV.2 R',hl,fun h=>absurd rfl h,ht,fun x hx=>(hs x hx).kind,fun n hn2 t _ _=>by
    rw[uI hn]
    show some _=some (GX (nd l' n).attrs t)
    rw[(hs n hn2).attrs]⟩
end
@[reducible] def gw (y : ai) (t : Nat) : AV := .agg [ay y.kind, cw y.name, cw y.is, cw y.data, gT y.attrs, ay y.parent, .own t 0 y.kids.length, ay y.host, ay y.under, ay y.doc]
def fc (y:ai)(t:Nat):AV:=gw y t
def fH (a ta b tb i:Nat)(y:ai):AV:=if i=a then fc y ta else if i=b then fc y tb else cj y
def bC (l:List ai)(a ta b tb:Nat):List AV:=l.mapIdx fun i y=>fH a ta b tb i y
@[reducible] def cZ (l : List ai) (a ta b tb : Nat) : MS := .live 10 (bC l a ta b tb) false
section
variable {l : List ai} {a ta b tb i : Nat} {y : ai}
theorem bR:(bC l a ta b tb).length=l.length:=List.length_mapIdx ..
theorem eY (h:l[i]? =some y):(bC l a ta b tb)[i]? =some (fH a ta b tb i y):=by
  unfold bC
  rw[List.getElem?_mapIdx,h];rfl
theorem Ec (y:ai)(h:i<l.length):(bC l a ta b tb).set i (fH a ta b tb i y)=bC (l.set i y) a ta b tb:=by
  apply List.ext_getElem?
  intro j
  unfold bC
  rw[List.getElem?_set,List.getElem?_mapIdx,List.getElem?_mapIdx,List.getElem?_set,List.length_mapIdx]
  by_cases e:i=j
  · subst e
    rw[if_pos rfl,if_pos rfl,if_pos h,if_pos h];rfl
  ·rw[if_neg e,if_neg e]
theorem dj (ha:i≠a)(hb:i≠b):fH a ta b tb i y=aR y:=by unfold fH;rw[if_neg ha,if_neg hb];rfl
theorem G3:fH a ta b tb a y=gw y ta:=by unfold fH;rw[if_pos rfl];rfl
theorem GN (h:b≠a):fH a ta b tb b y=gw y tb:=by unfold fH;rw[if_neg h,if_pos rfl];rfl
theorem Bz:(cells (fH a ta b tb i y)).length=10:=by
  unfold fH
  split
  ·rfl
  ·split<;>rfl
theorem lG:bB 10 (bC l a ta b tb):=bB.ga fun x hx=>by
  obtain⟨j,hj⟩:=List.getElem?_of_mem hx
  unfold bC at hj
  rw[List.getElem?_mapIdx] at hj
  cases e:l[j]? with
  |none=>rw[e] at hj;cases hj
  |some z=>rw[e] at hj;cases hj;exact Bz
theorem kK {j:Nat}{x:AV}(h:(bC l a ta b tb)[j]? =some x):∃z,l[j]? =some z∧x=fH a ta b tb j z:=by
  unfold bC at h
  rw[List.getElem?_mapIdx] at h
  cases e:l[j]? with
  |none=>rw[e] at h;cases h
  |some z=>rw[e] at h;cases h;exact⟨z,rfl,rfl⟩
end
section
variable {m : ML} {fz : Nat → Bool} {tab : List (Nat × Nat)} {l : List ai} {a ta b tb t n : Nat}
theorem mW (x:ai):bj (cj x)=true:=by
  show bj (.agg [ay x.kind,cw x.name,cw x.is,cw x.data,gT x.attrs,ay x.parent,cN x.kids,ay x.host,ay x.under,ay x.doc])=true
  rfl
theorem Gj {cs ex:List Int}{ro:Bool}(h1:dc m t=.live 1 ((cs++ex).map bu) ro)(h2:fz t=true):sN m fz (MF tab fz m n) (cN cs) t 0 cs.length:=
  .cut h1 h2 (by simp) (by rw[List.drop_zero,gL,List.take_append_of_le_length (by simp),nU (by simp)]) (ae cs)
theorem yx {ro ra rb:Bool}{ea eb:List Int}{k:Nat}(hm:dc m t=.live 10 (bC l a ta b tb) ro)(hf:fz t=true)(ha:∀y,l[a]? =some y→dc m ta=.live 1 ((y.kids++ea).map bu) ra∧fz ta=true)(hb:∀y,l[b]? =some y→dc m tb=.live 1 ((y.kids++eb).map bu) rb∧fz tb=true):sN m fz (MF tab fz m (k+2)) (gq l) t 0 l.length:=by
  have hk:∀ (u:Nat) (e:List Int) (r:Bool) (y:ai),dc m u=.live 1 ((y.kids++e).map bu) r→fz u=true→MF tab fz m (k+2) (cj y) (fc y u):=fun u e r y q1 q2=>
    ⟨rfl,rfl,rfl,rfl,je _ _ rfl,rfl,Gj q1 q2,rfl,rfl,rfl,trivial⟩
  refine⟨10,_,ro,l.map cj,hm,hf,rfl,by rw[bR];omega,dL cj mW l,by rw[List.drop_zero,nU (by rw[bR];omega),bR,bM],fun i x z hx hz=>?_⟩
  rw[List.drop_zero,nU (by rw[bR];omega)] at hz
  obtain⟨y,hy,rfl⟩:=kK hz
  rw[dM,hy] at hx
  cases hx
  show MF tab fz m (k+2) (cj y) (fH a ta b tb i y)
  unfold fH
  by_cases e:i=a
  · rw[if_pos e]
    subst e
    exact hk ta ea ra y (ha y hy).1 (ha y hy).2
  · rw [if_neg e]
    by_cases c:i=b
    · rw[if_pos c]
      subst c
      exact hk tb eb rb y (hb y hy).1 (hb y hy).2
    ·rw[if_neg c];exact je _ _ (mW y)
end
theorem yC {R:AV→AV→Prop}:∀ {a b:List AV},cH R a b→u5 R a b
  |[],[],_=>trivial
  |x::a,y::b,h=>⟨h.2 0 x y rfl rfl,yC ⟨by have:=h.1;simpa using this,fun i p q h1 h2=>h.2 (i+1) p q (by simpa using h1) (by simpa using h2)⟩⟩
  |[],_::_,h=>by have:=h.1;simp at this
  |_::_,[],h=>by have:=h.1;simp at this
theorem qx {w:Nat}:∀ {a b:List AV},a.length=b.length→bB w a→bB w b→oc a b=true
  |[],[],_,_,_=>rfl
  | x ::a,y::b,hl,ha,hb=>by
    have e:rT (dD (cO x)) (dD (cO y))=true:=by
      rw[dW,cq,cq,eD,eD,ha.tail.1,hb.tail.1]
      exact Nat.beq_refl _
    simp only[oc,e]
    exact qx (by simpa using hl) ha.tail.2 hb.tail.2
  |[],_::_,hl,_,_=>by simp at hl
  |_::_,[],hl,_,_=>by simp at hl
theorem CV {f:AV→AV}:∀ {a b:List AV},a.length=b.length→(∀ (i:Nat) x y,a[i]? =some x→b[i]? =some y→x=f y)→a=dO f b
  |[],[],_,_=>rfl
  | x::a,y::b,hl,h=>by
    show x::a=f y::dO f b
    rw[←h 0 x y rfl rfl,←CV (by simpa using hl) fun i p q h1 h2=>h (i+1) p q (by simpa using h1) (by simpa using h2)]
  |[],_::_,hl,_=>by simp at hl
  |_::_,[],hl,_=>by simp at hl
theorem Dt {p:AV→Bool}:∀ {a:List AV},(∀x∈a,p x=true)→iQ p a=true
  |[],_=>rfl
  | x::a,h=>by
    simp only[iQ,h x jC]
    exact Dt fun y hy=>h y (gy _ hy)
section
variable {l : List ai} {a ta b tb ta0 tb0 n : Nat} {names : List Nat}
theorem DG (h1:gh names ta0=some ta)(h2:gh names tb0=some tb):bC l a ta b tb=dO (oN names 12) (bC l a ta0 b tb0):=by
  refine CV (by rw[bR,bR]) fun i x y hx hy=>?_
  obtain⟨z,hz,rfl⟩:=kK hx
  obtain⟨z2,hz2,rfl⟩:=kK hy
  rw[hz] at hz2;cases hz2
  have key:∀u u0:Nat,gh names u0=some u→fc z u=oN names 12 (fc z u0):=fun u u0 h=>by
    show gw z u=oN names 12 (gw z u0)
    simp only[gw,oN,dO,h]
  unfold fH
  split
  ·exact key _ _ h1
  · split
    ·exact key _ _ h2
    ·rfl
theorem Fp (h1:ta<n)(h2:tb<n):iQ (Ao 12 n) (bC l a ta b tb)=true:=by
  refine Dt fun x hx=>?_
  obtain⟨j,hj⟩:=List.getElem?_of_mem hx
  obtain⟨z,_,rfl⟩:=kK hj
  have key:∀u:Nat,u<n→Ao 12 n (fc z u)=true:=fun u h=>by
    have hb:Nat.ble (u+1) n=true:=by rw[Nat.ble_eq];exact h
    show Ao 12 n (gw z u)=true
    simp[gw,Ao,iQ,bj,hb]
  unfold fH
  split
  ·exact key _ h1
  · split
    ·exact key _ h2
    · show Ao 12 n (aR z)=true
      simp[Ao,iQ,bj]
end
end Go.Proofs.Heir
