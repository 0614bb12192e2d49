/- Models, plain laws and contracts of functions of the given program; conditions as stated in each theorem. By an AI agent. -/
import Derived.Test.YtkhjcnjicjgfiaaGreatDoorWO15
import Derived.Test.YtkhjcnjicjgfiaaGreatDoorWO12
import Derived.Deep.RegionLaw
import Derived.Lib.SliceRun
import Derived.Laws.Tables
import Derived.Laws.CopyRow
import Derived.Sort.WalkB12
set_option linter.unusedSimpArgs false
set_option linter.unusedVariables false
namespace Go.Proofs.Heir
open Go Go.Am Go.RowKit Go.Lib
set_option maxRecDepth 100000
set_option maxHeartbeats 8000000
set_option maxHeartbeats 8000000
section
variable {l l' : List ai} {m : Int}
theorem tV (R:RF l m)(hl:l'.length=l.length){k p:Int}(hp:af l p=true)(hk:k∉U.bA l p)(hu:∀x,af l x=true→x≠k→c8 (nd l' x)=c8 (nd l x)):U.bA l' p=U.bA l p:=by
  rw[vT] at hk
  rw[vT,vT,hl]
  exact(kr (P:=fun x=>af l x=true) (k:=k) (g:=fun n=>c8 (nd l n)) (g':=fun n=>c8 (nd l' n)) hu (fun x hx h=>R.up hx h) hp (by rw[←iq];exact R.ends p hp) hk).2
theorem Ig (R:RF l m){k:Int}{x:Int}(hx:af l x=true)(hw:k∈U.bA l x):(nd l x).doc=(nd l k).doc:=by
  have key :∀y,af l y=true→k∈U.bA l y→(nd l y).doc=(nd l k).doc:=by
    refine U.gZ R.tree (P:=fun y=>k∈U.bA l y→(nd l y).doc=(nd l k).doc) (fun y hy hu hw=>?_) (fun y hy hu hy2 ih hw=>?_)
    · rw[U.dR R.tree hy hu,gg] at hw
      rw[←hw]
    · rw [U.bW R.tree hy hu,dm] at hw
      rcases hw with hw|hw
      ·rw[←hw]
      · rw [←ih hw]
        by_cases hp:(nd l y).parent=-1
        · have h4:(nd l y).kind=4:=Classical.byContradiction fun c=>hu (by unfold c8;rw[if_pos hp];exact R.noh y hy c)
          have:c8 (nd l y)=(nd l y).host:=by unfold c8;rw[if_pos hp]
          rw[this];exact(R.host y hy h4).2.2.symm
        · have q:=R.par y hy hp
          rw[R.gj hy hp]
          exact(R.kid _ q.2.1 y q.2.2.2).2.2.1
  exact key x hx hw
def cB (l:List ai)(k d:Int):List ai:=if(nd (bI l k) k).doc=d then bI l k else rA (bI l k) (U.bX (bI l k) (bI l k).length k) d
theorem IS (R:RF l m){k:Int}(hk:af l k=true)(hkk:(nd l k).kind=1∨(nd l k).kind=2):c8 (nd (bI l k) k)=-1:=by
  rw[GQ R hk (by rcases hkk with h|h<;>simp[h]) k hk]
  by_cases hp:(nd l k).parent=-1
  ·rw[if_neg (fun q=>q.2 hp),R.I3 hk hkk];exact hp
  ·rw[if_pos ⟨rfl,hp⟩]
theorem eY (l:List ai)(k d:Int):(cB l k d).length=l.length:=by
  unfold cB
  split
  ·exact dS l k
  ·rw[yf,dS]
theorem kX (R:RF l m){k d:Int}(hk:af l k=true)(hkk:(nd l k).kind=1∨(nd l k).kind=2)(hd:jY l d 0=true):RF (cB l k d) m:=by
  have R1:=fm R hk
  have L:=gN R hk
  unfold cB
  split
  ·exact R1
  · refine Ec R1 (by rw[bf (dS ..)];exact hk) (IS R hk hkk) (by rw[(L k hk).1.kind];omega) ?_
    rw[CJ (dS ..) (fun x hx=>(L x hx).1)];exact hd
theorem ij (R:RF l m){k d:Int}(hk:af l k=true)(hkk:(nd l k).kind=1∨(nd l k).kind=2)(x:Int)(hx:af l x=true):eZ (nd (cB l k d) x) (nd l x)∧((nd (cB l k d) x).parent=if x=k then-1 else(nd l x).parent)∧((nd (cB l k d) x).kids=if x=(nd l k).parent then(nd l x).kids.erase k else(nd l x).kids)∧
    ((nd (cB l k d) x).doc=if k∈U.bA (bI l k) x then d else(nd l x).doc):=by
  have R1:=fm R hk
  have L:=gN R hk
  have T:=bf (dS l k)
  have hk1:af (bI l k) k=true:=by rw[T];exact hk
  have hx1:af (bI l k) x=true:=by rw[T];exact hx
  unfold cB
  by_cases e:(nd (bI l k) k).doc=d
  · rw [if_pos e]
    refine⟨(L x hx).1,(L x hx).2.2.1,(L x hx).2.2.2,?_⟩
    split
    · rename_i hw
      rw[Ig R1 hx1 hw];exact e
    ·exact(L x hx).2.1
  · rw[if_neg e]
    have D:=tH (d:=d) (s:=U.bX (bI l k) (bI l k).length k) (l:=bI l k) (fun j hj=>(U.ef R1.tree _ k hk1 j hj).1) x hx1
    refine⟨D.1.trans (L x hx).1,D.2.2.1.trans (L x hx).2.2.1,D.2.2.2.trans (L x hx).2.2.2,?_⟩
    rw[D.2.1]
    by_cases c:x∈U.bX (bI l k) (bI l k).length k
    ·rw[if_pos c,if_pos ((U.lp R1.tree hk1 hx1).1 c)]
    ·rw[if_neg c,if_neg (fun q=>c ((U.lp R1.tree hk1 hx1).2 q))];exact(L x hx).2.1
theorem G1 (R:RF l m){k d p:Int}(hk:af l k=true)(hkk:(nd l k).kind=1∨(nd l k).kind=2)(hp:af l p=true)(hw:k∉U.bA l p):U.bA (cB l k d) p=U.bA l p:=by
  refine tV R (eY ..) hp hw fun x hx hne=>?_
  obtain⟨h1,h2,_⟩:=ij R (d:=d) hk hkk x hx
  unfold c8
  rw[h2,if_neg hne,h1.host]
theorem CU (R:RF l m){k p:Int}(hk:af l k=true)(hp:af l p=true)(hw:k∉U.bA l p):U.bA (bI l k) p=U.bA l p:=by
  refine tV R (dS ..) hp hw fun x hx hne=>?_
  obtain⟨h1,_,h2,_⟩:=gN R hk x hx
  unfold c8
  rw[h2,if_neg hne,h1.host]
structure fu (l:List ai) (k p b:Int):Prop where
  tk:af l k=true
  tp:af l p=true
  kk:(nd l k).kind=1∨(nd l k).kind=2
  hd:eN (nd l p).kind=true
  w:k∉U.bA l p
  ab:b=-1∨b≠k∧b∈ (nd l p).kids
  dc:(nd l p).kind=0→(nd l k).kind=1∧cZ l ((nd l p).kids.erase k)=0
def cA (l:List ai)(k p b:Int):List ai:=gB (cB l k (nd l p).doc) k p b
theorem fj (l:List ai)(k p b:Int):(cA l k p b).length=l.length:=by unfold cA;rw[kz,eY]
theorem nG {cs:List Int}{k:Int}(h:k∉cs):cs.erase k=cs:=List.erase_of_not_mem h
theorem qW (R:RF l m){k d p:Int}(hk:af l k=true)(hkk:(nd l k).kind=1∨(nd l k).kind=2)(hp:af l p=true):(nd (cB l k d) p).kids=(nd l p).kids.erase k:=by
  rw[(ij R hk hkk p hp).2.2.1]
  split
  ·rfl
  · rename_i h
    exact(nG fun q=>h (R.kid p hp k q).2.1.symm).symm
theorem ig (R:RF l m){k p b:Int}(C:fu l k p b):RF (cA l k p b) m:=by
  have T:=bf (eY l k (nd l p).doc)
  have L:=ij R (d:=(nd l p).doc) C.tk C.kk
  have hpd:=(R.own p C.tp).1
  have R1:=kX R C.tk C.kk hpd
  have hw1:k∉U.bA (bI l k) p:=by rw[CU R C.tk C.tp C.w];exact C.w
  have hkw:k∈U.bA (bI l k) k:=U.cV (fm R C.tk).tree (by rw[bf (dS ..)];exact C.tk)
  refine BN R1 (by rw[T];exact C.tk) (by rw[T];exact C.tp) ?_ ?_ ?_ ?_ ?_ ?_
  ·rw[(L k C.tk).2.1,if_pos rfl]
  ·rw[(L k C.tk).1.kind];exact C.kk
  ·rw[(L k C.tk).2.2.2,if_pos hkw,(L p C.tp).2.2.2,if_neg hw1]
  ·rw[(L p C.tp).1.kind];exact C.hd
  · rw[(L p C.tp).1.kind,(L k C.tk).1.kind,qW R C.tk C.kk C.tp]
    intro h0
    have:=C.dc h0
    refine⟨this.1,?_⟩
    rw[qx (fun x hx=>(L x hx).1) fun c hc=>(R.kid p C.tp c (List.mem_of_mem_erase hc)).1]
    exact this.2
  ·rw[G1 R C.tk C.kk C.tp C.w];exact C.w
theorem fU (R:RF l m){k p b:Int}(C:fu l k p b)(x:Int)(hx:af l x=true):eZ (nd (cA l k p b) x) (nd l x)∧((nd (cA l k p b) x).parent=if x=k then p else(nd l x).parent)∧
    ((nd (cA l k p b) x).kids=if x=p then oF ((nd l x).kids.erase k) b k else if x=(nd l k).parent then(nd l x).kids.erase k else(nd l x).kids)∧((nd (cA l k p b) x).doc=if k∈U.bA (bI l k) x then(nd l p).doc else(nd l x).doc):=by
  have T:=bf (eY l k (nd l p).doc)
  have hne:k≠p:=fun e=>C.w (by rw[e];exact U.cV R.tree C.tp)
  have L:=ij R (d:=(nd l p).doc) C.tk C.kk x hx
  have H:=rB (l:=cB l k (nd l p).doc) (b:=b) (by rw[T];exact C.tk) (by rw[T];exact C.tp) hne x (by rw[T];exact hx)
  have hkd:=qW R (d:=(nd l p).doc) C.tk C.kk C.tp
  unfold cA
  refine⟨H.1.trans L.1,?_,?_,H.2.1.trans L.2.2.2⟩
  · rw[H.2.2.1,L.2.1]
    by_cases e:x=k
    ·rw[if_pos e,if_pos e]
    ·rw[if_neg e,if_neg e,if_neg e]
  · rw [H.2.2.2]
    by_cases e:x=p
    · subst e
      rw[if_pos rfl,if_pos rfl,hkd]
    ·rw[if_neg e,if_neg e,L.2.2.1]
theorem Fg (R:RF l m){k p b:Int}(C:fu l k p b){x:Int}(hx:af l x=true)(hw:k∉U.bA l x):U.bA (cA l k p b) x=U.bA l x:=by
  refine tV R (fj ..) hx hw fun y hy hne=>?_
  obtain⟨h1,h2,_⟩:=fU R C y hy
  unfold c8
  rw[h2,if_neg hne,h1.host]
theorem nR (R:RF l m){k j p b:Int}(C:fu l k p b)(D:fu l j p b)(hne:j≠k)(h0:(nd l p).kind≠0):fu (cA l k p b) j p b:=by
  have T:=bf (fj l k p b)
  have L:=fU R C
  refine⟨by rw[T];exact D.tk,by rw[T];exact D.tp,by rw[(L j D.tk).1.kind];exact D.kk,by rw[(L p D.tp).1.kind];exact D.hd,by rw[Fg R C D.tp C.w];exact D.w,?_,fun q=>?_⟩
  · rcases D.ab with h|⟨h1,h2⟩
    ·exact .inl h
    · refine .inr ⟨h1,?_⟩
      rw[(L p D.tp).2.2.1,if_pos rfl,sC]
      refine .inr ((List.mem_erase_of_ne ?_).2 h2)
      rcases C.ab with c|c
      ·have:=aV (R.kid p D.tp b h2).1;omega
      ·exact c.1
  ·rw[(L p D.tp).1.kind] at q;exact absurd q h0
end
def MO (l:List ai)(n:Int):List Int:=(U.bX l l.length n).filter fun k=>decide ((nd l k).kind=1)
def iD (l:List ai)(n:Int):Bool:=decide ((nd l (nW l n)).kind=0)
def sN (l:List ai)(n:Int)(x:aR):List aR:=(MO l n).map fun k=>{x with node:=k}
def nw (kind src dst:Int):aR:=⟨kind,0,src,dst,⟨#[]⟩,false,false,⟨#[]⟩,⟨#[]⟩⟩
def dA (s:List ai×List aR)(n:Int):List ai×List aR:=if(nd s.1 n).parent=-1 then s else(bI s.1 n,s.2++if iD s.1 n=true then sN s.1 n (nw 2 0 0) else[])
def jQ (s:List ai×List aR)(k d:Int):List ai×List aR:=if(nd (dA s k).1 k).doc=d then dA s k else(cB s.1 k d,(dA s k).2++sN (cB s.1 k d) k (nw 3 (nd (dA s k).1 k).doc d))
def cK (p b:Int)(s:List ai×List aR)(k:Int):List ai×List aR:=(cA s.1 k p b,(jQ s k (nd s.1 p).doc).2++if iD (cA s.1 k p b) k=true then sN (cA s.1 k p b) k (nw 1 0 0) else[])
def dn (l:List ai)(n:Int):List Int:=if(nd l n).kind=3 then(nd l n).kids else[n]
def dz (s:List ai×List aR)(n p b:Int):List ai×List aR:=(dn s.1 n).foldl (cK p b) (if(nd s.1 n).kind=3 then(dn s.1 n).foldl dA s else s)
theorem mH (s:List ai×List aR)(n:Int):(dA s n).1=bI s.1 n:=by
  unfold dA
  by_cases h:(nd s.1 n).parent=-1
  ·rw[if_pos h];unfold bI;rw[if_pos h]
  ·rw[if_neg h]
theorem wc (p b:Int)(s:List ai×List aR)(k:Int):(cK p b s k).1=cA s.1 k p b:=rfl
structure qu (l:List ai) (n p b:Int):Prop where
  tn:af l n=true
  tp:af l p=true
  kk:(nd l n).kind=1∨(nd l n).kind=2∨(nd l n).kind=3
  hd:eN (nd l p).kind=true
  w:n∉U.bA l p
  ab:b=-1∨b≠n∧b∈ (nd l p).kids
  dc:(nd l p).kind=0→(∀k∈dn l n,(nd l k).kind=1)∧(dn l n).length+cZ l ((nd l p).kids.erase n)≤1
section
variable {l l' : List ai} {m : Int}
theorem fQ {n:Int}(h:(nd l n).kind≠3):dn l n=[n]:=by unfold dn;rw[if_neg h]
theorem pB {n p b:Int}(C:qu l n p b)(h:(nd l n).kind≠3):fu l n p b:=by
  refine⟨C.tn,C.tp,by have:=C.kk;omega,C.hd,C.w,C.ab,fun h0=>?_⟩
  have:=C.dc h0
  rw[fQ h] at this
  exact⟨this.1 n (by simp),by have:=this.2;simp at this;omega⟩
theorem oL:∀ (ks:List Int) {l:List ai},RF l m→(∀k∈ks,af l k=true)→RF (ks.foldl bI l) m∧(ks.foldl bI l).length=l.length
  |[],l,R,_=>⟨R,rfl⟩
  | k::ks,l,R,h=>by
    have h1:=oL ks (fm R (h k dJ)) (fun j hj=>by rw[bf (dS ..)];exact h j (c7 _ hj))
    exact⟨h1.1,h1.2.trans (dS ..)⟩
theorem jm:∀ (ks:List Int) {l:List ai},RF l m→(∀k∈ks,af l k=true)→∀ (n:Int),(∀k∈ks,(nd l k).parent=n∨(nd l k).parent=-1)→∀x,af l x=true→eZ (nd (ks.foldl bI l) x) (nd l x)∧(nd (ks.foldl bI l) x).doc=(nd l x).doc∧((nd (ks.foldl bI l) x).parent=if x∈ks then-1 else(nd l x).parent)∧(x≠n→(nd (ks.foldl bI l) x).kids=(nd l x).kids)
  |[],l,R,_,n,_,x,hx=>⟨.refl _,rfl,by rw[if_neg (by simp)];rfl,fun _=>rfl⟩
  | k :: ks,l,R,h,n,hp,x,hx=>by
    have T:=bf (dS l k)
    have hk:=h k dJ
    have L:=gN R hk
    have R1:=fm R hk
    have h1:=jm ks R1 (fun j hj=>by rw[T];exact h j (c7 _ hj)) n (fun j hj=>by
      rw[(L j (h j (c7 _ hj))).2.2.1]
      split
      ·exact .inr rfl
      ·exact hp j (c7 _ hj)) x (by rw[T];exact hx)
    refine⟨h1.1.trans (L x hx).1,h1.2.1.trans (L x hx).2.1,?_,fun hne=>(h1.2.2.2 hne).trans ?_⟩
    · show(nd (ks.foldl bI (bI l k)) x).parent=_
      rw[h1.2.2.1,(L x hx).2.2.1]
      by_cases e:x=k
      · subst e
        rw[if_pos dJ,if_pos rfl]
        split<;>rfl
      · rw[if_neg e]
        by_cases c:x∈ks
        ·rw[if_pos c,if_pos (c7 _ c)]
        ·rw[if_neg c,if_neg (fun q=>(dm.1 q).elim e c)]
    · rw [(L x hx).2.2.2]
      split
      · rename_i e
        rcases hp k dJ with q|q
        ·exact absurd (e.trans q) hne
        ·have:=aV hx;omega
      ·rfl
theorem AE:∀ (ks:List Int) {l:List ai},RF l m→(∀k∈ks,af l k=true)→∀ {p:Int},af l p=true→(∀k∈ks,k∉U.bA l p)→U.bA (ks.foldl bI l) p=U.bA l p
  |[],l,R,_,p,_,_=>rfl
  | k::ks,l,R,h,p,hp,hw=>by
    have T:=bf (dS l k)
    have hk:=h k dJ
    have e:=CU R hk hp (hw k dJ)
    have h1:=AE ks (fm R hk) (fun j hj=>by rw[T];exact h j (c7 _ hj)) (by rw[T];exact hp) (fun j hj=>by rw[e];exact hw j (c7 _ hj))
    exact h1.trans e
theorem qi (R:RF l m){n p b:Int}(C:qu l n p b)(h3:(nd l n).kind=3):RF ((nd l n).kids.foldl bI l) m∧((nd l n).kids.foldl bI l).length=l.length∧(∀k∈ (nd l n).kids,fu ((nd l n).kids.foldl bI l) k p b∧(nd ((nd l n).kids.foldl bI l) k).parent=-1)∧((nd l p).kind=0→(nd l n).kids.length≤1):=by
  have hks:∀k∈ (nd l n).kids,af l k=true:=fun k hk=>(R.kid n C.tn k hk).1
  have h1:=oL (m:=m) (nd l n).kids R hks
  have L:=jm (nd l n).kids R hks n (fun k hk=>.inl (R.kid n C.tn k hk).2.1)
  have hne:p≠n:=fun e=>C.w (by rw[←e];exact U.cV R.tree C.tp)
  have hwk:∀k∈ (nd l n).kids,k∉U.bA l p:=fun k hk hw=>by
    refine C.w (U.nO R.tree C.tp ?_ hw)
    have hn0:=aV C.tn
    have q:=R.kid n C.tn k hk
    rw[U.bW R.tree q.1 (by rw[R.gj q.1 (by omega)];omega),R.gj q.1 (by omega),q.2.1]
    exact c7 _ (U.cV R.tree C.tn)
  have hW:=AE (nd l n).kids R hks C.tp hwk
  have T:=bf h1.2
  have hpar:dn l n=(nd l n).kids:=by unfold dn;rw[if_pos h3]
  refine⟨h1.1,h1.2,fun k hk=>⟨⟨by rw[T];exact hks k hk,by rw[T];exact C.tp,?_,by rw[(L p C.tp).1.kind];exact C.hd,by rw[hW];exact hwk k hk,?_,fun h0=>?_⟩,?_⟩,fun h0=>?_⟩
  ·rw[(L k (hks k hk)).1.kind];have:=(R.kid n C.tn k hk).2.2.2;omega
  · rw [(L p C.tp).2.2.2 hne]
    rcases C.ab with h|⟨h,h2⟩
    ·exact .inl h
    · refine .inr ⟨fun e=>hne ?_,h2⟩
      have q1:=(R.kid p C.tp b h2).2.1
      have q2:=(R.kid n C.tn k hk).2.1
      rw[e] at q1;rw[←q1,←q2]
  · rw [(L p C.tp).1.kind] at h0
    have q:=C.dc h0
    rw[hpar] at q
    have hk1:=q.1 k hk
    have hnk:n∉ (nd l p).kids:=fun h=>by have:=(R.kid p C.tp n h).2.2.2;omega
    have hkk:k∉ (nd l p).kids:=fun h=>by
      have q1:=(R.kid p C.tp k h).2.1
      have q2:=(R.kid n C.tn k hk).2.1
      exact hne (q1.symm.trans q2)
    rw[(L k (hks k hk)).1.kind,(L p C.tp).2.2.2 hne,nG hkk]
    refine⟨hk1,?_⟩
    rw[qx (fun x hx=>(L x hx).1) fun c hc=>(R.kid p C.tp c hc).1]
    have:=q.2
    rw[nG hnk] at this
    have:1≤ (nd l n).kids.length:=List.length_pos_of_mem hk
    omega
  ·rw[(L k (hks k hk)).2.2.1,if_pos hk]
  · have:=(C.dc h0).2
    rw[hpar] at this;omega
theorem nq {p b:Int}:∀ (ks:List Int) {l:List ai},RF l m→ks.Nodup→(∀k∈ks,fu l k p b)→((nd l p).kind=0→ks.length≤1)→RF (ks.foldl (fun l k=>cA l k p b) l) m∧(ks.foldl (fun l k=>cA l k p b) l).length=l.length
  |[],l,R,_,_,_=>⟨R,rfl⟩
  | k ::ks,l,R,hd,h,h0=>by
    rw[List.nodup_cons] at hd
    have C:=h k dJ
    have h1:=nq (p:=p) (b:=b) ks (ig R C) hd.2 (fun j hj=>nR R C (h j (c7 _ hj)) (fun e=>hd.1 (e▸hj)) (fun e=>by
      have q1:(k::ks).length≤1:=h0 e
      have q2:=List.length_pos_of_mem hj
      rw[List.length_cons] at q1;omega)) (fun e=>by
      rw[(fU R C p C.tp).1.kind] at e
      have q1:(k::ks).length≤1:=h0 e
      rw[List.length_cons] at q1;omega)
    exact⟨h1.1,h1.2.trans (fj ..)⟩
end
theorem gC:∀ (ks:List Int) (s:List ai×List aR),(ks.foldl dA s).1=ks.foldl bI s.1
  |[],s=>rfl
  | k::ks,s=>by
    show(ks.foldl dA (dA s k)).1=ks.foldl bI (bI s.1 k)
    rw[gC ks,mH]
theorem lI (p b:Int):∀ (ks:List Int) (s:List ai×List aR),(ks.foldl (cK p b) s).1=ks.foldl (fun l k=>cA l k p b) s.1
  |[],s=>rfl
  | k::ks,s=>by
    show(ks.foldl (cK p b) (cK p b s k)).1=_
    rw[lI p b ks];rfl
theorem vz {l:List ai}{m:Int}(R:RF l m)(t:List aR){n p b:Int}(C:qu l n p b):RF (dz (l,t) n p b).1 m∧(dz (l,t) n p b).1.length=l.length:=by
  unfold dz
  rw[lI]
  by_cases h3:(nd l n).kind=3
  · have hpar:dn l n=(nd l n).kids:=by unfold dn;rw[if_pos h3]
    obtain⟨h1,h2,h4,h5⟩:=qi R C h3
    simp only[hpar,if_pos h3,gC]
    have hks:∀k∈ (nd l n).kids,af l k=true:=fun k hk=>(R.kid n C.tn k hk).1
    have L:=jm (nd l n).kids R hks n (fun k hk=>.inl (R.kid n C.tn k hk).2.1)
    have:=nq (nd l n).kids h1 (R.dup n C.tn) (fun k hk=>(h4 k hk).1) (fun e=>h5 (by rw[←(L p C.tp).1.kind];exact e))
    exact⟨this.1,this.2.trans h2⟩
  · simp only[fQ h3,if_neg h3]
    have:=nq [n] R (by simp) (fun k hk=>by rw[gg.1 hk];exact pB C h3) (fun _=>by simp)
    exact this
def gU (l:List ai)(gone:Int)(cs:List Int)(kd:Int):Nat:=cs.countP fun k=>decide (k≠gone)&&decide ((nd l k).kind=kd)
def iR (l:List ai)(p gone:Int)(cs:List Int):Bool:=decide (0<gU l gone cs 2)||(decide (0<gU l gone cs 1)&&decide (1<gU l gone cs 1+gU l gone (nd l p).kids 1))
def mT (l:List ai)(a b:Int):Bool:=decide (a∈U.bA l b)
def kO (l:List ai)(p child gone n:Int):Int:=
  if(!eN (nd l p).kind||mT l n p)=true then 5
  else if child≠-1∧(nd l child).parent≠p then 6
  else if(nd l n).kind=0∨(nd l n).kind=4 then 5
  else if(nd l n).kind=3 then(if(decide ((nd l p).kind=0)&&iR l p gone (nd l n).kids)=true then 5 else 0)
  else if(decide ((nd l p).kind=0)&&iR l p gone [n])=true then 5 else 0
def iO (f:ForM)(n p child:Int):Bool:=(aX f&&(af f.nodes n&&af f.nodes p))&&(decide (child=-1)||af f.nodes child)
def nY (f:ForM)(n p child:Int):Int:=if iO f n p child=true then kO f.nodes p child (-1) n else 1
def mM:List Int→Int→Int
  |[],_=> -1
  |a::r,c=>if a=c then(r.head?).getD (-1) else mM r c
def gT (f:ForM)(n p child:Int):Int:=if nY f n p child≠0 then-1 else if child≠n then child else mM (nd f.nodes p).kids n
section
variable {l : List ai} {m : Int}
theorem RF.kinds (R:RF l m){n:Int}(hn:af l n=true):0≤ (nd l n).kind∧(nd l n).kind≤4:=(AT.1 (R.Hw n hn)).1
theorem RF.child (R:RF l m){p c:Int}(hp:af l p=true)(hc:af l c=true):(nd l c).parent=p↔c∈ (nd l p).kids:=by
  constructor
  · intro h
    have:=aV hp
    have q:=(R.par c hc (by omega)).2.2.2
    rwa [h] at q
  ·intro h;exact(R.kid p hp c h).2.1
theorem uB:∀ {cs:List Int} {c:Int},cs.Nodup→mM cs c=-1∨(mM cs c∈cs∧mM cs c≠c)
  |[],c,_=>.inl rfl
  | a ::r,c,h=>by
    rw[List.nodup_cons] at h
    unfold mM
    by_cases e:a=c
    · subst e
      rw[if_pos rfl]
      cases r with
      |nil=>exact .inl rfl
      |cons b t=>exact .inr ⟨by simp,fun q=>h.1 (by simp at q;simp[q])⟩
    · rw[if_neg e]
      rcases uB (c:=c) h.2 with q|⟨q1,q2⟩
      ·exact .inl q
      ·exact .inr ⟨c7 _ q1,q2⟩
theorem wk (a:Int)(r:List Int)(c:Int):mM (a::r) c=if a=c then(r.head?).getD (-1) else mM r c:=rfl
theorem oD (l:List ai){cs:List Int}{gone:Int}(h:gone∉cs)(kd:Int):gU l gone cs kd=cs.countP fun k=>decide ((nd l k).kind=kd):=by
  unfold gU
  refine List.countP_congr fun c hc=>?_
  have:c≠gone:=fun e=>h (e▸hc)
  simp[this]
theorem zW {cs:List Int}(h1:∀c∈cs,(nd l c).kind=1∨(nd l c).kind=2)(h2:cs.countP (fun k=>decide ((nd l k).kind=2))=0):(∀c∈cs,(nd l c).kind=1)∧cs.countP (fun k=>decide ((nd l k).kind=1))=cs.length:=by
  have h3:∀c∈cs,(nd l c).kind=1:=fun c hc=>(h1 c hc).resolve_right fun q=>by
    have:=List.countP_eq_zero.1 h2 c hc
    simp[q] at this
  exact⟨h3,List.countP_eq_length.2 fun c hc=>by simp[h3 c hc]⟩
theorem C9 (R:RF l m){n p child:Int}(hn:af l n=true)(hp:af l p=true)(hc:child=-1∨af l child=true)(h:kO l p child (-1) n=0):qu l n p (if child≠n then child else mM (nd l p).kids n):=by
  have hn0:=aV hn
  unfold kO at h
  by_cases e1:(!eN (nd l p).kind||mT l n p)=true
  ·rw[if_pos e1] at h;omega
  rw[if_neg e1] at h
  have e1':eN (nd l p).kind=true∧mT l n p=false:=by simpa using e1
  by_cases e2:child≠-1∧(nd l child).parent≠p
  ·rw[if_pos e2] at h;omega
  rw[if_neg e2] at h
  by_cases e3:(nd l n).kind=0∨(nd l n).kind=4
  ·rw[if_pos e3] at h;omega
  rw[if_neg e3] at h
  have hk:=R.kinds hn
  have hch:child=-1∨child∈ (nd l p).kids:=by
    by_cases c:child=-1
    ·exact .inl c
    · refine .inr ((R.child hp (hc.resolve_left c)).1 ?_)
      exact Classical.byContradiction fun q=>e2 ⟨c,q⟩
  have hno:∀cs:List Int,(∀c∈cs,af l c=true)→(-1:Int)∉cs:=fun cs hcs q=>by have:=aV (hcs _ q);omega
  refine⟨hn,hp,by omega,e1'.1,by have:=e1'.2;unfold mT at this;simpa using this,?_,fun h0=>?_⟩
  · by_cases e:child≠n
    · rw[if_pos e]
      rcases hch with q|q
      ·exact .inl q
      ·exact .inr ⟨e,q⟩
    · rw[if_neg e]
      rcases uB (c:=n) (R.dup p hp) with q|⟨q1,q2⟩
      ·exact .inl q
      ·exact .inr ⟨q2,q1⟩
  · have hkids:∀c∈ (nd l p).kids,af l c=true:=fun c hc=>(R.kid p hp c hc).1
    have hel:=R.elems p hp h0
    have hle:cZ l ((nd l p).kids.erase n)≤cZ l (nd l p).kids:=List.Sublist.countP_le List.erase_sublist
    have hek:gU l (-1) (nd l p).kids 1=cZ l (nd l p).kids:=oD l (hno _ hkids) 1
    have fin:∀cs:List Int,(∀c∈cs,af l c=true)→(∀c∈cs,(nd l c).kind=1∨(nd l c).kind=2)→iR l p (-1) cs=false→(∀k∈cs,(nd l k).kind=1)∧cs.length+cZ l ((nd l p).kids.erase n)≤1:=by
      intro cs hcs hkd hcr
      unfold iR at hcr
      rw[oD l (hno _ hcs) 1,oD l (hno _ hcs) 2,hek] at hcr
      simp only[Bool.or_eq_false_iff,Bool.and_eq_false_iff,dh] at hcr
      have:=zW hkd (by omega)
      refine⟨this.1,?_⟩
      rw[this.2] at hcr
      omega
    by_cases e5:(nd l n).kind=3
    · have hpar:dn l n=(nd l n).kids:=by unfold dn;rw[if_pos e5]
      rw[if_pos e5] at h
      rw[hpar]
      refine fin _ (fun c hc=>(R.kid n hn c hc).1) (fun c hc=>by have:=(R.kid n hn c hc).2.2.2;omega) ?_
      by_cases q:iR l p (-1) (nd l n).kids=true
      ·rw[if_pos (by simp[h0,q])] at h;omega
      ·simpa using q
    · rw[if_neg e5] at h
      rw[fQ e5]
      refine fin _ (fun c hc=>by rw[gg.1 hc];exact hn) (fun c hc=>by rw[gg.1 hc];omega) ?_
      by_cases q:iR l p (-1) [n]=true
      ·rw[if_pos (by simp[h0,q])] at h;omega
      ·simpa using q
end
section
variable {l l' : List ai} {m : Int}
theorem Af (R:RF l m){p:Int}(hp:af l p=true):∀c∈ (nd l p).kids,c≠-1:=fun c hc=>by have:=aV (R.kid p hp c hc).1;omega
end
def eS (f:ForM)(n p child:Int):ForM×List aR×Int:=if nY f n p child=0 then(⟨(dz (f.nodes,[]) n p (gT f n p child)).1,f.most⟩,(dz (f.nodes,[]) n p (gT f n p child)).2,0) else(f,[],nY f n p child)
def iz (f:ForM)(n:Int):ForM×List aR×Int:=if(aX f&&af f.nodes n)=true then(if(nd f.nodes n).parent=-1 then(f,[],6) else(⟨(dA (f.nodes,[]) n).1,f.most⟩,(dA (f.nodes,[]) n).2,0)) else(f,[],1)
section
variable {l l' : List ai} {m : Int}
theorem wo {f:ForM}{n p child:Int}(h:nY f n p child≠0):eS f n p child=(f,[],nY f n p child):=by unfold eS;rw[if_neg h]
theorem Ev (R:RF l m){n p child:Int}:iO ⟨l,m⟩ n p child=true↔ (af l n=true∧af l p=true)∧(child=-1∨af l child=true):=by
  unfold iO
  rw[cC.2 R]
  simp only[bQ,jK,bO,Bool.true_and]
theorem FU (R:RF l m){n p child:Int}(hn:af l n=true)(hp:af l p=true)(hc:child=-1∨af l child=true):nY ⟨l,m⟩ n p child=kO l p child (-1) n:=by
  unfold nY;rw[if_pos ((Ev R).2 ⟨⟨hn,hp⟩,hc⟩)]
theorem uJ (R:RF l m){n:Int}(hn:af l n=true)(hp:(nd l n).parent≠-1):iz ⟨l,m⟩ n=(⟨bI l n,m⟩,(if iD l n=true then sN l n (nw 2 0 0) else[]),0):=by
  unfold iz
  rw[if_pos (by rw[cC.2 R,hn];rfl),if_neg hp,mH]
  unfold dA
  rw[if_neg hp,List.nil_append]
theorem tD (R:RF l m){n:Int}(hn:af l n=true)(hp:(nd l n).parent=-1):iz ⟨l,m⟩ n=(⟨l,m⟩,[],6):=by
  unfold iz
  rw[if_pos (by rw[cC.2 R,hn];rfl),if_pos hp]
theorem BO {n p b:Int}(h:(nd l n).kind≠3)(t:List aR):dz (l,t) n p b=cK p b (l,t) n:=by
  unfold dz
  rw[fQ h,if_neg h];rfl
end
def iv (cs:List Int)(b:Int)(ks:List Int):List Int:=if b=-1 then cs++ks else cs.takeWhile (fun c=>decide (c≠b))++ (ks++cs.dropWhile (fun c=>decide (c≠b)))
theorem yI {q:Int→Bool}:∀ {a r:List Int},(∀x∈a,q x=true)→(a++r).takeWhile q=a++r.takeWhile q
  |[],r,_=>rfl
  |x::a,r,h=>by rw[List.cons_append,List.takeWhile_cons,if_pos (h x dJ),yI fun y hy=>h y (c7 _ hy)];rfl
theorem yP {q:Int→Bool}:∀ {a r:List Int},(∀x∈a,q x=true)→(a++r).dropWhile q=r.dropWhile q
  |[],r,_=>rfl
  |x::a,r,h=>by rw[List.cons_append,List.dropWhile_cons,if_pos (h x dJ),yP fun y hy=>h y (c7 _ hy)]
theorem At {q:Int→Bool}:∀ {a:List Int} {x:Int},x∈a.takeWhile q→q x=true
  |[],x,h=>by cases h
  | y ::a,x,h=>by
    rw[List.takeWhile_cons] at h
    split at h
    · rename_i e
      rcases dm.1 h with q1|q1
      ·rw[q1];exact e
      ·exact At q1
    ·cases h
theorem qJ {q:Int→Bool}:∀ {a:List Int},(a.dropWhile q).takeWhile q=[]∧(a.dropWhile q).dropWhile q=a.dropWhile q
  |[]=>⟨rfl,rfl⟩
  | y ::a=>by
    rw[List.dropWhile_cons]
    split
    ·exact qJ
    · rename_i e
      rw[List.takeWhile_cons,List.dropWhile_cons,if_neg e,if_neg e]
      exact⟨rfl,rfl⟩
theorem yV {cs ks:List Int}{b k:Int}(hb:b∉ks)(hc:b≠k):oF (iv cs b ks) b k=iv cs b (ks++ [k]):=by
  unfold oF iv
  by_cases e:b=-1
  ·rw[if_pos e,if_pos e,if_pos e,List.append_assoc]
  · rw [if_neg e,if_neg e,if_neg e]
    have h1:∀x∈cs.takeWhile (fun c=>decide (c≠b))++ks,(fun c=>decide (c≠b)) x=true:=fun x hx=>by
      rcases List.mem_append.1 hx with q|q
      ·exact At q
      ·simp only[bO];exact fun r=>hb (r▸q)
    rw[←List.append_assoc,yI h1,yP h1,qJ.1,qJ.2]
    simp
theorem rJ (cs:List Int)(b:Int):iv cs b []=cs:=by
  unfold iv
  split
  ·simp
  ·rw[List.nil_append,List.takeWhile_append_dropWhile]
section
variable {l l' : List ai} {m : Int}
theorem tI {p b:Int}:∀ (ks done:List Int) {l:List ai} (cs:List Int),RF l m→ks.Nodup→(∀k∈ks,fu l k p b∧(nd l k).parent=-1)→((nd l p).kind=0→ks.length≤1)→(b∉done)→(b=-1∨b∉ks)→(nd l p).kids=iv cs b done→(∀k∈ks,af l k=true)→af l p=true→(nd (ks.foldl (fun l k=>cA l k p b) l) p).kids=iv cs b (done++ks)∧(∀x,af l x=true→x≠p→(∀k∈ks,(nd l k).parent≠x)→(nd (ks.foldl (fun l k=>cA l k p b) l) x).kids=(nd l x).kids)∧(∀k,af l k=true→(nd (ks.foldl (fun l k=>cA l k p b) l) k).parent=if k∈ks then p else(nd l k).parent)
  |[],done,l,cs,R,_,_,_,_,_,h,_,_=>⟨by rw[List.append_nil];exact h,fun _ _ _ _=>rfl,fun k _=>by rw[if_neg (by simp)];rfl⟩
  | k :: ks,done,l,cs,R,hd,h,h0,hbd,hbk,hk,ht,hp=>by
    rw[List.nodup_cons] at hd
    have C:=(h k dJ).1
    have hpk:=(h k dJ).2
    have L:=fU R C
    have T:=bf (fj l k p b)
    have hpp:=aV hp
    have hkk:k∉ (nd l p).kids:=fun q=>by have:=(R.kid p hp k q).2.1;omega
    have hbk1:b≠k:=by
      rcases C.ab with q|q
      ·have:=aV C.tk;omega
      ·exact q.1
    have hkids:(nd (cA l k p b) p).kids=iv cs b (done++ [k]):=by
      rw[(L p hp).2.2.1,if_pos rfl,nG hkk,hk,yV hbd hbk1]
    have hnext:=fun j (hj:j∈ks)=>nR R C (h j (c7 _ hj)).1 (fun e=>hd.1 (e▸hj)) (fun e=>by
      have q1:(k::ks).length≤1:=h0 e
      have q2:=List.length_pos_of_mem hj
      rw[List.length_cons] at q1;omega)
    have hpar:∀j,af l j=true→j≠k→(nd (cA l k p b) j).parent=(nd l j).parent:=fun j hj hne=>by rw[(L j hj).2.1,if_neg hne]
    have ih:=tI (p:=p) (b:=b) ks (done++ [k]) cs (ig R C) hd.2 (fun j hj=>⟨hnext j hj,by rw[hpar j (ht j (c7 _ hj)) (fun e=>hd.1 (e▸hj))];exact(h j (c7 _ hj)).2⟩) (fun e=>by
      rw[(L p hp).1.kind] at e
      have q1:(k::ks).length≤1:=h0 e
      rw[List.length_cons] at q1;omega) (fun q=>(List.mem_append.1 q).elim hbd (fun r=>hbk1 (gg.1 r))) (hbk.imp id fun q r=>q (c7 _ r)) hkids (fun j hj=>by rw[T];exact ht j (c7 _ hj)) (by rw[T];exact hp)
    refine⟨?_,fun x hx hxp hxk=>?_,fun j hj=>?_⟩
    · have:=ih.1
      rwa [List.append_assoc] at this
    · have hx1:(nd (cA l k p b) x).kids=(nd l x).kids:=by
        rw[(L x hx).2.2.1,if_neg hxp,if_neg (fun q=>hxk k dJ q.symm)]
      refine(ih.2.1 x (by rw[T];exact hx) hxp fun j hj=>?_).trans hx1
      rw[hpar j (ht j (c7 _ hj)) (fun e=>hd.1 (e▸hj))]
      exact hxk j (c7 _ hj)
    · refine(ih.2.2 j (by rw[T];exact hj)).trans ?_
      by_cases e:j=k
      · subst e
        rw[if_neg hd.1,if_pos dJ,(L j hj).2.1,if_pos rfl]
      · rw[hpar j hj e]
        by_cases c:j∈ks
        ·rw[if_pos c,if_pos (c7 _ c)]
        ·rw[if_neg c,if_neg (fun q=>(dm.1 q).elim e c)]
theorem vw:∀ (ks:List Int) {l:List ai},RF l m→(∀k∈ks,af l k=true)→∀ (n:Int),af l n=true→ks.Nodup→(∀k∈ks,(nd l k).parent=n)→(nd (ks.foldl bI l) n).kids=ks.foldl List.erase (nd l n).kids
  |[],l,_,_,n,_,_,_=>rfl
  | k ::ks,l,R,h,n,hn,hd,hp=>by
    rw[List.nodup_cons] at hd
    have T:=bf (dS l k)
    have hk:=h k dJ
    have L:=gN R hk
    have:=vw ks (fm R hk) (fun j hj=>by rw[T];exact h j (c7 _ hj)) n (by rw[T];exact hn) hd.2 (fun j hj=>by
      rw[(L j (h j (c7 _ hj))).2.2.1,if_neg (fun e:j=k=>hd.1 (e▸hj))]
      exact hp j (c7 _ hj))
    show(nd (ks.foldl bI (bI l k)) n).kids=ks.foldl List.erase ((nd l n).kids.erase k)
    rw[this,(L n hn).2.2.2,if_pos (hp k dJ).symm]
theorem wm:∀ (cs:List Int),cs.foldl List.erase cs=[]
  |[]=>rfl
  | a::r=>by
    show r.foldl List.erase ((a::r).erase a)=[]
    rw[List.erase_cons_head];exact wm r
theorem E4 (R:RF l m)(t:List aR){n p b:Int}(C:qu l n p b):(nd (dz (l,t) n p b).1 p).kids=iv ((nd l p).kids.filter fun k=> !me (dn l n) k) b (dn l n)∧(∀k∈dn l n,af l k=true∧(nd (dz (l,t) n p b).1 k).parent=p)∧((nd l n).kind=3→(nd (dz (l,t) n p b).1 n).kids=[])∧(dn l n).Nodup∧(∀k∈dn l n,k∈ (nd (dz (l,t) n p b).1 p).kids):=by
  have hne:n≠p:=fun e=>C.w (by rw[e];exact U.cV R.tree C.tp)
  have hmem:∀ (cs ks:List Int) (k:Int),k∈ks→k∈iv cs b ks:=fun cs ks k hk=>by
    unfold iv;split
    ·exact List.mem_append_right _ hk
    ·exact List.mem_append_right _ (List.mem_append_left _ hk)
  have hn0:=aV C.tn
  by_cases h3:(nd l n).kind=3
  · have hpar:dn l n=(nd l n).kids:=by unfold dn;rw[if_pos h3]
    have hks:∀k∈ (nd l n).kids,af l k=true:=fun k hk=>(R.kid n C.tn k hk).1
    have L:=jm (nd l n).kids R hks n (fun k hk=>.inl (R.kid n C.tn k hk).2.1)
    obtain⟨h1,h2,h4,h5⟩:=qi R C h3
    have T:=bf h2
    have hfil:((nd l p).kids.filter fun k=> !me (nd l n).kids k)=(nd l p).kids:=by
      rw[List.filter_eq_self]
      intro k hk
      unfold me
      simp only[Bool.not_eq_true',dh]
      intro q
      exact hne ((R.kid n C.tn k q).2.1.symm.trans (R.kid p C.tp k hk).2.1)
    have hbn:b∉ (nd l n).kids:=fun q=>by
      rcases C.ab with r|r
      ·exact Af R C.tn b q r
      ·exact hne ((R.kid n C.tn b q).2.1.symm.trans (R.kid p C.tp b r.2).2.1)
    have K:=tI (p:=p) (b:=b) (nd l n).kids [] (nd l p).kids h1 (R.dup n C.tn) h4 (fun e=>h5 (by rw[←(L p C.tp).1.kind];exact e)) (by simp) (.inr hbn) (by rw[rJ];exact(L p C.tp).2.2.2 (fun e=>hne e.symm)) (fun k hk=>by rw[T];exact hks k hk) (by rw[T];exact C.tp)
    rw[List.nil_append] at K
    have hst:(dz (l,t) n p b).1=(nd l n).kids.foldl (fun l k=>cA l k p b) ((nd l n).kids.foldl bI l):=by
      unfold dz
      rw[lI]
      simp only[hpar,if_pos h3,gC]
    rw[hst,hpar,hfil]
    refine⟨K.1,fun k hk=>⟨hks k hk,?_⟩,fun _=>?_,R.dup n C.tn,fun k hk=>?_⟩
    ·rw[K.2.2 k (by rw[T];exact hks k hk),if_pos hk]
    · refine(K.2.1 n (by rw[T];exact C.tn) hne fun k hk=>?_).trans ?_
      ·rw[(L k (hks k hk)).2.2.1,if_pos hk];omega
      · rw[vw (nd l n).kids R hks n C.tn (R.dup n C.tn) (fun k hk=>(R.kid n C.tn k hk).2.1)]
        exact wm _
    ·rw[K.1];exact hmem _ _ _ hk
  · have hpar:=fQ h3
    have D:=pB C h3
    have L:=fU R D
    have hst:(dz (l,t) n p b).1=cA l n p b:=by rw[BO h3];rfl
    have hfil:((nd l p).kids.filter fun k=> !me [n] k)=(nd l p).kids.erase n:=by
      rw[(R.dup p C.tp).erase_eq_filter]
      refine List.filter_congr fun k _=>?_
      unfold me
      rw[Bool.eq_iff_iff]
      simp
    have hk:(nd (cA l n p b) p).kids=iv ((nd l p).kids.erase n) b [n]:=by
      rw[(L p C.tp).2.2.1,if_pos rfl]
      have:=yV (cs:=(nd l p).kids.erase n) (ks:=[]) (b:=b) (k:=n) (by simp) (by
        rcases D.ab with q|q
        ·omega
        ·exact q.1)
      rwa [rJ,List.nil_append] at this
    rw[hst,hpar,hfil]
    refine⟨hk,fun k hk2=>?_,fun e=>absurd e h3,by simp,fun k hk2=>?_⟩
    · rw[gg.1 hk2]
      exact⟨C.tn,by rw[(L n C.tn).2.1,if_pos rfl]⟩
    ·rw[hk];exact hmem _ _ _ hk2
end
def J4 (b:Bool):Int:=if b=true then 1 else 0
def uk (s:Int×Int)(x:aR):Option (Int×Int):=
  match(if x.kind=1 then some (s.1+1,s.2) else if x.kind=2 then some (s.1-1,s.2) else if x.kind=3 then(if x.src≠s.2∨x.dst=s.2∨s.1≠0 then none else some (s.1,x.dst)) else some s:Option (Int×Int)) with
  |none=>none
  |some t=>if t.1<0∨1<t.1 then none else some t
def runN:Int×Int→List aR→Option (Int×Int)
  |s,[]=>some s
  | s,x::r=>match uk s x with
    |none=>none
    |some t=>runN t r
theorem Ad:∀ (a b:List aR) (s:Int×Int),runN s (a++b)=match runN s a with
    |none=>none
    |some t=>runN t b
  |[],b,s=>rfl
  | x::a,b,s=>by
    show(match uk s x with|none=>none|some t=>runN t (a++b))=match(match uk s x with|none=>none|some t=>runN t a) with|none=>none|some t=>runN t b
    cases uk s x with
    |none=>rfl
    |some t=>exact Ad a b t
def nF (n:Int)(ns:List aR):List aR:=ns.filter fun x=>decide (x.node=n)
theorem zg (n:Int)(a b:List aR):nF n (a++b)=nF n a++nF n b:=List.filter_append ..
structure Told (l l':List ai) (ns:List aR):Prop where
  el:∀x∈ns,af l x.node=true∧(nd l x.node).kind=1
  run:∀n,af l n=true→(nd l n).kind=1→runN (J4 (iD l n),(nd l n).doc) (nF n ns)=some (J4 (iD l' n),(nd l' n).doc)
theorem Told.nil (l:List ai):Told l l []:=⟨fun x hx=>by simp at hx,fun n _ _=>rfl⟩
theorem Told.trans {a b c:List ai}{x y:List aR}(hl:b.length=a.length)(hk:∀n,af a n=true→(nd b n).kind=(nd a n).kind)(h:Told a b x)(k:Told b c y):Told a c (x++y):=by
  have T:=bf hl
  refine⟨fun z hz=>?_,fun n hn h1=>?_⟩
  · rcases List.mem_append.1 hz with q|q
    ·exact h.el z q
    · have:=k.el z q
      rw[T] at this
      exact⟨this.1,by rw[←hk _ this.1];exact this.2⟩
  · rw[zg,Ad,h.run n hn h1]
    exact k.run n (by rw[T];exact hn) (by rw[hk n hn];exact h1)
section
variable {l l' : List ai} {m : Int}
theorem Hs (R:RF l m){n:Int}(hn:af l n=true)(hw:U.bA l' n=U.bA l n)(hk:∀x,af l x=true→(nd l' x).kind=(nd l x).kind):iD l' n=iD l n:=by
  have e:nW l' n=nW l n:=by unfold nW;rw[hw]
  unfold iD
  rw[e,hk _ (v7 R.tree n hn)]
def tv (ns:List aR):Prop:=∀x∈ns,x.kind≠4
theorem tv.nil:tv []:=fun x hx=>by simp at hx
theorem tv.app {a b:List aR}(h:tv a)(k:tv b):tv (a++b):=fun x hx=>(List.mem_append.1 hx).elim (h x) (k x)
end
section
variable {l l' : List ai} {m : Int}
end
structure oh (x y:ai):Prop where
  kind:x.kind=y.kind
  parent:x.parent=y.parent
  kids:x.kids=y.kids
  host:x.host=y.host
  under:x.under=y.under
  doc:x.doc=y.doc
theorem oh.refl (x:ai):oh x x:=⟨rfl,rfl,rfl,rfl,rfl,rfl⟩
section
variable {l l' : List ai} {m : Int}
theorem F2 (hl:l'.length=l.length)(hs:∀x,af l x=true→oh (nd l' x) (nd l x))(a k:Int):jY l' a k=jY l a k:=by
  unfold jY
  rw[bf hl]
  cases h:af l a with
  |false=>rfl
  |true=>rw[(hs a h).kind]
theorem zK {x y:ai}(h:oh x y):c8 x=c8 y:=by unfold c8;rw[h.parent,h.host]
theorem RF.same (R:RF l m)(hl:l'.length=l.length)(hs:∀x,af l x=true→oh (nd l' x) (nd l x))(hn:∀x,af l x=true→fq (nd l' x)=true):RF l' m:=by
  have T:=bf hl
  have I:=F2 hl hs
  have isT:∀ {a k:Int},jY l a k=true→af l a=true:=fun h=>by unfold jY at h;rw[bQ] at h;exact h.1
  refine⟨?_,fun n h0=>?_,fun n h0=>?_,fun n h0 h=>?_,fun n h0 c hc=>?_,fun n h0=>?_,fun n h0 h=>?_,fun n h0 h=>?_,fun n h0 h=>?_,fun n h0 h=>?_,fun n h0 h=>?_,fun n h0=>?_⟩
  · have:=R.head
    unfold oV at this ⊢
    rw[hl,(hs 0 R.pos).kind];exact this
  all_goals rw[T] at h0
  all_goals have S:=hs n h0
  ·exact hn n h0
  ·rw[I,S.kind,S.doc];exact R.own n h0
  · rw[S.parent] at h ⊢
    have q:=R.par n h0 h
    rw[T,S.kind,(hs _ q.2.1).kind,(hs _ q.2.1).kids];exact q
  · rw[S.kids] at hc
    have q:=R.kid n h0 c hc
    rw[T,S.kind,S.doc,(hs c q.1).kind,(hs c q.1).parent,(hs c q.1).doc];exact q
  ·rw[S.kids];exact R.dup n h0
  ·rw[S.kids] at h;rw[S.kind];exact R.hold n h0 h
  · rw [S.kind] at h
    rw[S.kids]
    have:cZ l' (nd l n).kids=cZ l (nd l n).kids:=by
      unfold cZ
      exact List.countP_congr fun c hc=>by rw[(hs c (R.kid n h0 c hc).1).kind]
    rw[this];exact R.elems n h0 h
  · rw[S.kind] at h
    have q:=R.host n h0 h
    rw[I,S.host,S.doc,(hs _ (isT q.1)).under,(hs _ (isT q.1)).doc];exact q
  · rw[S.kind] at h
    rw[S.host];exact R.noh n h0 h
  · rw[S.under] at h
    have q:=R.und n h0 h
    rw[I,S.kind,S.under,(hs _ (isT q.2.1)).host];exact q
  · rw[hl,iq]
    refine sA (g:=fun n=>c8 (nd l n)) (P:=fun x=>af l x=true) (fun y hy=>.inl (zK (hs y hy))) (fun y hy h=>R.up hy h) h0 (by rw[←iq];exact R.ends n h0)
def iM (l:List ai)(n:Int)(xs:List AttrM):List ai:=nS l n fun x=>{x with attrs:=xs}
theorem gL (l:List ai)(n:Int)(xs:List AttrM):(iM l n xs).length=l.length:=gS ..
theorem Bb {n x:Int}{xs:List AttrM}(hn:af l n=true)(hx:af l x=true):nd (iM l n xs) x=if x=n then{nd l x with attrs:=xs} else nd l x:=by
  unfold iM
  rw[nc _ hn hx]
  by_cases e:x=n
  ·subst e;simp
  ·rw[if_neg e,if_neg e]
theorem mR {n:Int}{xs:List AttrM}(hn:af l n=true)(x:Int)(hx:af l x=true):oh (nd (iM l n xs) x) (nd l x)∧(nd (iM l n xs) x).name=(nd l x).name∧(nd (iM l n xs) x).attrs=if x=n then xs else(nd l x).attrs:=by
  rw[Bb hn hx]
  by_cases e:x=n
  ·rw[if_pos e,if_pos e];exact⟨⟨rfl,rfl,rfl,rfl,rfl,rfl⟩,rfl,rfl⟩
  ·rw[if_neg e,if_neg e];exact⟨.refl _,rfl,rfl⟩
theorem D8 (R:RF l m){n:Int}{xs:List AttrM}(hn:af l n=true)(hk:(nd l n).kind=1)(ha:cE xs=true):RF (iM l n xs) m:=by
  refine R.same (gL ..) (fun x hx=>(mR hn x hx).1) fun x hx=>?_
  rw[Bb hn hx]
  have:=R.Hw x hx
  split
  · rename_i e
    subst e
    unfold fq at this ⊢
    rw[if_pos hk] at this
    simp only[bQ] at this ⊢
    rw[if_pos hk]
    simp only[bQ]
    exact⟨this.1,ha⟩
  ·exact this
theorem EO (hl:l'.length=l.length)(R:RF l m)(hs:∀x,af l x=true→oh (nd l' x) (nd l x)){x:Int}(hx:af l x=true):U.bA l' x=U.bA l x:=by
  rw[vT,vT,hl]
  exact(kr (P:=fun x=>af l x=true) (k:=-1) (g:=fun n=>c8 (nd l n)) (g':=fun n=>c8 (nd l' n)) (fun y hy _=>zK (hs y hy)) (fun y hy h=>R.up hy h) hx (by rw[←iq];exact R.ends x hx) (fun h=>by
    have:=aV (M1 (P:=fun n=>af l n=true) (fun n hn hne=>R.up hn hne) hx _ h)
    omega)).2
end
theorem EG (l:List ai):∀ (m:Nat) (n:Int),r7 l m n=qA (fun n=>(nd l n).parent) m n
  |0,_=>rfl
  |m+1,n=>by unfold r7 qA;rw[EG l m]
theorem GN (l:List ai):∀ (m:Nat) (n:Int),gh l m n=fD (fun n=>(nd l n).parent) m n
  |0,_=>rfl
  |m+1,n=>by unfold gh fD;rw[GN l m]
section
variable {l l' : List ai} {m : Int}
theorem RF.uh (R:RF l m):Tree l:=gl (f:=⟨l,m⟩) (cC.2 R)
theorem Eb (hl:l'.length=l.length)(R:RF l m)(hp:∀x,af l x=true→(nd l' x).parent=(nd l x).parent){x:Int}(hx:af l x=true):bA l' x=bA l x:=by
  have T:=R.uh
  have hP:∀y,af l y=true→(fun n=>(nd l n).parent) y≠-1→af l ((fun n=>(nd l n).parent) y)=true:=fun y hy h=>(R.par y hy h).2.1
  unfold bA
  rw[EG,EG,hl]
  exact(kr (P:=fun x=>af l x=true) (k:=-1) (g:=fun n=>(nd l n).parent) (g':=fun n=>(nd l' n).parent) (fun y hy _=>hp y hy) hP hx (by rw[←GN];exact T.fin x hx) (fun h=>by
    have:=aV (M1 (P:=fun n=>af l n=true) hP hx _ h)
    omega)).2
theorem Hq (R:RF l m)(hs:∀x,af l x=true→(nd l' x).kind=(nd l x).kind∧(nd l' x).name=(nd l x).name∧(nd l' x).kids=(nd l x).kids){n:Int}(hn:af l n=true):lJ l' n=lJ l n:=by
  unfold lJ Cq
  rw[(hs n hn).2.2,BT (p:=mD l') (q:=mD l) fun k hk=>?_]
  have hk':=(R.kid n hn k hk).1
  unfold mD
  rw[(hs k hk').1,(hs k hk').2.1]
theorem yd (T:Tree l){i:Int}(hi:af l i=true):jv l i=true↔fI (nd l i)=true∨((nd l i).kind=1∧∃c∈bA l i,(nd l c).parent≠-1∧(nd l (nd l c).parent).name=Ij∧fI (nd l (nd l c).parent)=true∧lJ l (nd l c).parent≠c):=by
  unfold jv
  rw[jK,bQ,bO,vU T _ _ (T.fin i hi)]
  unfold yS
  simp only[bQ,bO]
  exact Iff.rfl
theorem HA (R:RF l m)(R':RF l' m)(hl:l'.length=l.length)(hs:∀x,af l x=true→oh (nd l' x) (nd l x)∧(nd l' x).name=(nd l x).name){i:Int}(hi:af l i=true):
    jv l' i=true↔fI (nd l' i)=true∨((nd l i).kind=1∧∃c∈bA l i,(nd l c).parent≠-1∧(nd l (nd l c).parent).name=Ij∧fI (nd l' (nd l c).parent)=true∧lJ l (nd l c).parent≠c):=by
  have T:=R.uh
  rw[yd R'.uh (by rw[bf hl];exact hi),(hs i hi).1.kind,Eb hl R (fun x hx=>(hs x hx).1.parent) hi]
  refine or_congr Iff.rfl (and_congr Iff.rfl (exists_congr fun c=>and_congr_right fun hc=>?_))
  have hct:=fW T i hi c hc
  rw[(hs c hct).1.parent]
  refine and_congr_right fun hp=>?_
  have hpt:=(R.par c hct hp).2.1
  rw[(hs _ hpt).2,Hq R (fun x hx=>⟨(hs x hx).1.kind,(hs x hx).2,(hs x hx).1.kids⟩) hpt]
end
section
variable {l l' : List ai} {m : Int}
theorem yR {x y:ai}(h:eZ x y):fI x=fI y:=by unfold fI;rw[h.kind,h.attrs]
theorem He {n:Int}(h:(nd l n).kind≠1):jv l n=false:=by
  unfold jv fI
  rw[bY h];rfl
theorem B3 (R:RF l m){n:Int}(hn:af l n=true)(hp:(nd l n).parent=-1):jv l n=fI (nd l n):=by
  rw[Bool.eq_iff_iff,yd R.uh hn,dR R.uh hn hp]
  constructor
  · rintro(h|⟨_,c,hc,h,_⟩)
    ·exact h
    ·rw[gg.1 hc] at h;exact absurd hp h
  ·exact .inl
theorem JW (R:RF l m)(R':RF l' m)(hl:l'.length=l.length)(hs:∀x,af l x=true→oh (nd l' x) (nd l x)∧(nd l' x).name=(nd l x).name){n p:Int}(hn:af l n=true)(hp:(nd l n).parent=p)(hp1:p≠-1)(hk:(nd l n).kind=1)(hkp:(nd l p).kind=1)(hleg:lJ l p=n)
    (hd:∀x,af l x=true→fI (nd l' x)=if x=p then false else fI (nd l x)):jv l n=(fI (nd l n)||jv l' p):=by
  subst hp
  have hpt:=(R.par n hn hp1).2.1
  have T:=R.uh
  have hw:=bW T hn hp1
  rw[Bool.eq_iff_iff,jK,yd T hn,HA R R' hl hs hpt,hd _ hpt,if_pos rfl]
  refine or_congr Iff.rfl ?_
  constructor
  · rintro⟨_,c,hc,h1,h2,h3,h4⟩
    rw[hw] at hc
    rcases dm.1 hc with e|hc
    ·subst e;exact absurd hleg h4
    · refine .inr ⟨hkp,c,hc,h1,h2,?_,h4⟩
      have hct:=fW T _ hpt c hc
      rw[hd _ (R.par c hct h1).2.1,if_neg]
      ·exact h3
      · intro e
        -- its parent is not on its own way
        have h5:=bW T hct h1
        rw[e] at h5
        obtain⟨t,ht⟩:=gV T _ hpt c hc
        have:=congrArg List.length ht
        rw[jH,h5,List.length_cons] at this
        omega
  · rintro(h|⟨_,c,hc,h1,h2,h3,h4⟩)
    ·cases h
    · have hct:=fW T _ hpt c hc
      rw[hd _ (R.par c hct h1).2.1] at h3
      split at h3
      ·cases h3
      ·exact⟨hk,c,by rw[hw];exact c7 _ hc,h1,h2,h3,h4⟩
theorem wA {n p:Int}{r:List Int}(hk:(nd l p).kids=n::r)(h1:(nd l n).kind=1)(h2:(nd l n).name=HD):lJ l p=n:=by
  unfold lJ Cq
  rw[hk]
  have:eC (mD l) (n::r)=0:=by
    have e:mD l n=true:=by unfold mD;rw[h1,h2];simp
    unfold eC
    rw[List.findIdx?_cons,e];rfl
  rw[this,if_pos (by decide)];rfl
end
end Go.Proofs.Heir
namespace Go.Proofs.Heir
open Go.Am Go.RowKit Go.Lib
set_option maxRecDepth 100000
theorem I4 (l:List AttrM)(hl:l.length≤100000):an Tryz.prog 123 [] [dG l] [GL l] (.own 0 0 l.length):=by
  have hlm:(l.map dI).length=l.length:=cj ..
  refine an.aF (rvs:=[.tmp 2]) G au Tryz.func123 rfl Tryz.ntmps123 rfl rfl ?_;with_reducible refine wD ?_
  refine o8.mk (fun h=>?_) (fun _=>?_)<;>with_reducible refine wK ?_
  · obtain rfl:l=[]:=by simpa using h
    (refine eK ?_ ?_<;>with_reducible repeat' (first|exact trivial|(show _∧_;refine aK ?_ ?_)))
    all_goals first|rfl|trivial
  · refine j0.mk [] (l.map dI) ⟨rfl,rfl,rfl⟩ ⟨rfl,rfl,rfl⟩ (vX l) (by simp;omega) (by simp;omega) ?_;with_reducible refine wK ?_
    (refine eK ?_ ?_<;>with_reducible repeat' (first|exact trivial|(show _∧_;refine aK ?_ ?_)))
    ·exact hlm.symm
    ·exact bP (gu l)
end Go.Proofs.Heir
namespace Go.Proofs.Heir
open Go.Am Go.RowKit Go.Lib
set_option maxRecDepth 100000
set_option maxHeartbeats 8000000
theorem eP (b:Nat)(e:TypeId)(fz:Nat×Nat):∀ (vs:List Value) (o:Nat) (C:Array Value) (w:World),w.heap[b]? =some (.cells C e fz)→o+vs.length≤C.size→
    ∃C',w.setCells b o vs=w.setRow b C'∧C'.size=C.size∧∀q,C'[q]? =if o≤q∧q<o+vs.length then vs[q-o]? else C[q]?
  |[],o,C,w,h,_=>⟨C,(setRow_self w b C e fz h).symm,rfl,fun q=>by rw[if_neg (by simp only[List.length_nil];omega)]⟩
  | v ::r,o,C,w,h,hl=>by
    have h1:w.setCell ⟨b,o,none⟩ v=w.setRow b (C.setIfInBounds o v):=by
      have hb:=(Array.getElem?_eq_some_iff.1 h)
      unfold World.setCell World.setRow
      congr 1
      apply Array.ext_getElem?
      intro k
      rw[Array.getElem?_modify,Array.getElem?_modify]
      by_cases hk:b=k
      ·subst hk;simp[h]
      ·simp[hk]
    have h2:=setRow_heap w b C (C.setIfInBounds o v) e fz h
    obtain⟨C',k1,k2,k3⟩:=eP b e fz r (o+1) (C.setIfInBounds o v) (w.setRow b (C.setIfInBounds o v)) h2 (by simp at hl ⊢;omega)
    refine⟨C',by rw[World.setCells,h1,k1,setRow_setRow],by simp[k2],fun q=>?_⟩
    rw[k3 q,Array.getElem?_setIfInBounds]
    simp only[List.length_cons] at hl ⊢
    by_cases hq:q=o
    · subst hq
      rw[if_neg (by omega),if_pos rfl,if_pos (by omega),if_pos (by omega),Nat.sub_self];rfl
    · by_cases hq2:o+1≤q∧q<o+1+r.length
      ·rw[if_pos hq2,if_pos (by omega),show q-o=(q- (o+1))+1 from by omega,List.getElem?_cons_succ]
      ·rw[if_neg hq2,if_neg (fun h=>hq h.symm),if_neg (by omega)]
theorem By (w:World)(ty:TypeId)(b o n c:Nat)(e:TypeId)(C:Array Value)(h:w.heap[b]? =some (.cells C e (0,0)))(hn:0<n)(hl:o+n*2≤C.size):
    ∃C',(Builtin.clear_ #[32] ty #[.slice (some ⟨b,o,none⟩) n c]).run Tryz.prog w=.ok (.tuple #[]) (w.setRow b C')∧C'.size=C.size∧∀q,q<o→C'[q]? =C[q]? :=by
  obtain⟨Z,hZ⟩:∃Z:List Value,(Builtin.zeroCells (Value.agg #[.string ⟨#[]⟩,.string ⟨#[]⟩]).cells n).toList=Z:=⟨_,rfl⟩
  have hsz:Z.length=n*2:=by
    rw[←hZ,Array.length_toList,size_zeroCells];rfl
  have hone:∀v∈Z,v.oneCell'=true:=by
    intro v hv
    rw[←hZ,Array.mem_toList_iff,Builtin.zeroCells,Array.mem_map] at hv
    obtain⟨i,_,rfl⟩:=hv
    show(#[Value.string ⟨#[]⟩,.string ⟨#[]⟩][i%2]!).oneCell'=true
    rcases Nat.mod_two_eq_zero_or_one i with h|h<;>rw[h]<;>rfl
  have hst:=run_storeCells_at (P:=Tryz.prog) b o e Z 0 C w h (by rw[hsz];omega) hone
  rw[Nat.add_zero] at hst
  refine⟨(C.toList.take o++Z++C.toList.drop (o+Z.length)).toArray,?_,?_,?_⟩
  · obtain⟨m,rfl⟩:∃m,n=m+1:=⟨n-1,by omega⟩
    have hu:=Tryz.underlying32
    have hz:=Tryz.zeroValue90
    simp[Builtin.clear_,run_underlying hu,hz,hZ,hst]
  ·simp[hsz];omega
  · intro q hq
    simp only[List.getElem?_toArray]
    rw[List.append_assoc,r5 (by simp;omega),List.getElem?_take,if_pos hq,Array.getElem?_toList]
theorem Bf (blk off cap n i j:Nat)(C:Array Value)(e:TypeId)(w:World)(hC:w.heap[blk]? =some (.cells C e (0,0)))(hfit:off+cap*2≤C.size)(hn:n≤cap)(hij:i<j)(hj:j≤n)
    (hone:∀q v,q<n*2→C[off+q]? =some v→v.oneCell'=true):
    Calls Tryz.prog 134 #[.slice (some ⟨blk,off,none⟩) n cap,.int .i64 i,.int .i64 j] w fun e' w'=>e'=.returned (.slice (some ⟨blk,off,none⟩) (i+ (n-j)) cap)∧
      ∃C',w'=w.drew.setRow blk C'∧C'.size=C.size∧∀q,q< (i+ (n-j))*2→C'[off+q]? =if q<i*2 then C[off+q]? else C[off+q+ (j-i)*2]? :=by
  obtain⟨news,hnews⟩:∃news,news=(C.toList.drop (off+j*2)).take ((n-j)*2):=⟨_,rfl⟩
  have hCl:C.toList.length=C.size:=Array.length_toList
  have hlen:news.length=(n-j)*2:=by rw[hnews,fP,List.length_drop,hCl];omega
  have hget:∀t,t< (n-j)*2→news[t]? =C[off+j*2+t]? :=by
    intro t ht
    rw[hnews,List.getElem?_take,if_pos ht,List.getElem?_drop,Array.getElem?_toList]
  have hcell:∀q,w.drew.cell? ⟨blk,q,none⟩=C[q]? :=fun q=>by
    show w.cell? _=_
    simp[World.cell?,hC]
  obtain ⟨A,hA,hsrc⟩:∃A:Addr,(if cap=j then some (⟨blk,off,none⟩:Addr) else some ⟨blk,off+j*2,none⟩)=some A∧Hid (∀t u,news[t]? =some u→w.drew.cell? (A.add t)=some u):=by
    by_cases h:cap=j
    · refine⟨⟨blk,off,none⟩,by simp[h],fun t u hu=>?_⟩
      have h0:news.length=0:=by rw[hlen];omega
      rw[List.length_eq_zero_iff.1 h0] at hu
      simp at hu
    · refine⟨⟨blk,off+j*2,none⟩,by simp[h],fun t u hu=>?_⟩
      have ht:t< (n-j)*2:=by
        have:=(bg hu).1
        rwa [hlen] at this
      rw[hget t ht] at hu
      rw[Addr.add_lit,hcell]
      exact hu
  have s1:Hid (news.length=(n-j)*2):=hlen
  have s2:Hid (∀u∈news,u.oneCell'=true):=by
    intro u hu
    obtain⟨t,ht⟩:=List.getElem?_of_mem hu
    have hlt:=(bg ht).1
    rw[hlen] at hlt
    rw[hget t hlt,Nat.add_assoc] at ht
    exact hone _ u (by omega) ht
  have s3:Hid (∀t,t<news.length→(w.drew.cell? ⟨blk,off+i*2+t,none⟩).isSome=true∧w.drew.frozen? ⟨blk,off+i*2+t,none⟩=false):=by
    intro t ht
    rw[hlen] at ht
    refine⟨?_,?_⟩
    ·rw[hcell,Array.getElem?_eq_getElem (by omega)];rfl
    · show w.frozen? _=false
      simp[World.frozen?,hC]
  obtain⟨C1,hC1,hC1s,hC1q⟩:=eP blk e (0,0) news (off+i*2) C w.drew hC (by rw[hlen];omega)
  obtain⟨W1,hW1⟩:∃W1,W1=w.drew.setCells blk (off+i*2) news:=⟨_,rfl⟩
  have hW1h:W1.heap[blk]? =some (.cells C1 e (0,0)):=by rw[hW1,hC1];exact setRow_heap w.drew blk C C1 e (0,0) hC
  obtain⟨C2,hcl0,hC2s,hC2q⟩:=By W1 0 blk (off+ (i+ (n-j))*2) (n- (i+ (n-j))) (cap- (i+ (n-j))) e C1 hW1h (by omega) (by omega)
  have hcl:∀ty,(Builtin.clear_ #[32] ty #[.slice (some ⟨blk,off+ (i+ (n-j))*2,none⟩) (n- (i+ (n-j))) (cap- (i+ (n-j)))]).run Tryz.prog W1=.ok (.tuple #[]) (W1.setRow blk C2):=fun ty=>hcl0
  have hW:Hid (W1=w.drew.setCells blk (off+i*2) news):=hW1
  have hfin:Hid (W1.setRow blk C2=w.drew.setRow blk C2∧C2.size=C.size∧∀q,q< (i+ (n-j))*2→C2[off+q]? =if q<i*2 then C[off+q]? else C[off+q+ (j-i)*2]?):=by
    refine⟨by rw[hW1,hC1,setRow_setRow],by omega,fun q hq=>?_⟩
    rw[hC2q _ (by omega),hC1q,hlen]
    by_cases h:q<i*2
    ·rw[if_pos h,if_neg (by omega)]
    · rw[if_neg h,if_pos (by omega),hget _ (by omega)]
      congr 1;omega
  have hic:i≤cap:=by omega
  have hjc:j≤cap:=by omega
  obtain⟨i0,hi0,hz1⟩:∃i0,Tryz.prog.info? 90=some i0∧i0.size=2:=⟨(Tryz.prog.info? 90).getD default,by kernel_rfl,by kernel_rfl⟩
  clear hW1 hW1h hC1 hC1s hC1q hC2s hC2q hcl0 hget hcell hnews hlen hone hC hCl
  have mixed:Tryz.prog.follows Departure.mixedOrders=true:=by kernel_rfl
  go_enter Tryz.func134,Tryz.ntmps134
  go_wp2_with fail
  go_region_law_o (refine step_append_room rfl (.tmp 22) (.tmp 25) 32 rfl 90 i0 2 Tryz.underlying32 hi0 hz1 blk off i cap (by simp[Act.eval,Act.put]) A (n-j) (cap-j) news (by simp[Act.eval,Act.put]) s1.out hsrc.out s2.out (by omega) s3.out ?_;rw[←hW.out])
  go_wp2
  go_ret
  exact⟨rfl,C2,hfin.out⟩
theorem El {rows:List AV}(hone:j7 (flat rows)=true)(i j:Nat)(hij:i<j)(hj:j≤rows.length):
    an Tryz.prog 134 [.live 2 rows false] [.own 0 0 rows.length,aj i,aj j] [.dead,.live 2 (rows.take i++rows.drop j) false] (.own 1 0 (i+ (rows.length-j))):=by
  intro w W0 L vs hL hs hr
  obtain⟨v0,v1,v2,rfl⟩:∃v0 v1 v2,vs=[v0,v1,v2]:=by
    have:=hr.1
    match vs,this with
    |[a,b,c],_=>exact⟨a,b,c,rfl⟩
  have h1:=hr.2 1 _ v1 rfl rfl
  have h2:=hr.2 2 _ v2 rfl rfl
  cases h1;cases h2
  have h0:=hr.2 0 _ v0 rfl rfl
  obtain⟨B,hB,hobj⟩:=hs.objs 0 2 rows false rfl
  generalize hn:rows.length=n at h0
  cases h0 with
  |ownNil a1=>omega
  | @own _ _ _ cap e' n' B' a1 av ap a2 a3 a4=>
    rw[hB] at a1;cases a1
    subst hn
    obtain⟨C,e,fz,c1,c2,c3⟩:=hobj.blk av ap
    rw[c2 rfl] at c1
    have hwd:=hobj.width
    have hn':C.size=n':=by simp[World.shape?,c1] at a3;exact a3.2
    rw[hwd,Nat.zero_mul,Nat.add_zero]
    rw[hwd,Nat.zero_add] at a4
    have hfl:=cH hobj.wide
    have hcell:∀ (q:Nat) (c:AV),(flat rows)[q]? =some c→∃v,C[B.o+q]? =some v∧ct (Wr W0 L (aH [.live 2 rows false])) L w c v:=fun q c hq=>by
      obtain⟨v,k1,k2⟩:=hobj.cell ap q c hq
      exact⟨v,by simpa[World.cell?,c1] using k1,k2⟩
    refine(Bf B.b B.o cap rows.length i j C e w c1 (by omega) a2 hij hj (fun q v hq hv=>?_)).mono ?_
    · obtain⟨v',k1,k2⟩:=hcell q _ (bz (by rw[hfl];omega))
      rw[hv] at k1;cases k1
      exact k2.one (List.all_eq_true.1 hone _ (List.getElem_mem _))
    · rintro e2 w' ⟨rfl,C',rfl,hsz,hq⟩
      have hwide:bD 2 (rows.take i++rows.drop j):=(hobj.wide.sub fun r hr=>List.mem_of_mem_take hr).append (hobj.wide.sub fun r hr=>List.mem_of_mem_drop hr)
      have hlen:(rows.take i++rows.drop j).length=i+ (rows.length-j):=by simp;omega
      have hre:=(hs.drawn (w.drawn+1)).reuse (t:=0) (tn:=1) (off:=0) (rows':=rows.take i++rows.drop j) (C':=C') rfl hB av rfl c1 hsz hwide (by rw[hlen];omega) (fun q c hc=>by
        rw[gr,kj hobj.wide,kP hobj.wide,List.getElem?_append,fP,hfl,Nat.min_eq_left (by omega)] at hc
        have hlt:=hq q
        rw[Nat.zero_mul,Nat.add_zero]
        split at hc
        · rename_i hql
          rw[List.getElem?_take,if_pos hql] at hc
          obtain⟨v,k1,k2⟩:=hcell q c hc
          exact⟨v,by rw[hq q (by omega),if_pos hql];exact k1,k2.grow (Grow.drawn _)⟩
        · rename_i hql
          rw[List.getElem?_drop] at hc
          have hin:=(bg hc).1
          rw[hfl] at hin
          obtain⟨v,k1,k2⟩:=hcell _ c hc
          refine⟨v,?_,k2.grow (Grow.drawn _)⟩
          rw[hq q (by omega),if_neg hql,←k1]
          congr 1;omega)
      have hst:(⟨(bare [.live 2 rows false]).slots,bh (bare [.live 2 rows false]).mem [(1,.live 2 (rows.take i++rows.drop j) false),(0,.dead)]⟩:aA)=bare [.dead,.live 2 (rows.take i++rows.drop j) false]:=by
        unfold bare
        congr 1
        funext t
        match t with
        |0=>rfl
        |1=>rfl
        |t+2=>simp[bh,aH]
      rw[hst] at hre
      refine⟨_,_,rfl,hre,?_⟩
      have:=ct.own (W:=Wr W0 (bq L 1 ⟨B.b,B.o+0*2,2,false,false⟩) (aH [.dead,.live 2 (rows.take i++rows.drop j) false])) (μ:=bq L 1 ⟨B.b,B.o+0*2,2,false,false⟩)
        (w:=w.drew.setRow B.b C') (t:=1) (off:=0) (len:=i+ (rows.length-j)) (cap:=cap) (e:=e) (n:=C.size) (B:=⟨B.b,B.o+0*2,2,false,false⟩) (by simp[bq]) rfl rfl (by omega)
        (by simp[World.shape?,setRow_heap w.drew B.b C C' e (0,0) c1,hsz]) (by simp only[Nat.zero_add];omega)
      simpa using this
end Go.Proofs.Heir
namespace Go.Proofs.Heir
open Go.Am Go.RowKit Go.Lib
set_option maxRecDepth 100000

end Go.Proofs.Heir
