/- Models, plain laws and contracts of functions of the given program; conditions as stated in each theorem. By an AI agent. -/
import Derived.Test.YtkhjcnjicjgfiaaGreatDoorW6
import Derived.Deep.RegionLaw
import Derived.Lib.SliceRun
import Derived.Laws.Tables
import Derived.Laws.CopyRow
import Derived.Sort.WalkB12
import Derived.Laws.StructEq
import Derived.Tactics
import Derived.Test.YtkhjcnjicjgfiaaGreatDoorW5
set_option linter.unusedSimpArgs false
set_option linter.unusedVariables false
namespace Go.Proofs.Heir
open Go Go.Am Go.RowKit Go.Lib
set_option maxRecDepth 100000
set_option maxHeartbeats 8000000
set_option maxHeartbeats 8000000
section
variable {l l' : List ai} {m : Int}
theorem uK (R:RF l m)(hl:l'.length=l.length){k p:Int}(hp:af l p=true)(hk:k∉U.bL l p)(hu:∀x,af l x=true→x≠k→dJ (nd l' x)=dJ (nd l x)):U.bL l' p=U.bL l p:=by
  rw[Ex] at hk
  rw[Ex,Ex,hl]
  exact(rC (P:=fun x=>af l x=true) (k:=k) (g:=fun n=>dJ (nd l n)) (g':=fun n=>dJ (nd l' n)) hu (fun x hx h=>R.up hx h) hp (by rw[←ji];exact R.ends p hp) hk).2
theorem yw (R:RF l m){k:Int}{x:Int}(hx:af l x=true)(hw:k∈U.bL l x):(nd l x).doc=(nd l k).doc:=by
  have key :∀y,af l y=true→k∈U.bL l y→(nd l y).doc=(nd l k).doc:=by
    refine U.iO R.tree (P:=fun y=>k∈U.bL l y→(nd l y).doc=(nd l k).doc) (fun y hy hu hw=>?_) (fun y hy hu hy2 ih hw=>?_)
    · rw[U.eJ R.tree hy hu,ic] at hw
      rw[←hw]
    · rw [U.cn R.tree hy hu,dP] at hw
      rcases hw with hw|hw
      ·rw[←hw]
      · rw [←ih hw]
        by_cases hp:(nd l y).parent=-1
        · have h4:(nd l y).kind=4:=Classical.byContradiction fun c=>hu (by unfold dJ;rw[if_pos hp];exact R.noh y hy c)
          have:dJ (nd l y)=(nd l y).host:=by unfold dJ;rw[if_pos hp]
          rw[this];exact(R.host y hy h4).2.2.symm
        · have q:=R.par y hy hp
          rw[R.fW hy hp]
          exact(R.kid _ q.2.1 y q.2.2.2).2.2.1
  exact key x hx hw
def cG (l:List ai)(k d:Int):List ai:=if(nd (bg l k) k).doc=d then bg l k else rI (bg l k) (U.cm (bg l k) (bg l k).length k) d
theorem Lf (R:RF l m){k:Int}(hk:af l k=true)(hkk:(nd l k).kind=1∨(nd l k).kind=2):dJ (nd (bg l k) k)=-1:=by
  rw[GG R hk (by rcases hkk with h|h<;>simp[h]) k hk]
  by_cases hp:(nd l k).parent=-1
  ·rw[if_neg (fun q=>q.2 hp),R.KH hk hkk];exact hp
  ·rw[if_pos ⟨rfl,hp⟩]
theorem ga (l:List ai)(k d:Int):(cG l k d).length=l.length:=by
  unfold cG
  split
  ·exact cW l k
  ·rw[yC,cW]
theorem lZ (R:RF l m){k d:Int}(hk:af l k=true)(hkk:(nd l k).kind=1∨(nd l k).kind=2)(hd:kR l d 0=true):RF (cG l k d) m:=by
  have R1:=dS R hk
  have L:=dR R hk
  unfold cG
  split
  ·exact R1
  · refine EE R1 (by rw[aY (cW ..)];exact hk) (Lf R hk hkk) (by rw[(L k hk).1.kind];omega) ?_
    rw[Eb (cW ..) (fun x hx=>(L x hx).1)];exact hd
theorem iQ (R:RF l m){k d:Int}(hk:af l k=true)(hkk:(nd l k).kind=1∨(nd l k).kind=2)(x:Int)(hx:af l x=true):iB (nd (cG l k d) x) (nd l x)∧((nd (cG l k d) x).parent=if x=k then-1 else(nd l x).parent)∧((nd (cG l k d) x).kids=if x=(nd l k).parent then(nd l x).kids.erase k else(nd l x).kids)∧
    ((nd (cG l k d) x).doc=if k∈U.bL (bg l k) x then d else(nd l x).doc):=by
  have R1:=dS R hk
  have L:=dR R hk
  have T:=aY (cW l k)
  have hk1:af (bg l k) k=true:=by rw[T];exact hk
  have hx1:af (bg l k) x=true:=by rw[T];exact hx
  unfold cG
  by_cases e:(nd (bg l k) k).doc=d
  · rw [if_pos e]
    refine⟨(L x hx).1,(L x hx).2.2.1,(L x hx).2.2.2,?_⟩
    split
    · rename_i hw
      rw[yw R1 hx1 hw];exact e
    ·exact(L x hx).2.1
  · rw[if_neg e]
    have D:=vR (d:=d) (s:=U.cm (bg l k) (bg l k).length k) (l:=bg l k) (fun j hj=>(U.eP R1.tree _ k hk1 j hj).1) x hx1
    refine⟨D.1.trans (L x hx).1,D.2.2.1.trans (L x hx).2.2.1,D.2.2.2.trans (L x hx).2.2.2,?_⟩
    rw[D.2.1]
    by_cases c:x∈U.cm (bg l k) (bg l k).length k
    ·rw[if_pos c,if_pos ((U.mL R1.tree hk1 hx1).1 c)]
    ·rw[if_neg c,if_neg (fun q=>c ((U.mL R1.tree hk1 hx1).2 q))];exact(L x hx).2.1
theorem GC (R:RF l m){k d p:Int}(hk:af l k=true)(hkk:(nd l k).kind=1∨(nd l k).kind=2)(hp:af l p=true)(hw:k∉U.bL l p):U.bL (cG l k d) p=U.bL l p:=by
  refine uK R (ga ..) hp hw fun x hx hne=>?_
  obtain⟨h1,h2,_⟩:=iQ R (d:=d) hk hkk x hx
  unfold dJ
  rw[h2,if_neg hne,h1.host]
theorem tM (R:RF l m){k p:Int}(hk:af l k=true)(hp:af l p=true)(hw:k∉U.bL l p):U.bL (bg l k) p=U.bL l p:=by
  refine uK R (cW ..) hp hw fun x hx hne=>?_
  obtain⟨h1,_,h2,_⟩:=dR R hk x hx
  unfold dJ
  rw[h2,if_neg hne,h1.host]
structure fE (l:List ai) (k p b:Int):Prop where
  tk:af l k=true
  tp:af l p=true
  kk:(nd l k).kind=1∨(nd l k).kind=2
  hd:eA (nd l p).kind=true
  w:k∉U.bL l p
  ab:b=-1∨b≠k∧b∈ (nd l p).kids
  dc:(nd l p).kind=0→(nd l k).kind=1∧cu l ((nd l p).kids.erase k)=0
def cA (l:List ai)(k p b:Int):List ai:=gV (cG l k (nd l p).doc) k p b
theorem fo (l:List ai)(k p b:Int):(cA l k p b).length=l.length:=by unfold cA;rw[lD,ga]
theorem iP {cs:List Int}{k:Int}(h:k∉cs):cs.erase k=cs:=List.erase_of_not_mem h
theorem rf (R:RF l m){k d p:Int}(hk:af l k=true)(hkk:(nd l k).kind=1∨(nd l k).kind=2)(hp:af l p=true):(nd (cG l k d) p).kids=(nd l p).kids.erase k:=by
  rw[(iQ R hk hkk p hp).2.2.1]
  split
  ·rfl
  · rename_i h
    exact(iP fun q=>h (R.kid p hp k q).2.1.symm).symm
theorem j5 (R:RF l m){k p b:Int}(C:fE l k p b):RF (cA l k p b) m:=by
  have T:=aY (ga l k (nd l p).doc)
  have L:=iQ R (d:=(nd l p).doc) C.tk C.kk
  have hpd:=(R.own p C.tp).1
  have R1:=lZ R C.tk C.kk hpd
  have hw1:k∉U.bL (bg l k) p:=by rw[tM R C.tk C.tp C.w];exact C.w
  have hkw:k∈U.bL (bg l k) k:=U.cI (dS R C.tk).tree (by rw[aY (cW ..)];exact C.tk)
  refine CE R1 (by rw[T];exact C.tk) (by rw[T];exact C.tp) ?_ ?_ ?_ ?_ ?_ ?_
  ·rw[(L k C.tk).2.1,if_pos rfl]
  ·rw[(L k C.tk).1.kind];exact C.kk
  ·rw[(L k C.tk).2.2.2,if_pos hkw,(L p C.tp).2.2.2,if_neg hw1]
  ·rw[(L p C.tp).1.kind];exact C.hd
  · rw[(L p C.tp).1.kind,(L k C.tk).1.kind,rf R C.tk C.kk C.tp]
    intro h0
    have:=C.dc h0
    refine⟨this.1,?_⟩
    rw[k9 (fun x hx=>(L x hx).1) fun c hc=>(R.kid p C.tp c (List.mem_of_mem_erase hc)).1]
    exact this.2
  ·rw[GC R C.tk C.kk C.tp C.w];exact C.w
theorem gb (R:RF l m){k p b:Int}(C:fE l k p b)(x:Int)(hx:af l x=true):iB (nd (cA l k p b) x) (nd l x)∧((nd (cA l k p b) x).parent=if x=k then p else(nd l x).parent)∧
    ((nd (cA l k p b) x).kids=if x=p then nS ((nd l x).kids.erase k) b k else if x=(nd l k).parent then(nd l x).kids.erase k else(nd l x).kids)∧((nd (cA l k p b) x).doc=if k∈U.bL (bg l k) x then(nd l p).doc else(nd l x).doc):=by
  have T:=aY (ga l k (nd l p).doc)
  have hne:k≠p:=fun e=>C.w (by rw[e];exact U.cI R.tree C.tp)
  have L:=iQ R (d:=(nd l p).doc) C.tk C.kk x hx
  have H:=rS (l:=cG l k (nd l p).doc) (b:=b) (by rw[T];exact C.tk) (by rw[T];exact C.tp) hne x (by rw[T];exact hx)
  have hkd:=rf R (d:=(nd l p).doc) C.tk C.kk C.tp
  unfold cA
  refine⟨H.1.trans L.1,?_,?_,H.2.1.trans L.2.2.2⟩
  · rw[H.2.2.1,L.2.1]
    by_cases e:x=k
    ·rw[if_pos e,if_pos e]
    ·rw[if_neg e,if_neg e,if_neg e]
  · rw [H.2.2.2]
    by_cases e:x=p
    · subst e
      rw[if_pos rfl,if_pos rfl,hkd]
    ·rw[if_neg e,if_neg e,L.2.2.1]
theorem F9 (R:RF l m){k p b:Int}(C:fE l k p b){x:Int}(hx:af l x=true)(hw:k∉U.bL l x):U.bL (cA l k p b) x=U.bL l x:=by
  refine uK R (fo ..) hx hw fun y hy hne=>?_
  obtain⟨h1,h2,_⟩:=gb R C y hy
  unfold dJ
  rw[h2,if_neg hne,h1.host]
theorem sC (R:RF l m){k j p b:Int}(C:fE l k p b)(D:fE l j p b)(hne:j≠k)(h0:(nd l p).kind≠0):fE (cA l k p b) j p b:=by
  have T:=aY (fo l k p b)
  have L:=gb R C
  refine⟨by rw[T];exact D.tk,by rw[T];exact D.tp,by rw[(L j D.tk).1.kind];exact D.kk,by rw[(L p D.tp).1.kind];exact D.hd,by rw[F9 R C D.tp C.w];exact D.w,?_,fun q=>?_⟩
  · rcases D.ab with h|⟨h1,h2⟩
    ·exact .inl h
    · refine .inr ⟨h1,?_⟩
      rw[(L p D.tp).2.2.1,if_pos rfl,tO]
      refine .inr ((List.mem_erase_of_ne ?_).2 h2)
      rcases C.ab with c|c
      ·have:=bf (R.kid p D.tp b h2).1;omega
      ·exact c.1
  ·rw[(L p D.tp).1.kind] at q;exact absurd q h0
end
def Nu (l:List ai)(n:Int):List Int:=(U.cm l l.length n).filter fun k=>decide ((nd l k).kind=1)
def kY (l:List ai)(n:Int):Bool:=decide ((nd l (sr l n)).kind=0)
def sI (l:List ai)(n:Int)(x:aQ):List aQ:=(Nu l n).map fun k=>{x with node:=k}
def dL (kind src dst:Int):aQ:=⟨kind,0,src,dst,⟨#[]⟩,false,false,⟨#[]⟩,⟨#[]⟩⟩
def c8 (s:List ai×List aQ)(n:Int):List ai×List aQ:=if(nd s.1 n).parent=-1 then s else(bg s.1 n,s.2++if kY s.1 n=true then sI s.1 n (dL 2 0 0) else[])
def jq (s:List ai×List aQ)(k d:Int):List ai×List aQ:=if(nd (c8 s k).1 k).doc=d then c8 s k else(cG s.1 k d,(c8 s k).2++sI (cG s.1 k d) k (dL 3 (nd (c8 s k).1 k).doc d))
def cU (p b:Int)(s:List ai×List aQ)(k:Int):List ai×List aQ:=(cA s.1 k p b,(jq s k (nd s.1 p).doc).2++if kY (cA s.1 k p b) k=true then sI (cA s.1 k p b) k (dL 1 0 0) else[])
def cr (l:List ai)(n:Int):List Int:=if(nd l n).kind=3 then(nd l n).kids else[n]
def dA (s:List ai×List aQ)(n p b:Int):List ai×List aQ:=(cr s.1 n).foldl (cU p b) (if(nd s.1 n).kind=3 then(cr s.1 n).foldl c8 s else s)
theorem lz (s:List ai×List aQ)(n:Int):(c8 s n).1=bg s.1 n:=by
  unfold c8
  by_cases h:(nd s.1 n).parent=-1
  ·rw[if_pos h];unfold bg;rw[if_pos h]
  ·rw[if_neg h]
theorem xC (p b:Int)(s:List ai×List aQ)(k:Int):(cU p b s k).1=cA s.1 k p b:=rfl
structure oR (l:List ai) (n p b:Int):Prop where
  tn:af l n=true
  tp:af l p=true
  kk:(nd l n).kind=1∨(nd l n).kind=2∨(nd l n).kind=3
  hd:eA (nd l p).kind=true
  w:n∉U.bL l p
  ab:b=-1∨b≠n∧b∈ (nd l p).kids
  dc:(nd l p).kind=0→(∀k∈cr l n,(nd l k).kind=1)∧(cr l n).length+cu l ((nd l p).kids.erase n)≤1
section
variable {l l' : List ai} {m : Int}
theorem gC {n:Int}(h:(nd l n).kind≠3):cr l n=[n]:=by unfold cr;rw[if_neg h]
theorem tL {n p b:Int}(C:oR l n p b)(h:(nd l n).kind≠3):fE l n p b:=by
  refine⟨C.tn,C.tp,by have:=C.kk;omega,C.hd,C.w,C.ab,fun h0=>?_⟩
  have:=C.dc h0
  rw[gC h] at this
  exact⟨this.1 n (by simp),by have:=this.2;simp at this;omega⟩
theorem pB:∀ (ks:List Int) {l:List ai},RF l m→(∀k∈ks,af l k=true)→RF (ks.foldl bg l) m∧(ks.foldl bg l).length=l.length
  |[],l,R,_=>⟨R,rfl⟩
  | k::ks,l,R,h=>by
    have h1:=pB ks (dS R (h k eS)) (fun j hj=>by rw[aY (cW ..)];exact h j (dQ _ hj))
    exact⟨h1.1,h1.2.trans (cW ..)⟩
theorem lI:∀ (ks:List Int) {l:List ai},RF l m→(∀k∈ks,af l k=true)→∀ (n:Int),(∀k∈ks,(nd l k).parent=n∨(nd l k).parent=-1)→∀x,af l x=true→iB (nd (ks.foldl bg l) x) (nd l x)∧(nd (ks.foldl bg l) x).doc=(nd l x).doc∧((nd (ks.foldl bg l) x).parent=if x∈ks then-1 else(nd l x).parent)∧(x≠n→(nd (ks.foldl bg l) x).kids=(nd l x).kids)
  |[],l,R,_,n,_,x,hx=>⟨.refl _,rfl,by rw[if_neg (by simp)];rfl,fun _=>rfl⟩
  | k :: ks,l,R,h,n,hp,x,hx=>by
    have T:=aY (cW l k)
    have hk:=h k eS
    have L:=dR R hk
    have R1:=dS R hk
    have h1:=lI ks R1 (fun j hj=>by rw[T];exact h j (dQ _ hj)) n (fun j hj=>by
      rw[(L j (h j (dQ _ hj))).2.2.1]
      split
      ·exact .inr rfl
      ·exact hp j (dQ _ hj)) x (by rw[T];exact hx)
    refine⟨h1.1.trans (L x hx).1,h1.2.1.trans (L x hx).2.1,?_,fun hne=>(h1.2.2.2 hne).trans ?_⟩
    · show(nd (ks.foldl bg (bg l k)) x).parent=_
      rw[h1.2.2.1,(L x hx).2.2.1]
      by_cases e:x=k
      · subst e
        rw[if_pos eS,if_pos rfl]
        split<;>rfl
      · rw[if_neg e]
        by_cases c:x∈ks
        ·rw[if_pos c,if_pos (dQ _ c)]
        ·rw[if_neg c,if_neg (fun q=>(dP.1 q).elim e c)]
    · rw [(L x hx).2.2.2]
      split
      · rename_i e
        rcases hp k eS with q|q
        ·exact absurd (e.trans q) hne
        ·have:=bf hx;omega
      ·rfl
theorem Aq:∀ (ks:List Int) {l:List ai},RF l m→(∀k∈ks,af l k=true)→∀ {p:Int},af l p=true→(∀k∈ks,k∉U.bL l p)→U.bL (ks.foldl bg l) p=U.bL l p
  |[],l,R,_,p,_,_=>rfl
  | k::ks,l,R,h,p,hp,hw=>by
    have T:=aY (cW l k)
    have hk:=h k eS
    have e:=tM R hk hp (hw k eS)
    have h1:=Aq ks (dS R hk) (fun j hj=>by rw[T];exact h j (dQ _ hj)) (by rw[T];exact hp) (fun j hj=>by rw[e];exact hw j (dQ _ hj))
    exact h1.trans e
theorem uC (R:RF l m){n p b:Int}(C:oR l n p b)(h3:(nd l n).kind=3):RF ((nd l n).kids.foldl bg l) m∧((nd l n).kids.foldl bg l).length=l.length∧(∀k∈ (nd l n).kids,fE ((nd l n).kids.foldl bg l) k p b∧(nd ((nd l n).kids.foldl bg l) k).parent=-1)∧((nd l p).kind=0→(nd l n).kids.length≤1):=by
  have hks:∀k∈ (nd l n).kids,af l k=true:=fun k hk=>(R.kid n C.tn k hk).1
  have h1:=pB (m:=m) (nd l n).kids R hks
  have L:=lI (nd l n).kids R hks n (fun k hk=>.inl (R.kid n C.tn k hk).2.1)
  have hne:p≠n:=fun e=>C.w (by rw[←e];exact U.cI R.tree C.tp)
  have hwk:∀k∈ (nd l n).kids,k∉U.bL l p:=fun k hk hw=>by
    refine C.w (U.oy R.tree C.tp ?_ hw)
    have hn0:=bf C.tn
    have q:=R.kid n C.tn k hk
    rw[U.cn R.tree q.1 (by rw[R.fW q.1 (by omega)];omega),R.fW q.1 (by omega),q.2.1]
    exact dQ _ (U.cI R.tree C.tn)
  have hW:=Aq (nd l n).kids R hks C.tp hwk
  have T:=aY h1.2
  have hpar:cr l n=(nd l n).kids:=by unfold cr;rw[if_pos h3]
  refine⟨h1.1,h1.2,fun k hk=>⟨⟨by rw[T];exact hks k hk,by rw[T];exact C.tp,?_,by rw[(L p C.tp).1.kind];exact C.hd,by rw[hW];exact hwk k hk,?_,fun h0=>?_⟩,?_⟩,fun h0=>?_⟩
  ·rw[(L k (hks k hk)).1.kind];have:=(R.kid n C.tn k hk).2.2.2;omega
  · rw [(L p C.tp).2.2.2 hne]
    rcases C.ab with h|⟨h,h2⟩
    ·exact .inl h
    · refine .inr ⟨fun e=>hne ?_,h2⟩
      have q1:=(R.kid p C.tp b h2).2.1
      have q2:=(R.kid n C.tn k hk).2.1
      rw[e] at q1;rw[←q1,←q2]
  · rw [(L p C.tp).1.kind] at h0
    have q:=C.dc h0
    rw[hpar] at q
    have hk1:=q.1 k hk
    have hnk:n∉ (nd l p).kids:=fun h=>by have:=(R.kid p C.tp n h).2.2.2;omega
    have hkk:k∉ (nd l p).kids:=fun h=>by
      have q1:=(R.kid p C.tp k h).2.1
      have q2:=(R.kid n C.tn k hk).2.1
      exact hne (q1.symm.trans q2)
    rw[(L k (hks k hk)).1.kind,(L p C.tp).2.2.2 hne,iP hkk]
    refine⟨hk1,?_⟩
    rw[k9 (fun x hx=>(L x hx).1) fun c hc=>(R.kid p C.tp c hc).1]
    have:=q.2
    rw[iP hnk] at this
    have:1≤ (nd l n).kids.length:=List.length_pos_of_mem hk
    omega
  ·rw[(L k (hks k hk)).2.2.1,if_pos hk]
  · have:=(C.dc h0).2
    rw[hpar] at this;omega
theorem nC {p b:Int}:∀ (ks:List Int) {l:List ai},RF l m→ks.Nodup→(∀k∈ks,fE l k p b)→((nd l p).kind=0→ks.length≤1)→RF (ks.foldl (fun l k=>cA l k p b) l) m∧(ks.foldl (fun l k=>cA l k p b) l).length=l.length
  |[],l,R,_,_,_=>⟨R,rfl⟩
  | k ::ks,l,R,hd,h,h0=>by
    rw[List.nodup_cons] at hd
    have C:=h k eS
    have h1:=nC (p:=p) (b:=b) ks (j5 R C) hd.2 (fun j hj=>sC R C (h j (dQ _ hj)) (fun e=>hd.1 (e▸hj)) (fun e=>by
      have q1:(k::ks).length≤1:=h0 e
      have q2:=List.length_pos_of_mem hj
      rw[List.length_cons] at q1;omega)) (fun e=>by
      rw[(gb R C p C.tp).1.kind] at e
      have q1:(k::ks).length≤1:=h0 e
      rw[List.length_cons] at q1;omega)
    exact⟨h1.1,h1.2.trans (fo ..)⟩
end
theorem iN:∀ (ks:List Int) (s:List ai×List aQ),(ks.foldl c8 s).1=ks.foldl bg s.1
  |[],s=>rfl
  | k::ks,s=>by
    show(ks.foldl c8 (c8 s k)).1=ks.foldl bg (bg s.1 k)
    rw[iN ks,lz]
theorem pX (p b:Int):∀ (ks:List Int) (s:List ai×List aQ),(ks.foldl (cU p b) s).1=ks.foldl (fun l k=>cA l k p b) s.1
  |[],s=>rfl
  | k::ks,s=>by
    show(ks.foldl (cU p b) (cU p b s k)).1=_
    rw[pX p b ks];rfl
theorem sj {l:List ai}{m:Int}(R:RF l m)(t:List aQ){n p b:Int}(C:oR l n p b):RF (dA (l,t) n p b).1 m∧(dA (l,t) n p b).1.length=l.length:=by
  unfold dA
  rw[pX]
  by_cases h3:(nd l n).kind=3
  · have hpar:cr l n=(nd l n).kids:=by unfold cr;rw[if_pos h3]
    obtain⟨h1,h2,h4,h5⟩:=uC R C h3
    simp only[hpar,if_pos h3,iN]
    have hks:∀k∈ (nd l n).kids,af l k=true:=fun k hk=>(R.kid n C.tn k hk).1
    have L:=lI (nd l n).kids R hks n (fun k hk=>.inl (R.kid n C.tn k hk).2.1)
    have:=nC (nd l n).kids h1 (R.dup n C.tn) (fun k hk=>(h4 k hk).1) (fun e=>h5 (by rw[←(L p C.tp).1.kind];exact e))
    exact⟨this.1,this.2.trans h2⟩
  · simp only[gC h3,if_neg h3]
    have:=nC [n] R (by simp) (fun k hk=>by rw[ic.1 hk];exact tL C h3) (fun _=>by simp)
    exact this
def iF (l:List ai)(gone:Int)(cs:List Int)(kd:Int):Nat:=cs.countP fun k=>decide (k≠gone)&&decide ((nd l k).kind=kd)
def gd (l:List ai)(p gone:Int)(cs:List Int):Bool:=decide (0<iF l gone cs 2)||(decide (0<iF l gone cs 1)&&decide (1<iF l gone cs 1+iF l gone (nd l p).kids 1))
def gT (l:List ai)(a b:Int):Bool:=decide (a∈U.bL l b)
def uV (l:List ai)(n p:Int):Bool:=decide ((nd l p).kind≠2)&& !gT l n p
def eX (l:List ai)(p child gone n:Int):Int:=
  if(!eA (nd l p).kind||gT l n p)=true then 5
  else if child≠-1∧(nd l child).parent≠p then 6
  else if(nd l n).kind=0∨(nd l n).kind=4 then 5
  else if(nd l n).kind=3 then(if(decide ((nd l p).kind=0)&&gd l p gone (nd l n).kids)=true then 5 else 0)
  else if(decide ((nd l p).kind=0)&&gd l p gone [n])=true then 5 else 0
def eU (f:ForM)(n p child:Int):Bool:=(bw f&&(af f.nodes n&&af f.nodes p))&&(decide (child=-1)||af f.nodes child)
def ni (f:ForM)(n p child:Int):Int:=if eU f n p child=true then eX f.nodes p child (-1) n else 1
def qt (f:ForM)(n p child:Int):Int:=if eU f n p child=true then(if(decide (child=-1)&&(decide (eX f.nodes p child child n=0)||uV f.nodes n p))=true then 6 else eX f.nodes p child child n) else 1
def bT:List Int→Int→Int
  |[],_=> -1
  |a::r,c=>if a=c then(r.head?).getD (-1) else bT r c
def dW (f:ForM)(n p child:Int):Int:=if ni f n p child≠0 then-1 else if child≠n then child else bT (nd f.nodes p).kids n
section
variable {l : List ai} {m : Int}
theorem RF.kinds (R:RF l m){n:Int}(hn:af l n=true):0≤ (nd l n).kind∧(nd l n).kind≤4:=(CL.1 (R.Je n hn)).1
theorem RF.child (R:RF l m){p c:Int}(hp:af l p=true)(hc:af l c=true):(nd l c).parent=p↔c∈ (nd l p).kids:=by
  constructor
  · intro h
    have:=bf hp
    have q:=(R.par c hc (by omega)).2.2.2
    rwa [h] at q
  ·intro h;exact(R.kid p hp c h).2.1
theorem fU:∀ {cs:List Int} {c:Int},cs.Nodup→bT cs c=-1∨(bT cs c∈cs∧bT cs c≠c)
  |[],c,_=>.inl rfl
  | a ::r,c,h=>by
    rw[List.nodup_cons] at h
    unfold bT
    by_cases e:a=c
    · subst e
      rw[if_pos rfl]
      cases r with
      |nil=>exact .inl rfl
      |cons b t=>exact .inr ⟨by simp,fun q=>h.1 (by simp at q;simp[q])⟩
    · rw[if_neg e]
      rcases fU (c:=c) h.2 with q|⟨q1,q2⟩
      ·exact .inl q
      ·exact .inr ⟨dQ _ q1,q2⟩
theorem wQ (a:Int)(r:List Int)(c:Int):bT (a::r) c=if a=c then(r.head?).getD (-1) else bT r c:=rfl
theorem wW:∀ {cs:List Int} {c:Int},c≠-1→cs.Nodup→bT cs c≠-1→bT cs (bT cs c)≠c
  |[],c,_,_,h=>absurd rfl h
  | a :: r,c,hc,hd,h=>by
    rw[List.nodup_cons] at hd
    by_cases e:a=c
    · subst e
      cases r with
      |nil=>unfold bT at h;simp at h
      | cons b t=>
        have hab:¬a=b:=fun q=>hd.1 (by simp[q])
        have e1:bT (a::b::t) a=b:=by unfold bT;rw[if_pos rfl];rfl
        rw[e1]
        show(if a=b then _ else bT (b::t) b)≠a
        rw[if_neg hab]
        show(if b=b then(t.head?).getD (-1) else _)≠a
        rw[if_pos rfl]
        cases t with
        |nil=>exact fun q=>hc q.symm
        |cons d u=>exact fun q=>hd.1 (by simp at q;simp[q])
    · have e1:bT (a::r) c=bT r c:=by
        show(if a=c then _ else bT r c)=_
        rw[if_neg e]
      rw[e1] at h ⊢
      have hin:bT r c∈r:=((fU (c:=c) hd.2).resolve_left h).1
      have hne:¬a=bT r c:=fun q=>hd.1 (q▸hin)
      show(if a=bT r c then _ else bT r (bT r c))≠c
      rw[if_neg hne];exact wW hc hd.2 h
theorem ei (l:List ai){cs:List Int}{gone:Int}(h:gone∉cs)(kd:Int):iF l gone cs kd=cs.countP fun k=>decide ((nd l k).kind=kd):=by
  unfold iF
  refine List.countP_congr fun c hc=>?_
  have:c≠gone:=fun e=>h (e▸hc)
  simp[this]
theorem sH {cs:List Int}(h1:∀c∈cs,(nd l c).kind=1∨(nd l c).kind=2)(h2:cs.countP (fun k=>decide ((nd l k).kind=2))=0):(∀c∈cs,(nd l c).kind=1)∧cs.countP (fun k=>decide ((nd l k).kind=1))=cs.length:=by
  have h3:∀c∈cs,(nd l c).kind=1:=fun c hc=>(h1 c hc).resolve_right fun q=>by
    have:=List.countP_eq_zero.1 h2 c hc
    simp[q] at this
  exact⟨h3,List.countP_eq_length.2 fun c hc=>by simp[h3 c hc]⟩
theorem nv (R:RF l m){p c:Int}(hp:af l p=true)(hc:c∈ (nd l p).kids):c∉U.bL l p:=fun h=>by
  have q:=R.kid p hp c hc
  have h0:=bf hp
  have hw:U.bL l c=c::U.bL l p:=by
    have hu:dJ (nd l c)=p:=by rw[R.fW q.1 (by omega),q.2.1]
    rw[U.cn R.tree q.1 (by omega),hu]
  obtain⟨t,ht⟩:=U.ik R.tree p hp c h
  have:=congrArg List.length ht
  rw[jz,hw,List.length_cons] at this
  omega
theorem Dg (R:RF l m){n p child:Int}(hn:af l n=true)(hp:af l p=true)(hc:child=-1∨af l child=true)(h:eX l p child (-1) n=0):oR l n p (if child≠n then child else bT (nd l p).kids n):=by
  have hn0:=bf hn
  unfold eX at h
  by_cases e1:(!eA (nd l p).kind||gT l n p)=true
  ·rw[if_pos e1] at h;omega
  rw[if_neg e1] at h
  have e1':eA (nd l p).kind=true∧gT l n p=false:=by simpa using e1
  by_cases e2:child≠-1∧(nd l child).parent≠p
  ·rw[if_pos e2] at h;omega
  rw[if_neg e2] at h
  by_cases e3:(nd l n).kind=0∨(nd l n).kind=4
  ·rw[if_pos e3] at h;omega
  rw[if_neg e3] at h
  have hk:=R.kinds hn
  have hch:child=-1∨child∈ (nd l p).kids:=by
    by_cases c:child=-1
    ·exact .inl c
    · refine .inr ((R.child hp (hc.resolve_left c)).1 ?_)
      exact Classical.byContradiction fun q=>e2 ⟨c,q⟩
  have hno:∀cs:List Int,(∀c∈cs,af l c=true)→(-1:Int)∉cs:=fun cs hcs q=>by have:=bf (hcs _ q);omega
  refine⟨hn,hp,by omega,e1'.1,by have:=e1'.2;unfold gT at this;simpa using this,?_,fun h0=>?_⟩
  · by_cases e:child≠n
    · rw[if_pos e]
      rcases hch with q|q
      ·exact .inl q
      ·exact .inr ⟨e,q⟩
    · rw[if_neg e]
      rcases fU (c:=n) (R.dup p hp) with q|⟨q1,q2⟩
      ·exact .inl q
      ·exact .inr ⟨q2,q1⟩
  · have hkids:∀c∈ (nd l p).kids,af l c=true:=fun c hc=>(R.kid p hp c hc).1
    have hel:=R.elems p hp h0
    have hle:cu l ((nd l p).kids.erase n)≤cu l (nd l p).kids:=List.Sublist.countP_le List.erase_sublist
    have hek:iF l (-1) (nd l p).kids 1=cu l (nd l p).kids:=ei l (hno _ hkids) 1
    have fin:∀cs:List Int,(∀c∈cs,af l c=true)→(∀c∈cs,(nd l c).kind=1∨(nd l c).kind=2)→gd l p (-1) cs=false→(∀k∈cs,(nd l k).kind=1)∧cs.length+cu l ((nd l p).kids.erase n)≤1:=by
      intro cs hcs hkd hcr
      unfold gd at hcr
      rw[ei l (hno _ hcs) 1,ei l (hno _ hcs) 2,hek] at hcr
      simp only[Bool.or_eq_false_iff,Bool.and_eq_false_iff,c9] at hcr
      have:=sH hkd (by omega)
      refine⟨this.1,?_⟩
      rw[this.2] at hcr
      omega
    by_cases e5:(nd l n).kind=3
    · have hpar:cr l n=(nd l n).kids:=by unfold cr;rw[if_pos e5]
      rw[if_pos e5] at h
      rw[hpar]
      refine fin _ (fun c hc=>(R.kid n hn c hc).1) (fun c hc=>by have:=(R.kid n hn c hc).2.2.2;omega) ?_
      by_cases q:gd l p (-1) (nd l n).kids=true
      ·rw[if_pos (by simp[h0,q])] at h;omega
      ·simpa using q
    · rw[if_neg e5] at h
      rw[gC e5]
      refine fin _ (fun c hc=>by rw[ic.1 hc];exact hn) (fun c hc=>by rw[ic.1 hc];omega) ?_
      by_cases q:gd l p (-1) [n]=true
      ·rw[if_pos (by simp[h0,q])] at h;omega
      ·simpa using q
theorem Gp (R:RF l m){n p child:Int}(hn:af l n=true)(hp:af l p=true)(hct:af l child=true)(h:eX l p child child n=0):child∈ (nd l p).kids∧oR (bg l child) n p (if bT (nd l p).kids child≠n then bT (nd l p).kids child else bT (nd l p).kids n):=by
  have hn0:=bf hn
  have hc0:=bf hct
  unfold eX at h
  by_cases e1:(!eA (nd l p).kind||gT l n p)=true
  ·rw[if_pos e1] at h;omega
  rw[if_neg e1] at h
  have e1':eA (nd l p).kind=true∧gT l n p=false:=by simpa using e1
  by_cases e2:child≠-1∧(nd l child).parent≠p
  ·rw[if_pos e2] at h;omega
  rw[if_neg e2] at h
  by_cases e3:(nd l n).kind=0∨(nd l n).kind=4
  ·rw[if_pos e3] at h;omega
  rw[if_neg e3] at h
  have hk:=R.kinds hn
  have hpar:(nd l child).parent=p:=Classical.byContradiction fun q=>e2 ⟨by omega,q⟩
  have hch:child∈ (nd l p).kids:=(R.child hp hct).1 hpar
  have L:=dR R hct
  have T:=aY (cW l child)
  have hw:=nv R hp hch
  have hkp:(nd (bg l child) p).kids=(nd l p).kids.erase child:=by rw[(L p hp).2.2.2,if_pos hpar.symm]
  have hpe:cr (bg l child) n=cr l n:=by
    unfold cr
    rw[(L n hn).1.kind]
    by_cases e:(nd l n).kind=3
    · rw [if_pos e,if_pos e,(L n hn).2.2.2]
      split
      · rename_i q
        rw[←q.trans hpar.symm.symm] at e1'
        exact absurd (U.cI R.tree hn) (by have:=e1'.2;rw[q,hpar] at*;unfold gT at this;simpa using this)
      ·rfl
    ·rw[if_neg e,if_neg e]
  refine⟨hch,by rw[T];exact hn,by rw[T];exact hp,by rw[(L n hn).1.kind];omega,by rw[(L p hp).1.kind];exact e1'.1,?_,?_,fun h0=>?_⟩
  ·rw[tM R hct hp hw];have:=e1'.2;unfold gT at this;simpa using this
  · rw [hkp]
    rcases fU (c:=child) (R.dup p hp) with q|⟨q1,q2⟩
    ·rw[q,if_pos (by omega)];exact .inl rfl
    · by_cases e:bT (nd l p).kids child≠n
      ·rw[if_pos e];exact .inr ⟨e,(List.mem_erase_of_ne q2).2 q1⟩
      · rw [if_neg e]
        have e':bT (nd l p).kids child=n:=Classical.not_not.1 e
        rcases fU (c:=n) (R.dup p hp) with r|⟨r1,r2⟩
        ·exact .inl r
        · refine .inr ⟨r2,(List.mem_erase_of_ne fun q=>?_).2 r1⟩
          -- the next of the next is not the first again
          exact wW (c:=child) (by omega) (R.dup p hp) (by rw[e'];omega) (by rw[e'];exact q)
  · rw [(L p hp).1.kind] at h0
    have hkids:∀c∈ (nd l p).kids,af l c=true:=fun c hc=>(R.kid p hp c hc).1
    have hel:=R.elems p hp h0
    rw[hpe,hkp]
    have hee:∀cs:List Int,(∀c∈cs,af l c=true)→cu (bg l child) cs=cu l cs:=fun cs hcs=>k9 (fun x hx=>(L x hx).1) hcs
    rw[hee _ fun c hc=>hkids c (List.mem_of_mem_erase (List.mem_of_mem_erase hc))]
    have hcd:(nd l child).kind=1:=by
      rcases(R.kid p hp child hch).2.2.2 with q|q
      ·exact q
      ·exact absurd h0 q.2
    have hone:cu l ((nd l p).kids.erase child)=0:=by
      have hp2:=(List.perm_cons_erase hch).countP_eq (fun c=>decide ((nd l c).kind=1))
      rw[List.countP_cons,if_pos (by simpa using hcd)] at hp2
      unfold cu at hel ⊢;omega
    have hz:cu l (((nd l p).kids.erase child).erase n)=0:=by
      have:cu l (((nd l p).kids.erase child).erase n)≤cu l ((nd l p).kids.erase child):=List.Sublist.countP_le List.erase_sublist
      omega
    rw[hz]
    have hks:∀k,af l k=true→(nd (bg l child) k).kind=(nd l k).kind:=fun k hk=>(L k hk).1.kind
    have fin:∀cs:List Int,(∀c∈cs,af l c=true)→(∀c∈cs,(nd l c).kind=1∨(nd l c).kind=2)→child∉cs→gd l p child cs=false→(∀k∈cs,(nd (bg l child) k).kind=1)∧cs.length+0≤1:=by
      intro cs hcs hkd hno hcr
      unfold gd at hcr
      rw[ei l hno 1,ei l hno 2] at hcr
      simp only[Bool.or_eq_false_iff,Bool.and_eq_false_iff,c9] at hcr
      have:=sH hkd (by omega)
      refine⟨fun k hk=>by rw[hks k (hcs k hk)];exact this.1 k hk,?_⟩
      rw[this.2] at hcr
      omega
    by_cases e5:(nd l n).kind=3
    · have hpar2:cr l n=(nd l n).kids:=by unfold cr;rw[if_pos e5]
      rw[if_pos e5] at h
      rw[hpar2]
      have hnp:n≠p:=fun q=>by
        have:=e1'.2
        unfold gT at this
        rw[q] at this
        simp[U.cI R.tree hp] at this
      refine fin _ (fun c hc=>(R.kid n hn c hc).1) (fun c hc=>by have:=(R.kid n hn c hc).2.2.2;omega) (fun q=>hnp ((R.kid n hn child q).2.1.symm.trans hpar)) ?_
      by_cases q:gd l p child (nd l n).kids=true
      ·rw[if_pos (by simp[h0,q])] at h;omega
      ·simpa using q
    · rw [if_neg e5] at h
      rw[gC e5]
      by_cases en:child=n
      · subst en
        exact⟨fun k hk=>by rw[ic.1 hk,hks child hn];exact hcd,by simp⟩
      · refine fin _ (fun c hc=>by rw[ic.1 hc];exact hn) (fun c hc=>by rw[ic.1 hc];omega) (by simpa using en) ?_
        by_cases q:gd l p child [n]=true
        ·rw[if_pos (by simp[h0,q])] at h;omega
        ·simpa using q
end
theorem oz {l l':List ai}(hl:l'.length=l.length)(h:∀x,af l x=true→nd l' x=nd l x):l'=l:=by
  apply List.ext_getElem hl
  intro i h1 h2
  have:=h (i:Int) (by unfold af;simp;omega)
  unfold nd at this
  rw[Int.toNat_natCast,bA h1,bA h2] at this
  exact this
theorem At {x y:ai}(h:iB x y)(h1:x.parent=y.parent)(h2:x.kids=y.kids)(h3:x.doc=y.doc):x=y:=by
  obtain⟨a1,a2,a3,a4,a5,a6,a7⟩:=h
  cases x;cases y
  simp only at*
  subst a1;subst a2;subst a3;subst a4;subst a5;subst a6;subst a7;subst h1;subst h2;subst h3;rfl
theorem rB:∀ {cs:List Int} {n:Int},cs.Nodup→n∈cs→(∀c∈cs,c≠-1)→nS (cs.erase n) (bT cs n) n=cs
  |[],n,_,h,_=>by cases h
  | a :: r,n,hd,h,h1=>by
    rw[List.nodup_cons] at hd
    by_cases e:a=n
    · subst e
      have e1:(a::r).erase a=r:=by rw[List.erase_cons,if_pos (by simp)]
      have e2:bT (a::r) a=(r.head?).getD (-1):=by
        show(if a=a then _ else _)=_
        rw[if_pos rfl]
      rw[e1,e2]
      cases r with
      |nil=>rfl
      | cons b t=>
        have hb:b≠-1:=h1 b (by simp)
        show(if b=-1 then _ else _)=_
        rw[if_neg hb,List.takeWhile_cons,List.dropWhile_cons,if_neg (by simp),if_neg (by simp)];rfl
    · have hin:n∈r:=(dP.1 h).resolve_left fun q=>e q.symm
      have e1:(a::r).erase n=a::r.erase n:=by rw[List.erase_cons,if_neg (by simpa using e)]
      have e2:bT (a::r) n=bT r n:=by
        show(if a=n then _ else _)=_
        rw[if_neg e]
      have ih:=rB hd.2 hin (fun c hc=>h1 c (dQ _ hc))
      rw[e1,e2]
      unfold nS at ih ⊢
      by_cases c:bT r n=-1
      · rw[if_pos c] at ih ⊢
        rw[List.cons_append,ih]
      · rw[if_neg c] at ih ⊢
        have hx:bT r n∈r:=((fU (c:=n) hd.2).resolve_left c).1
        have hax:a≠bT r n:=fun q=>hd.1 (q▸hx)
        rw[List.takeWhile_cons,List.dropWhile_cons,if_pos (by simpa using hax),if_pos (by simpa using hax),List.cons_append,ih]
section
variable {l l' : List ai} {m : Int}
theorem I2 {n:Int}(h:(nd l n).parent=-1):bg l n=l:=by unfold bg;rw[if_pos h]
theorem jO (R:RF l m){p:Int}(hp:af l p=true):∀c∈ (nd l p).kids,c≠-1:=fun c hc=>by have:=bf (R.kid p hp c hc).1;omega
theorem CA (R:RF l m){n:Int}(hn:af l n=true)(hp:(nd l n).parent≠-1)(C:fE l n (nd l n).parent (bT (nd l (nd l n).parent).kids n)):cA l n (nd l n).parent (bT (nd l (nd l n).parent).kids n)=l:=by
  have q:=R.par n hn hp
  have hdoc:=(R.kid _ q.2.1 n q.2.2.2).2.2.1
  refine oz (fo ..) fun x hx=>?_
  obtain⟨h1,h2,h3,h4⟩:=gb R C x hx
  refine At h1 ?_ ?_ ?_
  · rw[h2];split
    ·rename_i e;rw[e]
    ·rfl
  · rw [h3]
    by_cases e:x=(nd l n).parent
    · rw[if_pos e,e]
      exact rB (R.dup _ q.2.1) q.2.2.2 (jO R q.2.1)
    ·rw[if_neg e,if_neg e]
  · rw [h4]
    split
    · rename_i hw
      have L:=dR R hn
      have hx1:af (bg l n) x=true:=by rw[aY (cW ..)];exact hx
      have:=yw (dS R hn) hx1 hw
      rw[(L x hx).2.1,(L n hn).2.1] at this
      rw[this,hdoc]
    ·rfl
theorem xw (R:RF l m){n:Int}(hn:af l n=true)(hp:(nd l n).parent≠-1):fE (bg l n) n (nd l n).parent (bT (nd l (nd l n).parent).kids n):=by
  have q:=R.par n hn hp
  have T:=aY (cW l n)
  have L:=dR R hn
  have hw:=nv R q.2.1 q.2.2.2
  refine⟨by rw[T];exact hn,by rw[T];exact q.2.1,by rw[(L n hn).1.kind];exact q.1,by rw[(L _ q.2.1).1.kind];exact q.2.2.1,by rw[tM R hn q.2.1 hw];exact hw,?_,fun h0=>?_⟩
  · rw[(L _ q.2.1).2.2.2,if_pos rfl]
    rcases fU (c:=n) (R.dup _ q.2.1) with h|⟨h1,h2⟩
    ·exact .inl h
    ·exact .inr ⟨h2,(List.mem_erase_of_ne h2).2 h1⟩
  · rw[(L _ q.2.1).1.kind] at h0
    have hk1:(nd l n).kind=1:=(R.kid _ q.2.1 n q.2.2.2).2.2.2.resolve_right fun r=>r.2 h0
    rw[(L n hn).1.kind,(L _ q.2.1).2.2.2,if_pos rfl]
    refine⟨hk1,?_⟩
    have hno:n∉ (nd l (nd l n).parent).kids.erase n:=fun h=>((List.Nodup.mem_erase_iff (R.dup _ q.2.1)).1 h).1 rfl
    rw[iP hno,k9 (fun x hx=>(L x hx).1) fun c hc=>(R.kid _ q.2.1 c (List.mem_of_mem_erase hc)).1]
    have hp2:=(List.perm_cons_erase q.2.2.2).countP_eq (fun c=>decide ((nd l c).kind=1))
    rw[List.countP_cons,if_pos (by simpa using hk1)] at hp2
    have hel:=R.elems _ q.2.1 h0
    unfold cu at hel ⊢;omega
theorem FP (R:RF l m){n:Int}(hn:af l n=true)(hp:(nd l n).parent≠-1):cA (bg l n) n (nd l n).parent (bT (nd l (nd l n).parent).kids n)=l:=by
  have q:=R.par n hn hp
  have hdoc:=(R.kid _ q.2.1 n q.2.2.2).2.2.1
  have R1:=dS R hn
  have C:=xw R hn hp
  have T:=aY (cW l n)
  have L:=dR R hn
  have hp1:(nd (bg l n) n).parent=-1:=by rw[(L n hn).2.2.1,if_pos rfl]
  have hno:n∉ (nd l (nd l n).parent).kids.erase n:=fun h=>((List.Nodup.mem_erase_iff (R.dup _ q.2.1)).1 h).1 rfl
  refine oz ((fo ..).trans (cW ..)) fun x hx=>?_
  have hx1:af (bg l n) x=true:=by rw[T];exact hx
  have h0:=bf hx
  obtain⟨h1,h2,h3,h4⟩:=gb R1 C x hx1
  refine At (h1.trans (L x hx).1) ?_ ?_ ?_
  · rw[h2,(L x hx).2.2.1];split
    ·rename_i e;rw[e]
    ·rfl
  · rw [h3,hp1]
    by_cases e:x=(nd l n).parent
    · rw[if_pos e,(L x hx).2.2.2,if_pos e,e,iP hno]
      exact rB (R.dup _ q.2.1) q.2.2.2 (jO R q.2.1)
    ·rw[if_neg e,if_neg (by omega),(L x hx).2.2.2,if_neg e]
  · rw [h4,I2 hp1]
    split
    · rename_i hw
      have:=yw R1 hx1 hw
      rw[(L x hx).2.1,(L n hn).2.1] at this
      rw[(L _ q.2.1).2.1,this,hdoc]
    ·exact(L x hx).2.1
end
def eL (f:ForM)(n p child:Int):ForM×List aQ×Int:=if ni f n p child=0 then(⟨(dA (f.nodes,[]) n p (dW f n p child)).1,f.most⟩,(dA (f.nodes,[]) n p (dW f n p child)).2,0) else(f,[],ni f n p child)
def iv (f:ForM)(n:Int):ForM×List aQ×Int:=if(bw f&&af f.nodes n)=true then(if(nd f.nodes n).parent=-1 then(f,[],6) else(⟨(c8 (f.nodes,[]) n).1,f.most⟩,(c8 (f.nodes,[]) n).2,0)) else(f,[],1)
def lY (l:List ai)(n p child:Int):Int:=if bT (nd l p).kids child≠n then bT (nd l p).kids child else bT (nd l p).kids n
def replaceM (f:ForM)(n p child:Int):ForM×List aQ×Int:=if qt f n p child=0 then(⟨(dA (c8 (f.nodes,[]) child) n p (lY f.nodes n p child)).1,f.most⟩,(dA (c8 (f.nodes,[]) child) n p (lY f.nodes n p child)).2,0) else(f,[],qt f n p child)
section
variable {l l' : List ai} {m : Int}
theorem rV {f:ForM}{n p child:Int}(h:ni f n p child≠0):eL f n p child=(f,[],ni f n p child):=by unfold eL;rw[if_neg h]
theorem FW (R:RF l m){n p child:Int}:eU ⟨l,m⟩ n p child=true↔ (af l n=true∧af l p=true)∧(child=-1∨af l child=true):=by
  unfold eU
  rw[dI.2 R]
  simp only[bO,kg,bE,Bool.true_and]
theorem qN (R:RF l m){n p child:Int}(hn:af l n=true)(hp:af l p=true)(hc:child=-1∨af l child=true):ni ⟨l,m⟩ n p child=eX l p child (-1) n:=by
  unfold ni;rw[if_pos ((FW R).2 ⟨⟨hn,hp⟩,hc⟩)]
theorem DW (R:RF l m){n p child:Int}(hn:af l n=true)(hp:af l p=true)(hk:(nd l n).kind=1∨(nd l n).kind=2)(hh:eA (nd l p).kind=true)(hw:n∉U.bL l p)(hc:child=-1∨child∈ (nd l p).kids)(hd:(nd l p).kind=0→(nd l n).kind=1∧cu l (nd l p).kids=0):eX l p child (-1) n=0:=by
  have hn0:=bf hn
  unfold eX
  rw [if_neg (show ¬ ((!eA (nd l p).kind||gT l n p)=true) by
    unfold gT
    rw[hh,dy hw];simp)]
  rw[if_neg (show ¬ (child≠-1∧(nd l child).parent≠p) from fun q=>q.2 (R.kid p hp child (hc.resolve_left q.1)).2.1)]
  rw[if_neg (show ¬ ((nd l n).kind=0∨(nd l n).kind=4) by omega),if_neg (show ¬ (nd l n).kind=3 by omega)]
  refine if_neg fun q=>?_
  rw[bO,bE] at q
  obtain⟨h1,h2⟩:=hd q.1
  have hg:(-1:Int)∉ (nd l p).kids:=fun h=>jO R hp _ h rfl
  have hg2:(-1:Int)∉ [n]:=by simp;omega
  have:=q.2
  unfold gd at this
  rw[ei l hg2,ei l hg2,ei l hg] at this
  unfold cu at h2
  rw[h2] at this
  simp[h1] at this
theorem I3 (R:RF l m){n p:Int}(hn:af l n=true)(hp:(nd l n).parent=p)(hpp:p≠-1)(h0:(nd l p).kind=0):eX l p n (-1) n=5:=by
  have hn0:=bf hn
  subst hp
  have q:=R.par n hn hpp
  have hk1:(nd l n).kind=1:=(R.kid _ q.2.1 n q.2.2.2).2.2.2.resolve_right fun r=>r.2 h0
  have hg:(-1:Int)∉ (nd l (nd l n).parent).kids:=fun h=>jO R q.2.1 _ h rfl
  have hg2:(-1:Int)∉ [n]:=by simp;omega
  have hone:1≤ (nd l (nd l n).parent).kids.countP (fun k=>decide ((nd l k).kind=1)):=List.countP_pos_iff.2 ⟨n,q.2.2.2,by simp[hk1]⟩
  unfold eX
  by_cases e:(!eA (nd l (nd l n).parent).kind||gT l n (nd l n).parent)=true
  ·rw[if_pos e]
  rw[if_neg e,if_neg (fun r:n≠-1∧(nd l n).parent≠ (nd l n).parent=>r.2 rfl),if_neg (show ¬ ((nd l n).kind=0∨(nd l n).kind=4) by omega),if_neg (show ¬ (nd l n).kind=3 by omega)]
  refine if_pos ?_
  unfold gd
  rw[ei l hg2,ei l hg2,ei l hg,h0]
  simp only[bO,kg,bE]
  have e1:[n].countP (fun k=>decide ((nd l k).kind=1))=1:=by simp[hk1]
  exact⟨trivial,.inr ⟨by omega,by omega⟩⟩
theorem pC (R:RF l m){n:Int}(hn:af l n=true)(hp:(nd l n).parent≠-1):iv ⟨l,m⟩ n=(⟨bg l n,m⟩,(if kY l n=true then sI l n (dL 2 0 0) else[]),0):=by
  unfold iv
  rw[if_pos (by rw[dI.2 R,hn];rfl),if_neg hp,lz]
  unfold c8
  rw[if_neg hp,List.nil_append]
theorem ve (R:RF l m){n:Int}(hn:af l n=true)(hp:(nd l n).parent=-1):iv ⟨l,m⟩ n=(⟨l,m⟩,[],6):=by
  unfold iv
  rw[if_pos (by rw[dI.2 R,hn];rfl),if_pos hp]
theorem o5 {n p b:Int}(h:(nd l n).kind≠3)(t:List aQ):dA (l,t) n p b=cU p b (l,t) n:=by
  unfold dA
  rw[gC h,if_neg h];rfl
theorem Gk (R:RF l m){n:Int}(hn:af l n=true)(hp:(nd l n).parent≠-1):eL ⟨bg l n,m⟩ n (nd l n).parent (bT (nd l (nd l n).parent).kids n)=(⟨l,m⟩,(if kY l n=true then sI l n (dL 1 0 0) else[]),0):=by
  have q:=R.par n hn hp
  have R1:=dS R hn
  have C:=xw R hn hp
  have L:=dR R hn
  have hno:n∉ (nd l (nd l n).parent).kids.erase n:=fun h=>((List.Nodup.mem_erase_iff (R.dup _ q.2.1)).1 h).1 rfl
  have hkp:(nd (bg l n) (nd l n).parent).kids=(nd l (nd l n).parent).kids.erase n:=by rw[(L _ q.2.1).2.2.2,if_pos rfl]
  have hch:bT (nd l (nd l n).parent).kids n=-1∨bT (nd l (nd l n).parent).kids n∈ (nd (bg l n) (nd l n).parent).kids:=by
    rcases C.ab with h|h
    ·exact .inl h
    ·exact .inr h.2
  have ht:eX (bg l n) (nd l n).parent (bT (nd l (nd l n).parent).kids n) (-1) n=0:=DW R1 C.tk C.tp C.kk C.hd C.w hch (fun h0=>by
    have:=C.dc h0
    rw[hkp,iP hno] at this
    rw[hkp];exact this)
  have hm:=qN R1 C.tk C.tp (hch.imp id fun h=>(R1.kid _ C.tp _ h).1)
  rw[ht] at hm
  have hne:bT (nd l (nd l n).parent).kids n≠n:=by
    have h0:=bf hn
    rcases fU (c:=n) (R.dup _ q.2.1) with h|⟨_,h⟩
    ·omega
    ·exact h
  have hb:dW ⟨bg l n,m⟩ n (nd l n).parent (bT (nd l (nd l n).parent).kids n)=bT (nd l (nd l n).parent).kids n:=by
    unfold dW
    rw[if_neg (fun c=>c hm),if_pos hne]
  have hk3:(nd (bg l n) n).kind≠3:=by have:=C.kk;omega
  have hpar:(nd (bg l n) n).parent=-1:=by rw[(L n hn).2.2.1,if_pos rfl]
  have hov:jq (bg l n,[]) n (nd (bg l n) (nd l n).parent).doc=(bg l n,[]):=by
    unfold jq
    have e1:c8 (bg l n,[]) n=(bg l n,[]):=by unfold c8;rw[if_pos hpar]
    rw[e1,if_pos]
    show(nd (bg l n) n).doc=(nd (bg l n) (nd l n).parent).doc
    rw[(L n hn).2.1,(L _ q.2.1).2.1];exact(R.kid _ q.2.1 n q.2.2.2).2.2.1
  unfold eL
  rw[if_pos hm,hb]
  show(ForM.mk (dA (bg l n,[]) n (nd l n).parent _).1 m,(dA (bg l n,[]) n (nd l n).parent _).2,(0:Int))=_
  rw[o5 hk3]
  unfold cU
  simp only[FP R hn hp,hov,List.nil_append]
theorem EH (R:RF l m){n:Int}(hn:af l n=true)(hp:(nd l n).parent≠-1)(h0:(nd l (nd l n).parent).kind≠0):(eL ⟨l,m⟩ n (nd l n).parent n).1=⟨l,m⟩∧(eL ⟨l,m⟩ n (nd l n).parent n).2.2=0:=by
  have q:=R.par n hn hp
  have hw:=nv R q.2.1 q.2.2.2
  have ht:eX l (nd l n).parent n (-1) n=0:=DW R hn q.2.1 q.1 q.2.2.1 hw (.inr q.2.2.2) (fun h=>absurd h h0)
  have hm:=qN R hn q.2.1 (.inr hn)
  rw[ht] at hm
  have hb:dW ⟨l,m⟩ n (nd l n).parent n=bT (nd l (nd l n).parent).kids n:=by
    unfold dW
    rw[if_neg (fun c=>c hm),if_neg (fun c=>c rfl)]
  have hk3:(nd l n).kind≠3:=by have:=q.1;omega
  have hne:=fU (c:=n) (R.dup _ q.2.1)
  have C:fE l n (nd l n).parent (bT (nd l (nd l n).parent).kids n):=⟨hn,q.2.1,q.1,q.2.2.1,hw,hne.imp id (fun h=>⟨h.2,h.1⟩),fun h=>absurd h h0⟩
  unfold eL
  rw[if_pos hm,hb]
  show(ForM.mk (dA (l,[]) n (nd l n).parent _).1 m=_)∧_
  rw[o5 hk3]
  refine⟨?_,rfl⟩
  show ForM.mk (cA l n (nd l n).parent _) m=_
  rw[CA R hn hp C]
theorem Fa (R:RF l m){n:Int}(hn:af l n=true)(hp:(nd l n).parent≠-1)(h0:(nd l (nd l n).parent).kind=0):eL ⟨l,m⟩ n (nd l n).parent n=(⟨l,m⟩,[],5):=by
  have q:=R.par n hn hp
  have hm:=qN R hn q.2.1 (.inr hn)
  rw[I3 R hn rfl hp h0] at hm
  rw[rV (by omega),hm]
end
def iz (cs:List Int)(b:Int)(ks:List Int):List Int:=if b=-1 then cs++ks else cs.takeWhile (fun c=>decide (c≠b))++ (ks++cs.dropWhile (fun c=>decide (c≠b)))
theorem BK {q:Int→Bool}:∀ {a r:List Int},(∀x∈a,q x=true)→(a++r).takeWhile q=a++r.takeWhile q
  |[],r,_=>rfl
  |x::a,r,h=>by rw[List.cons_append,List.takeWhile_cons,if_pos (h x eS),BK fun y hy=>h y (dQ _ hy)];rfl
theorem Ar {q:Int→Bool}:∀ {a r:List Int},(∀x∈a,q x=true)→(a++r).dropWhile q=r.dropWhile q
  |[],r,_=>rfl
  |x::a,r,h=>by rw[List.cons_append,List.dropWhile_cons,if_pos (h x eS),Ar fun y hy=>h y (dQ _ hy)]
theorem An {q:Int→Bool}:∀ {a:List Int} {x:Int},x∈a.takeWhile q→q x=true
  |[],x,h=>by cases h
  | y ::a,x,h=>by
    rw[List.takeWhile_cons] at h
    split at h
    · rename_i e
      rcases dP.1 h with q1|q1
      ·rw[q1];exact e
      ·exact An q1
    ·cases h
theorem rm {q:Int→Bool}:∀ {a:List Int},(a.dropWhile q).takeWhile q=[]∧(a.dropWhile q).dropWhile q=a.dropWhile q
  |[]=>⟨rfl,rfl⟩
  | y ::a=>by
    rw[List.dropWhile_cons]
    split
    ·exact rm
    · rename_i e
      rw[List.takeWhile_cons,List.dropWhile_cons,if_neg e,if_neg e]
      exact⟨rfl,rfl⟩
theorem Aj {cs ks:List Int}{b k:Int}(hb:b∉ks)(hc:b≠k):nS (iz cs b ks) b k=iz cs b (ks++ [k]):=by
  unfold nS iz
  by_cases e:b=-1
  ·rw[if_pos e,if_pos e,if_pos e,List.append_assoc]
  · rw [if_neg e,if_neg e,if_neg e]
    have h1:∀x∈cs.takeWhile (fun c=>decide (c≠b))++ks,(fun c=>decide (c≠b)) x=true:=fun x hx=>by
      rcases List.mem_append.1 hx with q|q
      ·exact An q
      ·simp only[bE];exact fun r=>hb (r▸q)
    rw[←List.append_assoc,BK h1,Ar h1,rm.1,rm.2]
    simp
theorem sY (cs:List Int)(b:Int):iz cs b []=cs:=by
  unfold iz
  split
  ·simp
  ·rw[List.nil_append,List.takeWhile_append_dropWhile]
section
variable {l l' : List ai} {m : Int}
theorem vq {p b:Int}:∀ (ks done:List Int) {l:List ai} (cs:List Int),RF l m→ks.Nodup→(∀k∈ks,fE l k p b∧(nd l k).parent=-1)→((nd l p).kind=0→ks.length≤1)→(b∉done)→(b=-1∨b∉ks)→(nd l p).kids=iz cs b done→(∀k∈ks,af l k=true)→af l p=true→(nd (ks.foldl (fun l k=>cA l k p b) l) p).kids=iz cs b (done++ks)∧(∀x,af l x=true→x≠p→(∀k∈ks,(nd l k).parent≠x)→(nd (ks.foldl (fun l k=>cA l k p b) l) x).kids=(nd l x).kids)∧(∀k,af l k=true→(nd (ks.foldl (fun l k=>cA l k p b) l) k).parent=if k∈ks then p else(nd l k).parent)
  |[],done,l,cs,R,_,_,_,_,_,h,_,_=>⟨by rw[List.append_nil];exact h,fun _ _ _ _=>rfl,fun k _=>by rw[if_neg (by simp)];rfl⟩
  | k :: ks,done,l,cs,R,hd,h,h0,hbd,hbk,hk,ht,hp=>by
    rw[List.nodup_cons] at hd
    have C:=(h k eS).1
    have hpk:=(h k eS).2
    have L:=gb R C
    have T:=aY (fo l k p b)
    have hpp:=bf hp
    have hkk:k∉ (nd l p).kids:=fun q=>by have:=(R.kid p hp k q).2.1;omega
    have hbk1:b≠k:=by
      rcases C.ab with q|q
      ·have:=bf C.tk;omega
      ·exact q.1
    have hkids:(nd (cA l k p b) p).kids=iz cs b (done++ [k]):=by
      rw[(L p hp).2.2.1,if_pos rfl,iP hkk,hk,Aj hbd hbk1]
    have hnext:=fun j (hj:j∈ks)=>sC R C (h j (dQ _ hj)).1 (fun e=>hd.1 (e▸hj)) (fun e=>by
      have q1:(k::ks).length≤1:=h0 e
      have q2:=List.length_pos_of_mem hj
      rw[List.length_cons] at q1;omega)
    have hpar:∀j,af l j=true→j≠k→(nd (cA l k p b) j).parent=(nd l j).parent:=fun j hj hne=>by rw[(L j hj).2.1,if_neg hne]
    have ih:=vq (p:=p) (b:=b) ks (done++ [k]) cs (j5 R C) hd.2 (fun j hj=>⟨hnext j hj,by rw[hpar j (ht j (dQ _ hj)) (fun e=>hd.1 (e▸hj))];exact(h j (dQ _ hj)).2⟩) (fun e=>by
      rw[(L p hp).1.kind] at e
      have q1:(k::ks).length≤1:=h0 e
      rw[List.length_cons] at q1;omega) (fun q=>(List.mem_append.1 q).elim hbd (fun r=>hbk1 (ic.1 r))) (hbk.imp id fun q r=>q (dQ _ r)) hkids (fun j hj=>by rw[T];exact ht j (dQ _ hj)) (by rw[T];exact hp)
    refine⟨?_,fun x hx hxp hxk=>?_,fun j hj=>?_⟩
    · have:=ih.1
      rwa [List.append_assoc] at this
    · have hx1:(nd (cA l k p b) x).kids=(nd l x).kids:=by
        rw[(L x hx).2.2.1,if_neg hxp,if_neg (fun q=>hxk k eS q.symm)]
      refine(ih.2.1 x (by rw[T];exact hx) hxp fun j hj=>?_).trans hx1
      rw[hpar j (ht j (dQ _ hj)) (fun e=>hd.1 (e▸hj))]
      exact hxk j (dQ _ hj)
    · refine(ih.2.2 j (by rw[T];exact hj)).trans ?_
      by_cases e:j=k
      · subst e
        rw[if_neg hd.1,if_pos eS,(L j hj).2.1,if_pos rfl]
      · rw[hpar j hj e]
        by_cases c:j∈ks
        ·rw[if_pos c,if_pos (dQ _ c)]
        ·rw[if_neg c,if_neg (fun q=>(dP.1 q).elim e c)]
theorem xP:∀ (ks:List Int) {l:List ai},RF l m→(∀k∈ks,af l k=true)→∀ (n:Int),af l n=true→ks.Nodup→(∀k∈ks,(nd l k).parent=n)→(nd (ks.foldl bg l) n).kids=ks.foldl List.erase (nd l n).kids
  |[],l,_,_,n,_,_,_=>rfl
  | k ::ks,l,R,h,n,hn,hd,hp=>by
    rw[List.nodup_cons] at hd
    have T:=aY (cW l k)
    have hk:=h k eS
    have L:=dR R hk
    have:=xP ks (dS R hk) (fun j hj=>by rw[T];exact h j (dQ _ hj)) n (by rw[T];exact hn) hd.2 (fun j hj=>by
      rw[(L j (h j (dQ _ hj))).2.2.1,if_neg (fun e:j=k=>hd.1 (e▸hj))]
      exact hp j (dQ _ hj))
    show(nd (ks.foldl bg (bg l k)) n).kids=ks.foldl List.erase ((nd l n).kids.erase k)
    rw[this,(L n hn).2.2.2,if_pos (hp k eS).symm]
theorem xo:∀ (cs:List Int),cs.foldl List.erase cs=[]
  |[]=>rfl
  | a::r=>by
    show r.foldl List.erase ((a::r).erase a)=[]
    rw[List.erase_cons_head];exact xo r
theorem AR (R:RF l m)(t:List aQ){n p b:Int}(C:oR l n p b):(nd (dA (l,t) n p b).1 p).kids=iz ((nd l p).kids.filter fun k=> !gR (cr l n) k) b (cr l n)∧(∀k∈cr l n,af l k=true∧(nd (dA (l,t) n p b).1 k).parent=p)∧((nd l n).kind=3→(nd (dA (l,t) n p b).1 n).kids=[])∧(cr l n).Nodup∧(∀k∈cr l n,k∈ (nd (dA (l,t) n p b).1 p).kids):=by
  have hne:n≠p:=fun e=>C.w (by rw[e];exact U.cI R.tree C.tp)
  have hmem:∀ (cs ks:List Int) (k:Int),k∈ks→k∈iz cs b ks:=fun cs ks k hk=>by
    unfold iz;split
    ·exact List.mem_append_right _ hk
    ·exact List.mem_append_right _ (List.mem_append_left _ hk)
  have hn0:=bf C.tn
  by_cases h3:(nd l n).kind=3
  · have hpar:cr l n=(nd l n).kids:=by unfold cr;rw[if_pos h3]
    have hks:∀k∈ (nd l n).kids,af l k=true:=fun k hk=>(R.kid n C.tn k hk).1
    have L:=lI (nd l n).kids R hks n (fun k hk=>.inl (R.kid n C.tn k hk).2.1)
    obtain⟨h1,h2,h4,h5⟩:=uC R C h3
    have T:=aY h2
    have hfil:((nd l p).kids.filter fun k=> !gR (nd l n).kids k)=(nd l p).kids:=by
      rw[List.filter_eq_self]
      intro k hk
      unfold gR
      simp only[Bool.not_eq_true',c9]
      intro q
      exact hne ((R.kid n C.tn k q).2.1.symm.trans (R.kid p C.tp k hk).2.1)
    have hbn:b∉ (nd l n).kids:=fun q=>by
      rcases C.ab with r|r
      ·exact jO R C.tn b q r
      ·exact hne ((R.kid n C.tn b q).2.1.symm.trans (R.kid p C.tp b r.2).2.1)
    have K:=vq (p:=p) (b:=b) (nd l n).kids [] (nd l p).kids h1 (R.dup n C.tn) h4 (fun e=>h5 (by rw[←(L p C.tp).1.kind];exact e)) (by simp) (.inr hbn) (by rw[sY];exact(L p C.tp).2.2.2 (fun e=>hne e.symm)) (fun k hk=>by rw[T];exact hks k hk) (by rw[T];exact C.tp)
    rw[List.nil_append] at K
    have hst:(dA (l,t) n p b).1=(nd l n).kids.foldl (fun l k=>cA l k p b) ((nd l n).kids.foldl bg l):=by
      unfold dA
      rw[pX]
      simp only[hpar,if_pos h3,iN]
    rw[hst,hpar,hfil]
    refine⟨K.1,fun k hk=>⟨hks k hk,?_⟩,fun _=>?_,R.dup n C.tn,fun k hk=>?_⟩
    ·rw[K.2.2 k (by rw[T];exact hks k hk),if_pos hk]
    · refine(K.2.1 n (by rw[T];exact C.tn) hne fun k hk=>?_).trans ?_
      ·rw[(L k (hks k hk)).2.2.1,if_pos hk];omega
      · rw[xP (nd l n).kids R hks n C.tn (R.dup n C.tn) (fun k hk=>(R.kid n C.tn k hk).2.1)]
        exact xo _
    ·rw[K.1];exact hmem _ _ _ hk
  · have hpar:=gC h3
    have D:=tL C h3
    have L:=gb R D
    have hst:(dA (l,t) n p b).1=cA l n p b:=by rw[o5 h3];rfl
    have hfil:((nd l p).kids.filter fun k=> !gR [n] k)=(nd l p).kids.erase n:=by
      rw[(R.dup p C.tp).erase_eq_filter]
      refine List.filter_congr fun k _=>?_
      unfold gR
      rw[Bool.eq_iff_iff]
      simp
    have hk:(nd (cA l n p b) p).kids=iz ((nd l p).kids.erase n) b [n]:=by
      rw[(L p C.tp).2.2.1,if_pos rfl]
      have:=Aj (cs:=(nd l p).kids.erase n) (ks:=[]) (b:=b) (k:=n) (by simp) (by
        rcases D.ab with q|q
        ·omega
        ·exact q.1)
      rwa [sY,List.nil_append] at this
    rw[hst,hpar,hfil]
    refine⟨hk,fun k hk2=>?_,fun e=>absurd e h3,by simp,fun k hk2=>?_⟩
    · rw[ic.1 hk2]
      exact⟨C.tn,by rw[(L n C.tn).2.1,if_pos rfl]⟩
    ·rw[hk];exact hmem _ _ _ hk2
def sW (cs parts:List Int)(b:Int):List Int:=(cs.flatMap fun k=>(if k=b then parts else[])++ (if gR parts k=true then[] else[k]))++ (if b=-1 then parts else[])
theorem xd {cs parts:List Int}{b:Int}(h:b∉cs):(cs.flatMap fun k=>(if k=b then parts else[])++ (if gR parts k=true then[] else[k]))=cs.filter fun k=> !gR parts k:=by
  induction cs with
  |nil=>rfl
  | cons a r ih=>
    rw[List.flatMap_cons,ih fun q=>h (dQ _ q),if_neg (fun e:a=b=>h (by rw[←e];exact eS)),List.nil_append,List.filter_cons]
    cases gR parts a<;>simp
theorem want_eq {cs parts:List Int}{b:Int}(hd:cs.Nodup)(h:b=-1∧(-1:Int)∉cs∨b≠-1∧b∈cs∧b∉parts):sW cs parts b=iz (cs.filter fun k=> !gR parts k) b parts:=by
  unfold sW iz
  rcases h with⟨rfl,h⟩|⟨h0,h1,h2⟩
  ·rw[xd h,if_pos rfl,if_pos rfl]
  · rw [if_neg h0,if_neg h0,List.append_nil]
    clear h0
    induction cs with
    |nil=>cases h1
    | cons a r ih=>
      rw[List.nodup_cons] at hd
      rw[List.flatMap_cons,List.filter_cons]
      by_cases e:a=b
      · subst e
        have ha:gR parts a=false:=dy h2
        rw[if_pos rfl,ha,xd hd.1]
        simp
      · rw[if_neg e,ih hd.2 ((dP.1 h1).resolve_left fun q=>e q.symm)]
        cases ha:gR parts a with
        |true=>simp
        |false=>simp[e]
end
def OQ (b:Bool):Int:=if b=true then 1 else 0
def uJ (s:Int×Int)(x:aQ):Option (Int×Int):=
  match(if x.kind=1 then some (s.1+1,s.2) else if x.kind=2 then some (s.1-1,s.2) else if x.kind=3 then(if x.src≠s.2∨x.dst=s.2∨s.1≠0 then none else some (s.1,x.dst)) else some s:Option (Int×Int)) with
  |none=>none
  |some t=>if t.1<0∨1<t.1 then none else some t
def runN:Int×Int→List aQ→Option (Int×Int)
  |s,[]=>some s
  | s,x::r=>match uJ s x with
    |none=>none
    |some t=>runN t r
theorem qh:∀ (a b:List aQ) (s:Int×Int),runN s (a++b)=match runN s a with
    |none=>none
    |some t=>runN t b
  |[],b,s=>rfl
  | x::a,b,s=>by
    show(match uJ s x with|none=>none|some t=>runN t (a++b))=match(match uJ s x with|none=>none|some t=>runN t a) with|none=>none|some t=>runN t b
    cases uJ s x with
    |none=>rfl
    |some t=>exact qh a b t
def dw (n:Int)(ns:List aQ):List aQ:=ns.filter fun x=>decide (x.node=n)
theorem nE (n:Int)(a b:List aQ):dw n (a++b)=dw n a++dw n b:=List.filter_append ..
structure Told (l l':List ai) (ns:List aQ):Prop where
  el:∀x∈ns,af l x.node=true∧(nd l x.node).kind=1
  run:∀n,af l n=true→(nd l n).kind=1→runN (OQ (kY l n),(nd l n).doc) (dw n ns)=some (OQ (kY l' n),(nd l' n).doc)
theorem Told.nil (l:List ai):Told l l []:=⟨fun x hx=>by simp at hx,fun n _ _=>rfl⟩
theorem Told.trans {a b c:List ai}{x y:List aQ}(hl:b.length=a.length)(hk:∀n,af a n=true→(nd b n).kind=(nd a n).kind)(h:Told a b x)(k:Told b c y):Told a c (x++y):=by
  have T:=aY hl
  refine⟨fun z hz=>?_,fun n hn h1=>?_⟩
  · rcases List.mem_append.1 hz with q|q
    ·exact h.el z q
    · have:=k.el z q
      rw[T] at this
      exact⟨this.1,by rw[←hk _ this.1];exact this.2⟩
  · rw[nE,qh,h.run n hn h1]
    exact k.run n (by rw[T];exact hn) (by rw[hk n hn];exact h1)
section
variable {l l' : List ai} {m : Int}
def vX (ns:List aQ):Prop:=∀x∈ns,x.kind≠4
theorem vX.nil:vX []:=fun x hx=>by simp at hx
theorem vX.app {a b:List aQ}(h:vX a)(k:vX b):vX (a++b):=fun x hx=>(List.mem_append.1 hx).elim (h x) (k x)
end
section
variable {l l' : List ai} {m : Int}
end
structure wM (x y:ai):Prop where
  kind:x.kind=y.kind
  parent:x.parent=y.parent
  kids:x.kids=y.kids
  host:x.host=y.host
  under:x.under=y.under
  doc:x.doc=y.doc
theorem wM.refl (x:ai):wM x x:=⟨rfl,rfl,rfl,rfl,rfl,rfl⟩
section
variable {l l' : List ai} {m : Int}
theorem GV (hl:l'.length=l.length)(hs:∀x,af l x=true→wM (nd l' x) (nd l x))(a k:Int):kR l' a k=kR l a k:=by
  unfold kR
  rw[aY hl]
  cases h:af l a with
  |false=>rfl
  |true=>rw[(hs a h).kind]
theorem Gd {x y:ai}(h:wM x y):dJ x=dJ y:=by unfold dJ;rw[h.parent,h.host]
theorem RF.same (R:RF l m)(hl:l'.length=l.length)(hs:∀x,af l x=true→wM (nd l' x) (nd l x))(hn:∀x,af l x=true→gg (nd l' x)=true):RF l' m:=by
  have T:=aY hl
  have I:=GV hl hs
  have isT:∀ {a k:Int},kR l a k=true→af l a=true:=fun h=>by unfold kR at h;rw[bO] at h;exact h.1
  refine⟨?_,fun n h0=>?_,fun n h0=>?_,fun n h0 h=>?_,fun n h0 c hc=>?_,fun n h0=>?_,fun n h0 h=>?_,fun n h0 h=>?_,fun n h0 h=>?_,fun n h0 h=>?_,fun n h0 h=>?_,fun n h0=>?_⟩
  · have:=R.head
    unfold me at this ⊢
    rw[hl,(hs 0 R.pos).kind];exact this
  all_goals rw[T] at h0
  all_goals have S:=hs n h0
  ·exact hn n h0
  ·rw[I,S.kind,S.doc];exact R.own n h0
  · rw[S.parent] at h ⊢
    have q:=R.par n h0 h
    rw[T,S.kind,(hs _ q.2.1).kind,(hs _ q.2.1).kids];exact q
  · rw[S.kids] at hc
    have q:=R.kid n h0 c hc
    rw[T,S.kind,S.doc,(hs c q.1).kind,(hs c q.1).parent,(hs c q.1).doc];exact q
  ·rw[S.kids];exact R.dup n h0
  ·rw[S.kids] at h;rw[S.kind];exact R.hold n h0 h
  · rw [S.kind] at h
    rw[S.kids]
    have:cu l' (nd l n).kids=cu l (nd l n).kids:=by
      unfold cu
      exact List.countP_congr fun c hc=>by rw[(hs c (R.kid n h0 c hc).1).kind]
    rw[this];exact R.elems n h0 h
  · rw[S.kind] at h
    have q:=R.host n h0 h
    rw[I,S.host,S.doc,(hs _ (isT q.1)).under,(hs _ (isT q.1)).doc];exact q
  · rw[S.kind] at h
    rw[S.host];exact R.noh n h0 h
  · rw[S.under] at h
    have q:=R.und n h0 h
    rw[I,S.kind,S.under,(hs _ (isT q.2.1)).host];exact q
  · rw[hl,ji]
    refine tH (g:=fun n=>dJ (nd l n)) (P:=fun x=>af l x=true) (fun y hy=>.inl (Gd (hs y hy))) (fun y hy h=>R.up hy h) h0 (by rw[←ji];exact R.ends n h0)
def gM (l:List ai)(n:Int)(xs:List AttrM):List ai:=oH l n fun x=>{x with attrs:=xs}
theorem eZ (l:List ai)(n:Int)(xs:List AttrM):(gM l n xs).length=l.length:=iE ..
theorem pQ {n x:Int}{xs:List AttrM}(hn:af l n=true)(hx:af l x=true):nd (gM l n xs) x=if x=n then{nd l x with attrs:=xs} else nd l x:=by
  unfold gM
  rw[nO _ hn hx]
  by_cases e:x=n
  ·subst e;simp
  ·rw[if_neg e,if_neg e]
theorem uY {n:Int}{xs:List AttrM}(hn:af l n=true)(x:Int)(hx:af l x=true):wM (nd (gM l n xs) x) (nd l x)∧(nd (gM l n xs) x).name=(nd l x).name∧(nd (gM l n xs) x).attrs=if x=n then xs else(nd l x).attrs:=by
  rw[pQ hn hx]
  by_cases e:x=n
  ·rw[if_pos e,if_pos e];exact⟨⟨rfl,rfl,rfl,rfl,rfl,rfl⟩,rfl,rfl⟩
  ·rw[if_neg e,if_neg e];exact⟨.refl _,rfl,rfl⟩
theorem n8 (R:RF l m){n:Int}{xs:List AttrM}(hn:af l n=true)(hk:(nd l n).kind=1)(ha:dH xs=true):RF (gM l n xs) m:=by
  refine R.same (eZ ..) (fun x hx=>(uY hn x hx).1) fun x hx=>?_
  rw[pQ hn hx]
  have:=R.Je x hx
  split
  · rename_i e
    subst e
    unfold gg at this ⊢
    rw[if_pos hk] at this
    simp only[bO] at this ⊢
    rw[if_pos hk]
    simp only[bO]
    exact⟨this.1,ha⟩
  ·exact this
end
section
variable {l l' : List ai} {m : Int}
theorem RF.Nx (R:RF l m):Tree l:=jx (f:=⟨l,m⟩) (dI.2 R)
end
section
variable {l l' : List ai} {m : Int}
end
end Go.Proofs.Heir
namespace Go.Proofs.Heir
open Go.Am Go.RowKit Go.Lib
set_option maxRecDepth 100000
theorem zG (l:List AttrM)(hl:l.length≤100000):aj Tryz.prog 123 [] [cV l] [Hq l] (.own 0 0 l.length):=by
  have hlm:(l.map dg).length=l.length:=bN ..
  refine aj.aD (rvs:=[.tmp 2]) G au Tryz.func123 rfl Tryz.ntmps123 rfl rfl ?_;with_reducible refine wD ?_
  refine kZ.mk (fun h=>?_) (fun _=>?_)<;>with_reducible refine wK ?_
  · obtain rfl:l=[]:=by simpa using h
    (refine eK ?_ ?_<;>with_reducible repeat' (first|exact trivial|(show _∧_;refine aK ?_ ?_)))
    all_goals first|rfl|trivial
  · refine dZ.mk [] (l.map dg) ⟨rfl,rfl,rfl⟩ ⟨rfl,rfl,rfl⟩ (xF l) (by simp;omega) (by simp;omega) ?_;with_reducible refine wK ?_
    (refine eK ?_ ?_<;>with_reducible repeat' (first|exact trivial|(show _∧_;refine aK ?_ ?_)))
    ·exact hlm.symm
    ·exact bS (gw l)
end Go.Proofs.Heir
namespace Go.Proofs.Heir
open Go.Am Go.RowKit Go.Lib
set_option maxRecDepth 100000
set_option maxHeartbeats 8000000
theorem fQ (b:Nat)(e:TypeId)(fz:Nat×Nat):∀ (vs:List Value) (o:Nat) (C:Array Value) (w:World),w.heap[b]? =some (.cells C e fz)→o+vs.length≤C.size→
    ∃C',w.setCells b o vs=w.setRow b C'∧C'.size=C.size∧∀q,C'[q]? =if o≤q∧q<o+vs.length then vs[q-o]? else C[q]?
  |[],o,C,w,h,_=>⟨C,(setRow_self w b C e fz h).symm,rfl,fun q=>by rw[if_neg (by simp only[List.length_nil];omega)]⟩
  | v ::r,o,C,w,h,hl=>by
    have h1:w.setCell ⟨b,o,none⟩ v=w.setRow b (C.setIfInBounds o v):=by
      have hb:=(Array.getElem?_eq_some_iff.1 h)
      unfold World.setCell World.setRow
      congr 1
      apply Array.ext_getElem?
      intro k
      rw[Array.getElem?_modify,Array.getElem?_modify]
      by_cases hk:b=k
      ·subst hk;simp[h]
      ·simp[hk]
    have h2:=setRow_heap w b C (C.setIfInBounds o v) e fz h
    obtain⟨C',k1,k2,k3⟩:=fQ b e fz r (o+1) (C.setIfInBounds o v) (w.setRow b (C.setIfInBounds o v)) h2 (by simp at hl ⊢;omega)
    refine⟨C',by rw[World.setCells,h1,k1,setRow_setRow],by simp[k2],fun q=>?_⟩
    rw[k3 q,Array.getElem?_setIfInBounds]
    simp only[List.length_cons] at hl ⊢
    by_cases hq:q=o
    · subst hq
      rw[if_neg (by omega),if_pos rfl,if_pos (by omega),if_pos (by omega),Nat.sub_self];rfl
    · by_cases hq2:o+1≤q∧q<o+1+r.length
      ·rw[if_pos hq2,if_pos (by omega),show q-o=(q- (o+1))+1 from by omega,List.getElem?_cons_succ]
      ·rw[if_neg hq2,if_neg (fun h=>hq h.symm),if_neg (by omega)]
theorem Cs (w:World)(ty:TypeId)(b o n c:Nat)(e:TypeId)(C:Array Value)(h:w.heap[b]? =some (.cells C e (0,0)))(hn:0<n)(hl:o+n*2≤C.size):
    ∃C',(Builtin.clear_ #[32] ty #[.slice (some ⟨b,o,none⟩) n c]).run Tryz.prog w=.ok (.tuple #[]) (w.setRow b C')∧C'.size=C.size∧∀q,q<o→C'[q]? =C[q]? :=by
  obtain⟨Z,hZ⟩:∃Z:List Value,(Builtin.zeroCells (Value.agg #[.string ⟨#[]⟩,.string ⟨#[]⟩]).cells n).toList=Z:=⟨_,rfl⟩
  have hsz:Z.length=n*2:=by
    rw[←hZ,Array.length_toList,size_zeroCells];rfl
  have hone:∀v∈Z,v.oneCell'=true:=by
    intro v hv
    rw[←hZ,Array.mem_toList_iff,Builtin.zeroCells,Array.mem_map] at hv
    obtain⟨i,_,rfl⟩:=hv
    show(#[Value.string ⟨#[]⟩,.string ⟨#[]⟩][i%2]!).oneCell'=true
    rcases Nat.mod_two_eq_zero_or_one i with h|h<;>rw[h]<;>rfl
  have hst:=run_storeCells_at (P:=Tryz.prog) b o e Z 0 C w h (by rw[hsz];omega) hone
  rw[Nat.add_zero] at hst
  refine⟨(C.toList.take o++Z++C.toList.drop (o+Z.length)).toArray,?_,?_,?_⟩
  · obtain⟨m,rfl⟩:∃m,n=m+1:=⟨n-1,by omega⟩
    have hu:=Tryz.underlying32
    have hz:=Tryz.zeroValue90
    simp[Builtin.clear_,run_underlying hu,hz,hZ,hst]
  ·simp[hsz];omega
  · intro q hq
    simp only[List.getElem?_toArray]
    rw[List.append_assoc,rW (by simp;omega),List.getElem?_take,if_pos hq,Array.getElem?_toList]
theorem CY (blk off cap n i j:Nat)(C:Array Value)(e:TypeId)(w:World)(hC:w.heap[blk]? =some (.cells C e (0,0)))(hfit:off+cap*2≤C.size)(hn:n≤cap)(hij:i<j)(hj:j≤n)
    (hone:∀q v,q<n*2→C[off+q]? =some v→v.oneCell'=true):
    Calls Tryz.prog 134 #[.slice (some ⟨blk,off,none⟩) n cap,.int .i64 i,.int .i64 j] w fun e' w'=>e'=.returned (.slice (some ⟨blk,off,none⟩) (i+ (n-j)) cap)∧
      ∃C',w'=w.drew.setRow blk C'∧C'.size=C.size∧∀q,q< (i+ (n-j))*2→C'[off+q]? =if q<i*2 then C[off+q]? else C[off+q+ (j-i)*2]? :=by
  obtain⟨news,hnews⟩:∃news,news=(C.toList.drop (off+j*2)).take ((n-j)*2):=⟨_,rfl⟩
  have hCl:C.toList.length=C.size:=Array.length_toList
  have hlen:news.length=(n-j)*2:=by rw[hnews,gE,List.length_drop,hCl];omega
  have hget:∀t,t< (n-j)*2→news[t]? =C[off+j*2+t]? :=by
    intro t ht
    rw[hnews,List.getElem?_take,if_pos ht,List.getElem?_drop,Array.getElem?_toList]
  have hcell:∀q,w.drew.cell? ⟨blk,q,none⟩=C[q]? :=fun q=>by
    show w.cell? _=_
    simp[World.cell?,hC]
  obtain ⟨A,hA,hsrc⟩:∃A:Addr,(if cap=j then some (⟨blk,off,none⟩:Addr) else some ⟨blk,off+j*2,none⟩)=some A∧Hid (∀t u,news[t]? =some u→w.drew.cell? (A.add t)=some u):=by
    by_cases h:cap=j
    · refine⟨⟨blk,off,none⟩,by simp[h],fun t u hu=>?_⟩
      have h0:news.length=0:=by rw[hlen];omega
      rw[List.length_eq_zero_iff.1 h0] at hu
      simp at hu
    · refine⟨⟨blk,off+j*2,none⟩,by simp[h],fun t u hu=>?_⟩
      have ht:t< (n-j)*2:=by
        have:=(bj hu).1
        rwa [hlen] at this
      rw[hget t ht] at hu
      rw[Addr.add_lit,hcell]
      exact hu
  have s1:Hid (news.length=(n-j)*2):=hlen
  have s2:Hid (∀u∈news,u.oneCell'=true):=by
    intro u hu
    obtain⟨t,ht⟩:=List.getElem?_of_mem hu
    have hlt:=(bj ht).1
    rw[hlen] at hlt
    rw[hget t hlt,Nat.add_assoc] at ht
    exact hone _ u (by omega) ht
  have s3:Hid (∀t,t<news.length→(w.drew.cell? ⟨blk,off+i*2+t,none⟩).isSome=true∧w.drew.frozen? ⟨blk,off+i*2+t,none⟩=false):=by
    intro t ht
    rw[hlen] at ht
    refine⟨?_,?_⟩
    ·rw[hcell,Array.getElem?_eq_getElem (by omega)];rfl
    · show w.frozen? _=false
      simp[World.frozen?,hC]
  obtain⟨C1,hC1,hC1s,hC1q⟩:=fQ blk e (0,0) news (off+i*2) C w.drew hC (by rw[hlen];omega)
  obtain⟨W1,hW1⟩:∃W1,W1=w.drew.setCells blk (off+i*2) news:=⟨_,rfl⟩
  have hW1h:W1.heap[blk]? =some (.cells C1 e (0,0)):=by rw[hW1,hC1];exact setRow_heap w.drew blk C C1 e (0,0) hC
  obtain⟨C2,hcl0,hC2s,hC2q⟩:=Cs W1 0 blk (off+ (i+ (n-j))*2) (n- (i+ (n-j))) (cap- (i+ (n-j))) e C1 hW1h (by omega) (by omega)
  have hcl:∀ty,(Builtin.clear_ #[32] ty #[.slice (some ⟨blk,off+ (i+ (n-j))*2,none⟩) (n- (i+ (n-j))) (cap- (i+ (n-j)))]).run Tryz.prog W1=.ok (.tuple #[]) (W1.setRow blk C2):=fun ty=>hcl0
  have hW:Hid (W1=w.drew.setCells blk (off+i*2) news):=hW1
  have hfin:Hid (W1.setRow blk C2=w.drew.setRow blk C2∧C2.size=C.size∧∀q,q< (i+ (n-j))*2→C2[off+q]? =if q<i*2 then C[off+q]? else C[off+q+ (j-i)*2]?):=by
    refine⟨by rw[hW1,hC1,setRow_setRow],by omega,fun q hq=>?_⟩
    rw[hC2q _ (by omega),hC1q,hlen]
    by_cases h:q<i*2
    ·rw[if_pos h,if_neg (by omega)]
    · rw[if_neg h,if_pos (by omega),hget _ (by omega)]
      congr 1;omega
  have hic:i≤cap:=by omega
  have hjc:j≤cap:=by omega
  obtain⟨i0,hi0,hz1⟩:∃i0,Tryz.prog.info? 90=some i0∧i0.size=2:=⟨(Tryz.prog.info? 90).getD default,by kernel_rfl,by kernel_rfl⟩
  clear hW1 hW1h hC1 hC1s hC1q hC2s hC2q hcl0 hget hcell hnews hlen hone hC hCl
  have mixed:Tryz.prog.follows Departure.mixedOrders=true:=by kernel_rfl
  go_enter Tryz.func134,Tryz.ntmps134
  go_wp2_with fail
  go_region_law_o (refine step_append_room rfl (.tmp 22) (.tmp 25) 32 rfl 90 i0 2 Tryz.underlying32 hi0 hz1 blk off i cap (by simp[Act.eval,Act.put]) A (n-j) (cap-j) news (by simp[Act.eval,Act.put]) s1.out hsrc.out s2.out (by omega) s3.out ?_;rw[←hW.out])
  go_wp2
  go_ret
  exact⟨rfl,C2,hfin.out⟩
theorem E0 {rows:List AV}(hone:jP (flat rows)=true)(i j:Nat)(hij:i<j)(hj:j≤rows.length):
    aj Tryz.prog 134 [.live 2 rows false] [.own 0 0 rows.length,ah i,ah j] [.dead,.live 2 (rows.take i++rows.drop j) false] (.own 1 0 (i+ (rows.length-j))):=by
  intro w W0 L vs hL hs hr
  obtain⟨v0,v1,v2,rfl⟩:∃v0 v1 v2,vs=[v0,v1,v2]:=by
    have:=hr.1
    match vs,this with
    |[a,b,c],_=>exact⟨a,b,c,rfl⟩
  have h1:=hr.2 1 _ v1 rfl rfl
  have h2:=hr.2 2 _ v2 rfl rfl
  cases h1;cases h2
  have h0:=hr.2 0 _ v0 rfl rfl
  obtain⟨B,hB,hobj⟩:=hs.objs 0 2 rows false rfl
  generalize hn:rows.length=n at h0
  cases h0 with
  |ownNil a1=>omega
  | @own _ _ _ cap e' n' B' a1 av ap a2 a3 a4=>
    rw[hB] at a1;cases a1
    subst hn
    obtain⟨C,e,fz,c1,c2,c3⟩:=hobj.blk av ap
    rw[c2 rfl] at c1
    have hwd:=hobj.width
    have hn':C.size=n':=by simp[World.shape?,c1] at a3;exact a3.2
    rw[hwd,Nat.zero_mul,Nat.add_zero]
    rw[hwd,Nat.zero_add] at a4
    have hfl:=cQ hobj.wide
    have hcell:∀ (q:Nat) (c:AV),(flat rows)[q]? =some c→∃v,C[B.o+q]? =some v∧cD (Wr W0 L (aH [.live 2 rows false])) L w c v:=fun q c hq=>by
      obtain⟨v,k1,k2⟩:=hobj.cell ap q c hq
      exact⟨v,by simpa[World.cell?,c1] using k1,k2⟩
    refine(CY B.b B.o cap rows.length i j C e w c1 (by omega) a2 hij hj (fun q v hq hv=>?_)).mono ?_
    · obtain⟨v',k1,k2⟩:=hcell q _ (bA (by rw[hfl];omega))
      rw[hv] at k1;cases k1
      exact k2.one (List.all_eq_true.1 hone _ (List.getElem_mem _))
    · rintro e2 w' ⟨rfl,C',rfl,hsz,hq⟩
      have hwide:bJ 2 (rows.take i++rows.drop j):=(hobj.wide.sub fun r hr=>List.mem_of_mem_take hr).append (hobj.wide.sub fun r hr=>List.mem_of_mem_drop hr)
      have hlen:(rows.take i++rows.drop j).length=i+ (rows.length-j):=by simp;omega
      have hre:=(hs.drawn (w.drawn+1)).reuse (t:=0) (tn:=1) (off:=0) (rows':=rows.take i++rows.drop j) (C':=C') rfl hB av rfl c1 hsz hwide (by rw[hlen];omega) (fun q c hc=>by
        rw[gZ,lB hobj.wide,k8 hobj.wide,List.getElem?_append,gE,hfl,Nat.min_eq_left (by omega)] at hc
        have hlt:=hq q
        rw[Nat.zero_mul,Nat.add_zero]
        split at hc
        · rename_i hql
          rw[List.getElem?_take,if_pos hql] at hc
          obtain⟨v,k1,k2⟩:=hcell q c hc
          exact⟨v,by rw[hq q (by omega),if_pos hql];exact k1,k2.grow (Grow.drawn _)⟩
        · rename_i hql
          rw[List.getElem?_drop] at hc
          have hin:=(bj hc).1
          rw[hfl] at hin
          obtain⟨v,k1,k2⟩:=hcell _ c hc
          refine⟨v,?_,k2.grow (Grow.drawn _)⟩
          rw[hq q (by omega),if_neg hql,←k1]
          congr 1;omega)
      have hst:(⟨(bare [.live 2 rows false]).slots,br (bare [.live 2 rows false]).mem [(1,.live 2 (rows.take i++rows.drop j) false),(0,.dead)]⟩:aA)=bare [.dead,.live 2 (rows.take i++rows.drop j) false]:=by
        unfold bare
        congr 1
        funext t
        match t with
        |0=>rfl
        |1=>rfl
        |t+2=>simp[br,aH]
      rw[hst] at hre
      refine⟨_,_,rfl,hre,?_⟩
      have:=cD.own (W:=Wr W0 (bz L 1 ⟨B.b,B.o+0*2,2,false,false⟩) (aH [.dead,.live 2 (rows.take i++rows.drop j) false])) (μ:=bz L 1 ⟨B.b,B.o+0*2,2,false,false⟩)
        (w:=w.drew.setRow B.b C') (t:=1) (off:=0) (len:=i+ (rows.length-j)) (cap:=cap) (e:=e) (n:=C.size) (B:=⟨B.b,B.o+0*2,2,false,false⟩) (by simp[bz]) rfl rfl (by omega)
        (by simp[World.shape?,setRow_heap w.drew B.b C C' e (0,0) c1,hsz]) (by simp only[Nat.zero_add];omega)
      simpa using this
end Go.Proofs.Heir
namespace Go.Proofs.Heir
open Go.Am Go.RowKit Go.Lib
set_option maxRecDepth 100000
theorem CC (l:List AttrM)(hl:l.length≤100000)(n v:ByteArray):aj Tryz.prog 59 [] [cV l,bX n,bX v] [] (.tup [cV (cw l n v).1,ah (cw l n v).2]):=by
  have hlm:(l.map dg).length=l.length:=bN ..
  refine aj.aD (rvs:=[.tmp 6,.tmp 7]) G au Tryz.func59 rfl Tryz.ntmps59 rfl rfl ?_;with_reducible refine wD ?_
  refine ae.lit [] (zj l hl n) OO ⟨rfl,rfl,trivial⟩ rfl rfl ?_;with_reducible refine wK ?_
  refine ae.new 201 [] (zG l hl) KS ⟨rfl,trivial⟩ rfl rfl rfl (pV l) rfl ?_;with_reducible refine wK ?_
  refine bq.mk (fun h1=>?_) (fun h1=>?_)<;>(try simp only[az] at h1)<;>with_reducible refine wK ?_
  · have e:cw l n v=(l,gi l n):=by unfold cw;rw[if_neg (by simpa using h1)]
    rw[e]
    (refine eK ?_ ?_<;>with_reducible repeat' (first|exact trivial|(show _∧_;refine aK ?_ ?_)))
    exact gX rfl rfl rfl rfl
  · have h1':gi l n=0:=by simpa using h1
    obtain⟨hr,hn,hs⟩:=o7 h1'
    refine bq.mk (fun h2=>?_) (fun h2=>?_)<;>(try simp only[az] at h2)<;>with_reducible refine wK ?_
    · have e:cw l n v=(l,3):=by unfold cw;rw[if_pos h1',if_neg (by simp only[bE] at h2;omega)]
      rw[e]
      (refine eK ?_ ?_<;>with_reducible repeat' (first|exact trivial|(show _∧_;refine aK ?_ ?_)))
      exact gX rfl rfl rfl rfl
    · have hv:v.size≤200:=by simp only[c9] at h2;omega
      rcases kI l n with h|⟨k,a,h,ha,hnm⟩
      · simp only[h]
        refine bq.no rfl ?_;with_reducible refine wK ?_
        refine bq.mk (fun h3=>?_) (fun h3=>?_)<;>(try simp only[az] at h3)<;>with_reducible refine wK ?_
        · have e:cw l n v=(l,3):=by unfold cw;rw[if_pos h1',if_pos hv,h,if_neg (by decide),if_pos (by simp only[bE] at h3;omega)]
          rw[e]
          (refine eK ?_ ?_<;>with_reducible repeat' (first|exact trivial|(show _∧_;refine aK ?_ ?_)))
          exact gX rfl rfl rfl rfl
        · have e:cw l n v=(l++ [⟨cH n,v⟩],0):=by unfold cw;rw[if_pos h1',if_pos hv,h,if_neg (by decide),if_neg (by simp only[c9] at h3;omega)]
          rw[e]
          simp only[hs]
          refine dZ.mk (l.map dg) [jW ⟨cH n,v⟩] ⟨rfl,hlm.symm,rfl⟩ ⟨rfl,rfl,rfl⟩ rfl (by simp;omega) (by simp;omega) ?_;with_reducible refine wK ?_
          (refine eK ?_ ?_<;>with_reducible repeat' (first|exact trivial|(show _∧_;refine aK ?_ ?_)))
          exact gX rfl rfl (CR l _ v) (by simp)
      · simp only[h]
        refine bq.yes (dG (by(try simp only[az]);omega)) ?_;with_reducible refine wK ?_
        have hk:=(bj ha).1
        have e:cw l n v=(l.set k ⟨cH n,v⟩,0):=by unfold cw;rw[if_pos h1',if_pos hv,h,if_pos (by omega),Int.toNat_natCast]
        rw[e]
        refine eY.mk k rfl hk ?_;with_reducible refine wK ?_
        obtain⟨an,av⟩:=a
        refine bh.mk (jW ⟨an,av⟩) (by rw[Nat.zero_add];exact lC ha) ?_;with_reducible refine wK ?_
        (refine eK ?_ ?_<;>with_reducible repeat' (first|exact trivial|(show _∧_;refine aK ?_ ?_)))
        simp only at hnm
        subst hnm
        exact gX rfl rfl (by rw[Nat.zero_add];exact Ft l k _ v) (by simp)
end Go.Proofs.Heir
namespace Go.Proofs.Heir
open Go.Am Go.RowKit Go.Lib
set_option maxRecDepth 100000
set_option maxHeartbeats 8000000
def zg (l:List AttrM)(k:Nat):List AttrM:=l.take k++l.drop (k+1)
def gh (l:List AttrM)(n:ByteArray):List AttrM×Bool:=if 0≤ck l n then(zg l (ck l n).toNat,true) else(l,false)
theorem wI (l:List AttrM)(k:Nat):(l.map dg).take k++ (l.map dg).drop (k+1)=(zg l k).map dg:=by rw[zg,iR,List.map_take,List.map_drop]
theorem HV {l:List AttrM}{k:Nat}(hk:k<l.length):(zg l k).length=k+ (l.length- (k+1)):=by simp[zg];omega
theorem Mx (l:List AttrM)(hl:l.length≤100000)(n:ByteArray):aj Tryz.prog 68 [] [cV l,bX n] [] (.tup [cV (gh l n).1,bG (gh l n).2]):=by
  have hlm:(l.map dg).length=l.length:=bN ..
  refine aj.aD (rvs:=[.tmp 4,.tmp 5]) G au Tryz.func68 rfl Tryz.ntmps68 rfl rfl ?_;with_reducible refine wD ?_
  refine ae.lit [] (zj l hl n) OO ⟨rfl,rfl,trivial⟩ rfl rfl ?_;with_reducible refine wK ?_
  refine ae.new 181 [] (zG l hl) KS ⟨rfl,trivial⟩ rfl rfl rfl (pV l) rfl ?_;with_reducible refine wK ?_
  rcases kI l n with h|⟨k,a,h,ha,hnm⟩
  · simp only[h]
    refine bq.yes rfl ?_;with_reducible refine wK ?_
    have e:gh l n=(l,false):=by unfold gh;rw[h,if_neg (by decide)]
    rw[e]
    (refine eK ?_ ?_<;>with_reducible repeat' (first|exact trivial|(show _∧_;refine aK ?_ ?_)))
    exact gX rfl rfl rfl rfl
  · simp only[h]
    have hk:=(bj ha).1
    refine bq.no (dy (by(try simp only[az]);omega)) ?_;with_reducible refine wK ?_
    have e:gh l n=(zg l k,true):=by unfold gh;rw[h,if_pos (by omega),Int.toNat_natCast]
    rw[e]
    refine nK ?_;with_reducible refine wK ?_
    refine ae.dx (news:=[.dead,.live 2 ((zg l k).map dg) false]) [181,261] [] (E0 (rows:=l.map dg) (xF l) k (k+1) (by omega) (by omega)) Pk ⟨⟨rfl,hlm⟩,rfl,by show((k+1:Nat):Int)=(k:Int)+1;omega,trivial⟩ ⟨⟨rfl,.inl ⟨rfl,gw l⟩⟩,trivial⟩ rfl ⟨⟨rfl,rfl⟩,rfl⟩ rfl
      ⟨⟨rfl,.inl ⟨(wI l k).symm,by rw[wI];exact gw _⟩⟩,trivial⟩ rfl rfl ?_;with_reducible refine wK ?_
    (refine eK ?_ ?_<;>with_reducible repeat' (first|exact trivial|(show _∧_;refine aK ?_ ?_)))
    exact gX rfl rfl rfl (by rw[HV hk,hlm])
def oL (l:List AttrM)(n:ByteArray)(f:Int):Bool:=decide (0<f)||(decide (f=0)&& !decide (0≤ck l n))
def bI (l:List AttrM)(n:ByteArray)(f:Int):List AttrM×Bool×Int:=
  if gi l n=0 then
    (if oL l n f=decide (0≤ck l n) then(l,decide (0≤ck l n),0)
     else if oL l n f=true then((cw l n kD).1,decide ((cw l n kD).2=0),(cw l n kD).2) else((gh l n).1,false,0))
  else(l,false,gi l n)
theorem CS (l:List AttrM)(hl:l.length≤100000)(n:ByteArray)(f:Int):aj Tryz.prog 95 [] [cV l,bX n,ah f] [] (.tup [cV (bI l n f).1,bG (bI l n f).2.1,ah (bI l n f).2.2]):=by
  have hlm:(l.map dg).length=l.length:=bN ..
  refine aj.aD (rvs:=[.tmp 6,.tmp 7,.tmp 8]) G au Tryz.func95 rfl Tryz.ntmps95 rfl rfl ?_;with_reducible refine wD ?_
  refine ae.lit [] (zj l hl n) OO ⟨rfl,rfl,trivial⟩ rfl rfl ?_;with_reducible refine wK ?_
  obtain⟨P,hP⟩:∃P,decide (0≤ck l n)=P:=⟨_,rfl⟩
  obtain⟨E,hE⟩:∃E,decide (gi l n=0)=E:=⟨_,rfl⟩
  obtain⟨F0,h0⟩:∃F0,decide (0<f)=F0:=⟨_,rfl⟩
  obtain⟨Fz,hz⟩:∃Fz,decide (f=0)=Fz:=⟨_,rfl⟩
  have b1:(!decide (gi l n=0))=!E:=by rw[hE]
  have b2:(!decide (0≤ck l n))=!P:=by rw[hP]
  have b3:(true==decide (0≤ck l n))=P:=by rw[hP];cases P<;>rfl
  have b4:(false==decide (0≤ck l n))=!P:=by rw[hP];cases P<;>rfl
  have b5:((!decide (0≤ck l n))==decide (0≤ck l n))=false:=by rw[hP];cases P<;>rfl
  have hw:oL l n f=(F0||(Fz&& !P)):=by unfold oL;rw[h0,hz,hP]
  have ht:bI l n f=if E=true then(if(F0||(Fz&& !P))=P then(l,P,0) else if(F0||(Fz&& !P))=true then((cw l n kD).1,decide ((cw l n kD).2=0),(cw l n kD).2) else((gh l n).1,false,0)) else(l,false,gi l n):=by
    unfold bI
    rw[hw,hP]
    cases E with
    |true=>rw[if_pos (of_decide_eq_true hE),if_pos rfl]
    |false=>rw[if_neg (of_decide_eq_false hE),if_neg (by decide)]
  rw[ht]
  clear ht hw
  cases E<;>cases P<;>cases F0<;>cases Fz
  all_goals first
    |(exfalso;simp only[bE] at h0 hz;omega)
    |skip
  all_goals (repeat' (first
    |((with_reducible show bq _ _ _ _);first|refine iK ?_|(refine bq.mk (fun _=>?_) (fun _=>?_)<;>with_reducible refine wK ?_))
    |((with_reducible show ae _ _ 123 _ _ _ _);refine ae.new 411 [] (zG l hl) KS ⟨rfl,trivial⟩ rfl rfl rfl (pV l) rfl ?_;with_reducible refine wK ?_)
    |((with_reducible show ae _ _ 59 _ _ _ _);refine ae.val [] (CC l hl n kD) Pr ⟨rfl,rfl,rfl,trivial⟩ rfl rfl rfl ?_;with_reducible refine wK ?_)
    |((with_reducible show ae _ _ 68 _ _ _ _);refine ae.val [] (Mx l hl n) P0 ⟨rfl,rfl,trivial⟩ rfl rfl rfl ?_;with_reducible refine wK ?_)
    |((with_reducible show(_∧_)∧_∧_);(refine eK ?_ ?_<;>with_reducible repeat' (first|exact trivial|(show _∧_;refine aK ?_ ?_))))))
  all_goals first
    |exact gX rfl rfl rfl rfl
    |rfl
    |assumption
    |exact hP.symm
    |exact hP
    |trace_state
end Go.Proofs.Heir
namespace Go.Proofs.Heir
open Go.Am Go.RowKit Go.Lib
set_option maxRecDepth 100000

end Go.Proofs.Heir
namespace Go.Proofs.Heir
open Go.Am Go.RowKit Go.Lib
set_option maxRecDepth 100000
set_option maxHeartbeats 8000000
def yE (a b:AttrM):Bool:=(a.name.toList==b.name.toList)&&(a.value.toList==b.value.toList)
theorem attr_eq (a b:AttrM)(w:World):(Op.equalIn 10000 90 (.agg #[.string a.name,.string a.value]) (.agg #[.string b.name,.string b.value])).run Tryz.prog w=.ok (yE a b) w:=by
  have hS:Tryz.prog.underlying 90=some (.struct (Tryz.prog.fieldsOf 90)):=by kernel_rfl
  have hp:Tryz.prog.stoodInHeld 90=false:=by kernel_rfl
  have u9:=Tryz.underlying9
  have a9:=Tryz.isAgg9
  have z9:=Tryz.sizeOf9
  rw[show(10000:Nat)=9999+1 from rfl,run_equalIn_agg w 9999 90 _ _ hS hp]
  clear hS hp
  simp only[Program.fieldsOf,Tryz.underlying90]
  go_simp
  clear u9 a9 z9
  unfold yE
  by_cases h1:a.name.toList=b.name.toList<;>by_cases h2:a.value.toList=b.value.toList<;>simp[h1,h2]
theorem bytes_inj {a b:ByteArray}(h:a.toList=b.toList):a=b:=by
  rw[ByteArray.toList_eq,ByteArray.toList_eq] at h
  cases a;cases b
  simp only[ByteArray.mk.injEq]
  exact Array.toList_inj.1 h
theorem B4 (a b:AttrM):yE a b=decide (a=b):=by
  rw[Bool.eq_iff_iff,bE]
  unfold yE
  simp only[bO,beq_iff_eq]
  constructor
  · rintro⟨h1,h2⟩
    cases a;cases b
    simp only at*
    rw[bytes_inj h1,bytes_inj h2]
  ·rintro rfl;simp
theorem GP (a b:AttrM)(y z:Operand)(w:World):((do eqGuard .neq 90 y z (.agg #[.string a.name,.string a.value]) (.agg #[.string b.name,.string b.value]);binOp .neq 90 (.agg #[.string a.name,.string a.value]) (.agg #[.string b.name,.string b.value]):Sem Value)).run Tryz.prog w=.ok (.bool (!decide (a=b))) w:=by
  rw[Sem.run_bind,run_eqGuard_agg w .neq 90 y z _ _ (by kernel_rfl),Result.andThen_ok,run_neq_struct,attr_eq,B4];rfl
theorem KE (x y:List AttrM)(hx:x.length≤100000):aj Tryz.prog 146 [] [cV x,cV y] [] (bG (decide (x=y))):=by
  have hlx:(x.map dg).length=x.length:=bN ..
  have hly:(y.map dg).length=y.length:=bN ..
  refine aj.aD (rvs:=[.tmp 4]) G au Tryz.func146 rfl Tryz.ntmps146 rfl rfl ?_;with_reducible refine wD ?_
  refine bq.mk (fun h0=>?_) (fun h0=>?_)<;>(try simp only[az] at h0)<;>with_reducible refine wK ?_
  · (refine eK ?_ ?_<;>with_reducible repeat' (first|exact trivial|(show _∧_;refine aK ?_ ?_)))
    have:x≠y:=by
      rintro rfl
      simp at h0
    exact dy this
  · have hxy:x.length=y.length:=by simp only[hlx,hly,Bool.not_eq_false',bE] at h0;omega
    refine bW.use G au (fun(k:Nat)=>[(0,cV x),(1,cV y),(5,ah k)]) (fun _=>[]) (fun k=>k≤x.length∧∀ (j:Nat),j<k→x[j]? =y[j]?) (fun k=>x.length-k) 0 ⟨Nat.zero_le _,fun j h=>by omega⟩
      ⟨⟨rfl,rfl⟩,⟨rfl,rfl,rfl,trivial⟩,trivial⟩ ?_
    rintro k ⟨hk,hok⟩
    with_reducible refine wK ?_
    refine bq.mk (fun h1=>?_) (fun h1=>?_)<;>(try simp only[az] at h1)<;>with_reducible refine wK ?_
    · simp only[bE] at h1
      have hk':k<x.length:=by omega
      obtain⟨⟨an,av⟩,ha⟩:∃a,x[k]? =some a:=⟨_,bA hk'⟩
      obtain⟨⟨bn,bv⟩,hb⟩:∃a,y[k]? =some a:=⟨_,bA (by omega)⟩
      refine aN.mk k (jW ⟨an,av⟩) rfl (lC ha) ?_;with_reducible refine wK ?_
      refine aN.mk k (jW ⟨bn,bv⟩) rfl (lC hb) ?_;with_reducible refine wK ?_
      refine Hu.mk _ (fun y z w=>GP ⟨an,av⟩ ⟨bn,bv⟩ y z w) ?_;with_reducible refine wK ?_
      refine dK ?_;with_reducible refine wK ?_
      refine bq.mk (fun h2=>?_) (fun h2=>?_)<;>(try simp only[az] at h2)<;>with_reducible refine wK ?_
      · (refine eK ?_ ?_<;>with_reducible repeat' (first|exact trivial|(show _∧_;refine aK ?_ ?_)))
        have:x≠y:=by
          rintro rfl
          rw[ha] at hb;cases hb
          simp at h2
        exact dy this
      · have he:(⟨an,av⟩:AttrM)=⟨bn,bv⟩:=by simpa using h2
        refine nK ?_;with_reducible refine wK ?_
        refine bZ.mk (k+1) ⟨by omega,fun j hj=>?_⟩ (by omega) ⟨⟨rfl,rfl⟩,⟨rfl,rfl,by show((k+1:Nat):Int)=(k:Int)+1;omega,trivial⟩,trivial⟩
        rcases Nat.lt_or_ge j k with h6|h6
        ·exact hok j h6
        · have:j=k:=by omega
          subst this
          rw[ha,hb,he]
    · (refine eK ?_ ?_<;>with_reducible repeat' (first|exact trivial|(show _∧_;refine aK ?_ ?_)))
      have hk2:k=x.length:=by simp only[hlx,c9] at h1;omega
      refine dG (List.ext_getElem? fun j=>?_)
      rcases Nat.lt_or_ge j x.length with h6|h6
      ·exact hok j (by omega)
      ·rw[oF h6,oF (by omega)]



end Go.Proofs.Heir
namespace Go.Proofs.Heir
open Go Go.Am Go.RowKit Go.Lib
set_option maxRecDepth 100000
theorem qg {l:List AttrM}(h:dH l=true):(l.map AttrM.name).Nodup:=by
  unfold dH at h;simp only[bO,bE] at h;exact h.2
theorem Cp {l:List AttrM}{n:ByteArray}(h:∀a∈l,a.name≠n):wu l n=-1:=
  jF fun j x hx=>by unfold hasName;exact dy (h x (bV hx))
theorem qG {l:List AttrM}(hn:(l.map AttrM.name).Nodup){i:Nat}{a:AttrM}(h:l[i]? =some a):wu l a.name=i:=(Fq l).1 hn i a h
theorem sP (l:List AttrM)(n:ByteArray):(wu l n=-1∧∀a∈l,a.name≠n)∨∃ (k:Nat) (a:AttrM),wu l n=k∧l[k]? =some a∧a.name=n:=by
  by_cases hx:∃b∈l,b.name=n
  · right
    rcases uU (hasName n) l with h|⟨k,a,h1,h2,h3⟩
    · obtain⟨b,hb,e⟩:=hx
      exfalso
      unfold gq at h
      cases hf:l.findIdx? (hasName n) with
      |some i=>rw[hf] at h;simp only at h;omega
      | none=>
        rw[List.findIdx?_eq_none_iff] at hf
        have:=hf b hb
        unfold hasName at this;simp[e] at this
    ·exact⟨k,a,h1,h2,by unfold hasName at h3;simpa using h3⟩
  · have h:∀a∈l,a.name≠n:=fun a ha e=>hx ⟨a,ha,e⟩
    exact .inl ⟨Cp h,h⟩
theorem Dw {n v:ByteArray}(hn:cj n=true)(hv:v.size≤200):Kr ⟨cH n,v⟩=true:=by
  unfold Kr;simp only[BS,hn,Gh,hv,decide_true,Bool.and_self]
theorem xD {l:List AttrM}(h1:l.length≤40)(h2:∀a∈l,Kr a=true)(h3:(l.map AttrM.name).Nodup):dH l=true:=by
  unfold dH
  rw[dG h1,dG h3,List.all_eq_true.2 h2];rfl
theorem vl {l:List AttrM}(h:dH l=true):l.length≤40∧(∀a∈l,Kr a=true)∧(l.map AttrM.name).Nodup:=by
  unfold dH at h;simp only[bO,bE,List.all_eq_true] at h;exact⟨h.1.1,h.1.2,h.2⟩
theorem EK {l:List AttrM}(hn:(l.map AttrM.name).Nodup){i j:Nat}{a b:AttrM}(ha:l[i]? =some a)(hb:l[j]? =some b)(e:a.name=b.name):i=j:=by
  have h1:=qG hn ha
  have h2:=qG hn hb
  rw[e] at h1;omega
theorem tJ {l:List AttrM}{k:Nat}(hk:k<l.length)(x:AttrM)(i:Nat):(l.set k x)[i]? =if i=k then some x else l[i]? :=by
  by_cases h:i=k
  ·subst h;simp[hk]
  ·rw[if_neg h,List.getElem?_set_ne (by omega)]
theorem sN {l:List AttrM}{k:Nat}{o:AttrM}(hn:(l.map AttrM.name).Nodup)(hk:l[k]? =some o)(v:ByteArray)(a:AttrM):a∈l.set k ⟨o.name,v⟩↔a=⟨o.name,v⟩∨(a∈l∧a.name≠o.name):=by
  have hkl:=(bj hk).1
  constructor
  · intro h
    obtain⟨i,hi⟩:=List.getElem?_of_mem h
    rw[tJ hkl] at hi
    split at hi
    ·exact .inl (Option.some.inj hi).symm
    · rename_i hne
      exact .inr ⟨bV hi,fun e=>hne (EK hn hi hk e)⟩
  · rintro(rfl|⟨h1,h2⟩)
    ·exact bV (i:=k) (by rw[tJ hkl,if_pos rfl])
    · obtain⟨i,hi⟩:=List.getElem?_of_mem h1
      refine bV (i:=i) ?_
      rw[tJ hkl,if_neg,hi]
      rintro rfl
      rw[hi] at hk;cases hk;exact h2 rfl
theorem Fj {l:List AttrM}{k:Nat}{o:AttrM}(hk:l[k]? =some o)(v:ByteArray):(l.set k ⟨o.name,v⟩).map AttrM.name=l.map AttrM.name:=by
  apply List.ext_getElem?
  intro i
  have hkl:=(bj hk).1
  rw[fI,fI,tJ hkl]
  split
  ·rename_i h;subst h;rw[hk];rfl
  ·rfl
structure Oo (l:List AttrM) (n v:ByteArray) (m:List AttrM):Prop where
  right:dH m=true
  name:cj n=true
  value:v.size≤200
  mem:∀a,a∈m↔a=⟨cH n,v⟩∨(a∈l∧a.name≠cH n)
theorem kH {l:List AttrM}{n:ByteArray}(hr:dH l=true)(hn:cj n=true):gi l n=0:=by
  unfold gi;rw[if_pos hr,if_pos hn]
theorem pz {l:List AttrM}{n v:ByteArray}(h:(cw l n v).2=0):dH l=true∧Oo l n v (cw l n v).1:=by
  unfold cw at h ⊢
  split at h
  · rename_i hE
    obtain⟨h1,h2,_⟩:=o7 hE
    obtain⟨r1,r2,r3⟩:=vl h1
    refine⟨h1,?_⟩
    rw[if_pos hE]
    split at h
    · rename_i hv
      rw[if_pos hv]
      split at h
      · rename_i hP
        rw[if_pos hP]
        rw[og h1 h2] at hP ⊢
        rcases sP l (cH n) with⟨e,_⟩|⟨k,o,e1,e2,e3⟩
        ·omega
        · rw[e1,Int.toNat_natCast]
          rw[←e3]
          refine⟨xD (by simpa using r1) (fun a ha=>?_) (by rw[Fj e2];exact r3),h2,hv,fun a=>by rw[e3,←e3];exact sN r3 e2 v a⟩
          rcases(sN r3 e2 v a).1 ha with rfl|⟨ha,_⟩
          ·rw[e3];exact Dw h2 hv
          ·exact r2 a ha
      · rename_i hP
        rw[if_neg hP]
        split at h
        ·cases h
        · rename_i hl
          rw[if_neg hl]
          rw[og h1 h2] at hP
          have hno:∀a∈l,a.name≠cH n:=by
            rcases sP l (cH n) with⟨_,e⟩|⟨k,o,e1,_,_⟩
            ·exact e
            ·omega
          refine⟨xD (by simp;omega) (fun a ha=>?_) ?_,h2,hv,fun a=>?_⟩
          · rcases List.mem_append.1 ha with ha|ha
            ·exact r2 a ha
            ·simp at ha;subst ha;exact Dw h2 hv
          · rw[iR,List.nodup_append]
            refine⟨r3,by simp,fun x hx y hy=>?_⟩
            simp at hy;subst hy
            obtain⟨a,ha,rfl⟩:=List.mem_map.1 hx
            exact hno a ha
          · rw [List.mem_append]
            constructor
            · rintro(h|h)
              ·exact .inr ⟨h,hno a h⟩
              ·simp at h;exact .inl h
            · rintro(h|h)
              ·right;simp[h]
              ·exact .inl h.1
    ·cases h
  ·exact absurd h (by assumption)
theorem JG {l:List AttrM}{n v:ByteArray}(hr:dH l=true)(hn:cj n=true)(h:(⟨cH n,v⟩:AttrM)∈l):rq l n=v∧0≤ck l n:=by
  obtain⟨i,hi⟩:=List.getElem?_of_mem h
  have h1:=qG (qg hr) hi
  have h1:wu l (cH n)=i:=h1
  unfold rq
  rw[og hr hn,h1]
  exact⟨by rw[if_pos (by omega),Int.toNat_natCast,hi];rfl,by omega⟩
theorem Ap (l:List AttrM)(n v:ByteArray):(cw l n v).1.length≤l.length+1:=by
  unfold cw;repeat' split
  all_goals simp
theorem AM (l:List AttrM)(n:ByteArray):(gh l n).1.length≤l.length:=by
  unfold gh;split
  ·simp[zg];omega
  ·simp
theorem AI (l:List AttrM)(n:ByteArray)(f:Int):(bI l n f).1.length≤l.length+1:=by
  have h1:=Ap l n kD
  have h2:=AM l n
  unfold bI;repeat' split
  all_goals (try dsimp only)
  all_goals omega
end Go.Proofs.Heir
namespace Go.Proofs.Heir
open Go Go.Am Go.RowKit Go.Lib
set_option maxRecDepth 100000
set_option maxHeartbeats 8000000
set_option maxHeartbeats 8000000
def lR (old new:List AttrM)(n:Int)(s:ByteArray):List aQ:=if 0≤ck old s∨0≤ck new s then[⟨4,n,0,0,cH s,decide (0≤ck old s),decide (0≤ck new s),rq old s,rq new s⟩] else[]
def gP (f:ForM)(n:Int)(s:ByteArray)(l:List AttrM):ForM×List aQ×Int:=(⟨gM f.nodes n l,f.most⟩,lR (nd f.nodes n).attrs l n s,0)
def jr (f:ForM)(n:Int):Int:=if(bw f&&af f.nodes n)=true then(if(nd f.nodes n).kind=1 then 0 else 5) else 1
def gJ (f:ForM)(n:Int)(s v:ByteArray):ForM×List aQ×Int:=if jr f n≠0 then(f,[],jr f n) else if(cw (nd f.nodes n).attrs s v).2≠0 then(f,[],(cw (nd f.nodes n).attrs s v).2) else gP f n s (cw (nd f.nodes n).attrs s v).1
def dn (f:ForM)(n:Int)(s:ByteArray)(c:Int):ForM×List aQ×Int:=if jr f n≠0 then(f,[],jr f n) else if(bI (nd f.nodes n).attrs s c).2.2≠0 then(f,[],(bI (nd f.nodes n).attrs s c).2.2) else if decide (0≤ck (nd f.nodes n).attrs s)=(bI (nd f.nodes n).attrs s c).2.1 then(f,[],0) else gP f n s (bI (nd f.nodes n).attrs s c).1
section
variable {l l' : List ai} {m : Int}
theorem RF.attrs (R:RF l m){n:Int}(hn:af l n=true)(hk:(nd l n).kind=1):dH (nd l n).attrs=true:=by
  have h:=R.Je n hn
  unfold gg at h
  rw[if_pos hk] at h
  simp only[bO] at h
  exact h.2
theorem RF.none (R:RF l m){n:Int}(hn:af l n=true)(hk:(nd l n).kind≠1):(nd l n).attrs=[]∧(nd l n).name=⟨#[]⟩:=by
  rcases BF R.Nx hn with h|h
  ·exact absurd h hk
  ·exact⟨h.2.2,h.2.1⟩
theorem fm (R:RF l m)(h:l.length≤60):bC l:=by
  have key:∀x∈l,x.kids.length≤60∧x.attrs.length≤60∧x.name.size≤300:=fun x hx=>by
    obtain⟨i,hi⟩:=List.getElem?_of_mem hx
    have hn:=eH hi
    have he:=cF hi
    have hk:=qm (n:=l.length) (R.dup i hn) (fun c hc=>bf (R.kid i hn c hc).1)
    rw[he] at hk
    refine⟨by omega,?_⟩
    by_cases e:x.kind=1
    · have ha:=R.attrs hn (by rw[he];exact e)
      rw[he] at ha
      have h1:=(vl ha).1
      refine⟨by omega,?_⟩
      have hN:=R.Je i hn
      rw[he] at hN
      unfold gg at hN
      rw[if_pos e] at hN
      simp only[bO] at hN
      have h2:=hN.1.1.1.1
      unfold cj qb at h2
      simp only[bO,bE] at h2
      have:x.name.size=x.name.data.toList.length:=by rw[Array.length_toList];rfl
      omega
    · have:=R.none hn (by rw[he];exact e)
      rw[he] at this
      rw[this.1,this.2]
      exact⟨by simp,by decide⟩
  exact⟨by omega,fun x hx=>(key x hx).1,fun x hx=>(key x hx).2.1,fun x hx=>(key x hx).2.2⟩
theorem elem_iff (R:RF l m){n:Int}(hn:af l n=true):jr ⟨l,m⟩ n=if(nd l n).kind=1 then 0 else 5:=by
  unfold jr
  rw[if_pos (by rw[dI.2 R,hn];rfl)]
theorem r8 (R:RF l m){n:Int}(hn:af l n=true){s v:ByteArray}(he:(gJ ⟨l,m⟩ n s v).2.2=0):(nd l n).kind=1∧(cw (nd l n).attrs s v).2=0∧gJ ⟨l,m⟩ n s v=gP ⟨l,m⟩ n s (cw (nd l n).attrs s v).1∧dH (cw (nd l n).attrs s v).1=true:=by
  unfold gJ at he ⊢
  rw[elem_iff R hn] at he ⊢
  by_cases hk:(nd l n).kind=1
  · rw [if_pos hk] at he ⊢
    rw[if_neg (fun q=>q rfl)] at he ⊢
    show(nd l n).kind=1∧_
    by_cases h0:(cw (nd l n).attrs s v).2=0
    · rw[if_neg (fun q=>q h0)]
      exact⟨hk,h0,rfl,(pz h0).2.right⟩
    ·rw[if_pos h0] at he;exact absurd he h0
  · rw[if_neg hk,if_pos (by decide)] at he
    cases he
theorem HI (R:RF l m){n:Int}(hn:af l n=true){s v:ByteArray}(he:(gJ ⟨l,m⟩ n s v).2.2≠0):gJ ⟨l,m⟩ n s v=(⟨l,m⟩,[],(gJ ⟨l,m⟩ n s v).2.2):=by
  unfold gJ at he ⊢
  rw[elem_iff R hn] at he ⊢
  by_cases hk:(nd l n).kind=1
  · rw[if_pos hk] at he ⊢
    rw[if_neg (fun q=>q rfl)] at he ⊢
    by_cases h0:(cw (nd l n).attrs s v).2=0
    ·rw[if_neg (fun q=>q h0)] at he;exact absurd rfl he
    ·rw[if_pos h0]
  ·rw[if_neg hk,if_pos (by decide)]
end
theorem yM {l:List AttrM}{n:ByteArray}(hr:dH l=true)(hn:cj n=true){k:Nat}{a:AttrM}(h:l[k]? =some a)(e:a.name=cH n):ck l n=k:=by
  rw[og hr hn,←e];exact qG (qg hr) h
theorem GN {l:List AttrM}{k:Nat}{a:AttrM}(h:l[k]? =some a):l.set k a=l:=by
  apply List.ext_getElem?
  intro n
  rw[List.getElem?_set]
  split
  · rename_i e
    subst e
    rw[if_pos (bj h).1,h]
  ·rfl
theorem lP {l:List AttrM}{n v:ByteArray}(h:(cw l n v).2=0):(dH l=true∧cj n=true∧v.size≤200)∧((∃ (k:Nat) (o:AttrM),ck l n=k∧l[k]? =some o∧o.name=cH n∧(cw l n v).1=l.set k ⟨cH n,v⟩)∨(¬0≤ck l n∧l.length≠40∧(cw l n v).1=l++ [⟨cH n,v⟩])):=by
  unfold cw at h ⊢
  by_cases hE:gi l n=0
  · obtain⟨h1,h2,_⟩:=o7 hE
    rw[if_pos hE] at h ⊢
    by_cases hv:v.size≤200
    · rw [if_pos hv] at h ⊢
      refine⟨⟨h1,h2,hv⟩,?_⟩
      by_cases hP:0≤ck l n
      · rw[if_pos hP]
        rcases kI l n with e|⟨k,o,e1,e2,e3⟩
        ·omega
        ·exact .inl ⟨k,o,e1,e2,e3,by rw[e1,Int.toNat_natCast]⟩
      · rw[if_neg hP] at h ⊢
        by_cases hl:l.length=40
        ·rw[if_pos hl] at h;cases h
        ·rw[if_neg hl];exact .inr ⟨hP,hl,rfl⟩
    ·rw[if_neg hv] at h;cases h
  ·rw[if_neg hE] at h;exact absurd h hE
theorem HY {l:List AttrM}{n v:ByteArray}(h:(cw l n v).2=0):∃k:Nat,(cw l n v).1[k]? =some ⟨cH n,v⟩:=by
  rcases(lP h).2 with⟨k,o,_,h2,_,h4⟩|⟨_,_,h4⟩
  · have:=(bj h2).1
    exact⟨k,by rw[h4,List.getElem?_set,if_pos rfl,if_pos this]⟩
  ·exact⟨l.length,by rw[h4,List.getElem?_append_right (Nat.le_refl _),Nat.sub_self];rfl⟩
theorem ED {l:List AttrM}{n v:ByteArray}(h:(cw l n v).2=0):cw (cw l n v).1 n v=((cw l n v).1,0):=by
  obtain⟨⟨_,h2,h3⟩,_⟩:=lP h
  have hr:=(pz h).2.right
  obtain⟨k,hk⟩:=HY h
  have hf:=yM hr h2 hk rfl
  generalize(cw l n v).1=m at*
  unfold cw
  rw[if_pos (kH hr h2),if_pos h3,if_pos (by omega),hf,Int.toNat_natCast,GN hk]
theorem wY {l:List AttrM}{n v:ByteArray}(h:(cw l n v).2=0)(hm:¬0≤ck l n):bI l n 0=(l++ [⟨cH n,kD⟩],true,0)∧(cw l n kD).2=0∧(cw l n kD).1=l++ [⟨cH n,kD⟩]:=by
  obtain⟨⟨h1,h2,_⟩,h4⟩:=lP h
  have hl:l.length≠40:=by
    rcases h4 with⟨k,_,e,_⟩|⟨_,e,_⟩
    ·omega
    ·exact e
  have hs:cw l n kD=(l++ [⟨cH n,kD⟩],0):=by
    unfold cw
    rw[if_pos (kH h1 h2),if_pos (show kD.size≤200 by decide),if_neg hm,if_neg hl]
  refine⟨?_,by rw[hs],by rw[hs]⟩
  have hw:oL l n 0=true:=by
    unfold oL
    rw[dy hm];rfl
  unfold bI
  rw[if_pos (kH h1 h2),hw,dy hm,if_neg (by simp),if_pos rfl,hs]
  rfl
theorem Cn {l:List AttrM}{n:ByteArray}(h:(cw l n kD).2=0)(e:(cw l n kD).1=l++ [⟨cH n,kD⟩]):bI (l++ [⟨cH n,kD⟩]) n 0=(l,false,0)∧ck (l++ [⟨cH n,kD⟩]) n=l.length∧(gh (l++ [⟨cH n,kD⟩]) n).1=l:=by
  obtain⟨⟨_,h2,_⟩,_⟩:=lP h
  have hr:=(pz h).2.right
  rw[e] at hr
  have hk:(l++ [(⟨cH n,kD⟩:AttrM)])[l.length]? =some ⟨cH n,kD⟩:=by rw[List.getElem?_append_right (Nat.le_refl _),Nat.sub_self];rfl
  have hf:=yM hr h2 hk rfl
  have hrm:(gh (l++ [(⟨cH n,kD⟩:AttrM)]) n).1=l:=by
    unfold gh zg
    rw[hf,if_pos (by omega),Int.toNat_natCast,List.take_append_of_le_length (Nat.le_refl _),List.take_length,List.drop_eq_nil_of_le (by simp),List.append_nil]
  refine⟨?_,hf,hrm⟩
  have hw:oL (l++ [(⟨cH n,kD⟩:AttrM)]) n 0=false:=by
    unfold oL
    rw[hf,dG (show(0:Int)≤ (l.length:Int) by omega)];rfl
  unfold bI
  rw[if_pos (kH hr h2),hw,hf,dG (show(0:Int)≤ (l.length:Int) by omega),if_neg (by simp),if_neg (by simp),hrm]
section
variable {l l' : List ai} {m : Int}
theorem Ej {n:Int}(hn:af l n=true)(xs ys:List AttrM):gM (gM l n xs) n ys=gM l n ys:=by
  have T:=aY (eZ l n xs)
  refine oz (by rw[eZ,eZ,eZ]) fun x hx=>?_
  have hx0:af l x=true:=by rw[aY (eZ l n ys)] at hx;exact hx
  rw[pQ (by rw[T];exact hn) (by rw[T];exact hx0),pQ hn hx0,pQ hn hx0]
  by_cases e:x=n
  ·rw[if_pos e,if_pos e,if_pos e]
  ·rw[if_neg e,if_neg e,if_neg e]
theorem Gj {n:Int}(hn:af l n=true):gM l n (nd l n).attrs=l:=by
  refine oz (eZ ..) fun x hx=>?_
  rw[pQ hn hx]
  by_cases e:x=n
  ·rw[if_pos e,e]
  ·rw[if_neg e]
theorem s5 {n:Int}{xs:List AttrM}(hn:af l n=true):(nd (gM l n xs) n).attrs=xs:=by rw[pQ hn hn,if_pos rfl]
theorem FA (R:RF l m){n:Int}(hn:af l n=true){s v:ByteArray}(he:(gJ ⟨l,m⟩ n s v).2.2=0):
    (gJ ⟨l,m⟩ n s v).2.1=[⟨4,n,0,0,cH s,decide (0≤ck (nd l n).attrs s),true,rq (nd l n).attrs s,v⟩]∧gJ (gJ ⟨l,m⟩ n s v).1 n s v=((gJ ⟨l,m⟩ n s v).1,[⟨4,n,0,0,cH s,true,true,v,v⟩],0):=by
  obtain⟨hk,h0,h1,h2⟩:=r8 R hn he
  obtain⟨_,S⟩:=pz h0
  have hg:=JG h2 S.name ((S.mem _).2 (.inl rfl))
  have T:=aY (eZ l n (cw (nd l n).attrs s v).1)
  have hn1:af (gM l n (cw (nd l n).attrs s v).1) n=true:=by rw[T];exact hn
  have R1:=n8 R hn hk h2
  have ha:=s5 (xs:=(cw (nd l n).attrs s v).1) hn
  have hk1:(nd (gM l n (cw (nd l n).attrs s v).1) n).kind=1:=by rw[(uY hn n hn).1.kind];exact hk
  have ht:=ED h0
  rw[h1]
  constructor
  · show lR (nd l n).attrs (cw (nd l n).attrs s v).1 n s=_
    unfold lR
    rw[if_pos (.inr hg.2),hg.1,dG hg.2]
  · have e2:(gP ⟨l,m⟩ n s (cw (nd l n).attrs s v).1).1=⟨gM l n (cw (nd l n).attrs s v).1,m⟩:=rfl
    rw[e2]
    unfold gJ
    rw[elem_iff R1 hn1,if_pos hk1,if_neg (fun q=>q rfl)]
    dsimp only
    rw[ha,ht,if_neg (fun q=>q rfl)]
    unfold gP
    dsimp only
    rw[Ej hn,ha]
    unfold lR
    rw[if_pos (.inl hg.2),hg.1,dG hg.2]
theorem zl (R:RF l m){n:Int}(hn:af l n=true){s v:ByteArray}(he:(gJ ⟨l,m⟩ n s v).2.2=0)(hm:¬0≤ck (nd l n).attrs s):
    (dn ⟨l,m⟩ n s 0).2.2=0∧∃x,dn (dn ⟨l,m⟩ n s 0).1 n s 0=(⟨l,m⟩,[x],0)∧x.has=false:=by
  obtain⟨hk,h0,_,_⟩:=r8 R hn he
  obtain⟨t1,t2,t3⟩:=wY h0 hm
  obtain⟨u1,u2,u3⟩:=Cn t2 t3
  have hr:=(pz t2).2.right
  rw[t3] at hr
  have T:=aY (eZ l n ((nd l n).attrs++ [⟨cH s,kD⟩]))
  have hn1:af (gM l n ((nd l n).attrs++ [⟨cH s,kD⟩])) n=true:=by rw[T];exact hn
  have R1:=n8 R hn hk hr
  have ha:=s5 (xs:=(nd l n).attrs++ [⟨cH s,kD⟩]) hn
  have hk1:(nd (gM l n ((nd l n).attrs++ [⟨cH s,kD⟩])) n).kind=1:=by rw[(uY hn n hn).1.kind];exact hk
  have e1:dn ⟨l,m⟩ n s 0=gP ⟨l,m⟩ n s ((nd l n).attrs++ [⟨cH s,kD⟩]):=by
    unfold dn
    rw[elem_iff R hn,if_pos hk,if_neg (fun q=>q rfl)]
    dsimp only
    rw[t1]
    dsimp only
    rw[if_neg (show ¬ (0:Int)≠0 from fun q=>q rfl),dy hm,if_neg (show ¬false=true by decide)]
  rw[e1]
  refine⟨rfl,⟨4,n,0,0,cH s,true,false,rq ((nd l n).attrs++ [⟨cH s,kD⟩]) s,rq (nd l n).attrs s⟩,?_,rfl⟩
  have e2:(gP ⟨l,m⟩ n s ((nd l n).attrs++ [⟨cH s,kD⟩])).1=⟨gM l n ((nd l n).attrs++ [⟨cH s,kD⟩]),m⟩:=rfl
  rw[e2]
  unfold dn
  rw[elem_iff R1 hn1,if_pos hk1,if_neg (fun q=>q rfl)]
  dsimp only
  have hp:(0:Int)≤ck ((nd l n).attrs++ [⟨cH s,kD⟩]) s:=by rw[u2];omega
  rw[ha,u1]
  dsimp only
  rw[if_neg (show ¬ (0:Int)≠0 from fun q=>q rfl),dG hp,if_neg (show ¬true=false by decide)]
  unfold gP
  dsimp only
  rw[Ej hn,Gj hn,ha]
  unfold lR
  rw[if_pos (.inl hp),dG hp,dy hm]
end
end Go.Proofs.Heir
namespace Go.Proofs.Heir
open Go Go.Am Go.RowKit Go.Lib
set_option maxRecDepth 100000
set_option maxHeartbeats 8000000
set_option maxHeartbeats 2000000
section
variable {l l' : List ai} {m : Int}
end
def ID (l:List AttrM)(s:ByteArray):ByteArray×Bool:=match l.find? (hasName s) with
  |some a=>(a.value,true)
  |none=>(kD,false)
def jT (n:Int)(s:ByteArray)(t:ByteArray×Bool)(x:aQ):Option (ByteArray×Bool):=
  if x.node=n∧x.kind=4∧x.name=s then(if x.old≠t.1∨x.had≠t.2∨(x.had=false∧x.has=false)∨(x.has=false∧x.new≠kD) then none else some (x.new,x.has)) else some t
def ep (n:Int)(s:ByteArray):ByteArray×Bool→List aQ→Option (ByteArray×Bool)
  |t,[]=>some t
  | t,x::r=>match jT n s t x with
    |none=>none
    |some u=>ep n s u r
theorem mJ (n:Int)(s:ByteArray):∀ (a b:List aQ) (t:ByteArray×Bool),ep n s t (a++b)=match ep n s t a with
    |none=>none
    |some u=>ep n s u b
  |[],b,t=>rfl
  | x::a,b,t=>by
    show(match jT n s t x with|none=>none|some u=>ep n s u (a++b))=match(match jT n s t x with|none=>none|some u=>ep n s u a) with|none=>none|some u=>ep n s u b
    cases jT n s t x with
    |none=>rfl
    |some u=>exact mJ n s a b u
theorem uL {n:Int}{s:ByteArray}{t:ByteArray×Bool}:∀ {ns:List aQ},(∀x∈ns,x.kind≠4)→ep n s t ns=some t
  |[],_=>rfl
  | x ::r,h=>by
    have e:jT n s t x=some t:=by
      unfold jT
      rw[if_neg fun q=>h x eS q.2.1]
    show(match jT n s t x with|none=>none|some u=>ep n s u r)=_
    rw[e]
    exact uL fun y hy=>h y (dQ _ hy)
section
variable {l l' : List ai} {m : Int}
end
structure Ce (f:ForM) (r:ForM×List aQ×Int):Prop where
  right:bw r.1=true
  len:r.1.nodes.length=f.nodes.length
  fail:r.2.2≠0→r.1=f∧r.2.1=[]
  told:Told f.nodes r.1.nodes r.2.1
  kind:∀x,af f.nodes x=true→(nd r.1.nodes x).kind=(nd f.nodes x).kind
  chain:∀n,af f.nodes n=true→∀t,cj t=true→cH t=t→ep n t (ID (nd f.nodes n).attrs t) r.2.1=some (ID (nd r.1.nodes n).attrs t)
theorem Ce.nil {f:ForM}(h:bw f=true)(e:Int):Ce f (f,[],e):=⟨h,rfl,fun _=>⟨rfl,rfl⟩,.nil _,fun _ _=>rfl,fun _ _ _ _ _=>rfl⟩
section
variable {l : List ai} {m : Int}
theorem Ce.move (R:RF l m){l':List ai}{ns:List aQ}(R':RF l' m)(hl:l'.length=l.length)(hs:∀x,af l x=true→iB (nd l' x) (nd l x))(ht:Told l l' ns)(hn:vX ns):Ce ⟨l,m⟩ (⟨l',m⟩,ns,0):=
  ⟨dI.2 R',hl,fun h=>absurd rfl h,ht,fun x hx=>(hs x hx).kind,fun n hn2 t _ _=>by
    rw[uL hn]
    show some _=some (ID (nd l' n).attrs t)
    rw[(hs n hn2).attrs]⟩
end
@[reducible] def eo (y : ai) (t : Nat) : AV := .agg [ah y.kind, bX y.name, bX y.is, bX y.data, cV y.attrs, ah y.parent, .own t 0 y.kids.length, ah y.host, ah y.under, ah y.doc]
def dV (y:ai)(t:Nat):AV:=eo y t
def ef (a ta b tb i:Nat)(y:ai):AV:=if i=a then dV y ta else if i=b then dV y tb else bM y
def aT (l:List ai)(a ta b tb:Nat):List AV:=l.mapIdx fun i y=>ef a ta b tb i y
@[reducible] def aU (l : List ai) (a ta b tb : Nat) : MS := .live 10 (aT l a ta b tb) false
section
variable {l : List ai} {a ta b tb i : Nat} {y : ai}
theorem bU:(aT l a ta b tb).length=l.length:=List.length_mapIdx ..
theorem cT (h:l[i]? =some y):(aT l a ta b tb)[i]? =some (ef a ta b tb i y):=by
  unfold aT
  rw[List.getElem?_mapIdx,h];rfl
theorem rF (y:ai)(h:i<l.length):(aT l a ta b tb).set i (ef a ta b tb i y)=aT (l.set i y) a ta b tb:=by
  apply List.ext_getElem?
  intro j
  unfold aT
  rw[List.getElem?_set,List.getElem?_mapIdx,List.getElem?_mapIdx,List.getElem?_set,List.length_mapIdx]
  by_cases e:i=j
  · subst e
    rw[if_pos rfl,if_pos rfl,if_pos h,if_pos h];rfl
  ·rw[if_neg e,if_neg e]
theorem dF (ha:i≠a)(hb:i≠b):ef a ta b tb i y=aL y:=by unfold ef;rw[if_neg ha,if_neg hb];rfl
theorem Hp:ef a ta b tb a y=eo y ta:=by unfold ef;rw[if_pos rfl];rfl
theorem G6 (h:b≠a):ef a ta b tb b y=eo y tb:=by unfold ef;rw[if_neg h,if_pos rfl];rfl
theorem C8:(cells (ef a ta b tb i y)).length=10:=by
  unfold ef
  split
  ·rfl
  ·split<;>rfl
theorem mj:bJ 10 (aT l a ta b tb):=bJ.jk fun x hx=>by
  obtain⟨j,hj⟩:=List.getElem?_of_mem hx
  unfold aT at hj
  rw[List.getElem?_mapIdx] at hj
  cases e:l[j]? with
  |none=>rw[e] at hj;cases hj
  |some z=>rw[e] at hj;cases hj;exact C8
theorem lE {j:Nat}{x:AV}(h:(aT l a ta b tb)[j]? =some x):∃z,l[j]? =some z∧x=ef a ta b tb j z:=by
  unfold aT at h
  rw[List.getElem?_mapIdx] at h
  cases e:l[j]? with
  |none=>rw[e] at h;cases h
  |some z=>rw[e] at h;cases h;exact⟨z,rfl,rfl⟩
end
section
variable {m : ML} {fz : Nat → Bool} {tab : List (Nat × Nat)} {l : List ai} {a ta b tb t n : Nat}
theorem nN (x:ai):bD (bM x)=true:=by
  show bD (.agg [ah x.kind,bX x.name,bX x.is,bX x.data,cV x.attrs,ah x.parent,cq x.kids,ah x.host,ah x.under,ah x.doc])=true
  rfl
theorem GB {cs ex:List Int}{ro:Bool}(h1:eG m t=.live 1 ((cs++ex).map bt) ro)(h2:fz t=true):zm m fz (MF tab fz m n) (cq cs) t 0 cs.length:=
  .cut h1 h2 (by simp) (by rw[List.drop_zero,iR,List.take_append_of_le_length (by simp),sn (by simp)]) (aa cs)
theorem uj {ro ra rb:Bool}{ea eb:List Int}{k:Nat}(hm:eG m t=.live 10 (aT l a ta b tb) ro)(hf:fz t=true)(ha:∀y,l[a]? =some y→eG m ta=.live 1 ((y.kids++ea).map bt) ra∧fz ta=true)(hb:∀y,l[b]? =some y→eG m tb=.live 1 ((y.kids++eb).map bt) rb∧fz tb=true):zm m fz (MF tab fz m (k+2)) (rT l) t 0 l.length:=by
  have hk:∀ (u:Nat) (e:List Int) (r:Bool) (y:ai),eG m u=.live 1 ((y.kids++e).map bt) r→fz u=true→MF tab fz m (k+2) (bM y) (dV y u):=fun u e r y q1 q2=>
    ⟨rfl,rfl,rfl,rfl,jy _ _ rfl,rfl,GB q1 q2,rfl,rfl,rfl,trivial⟩
  refine⟨10,_,ro,l.map bM,hm,hf,rfl,by rw[bU];omega,iJ bM nN l,by rw[List.drop_zero,sn (by rw[bU];omega),bU,bN],fun i x z hx hz=>?_⟩
  rw[List.drop_zero,sn (by rw[bU];omega)] at hz
  obtain⟨y,hy,rfl⟩:=lE hz
  rw[fI,hy] at hx
  cases hx
  show MF tab fz m (k+2) (bM y) (ef a ta b tb i y)
  unfold ef
  by_cases e:i=a
  · rw[if_pos e]
    subst e
    exact hk ta ea ra y (ha y hy).1 (ha y hy).2
  · rw [if_neg e]
    by_cases c:i=b
    · rw[if_pos c]
      subst c
      exact hk tb eb rb y (hb y hy).1 (hb y hy).2
    ·rw[if_neg c];exact jy _ _ (nN y)
end
theorem AT {R:AV→AV→Prop}:∀ {a b:List AV},dD R a b→yY R a b
  |[],[],_=>trivial
  |x::a,y::b,h=>⟨h.2 0 x y rfl rfl,AT ⟨by have:=h.1;simpa using this,fun i p q h1 h2=>h.2 (i+1) p q (by simpa using h1) (by simpa using h2)⟩⟩
  |[],_::_,h=>by have:=h.1;simp at this
  |_::_,[],h=>by have:=h.1;simp at this
theorem sA {w:Nat}:∀ {a b:List AV},a.length=b.length→bJ w a→bJ w b→oJ a b=true
  |[],[],_,_,_=>rfl
  | x ::a,y::b,hl,ha,hb=>by
    have e:tg (fg (dN x)) (fg (dN y))=true:=by
      rw[eD,dj,dj,fu,fu,ha.tail.1,hb.tail.1]
      exact Nat.beq_refl _
    simp only[oJ,e]
    exact sA (by simpa using hl) ha.tail.2 hb.tail.2
  |[],_::_,hl,_,_=>by simp at hl
  |_::_,[],hl,_,_=>by simp at hl
theorem DK {f:AV→AV}:∀ {a b:List AV},a.length=b.length→(∀ (i:Nat) x y,a[i]? =some x→b[i]? =some y→x=f y)→a=eC f b
  |[],[],_,_=>rfl
  | x::a,y::b,hl,h=>by
    show x::a=f y::eC f b
    rw[←h 0 x y rfl rfl,←DK (by simpa using hl) fun i p q h1 h2=>h (i+1) p q (by simpa using h1) (by simpa using h2)]
  |[],_::_,hl,_=>by simp at hl
  |_::_,[],hl,_=>by simp at hl
theorem DH {p:AV→Bool}:∀ {a:List AV},(∀x∈a,p x=true)→jm p a=true
  |[],_=>rfl
  | x::a,h=>by
    simp only[jm,h x eS]
    exact DH fun y hy=>h y (dQ _ hy)
section
variable {l : List ai} {a ta b tb ta0 tb0 n : Nat} {names : List Nat}
theorem Fp (h1:gN names ta0=some ta)(h2:gN names tb0=some tb):aT l a ta b tb=eC (pD names 12) (aT l a ta0 b tb0):=by
  refine DK (by rw[bU,bU]) fun i x y hx hy=>?_
  obtain⟨z,hz,rfl⟩:=lE hx
  obtain⟨z2,hz2,rfl⟩:=lE hy
  rw[hz] at hz2;cases hz2
  have key:∀u u0:Nat,gN names u0=some u→dV z u=pD names 12 (dV z u0):=fun u u0 h=>by
    show eo z u=pD names 12 (eo z u0)
    simp only[eo,pD,eC,h]
  unfold ef
  split
  ·exact key _ _ h1
  · split
    ·exact key _ _ h2
    ·rfl
theorem GY (h1:ta<n)(h2:tb<n):jm (zT 12 n) (aT l a ta b tb)=true:=by
  refine DH fun x hx=>?_
  obtain⟨j,hj⟩:=List.getElem?_of_mem hx
  obtain⟨z,_,rfl⟩:=lE hj
  have key:∀u:Nat,u<n→zT 12 n (dV z u)=true:=fun u h=>by
    have hb:Nat.ble (u+1) n=true:=by rw[Nat.ble_eq];exact h
    show zT 12 n (eo z u)=true
    simp[eo,zT,jm,bD,hb]
  unfold ef
  split
  ·exact key _ h1
  · split
    ·exact key _ h2
    · show zT 12 n (aL z)=true
      simp[zT,jm,bD]
end
end Go.Proofs.Heir
