/- Models, plain laws and contracts of functions of the given program; conditions as stated in each theorem. By an AI agent. -/
import Derived.Test.YtkhjcnjicjgfiaaGreatDoorWN15
import Derived.Test.YtkhjcnjicjgfiaaGreatDoorWN12
set_option linter.unusedSimpArgs false
set_option linter.unusedVariables false
namespace Go.Proofs.Heir
open Go Go.Am Go.RowKit Go.Lib
set_option maxRecDepth 100000
set_option maxHeartbeats 8000000
set_option maxHeartbeats 8000000
section
variable {l l' : List ai} {m : Int}
theorem o8 (R:RF l m)(hl:l'.length=l.length){k p:Int}(hp:ae l p=true)(hk:k∉U.bf l p)(hu:∀x,ae l x=true→x≠k→cP (nd l' x)=cP (nd l x)):U.bf l' p=U.bf l p:=by
  rw[rX] at hk
  rw[rX,rX,hl]
  exact(lq (P:=fun x=>ae l x=true) (k:=k) (g:=fun n=>cP (nd l n)) (g':=fun n=>cP (nd l' n)) hu (fun x hx h=>R.up hx h) hp (by rw[←gU];exact R.ends p hp) hk).2
theorem Bk (R:RF l m){k:Int}{x:Int}(hx:ae l x=true)(hw:k∈U.bf l x):(nd l x).doc=(nd l k).doc:=by
  have key :∀y,ae l y=true→k∈U.bf l y→(nd l y).doc=(nd l k).doc:=by
    refine U.gB R.tree (P:=fun y=>k∈U.bf l y→(nd l y).doc=(nd l k).doc) (fun y hy hu hw=>?_) (fun y hy hu hy2 ih hw=>?_)
    · rw[U.dL R.tree hy hu,gA] at hw
      rw[←hw]
    · rw [U.bQ R.tree hy hu,dU] at hw
      rcases hw with hw|hw
      ·rw[←hw]
      · rw [←ih hw]
        by_cases hp:(nd l y).parent=-1
        · have h4:(nd l y).kind=4:=Classical.byContradiction fun c=>hu (by unfold cP;rw[if_pos hp];exact R.noh y hy c)
          have:cP (nd l y)=(nd l y).host:=by unfold cP;rw[if_pos hp]
          rw[this];exact(R.host y hy h4).2.2.symm
        · have q:=R.par y hy hp
          rw[R.fE hy hp]
          exact(R.kid _ q.2.1 y q.2.2.2).2.2.1
  exact key x hx hw
def bZ (l:List ai)(k d:Int):List ai:=if(nd (aZ l k) k).doc=d then aZ l k else l5 (aZ l k) (U.bT (aZ l k) (aZ l k).length k) d
theorem wR (R:RF l m){k:Int}(hk:ae l k=true)(hkk:(nd l k).kind=1∨(nd l k).kind=2):cP (nd (aZ l k) k)=-1:=by
  rw[EH R hk (by rcases hkk with h|h<;>simp[h]) k hk]
  by_cases hp:(nd l k).parent=-1
  ·rw[if_neg (fun q=>q.2 hp),R.Bx hk hkk];exact hp
  ·rw[if_pos ⟨rfl,hp⟩]
theorem eH (l:List ai)(k d:Int):(bZ l k d).length=l.length:=by
  unfold bZ
  split
  ·exact cm l k
  ·rw[pH,cm]
theorem jM (R:RF l m){k d:Int}(hk:ae l k=true)(hkk:(nd l k).kind=1∨(nd l k).kind=2)(hd:j7 l d 0=true):RF (bZ l k d) m:=by
  have R1:=cZ R hk
  have L:=dH R hk
  unfold bZ
  split
  ·exact R1
  · refine wg R1 (by rw[aV (cm ..)];exact hk) (wR R hk hkk) (by rw[(L k hk).1.kind];omega) ?_
    rw[xz (cm ..) (fun x hx=>(L x hx).1)];exact hd
theorem gP (R:RF l m){k d:Int}(hk:ae l k=true)(hkk:(nd l k).kind=1∨(nd l k).kind=2)(x:Int)(hx:ae l x=true):gH (nd (bZ l k d) x) (nd l x)∧((nd (bZ l k d) x).parent=if x=k then-1 else(nd l x).parent)∧((nd (bZ l k d) x).kids=if x=(nd l k).parent then(nd l x).kids.erase k else(nd l x).kids)∧
    ((nd (bZ l k d) x).doc=if k∈U.bf (aZ l k) x then d else(nd l x).doc):=by
  have R1:=cZ R hk
  have L:=dH R hk
  have T:=aV (cm l k)
  have hk1:ae (aZ l k) k=true:=by rw[T];exact hk
  have hx1:ae (aZ l k) x=true:=by rw[T];exact hx
  unfold bZ
  by_cases e:(nd (aZ l k) k).doc=d
  · rw [if_pos e]
    refine⟨(L x hx).1,(L x hx).2.2.1,(L x hx).2.2.2,?_⟩
    split
    · rename_i hw
      rw[Bk R1 hx1 hw];exact e
    ·exact(L x hx).2.1
  · rw[if_neg e]
    have D:=pz (d:=d) (s:=U.bT (aZ l k) (aZ l k).length k) (l:=aZ l k) (fun j hj=>(U.dM R1.tree _ k hk1 j hj).1) x hx1
    refine⟨D.1.trans (L x hx).1,D.2.2.1.trans (L x hx).2.2.1,D.2.2.2.trans (L x hx).2.2.2,?_⟩
    rw[D.2.1]
    by_cases c:x∈U.bT (aZ l k) (aZ l k).length k
    ·rw[if_pos c,if_pos ((U.ju R1.tree hk1 hx1).1 c)]
    ·rw[if_neg c,if_neg (fun q=>c ((U.ju R1.tree hk1 hx1).2 q))];exact(L x hx).2.1
theorem yK (R:RF l m){k d p:Int}(hk:ae l k=true)(hkk:(nd l k).kind=1∨(nd l k).kind=2)(hp:ae l p=true)(hw:k∉U.bf l p):U.bf (bZ l k d) p=U.bf l p:=by
  refine o8 R (eH ..) hp hw fun x hx hne=>?_
  obtain⟨h1,h2,_⟩:=gP R (d:=d) hk hkk x hx
  unfold cP
  rw[h2,if_neg hne,h1.host]
theorem sx (R:RF l m){k p:Int}(hk:ae l k=true)(hp:ae l p=true)(hw:k∉U.bf l p):U.bf (aZ l k) p=U.bf l p:=by
  refine o8 R (cm ..) hp hw fun x hx hne=>?_
  obtain⟨h1,_,h2,_⟩:=dH R hk x hx
  unfold cP
  rw[h2,if_neg hne,h1.host]
structure fD (l:List ai) (k p b:Int):Prop where
  tk:ae l k=true
  tp:ae l p=true
  kk:(nd l k).kind=1∨(nd l k).kind=2
  hd:eN (nd l p).kind=true
  w:k∉U.bf l p
  ab:b=-1∨b≠k∧b∈ (nd l p).kids
  dc:(nd l p).kind=0→(nd l k).kind=1∧cC l ((nd l p).kids.erase k)=0
def cG (l:List ai)(k p b:Int):List ai:=dP (bZ l k (nd l p).doc) k p b
theorem fF (l:List ai)(k p b:Int):(cG l k p b).length=l.length:=by unfold cG;rw[iO,eH]
theorem qR {cs:List Int}{k:Int}(h:k∉cs):cs.erase k=cs:=List.erase_of_not_mem h
theorem rj (R:RF l m){k d p:Int}(hk:ae l k=true)(hkk:(nd l k).kind=1∨(nd l k).kind=2)(hp:ae l p=true):(nd (bZ l k d) p).kids=(nd l p).kids.erase k:=by
  rw[(gP R hk hkk p hp).2.2.1]
  split
  ·rfl
  · rename_i h
    exact(qR fun q=>h (R.kid p hp k q).2.1.symm).symm
theorem gC (R:RF l m){k p b:Int}(C:fD l k p b):RF (cG l k p b) m:=by
  have T:=aV (eH l k (nd l p).doc)
  have L:=gP R (d:=(nd l p).doc) C.tk C.kk
  have hpd:=(R.own p C.tp).1
  have R1:=jM R C.tk C.kk hpd
  have hw1:k∉U.bf (aZ l k) p:=by rw[sx R C.tk C.tp C.w];exact C.w
  have hkw:k∈U.bf (aZ l k) k:=U.cj (cZ R C.tk).tree (by rw[aV (cm ..)];exact C.tk)
  refine AO R1 (by rw[T];exact C.tk) (by rw[T];exact C.tp) ?_ ?_ ?_ ?_ ?_ ?_
  ·rw[(L k C.tk).2.1,if_pos rfl]
  ·rw[(L k C.tk).1.kind];exact C.kk
  ·rw[(L k C.tk).2.2.2,if_pos hkw,(L p C.tp).2.2.2,if_neg hw1]
  ·rw[(L p C.tp).1.kind];exact C.hd
  · rw[(L p C.tp).1.kind,(L k C.tk).1.kind,rj R C.tk C.kk C.tp]
    intro h0
    have:=C.dc h0
    refine⟨this.1,?_⟩
    rw[nN (fun x hx=>(L x hx).1) fun c hc=>(R.kid p C.tp c (List.mem_of_mem_erase hc)).1]
    exact this.2
  ·rw[yK R C.tk C.kk C.tp C.w];exact C.w
theorem gJ (R:RF l m){k p b:Int}(C:fD l k p b)(x:Int)(hx:ae l x=true):gH (nd (cG l k p b) x) (nd l x)∧((nd (cG l k p b) x).parent=if x=k then p else(nd l x).parent)∧
    ((nd (cG l k p b) x).kids=if x=p then qO ((nd l x).kids.erase k) b k else if x=(nd l k).parent then(nd l x).kids.erase k else(nd l x).kids)∧((nd (cG l k p b) x).doc=if k∈U.bf (aZ l k) x then(nd l p).doc else(nd l x).doc):=by
  have T:=aV (eH l k (nd l p).doc)
  have hne:k≠p:=fun e=>C.w (by rw[e];exact U.cj R.tree C.tp)
  have L:=gP R (d:=(nd l p).doc) C.tk C.kk x hx
  have H:=nO (l:=bZ l k (nd l p).doc) (b:=b) (by rw[T];exact C.tk) (by rw[T];exact C.tp) hne x (by rw[T];exact hx)
  have hkd:=rj R (d:=(nd l p).doc) C.tk C.kk C.tp
  unfold cG
  refine⟨H.1.trans L.1,?_,?_,H.2.1.trans L.2.2.2⟩
  · rw[H.2.2.1,L.2.1]
    by_cases e:x=k
    ·rw[if_pos e,if_pos e]
    ·rw[if_neg e,if_neg e,if_neg e]
  · rw [H.2.2.2]
    by_cases e:x=p
    · subst e
      rw[if_pos rfl,if_pos rfl,hkd]
    ·rw[if_neg e,if_neg e,L.2.2.1]
theorem EW (R:RF l m){k p b:Int}(C:fD l k p b){x:Int}(hx:ae l x=true)(hw:k∉U.bf l x):U.bf (cG l k p b) x=U.bf l x:=by
  refine o8 R (fF ..) hx hw fun y hy hne=>?_
  obtain⟨h1,h2,_⟩:=gJ R C y hy
  unfold cP
  rw[h2,if_neg hne,h1.host]
theorem nR (R:RF l m){k j p b:Int}(C:fD l k p b)(D:fD l j p b)(hne:j≠k)(h0:(nd l p).kind≠0):fD (cG l k p b) j p b:=by
  have T:=aV (fF l k p b)
  have L:=gJ R C
  refine⟨by rw[T];exact D.tk,by rw[T];exact D.tp,by rw[(L j D.tk).1.kind];exact D.kk,by rw[(L p D.tp).1.kind];exact D.hd,by rw[EW R C D.tp C.w];exact D.w,?_,fun q=>?_⟩
  · rcases D.ab with h|⟨h1,h2⟩
    ·exact .inl h
    · refine .inr ⟨h1,?_⟩
      rw[(L p D.tp).2.2.1,if_pos rfl,sw]
      refine .inr ((List.mem_erase_of_ne ?_).2 h2)
      rcases C.ab with c|c
      ·have:=bj (R.kid p D.tp b h2).1;omega
      ·exact c.1
  ·rw[(L p D.tp).1.kind] at q;exact absurd q h0
end
def A9 (l:List ai)(n:Int):List Int:=(U.bT l l.length n).filter fun k=>decide ((nd l k).kind=1)
def ei (l:List ai)(n:Int):Bool:=decide ((nd l (lS l n)).kind=0)
def ig (l:List ai)(n:Int)(x:aJ):List aJ:=(A9 l n).map fun k=>{x with node:=k}
def fM (kind src dst:Int):aJ:=⟨kind,0,src,dst,⟨#[]⟩,false,false,⟨#[]⟩,⟨#[]⟩⟩
def cr (s:List ai×List aJ)(n:Int):List ai×List aJ:=if(nd s.1 n).parent=-1 then s else(aZ s.1 n,s.2++if ei s.1 n=true then ig s.1 n (fM 2 0 0) else[])
def iU (s:List ai×List aJ)(k d:Int):List ai×List aJ:=if(nd (cr s k).1 k).doc=d then cr s k else(bZ s.1 k d,(cr s k).2++ig (bZ s.1 k d) k (fM 3 (nd (cr s k).1 k).doc d))
def cD (p b:Int)(s:List ai×List aJ)(k:Int):List ai×List aJ:=(cG s.1 k p b,(iU s k (nd s.1 p).doc).2++if ei (cG s.1 k p b) k=true then ig (cG s.1 k p b) k (fM 1 0 0) else[])
def dn (l:List ai)(n:Int):List Int:=if(nd l n).kind=3 then(nd l n).kids else[n]
def dg (s:List ai×List aJ)(n p b:Int):List ai×List aJ:=(dn s.1 n).foldl (cD p b) (if(nd s.1 n).kind=3 then(dn s.1 n).foldl cr s else s)
theorem jQ (s:List ai×List aJ)(n:Int):(cr s n).1=aZ s.1 n:=by
  unfold cr
  by_cases h:(nd s.1 n).parent=-1
  ·rw[if_pos h];unfold aZ;rw[if_pos h]
  ·rw[if_neg h]
theorem uS (p b:Int)(s:List ai×List aJ)(k:Int):(cD p b s k).1=cG s.1 k p b:=rfl
structure nB (l:List ai) (n p b:Int):Prop where
  tn:ae l n=true
  tp:ae l p=true
  kk:(nd l n).kind=1∨(nd l n).kind=2∨(nd l n).kind=3
  hd:eN (nd l p).kind=true
  w:n∉U.bf l p
  ab:b=-1∨b≠n∧b∈ (nd l p).kids
  dc:(nd l p).kind=0→(∀k∈dn l n,(nd l k).kind=1)∧(dn l n).length+cC l ((nd l p).kids.erase n)≤1
section
variable {l l' : List ai} {m : Int}
theorem gL {n:Int}(h:(nd l n).kind≠3):dn l n=[n]:=by unfold dn;rw[if_neg h]
theorem nG {n p b:Int}(C:nB l n p b)(h:(nd l n).kind≠3):fD l n p b:=by
  refine⟨C.tn,C.tp,by have:=C.kk;omega,C.hd,C.w,C.ab,fun h0=>?_⟩
  have:=C.dc h0
  rw[gL h] at this
  exact⟨this.1 n (by simp),by have:=this.2;simp at this;omega⟩
theorem oA:∀ (ks:List Int) {l:List ai},RF l m→(∀k∈ks,ae l k=true)→RF (ks.foldl aZ l) m∧(ks.foldl aZ l).length=l.length
  |[],l,R,_=>⟨R,rfl⟩
  | k::ks,l,R,h=>by
    have h1:=oA ks (cZ R (h k gj)) (fun j hj=>by rw[aV (cm ..)];exact h j (eP _ hj))
    exact⟨h1.1,h1.2.trans (cm ..)⟩
theorem iB:∀ (ks:List Int) {l:List ai},RF l m→(∀k∈ks,ae l k=true)→∀ (n:Int),(∀k∈ks,(nd l k).parent=n∨(nd l k).parent=-1)→∀x,ae l x=true→gH (nd (ks.foldl aZ l) x) (nd l x)∧(nd (ks.foldl aZ l) x).doc=(nd l x).doc∧((nd (ks.foldl aZ l) x).parent=if x∈ks then-1 else(nd l x).parent)∧(x≠n→(nd (ks.foldl aZ l) x).kids=(nd l x).kids)
  |[],l,R,_,n,_,x,hx=>⟨.refl _,rfl,by rw[if_neg (by simp)];rfl,fun _=>rfl⟩
  | k :: ks,l,R,h,n,hp,x,hx=>by
    have T:=aV (cm l k)
    have hk:=h k gj
    have L:=dH R hk
    have R1:=cZ R hk
    have h1:=iB ks R1 (fun j hj=>by rw[T];exact h j (eP _ hj)) n (fun j hj=>by
      rw[(L j (h j (eP _ hj))).2.2.1]
      split
      ·exact .inr rfl
      ·exact hp j (eP _ hj)) x (by rw[T];exact hx)
    refine⟨h1.1.trans (L x hx).1,h1.2.1.trans (L x hx).2.1,?_,fun hne=>(h1.2.2.2 hne).trans ?_⟩
    · show(nd (ks.foldl aZ (aZ l k)) x).parent=_
      rw[h1.2.2.1,(L x hx).2.2.1]
      by_cases e:x=k
      · subst e
        rw[if_pos gj,if_pos rfl]
        split<;>rfl
      · rw[if_neg e]
        by_cases c:x∈ks
        ·rw[if_pos c,if_pos (eP _ c)]
        ·rw[if_neg c,if_neg (fun q=>(dU.1 q).elim e c)]
    · rw [(L x hx).2.2.2]
      split
      · rename_i e
        rcases hp k gj with q|q
        ·exact absurd (e.trans q) hne
        ·have:=bj hx;omega
      ·rfl
theorem yh:∀ (ks:List Int) {l:List ai},RF l m→(∀k∈ks,ae l k=true)→∀ {p:Int},ae l p=true→(∀k∈ks,k∉U.bf l p)→U.bf (ks.foldl aZ l) p=U.bf l p
  |[],l,R,_,p,_,_=>rfl
  | k::ks,l,R,h,p,hp,hw=>by
    have T:=aV (cm l k)
    have hk:=h k gj
    have e:=sx R hk hp (hw k gj)
    have h1:=yh ks (cZ R hk) (fun j hj=>by rw[T];exact h j (eP _ hj)) (by rw[T];exact hp) (fun j hj=>by rw[e];exact hw j (eP _ hj))
    exact h1.trans e
theorem nu (R:RF l m){n p b:Int}(C:nB l n p b)(h3:(nd l n).kind=3):RF ((nd l n).kids.foldl aZ l) m∧((nd l n).kids.foldl aZ l).length=l.length∧(∀k∈ (nd l n).kids,fD ((nd l n).kids.foldl aZ l) k p b∧(nd ((nd l n).kids.foldl aZ l) k).parent=-1)∧((nd l p).kind=0→(nd l n).kids.length≤1):=by
  have hks:∀k∈ (nd l n).kids,ae l k=true:=fun k hk=>(R.kid n C.tn k hk).1
  have h1:=oA (m:=m) (nd l n).kids R hks
  have L:=iB (nd l n).kids R hks n (fun k hk=>.inl (R.kid n C.tn k hk).2.1)
  have hne:p≠n:=fun e=>C.w (by rw[←e];exact U.cj R.tree C.tp)
  have hwk:∀k∈ (nd l n).kids,k∉U.bf l p:=fun k hk hw=>by
    refine C.w (U.nH R.tree C.tp ?_ hw)
    have hn0:=bj C.tn
    have q:=R.kid n C.tn k hk
    rw[U.bQ R.tree q.1 (by rw[R.fE q.1 (by omega)];omega),R.fE q.1 (by omega),q.2.1]
    exact eP _ (U.cj R.tree C.tn)
  have hW:=yh (nd l n).kids R hks C.tp hwk
  have T:=aV h1.2
  have hpar:dn l n=(nd l n).kids:=by unfold dn;rw[if_pos h3]
  refine⟨h1.1,h1.2,fun k hk=>⟨⟨by rw[T];exact hks k hk,by rw[T];exact C.tp,?_,by rw[(L p C.tp).1.kind];exact C.hd,by rw[hW];exact hwk k hk,?_,fun h0=>?_⟩,?_⟩,fun h0=>?_⟩
  ·rw[(L k (hks k hk)).1.kind];have:=(R.kid n C.tn k hk).2.2.2;omega
  · rw [(L p C.tp).2.2.2 hne]
    rcases C.ab with h|⟨h,h2⟩
    ·exact .inl h
    · refine .inr ⟨fun e=>hne ?_,h2⟩
      have q1:=(R.kid p C.tp b h2).2.1
      have q2:=(R.kid n C.tn k hk).2.1
      rw[e] at q1;rw[←q1,←q2]
  · rw [(L p C.tp).1.kind] at h0
    have q:=C.dc h0
    rw[hpar] at q
    have hk1:=q.1 k hk
    have hnk:n∉ (nd l p).kids:=fun h=>by have:=(R.kid p C.tp n h).2.2.2;omega
    have hkk:k∉ (nd l p).kids:=fun h=>by
      have q1:=(R.kid p C.tp k h).2.1
      have q2:=(R.kid n C.tn k hk).2.1
      exact hne (q1.symm.trans q2)
    rw[(L k (hks k hk)).1.kind,(L p C.tp).2.2.2 hne,qR hkk]
    refine⟨hk1,?_⟩
    rw[nN (fun x hx=>(L x hx).1) fun c hc=>(R.kid p C.tp c hc).1]
    have:=q.2
    rw[qR hnk] at this
    have:1≤ (nd l n).kids.length:=List.length_pos_of_mem hk
    omega
  ·rw[(L k (hks k hk)).2.2.1,if_pos hk]
  · have:=(C.dc h0).2
    rw[hpar] at this;omega
theorem nr {p b:Int}:∀ (ks:List Int) {l:List ai},RF l m→ks.Nodup→(∀k∈ks,fD l k p b)→((nd l p).kind=0→ks.length≤1)→RF (ks.foldl (fun l k=>cG l k p b) l) m∧(ks.foldl (fun l k=>cG l k p b) l).length=l.length
  |[],l,R,_,_,_=>⟨R,rfl⟩
  | k ::ks,l,R,hd,h,h0=>by
    rw[List.nodup_cons] at hd
    have C:=h k gj
    have h1:=nr (p:=p) (b:=b) ks (gC R C) hd.2 (fun j hj=>nR R C (h j (eP _ hj)) (fun e=>hd.1 (e▸hj)) (fun e=>by
      have q1:(k::ks).length≤1:=h0 e
      have q2:=List.length_pos_of_mem hj
      rw[List.length_cons] at q1;omega)) (fun e=>by
      rw[(gJ R C p C.tp).1.kind] at e
      have q1:(k::ks).length≤1:=h0 e
      rw[List.length_cons] at q1;omega)
    exact⟨h1.1,h1.2.trans (fF ..)⟩
end
theorem gO:∀ (ks:List Int) (s:List ai×List aJ),(ks.foldl cr s).1=ks.foldl aZ s.1
  |[],s=>rfl
  | k::ks,s=>by
    show(ks.foldl cr (cr s k)).1=ks.foldl aZ (aZ s.1 k)
    rw[gO ks,jQ]
theorem oO (p b:Int):∀ (ks:List Int) (s:List ai×List aJ),(ks.foldl (cD p b) s).1=ks.foldl (fun l k=>cG l k p b) s.1
  |[],s=>rfl
  | k::ks,s=>by
    show(ks.foldl (cD p b) (cD p b s k)).1=_
    rw[oO p b ks];rfl
theorem jx {l:List ai}{m:Int}(R:RF l m)(t:List aJ){n p b:Int}(C:nB l n p b):RF (dg (l,t) n p b).1 m∧(dg (l,t) n p b).1.length=l.length:=by
  unfold dg
  rw[oO]
  by_cases h3:(nd l n).kind=3
  · have hpar:dn l n=(nd l n).kids:=by unfold dn;rw[if_pos h3]
    obtain⟨h1,h2,h4,h5⟩:=nu R C h3
    simp only[hpar,if_pos h3,gO]
    have hks:∀k∈ (nd l n).kids,ae l k=true:=fun k hk=>(R.kid n C.tn k hk).1
    have L:=iB (nd l n).kids R hks n (fun k hk=>.inl (R.kid n C.tn k hk).2.1)
    have:=nr (nd l n).kids h1 (R.dup n C.tn) (fun k hk=>(h4 k hk).1) (fun e=>h5 (by rw[←(L p C.tp).1.kind];exact e))
    exact⟨this.1,this.2.trans h2⟩
  · simp only[gL h3,if_neg h3]
    have:=nr [n] R (by simp) (fun k hk=>by rw[gA.1 hk];exact nG C h3) (fun _=>by simp)
    exact this
def gY (l:List ai)(gone:Int)(cs:List Int)(kd:Int):Nat:=cs.countP fun k=>decide (k≠gone)&&decide ((nd l k).kind=kd)
def gp (l:List ai)(p gone:Int)(cs:List Int):Bool:=decide (0<gY l gone cs 2)||(decide (0<gY l gone cs 1)&&decide (1<gY l gone cs 1+gY l gone (nd l p).kids 1))
def iP (l:List ai)(a b:Int):Bool:=decide (a∈U.bf l b)
def oa (l:List ai)(n p:Int):Bool:=decide ((nd l p).kind≠2)&& !iP l n p
def fg (l:List ai)(p child gone n:Int):Int:=
  if(!eN (nd l p).kind||iP l n p)=true then 5
  else if child≠-1∧(nd l child).parent≠p then 6
  else if(nd l n).kind=0∨(nd l n).kind=4 then 5
  else if(nd l n).kind=3 then(if(decide ((nd l p).kind=0)&&gp l p gone (nd l n).kids)=true then 5 else 0)
  else if(decide ((nd l p).kind=0)&&gp l p gone [n])=true then 5 else 0
def dN (f:ForM)(n p child:Int):Bool:=(bt f&&(ae f.nodes n&&ae f.nodes p))&&(decide (child=-1)||ae f.nodes child)
def mB (f:ForM)(n p child:Int):Int:=if dN f n p child=true then fg f.nodes p child (-1) n else 1
def jY (f:ForM)(n p child:Int):Int:=if dN f n p child=true then(if(decide (child=-1)&&(decide (fg f.nodes p child child n=0)||oa f.nodes n p))=true then 6 else fg f.nodes p child child n) else 1
def cw:List Int→Int→Int
  |[],_=> -1
  |a::r,c=>if a=c then(r.head?).getD (-1) else cw r c
def eR (f:ForM)(n p child:Int):Int:=if mB f n p child≠0 then-1 else if child≠n then child else cw (nd f.nodes p).kids n
section
variable {l : List ai} {m : Int}
theorem RF.kinds (R:RF l m){n:Int}(hn:ae l n=true):0≤ (nd l n).kind∧(nd l n).kind≤4:=(zW.1 (R.Gl n hn)).1
theorem RF.child (R:RF l m){p c:Int}(hp:ae l p=true)(hc:ae l c=true):(nd l c).parent=p↔c∈ (nd l p).kids:=by
  constructor
  · intro h
    have:=bj hp
    have q:=(R.par c hc (by omega)).2.2.2
    rwa [h] at q
  ·intro h;exact(R.kid p hp c h).2.1
theorem jH:∀ {cs:List Int} {c:Int},cs.Nodup→cw cs c=-1∨(cw cs c∈cs∧cw cs c≠c)
  |[],c,_=>.inl rfl
  | a ::r,c,h=>by
    rw[List.nodup_cons] at h
    unfold cw
    by_cases e:a=c
    · subst e
      rw[if_pos rfl]
      cases r with
      |nil=>exact .inl rfl
      |cons b t=>exact .inr ⟨by simp,fun q=>h.1 (by simp at q;simp[q])⟩
    · rw[if_neg e]
      rcases jH (c:=c) h.2 with q|⟨q1,q2⟩
      ·exact .inl q
      ·exact .inr ⟨eP _ q1,q2⟩
theorem uX (a:Int)(r:List Int)(c:Int):cw (a::r) c=if a=c then(r.head?).getD (-1) else cw r c:=rfl
theorem vZ:∀ {cs:List Int} {c:Int},c≠-1→cs.Nodup→cw cs c≠-1→cw cs (cw cs c)≠c
  |[],c,_,_,h=>absurd rfl h
  | a :: r,c,hc,hd,h=>by
    rw[List.nodup_cons] at hd
    by_cases e:a=c
    · subst e
      cases r with
      |nil=>unfold cw at h;simp at h
      | cons b t=>
        have hab:¬a=b:=fun q=>hd.1 (by simp[q])
        have e1:cw (a::b::t) a=b:=by unfold cw;rw[if_pos rfl];rfl
        rw[e1]
        show(if a=b then _ else cw (b::t) b)≠a
        rw[if_neg hab]
        show(if b=b then(t.head?).getD (-1) else _)≠a
        rw[if_pos rfl]
        cases t with
        |nil=>exact fun q=>hc q.symm
        |cons d u=>exact fun q=>hd.1 (by simp at q;simp[q])
    · have e1:cw (a::r) c=cw r c:=by
        show(if a=c then _ else cw r c)=_
        rw[if_neg e]
      rw[e1] at h ⊢
      have hin:cw r c∈r:=((jH (c:=c) hd.2).resolve_left h).1
      have hne:¬a=cw r c:=fun q=>hd.1 (q▸hin)
      show(if a=cw r c then _ else cw r (cw r c))≠c
      rw[if_neg hne];exact vZ hc hd.2 h
theorem jN (l:List ai){cs:List Int}{gone:Int}(h:gone∉cs)(kd:Int):gY l gone cs kd=cs.countP fun k=>decide ((nd l k).kind=kd):=by
  unfold gY
  refine List.countP_congr fun c hc=>?_
  have:c≠gone:=fun e=>h (e▸hc)
  simp[this]
theorem rW {cs:List Int}(h1:∀c∈cs,(nd l c).kind=1∨(nd l c).kind=2)(h2:cs.countP (fun k=>decide ((nd l k).kind=2))=0):(∀c∈cs,(nd l c).kind=1)∧cs.countP (fun k=>decide ((nd l k).kind=1))=cs.length:=by
  have h3:∀c∈cs,(nd l c).kind=1:=fun c hc=>(h1 c hc).resolve_right fun q=>by
    have:=List.countP_eq_zero.1 h2 c hc
    simp[q] at this
  exact⟨h3,List.countP_eq_length.2 fun c hc=>by simp[h3 c hc]⟩
theorem yP (R:RF l m){p c:Int}(hp:ae l p=true)(hc:c∈ (nd l p).kids):c∉U.bf l p:=fun h=>by
  have q:=R.kid p hp c hc
  have h0:=bj hp
  have hw:U.bf l c=c::U.bf l p:=by
    have hu:cP (nd l c)=p:=by rw[R.fE q.1 (by omega),q.2.1]
    rw[U.bQ R.tree q.1 (by omega),hu]
  obtain⟨t,ht⟩:=U.gw R.tree p hp c h
  have:=congrArg List.length ht
  rw[kf,hw,List.length_cons] at this
  omega
theorem w9 (R:RF l m){n p child:Int}(hn:ae l n=true)(hp:ae l p=true)(hc:child=-1∨ae l child=true)(h:fg l p child (-1) n=0):nB l n p (if child≠n then child else cw (nd l p).kids n):=by
  have hn0:=bj hn
  unfold fg at h
  by_cases e1:(!eN (nd l p).kind||iP l n p)=true
  ·rw[if_pos e1] at h;omega
  rw[if_neg e1] at h
  have e1':eN (nd l p).kind=true∧iP l n p=false:=by simpa using e1
  by_cases e2:child≠-1∧(nd l child).parent≠p
  ·rw[if_pos e2] at h;omega
  rw[if_neg e2] at h
  by_cases e3:(nd l n).kind=0∨(nd l n).kind=4
  ·rw[if_pos e3] at h;omega
  rw[if_neg e3] at h
  have hk:=R.kinds hn
  have hch:child=-1∨child∈ (nd l p).kids:=by
    by_cases c:child=-1
    ·exact .inl c
    · refine .inr ((R.child hp (hc.resolve_left c)).1 ?_)
      exact Classical.byContradiction fun q=>e2 ⟨c,q⟩
  have hno:∀cs:List Int,(∀c∈cs,ae l c=true)→(-1:Int)∉cs:=fun cs hcs q=>by have:=bj (hcs _ q);omega
  refine⟨hn,hp,by omega,e1'.1,by have:=e1'.2;unfold iP at this;simpa using this,?_,fun h0=>?_⟩
  · by_cases e:child≠n
    · rw[if_pos e]
      rcases hch with q|q
      ·exact .inl q
      ·exact .inr ⟨e,q⟩
    · rw[if_neg e]
      rcases jH (c:=n) (R.dup p hp) with q|⟨q1,q2⟩
      ·exact .inl q
      ·exact .inr ⟨q2,q1⟩
  · have hkids:∀c∈ (nd l p).kids,ae l c=true:=fun c hc=>(R.kid p hp c hc).1
    have hel:=R.elems p hp h0
    have hle:cC l ((nd l p).kids.erase n)≤cC l (nd l p).kids:=List.Sublist.countP_le List.erase_sublist
    have hek:gY l (-1) (nd l p).kids 1=cC l (nd l p).kids:=jN l (hno _ hkids) 1
    have fin:∀cs:List Int,(∀c∈cs,ae l c=true)→(∀c∈cs,(nd l c).kind=1∨(nd l c).kind=2)→gp l p (-1) cs=false→(∀k∈cs,(nd l k).kind=1)∧cs.length+cC l ((nd l p).kids.erase n)≤1:=by
      intro cs hcs hkd hcr
      unfold gp at hcr
      rw[jN l (hno _ hcs) 1,jN l (hno _ hcs) 2,hek] at hcr
      simp only[Bool.or_eq_false_iff,Bool.and_eq_false_iff,cR] at hcr
      have:=rW hkd (by omega)
      refine⟨this.1,?_⟩
      rw[this.2] at hcr
      omega
    by_cases e5:(nd l n).kind=3
    · have hpar:dn l n=(nd l n).kids:=by unfold dn;rw[if_pos e5]
      rw[if_pos e5] at h
      rw[hpar]
      refine fin _ (fun c hc=>(R.kid n hn c hc).1) (fun c hc=>by have:=(R.kid n hn c hc).2.2.2;omega) ?_
      by_cases q:gp l p (-1) (nd l n).kids=true
      ·rw[if_pos (by simp[h0,q])] at h;omega
      ·simpa using q
    · rw[if_neg e5] at h
      rw[gL e5]
      refine fin _ (fun c hc=>by rw[gA.1 hc];exact hn) (fun c hc=>by rw[gA.1 hc];omega) ?_
      by_cases q:gp l p (-1) [n]=true
      ·rw[if_pos (by simp[h0,q])] at h;omega
      ·simpa using q
theorem tP (R:RF l m){n p child:Int}(hn:ae l n=true)(hp:ae l p=true)(hct:ae l child=true)(h:fg l p child child n=0):child∈ (nd l p).kids∧nB (aZ l child) n p (if cw (nd l p).kids child≠n then cw (nd l p).kids child else cw (nd l p).kids n):=by
  have hn0:=bj hn
  have hc0:=bj hct
  unfold fg at h
  by_cases e1:(!eN (nd l p).kind||iP l n p)=true
  ·rw[if_pos e1] at h;omega
  rw[if_neg e1] at h
  have e1':eN (nd l p).kind=true∧iP l n p=false:=by simpa using e1
  by_cases e2:child≠-1∧(nd l child).parent≠p
  ·rw[if_pos e2] at h;omega
  rw[if_neg e2] at h
  by_cases e3:(nd l n).kind=0∨(nd l n).kind=4
  ·rw[if_pos e3] at h;omega
  rw[if_neg e3] at h
  have hk:=R.kinds hn
  have hpar:(nd l child).parent=p:=Classical.byContradiction fun q=>e2 ⟨by omega,q⟩
  have hch:child∈ (nd l p).kids:=(R.child hp hct).1 hpar
  have L:=dH R hct
  have T:=aV (cm l child)
  have hw:=yP R hp hch
  have hkp:(nd (aZ l child) p).kids=(nd l p).kids.erase child:=by rw[(L p hp).2.2.2,if_pos hpar.symm]
  have hpe:dn (aZ l child) n=dn l n:=by
    unfold dn
    rw[(L n hn).1.kind]
    by_cases e:(nd l n).kind=3
    · rw [if_pos e,if_pos e,(L n hn).2.2.2]
      split
      · rename_i q
        rw[←q.trans hpar.symm.symm] at e1'
        exact absurd (U.cj R.tree hn) (by have:=e1'.2;rw[q,hpar] at*;unfold iP at this;simpa using this)
      ·rfl
    ·rw[if_neg e,if_neg e]
  refine⟨hch,by rw[T];exact hn,by rw[T];exact hp,by rw[(L n hn).1.kind];omega,by rw[(L p hp).1.kind];exact e1'.1,?_,?_,fun h0=>?_⟩
  ·rw[sx R hct hp hw];have:=e1'.2;unfold iP at this;simpa using this
  · rw [hkp]
    rcases jH (c:=child) (R.dup p hp) with q|⟨q1,q2⟩
    ·rw[q,if_pos (by omega)];exact .inl rfl
    · by_cases e:cw (nd l p).kids child≠n
      ·rw[if_pos e];exact .inr ⟨e,(List.mem_erase_of_ne q2).2 q1⟩
      · rw [if_neg e]
        have e':cw (nd l p).kids child=n:=Classical.not_not.1 e
        rcases jH (c:=n) (R.dup p hp) with r|⟨r1,r2⟩
        ·exact .inl r
        · refine .inr ⟨r2,(List.mem_erase_of_ne fun q=>?_).2 r1⟩
          -- the next of the next is not the first again
          exact vZ (c:=child) (by omega) (R.dup p hp) (by rw[e'];omega) (by rw[e'];exact q)
  · rw [(L p hp).1.kind] at h0
    have hkids:∀c∈ (nd l p).kids,ae l c=true:=fun c hc=>(R.kid p hp c hc).1
    have hel:=R.elems p hp h0
    rw[hpe,hkp]
    have hee:∀cs:List Int,(∀c∈cs,ae l c=true)→cC (aZ l child) cs=cC l cs:=fun cs hcs=>nN (fun x hx=>(L x hx).1) hcs
    rw[hee _ fun c hc=>hkids c (List.mem_of_mem_erase (List.mem_of_mem_erase hc))]
    have hcd:(nd l child).kind=1:=by
      rcases(R.kid p hp child hch).2.2.2 with q|q
      ·exact q
      ·exact absurd h0 q.2
    have hone:cC l ((nd l p).kids.erase child)=0:=by
      have hp2:=(List.perm_cons_erase hch).countP_eq (fun c=>decide ((nd l c).kind=1))
      rw[List.countP_cons,if_pos (by simpa using hcd)] at hp2
      unfold cC at hel ⊢;omega
    have hz:cC l (((nd l p).kids.erase child).erase n)=0:=by
      have:cC l (((nd l p).kids.erase child).erase n)≤cC l ((nd l p).kids.erase child):=List.Sublist.countP_le List.erase_sublist
      omega
    rw[hz]
    have hks:∀k,ae l k=true→(nd (aZ l child) k).kind=(nd l k).kind:=fun k hk=>(L k hk).1.kind
    have fin:∀cs:List Int,(∀c∈cs,ae l c=true)→(∀c∈cs,(nd l c).kind=1∨(nd l c).kind=2)→child∉cs→gp l p child cs=false→(∀k∈cs,(nd (aZ l child) k).kind=1)∧cs.length+0≤1:=by
      intro cs hcs hkd hno hcr
      unfold gp at hcr
      rw[jN l hno 1,jN l hno 2] at hcr
      simp only[Bool.or_eq_false_iff,Bool.and_eq_false_iff,cR] at hcr
      have:=rW hkd (by omega)
      refine⟨fun k hk=>by rw[hks k (hcs k hk)];exact this.1 k hk,?_⟩
      rw[this.2] at hcr
      omega
    by_cases e5:(nd l n).kind=3
    · have hpar2:dn l n=(nd l n).kids:=by unfold dn;rw[if_pos e5]
      rw[if_pos e5] at h
      rw[hpar2]
      have hnp:n≠p:=fun q=>by
        have:=e1'.2
        unfold iP at this
        rw[q] at this
        simp[U.cj R.tree hp] at this
      refine fin _ (fun c hc=>(R.kid n hn c hc).1) (fun c hc=>by have:=(R.kid n hn c hc).2.2.2;omega) (fun q=>hnp ((R.kid n hn child q).2.1.symm.trans hpar)) ?_
      by_cases q:gp l p child (nd l n).kids=true
      ·rw[if_pos (by simp[h0,q])] at h;omega
      ·simpa using q
    · rw [if_neg e5] at h
      rw[gL e5]
      by_cases en:child=n
      · subst en
        exact⟨fun k hk=>by rw[gA.1 hk,hks child hn];exact hcd,by simp⟩
      · refine fin _ (fun c hc=>by rw[gA.1 hc];exact hn) (fun c hc=>by rw[gA.1 hc];omega) (by simpa using en) ?_
        by_cases q:gp l p child [n]=true
        ·rw[if_pos (by simp[h0,q])] at h;omega
        ·simpa using q
end
section
variable {l l' : List ai} {m : Int}
theorem xV {n:Int}(h:(nd l n).parent=-1):aZ l n=l:=by unfold aZ;rw[if_pos h]
end
def eC (f:ForM)(n p child:Int):ForM×List aJ×Int:=if mB f n p child=0 then(⟨(dg (f.nodes,[]) n p (eR f n p child)).1,f.most⟩,(dg (f.nodes,[]) n p (eR f n p child)).2,0) else(f,[],mB f n p child)
def dD (f:ForM)(n:Int):ForM×List aJ×Int:=if(bt f&&ae f.nodes n)=true then(if(nd f.nodes n).parent=-1 then(f,[],6) else(⟨(cr (f.nodes,[]) n).1,f.most⟩,(cr (f.nodes,[]) n).2,0)) else(f,[],1)
def gZ (l:List ai)(n p child:Int):Int:=if cw (nd l p).kids child≠n then cw (nd l p).kids child else cw (nd l p).kids n
def replaceM (f:ForM)(n p child:Int):ForM×List aJ×Int:=if jY f n p child=0 then(⟨(dg (cr (f.nodes,[]) child) n p (gZ f.nodes n p child)).1,f.most⟩,(dg (cr (f.nodes,[]) child) n p (gZ f.nodes n p child)).2,0) else(f,[],jY f n p child)
section
variable {l l' : List ai} {m : Int}
theorem rC {f:ForM}{n p child:Int}(h:mB f n p child≠0):eC f n p child=(f,[],mB f n p child):=by unfold eC;rw[if_neg h]
theorem nJ (R:RF l m){n p child:Int}:dN ⟨l,m⟩ n p child=true↔ (ae l n=true∧ae l p=true)∧(child=-1∨ae l child=true):=by
  unfold dN
  rw[ck.2 R]
  simp only[bN,j8,bH,Bool.true_and]
theorem xQ (R:RF l m){n p child:Int}(hn:ae l n=true)(hp:ae l p=true)(hc:child=-1∨ae l child=true):mB ⟨l,m⟩ n p child=fg l p child (-1) n:=by
  unfold mB;rw[if_pos ((nJ R).2 ⟨⟨hn,hp⟩,hc⟩)]
theorem sS (R:RF l m){n:Int}(hn:ae l n=true)(hp:(nd l n).parent≠-1):dD ⟨l,m⟩ n=(⟨aZ l n,m⟩,(if ei l n=true then ig l n (fM 2 0 0) else[]),0):=by
  unfold dD
  rw[if_pos (by rw[ck.2 R,hn];rfl),if_neg hp,jQ]
  unfold cr
  rw[if_neg hp,List.nil_append]
theorem o3 (R:RF l m){n:Int}(hn:ae l n=true)(hp:(nd l n).parent=-1):dD ⟨l,m⟩ n=(⟨l,m⟩,[],6):=by
  unfold dD
  rw[if_pos (by rw[ck.2 R,hn];rfl),if_pos hp]
theorem tq {n p b:Int}(h:(nd l n).kind≠3)(t:List aJ):dg (l,t) n p b=cD p b (l,t) n:=by
  unfold dg
  rw[gL h,if_neg h];rfl
end
section
variable {l l' : List ai} {m : Int}
end
def zQ (b:Bool):Int:=if b=true then 1 else 0
def kG (s:Int×Int)(x:aJ):Option (Int×Int):=
  match(if x.kind=1 then some (s.1+1,s.2) else if x.kind=2 then some (s.1-1,s.2) else if x.kind=3 then(if x.src≠s.2∨x.dst=s.2∨s.1≠0 then none else some (s.1,x.dst)) else some s:Option (Int×Int)) with
  |none=>none
  |some t=>if t.1<0∨1<t.1 then none else some t
def runN:Int×Int→List aJ→Option (Int×Int)
  |s,[]=>some s
  | s,x::r=>match kG s x with
    |none=>none
    |some t=>runN t r
theorem pS:∀ (a b:List aJ) (s:Int×Int),runN s (a++b)=match runN s a with
    |none=>none
    |some t=>runN t b
  |[],b,s=>rfl
  | x::a,b,s=>by
    show(match kG s x with|none=>none|some t=>runN t (a++b))=match(match kG s x with|none=>none|some t=>runN t a) with|none=>none|some t=>runN t b
    cases kG s x with
    |none=>rfl
    |some t=>exact pS a b t
def bY (n:Int)(ns:List aJ):List aJ:=ns.filter fun x=>decide (x.node=n)
theorem ng (n:Int)(a b:List aJ):bY n (a++b)=bY n a++bY n b:=List.filter_append ..
structure Told (l l':List ai) (ns:List aJ):Prop where
  el:∀x∈ns,ae l x.node=true∧(nd l x.node).kind=1
  run:∀n,ae l n=true→(nd l n).kind=1→runN (zQ (ei l n),(nd l n).doc) (bY n ns)=some (zQ (ei l' n),(nd l' n).doc)
theorem Told.nil (l:List ai):Told l l []:=⟨fun x hx=>by simp at hx,fun n _ _=>rfl⟩
theorem Told.trans {a b c:List ai}{x y:List aJ}(hl:b.length=a.length)(hk:∀n,ae a n=true→(nd b n).kind=(nd a n).kind)(h:Told a b x)(k:Told b c y):Told a c (x++y):=by
  have T:=aV hl
  refine⟨fun z hz=>?_,fun n hn h1=>?_⟩
  · rcases List.mem_append.1 hz with q|q
    ·exact h.el z q
    · have:=k.el z q
      rw[T] at this
      exact⟨this.1,by rw[←hk _ this.1];exact this.2⟩
  · rw[ng,pS,h.run n hn h1]
    exact k.run n (by rw[T];exact hn) (by rw[hk n hn];exact h1)
section
variable {l l' : List ai} {m : Int}
theorem Hq (R:RF l m){n a:Int}(hn:ae l n=true)(ha:a∈U.bf l n):lS l n=lS l a:=by
  obtain⟨t,ht⟩:=U.gw R.tree n hn a ha
  obtain⟨r,hr⟩:=U.dI R.tree (U.iE R.tree n hn a ha)
  unfold lS
  rw[ht,hr,List.getLast?_append]
  cases h:(a::r).getLast? with
  |none=>simp at h
  |some z=>rfl
theorem wI (R:RF l m){n a:Int}(hn:ae l n=true)(ha:a∈U.bf l n):ei l n=ei l a:=by unfold ei;rw[Hq R hn ha]
theorem w6 (R:RF l m){k n:Int}(hn:ae l n=true)(hk:ae l k=true)(ht:cP (nd l k)=-1)(h0:(nd l k).kind≠0)(h:k∈U.bf l n):ei l n=false:=by
  rw[wI R hn h]
  unfold ei
  rw[wX R.tree hk ht,dx h0]
theorem pP (R:RF l m){n:Int}(hn:ae l n=true)(hw:U.bf l' n=U.bf l n)(hk:∀x,ae l x=true→(nd l' x).kind=(nd l x).kind):ei l' n=ei l n:=by
  have e:lS l' n=lS l n:=by unfold lS;rw[hw]
  unfold ei
  rw[e,hk _ (uZ R.tree n hn)]
theorem nF (R:RF l m){k n:Int}(hk:ae l k=true):n∈A9 l k↔ (ae l n=true∧k∈U.bf l n)∧(nd l n).kind=1:=by
  unfold A9
  rw[List.mem_filter,bH]
  refine and_congr_left fun _=>?_
  constructor
  ·intro h;exact U.dM R.tree _ k hk n h
  ·rintro⟨h1,h2⟩;exact(U.ju R.tree hk h1).2 h2
theorem C7 (R:RF l m){k:Int}(hk:ae l k=true):(A9 l k).Nodup:=(U.jD R.tree _ k hk).filter _
theorem DQ {cs:List Int}(x:aJ)(n:Int)(hd:cs.Nodup):bY n (cs.map fun k=>{x with node:=k})=if n∈cs then[{x with node:=n}] else[]:=by
  unfold bY
  induction cs with
  |nil=>rfl
  | cons a r ih=>
    rw[List.nodup_cons] at hd
    rw[List.map_cons,List.filter_cons,ih hd.2]
    by_cases e:a=n
    · subst e
      rw[if_pos (by simp),if_neg hd.1,if_pos gj]
    · rw[if_neg (by simpa using e)]
      by_cases c:n∈r
      ·rw[if_pos c,if_pos (eP _ c)]
      ·rw[if_neg c,if_neg (fun q=>(dU.1 q).elim (fun w=>e w.symm) c)]
theorem jS (R:RF l m){k:Int}(hk:ae l k=true)(x:aJ)(n:Int):bY n (ig l k x)=if n∈A9 l k then[{x with node:=n}] else[]:=DQ x n (C7 R hk)
theorem xe (R:RF l m){k:Int}(hk:ae l k=true){x y:aJ}(h:y∈ig l k x):ae l y.node=true∧(nd l y.node).kind=1:=by
  unfold ig at h
  obtain⟨n,hn,rfl⟩:=List.mem_map.1 h
  have:=(nF R hk).1 hn
  exact⟨this.1.1,this.2⟩
theorem As (R:RF l m){k n:Int}(hk:ae l k=true)(hn:ae l n=true)(h:k∈U.bf l n):k∈U.bf (aZ l k) n:=by
  have R1:=cZ R hk
  have T:=aV (cm l k)
  have key :∀y,ae l y=true→k∈U.bf l y→k∈U.bf (aZ l k) y:=by
    refine U.gB R.tree (P:=fun y=>k∈U.bf l y→k∈U.bf (aZ l k) y) (fun y hy hu hw=>?_) (fun y hy hu hy2 ih hw=>?_)
    · rw[U.dL R.tree hy hu,gA] at hw
      subst hw;exact U.cj R1.tree (by rw[T];exact hy)
    · by_cases e:y=k
      ·rw[e];exact U.cj R1.tree (by rw[T];exact hk)
      · rw [U.bQ R.tree hy hu] at hw
        have hw2:=ih ((dU.1 hw).resolve_left fun q=>e q.symm)
        have hup:cP (nd (aZ l k) y)=cP (nd l y):=by
          obtain⟨h1,_,h3,_⟩:=dH R hk y hy
          unfold cP;rw[h3,if_neg e,h1.host]
        rw[U.bQ R1.tree (by rw[T];exact hy) (by rw[hup];exact hu),hup]
        exact eP _ hw2
  exact key n hn h
def ir (ns:List aJ):Prop:=∀x∈ns,x.kind≠4
theorem ir.nil:ir []:=fun x hx=>by simp at hx
theorem ir.app {a b:List aJ}(h:ir a)(k:ir b):ir (a++b):=fun x hx=>(List.mem_append.1 hx).elim (h x) (k x)
theorem ir.tell (l:List ai)(k:Int){x:aJ}(h:x.kind≠4):ir (ig l k x):=fun y hy=>by
  unfold ig at hy
  obtain⟨n,_,rfl⟩:=List.mem_map.1 hy
  exact h
theorem ir.ite {b:Bool}{a:List aJ}(h:ir a):ir (if b=true then a else[]):=by
  split
  ·exact h
  ·exact .nil
theorem pV (R:RF l m){k:Int}(hk:ae l k=true)(hkk:(nd l k).kind=1∨(nd l k).kind=2)(t:List aJ):∃ns,cr (l,t) k=(aZ l k,t++ns)∧Told l (aZ l k) ns∧ir ns:=by
  by_cases hp:(nd l k).parent=-1
  · refine⟨[],?_,?_,.nil⟩
    ·unfold cr;rw[if_pos hp,xV hp,List.append_nil]
    ·rw[xV hp];exact .nil l
  have R1:=cZ R hk
  have T:=aV (cm l k)
  have L:=dH R hk
  have htop:=wR R hk hkk
  refine⟨if ei l k=true then ig l k (fM 2 0 0) else[],by unfold cr;rw[if_neg hp],⟨fun x hx=>?_,fun n hn h1=>?_⟩,.ite (.tell _ _ (by decide))⟩
  · split at hx
    ·exact xe R hk hx
    ·cases hx
  rw[(L n hn).2.1]
  by_cases hw:k∈U.bf l n
  · have hc:=wI R hn hw
    have hc2:ei (aZ l k) n=false:=w6 R1 (by rw[T];exact hn) (by rw[T];exact hk) htop (by rw[(L k hk).1.kind];omega) (As R hk hn hw)
    rw[hc,hc2]
    cases e:ei l k with
    | true=>
      rw[if_pos rfl,jS R hk,if_pos ((nF R hk).2 ⟨⟨hn,hw⟩,h1⟩)]
      rfl
    |false=>rw[if_neg (by simp)];rfl
  · have hw2:U.bf (aZ l k) n=U.bf l n:=sx R hk hn hw
    rw[pP R hn hw2 fun x hx=>(L x hx).1.kind]
    have:bY n (if ei l k=true then ig l k (fM 2 0 0) else[])=[]:=by
      split
      ·rw[jS R hk,if_neg (fun q=>hw ((nF R hk).1 q).1.2)]
      ·rfl
    rw[this];rfl
theorem E8 (R:RF l m){k d:Int}(hk:ae l k=true)(htop:cP (nd l k)=-1)(hkk:(nd l k).kind≠0)(hd:j7 l d 0=true)(hne:(nd l k).doc≠d):Told l (l5 l (U.bT l l.length k) d) (ig (l5 l (U.bT l l.length k) d) k (fM 3 (nd l k).doc d)):=by
  have R1:=wg R hk htop hkk hd
  have T:=aV (pH d (U.bT l l.length k) l)
  have L:=pz (d:=d) (s:=U.bT l l.length k) (l:=l) (fun j hj=>(U.dM R.tree _ k hk j hj).1)
  have hway:∀n,ae l n=true→U.bf (l5 l (U.bT l l.length k) d) n=U.bf l n:=fun n hn=>by
    rw[rX,rX,pH]
    refine(lq (P:=fun x=>ae l x=true) (k:=-1) (g:=fun n=>cP (nd l n)) (g':=fun n=>cP (nd (l5 l (U.bT l l.length k) d) n)) (fun y hy _=>?_) (fun y hy h=>R.up hy h) hn (by rw[←gU];exact R.ends n hn) (fun h=>?_)).2
    · show cP _=cP _
      unfold cP;rw[(L y hy).2.2.1,(L y hy).1.host]
    · have:=bj (Lb (P:=fun n=>ae l n=true) (fun n hn hne=>R.up hn hne) hn _ h)
      omega
  refine⟨fun x hx=>?_,fun n hn h1=>?_⟩
  · have:=xe R1 (by rw[T];exact hk) hx
    rw[T] at this
    exact⟨this.1,by rw[←(L _ this.1).1.kind];exact this.2⟩
  rw[pP R hn (hway n hn) fun x hx=>(L x hx).1.kind,jS R1 (by rw[T];exact hk)]
  have hm:n∈A9 (l5 l (U.bT l l.length k) d) k↔k∈U.bf l n:=by
    rw[nF R1 (by rw[T];exact hk),T,hway n hn,(L n hn).1.kind]
    exact⟨fun h=>h.1.2,fun h=>⟨⟨hn,h⟩,h1⟩⟩
  have hin:n∈U.bT l l.length k↔k∈U.bf l n:=U.ju R.tree hk hn
  rw[(L n hn).2.1]
  by_cases hw:k∈U.bf l n
  · rw [if_pos (hm.2 hw),if_pos (hin.2 hw),w6 R hn hk htop hkk hw,Bk R hn hw]
    have h2:¬ ((nd l k).doc≠ (nd l k).doc∨d=(nd l k).doc∨(0:Int)≠0):=by
      rintro(h|h|h)
      ·exact h rfl
      ·exact hne h.symm
      ·exact h rfl
    show(match(match(if(3:Int)=1 then some ((0:Int)+1,(nd l k).doc) else if(3:Int)=2 then some ((0:Int)-1,(nd l k).doc) else if(3:Int)=3 then(if(nd l k).doc≠ (nd l k).doc∨d=(nd l k).doc∨(0:Int)≠0 then none else some ((0:Int),d)) else some ((0:Int),(nd l k).doc):Option (Int×Int)) with|none=>none|some t=>if t.1<0∨1<t.1 then none else some t) with|none=>none|some t=>runN t [])=_
    rw[if_neg (by decide),if_neg (by decide),if_pos rfl,if_neg h2]
    rfl
  ·rw[if_neg (fun q=>hw (hm.1 q)),if_neg (fun q=>hw (hin.1 q))];rfl
theorem Cy (R:RF l m){k p b:Int}(hk:ae l k=true)(hp:ae l p=true)(htop:cP (nd l k)=-1)(hkk:(nd l k).kind≠0)(hw0:k∉U.bf l p)(R1:RF (dP l k p b) m):Told l (dP l k p b) (if ei (dP l k p b) k=true then ig (dP l k p b) k (fM 1 0 0) else[]):=by
  have hne:k≠p:=fun e=>hw0 (by rw[e];exact U.cj R.tree hp)
  have T:=aV (iO l k p b)
  have L:=nO (b:=b) hk hp hne
  have hk1:ae (dP l k p b) k=true:=by rw[T];exact hk
  have hkeep:∀n,ae l n=true→k∉U.bf l n→U.bf (dP l k p b) n=U.bf l n:=fun n hn hw=>by
    refine o8 R (iO ..) hn hw fun x hx hne=>?_
    obtain⟨h1,_,h3,_⟩:=L x hx
    unfold cP;rw[h3,if_neg hne,h1.host]
  have hin :∀n,ae l n=true→k∈U.bf l n→k∈U.bf (dP l k p b) n:=by
    refine U.gB R.tree (P:=fun y=>k∈U.bf l y→k∈U.bf (dP l k p b) y) (fun y hy hu hw=>?_) (fun y hy hu hy2 ih hw=>?_)
    · rw[U.dL R.tree hy hu,gA] at hw
      subst hw;exact U.cj R1.tree (by rw[T];exact hy)
    · by_cases e:y=k
      ·rw[e];exact U.cj R1.tree hk1
      · rw [U.bQ R.tree hy hu] at hw
        have hw2:=ih ((dU.1 hw).resolve_left fun q=>e q.symm)
        have hup:cP (nd (dP l k p b) y)=cP (nd l y):=by
          obtain⟨h1,_,h3,_⟩:=L y hy
          unfold cP;rw[h3,if_neg e,h1.host]
        rw[U.bQ R1.tree (by rw[T];exact hy) (by rw[hup];exact hu),hup]
        exact eP _ hw2
  refine⟨fun x hx=>?_,fun n hn h1=>?_⟩
  · split at hx
    · have:=xe R1 hk1 hx
      rw[T] at this
      exact⟨this.1,by rw[←(L _ this.1).1.kind];exact this.2⟩
    ·cases hx
  rw[(L n hn).2.1]
  by_cases hw:k∈U.bf l n
  · have hw2:=hin n hn hw
    rw[w6 R hn hk htop hkk hw,wI R1 (by rw[T];exact hn) hw2]
    cases e:ei (dP l k p b) k with
    | true=>
      rw[if_pos rfl,jS R1 hk1,if_pos ((nF R1 hk1).2 ⟨⟨by rw[T];exact hn,hw2⟩,by rw[(L n hn).1.kind];exact h1⟩)]
      rfl
    |false=>rw[if_neg (by simp)];rfl
  · rw [pP R hn (hkeep n hn hw) fun x hx=>(L x hx).1.kind]
    have :bY n (if ei (dP l k p b) k=true then ig (dP l k p b) k (fM 1 0 0) else[])=[]:=by
      split
      · rw[jS R1 hk1,if_neg (fun q=>hw ?_)]
        have q2:=((nF R1 hk1).1 q).1.2
        rwa [hkeep n hn hw] at q2
      ·rfl
    rw[this];rfl
end
section
variable {l l' : List ai} {m : Int}
theorem Dz (R:RF l m){k d:Int}(hk:ae l k=true)(hkk:(nd l k).kind=1∨(nd l k).kind=2)(hd:j7 l d 0=true)(t:List aJ):∃ns,iU (l,t) k d=(bZ l k d,t++ns)∧Told l (bZ l k d) ns∧ir ns:=by
  obtain⟨ns,h1,h2,h9⟩:=pV R hk hkk t
  have R1:=cZ R hk
  have T:=aV (cm l k)
  have L:=dH R hk
  by_cases e:(nd (aZ l k) k).doc=d
  · refine⟨ns,?_,?_,h9⟩
    · unfold iU
      rw[h1,if_pos e]
      unfold bZ;rw[if_pos e]
    ·unfold bZ;rw[if_pos e];exact h2
  · have he:bZ l k d=l5 (aZ l k) (U.bT (aZ l k) (aZ l k).length k) d:=by unfold bZ;rw[if_neg e]
    have h3:=E8 R1 (d:=d) (by rw[T];exact hk) (wR R hk hkk) (by rw[(L k hk).1.kind];omega) (by rw[xz (cm ..) fun x hx=>(L x hx).1];exact hd) e
    rw[←he] at h3
    refine⟨ns++ig (bZ l k d) k (fM 3 (nd (aZ l k) k).doc d),?_,h2.trans (cm ..) (fun n hn=>(L n hn).1.kind) h3,h9.app (.tell _ _ (by show(3:Int)≠4;decide))⟩
    unfold iU
    rw[h1,if_neg e,List.append_assoc]
theorem v7 (R:RF l m){k p b:Int}(C:fD l k p b)(t:List aJ):∃ns,cD p b (l,t) k=(cG l k p b,t++ns)∧Told l (cG l k p b) ns∧ir ns:=by
  have hd:=(R.own p C.tp).1
  obtain⟨ns,h1,h2,h9⟩:=Dz R C.tk C.kk hd t
  have R1:=jM R C.tk C.kk hd
  have L:=gP R (d:=(nd l p).doc) C.tk C.kk
  have T:=aV (eH l k (nd l p).doc)
  have htop:cP (nd (bZ l k (nd l p).doc) k)=-1:=by
    rw[R1.Bx (by rw[T];exact C.tk) (by rw[(L k C.tk).1.kind];exact C.kk),(L k C.tk).2.1,if_pos rfl]
  have h3:=Cy R1 (b:=b) (by rw[T];exact C.tk) (by rw[T];exact C.tp) htop (by rw[(L k C.tk).1.kind];have:=C.kk;omega) (by rw[yK R C.tk C.kk C.tp C.w];exact C.w) (gC R C)
  refine⟨ns++ (if ei (cG l k p b) k=true then ig (cG l k p b) k (fM 1 0 0) else[]),?_,h2.trans (eH ..) (fun n hn=>(L n hn).1.kind) h3,h9.app (.ite (.tell _ _ (by decide)))⟩
  unfold cD
  simp only[h1,List.append_assoc]
theorem vV:∀ (ks:List Int) {l:List ai},RF l m→(∀k∈ks,ae l k=true∧((nd l k).kind=1∨(nd l k).kind=2))→∀t,∃ns,ks.foldl cr (l,t)=(ks.foldl aZ l,t++ns)∧Told l (ks.foldl aZ l) ns∧ir ns
  |[],l,_,_,t=>⟨[],by rw[List.append_nil];rfl,.nil l,.nil⟩
  | k ::ks,l,R,h,t=>by
    have hk:=h k gj
    have L:=dH R hk.1
    have T:=aV (cm l k)
    obtain⟨n1,h1,h2,h8⟩:=pV R hk.1 hk.2 t
    obtain⟨n2,h3,h4,h9⟩:=vV ks (cZ R hk.1) (fun j hj=>by
      have q:=h j (eP _ hj)
      rw[T,(L j q.1).1.kind];exact q) (t++n1)
    refine⟨n1++n2,?_,h2.trans (cm ..) (fun n hn=>(L n hn).1.kind) h4,h8.app h9⟩
    show ks.foldl cr (cr (l,t) k)=_
    rw[h1,h3,List.append_assoc];rfl
theorem tL {p b:Int}:∀ (ks:List Int) {l:List ai},RF l m→ks.Nodup→(∀k∈ks,fD l k p b)→((nd l p).kind=0→ks.length≤1)→∀t,∃ns,ks.foldl (cD p b) (l,t)=(ks.foldl (fun l k=>cG l k p b) l,t++ns)∧Told l (ks.foldl (fun l k=>cG l k p b) l) ns∧ir ns
  |[],l,_,_,_,_,t=>⟨[],by rw[List.append_nil];rfl,.nil l,.nil⟩
  | k ::ks,l,R,hd,h,h0,t=>by
    rw[List.nodup_cons] at hd
    have C:=h k gj
    have L:=gJ R C
    obtain⟨n1,h1,h2,h8⟩:=v7 R C t
    obtain⟨n2,h3,h4,h9⟩:=tL (p:=p) (b:=b) ks (gC R C) hd.2 (fun j hj=>nR R C (h j (eP _ hj)) (fun e=>hd.1 (e▸hj)) (fun e=>by
      have q1:(k::ks).length≤1:=h0 e
      have q2:=List.length_pos_of_mem hj
      rw[List.length_cons] at q1;omega)) (fun e=>by
      rw[(L p C.tp).1.kind] at e
      have q1:(k::ks).length≤1:=h0 e
      rw[List.length_cons] at q1;omega) (t++n1)
    refine⟨n1++n2,?_,h2.trans (fF ..) (fun n hn=>(L n hn).1.kind) h4,h8.app h9⟩
    show ks.foldl (cD p b) (cD p b (l,t) k)=_
    rw[h1,h3,List.append_assoc];rfl
theorem yp (R:RF l m){n p b:Int}(C:nB l n p b)(t:List aJ):∃ns,(dg (l,t) n p b).2=t++ns∧Told l (dg (l,t) n p b).1 ns∧ir ns:=by
  by_cases h3:(nd l n).kind=3
  · have hpar:dn l n=(nd l n).kids:=by unfold dn;rw[if_pos h3]
    have hks:∀k∈ (nd l n).kids,ae l k=true∧((nd l k).kind=1∨(nd l k).kind=2):=fun k hk=>by
      have q:=R.kid n C.tn k hk
      exact⟨q.1,by have:=q.2.2.2;omega⟩
    obtain⟨h1,h2,h4,h5⟩:=nu R C h3
    have L:=iB (nd l n).kids R (fun k hk=>(hks k hk).1) n (fun k hk=>.inl (R.kid n C.tn k hk).2.1)
    obtain⟨n1,k1,k2,k8⟩:=vV (nd l n).kids R hks t
    obtain⟨n2,k3,k4,k9⟩:=tL (p:=p) (b:=b) (nd l n).kids h1 (R.dup n C.tn) (fun k hk=>(h4 k hk).1) (fun e=>h5 (by rw[←(L p C.tp).1.kind];exact e)) (t++n1)
    have e:dg (l,t) n p b=((nd l n).kids.foldl (fun l k=>cG l k p b) ((nd l n).kids.foldl aZ l),t++n1++n2):=by
      unfold dg
      simp only[hpar,if_pos h3]
      rw[k1,k3]
    rw[e]
    exact⟨n1++n2,List.append_assoc ..,k2.trans h2 (fun n hn=>(L n hn).1.kind) k4,k8.app k9⟩
  · rw[tq h3]
    obtain⟨ns,h1,h2,h9⟩:=v7 R (nG C h3) t
    rw[h1]
    exact⟨ns,rfl,h2,h9⟩
end
structure rO (x y:ai):Prop where
  kind:x.kind=y.kind
  parent:x.parent=y.parent
  kids:x.kids=y.kids
  host:x.host=y.host
  under:x.under=y.under
  doc:x.doc=y.doc
theorem rO.refl (x:ai):rO x x:=⟨rfl,rfl,rfl,rfl,rfl,rfl⟩
section
variable {l l' : List ai} {m : Int}
theorem Ed (hl:l'.length=l.length)(hs:∀x,ae l x=true→rO (nd l' x) (nd l x))(a k:Int):j7 l' a k=j7 l a k:=by
  unfold j7
  rw[aV hl]
  cases h:ae l a with
  |false=>rfl
  |true=>rw[(hs a h).kind]
theorem xJ {x y:ai}(h:rO x y):cP x=cP y:=by unfold cP;rw[h.parent,h.host]
theorem RF.same (R:RF l m)(hl:l'.length=l.length)(hs:∀x,ae l x=true→rO (nd l' x) (nd l x))(hn:∀x,ae l x=true→fo (nd l' x)=true):RF l' m:=by
  have T:=aV hl
  have I:=Ed hl hs
  have isT:∀ {a k:Int},j7 l a k=true→ae l a=true:=fun h=>by unfold j7 at h;rw[bN] at h;exact h.1
  refine⟨?_,fun n h0=>?_,fun n h0=>?_,fun n h0 h=>?_,fun n h0 c hc=>?_,fun n h0=>?_,fun n h0 h=>?_,fun n h0 h=>?_,fun n h0 h=>?_,fun n h0 h=>?_,fun n h0 h=>?_,fun n h0=>?_⟩
  · have:=R.head
    unfold oz at this ⊢
    rw[hl,(hs 0 R.pos).kind];exact this
  all_goals rw[T] at h0
  all_goals have S:=hs n h0
  ·exact hn n h0
  ·rw[I,S.kind,S.doc];exact R.own n h0
  · rw[S.parent] at h ⊢
    have q:=R.par n h0 h
    rw[T,S.kind,(hs _ q.2.1).kind,(hs _ q.2.1).kids];exact q
  · rw[S.kids] at hc
    have q:=R.kid n h0 c hc
    rw[T,S.kind,S.doc,(hs c q.1).kind,(hs c q.1).parent,(hs c q.1).doc];exact q
  ·rw[S.kids];exact R.dup n h0
  ·rw[S.kids] at h;rw[S.kind];exact R.hold n h0 h
  · rw [S.kind] at h
    rw[S.kids]
    have:cC l' (nd l n).kids=cC l (nd l n).kids:=by
      unfold cC
      exact List.countP_congr fun c hc=>by rw[(hs c (R.kid n h0 c hc).1).kind]
    rw[this];exact R.elems n h0 h
  · rw[S.kind] at h
    have q:=R.host n h0 h
    rw[I,S.host,S.doc,(hs _ (isT q.1)).under,(hs _ (isT q.1)).doc];exact q
  · rw[S.kind] at h
    rw[S.host];exact R.noh n h0 h
  · rw[S.under] at h
    have q:=R.und n h0 h
    rw[I,S.kind,S.under,(hs _ (isT q.2.1)).host];exact q
  · rw[hl,gU]
    refine su (g:=fun n=>cP (nd l n)) (P:=fun x=>ae l x=true) (fun y hy=>.inl (xJ (hs y hy))) (fun y hy h=>R.up hy h) h0 (by rw[←gU];exact R.ends n h0)
def iv (l:List ai)(n:Int)(xs:List AttrM):List ai:=nZ l n fun x=>{x with attrs:=xs}
theorem gV (l:List ai)(n:Int)(xs:List AttrM):(iv l n xs).length=l.length:=hO ..
theorem Ek {n x:Int}{xs:List AttrM}(hn:ae l n=true)(hx:ae l x=true):nd (iv l n xs) x=if x=n then{nd l x with attrs:=xs} else nd l x:=by
  unfold iv
  rw[mZ _ hn hx]
  by_cases e:x=n
  ·subst e;simp
  ·rw[if_neg e,if_neg e]
theorem s8 {n:Int}{xs:List AttrM}(hn:ae l n=true)(x:Int)(hx:ae l x=true):rO (nd (iv l n xs) x) (nd l x)∧(nd (iv l n xs) x).name=(nd l x).name∧(nd (iv l n xs) x).attrs=if x=n then xs else(nd l x).attrs:=by
  rw[Ek hn hx]
  by_cases e:x=n
  ·rw[if_pos e,if_pos e];exact⟨⟨rfl,rfl,rfl,rfl,rfl,rfl⟩,rfl,rfl⟩
  ·rw[if_neg e,if_neg e];exact⟨.refl _,rfl,rfl⟩
theorem Cz (R:RF l m){n:Int}{xs:List AttrM}(hn:ae l n=true)(hk:(nd l n).kind=1)(ha:cn xs=true):RF (iv l n xs) m:=by
  refine R.same (gV ..) (fun x hx=>(s8 hn x hx).1) fun x hx=>?_
  rw[Ek hn hx]
  have:=R.Gl x hx
  split
  · rename_i e
    subst e
    unfold fo at this ⊢
    rw[if_pos hk] at this
    simp only[bN] at this ⊢
    rw[if_pos hk]
    simp only[bN]
    exact⟨this.1,ha⟩
  ·exact this
theorem Ee (hl:l'.length=l.length)(R:RF l m)(hs:∀x,ae l x=true→rO (nd l' x) (nd l x)){x:Int}(hx:ae l x=true):U.bf l' x=U.bf l x:=by
  rw[rX,rX,hl]
  exact(lq (P:=fun x=>ae l x=true) (k:=-1) (g:=fun n=>cP (nd l n)) (g':=fun n=>cP (nd l' n)) (fun y hy _=>xJ (hs y hy)) (fun y hy h=>R.up hy h) hx (by rw[←gU];exact R.ends x hx) (fun h=>by
    have:=bj (Lb (P:=fun n=>ae l n=true) (fun n hn hne=>R.up hn hne) hx _ h)
    omega)).2
end
section
variable {l l' : List ai} {m : Int}
theorem RF.Kn (R:RF l m):Tree l:=jv (f:=⟨l,m⟩) (ck.2 R)
end
section
variable {l l' : List ai} {m : Int}
end
end Go.Proofs.Heir
namespace Go.Proofs.Heir
open Go.Am Go.RowKit Go.Lib
set_option maxRecDepth 100000
theorem BQ (l:List AttrM)(hl:l.length≤100000):ak Tryz.prog 123 [] [cJ l] [EC l] (.own 0 0 l.length):=by
  have hlm:(l.map cV).length=l.length:=bW ..
  refine ak.aD (rvs:=[.tmp 2]) G au Tryz.func123 rfl Tryz.ntmps123 rfl rfl ?_;with_reducible refine wD ?_
  refine mO.mk (fun h=>?_) (fun _=>?_)<;>with_reducible refine wK ?_
  · obtain rfl:l=[]:=by simpa using h
    (refine eK ?_ ?_<;>with_reducible repeat' (first|exact trivial|(show _∧_;refine aK ?_ ?_)))
    all_goals first|rfl|trivial
  · refine iT.mk [] (l.map cV) ⟨rfl,rfl,rfl⟩ ⟨rfl,rfl,rfl⟩ (vC l) (by simp;omega) (by simp;omega) ?_;with_reducible refine wK ?_
    (refine eK ?_ ?_<;>with_reducible repeat' (first|exact trivial|(show _∧_;refine aK ?_ ?_)))
    ·exact hlm.symm
    ·exact bP (fW l)
end Go.Proofs.Heir
