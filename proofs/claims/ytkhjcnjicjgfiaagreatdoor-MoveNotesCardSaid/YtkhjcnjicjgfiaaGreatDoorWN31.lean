/- Models, plain laws and contracts of functions of the given program; conditions as stated in each theorem. By an AI agent. -/
import Derived.Test.YtkhjcnjicjgfiaaGreatDoorWN30
import Derived.Test.YtkhjcnjicjgfiaaGreatDoorWN28
import Derived.Test.YtkhjcnjicjgfiaaGreatDoorWN29
import Derived.Test.YtkhjcnjicjgfiaaGreatDoorWN11
import Derived.Test.YtkhjcnjicjgfiaaGreatDoorWN23
import Derived.Test.YtkhjcnjicjgfiaaGreatDoorWN22
import Derived.Test.YtkhjcnjicjgfiaaGreatDoorWN12
import Derived.Test.YtkhjcnjicjgfiaaGreatDoorWN15
import Derived.Test.YtkhjcnjicjgfiaaGreatDoorWN17
import Derived.Test.YtkhjcnjicjgfiaaGreatDoorWN14
set_option linter.unusedSimpArgs false
set_option linter.unusedVariables false
namespace Go.Proofs.Heir
open Go Go.Am Go.RowKit Go.Lib
set_option maxRecDepth 100000
set_option maxHeartbeats 8000000
set_option maxHeartbeats 4000000
section
variable {l : List ai} {m : Int}
theorem rU {p b:Int}{ks:List Int}(R:RF l m)(h60:l.length≤60)(hd:ks.Nodup)(ns:List aJ)(hC:∀k∈ks,fD l k p b∧((nd l k).parent=-1∨ks.length=1))(h0:(nd l p).kind=0→ks.length≤1)(tp:ae l p=true):
    ∀ j,j≤ks.length→RF ((ks.take j).foldl (cD p b) (l,ns)).1 m∧((ks.take j).foldl (cD p b) (l,ns)).1.length=l.length∧((ks.take j).foldl (cD p b) (l,ns)).2.length≤ns.length+180*j∧(nd ((ks.take j).foldl (cD p b) (l,ns)).1 p).kind=(nd l p).kind∧
      ∀i k,j≤i→ks[i]? =some k→fD ((ks.take j).foldl (cD p b) (l,ns)).1 k p b∧(nd ((ks.take j).foldl (cD p b) (l,ns)).1 k).parent=(nd l k).parent:=by
  intro j
  induction j with
  |zero=>exact fun _=>⟨R,rfl,Nat.le_refl _,rfl,fun i k _ hk=>⟨(hC k (bO hk)).1,rfl⟩⟩
  | succ j ih=>
    intro hj
    obtain⟨i1,i2,i3,i4,i5⟩:=ih (by omega)
    obtain⟨k,hk⟩:∃k,ks[j]? =some k:=⟨_,bD (by omega)⟩
    have hs:(ks.take (j+1)).foldl (cD p b) (l,ns)=cD p b ((ks.take j).foldl (cD p b) (l,ns)) k:=by
      rw[List.take_add_one,hk,List.foldl_append];rfl
    rw[hs]
    clear ih hs
    generalize(ks.take j).foldl (cD p b) (l,ns)=S at*
    obtain⟨s1,s2⟩:=S
    simp only at i1 i2 i3 i4 i5
    obtain⟨C,hp⟩:=i5 j k (Nat.le_refl _) hk
    obtain⟨kn,_,rfl,_,_⟩:=aU.1 C.tk
    have hl:=zg i1 (by omega) C (i1.own p C.tp).1 s2
    rw[uS]
    refine⟨gC i1 C,by rw[fF,i2],by omega,?_,?_⟩
    ·rw[(gJ i1 C p C.tp).1.kind,i4]
    · intro i c hi hc
      obtain⟨D,hq⟩:=i5 i c (by omega) hc
      have hne:c≠ (kn:Int):=fun e=>by
        have hil:=(aY hc).1
        have h1:=(aY hc).2
        have h2:=(aY hk).2
        exact(List.pairwise_iff_getElem.1 hd) j i (by omega) hil (by omega) (by rw[h1,h2,e])
      have hil:=(aY hc).1
      have hk0:(nd s1 p).kind≠0:=fun e=>by
        have:=h0 (by rw[←i4];exact e)
        omega
      refine⟨nR i1 C D hne hk0,?_⟩
      rw[(gJ i1 C c D.tk).2.1,if_neg hne,hq]
theorem tJ:∀ (ks:List Int) {l:List ai} (ns:List aJ),RF l m→l.length≤60→(∀k∈ks,ae l k=true)→(ks.foldl cr (l,ns)).2.length≤ns.length+60*ks.length
  |[],l,ns,R,h60,_=>by simp
  | k ::ks,l,ns,R,h60,h=>by
    have hk:=h k gj
    obtain⟨kn,_,rfl,_,_⟩:=aU.1 hk
    have h1:=qa R h60 (cA hk) ns
    have hf:=jQ (l,ns) (kn:Int)
    have hsp:cr (l,ns) (kn:Int)=(aZ l kn,(cr (l,ns) (kn:Int)).2):=by
      rw[←hf]
    have h2:=tJ ks (l:=aZ l kn) (cr (l,ns) (kn:Int)).2 (cZ R hk) (by rw[cm];exact h60) (fun j hj=>by rw[aV (cm ..)];exact h j (eP _ hj))
    rw[List.foldl_cons,hsp,List.length_cons]
    omega
theorem BP {n k:Int}{j:Nat}(h:[n][j]? =some k):j=0∧k=n:=by
  cases j with
  |zero=>cases h;exact⟨rfl,rfl⟩
  |succ j=>simp at h
theorem zc (R:RF l m)(h60:l.length≤60){n p:Nat}{before:Int}(C:nB l n p before)(h3:(nd l n).kind≠3)(h:(nd l n).parent=-1∨(nd l n).parent=(p:Int)){ns:List aJ}(hns:ns.length≤1000):
    ak Tryz.prog 75 [aL m l.length 4 (.own 3 0 ns.length),aA (nd l p).kids,aA (nd l n).kids,aN ns,aQ l p 1 n 2] [.ptr 0 0 0,ah n,ah p,ah before]
      [aL m l.length 4 (.own 7 0 (dg (l,ns) n p before).2.length),.dead,.dead,.dead,aQ (dg (l,ns) n p before).1 p 5 n 6,aA (nd (dg (l,ns) n p before).1 p).kids,aA (nd (dg (l,ns) n p before).1 n).kids,aN (dg (l,ns) n p before).2] (.tup []):=by
  have hnl:=cA C.tn
  have hpl:=cA C.tp
  have hne:n≠p:=fun e=>C.w (by rw[e];exact U.cj R.tree C.tp)
  have h27:=Ba ⟨l,m⟩ (c9 R h60) n _ (cF hnl) (ck.2 R)
  have hpo:=gL h3
  unfold dg
  simp only at h27 ⊢
  rw[if_neg h3,hpo]
  rw[hpo] at h27
  exact KE (m:=m) (L:=l.length) (a:=p) (b:=n) (n:=n) (before:=before) (parts:=[(n:Int)]) (ls:=fun j=>(([(n:Int)].take j).foldl (cD p before) (l,ns)).1) (nss:=fun j=>(([(n:Int)].take j).foldl (cD p before) (l,ns)).2)
    (kas:=fun j=>(nd (([(n:Int)].take j).foldl (cD p before) (l,ns)).1 p).kids) (kbs:=fun j=>(nd (([(n:Int)].take j).foldl (cD p before) (l,ns)).1 n).kids) hne (by simp) rfl (cF hnl) h3 cK cK h27
    (fun j k hk=>by
      obtain⟨rfl,rfl⟩:=BP hk
      exact GV R h60 hne (nG C h3) (R.own p C.tp).1 h (show ns.length≤70000 by omega))
theorem yQ (R:RF l m)(h60:l.length≤60){n p q:Nat}{before:Int}(C:nB l n p before)(h3:(nd l n).kind≠3)(hq:q<l.length)(hpq:p≠q)(hnq:n≠q)(h:(nd l n).parent=-1∨(nd l n).parent=(q:Int)){ns:List aJ}(hns:ns.length≤1000):
    ak Tryz.prog 75 [aL m l.length 4 (.own 3 0 ns.length),aA (nd l q).kids,aA (nd l p).kids,aN ns,aQ l q 1 p 2] [.ptr 0 0 0,ah n,ah p,ah before]
      [aL m l.length 4 (.own 7 0 (dg (l,ns) n p before).2.length),.dead,.dead,.dead,aQ (dg (l,ns) n p before).1 q 5 p 6,aA (nd (dg (l,ns) n p before).1 q).kids,aA (nd (dg (l,ns) n p before).1 p).kids,aN (dg (l,ns) n p before).2] (.tup []):=by
  have hnl:=cA C.tn
  have hpl:=cA C.tp
  have h27:=Ba ⟨l,m⟩ (c9 R h60) n _ (cF hnl) (ck.2 R)
  have hpo:=gL h3
  unfold dg
  simp only at h27 ⊢
  rw[if_neg h3,hpo]
  rw[hpo] at h27
  exact KB (m:=m) (L:=l.length) (a:=q) (b:=p) (n:=n) (before:=before) (parts:=[(n:Int)]) (ls:=fun j=>(([(n:Int)].take j).foldl (cD p before) (l,ns)).1) (nss:=fun j=>(([(n:Int)].take j).foldl (cD p before) (l,ns)).2)
    (kas:=fun j=>(nd (([(n:Int)].take j).foldl (cD p before) (l,ns)).1 q).kids) (kbs:=fun j=>(nd (([(n:Int)].take j).foldl (cD p before) (l,ns)).1 p).kids) hpq (by simp) rfl (cF hnl) h3 cK cK h27
    (fun j k hk=>by
      obtain⟨rfl,rfl⟩:=BP hk
      exact Cb R h60 hpq hq (nG C h3) (R.own p C.tp).1 hnq h (show ns.length≤70000 by omega))
theorem zE (R:RF l m)(h60:l.length≤60){n p:Nat}{before:Int}(C:nB l n p before)(h3:(nd l n).kind=3){ns:List aJ}(hns:ns.length≤1000):
    ak Tryz.prog 75 [aL m l.length 4 (.own 3 0 ns.length),aA (nd l n).kids,aA (nd l p).kids,aN ns,aQ l n 1 p 2] [.ptr 0 0 0,ah n,ah p,ah before]
      [aL m l.length 4 (.own 7 0 (dg (l,ns) n p before).2.length),.dead,.dead,.dead,aQ (dg (l,ns) n p before).1 n 5 p 6,aA (nd (dg (l,ns) n p before).1 n).kids,aA (nd (dg (l,ns) n p before).1 p).kids,aN (dg (l,ns) n p before).2] (.tup []):=by
  have hnl:=cA C.tn
  have hpl:=cA C.tp
  have hne:p≠n:=fun e=>C.w (by rw[←e];exact U.cj R.tree C.tp)
  have h27:=Ba ⟨l,m⟩ (c9 R h60) n _ (cF hnl) (ck.2 R)
  have hpo:dn l n=(nd l n).kids:=by unfold dn;rw[if_pos h3]
  obtain⟨hf1,hf2,hf3,hf4⟩:=nu R C h3
  have hks:∀k∈ (nd l n).kids,ae l k=true:=fun k hk=>(R.kid n C.tn k hk).1
  have hdup:=R.dup n C.tn
  have hkl:(nd l n).kids.length≤60:=(c9 R h60).kids _ (bO (cF hnl))
  have hpar:∀k∈ (nd l n).kids,(nd l k).parent=n:=fun k hk=>(R.kid n C.tn k hk).2.1
  unfold dg
  simp only at h27 ⊢
  rw[if_pos h3,hpo]
  rw[hpo] at h27
  have hnself:∀k∈ (nd l n).kids,k≠ (n:Int):=fun k hk e=>by
    have h1:=R.jK C.tn
    rw[R.fE C.tn (by rw[←e,hpar k hk];omega)] at h1
    have:=hpar k hk
    rw[e] at this
    exact h1 this
  generalize hks0:(nd l n).kids=ks at*
  -- the states of the first loop
  have hU:∀j,((ks.take j).foldl cr (l,ns)).1=(ks.take j).foldl aZ l:=fun j=>gO _ _
  have hin:∀j,∀k∈ks.take j,k∈ks:=fun j k hk=>List.mem_of_mem_take hk
  have hR:∀j,RF ((ks.take j).foldl aZ l) m∧((ks.take j).foldl aZ l).length=l.length:=fun j=>oA _ R fun k hk=>hks k (hin j k hk)
  have hL:=fun(j:Nat) (x:Int) (hx:ae l x=true)=>iB (ks.take j) R (fun k hk=>hks k (hin j k hk)) n (fun k hk=>.inl (hpar k (hin j k hk))) x hx
  have hN:∀j,((ks.take j).foldl cr (l,ns)).2.length≤ns.length+60*ks.length:=fun j=>by
    have h1:=tJ (m:=m) (ks.take j) ns R h60 (fun k hk=>hks k (hin j k hk))
    have h2:(ks.take j).length≤ks.length:=by rw[gh];omega
    have:60* (ks.take j).length≤60*ks.length:=Nat.mul_le_mul_left 60 h2
    omega
  have hTl:ks.take ks.length=ks:=List.take_length
  have hsp:ks.foldl cr (l,ns)=(ks.foldl aZ l,(ks.foldl cr (l,ns)).2):=Prod.ext (gO ks (l,ns)) rfl
  have hkp:∀j,(nd ((ks.take j).foldl cr (l,ns)).1 p).kids=(nd l p).kids:=fun j=>by
    rw[hU j];exact(hL j p C.tp).2.2.2 (by omega)
  have hstate:=rU (p:=(p:Int)) (b:=before) (ks:=ks) (m:=m) hf1 (by rw[hf2];exact h60) hdup (ks.foldl cr (l,ns)).2 (fun k hk=>⟨(hf3 k hk).1,.inl (hf3 k hk).2⟩) (fun e=>hf4 (by
    have:=(hL ks.length p C.tp).1.kind
    rw[hTl] at this
    rw[←this];exact e)) (by rw[aV hf2];exact C.tp)
  rw[←hsp] at hstate
  have hkb:(nd l p).kids=(nd ((ks.take 0).foldl (cD p before) (ks.foldl cr (l,ns))).1 p).kids:=by
    have:=hkp ks.length
    rw[hTl] at this
    exact this.symm
  have hend:(ks.take ks.length).foldl (cD p before) (ks.foldl cr (l,ns))=ks.foldl (cD p before) (ks.foldl cr (l,ns)):=by rw[hTl]
  have hk0:ks=(nd ((ks.take 0).foldl cr (l,ns)).1 n).kids:=hks0.symm
  have main:=KM (m:=m) (L:=l.length) (a:=n) (b:=p) (n:=n) (before:=before) (parts:=ks) (us:=fun j=>((ks.take j).foldl cr (l,ns)).1) (uns:=fun j=>((ks.take j).foldl cr (l,ns)).2) (uka:=fun j=>(nd ((ks.take j).foldl cr (l,ns)).1 n).kids)
    (ls:=fun j=>((ks.take j).foldl (cD p before) (ks.foldl cr (l,ns))).1) (nss:=fun j=>((ks.take j).foldl (cD p before) (ks.foldl cr (l,ns))).2)
    (kas:=fun j=>(nd ((ks.take j).foldl (cD p before) (ks.foldl cr (l,ns))).1 n).kids) (kbs:=fun j=>(nd ((ks.take j).foldl (cD p before) (ks.foldl cr (l,ns))).1 p).kids) hne (by omega) rfl (cF hnl) h3 cK (fun y hy=>by rw[cK y hy];exact hkb) h27
    (fun j k hk=>by
      have hkm:=bO hk
      have htk:=hks k hkm
      obtain⟨kn,_,rfl,_,_⟩:=aU.1 htk
      have hnext:(ks.take (j+1)).foldl cr (l,ns)=cr ((ks.take j).foldl cr (l,ns)) kn:=by
        rw[List.take_add_one,hk,List.foldl_append];rfl
      have hRj:=hR j
      have hUj:=hU j
      have hNj:=hN j
      have hkpj:=hkp j
      have hpj:(nd ((ks.take j).foldl aZ l) kn).parent=-1∨(nd ((ks.take j).foldl aZ l) kn).parent=(n:Int):=by
        rw[(hL j kn htk).2.2.1]
        split
        ·exact .inl rfl
        ·exact .inr (hpar kn hkm)
      try dsimp only
      rw[hnext,←hkb,←hkpj]
      rw[←hUj] at hRj hpj
      clear hnext hUj hkpj
      generalize(ks.take j).foldl cr (l,ns)=S at*
      obtain⟨s1,s2⟩:=S
      simp only at hRj hpj hNj
      rw[jQ,←hRj.2]
      exact Ac hRj.1 (by rw[hRj.2];exact h60) hne (by rw[hRj.2];exact hnl) (by rw[hRj.2];exact hpl) (by rw[hRj.2];exact cA htk) (ns:=s2) (by omega) hpj)
    (by first|(rw[hTl];rfl)|(dsimp only;rw[hTl];rfl)) (by first|(rw[hTl];rfl)|(dsimp only;rw[hTl];rfl)) (by first|(rw[hTl];rfl)|(dsimp only;rw[hTl];rfl))
    (fun j k hk=>by
      have hkm:=bO hk
      have hjl:=(aY hk).1
      have htk:=hks k hkm
      obtain⟨kn,_,rfl,_,_⟩:=aU.1 htk
      obtain⟨i1,i2,i3,i4,i5⟩:=hstate j (by omega)
      obtain⟨D,hpD⟩:=i5 j kn (Nat.le_refl _) hk
      have hnext:(ks.take (j+1)).foldl (cD p before) (ks.foldl cr (l,ns))=cD p before ((ks.take j).foldl (cD p before) (ks.foldl cr (l,ns))) kn:=by
        rw[List.take_add_one,hk,List.foldl_append];rfl
      have hNT:=hN ks.length
      rw[hTl] at hNT
      have hlT:(ks.foldl cr (l,ns)).1.length=l.length:=by rw[gO];exact hf2
      have hpT:(nd (ks.foldl cr (l,ns)).1 kn).parent=-1:=by rw[gO];exact(hf3 kn hkm).2
      try dsimp only
      rw[hnext]
      generalize ks.foldl cr (l,ns)=T at*
      rw[(hf3 kn hkm).2] at hpD
      clear hnext i5
      generalize(ks.take j).foldl (cD p before) T=S at*
      obtain⟨s1,s2⟩:=S
      simp only at i1 i2 i3 i4 D hpD
      rw[uS]
      have hl1:s1.length=l.length:=by rw[i2,hf2]
      have:=Cb i1 (by rw[hl1];exact h60) hne (by rw[hl1];exact hnl) D (i1.own p D.tp).1 (fun e=>hnself kn hkm (by rw[e])) (.inl hpD) (ns:=s2) (by
        have:60*ks.length≤3600:=by omega
        have:180*j≤180*60:=by omega
        omega)
      rw[hl1] at this
      exact this)
  try dsimp only at main
  rw[hend,←hkb,←hk0] at main
  exact main
end
end Go.Proofs.Heir
namespace Go.Proofs.Heir
open Go Go.Am Go.RowKit Go.Lib
set_option maxRecDepth 100000
set_option maxHeartbeats 8000000
set_option maxHeartbeats 16000000
def oB:List Int→Int→Int
  |[],_=> -1
  |a::r,n=>if a≠n then a else oB r n
theorem mP {r:List Int}{u:Nat}{z n:Int}(h:r[u]? =some z):oB (r.drop u) n=if z≠n then z else oB (r.drop (u+1)) n:=by
  obtain⟨hl,he⟩:=aY h
  rw[List.drop_eq_getElem_cons hl,he];rfl
theorem oC {r:List Int}{u:Nat}{n:Int}(h:r.length≤u):oB (r.drop u) n=-1:=by rw[List.drop_eq_nil_of_le h];rfl
theorem pJ {ks:List Int}(hd:ks.Nodup){i:Nat}{c:Int}(h:ks[i]? =some c):∀ (j:Nat) x,j<i→ks[j]? =some x→x≠c:=fun j x hj hx e=>by
  obtain⟨h1,e1⟩:=aY h
  obtain⟨h2,e2⟩:=aY hx
  exact(List.pairwise_iff_getElem.1 hd) j i h2 h1 hj (by rw[e1,e2,e])
theorem wF {ks:List Int}{i:Nat}{c n:Int}(hd:ks.Nodup)(h:ks[i]? =some c)(hn:n≠-1):(if cw ks c≠n then cw ks c else cw ks n)=oB (ks.drop (i+1)) n:=by
  rw[sB h (pJ hd h)]
  cases h1:ks[i+1]? with
  | none=>
    rw[oC (List.getElem?_eq_none_iff.1 h1)]
    show(if(-1:Int)≠n then(-1:Int) else _)=-1
    rw[if_pos (fun e=>hn e.symm)]
  | some z=>
    rw[mP h1]
    show(if z≠n then z else cw ks n)=_
    by_cases e:z=n
    · subst e
      rw[if_neg (fun q=>q rfl),if_neg (fun q=>q rfl),sB h1 (pJ hd h1)]
      cases h2:ks[i+1+1]? with
      |none=>rw[oC (List.getElem?_eq_none_iff.1 h2)];rfl
      | some w=>
        rw[mP h2]
        show w=_
        rw[if_pos (fun e=>pJ hd h2 (i+1) z (by omega) h1 e.symm)]
    ·rw[if_pos e,if_pos e]
theorem IZ {l:List ai}{m:Int}(hs:bw l){ci pi:Nat}{x y:ai}(hx:l[ci]? =some x)(hp:x.parent=(pi:Int))(hy:l[pi]? =some y){i:Nat}(hi:y.kids[i]? =some (ci:Int))(hd:y.kids.Nodup)(n:Int)(hn:n≠-1)(f:ForM)(hf:f=⟨l,m⟩):
    ak Tryz.prog 87 [] [aM f,ah ci,ah n] [] (ah (if cw y.kids ci≠n then cw y.kids ci else cw y.kids n)):=by
  subst hf
  rw[wF hd hi hn]
  have hkl:y.kids.length≤60:=hs.kids y (bO hy)
  have h73:=qu y.kids (by omega) ci
  rw[CS hi (pJ hd hi)] at h73
  have hil:=(aY hi).1
  obtain⟨x1,x2,x3,x4,x5,x6,x7,x8,x9,x10⟩:=x
  obtain⟨y1,y2,y3,y4,y5,y6,y7,y8,y9,y10⟩:=y
  simp only at*
  subst hp
  have hyl:(y7.map bU).length=y7.length:=bW ..
  obtain⟨r,hr⟩:∃r,r=y7.drop (i+1):=⟨_,rfl⟩
  have hrl:r.length=y7.length- (i+1):=by rw[hr,List.length_drop]
  have cut:r.map bU=((y7.map bU).drop (i+1)).take r.length:=by
    rw[←List.map_drop,←hr,qL (by rw[bW];omega)]
  rw[←hr]
  have hrm:(r.map bU).length=r.length:=bW ..
  refine ak.aD (rvs:=[.tmp 6]) G au Tryz.func87 rfl Tryz.ntmps87 rfl rfl ?_;with_reducible refine wD ?_
  (have fct:=hyl;(repeat' (first
    |refine gF ?_
    | ((first
      |((with_reducible show bg _ _ _ _ _);first|refine bg.mk ci (aP _) rfl (aB hx) ?_|refine bg.mk pi (aP _) rfl (aB hy) ?_)
      |((with_reducible show af _ _ 73 _ _ _ _);refine af.lit [] h73 GW ⟨rfl,rfl,trivial⟩ rfl rfl ?_)
      |((with_reducible show zO _ _ _ _ _ _);refine zO.mk (i+1) r.length (r.map bU) (by(try simp only[ay]);first|rfl|omega) (by(try simp only[ay]);omega) (by rw[hyl];omega) cut ?_)
      |((with_reducible show aI _ _ _ _);refine dK ?_))<;>with_reducible refine wK ?_)
    |((with_reducible show(_∧_)∧_∧_);(refine eK ?_ ?_<;>with_reducible repeat' (first|exact trivial|(show _∧_;refine aK ?_ ?_))))));all_goals clear fct)
  obtain⟨v,hv⟩:∃v,v=oB r n:=⟨_,rfl⟩
  rw[←hv]
  refine bX.use G au (fun(u:Nat)=>[(2,ah n),(26,cN r),(27,ah r.length),(28,ah u)]) (fun _=>[]) (fun u=>u≤r.length∧oB (r.drop u) n=v) (fun u=>r.length-u) 0 ⟨Nat.zero_le _,by rw[hv,List.drop_zero]⟩ ?_ ?_
  · (refine fK ?_;(with_reducible repeat' (first|exact trivial|(show _∧_;refine aK ?_ ?_)));(all_goals try rfl))
    all_goals first|rfl|(rw[hrm])|trace_state
  rintro u ⟨hu,hfv⟩
  with_reducible refine wK ?_
  refine aX.mk (fun h1=>?_) (fun h1=>?_)<;>(try simp only[ay] at h1)<;>with_reducible refine wK ?_
  · have hul:u<r.length:=by simp only[bH,ay] at h1;omega
    obtain⟨z,hz⟩:∃z,r[u]? =some z:=⟨_,bD hul⟩
    rw[mP hz] at hfv
    by_cases e:z=n
    · rw[if_neg (fun q=>q e)] at hfv
      have fz:=eq_true e
      (have fct:=fz;(repeat' (first
    |refine gF ?_
    |(((with_reducible show bg _ _ _ _ _);refine bg.mk u (ah z) rfl (gr hz) ?_)<;>with_reducible refine wK ?_)
    | ((with_reducible show(_∧_)∧_∧_);(refine eK ?_ ?_<;>with_reducible repeat' (first|exact trivial|(show _∧_;refine aK ?_ ?_))))));all_goals clear fct)
      refine bR.mk (u+1) ⟨by omega,hfv⟩ (by omega) ?_
      (refine fK ?_;(with_reducible repeat' (first|exact trivial|(show _∧_;refine aK ?_ ?_)));(all_goals try rfl))
      all_goals first|rfl|trace_state
    · rw[if_pos e] at hfv
      subst hfv
      have fz:=eq_false e
      (have fct:=fz;(repeat' (first
    |refine gF ?_
    |(((with_reducible show bg _ _ _ _ _);refine bg.mk u (ah z) rfl (gr hz) ?_)<;>with_reducible refine wK ?_)
    | ((with_reducible show(_∧_)∧_∧_);(refine eK ?_ ?_<;>with_reducible repeat' (first|exact trivial|(show _∧_;refine aK ?_ ?_))))));all_goals clear fct)
      all_goals first|rfl|trace_state
  · have hul:r.length≤u:=by simp only[cR,ay] at h1;omega
    rw[oC hul] at hfv
    subst hfv
    repeat' (first
    |refine gK ?_
    |((with_reducible show(_∧_)∧_∧_);(refine eK ?_ ?_<;>with_reducible repeat' (first|exact trivial|(show _∧_;refine aK ?_ ?_)))))
    all_goals first|rfl|trace_state
theorem ue {l:List ai}{a ta b tb:Nat}(h:a≠b):aO l a ta b tb=aO l b tb a ta:=by
  apply List.ext_getElem?
  intro j
  unfold aO
  rw[List.getElem?_mapIdx,List.getElem?_mapIdx]
  cases l[j]? with
  |none=>rfl
  | some y=>
    show some (dZ a ta b tb j y)=some (dZ b tb a ta j y)
    unfold dZ
    by_cases e:j=a
    ·rw[if_pos e,if_neg (fun q=>h (by omega)),if_pos e]
    ·rw[if_neg e,if_neg e]
theorem yR {l l1 l':List ai}{m n p c next:Int}{a b:Nat}{ka kb k1 ka' kb':List Int}{t1 told:List aJ}
    (h87:ak Tryz.prog 87 [] [aM ⟨l,m⟩,ah c,ah n] [] (ah next))
    (h79:ak Tryz.prog 79 [aL m l.length 4 (.own 3 0 0),aA ka,aA kb,aN [],aQ l a 1 b 2] [.ptr 0 0 0,ah c]
      [aL m l.length 4 (.own 6 0 t1.length),.dead,aA kb,.dead,aQ l1 a 5 b 2,aA k1,aN t1] (.tup []))
    (h75:ak Tryz.prog 75 [aL m l.length 4 (.own 3 0 t1.length),aA k1,aA kb,aN t1,aQ l1 a 1 b 2] [.ptr 0 0 0,ah n,ah p,ah next]
      [aL m l.length 4 (.own 7 0 told.length),.dead,.dead,.dead,aQ l' a 5 b 6,aA ka',aA kb',aN told] (.tup [])):
    ak Tryz.prog 86 [aL m l.length 4 (.own 3 0 0),aA ka,aA kb,aN [],aQ l a 1 b 2] (.ptr 0 0 0::kr ⟨l,m⟩ n p c)
      [aL m l.length 4 (.own 7 0 told.length),.dead,.dead,.dead,aQ l' a 5 b 6,aA ka',aA kb',aN told] eF:=by
  unfold kr
  refine ak.eA [(5,191),(6,192),(7,193)] (rvs:=[.tmp 6]) G au Tryz.func86 rfl Tryz.ntmps86 rfl rfl ?_;with_reducible refine wD ?_
  repeat' (first
    |refine gK ?_
    | ((first
      |((with_reducible show af _ _ 87 _ _ _ _);refine af.lit [] h87 Mp ⟨⟨rfl,rfl,trivial⟩,rfl,rfl,trivial⟩ rfl rfl ?_)
      |((with_reducible show af _ _ 79 _ _ _ _);refine af.c7 (news:=[aL m l.length 4 (.own 143 0 t1.length),.dead,aA kb,.dead,aQ l1 a 141 b 2,aA k1,aN t1]) [0,1,2,3,4,141,143] [] h79 J9 ⟨⟨rfl,rfl⟩,rfl,trivial⟩ ⟨⟨rfl,.inr ⟨⟨⟨⟨rfl,rfl⟩,rfl,⟨rfl,rfl⟩,trivial⟩,trivial⟩,rfl⟩⟩,⟨rfl,.inl ⟨rfl,aa _⟩⟩,⟨rfl,.inl ⟨rfl,aa _⟩⟩,⟨rfl,.inl ⟨rfl,aj _⟩⟩,⟨rfl,bI (fun _=>rfl) (fun _=>rfl)⟩,trivial⟩ rfl ⟨⟨rfl,rfl⟩,rfl⟩ rfl ⟨⟨rfl,.inr ⟨rfl,rfl,rfl⟩⟩,⟨rfl,.inl ⟨rfl,aa _⟩⟩,⟨rfl,bB rfl rfl (by decide) (by decide)⟩,⟨rfl,.inl ⟨rfl,aa _⟩⟩,⟨rfl,.inl ⟨rfl,aj _⟩⟩,trivial⟩ rfl rfl ?_)
      |((with_reducible show af _ _ 75 _ _ _ _);refine af.c7 (news:=[aL m l.length 4 (.own 193 0 told.length),.dead,.dead,.dead,aQ l' a 191 b 192,aA ka',aA kb',aN told]) [0,141,2,143,4,191,192,193] [] h75 LB ⟨⟨rfl,rfl⟩,rfl,rfl,rfl,trivial⟩ ⟨⟨rfl,.inr ⟨⟨⟨⟨rfl,rfl⟩,rfl,⟨rfl,rfl⟩,trivial⟩,trivial⟩,rfl⟩⟩,⟨rfl,.inl ⟨rfl,aa _⟩⟩,⟨rfl,.inl ⟨rfl,aa _⟩⟩,⟨rfl,.inl ⟨rfl,aj _⟩⟩,⟨rfl,bI (fun _=>rfl) (fun _=>rfl)⟩,trivial⟩ rfl ⟨⟨rfl,rfl⟩,rfl⟩ rfl ⟨⟨rfl,.inr ⟨rfl,rfl,rfl⟩⟩,⟨rfl,bB rfl rfl (by decide) (by decide)⟩,⟨rfl,.inl ⟨rfl,aa _⟩⟩,⟨rfl,.inl ⟨rfl,aa _⟩⟩,⟨rfl,.inl ⟨rfl,aj _⟩⟩,trivial⟩ rfl rfl ?_)
      |((with_reducible show aI _ _ _ _);refine dK ?_))<;>with_reducible refine wK ?_)
    |((with_reducible show(_∧_)∧_∧_);(refine eK ?_ ?_<;>with_reducible repeat' (first|exact trivial|(show _∧_;refine aK ?_ ?_)))))
  all_goals first
    |rfl
    |exact⟨.refl (aa _),aa _⟩
    |exact⟨.refl (aj _),aj _⟩
    |exact bu (fun _=>rfl) (fun _=>rfl)
    |trace_state
theorem rM {l l1 l':List ai}{m n p c next:Int}{a b:Nat}(hab:a≠b){ka kb k1 ka' kb':List Int}{t1 told:List aJ}
    (h87:ak Tryz.prog 87 [] [aM ⟨l,m⟩,ah c,ah n] [] (ah next))
    (h79:ak Tryz.prog 79 [aL m l.length 4 (.own 3 0 0),aA kb,aA ka,aN [],aQ l b 1 a 2] [.ptr 0 0 0,ah c]
      [aL m l.length 4 (.own 6 0 t1.length),.dead,aA ka,.dead,aQ l1 b 5 a 2,aA k1,aN t1] (.tup []))
    (h75:ak Tryz.prog 75 [aL m l.length 4 (.own 3 0 t1.length),aA ka,aA k1,aN t1,aQ l1 a 1 b 2] [.ptr 0 0 0,ah n,ah p,ah next]
      [aL m l.length 4 (.own 7 0 told.length),.dead,.dead,.dead,aQ l' a 5 b 6,aA ka',aA kb',aN told] (.tup [])):
    ak Tryz.prog 86 [aL m l.length 4 (.own 3 0 0),aA ka,aA kb,aN [],aQ l a 1 b 2] (.ptr 0 0 0::kr ⟨l,m⟩ n p c)
      [aL m l.length 4 (.own 7 0 told.length),.dead,.dead,.dead,aQ l' a 5 b 6,aA ka',aA kb',aN told] eF:=by
  unfold kr
  have hr1:aO l a 1 b 2=aO l b 2 a 1:=ue hab
  have hr2:aO l1 b 141 a 1=aO l1 a 1 b 141:=ue (fun e=>hab e.symm)
  refine ak.eA [(5,191),(6,192),(7,193)] (rvs:=[.tmp 6]) G au Tryz.func86 rfl Tryz.ntmps86 rfl rfl ?_;with_reducible refine wD ?_
  repeat' (first
    |refine gK ?_
    | ((first
      |((with_reducible show af _ _ 87 _ _ _ _);refine af.lit [] h87 Mp ⟨⟨rfl,rfl,trivial⟩,rfl,rfl,trivial⟩ rfl rfl ?_)
      |((with_reducible show af _ _ 79 _ _ _ _);refine af.c7 (news:=[aL m l.length 4 (.own 143 0 t1.length),.dead,aA ka,.dead,aQ l1 b 141 a 1,aA k1,aN t1]) [0,2,1,3,4,141,143] [] h79 J9 ⟨⟨rfl,rfl⟩,rfl,trivial⟩ ⟨⟨rfl,.inr ⟨⟨⟨⟨rfl,rfl⟩,rfl,⟨rfl,rfl⟩,trivial⟩,trivial⟩,rfl⟩⟩,⟨rfl,.inl ⟨rfl,aa _⟩⟩,⟨rfl,.inl ⟨rfl,aa _⟩⟩,⟨rfl,.inl ⟨rfl,aj _⟩⟩,⟨rfl,cast (congrArg (sN _ _ _ _) hr1.symm) (bI (fun _=>rfl) (fun _=>rfl))⟩,trivial⟩ rfl ⟨⟨rfl,rfl⟩,rfl⟩ rfl ⟨⟨rfl,.inr ⟨rfl,rfl,rfl⟩⟩,⟨rfl,.inl ⟨rfl,aa _⟩⟩,⟨rfl,bB rfl rfl (by decide) (by decide)⟩,⟨rfl,.inl ⟨rfl,aa _⟩⟩,⟨rfl,.inl ⟨rfl,aj _⟩⟩,trivial⟩ rfl rfl ?_)
      |((with_reducible show af _ _ 75 _ _ _ _);refine af.c7 (news:=[aL m l.length 4 (.own 193 0 told.length),.dead,.dead,.dead,aQ l' a 191 b 192,aA ka',aA kb',aN told]) [0,1,141,143,4,191,192,193] [] h75 LB ⟨⟨rfl,rfl⟩,rfl,rfl,rfl,trivial⟩ ⟨⟨rfl,.inr ⟨⟨⟨⟨rfl,rfl⟩,rfl,⟨rfl,rfl⟩,trivial⟩,trivial⟩,rfl⟩⟩,⟨rfl,.inl ⟨rfl,aa _⟩⟩,⟨rfl,.inl ⟨rfl,aa _⟩⟩,⟨rfl,.inl ⟨rfl,aj _⟩⟩,⟨rfl,cast (congrArg (sN _ _ _ _) hr2.symm) (bI (fun _=>rfl) (fun _=>rfl))⟩,trivial⟩ rfl ⟨⟨rfl,rfl⟩,rfl⟩ rfl ⟨⟨rfl,.inr ⟨rfl,rfl,rfl⟩⟩,⟨rfl,bB rfl rfl (by decide) (by decide)⟩,⟨rfl,.inl ⟨rfl,aa _⟩⟩,⟨rfl,.inl ⟨rfl,aa _⟩⟩,⟨rfl,.inl ⟨rfl,aj _⟩⟩,trivial⟩ rfl rfl ?_)
      |((with_reducible show aI _ _ _ _);refine dK ?_))<;>with_reducible refine wK ?_)
    |((with_reducible show(_∧_)∧_∧_);(refine eK ?_ ?_<;>with_reducible repeat' (first|exact trivial|(show _∧_;refine aK ?_ ?_)))))
  all_goals first
    |rfl
    |exact⟨.refl (aa _),aa _⟩
    |exact⟨.refl (aj _),aj _⟩
    |exact bu (fun _=>rfl) (fun _=>rfl)
    |trace_state
end Go.Proofs.Heir
namespace Go.Proofs.Heir
open Go Go.Am Go.RowKit Go.Lib
set_option maxRecDepth 100000
set_option maxHeartbeats 8000000
set_option maxHeartbeats 4000000
theorem tj {f:ForM}{n p c:Int}(h:jY f n p c≠0):replaceM f n p c=(f,[],jY f n p c):=by unfold replaceM;rw[if_neg h]
theorem IV (f:ForM)(hs:bw f.nodes)(h60:f.nodes.length≤60)(n p c:Int):ak Tryz.prog 36 [] [aM f,ah n,ah p,ah c] [] (.tup [aM (replaceM f n p c).1,lE (replaceM f n p c).2.1,ah (replaceM f n p c).2.2]):=by
  have h85:=JH f hs n p c
  by_cases e0:jY f n p c=0
  · have ha:dN f n p c=true:=by
      cases h:dN f n p c with
      |true=>rfl
      |false=>unfold jY at e0;rw[h] at e0;simp at e0
    have ht2:(decide (c=-1)&&(decide (fg f.nodes p c c n=0)||oa f.nodes n p))=false∧fg f.nodes p c c n=0:=by
      unfold jY at e0
      rw[if_pos ha] at e0
      cases h:(decide (c=-1)&&(decide (fg f.nodes p c c n=0)||oa f.nodes n p)) with
      |true=>rw[h] at e0;simp at e0
      |false=>rw[h] at e0;exact⟨rfl,by simpa using e0⟩
    obtain⟨h1,ht⟩:=ht2
    rw[dJ ht,Bool.true_or,Bool.and_true,cR] at h1
    unfold dN at ha
    simp only[bN,j8,bH] at ha
    obtain⟨⟨hr,hn,hp⟩,hc⟩:=ha
    have hct:=hc.resolve_left h1
    rw[e0] at h85
    obtain⟨l,m⟩:=f
    have R:RF l m:=ck.1 hr
    obtain⟨hmem,C⟩:=tP R hn hp hct ht
    have e:replaceM ⟨l,m⟩ n p c=(⟨(dg (cr (l,[]) c) n p (gZ l n p c)).1,m⟩,(dg (cr (l,[]) c) n p (gZ l n p c)).2,0):=by unfold replaceM;rw[if_pos e0]
    rw[e]
    have hbeh:gZ l n p c=if cw (nd l p).kids c≠n then cw (nd l p).kids c else cw (nd l p).kids n:=rfl
    rw[←hbeh] at C
    clear e
    simp only at h60 hs hn hp hct
    obtain⟨a,_,rfl,_,_⟩:=aU.1 hn
    obtain⟨b,y,rfl,hy,hyn⟩:=aU.1 hp
    obtain⟨k,x,rfl,hx,hxn⟩:=aU.1 hct
    have hal:=cA hn
    have hbl:=cA hp
    have hkl:=cA hct
    have hpar:(nd l k).parent=(b:Int):=(R.kid b hp k hmem).2.1
    have h87:ak Tryz.prog 87 [] [aM ⟨l,m⟩,ah k,ah a] [] (ah (gZ l a b k)):=by
      rw[hyn] at hmem
      obtain⟨i,_,hi,_⟩:=lC hmem
      have:=IZ hs hx (by rw[←hxn];exact hpar) hy hi (by rw[←hyn];exact R.dup b hp) (a:Int) (by omega) ⟨l,m⟩ rfl
      rw[hbeh,hyn]
      exact this
    have hS:cr (l,[]) (k:Int)=(aZ l k,(cr (l,[]) (k:Int)).2):=Prod.ext (jQ _ _) rfl
    have ht1:=qa R h60 hkl []
    have R1:=cZ R hct
    have hl1:(aZ l k).length=l.length:=cm ..
    have L1:=fun z hz=>(dH R hct z hz).2.2.2
    have P1:=(dH R hct a hn).2.2.1
    rw[hS]
    generalize(cr (l,[]) (k:Int)).2=t1 at*
    generalize gZ l a b k=next at*
    clear hbeh
    have h601:(aZ l k).length≤60:=by rw[hl1];exact h60
    have hab:b≠a:=fun e=>C.w (by rw[←e];exact U.cj R1.tree C.tp)
    have hlen:=(jx R1 t1 C).2
    rw[hl1] at hlen
    have hka:(nd (aZ l k) a).kids=(nd l a).kids:=by rw[L1 a hn,if_neg (by rw[hpar];omega)]
    have h79:=fun q (hq:q<l.length) (hqb:q≠b)=>Ac R h60 hqb hbl hq hkl (ns:=[]) (by simp) (.inr hpar)
    have ht1':t1.length≤1000:=by simp at ht1;omega
    by_cases h3:(nd (aZ l k) a).kind=3
    · have h75:=zE R1 h601 C h3 (ns:=t1) ht1'
      rw[hl1] at h75
      have h79:=h79 a hal (fun e=>hab e.symm)
      rw[hS] at h79
      rw[hka] at h75
      exact mJ ⟨l,m⟩ a b k ⟨_,m⟩ _ 0 h85 (lD ql) (nM ⟨l,m⟩ hs (fun e=>hab e.symm) (cF hal) (cF hbl) 86 L8 _ rfl _ _ _ _ hlen cK cK (rM (fun e=>hab e.symm) h87 h79 h75))
    · by_cases hq:(nd (aZ l k) a).parent=-1∨(nd (aZ l k) a).parent=(b:Int)
      · have h75:=zc R1 h601 C h3 hq (ns:=t1) ht1'
        rw[hl1] at h75
        have h79:=h79 a hal (fun e=>hab e.symm)
        rw[hS] at h79
        rw[hka] at h75
        exact mJ ⟨l,m⟩ a b k ⟨_,m⟩ _ 0 h85 (lD ql) (nM ⟨l,m⟩ hs hab (cF hbl) (cF hal) 86 L8 _ rfl _ _ _ _ hlen cK cK (yR h87 h79 h75))
      · have hq1:(nd (aZ l k) a).parent≠-1:=fun e=>hq (.inl e)
        have T1:=aV hl1
        have hpar1:=(R1.par a (by rw[T1];exact hn) hq1).2.1
        rw[T1] at hpar1
        obtain⟨q,_,hqe,_,_⟩:=aU.1 hpar1
        have hql:q<l.length:=by rw[hqe] at hpar1;exact cA hpar1
        have hbq:b≠q:=fun e=>hq (.inr (by rw[hqe,e]))
        have haq:a≠q:=fun e=>by
          have hn1:ae (aZ l k) a=true:=by rw[T1];exact hn
          have h1:=R1.jK hn1
          rw[R1.fE hn1 hq1,hqe,←e] at h1
          exact h1 rfl
        have h75:=yQ R1 h601 C h3 (by rw[hl1];exact hql) hbq haq (.inr hqe) (ns:=t1) ht1'
        rw[hl1] at h75
        have h79:=h79 q hql (fun e=>hbq e.symm)
        rw[hS] at h79
        have hkq:(nd (aZ l k) q).kids=(nd l q).kids:=by rw[L1 q (dw hql),if_neg (by rw[hpar];omega)]
        rw[hkq] at h75
        exact mJ ⟨l,m⟩ a b k ⟨_,m⟩ _ 0 h85 (lD ql) (nM ⟨l,m⟩ hs (fun e=>hbq e.symm) (cF hql) (cF hbl) 86 L8 _ rfl _ _ _ _ hlen cK cK (rM (fun e=>hbq e.symm) h87 h79 h75))
  · rw[tj e0]
    exact yq f n p c _ f [] _ h85 (jV ql _ e0) (j5 f hs 86 _ ql _)
theorem Ef (f:ForM)(hs:bw f.nodes)(h60:f.nodes.length≤60)(n p c:Int):ak Tryz.prog 29 [] [aM f,ah n,ah p,ah c] [] (.tup [aM (eC f n p c).1,lE (eC f n p c).2.1,ah (eC f n p c).2.2]):=by
  have h30:=EK f hs n p c
  by_cases e0:mB f n p c=0
  · have ha:dN f n p c=true:=by
      cases h:dN f n p c with
      |true=>rfl
      |false=>unfold mB at e0;rw[h] at e0;simp at e0
    have ht:fg f.nodes p c (-1) n=0:=by unfold mB at e0;rw[if_pos ha] at e0;exact e0
    unfold dN at ha
    simp only[bN,j8,bH] at ha
    obtain⟨⟨hr,hn,hp⟩,hc⟩:=ha
    have h28:=Jy f hs n p c
    rw[e0] at h30
    obtain⟨l,m⟩:=f
    have R:RF l m:=ck.1 hr
    have C:=w9 R hn hp hc ht
    have hbef:eR ⟨l,m⟩ n p c=if c≠n then c else cw (nd l p).kids n:=by unfold eR;rw[if_neg (fun q=>q e0)]
    rw[←hbef] at C
    have e:eC ⟨l,m⟩ n p c=(⟨(dg (l,[]) n p (eR ⟨l,m⟩ n p c)).1,m⟩,(dg (l,[]) n p (eR ⟨l,m⟩ n p c)).2,0):=by unfold eC;rw[if_pos e0]
    rw[e]
    clear e hbef
    generalize eR ⟨l,m⟩ n p c=before at*
    obtain⟨a,_,rfl,_,_⟩:=aU.1 hn
    obtain⟨b,_,rfl,_,_⟩:=aU.1 hp
    have hal:=cA hn
    have hbl:=cA hp
    have hab:b≠a:=fun e=>C.w (by rw[←e];exact U.cj R.tree C.tp)
    have hlen:=(jx R [] C).2
    simp only at h60 hs
    by_cases h3:(nd l a).kind=3
    · have h75:=zE R h60 C h3 (ns:=[]) (by simp)
      exact oR ⟨l,m⟩ a b c ⟨_,m⟩ _ 0 h30 (lD xp) (nM ⟨l,m⟩ hs (fun e=>hab e.symm) (cF hal) (cF hbl) 74 Lt _ rfl _ _ _ _ hlen cK cK (oT h28 h75))
    · by_cases hq:(nd l a).parent=-1∨(nd l a).parent=(b:Int)
      · have h75:=zc R h60 C h3 hq (ns:=[]) (by simp)
        exact oR ⟨l,m⟩ a b c ⟨_,m⟩ _ 0 h30 (lD xp) (nM ⟨l,m⟩ hs hab (cF hbl) (cF hal) 74 Lt _ rfl _ _ _ _ hlen cK cK (oT h28 h75))
      · have hq1:(nd l a).parent≠-1:=fun e=>hq (.inl e)
        have hpar:=(R.par a hn hq1).2.1
        obtain⟨q,_,hqe,_,_⟩:=aU.1 hpar
        have hql:q<l.length:=by rw[hqe] at hpar;exact cA hpar
        have hbq:b≠q:=fun e=>hq (.inr (by rw[hqe,e]))
        have haq:a≠q:=fun e=>by
          have h1:=R.jK hn
          rw[R.fE hn hq1,hqe,←e] at h1
          exact h1 rfl
        have h75:=yQ R h60 C h3 hql hbq haq (.inr hqe) (ns:=[]) (by simp)
        exact oR ⟨l,m⟩ a b c ⟨_,m⟩ _ 0 h30 (lD xp) (nM ⟨l,m⟩ hs (fun e=>hbq e.symm) (cF hql) (cF hbl) 74 Lt _ rfl _ _ _ _ hlen cK cK (oT h28 h75))
  · rw[rC e0]
    exact Ag f n p c _ f [] _ h30 (jV xp _ e0) (j5 f hs 74 _ xp _)
end Go.Proofs.Heir
section
namespace Go.Proofs.Heir
open Go Go.Am Go.RowKit Go.Lib
set_option maxRecDepth 100000
set_option maxHeartbeats 8000000
set_option maxHeartbeats 2000000
variable {l l' : List ai} {m : Int}
theorem BV (R:RF l m)(h60:l.length≤60){n p:Nat}{b:Int}(C:nB l n p b){ns:List aJ}(hns:ns.length≤1000):(dg (l,ns) n p b).2.length≤20000:=by
  by_cases h3:(nd l n).kind=3
  · have hpo:dn l n=(nd l n).kids:=by unfold dn;rw[if_pos h3]
    obtain⟨hf1,hf2,hf3,hf4⟩:=nu R C h3
    have hks:∀k∈ (nd l n).kids,ae l k=true:=fun k hk=>(R.kid n C.tn k hk).1
    have hkl:(nd l n).kids.length≤60:=(c9 R h60).kids _ (bO (cF (cA C.tn)))
    have e:dg (l,ns) n p b=(nd l n).kids.foldl (cD p b) ((nd l n).kids.foldl cr (l,ns)):=by unfold dg;simp only;rw[if_pos h3,hpo]
    rw[e]
    have hpk:=(iB (nd l n).kids R hks n (fun k hk=>.inl (R.kid n C.tn k hk).2.1) p C.tp).1.kind
    have h1:=tJ (m:=m) (nd l n).kids ns R h60 hks
    have hstate:=rU (p:=(p:Int)) (b:=b) (ks:=(nd l n).kids) (m:=m) hf1 (by rw[hf2];exact h60) (R.dup n C.tn) ((nd l n).kids.foldl cr (l,ns)).2 (fun k hk=>⟨(hf3 k hk).1,.inl (hf3 k hk).2⟩) (fun e=>hf4 (by rw[←hpk];exact e)) (by rw[aV hf2];exact C.tp) (nd l n).kids.length (Nat.le_refl _)
    have hsp:(nd l n).kids.foldl cr (l,ns)=((nd l n).kids.foldl aZ l,((nd l n).kids.foldl cr (l,ns)).2):=Prod.ext (gO _ (l,ns)) rfl
    rw[←hsp,List.take_length] at hstate
    have:=hstate.2.2.1
    omega
  · rw[tq h3]
    have:=zg R h60 (nG C h3) (R.own p C.tp).1 ns
    omega
end Go.Proofs.Heir
end
section
namespace Go.Proofs.Heir
open Go Go.Am Go.RowKit Go.Lib
set_option maxRecDepth 100000
set_option maxHeartbeats 8000000
set_option maxHeartbeats 2000000
variable {l l' : List ai} {m : Int}
theorem DH (R:RF l m)(h60:l.length≤60){n p:Nat}{c:Int}(hn:ae l n=true)(hp:ae l p=true)(hc:c=-1∨ae l c=true):bw (eC ⟨l,m⟩ n p c).1.nodes∧(eC ⟨l,m⟩ n p c).2.1.length≤100000:=by
  by_cases e0:mB ⟨l,m⟩ n p c=0
  · have C:=w9 R hn hp hc (by rw[←xQ R hn hp hc];exact e0)
    have hbef:eR ⟨l,m⟩ n p c=if c≠n then c else cw (nd l p).kids n:=by unfold eR;rw[if_neg (fun q=>q e0)]
    rw[←hbef] at C
    have e:eC ⟨l,m⟩ n p c=(⟨(dg (l,[]) n p (eR ⟨l,m⟩ n p c)).1,m⟩,(dg (l,[]) n p (eR ⟨l,m⟩ n p c)).2,0):=by unfold eC;rw[if_pos e0]
    have h1:=jx R [] C
    have h2:=BV R h60 C (ns:=[]) (by simp)
    rw[e]
    exact⟨c9 h1.1 (by rw[h1.2];exact h60),by simp only;omega⟩
  · rw[rC e0]
    exact⟨c9 R h60,by simp⟩
theorem CK (R:RF l m)(h60:l.length≤60){n:Nat}(hn:ae l n=true):bw (dD ⟨l,m⟩ n).1.nodes∧(dD ⟨l,m⟩ n).2.1.length≤100000:=by
  by_cases hp:(nd l n).parent=-1
  · rw[o3 R hn hp]
    exact⟨c9 R h60,by simp⟩
  · rw [sS R hn hp]
    refine⟨c9 (cZ R hn) (by rw[cm];exact h60),?_⟩
    simp only
    split
    · rw[iV l m R hn,bW]
      have:=(jw R h60 hn).2
      omega
    ·simp
theorem AB (R:RF l m)(h60:l.length≤60){n p:Nat}{c:Int}(hn:ae l n=true)(hp:ae l p=true)(hc:c=-1∨ae l c=true):bw (replaceM ⟨l,m⟩ n p c).1.nodes∧(replaceM ⟨l,m⟩ n p c).2.1.length≤100000:=by
  by_cases e0:jY ⟨l,m⟩ n p c=0
  · have ha:dN ⟨l,m⟩ n p c=true:=(nJ R).2 ⟨⟨hn,hp⟩,hc⟩
    have ht2:(decide (c=-1)&&(decide (fg l p c c n=0)||oa l n p))=false∧fg l p c c n=0:=by
      have e1:=e0
      unfold jY at e1
      rw[if_pos ha] at e1
      simp only at e1
      cases h:(decide (c=-1)&&(decide (fg l p c c n=0)||oa l n p)) with
      |true=>rw[h] at e1;simp at e1
      |false=>rw[h] at e1;exact⟨rfl,by simpa using e1⟩
    obtain⟨h1,ht⟩:=ht2
    rw[dJ ht,Bool.true_or,Bool.and_true,cR] at h1
    have hct:=hc.resolve_left h1
    obtain⟨_,C⟩:=tP R hn hp hct ht
    obtain⟨k,_,rfl,_,_⟩:=aU.1 hct
    have hbeh:gZ l n p k=if cw (nd l p).kids k≠n then cw (nd l p).kids k else cw (nd l p).kids n:=rfl
    rw[←hbeh] at C
    have e:replaceM ⟨l,m⟩ n p k=(⟨(dg (cr (l,[]) k) n p (gZ l n p k)).1,m⟩,(dg (cr (l,[]) k) n p (gZ l n p k)).2,0):=by unfold replaceM;rw[if_pos e0]
    have hS:cr (l,[]) (k:Int)=(aZ l k,(cr (l,[]) (k:Int)).2):=Prod.ext (jQ _ _) rfl
    have R1:=cZ R hct
    have hl1:(aZ l k).length=l.length:=cm ..
    have ht1:=qa R h60 (cA hct) []
    have h1:=jx R1 (cr (l,[]) (k:Int)).2 C
    have h2:=BV R1 (by rw[hl1];exact h60) C (ns:=(cr (l,[]) (k:Int)).2) (by simp at ht1;omega)
    rw[e,hS]
    exact⟨c9 h1.1 (by rw[h1.2,hl1];exact h60),Nat.le_trans h2 (by omega)⟩
  · rw[tj e0]
    exact⟨c9 R h60,by simp⟩
end Go.Proofs.Heir
end
namespace Go.Am
structure K7 (A:Prop):Prop where
  get:A
theorem Kt {A B:Prop}(h:K7 A→B)(a:A):B∧True:=⟨h ⟨a⟩,trivial⟩
end Go.Am
namespace Go.Proofs.Heir
open Go Go.Am Go.RowKit Go.Lib
set_option maxRecDepth 100000
set_option maxHeartbeats 8000000
set_option maxHeartbeats 2000000
structure Br where
  kind:UInt8
  n:UInt8
  p:UInt8
  c:UInt8
  name:UInt8
  value:UInt8
@[reducible] def Kx (d : Br) : AV := .agg [.lit (.int .u8 (d.kind.toNat : Int)), .lit (.int .u8 (d.n.toNat : Int)), .lit (.int .u8 (d.p.toNat : Int)), .lit (.int .u8 (d.c.toNat : Int)), .lit (.int .u8 (d.name.toNat : Int)), .lit (.int .u8 (d.value.toNat : Int))]
def D4 (d:Br):AV:=Kx d
@[reducible] def Fg (l : List Br) : AV := .sl 6 (l.map D4)
theorem HG {l:List Br}{k:Nat}{x:Br}(h:l[k]? =some x):(l.map D4)[k]? =some (Kx x):=by rw[fI,h];rfl
def Lg (k:Nat):ByteArray:=⟨#[UInt8.ofNat (48+k)]⟩
theorem F5 {k:Nat}(hk:k<26):IntKind.u8.wrap (48+ (k:Int))=((UInt8.ofNat (48+k)).toNat:Int):=by
  rw[IntKind.wrap_u8]
  have:(UInt8.ofNat (48+k)).toNat=48+k:=by rw[UInt8.toNat_ofNat'];exact Nat.mod_eq_of_lt (by omega)
  rw[this];omega
theorem DR:∀k<3,bJ (wU k)=true:=by decide+kernel
theorem Ij:∀k<3,dy (wU k)=wU k:=by decide+kernel
def pW (ks:List Int)(c:Nat):Int:=if 0<ks.length∧0<c%3 then(ks[c%ks.length]?).getD (-1) else-1
def yE (len:Nat)(g:ForM)(d:Br):ForM×List aJ×Int:=
  if d.kind.toNat%5=0 then eC g (d.n.toNat%len:Nat) (d.p.toNat%len:Nat) (pW (nd g.nodes (d.p.toNat%len:Nat)).kids d.c.toNat)
  else if d.kind.toNat%5=1 then dD g (d.n.toNat%len:Nat)
  else if d.kind.toNat%5=2 then replaceM g (d.n.toNat%len:Nat) (d.p.toNat%len:Nat) (pW (nd g.nodes (d.p.toNat%len:Nat)).kids d.c.toNat)
  else if d.kind.toNat%5=3 then je g (d.n.toNat%len:Nat) (wU (d.name.toNat%3)) (Lg (d.value.toNat%4))
  else fV g (d.n.toNat%len:Nat) (wU (d.name.toNat%3))
section
variable {l : List ai} {m : Int}
theorem vQ (R:RF l m){p:Int}(hp:ae l p=true)(c:Nat):pW (nd l p).kids c=-1∨ae l (pW (nd l p).kids c)=true:=by
  unfold pW
  split
  · rename_i h
    have hl:c% (nd l p).kids.length< (nd l p).kids.length:=Nat.mod_lt _ h.1
    rw[bD hl]
    exact .inr (R.kid p hp _ (List.getElem_mem hl)).1
  ·exact .inl rfl
theorem Iy (R:RF l m){len:Nat}(hlen:l.length=len)(h0:0<len)(d:Br):pU ⟨l,m⟩ (yE len ⟨l,m⟩ d):=by
  have hn:ae l ((d.n.toNat%len:Nat):Int)=true:=by
    have:=Nat.mod_lt d.n.toNat h0
    exact dw (by omega)
  unfold yE
  split
  ·exact Cw R _ _ _
  split
  ·exact CG R _
  split
  ·exact AH R _ _ _
  split
  ·exact IM R hn _ _
  ·exact FA R hn _
theorem EM (R:RF l m)(h60:l.length≤60){len:Nat}(hlen:l.length=len)(h0:0<len)(d:Br):(yE len ⟨l,m⟩ d).2.1.length≤100000:=by
  have hn:ae l ((d.n.toNat%len:Nat):Int)=true:=dw (by have:=Nat.mod_lt d.n.toNat h0;omega)
  have hp:ae l ((d.p.toNat%len:Nat):Int)=true:=dw (by have:=Nat.mod_lt d.p.toNat h0;omega)
  have hc:=vQ R hp d.c.toNat
  unfold yE
  split
  ·exact(DH R h60 hn hp hc).2
  split
  ·exact(CK R h60 hn).2
  split
  ·exact(AB R h60 hn hp hc).2
  split
  · have :(je ⟨l,m⟩ ((d.n.toNat%len:Nat):Int) (wU (d.name.toNat%3)) (Lg (d.value.toNat%4))).2.1.length≤1:=by
      unfold je
      split
      ·simp
      · split
        ·simp
        ·unfold jq gq;dsimp only;split<;>simp
    omega
  · have :(fV ⟨l,m⟩ ((d.n.toNat%len:Nat):Int) (wU (d.name.toNat%3))).2.1.length≤1:=by
      unfold fV
      split
      ·simp
      · split
        ·simp
        ·unfold jq gq;dsimp only;split<;>simp
    omega
end
def qF (f:ForM)(l:List Br):ForM×List aJ:=l.foldl (fun s d=>((yE f.nodes.length s.1 d).1,s.2++ (yE f.nodes.length s.1 d).2.1)) (f,[])
theorem vE {f:ForM}{l:List Br}{j:Nat}{d:Br}(h:l[j]? =some d):qF f (l.take (j+1))=((yE f.nodes.length (qF f (l.take j)).1 d).1,(qF f (l.take j)).2++ (yE f.nodes.length (qF f (l.take j)).1 d).2.1):=by
  unfold qF
  rw[List.take_add_one,h,List.foldl_append];rfl
theorem GD {f:ForM}(hr:bt f=true)(h60:f.nodes.length≤60)(h0:0<f.nodes.length)(l:List Br):∀j,j≤l.length→ia f (qF f (l.take j)).1 (qF f (l.take j)).2∧(qF f (l.take j)).2.length≤100000*j:=by
  intro j
  induction j with
  |zero=>exact fun _=>⟨ia.nil hr,Nat.zero_le _⟩
  | succ j ih=>
    intro hj
    obtain⟨d,hd⟩:∃d,l[j]? =some d:=⟨_,bD (by omega)⟩
    obtain⟨h1,h2⟩:=ih (by omega)
    rw[vE hd]
    generalize qF f (l.take j)=s at*
    obtain⟨⟨sl,sm⟩,sn⟩:=s
    have R:RF sl sm:=ck.1 h1.right
    have hl:sl.length=f.nodes.length:=h1.len
    have h3:=EM R (by omega) hl h0 d
    simp only at h1 h2
    refine⟨h1.snoc (Iy R hl h0 d),?_⟩
    simp only[kf]
    omega
theorem rP {u v:Int×Int}{z:aJ}(h:kG u z=some v):(0≤v.1∧v.1≤1)∧((z.kind=1∧v=(u.1+1,u.2))∨(z.kind=2∧v=(u.1-1,u.2))∨(z.kind=3∧z.src=u.2∧z.dst≠u.2∧u.1=0∧v=(u.1,z.dst))∨(z.kind≠1∧z.kind≠2∧z.kind≠3∧v=u)):=by
  unfold kG at h
  have fin:∀ {t:Int×Int},(if t.1<0∨1<t.1 then none else some t)=some v→v=t∧0≤t.1∧t.1≤1:=fun{t} q=>by
    split at q
    ·cases q
    ·cases q;rename_i r;exact⟨rfl,by omega,by omega⟩
  by_cases e1:z.kind=1
  · rw[if_pos e1] at h
    obtain⟨rfl,a,b⟩:=fin h
    exact⟨⟨a,b⟩,.inl ⟨e1,rfl⟩⟩
  · rw [if_neg e1] at h
    by_cases e2:z.kind=2
    · rw[if_pos e2] at h
      obtain⟨rfl,a,b⟩:=fin h
      exact⟨⟨a,b⟩,.inr (.inl ⟨e2,rfl⟩)⟩
    · rw [if_neg e2] at h
      by_cases e3:z.kind=3
      · rw [if_pos e3] at h
        by_cases e4:z.src≠u.2∨z.dst=u.2∨u.1≠0
        ·rw[if_pos e4] at h;cases h
        · rw[if_neg e4] at h
          obtain⟨rfl,a,b⟩:=fin h
          exact⟨⟨a,b⟩,.inr (.inr (.inl ⟨e3,Decidable.byContradiction fun q=>e4 (.inl q),fun q=>e4 (.inr (.inl q)),Decidable.byContradiction fun q=>e4 (.inr (.inr q)),rfl⟩))⟩
      · rw[if_neg e3] at h
        obtain⟨rfl,a,b⟩:=fin h
        exact⟨⟨a,b⟩,.inr (.inr (.inr ⟨e1,e2,e3,rfl⟩))⟩
theorem xU {f g:ForM}{ns:List aJ}(h:ia f g ns){k:Int}(hk:ae f.nodes k=true):
    ∃ U:Nat→Int×Int,U 0=(zQ (ei f.nodes k),(nd f.nodes k).doc)∧((nd f.nodes k).kind=1→U ns.length=(zQ (ei g.nodes k),(nd g.nodes k).doc))∧(∀i,i≤ns.length→0≤ (U i).1∧(U i).1≤1)∧
      ∀i z,ns[i]? =some z→(z.node=k→(nd f.nodes k).kind=1∧kG (U i) z=some (U (i+1)))∧(z.node≠k→U (i+1)=U i):=by
  have hb:0≤zQ (ei f.nodes k)∧zQ (ei f.nodes k)≤1:=by unfold zQ;split<;>omega
  by_cases h1:(nd f.nodes k).kind=1
  · obtain⟨U,h0,hn,hs⟩:=Al (h.last hk h1)
    refine⟨U,h0,fun _=>hn,fun i=>?_,fun i z hz=>⟨fun e=>⟨h1,(hs i z hz).1 e⟩,(hs i z hz).2⟩⟩
    induction i with
    |zero=>exact fun _=>by rw[h0];exact hb
    | succ i ih=>
      intro hi
      obtain⟨z,hz⟩:∃z,ns[i]? =some z:=⟨_,bD (by omega)⟩
      by_cases e:z.node=k
      ·exact(rP ((hs i z hz).1 e)).1
      ·rw[(hs i z hz).2 e];exact ih (by omega)
  · refine⟨fun _=>(zQ (ei f.nodes k),(nd f.nodes k).doc),rfl,fun e=>absurd e h1,fun _ _=>hb,fun i z hz=>⟨fun e=>?_,fun _=>rfl⟩⟩
    have:=(h.told.el z (bO hz)).2
    rw[e] at this
    exact absurd this h1
end Go.Proofs.Heir
namespace Go.Proofs.Heir
open Go Go.Am Go.RowKit Go.Lib
set_option maxRecDepth 100000
set_option maxHeartbeats 8000000


end Go.Proofs.Heir
namespace Go.Proofs.Heir
open Go Go.Am Go.RowKit Go.Lib
set_option maxRecDepth 100000
set_option maxHeartbeats 8000000
set_option maxHeartbeats 8000000
theorem Gg (x:ai)(h1:x.attrs.length≤100000)(h2:x.kids.length≤100000):ak Tryz.prog 80 [] [aP x,aP x] [] (bC true):=by
  have ha:=HP x.attrs x.attrs h1
  rw[dJ rfl] at ha
  have hk:=IK x.kids x.kids h2
  rw[dJ rfl] at hk
  obtain⟨x0,x1,x2,x3,x4,x5,x6,x7,x8,x9⟩:=x
  simp only at ha hk
  refine ak.aD (rvs:=[.tmp 4]) G au Tryz.func80 rfl Tryz.ntmps80 rfl rfl ?_;with_reducible refine wD ?_
  dsimp only[List.append];with_reducible refine wK ?_
  repeat' (first|refine gK ?_|((first|((with_reducible show af _ _ 146 _ _ _ _);refine af.lit [] ha Li ⟨rfl,rfl,trivial⟩ rfl rfl ?_)|((with_reducible show af _ _ 25 _ _ _ _);refine af.lit [] hk MC ⟨rfl,rfl,trivial⟩ rfl rfl ?_))<;>with_reducible refine wK ?_)|((with_reducible show(_∧_)∧_∧_);(refine eK ?_ ?_<;>with_reducible repeat' (first|exact trivial|(show _∧_;refine aK ?_ ?_)))))
  all_goals first|rfl|(simp;done)|trace_state
theorem F0 (f:ForM)(hs:bw f.nodes):ak Tryz.prog 33 [] [aM f,aM f] [] (bC true):=by
  have hl1:=hs.len
  have hone:∀x∈f.nodes,ak Tryz.prog 80 [] [aP x,aP x] [] (bC true):=fun x hx=>Gg x (by have:=hs.attrs x hx;omega) (by have:=hs.kids x hx;omega)
  obtain⟨l,m⟩:=f
  have hlm:(l.map bF).length=l.length:=bW ..
  simp only at hone hl1
  refine ak.aD (rvs:=[.tmp 4]) G au Tryz.func33 rfl Tryz.ntmps33 rfl rfl ?_;with_reducible refine wD ?_
  (have fct:=hlm;(repeat' (first|refine gF ?_|((with_reducible show(_∧_)∧_∧_);(refine eK ?_ ?_<;>with_reducible repeat' (first|exact trivial|(show _∧_;refine aK ?_ ?_))))));all_goals clear fct)
  refine bX.use G au (fun(k:Nat)=>[(2,.ptr 20 0 0),(3,.ptr 30 0 0),(5,ah k)]) (fun _=>[(20,.live 2 [aM ⟨l,m⟩] false),(30,.live 2 [aM ⟨l,m⟩] false)]) (fun k=>k≤l.length) (fun k=>l.length-k) 0 (Nat.zero_le _)
    ⟨⟨rfl,rfl⟩,⟨⟨rfl,rfl⟩,⟨rfl,rfl⟩,rfl,trivial⟩,⟨⟨rfl,rfl,trivial⟩,trivial⟩,⟨⟨rfl,rfl,trivial⟩,trivial⟩,trivial⟩ ?_
  intro k0 hk0
  with_reducible refine wK ?_
  refine aX.mk (fun h0=>?_) (fun h0=>?_)<;>(try simp only[ay] at h0)<;>with_reducible refine wK ?_
  · have hk':k0<l.length:=by simp only[bH] at h0;omega
    obtain⟨x,hx⟩:∃x,l[k0]? =some x:=⟨_,bD hk'⟩
    have hx1:=hone x (bO hx)
    obtain⟨y0,y1,y2,y3,y4,y5,y6,y7,y8,y9⟩:=x
    repeat' (first|refine gK ?_|((first|((with_reducible show bg _ _ _ _ _);refine bg.mk k0 (aP ⟨y0,y1,y2,y3,y4,y5,y6,y7,y8,y9⟩) rfl (aB hx) ?_)|((with_reducible show af _ _ 80 _ _ _ _);refine af.lit [] hx1 MD ⟨⟨rfl,rfl,rfl,rfl,rfl,rfl,rfl,rfl,rfl,rfl,trivial⟩,⟨rfl,rfl,rfl,rfl,rfl,rfl,rfl,rfl,rfl,rfl,trivial⟩,trivial⟩ rfl rfl ?_)|((with_reducible show aI _ _ _ _);refine dK ?_)|((with_reducible show bR _ _);refine bR.mk (k0+1) (by omega) (by omega) ⟨⟨rfl,rfl⟩,⟨⟨rfl,rfl⟩,⟨rfl,rfl⟩,by show((k0+1:Nat):Int)=(k0:Int)+1;omega,trivial⟩,⟨⟨rfl,rfl,trivial⟩,trivial⟩,⟨⟨rfl,rfl,trivial⟩,trivial⟩,trivial⟩))<;>with_reducible refine wK ?_)|((with_reducible show(_∧_)∧_∧_);(refine eK ?_ ?_<;>with_reducible repeat' (first|exact trivial|(show _∧_;refine aK ?_ ?_)))))
  ·repeat' (first|refine gK ?_|((with_reducible show(_∧_)∧_∧_);(refine eK ?_ ?_<;>with_reducible repeat' (first|exact trivial|(show _∧_;refine aK ?_ ?_)))))
def FX:ForM:=⟨[⟨0,⟨#[]⟩,⟨#[]⟩,⟨#[]⟩,[],-1,[],-1,-1,0⟩],5⟩
def Kc:ForM:=⟨[⟨0,⟨#[]⟩,⟨#[]⟩,⟨#[]⟩,[],-1,[],-1,-1,0⟩,⟨1,⟨#[112]⟩,⟨#[]⟩,⟨#[]⟩,[],-1,[],-1,-1,0⟩],5⟩
def Jl:ForM:=⟨[⟨0,⟨#[]⟩,⟨#[]⟩,⟨#[]⟩,[],-1,[1],-1,-1,0⟩,⟨1,⟨#[112]⟩,⟨#[]⟩,⟨#[]⟩,[],0,[],-1,-1,0⟩],5⟩
def JY:ForM:=⟨[⟨0,⟨#[]⟩,⟨#[]⟩,⟨#[]⟩,[],-1,[1],-1,-1,0⟩,⟨1,⟨#[112]⟩,⟨#[]⟩,⟨#[]⟩,[⟨⟨#[98]⟩,⟨#[49]⟩⟩],0,[],-1,-1,0⟩],5⟩
def Hh:ForM:=⟨[⟨0,⟨#[]⟩,⟨#[]⟩,⟨#[]⟩,[],-1,[],-1,-1,0⟩,⟨1,⟨#[112]⟩,⟨#[]⟩,⟨#[]⟩,[⟨⟨#[98]⟩,⟨#[49]⟩⟩],-1,[],-1,-1,0⟩],5⟩
theorem vv:bw FX.nodes:=⟨by decide,by decide,by decide,by decide⟩
theorem De:bw Kc.nodes:=⟨by decide,by decide,by decide,by decide⟩
theorem DI:bw Jl.nodes:=⟨by decide,by decide,by decide,by decide⟩
theorem CD:bw JY.nodes:=⟨by decide,by decide,by decide,by decide⟩
theorem Dx:bw Hh.nodes:=⟨by decide,by decide,by decide,by decide⟩
theorem BO (k d:Int):ak Tryz.prog 135 [] [ah k,ah d] [] (aP ⟨k,⟨#[]⟩,⟨#[]⟩,⟨#[]⟩,[],-1,[],-1,-1,d⟩):=by
  refine ak.aD (rvs:=[.cell 4 35]) G au Tryz.func135 rfl Tryz.ntmps135 rfl rfl ?_;with_reducible refine wD ?_
  repeat' (first
    |refine gK ?_
    |((with_reducible show(_∧_)∧_∧_);(refine eK ?_ ?_<;>with_reducible repeat' (first|exact trivial|(show _∧_;refine aK ?_ ?_)))))
  all_goals first|rfl|exact .inr (.inr ⟨_,rfl⟩)|trace_state
theorem Jz (x:ai)(m:Int)(hb:ak Tryz.prog 135 [] [ah 0,ah 0] [] (aP x))(hr:ak Tryz.prog 17 [] [aM ⟨[x],m⟩] [] (bC true)):ak Tryz.prog 69 [] [ah m] [] (.tup [aM ⟨[x],m⟩,ah 0]):=by
  obtain⟨x1,x2,x3,x4,x5,x6,x7,x8,x9,x10⟩:=x
  refine ak.aD (rvs:=[.cell 2 24,.tmp 3]) G au Tryz.func69 rfl Tryz.ntmps69 rfl rfl ?_;with_reducible refine wD ?_
  repeat' (first
    |refine gK ?_
    | ((first
      |((with_reducible show af _ _ 135 _ _ _ _);refine af.val [] hb KK ⟨rfl,rfl,trivial⟩ rfl rfl (ko _) ?_)
      |((with_reducible show af _ _ 17 _ _ _ _);refine af.lit [61] hr Em ⟨⟨jh (rows':=[bF _]) rfl rfl rfl rfl (aF [_]),rfl,trivial⟩,trivial⟩ rfl rfl ?_))<;>with_reducible refine wK ?_)
    |((with_reducible show(_∧_)∧_∧_);(refine eK ?_ ?_<;>with_reducible repeat' (first|exact trivial|(show _∧_;refine aK ?_ ?_)))))
  all_goals first|rfl|exact jh (rows':=[bF _]) rfl rfl rfl rfl (aF [_])|trace_state
theorem CR:ak Tryz.prog 123 [] [cJ []] [] (cJ []):=by
  refine ak.aD (rvs:=[.tmp 2]) G au Tryz.func123 rfl Tryz.ntmps123 rfl rfl ?_;with_reducible refine wD ?_
  refine mO.mk (fun h=>?_) (fun _=>?_)<;>with_reducible refine wK ?_
  · (refine eK ?_ ?_<;>with_reducible repeat' (first|exact trivial|(show _∧_;refine aK ?_ ?_)))
    all_goals first|rfl|exact .inr (.inr ⟨2,rfl⟩)|trace_state
  · refine iT.mk [] [] ⟨rfl,rfl,rfl⟩ ⟨rfl,rfl,rfl⟩ rfl (by simp) (by simp) ?_;with_reducible refine wK ?_
    (refine eK ?_ ?_<;>with_reducible repeat' (first|exact trivial|(show _∧_;refine aK ?_ ?_)))
    all_goals first|exact gE rfl rfl rfl rfl|trace_state
theorem HW (l:List ai)(m:Int)(s:ByteArray)(hl:l.length≤60)(hm:¬ (l.length:Int)=m)(hr:ak Tryz.prog 55 [] [aM ⟨l,m⟩] [] (bC true))
    (hn:ak Tryz.prog 115 [] [aP ⟨1,s,⟨#[]⟩,⟨#[]⟩,[],-1,[],-1,-1,0⟩] [] (bC true)) (hi:ak Tryz.prog 136 [] [aM ⟨l,m⟩,ah 0,ah 0] [] (bC true)):
    ak Tryz.prog 70 [] [aM ⟨l,m⟩,aP ⟨1,s,⟨#[]⟩,⟨#[]⟩,[],0,[],0,0,0⟩] [] (.tup [aM ⟨l++ [⟨1,s,⟨#[]⟩,⟨#[]⟩,[],-1,[],-1,-1,0⟩],m⟩,ah l.length,ah 0]):=by
  have hb:=BO 1 0
  have hlm:(l.map bF).length=l.length:=bW ..
  have fm:=eq_false hm
  refine ak.aD (rvs:=[.cell 4 24,.tmp 5,.tmp 6]) G au Tryz.func70 rfl Tryz.ntmps70 rfl rfl ?_;with_reducible refine wD ?_
  (have fct:=And.intro hlm (fm);(repeat' (first
    |refine gF ?_
    | ((first
      |((with_reducible show af _ _ 135 _ _ _ _);refine af.val [] hb KK ⟨rfl,rfl,trivial⟩ rfl rfl rfl ?_)
      |((with_reducible show af _ _ 123 _ _ _ _);refine af.val [] CR Jn ⟨rfl,trivial⟩ rfl rfl rfl ?_)
      |((with_reducible show af _ _ 55 _ _ _ _);refine af.lit [] hr Mf ⟨⟨rfl,rfl,trivial⟩,trivial⟩ rfl rfl ?_)
      |((with_reducible show af _ _ 115 _ _ _ _);refine af.lit [] hn A8 ⟨⟨rfl,rfl,rfl,rfl,rfl,rfl,rfl,rfl,rfl,rfl,trivial⟩,trivial⟩ rfl rfl ?_)
      |((with_reducible show af _ _ 136 _ _ _ _);refine af.lit [] hi qe ⟨⟨rfl,rfl,trivial⟩,rfl,rfl,trivial⟩ rfl rfl ?_)
      |((with_reducible show af _ _ 137 _ _ _ _);refine af.new 731 [] (sO l (by omega)) I5 ⟨rfl,trivial⟩ rfl rfl rfl (oL _) rfl ?_)
      |((with_reducible show iT _ _ _ _ _ _ _ _ _ _);refine iT.mk (l.map bF) [aP ⟨1,s,⟨#[]⟩,⟨#[]⟩,[],-1,[],-1,-1,0⟩] ⟨rfl,(bW ..).symm,rfl⟩ ⟨rfl,rfl,rfl⟩ rfl (by simp;omega) (by simp;omega) ?_))<;>with_reducible refine wK ?_)
    |((with_reducible show(_∧_)∧_∧_);(refine eK ?_ ?_<;>with_reducible repeat' (first|exact trivial|(show _∧_;refine aK ?_ ?_))))));all_goals clear fct)
  all_goals first
    |exact jh rfl rfl (by rw[iq];rfl) (by simp) (aF _)
    |(show(l.length:Int)=_;rw[hlm])
    |rfl
    |trace_state
theorem MP:ak Tryz.prog 69 [] [ah 5] [] (.tup [aM FX,ah (0)]):=
  Jz ⟨0,⟨#[]⟩,⟨#[]⟩,⟨#[]⟩,[],-1,[],-1,-1,0⟩ 5 (BO 0 0) (by have:=oy FX vv;rwa [show bt FX=true by kernel_rfl] at this)
theorem ME:ak Tryz.prog 70 [] [aM FX,aP ⟨1,⟨#[112]⟩,⟨#[]⟩,⟨#[]⟩,[],0,[],0,0,0⟩] [] (.tup [aM Kc,ah 1,ah 0]):=
  HW FX.nodes 5 ⟨#[112]⟩ (by decide) (by decide) (by have:=FE FX vv;rwa [show bt FX=true by kernel_rfl] at this)
    (by have:=B8 ⟨1,⟨#[112]⟩,⟨#[]⟩,⟨#[]⟩,[],-1,[],-1,-1,0⟩ (by decide);rwa [show fo ⟨1,⟨#[112]⟩,⟨#[]⟩,⟨#[]⟩,[],-1,[],-1,-1,0⟩=true by kernel_rfl] at this)
    (by have:=sI FX 0 0;rwa [show j7 FX.nodes 0 0=true by kernel_rfl] at this)
theorem MJ:ak Tryz.prog 29 [] [aM Kc,ah 1,ah 0,ah (-1)] [] (.tup [aM Jl,lE [⟨1,1,0,0,⟨#[]⟩,false,false,⟨#[]⟩,⟨#[]⟩⟩],ah (0)]):=by
  have h:=Ef Kc De (by decide) 1 0 (-1)
  rwa [show eC Kc 1 0 (-1)=(Jl,[⟨1,1,0,0,⟨#[]⟩,false,false,⟨#[]⟩,⟨#[]⟩⟩],0) by kernel_rfl] at h
theorem MA:ak Tryz.prog 32 [] [aM JY,ah 1] [] (.tup [aM Hh,lE [⟨2,1,0,0,⟨#[]⟩,false,false,⟨#[]⟩,⟨#[]⟩⟩],ah (0)]):=by
  have h:=AW JY CD 1
  rwa [show dD JY 1=(Hh,[⟨2,1,0,0,⟨#[]⟩,false,false,⟨#[]⟩,⟨#[]⟩⟩],0) by kernel_rfl] at h
theorem LD:ak Tryz.prog 32 [] [aM Hh,ah 1] [] (.tup [aM Hh,lE [],ah 6]):=by
  have h:=AW Hh Dx 1
  rwa [show dD Hh 1=(Hh,[],6) by kernel_rfl] at h
end Go.Proofs.Heir
namespace Go.Proofs.Heir
open Go Go.Am Go.RowKit Go.Lib
set_option maxRecDepth 100000
set_option maxHeartbeats 8000000
theorem Mw:ak Tryz.prog 18 [] [aM Jl,ah 1,bS ⟨#[66]⟩,bS ⟨#[49]⟩] [] (.tup [aM JY,lE [⟨4,1,0,0,⟨#[98]⟩,false,true,⟨#[]⟩,⟨#[49]⟩⟩],ah 0]):=by
  have h:=FK Jl DI 1 ⟨#[66]⟩ ⟨#[49]⟩ (by decide)
  rwa [show je Jl 1 ⟨#[66]⟩ ⟨#[49]⟩=(JY,[⟨4,1,0,0,⟨#[98]⟩,false,true,⟨#[]⟩,⟨#[49]⟩⟩],0) by kernel_rfl] at h
theorem AK (y z:Operand)(w:World):((do eqGuard .eql 53 y z (.agg #[.int .i64 1,.int .i64 1,.int .i64 0,.int .i64 0,.string ⟨#[]⟩,.bool false,.bool false,.string ⟨#[]⟩,.string ⟨#[]⟩]) (.agg #[.int .i64 1,.int .i64 1,.int .i64 0,.int .i64 0,.string ⟨#[]⟩,.bool false,.bool false,.string ⟨#[]⟩,.string ⟨#[]⟩]);binOp .eql 53 (.agg #[.int .i64 1,.int .i64 1,.int .i64 0,.int .i64 0,.string ⟨#[]⟩,.bool false,.bool false,.string ⟨#[]⟩,.string ⟨#[]⟩]) (.agg #[.int .i64 1,.int .i64 1,.int .i64 0,.int .i64 0,.string ⟨#[]⟩,.bool false,.bool false,.string ⟨#[]⟩,.string ⟨#[]⟩]):Sem Value)).run Tryz.prog w=.ok (.bool true) w:=by
  kernel_rfl
theorem CH (y z:Operand)(w:World):((do eqGuard .eql 53 y z (.agg #[.int .i64 4,.int .i64 1,.int .i64 0,.int .i64 0,.string ⟨#[98]⟩,.bool false,.bool true,.string ⟨#[]⟩,.string ⟨#[49]⟩]) (.agg #[.int .i64 4,.int .i64 1,.int .i64 0,.int .i64 0,.string ⟨#[98]⟩,.bool false,.bool true,.string ⟨#[]⟩,.string ⟨#[49]⟩]);binOp .eql 53 (.agg #[.int .i64 4,.int .i64 1,.int .i64 0,.int .i64 0,.string ⟨#[98]⟩,.bool false,.bool true,.string ⟨#[]⟩,.string ⟨#[49]⟩]) (.agg #[.int .i64 4,.int .i64 1,.int .i64 0,.int .i64 0,.string ⟨#[98]⟩,.bool false,.bool true,.string ⟨#[]⟩,.string ⟨#[49]⟩]):Sem Value)).run Tryz.prog w=.ok (.bool true) w:=by
  kernel_rfl
theorem IS:ak Tryz.prog 26 [] [] [] (bC true):=by
  have h69:=MP
  have h70:=ME
  have h29:=MJ
  have h18:=Mw
  have h32:=MA
  have h32n:=LD
  generalize hg0:FX=g0 at*
  generalize hg1:Kc=g1 at*
  generalize hg2:Jl=g2 at*
  generalize hg3:JY=g3 at*
  generalize hg4:Hh=g4 at*
  obtain⟨l0,m0⟩:=g0
  obtain⟨l1,m1⟩:=g1
  obtain⟨l2,m2⟩:=g2
  obtain⟨l3,m3⟩:=g3
  obtain⟨l4,m4⟩:=g4
  refine ak.aD (rvs:=[.tmp 0]) G au Tryz.func26 rfl Tryz.ntmps26 rfl rfl ?_;with_reducible refine wD ?_
  repeat' (first
    |refine gK ?_
    | ((first
      |((with_reducible show af _ _ 69 _ _ _ _);refine af.val [] h69 MM ⟨rfl,trivial⟩ rfl rfl rfl ?_)
      |((with_reducible show af _ _ 70 _ _ _ _);refine af.val [] h70 Mz ⟨⟨rfl,rfl,trivial⟩,⟨rfl,rfl,rfl,rfl,.inr (.inr ⟨_,rfl⟩),rfl,.inr (.inr ⟨_,rfl⟩),rfl,rfl,rfl,trivial⟩,trivial⟩ rfl rfl rfl ?_)
      |((with_reducible show af _ _ 29 _ _ _ _);refine af.val [] h29 Mj ⟨⟨rfl,rfl,trivial⟩,rfl,rfl,rfl,trivial⟩ rfl rfl rfl ?_)
      |((with_reducible show af _ _ 18 _ _ _ _);refine af.val [] h18 Mr ⟨⟨rfl,rfl,trivial⟩,rfl,rfl,rfl,trivial⟩ rfl rfl rfl ?_)
      |((with_reducible show af _ _ 32 _ _ _ _);first|(refine af.val [] h32 Ly ⟨⟨rfl,rfl,trivial⟩,rfl,trivial⟩ rfl rfl rfl ?_)|(refine af.val [] h32n Ly ⟨⟨rfl,rfl,trivial⟩,rfl,trivial⟩ rfl rfl rfl ?_))
      |((with_reducible show bg _ _ _ _ _);first|refine bg.mk 0 (jl ⟨1,1,0,0,⟨#[]⟩,false,false,⟨#[]⟩,⟨#[]⟩⟩) rfl rfl ?_|refine bg.mk 0 (jl ⟨2,1,0,0,⟨#[]⟩,false,false,⟨#[]⟩,⟨#[]⟩⟩) rfl rfl ?_|refine bg.mk 0 (jl ⟨4,1,0,0,⟨#[98]⟩,false,true,⟨#[]⟩,⟨#[49]⟩⟩) rfl rfl ?_)
      |((with_reducible show Iq _ _ _ _ _ _ _ _);first|refine Iq.mk _ (fun y z w=>AK y z w) ?_|refine Iq.mk _ (fun y z w=>CH y z w) ?_)
      |((with_reducible show aI _ _ _ _);refine dK ?_))<;>with_reducible refine wK ?_)
    |((with_reducible show(_∧_)∧_∧_);(refine eK ?_ ?_<;>with_reducible repeat' (first|exact trivial|(show _∧_;refine aK ?_ ?_)))))
  all_goals first|rfl|trace_state
end Go.Proofs.Heir
