/- Models, plain laws and contracts of functions of the given program; conditions as stated in each theorem. By an AI agent. -/
import Derived.Test.YtkhjcnjicjgfiaaGreatDoorWN29
import Derived.Test.YtkhjcnjicjgfiaaGreatDoorWN24
import Derived.Test.YtkhjcnjicjgfiaaGreatDoorWN17
set_option linter.unusedSimpArgs false
set_option linter.unusedVariables false
namespace Go.Proofs.Heir
open Go Go.Am Go.RowKit Go.Lib
set_option maxRecDepth 100000
set_option maxHeartbeats 8000000
set_option maxHeartbeats 4000000
section
variable {l : List ai} {m : Int}
theorem dw {k:Nat}(h:k<l.length):ae l (k:Int)=true:=by unfold ae;rw[dJ (by omega:(0:Int)≤k),dJ (by omega:(k:Int)<l.length)];rfl
theorem cA {k:Nat}(h:ae l (k:Int)=true):k<l.length:=by
  unfold ae at h
  simp only[bN,bH] at h;omega
theorem cF {k:Nat}(h:k<l.length):l[k]? =some (nd l k):=by
  obtain⟨y,hy⟩:∃y,l[k]? =some y:=⟨_,bD h⟩
  rw[cU hy];exact hy
theorem cK {k:Nat}:∀y,l[k]? =some y→y.kids=(nd l k).kids:=fun y hy=>by rw[cU hy]
theorem jw (R:RF l m)(h60:l.length≤60){n:Int}(hn:ae l n=true):(lX ⟨l,m⟩ n).length≤60∧(zl ⟨l,m⟩ n).length≤60:=by
  have h:(lX ⟨l,m⟩ n).length≤60:=by
    unfold lX
    rw[if_pos (by rw[ck.2 R,hn];rfl)]
    have:=U.sA R.tree l.length hn
    show(U.bT l l.length n).length≤60
    omega
  exact⟨h,Nat.le_trans (List.length_filter_le ..) h⟩
theorem wT (R:RF l m)(h60:l.length≤60){n:Int}(hn:ae l n=true):ak Tryz.prog 35 [] [aM ⟨l,m⟩,ah n] [] (bC (ei l n)):=by
  have:=EV ⟨l,m⟩ (c9 R h60) n
  rwa [show DJ ⟨l,m⟩ n=ei l n by unfold DJ ei;rw[ck.2 R,hn];rfl] at this
theorem Au (R:RF l m)(h60:l.length≤60){n:Int}(hn:ae l n=true):ak Tryz.prog 34 [] [aM ⟨l,m⟩,ah n] [aA (zl ⟨l,m⟩ n++Lx ⟨l,m⟩ n)] (.own 0 0 (zl ⟨l,m⟩ n).length):=
  Bi ⟨l,m⟩ (c9 R h60) n (by rw[ck.2 R,hn];rfl) (by have:=(jw R h60 hn).1;omega)
theorem Ac (R:RF l m)(h60:l.length≤60){a b k:Nat}(hab:b≠a)(ha:a<l.length)(hb:b<l.length)(hk:k<l.length){ns:List aJ}(hns:ns.length≤90000)(h:(nd l k).parent=-1∨(nd l k).parent=(a:Int)):
    ak Tryz.prog 79 [aL m l.length 4 (.own 3 0 ns.length),aA (nd l a).kids,aA (nd l b).kids,aN ns,aQ l a 1 b 2] [.ptr 0 0 0,ah k]
      [aL m l.length 4 (.own 6 0 (cr (l,ns) k).2.length),.dead,aA (nd l b).kids,.dead,aQ (aZ l k) a 5 b 2,aA (nd (aZ l k) a).kids,aN (cr (l,ns) k).2] (.tup []):=by
  have hy:=cF hk
  by_cases hp:(nd l k).parent=-1
  · have e1:aZ l k=l:=by unfold aZ;rw[if_pos hp]
    have e2:cr (l,ns) k=(l,ns):=by unfold cr;rw[if_pos hp]
    rw[e1,e2]
    obtain⟨q,hq⟩:=iy a 1 b 2 k (nd l k)
    exact Cn hy ⟨q,hq _ rfl⟩ hp
  · have hpa:=h.resolve_left hp
    have ht:=dw hk
    have hq:=R.par k ht hp
    rw[hpa] at hq
    have hmem:(k:Int)∈ (nd l a).kids:=hq.2.2.2
    have hka:k≠a:=fun e=>by
      have h1:=R.jK ht
      rw[R.fE ht hp,hpa,e] at h1
      exact h1 rfl
    obtain⟨i,hi,hib,hno,_,_,her⟩:=lC hmem
    have hs:=c9 R h60
    have hkl:(nd l a).kids.length≤60:=hs.kids _ (bO (cF ha))
    have hel:=jw R h60 ht
    have h35:=wT R h60 ht
    have h34:=Au R h60 ht
    have h73:=qu (nd l a).kids (by omega) k
    rw[fJ hib (dJ rfl) fun j x hj hx=>dx (hno j x hj hx)] at h73
    have h145:=tN (rows:=(nd l a).kids.map bU) (mG (nd l a).kids) i (i+1) (by omega) (by simp;omega)
    rw[bW,←List.map_take,←List.map_drop,←iq,show i+ ((nd l a).kids.length- (i+1))=((nd l a).kids.take i++ (nd l a).kids.drop (i+1)).length by simp;omega] at h145
    have hto:cr (l,ns) k=(aZ l k,ns++if ei l k=true then(zl ⟨l,m⟩ k).map (dX mq) else[]):=by
      unfold cr
      rw[if_neg hp]
      simp only
      rw[iV l m R ht];rfl
    have hout:aZ l k=(l.set a {nd l a with kids:=(nd l a).kids.take i++ (nd l a).kids.drop (i+1)}).set k {nd l k with parent:=-1}:=by
      unfold aZ
      rw[if_neg hp]
      unfold nZ
      rw[hpa]
      dsimp only
      rw[her,Int.toNat_natCast,Int.toNat_natCast]
      congr 1
      have:nd (l.set a {nd l a with kids:=(nd l a).kids.take i++ (nd l a).kids.drop (i+1)}) k=nd l k:=cU (by rw[List.getElem?_set,if_neg (fun e=>hka e.symm)];exact hy)
      rw[this]
    have hA:(nd (aZ l k) a).kids=(nd l a).kids.take i++ (nd l a).kids.drop (i+1):=by
      have:(aZ l k)[a]? =some {nd l a with kids:=(nd l a).kids.take i++ (nd l a).kids.drop (i+1)}:=by
        rw[hout,List.getElem?_set,if_neg hka,List.getElem?_set,if_pos rfl,if_pos ha]
      rw[cU this]
    rw[hA,hto,hout]
    by_cases hkb:k=b
    · subst hkb
      exact Il rfl (by omega) (cF ha) cK hy hka rfl hpa hi (by omega) (by omega) (by omega) h35 h34 h73 h145
    ·exact Kw rfl (by omega) (cF ha) cK hy hka hkb rfl hpa hi (by omega) (by omega) (by omega) h35 h34 h73 h145
theorem qa (R:RF l m)(h60:l.length≤60){k:Nat}(hk:k<l.length)(ns:List aJ):(cr (l,ns) k).2.length≤ns.length+60:=by
  unfold cr
  split
  ·simp
  · simp only
    rw[iV l m R (dw hk)]
    have:=(jw R h60 (dw hk)).2
    split<;>simp<;>omega
theorem Gt (d:Int)(l:List ai)(k:Nat)(h:k<l.length):js d l k=nZ l k fun x=>{x with doc:=d}:=by
  unfold js nZ
  rw[cF h,Int.toNat_natCast]
theorem xM (d:Int):∀ (ks:List Nat) (l:List ai),(∀k∈ks,k<l.length)→ks.foldl (js d) l=l5 l (Be ks) d
  |[],_,_=>rfl
  | k::ks,l,h=>by
    have hk:=h k gj
    show ks.foldl (js d) (js d l k)=l5 (nZ l k fun x=>{x with doc:=d}) (Be ks) d
    rw[xM d ks (js d l k) (fun j hj=>by rw[ye];exact h j (eP _ hj)),Gt d l k hk]
theorem GZ {cs:List Int}(h:∀c∈cs,0≤c):Be (cs.map Int.toNat)=cs:=by
  unfold Be
  rw[List.map_map]
  conv=>rhs;rw[←List.map_id cs]
  exact List.map_congr_left fun c hc=>by
    have:=h c hc
    show((c.toNat:Nat):Int)=c
    omega
theorem Cl (R:RF l m)(h60:l.length≤60){a b k:Nat}(hab:b≠a)(ha:a<l.length)(hb:b<l.length)(hk:k<l.length){ns:List aJ}(hns:ns.length≤80000)(h:(nd l k).parent=-1∨(nd l k).parent=(a:Int))(hkk:(nd l k).kind=1∨(nd l k).kind=2){d:Int}(hd:j7 l d 0=true):
    ak Tryz.prog 139 [aL m l.length 4 (.own 3 0 ns.length),aA (nd l a).kids,aA (nd l b).kids,aN ns,aQ l a 1 b 2] [.ptr 0 0 0,ah k,ah d]
      [aL m l.length 4 (.own 6 0 (iU (l,ns) k d).2.length),.dead,aA (nd l b).kids,.dead,aQ (bZ l k d) a 5 b 2,aA (nd (bZ l k d) a).kids,aN (iU (l,ns) k d).2] (.tup []):=by
  have h79:=Ac R h60 hab ha hb hk (by omega:ns.length≤90000) h
  have ht:=dw hk
  have R1:=cZ R ht
  have T:=aV (cm l k)
  have hl1:=cm l (k:Int)
  have ht1:ae (aZ l k) k=true:=by rw[T];exact ht
  have hk1:k< (aZ l k).length:=by rw[hl1];exact hk
  have hf:=jQ (l,ns) (k:Int)
  have hol:=qa R h60 hk ns
  by_cases e:(nd (aZ l k) k).doc=d
  · have e1:bZ l k d=aZ l k:=by unfold bZ;rw[if_pos e]
    have e2:iU (l,ns) k d=cr (l,ns) k:=by unfold iU;rw[hf,if_pos e]
    rw[e1,e2]
    exact Dd hl1 (cF hk1) e h79
  · have R2:=jM R ht hkk hd
    have e1:bZ l k d=l5 (aZ l k) (U.bT (aZ l k) (aZ l k).length k) d:=by unfold bZ;rw[if_neg e]
    have ht2:ae (bZ l k d) k=true:=by rw[aV (eH l k d)];exact ht
    have e2:(iU (l,ns) k d).2=(cr (l,ns) k).2++ (zl ⟨bZ l k d,m⟩ k).map (dX (w8 (nd (aZ l k) k).doc d)):=by
      unfold iU
      rw[hf,if_neg e]
      simp only
      rw[iV _ m R2 ht2];rfl
    have h82:=Cg ⟨aZ l k,m⟩ (c9 R1 (by rw[hl1];exact h60)) k (by rw[ck.2 R1,ht1];rfl)
    have hall:lX ⟨aZ l k,m⟩ k=U.bT (aZ l k) (aZ l k).length k:=by unfold lX;rw[if_pos (by rw[ck.2 R1,ht1];rfl)]
    have hpos:∀c∈U.bT (aZ l k) (aZ l k).length k,ae (aZ l k) c=true:=fun c hc=>tg (f:=⟨aZ l k,m⟩) (n:=k) c (by rw[hall];exact hc)
    have hti:Be ((U.bT (aZ l k) (aZ l k).length k).map Int.toNat)=U.bT (aZ l k) (aZ l k).length k:=GZ fun c hc=>(bj (hpos c hc)).1
    have hlt:∀j∈ (U.bT (aZ l k) (aZ l k).length k).map Int.toNat,j< (aZ l k).length:=fun j hj=>by
      obtain⟨c,hc,rfl⟩:=List.mem_map.1 hj
      obtain⟨i,_,rfl,hi,_⟩:=aU.1 (hpos c hc)
      rw[Int.toNat_natCast];exact(aY hi).1
    have hlen:=(jw R1 (by rw[hl1];exact h60) ht1).1
    rw[hall] at h82 hlen
    have hL2:bZ l k d=((U.bT (aZ l k) (aZ l k).length k).map Int.toNat).foldl (js d) (aZ l k):=by rw[xM d _ _ hlt,hti,e1]
    have h34:=Au R2 (by rw[eH];exact h60) ht2
    have hel:=(jw R2 (by rw[eH];exact h60) ht2).2
    have hkb1:(nd (aZ l k) b).kids=(nd l b).kids:=by
      rw[(dH R ht b (dw hb)).2.2.2]
      split
      · rename_i hpb
        rcases h with h|h
        ·rw[h] at hpb;omega
        ·rw[h] at hpb;omega
      ·rfl
    have hka2:(nd (bZ l k d) a).kids=(nd (aZ l k) a).kids:=by
      rw[e1]
      exact(pz hpos a (by rw[T];exact dw ha)).2.2.2
    rw[e2,hka2,kf,bW]
    exact Jf hl1 (cF hk1) e hlt (by rw[bW];omega) hL2 cK (fun y hy=>by rw[cK y hy,hkb1]) (by omega) (by omega) h79 (by rw[hti];exact h82) h34
theorem zb (R:RF l m)(h60:l.length≤60){k:Nat}(hk:k<l.length)(hkk:(nd l k).kind=1∨(nd l k).kind=2){d:Int}(hd:j7 l d 0=true)(ns:List aJ):(iU (l,ns) k d).2.length≤ns.length+120:=by
  have h1:=qa R h60 hk ns
  have ht:=dw hk
  unfold iU
  split
  ·omega
  · simp only
    have R2:=jM R ht hkk hd
    have ht2:ae (bZ l k d) k=true:=by rw[aV (eH l k d)];exact ht
    rw[iV _ m R2 ht2,kf,bW]
    have:=(jw R2 (by rw[eH];exact h60) ht2).2
    omega
end
section
variable {l : List ai} {m : Int}
theorem zg (R:RF l m)(h60:l.length≤60){k:Nat}{p before:Int}(C:fD l k p before)(hd:j7 l (nd l p).doc 0=true)(ns:List aJ):(cD p before (l,ns) k).2.length≤ns.length+180:=by
  have h1:=zb R h60 (cA C.tk) C.kk hd ns
  have R':=gC R C
  have ht:ae (cG l k p before) k=true:=by rw[aV (fF l k p before)];exact C.tk
  unfold cD
  simp only
  rw[kf,iV _ m R' ht]
  have:=(jw R' (by rw[fF];exact h60) ht).2
  split<;>simp<;>omega
theorem rT (R:RF l m)(h60:l.length≤60){k t:Nat}{before:Int}(C:fD l k t before)(hd:j7 l (nd l t).doc 0=true)(ns:List aJ)(hns:ns.length≤70000):
    ∃ (i:Nat) (conn:Bool) (es ex:List Int),i≤ (nd (bZ l k (nd l t).doc) t).kids.length∧(before=-1→i=(nd (bZ l k (nd l t).doc) t).kids.length)∧
      (before≠-1→ak Tryz.prog 73 [] [cN (nd (bZ l k (nd l t).doc) t).kids,ah before] [] (ah i))∧(nd (bZ l k (nd l t).doc) t).kids.length≤1000∧
      cG l k t before=((bZ l k (nd l t).doc).set t {nd (bZ l k (nd l t).doc) t with kids:=(nd (bZ l k (nd l t).doc) t).kids.take i++ [(k:Int)]++ (nd (bZ l k (nd l t).doc) t).kids.drop i}).set k {nd (bZ l k (nd l t).doc) k with parent:=(t:Int)}∧
      (nd (cG l k t before) t).kids=(nd (bZ l k (nd l t).doc) t).kids.take i++ [(k:Int)]++ (nd (bZ l k (nd l t).doc) t).kids.drop i∧
      ak Tryz.prog 35 [] [aM ⟨cG l k t before,m⟩,ah k] [] (bC conn)∧ak Tryz.prog 34 [] [aM ⟨cG l k t before,m⟩,ah k] [aA (es++ex)] (.own 0 0 es.length)∧
      (cD t before (l,ns) k).2=(iU (l,ns) k (nd l t).doc).2++ (if conn=true then es.map (dX lp) else[])∧(iU (l,ns) k (nd l t).doc).2.length≤100000∧es.length≤1000:=by
  have hk:=cA C.tk
  have ht:=cA C.tp
  have hne:(k:Int)≠ (t:Int):=fun e=>C.w (by rw[e];exact U.cj R.tree C.tp)
  have hne':k≠t:=fun e=>hne (by rw[e])
  have hol:=zb R h60 hk C.kk hd ns
  have R1:=jM R C.tk C.kk hd
  have R':=gC R C
  have htk:ae (cG l k t before) k=true:=by rw[aV (fF l k t before)];exact C.tk
  have hkids:=rj R (d:=(nd l t).doc) C.tk C.kk C.tp
  obtain⟨l1,hl1⟩:∃l1,bZ l k (nd l t).doc=l1:=⟨_,rfl⟩
  have hlen:l1.length=l.length:=by rw[←hl1];exact eH ..
  have hst:cG l k t before=dP l1 k t before:=by unfold cG;rw[hl1]
  rw[hl1] at R1 hkids ⊢
  have hs1:=c9 R1 (by omega)
  have hkl:(nd l1 t).kids.length≤60:=hs1.kids _ (bO (cF (by omega)))
  have hfin:∀i:Nat,qO (nd l1 t).kids before k=(nd l1 t).kids.take i++ (k:Int)::(nd l1 t).kids.drop i→cG l k t before=(l1.set t {nd l1 t with kids:=(nd l1 t).kids.take i++ [(k:Int)]++ (nd l1 t).kids.drop i}).set k {nd l1 k with parent:=(t:Int)}:=fun i hi=>by
    rw[hst]
    unfold dP nZ
    rw[Int.toNat_natCast,Int.toNat_natCast]
    dsimp only
    rw[hi,List.append_assoc,List.singleton_append]
    congr 1
    have:nd (l1.set t {nd l1 t with kids:=(nd l1 t).kids.take i++ (k:Int)::(nd l1 t).kids.drop i}) k=nd l1 k:=cU (by rw[List.getElem?_set,if_neg (fun e=>hne' e.symm)];exact cF (by omega))
    rw[this]
  have hfk:∀i:Nat,qO (nd l1 t).kids before k=(nd l1 t).kids.take i++ (k:Int)::(nd l1 t).kids.drop i→(nd (cG l k t before) t).kids=(nd l1 t).kids.take i++ [(k:Int)]++ (nd l1 t).kids.drop i:=fun i hi=>by
    have:(cG l k t before)[t]? =some {nd l1 t with kids:=(nd l1 t).kids.take i++ [(k:Int)]++ (nd l1 t).kids.drop i}:=by
      rw[hfin i hi,List.getElem?_set,if_neg hne',List.getElem?_set,if_pos rfl,if_pos (by omega)]
    rw[cU this]
  have hcon:=wT R' (by rw[fF];exact h60) htk
  have hels:=Au R' (by rw[fF];exact h60) htk
  have hel:=(jw R' (by rw[fF];exact h60) htk).2
  have htold:(cD t before (l,ns) k).2=(iU (l,ns) k (nd l t).doc).2++ (if ei (cG l k t before) k=true then(zl ⟨cG l k t before,m⟩ k).map (dX lp) else[]):=by
    unfold cD
    simp only
    rw[iV _ m R' htk];rfl
  by_cases hb:before=-1
  · subst hb
    have hi:qO (nd l1 t).kids (-1) k=(nd l1 t).kids.take (nd l1 t).kids.length++ (k:Int)::(nd l1 t).kids.drop (nd l1 t).kids.length:=by
      rw[HF,List.take_length,List.drop_length]
    exact⟨_,_,_,_,Nat.le_refl _,fun _=>rfl,fun h=>absurd rfl h,by omega,hfin _ hi,hfk _ hi,hcon,hels,htold,by omega,by omega⟩
  · have hmem:before∈ (nd l1 t).kids:=by
      rw[hkids]
      have:=C.ab.resolve_left hb
      exact(List.mem_erase_of_ne this.1).2 this.2
    obtain⟨i,hi,hib,hno,h4,h5,_⟩:=lC hmem
    have h73:=qu (nd l1 t).kids (by omega) before
    rw[fJ hib (dJ rfl) fun j x hj hx=>dx (hno j x hj hx)] at h73
    have hii:=JS (k:=(k:Int)) hb h4 h5
    exact⟨i,_,_,_,by omega,fun h=>absurd h hb,fun _=>h73,by omega,hfin _ hii,hfk _ hii,hcon,hels,htold,by omega,by omega⟩
theorem mj (R:RF l m){k t x:Nat}{before:Int}(C:fD l k t before)(hx:x<l.length)(hxt:x≠t)(d:Int)(hd:d=(nd l t).doc):(nd (cG l k t before) x).kids=(nd (bZ l k d) x).kids:=by
  subst hd
  have h1:=(gJ R C x (dw hx)).2.2.1
  have h2:=(gP R (d:=(nd l t).doc) C.tk C.kk x (dw hx)).2.2.1
  rw[h1,h2,if_neg (by omega)]
theorem Cb (R:RF l m)(h60:l.length≤60){a b k:Nat}{before:Int}(hab:b≠a)(ha:a<l.length)(C:fD l k b before)(hd:j7 l (nd l b).doc 0=true)(hka:k≠a)(h:(nd l k).parent=-1∨(nd l k).parent=(a:Int)){ns:List aJ}(hns:ns.length≤70000):
    Ay m l.length a b before l ns (nd l a).kids (nd l b).kids k (cG l k b before) (cD b before (l,ns) k).2 (nd (cG l k b before) a).kids (nd (cG l k b before) b).kids:=by
  have hb:=cA C.tp
  have hk:=cA C.tk
  have hkb:k≠b:=fun e=>C.w (by rw[e];exact U.cj R.tree C.tp)
  obtain⟨i,conn,es,ex,e1,e2,e3,e4,e5,e6,e7,e8,e9,e10,e11⟩:=rT R h60 C hd ns hns
  have hov:=Cl R h60 hab ha hb hk (by omega:ns.length≤80000) h C.kk hd
  have hl:=eH l k (nd l b).doc
  have hkk:(nd (bZ l k (nd l b).doc) b).kids=(nd l b).kids:=by
    rw[(gP R (d:=(nd l b).doc) C.tk C.kk b C.tp).2.2.1]
    split
    · rename_i hpb
      rcases h with h|h
      ·rw[h] at hpb;omega
      ·rw[h] at hpb;omega
    ·rfl
  exact⟨k,rfl,nd l b,nd (bZ l k (nd l b).doc) b,nd (bZ l k (nd l b).doc) k,bZ l k (nd l b).doc,(iU (l,ns) k (nd l b).doc).2,(nd (bZ l k (nd l b).doc) a).kids,i,conn,es,ex,
    rfl,hl,cF hb,hov,cF (by omega),cF (by omega),hkk.symm,e1,e2,e3,e4,e5,⟨hkb,hka⟩,cK,cK,mj R C ha (fun e=>hab e.symm) _ rfl,e6,e7,e8,e9,e10,e11⟩
theorem GV (R:RF l m)(h60:l.length≤60){a b:Nat}{before:Int}(hab:b≠a)(C:fD l b a before)(hd:j7 l (nd l a).doc 0=true)(h:(nd l b).parent=-1∨(nd l b).parent=(a:Int)){ns:List aJ}(hns:ns.length≤70000):
    FJ m l.length a b before l ns (nd l a).kids (nd l b).kids b (cG l b a before) (cD a before (l,ns) b).2 (nd (cG l b a before) a).kids (nd (cG l b a before) b).kids:=by
  have ha:=cA C.tp
  have hb:=cA C.tk
  obtain⟨i,conn,es,ex,e1,e2,e3,e4,e5,e6,e7,e8,e9,e10,e11⟩:=rT R h60 C hd ns hns
  have hov:=Cl R h60 hab ha hb hb (by omega:ns.length≤80000) h C.kk hd
  have hl:=eH l b (nd l a).doc
  have hkk:(nd (cG l b a before) b).kids=(nd l b).kids:=by
    rw[mj R C hb hab _ rfl,(gP R (d:=(nd l a).doc) C.tk C.kk b C.tk).2.2.1]
    split
    · rename_i hpb
      rcases h with h|h
      ·rw[h] at hpb;omega
      ·rw[h] at hpb;omega
    ·rfl
  exact⟨b,rfl,nd l a,nd (bZ l b (nd l a).doc) a,nd (bZ l b (nd l a).doc) b,bZ l b (nd l a).doc,(iU (l,ns) b (nd l a).doc).2,(nd (bZ l b (nd l a).doc) a).kids,i,conn,es,ex,
    rfl,hl,cF ha,hov,cF (by omega),cF (by omega),rfl,e1,e2,e3,e4,e5,rfl,cK,cK,e6,hkk,e7,e8,e9,e10,e11⟩
end
end Go.Proofs.Heir
namespace Go.Proofs.Heir
open Go Go.Am Go.RowKit Go.Lib
set_option maxRecDepth 100000
set_option maxHeartbeats 8000000
theorem KE {m:Int}{L a b n:Nat}{before:Int}{parts:List Int}{ls:Nat→List ai}{nss:Nat→List aJ}{kas kbs:Nat→List Int}{yn:ai}(hab:b≠a)(hpl:parts.length≤1000)(hl0:(ls 0).length=L)(hn:(ls 0)[n]? =some yn)(hkind:yn.kind≠3)
    (hka0:∀y,(ls 0)[a]? =some y→y.kids=kas 0) (hkb0:∀y,(ls 0)[b]? =some y→y.kids=kbs 0)
    (h27:ak Tryz.prog 27 [] [aM ⟨ls 0,m⟩,ah n] [aA parts] (.own 0 0 parts.length))
    (hr:∀j k,parts[j]? =some k→FJ m L a b before (ls j) (nss j) (kas j) (kbs j) k (ls (j+1)) (nss (j+1)) (kas (j+1)) (kbs (j+1))):
    ak Tryz.prog 75 [aL m L 4 (.own 3 0 (nss 0).length),aA (kas 0),aA (kbs 0),aN (nss 0),aQ (ls 0) a 1 b 2] [.ptr 0 0 0,ah n,ah a,ah before]
      [aL m L 4 (.own 7 0 (nss parts.length).length),.dead,.dead,.dead,aQ (ls parts.length) a 5 b 6,aA (kas parts.length),aA (kbs parts.length),aN (nss parts.length)] (.tup []):=by
  have hnl:=(aY hn).1
  have t27:=mQ (m:=m) (ex:=[]) (rest:=[ah n]) hka0 hkb0 (by rw[List.append_nil];exact h27) rfl
  rw[List.append_nil] at t27
  rw[hl0] at t27
  obtain⟨q,hq⟩:=iy a 1 b 2 n yn
  have g0:(aO (ls 0) a 1 b 2)[n]? =some (yx yn q):=by rw[cO hn,hq yn rfl]
  have hgp:∀ (j:Nat) (k:Int),parts[j]? =some k→(parts.map bU)[j]? =some (ah k):=fun j k h=>nj h
  have fk:=eq_false hkind
  obtain⟨x1,x2,x3,x4,x5,x6,x7,x8,x9,x10⟩:=yn
  dsimp only at g0 fk hkind
  refine ak.eA [(5,201),(6,202),(7,203)] (rvs:=[]) G au Tryz.func75 rfl Tryz.ntmps75 rfl rfl ?_;with_reducible refine wD ?_
  (have fct:=fk;(repeat' (first
    |refine gF ?_
    | ((first
      |((with_reducible show ee _ _ _ _ _);refine ee.mk n rfl (by first|exact hnl|omega) ?_)
      |((with_reducible show aT _ _ _ _ _);refine aT.mk _ (by first|exact g0|(rw[Nat.zero_add];exact g0)) ?_)
      |((with_reducible show af _ _ 27 _ _ _ _);refine af.c7 (news:=[aQ (ls 0) a 1 b 2,aA (kas 0),aA (kbs 0),aA parts]) [4,1,2,191] [] t27 Md ⟨⟨⟨rfl,rfl⟩,rfl,trivial⟩,rfl,trivial⟩ ⟨⟨rfl,bI (fun _=>rfl) (fun _=>rfl)⟩,⟨rfl,.inl ⟨rfl,aa _⟩⟩,⟨rfl,.inl ⟨rfl,aa _⟩⟩,trivial⟩ rfl ⟨⟨rfl,rfl⟩,rfl⟩ rfl ⟨⟨rfl,bB rfl rfl (by decide) (by decide)⟩,⟨rfl,.inl ⟨rfl,aa _⟩⟩,⟨rfl,.inl ⟨rfl,aa _⟩⟩,⟨rfl,.inl ⟨rfl,aa _⟩⟩,trivial⟩ rfl rfl ?_)
      |((with_reducible show aI _ _ _ _);refine dK ?_))<;>with_reducible refine wK ?_)
    |((with_reducible show(_∧_)∧_∧_);(refine eK ?_ ?_<;>with_reducible repeat' (first|exact trivial|(show _∧_;refine aK ?_ ?_))))));all_goals clear fct)
  refine bX.FW G au (fun(j:Nat)=>[(0,.ptr 0 0 0),(2,ah a),(3,ah before),(40,.own 191 0 parts.length),(41,ah parts.length),(42,ah j)])
    (fun j=>[(0,aL m L 4 (.own 203 0 (nss j).length)),(1,.dead),(2,.dead),(3,.dead),(4,aQ (ls j) a 201 b 202),(201,aA (kas j)),(202,aA (kbs j)),(203,aN (nss j)),(191,aA parts)])
    (fun j=>j≤parts.length) (fun j=>parts.length-j) 0 [(201,1),(202,2),(203,3)] (Nat.zero_le _) ?_ ?_
  · (refine fK ?_;(with_reducible repeat' (first|exact trivial|(show _∧_;refine aK ?_ ?_)));(all_goals try rfl))
    all_goals first
      |exact⟨.refl (aa _),aa _⟩
      |exact⟨.refl (aj _),aj _⟩
      |exact bu (fun _=>rfl) (fun _=>rfl)
      |trace_state
  intro j hj
  with_reducible refine wK ?_
  refine aX.mk (fun h1=>?_) (fun h1=>?_)<;>(try simp only[ay] at h1)<;>with_reducible refine wK ?_
  · have hjl:j<parts.length:=by simp only[bH,ay] at h1;omega
    obtain⟨k0,hk0⟩:∃k,parts[j]? =some k:=⟨_,bD hjl⟩
    have R:=hr j k0 hk0
    have hgk:=hgp _ _ hk0
    obtain⟨l',hl'⟩:∃x,ls (j+1)=x:=⟨_,rfl⟩
    obtain⟨ns',hn'⟩:∃x,nss (j+1)=x:=⟨_,rfl⟩
    obtain⟨ka',hka'⟩:∃x,kas (j+1)=x:=⟨_,rfl⟩
    obtain⟨kb',hkb'⟩:∃x,kbs (j+1)=x:=⟨_,rfl⟩
    rw[hl',hn',hka',hkb'] at R
    obtain⟨k,hkk,y0,y1,yk,l1,n1,k1,i,conn,es,ex,R⟩:=R
    subst hkk
    generalize ls j=l at*
    generalize nss j=ns at*
    generalize kas j=ka at*
    generalize kbs j=kb at*
    obtain⟨rl,rl1,r0,rover,r1,rk,rkids,ri,rend,ridx,rsm,rnxt,rne,rka,rkb,rca,rcb,rcon,rels,rtold,rn1,res⟩:=R
    have hbl:=(aY r0).1
    have hbl1:=(aY r1).1
    have hkl1:=(aY rk).1
    subst rne
    have e0:(aO l a 201 k 202)[a]? =some (dW y0 201):=Bh r0
    have e1:(aO l1 a 211 k 202)[a]? =some (dW y1 211):=Bh r1
    have e2:∀x,((aO l1 a 211 k 202).set (0+a) x)[0+k]? =some (dW yk 202):=fun x=>by rw[Nat.zero_add,Nat.zero_add,List.getElem?_set,if_neg (fun e=>hab e.symm)];exact uD rk hab
    obtain⟨k3,hk3⟩:∃k3,k3=y1.kids.take i++ [(k:Int)]++y1.kids.drop i:=⟨_,rfl⟩
    have hrow:((aO l1 a 211 k 202).set (0+a) (dF {y1 with kids:=k3} 299)).set (0+k) (dF {yk with parent:=(a:Int)} 202)=aO l' a 299 k 202:=by
      rw[rnxt,←hk3,Nat.zero_add,Nat.zero_add,ou _ hbl1,tO _ (by rw[List.length_set];exact hkl1) hab]
    rw[←hk3] at rca
    have h140:=oU (rows:=y1.kids.map bU) (mG y1.kids) i (k:Int) (by simpa using ri) (by simp;omega)
    rw[bW,←List.map_take,←List.map_drop,show[ah (k:Int)]=[(k:Int)].map bU from rfl,←iq,←iq,←hk3,show y1.kids.length+1=k3.length by rw[hk3];simp;omega] at h140
    have t73:=fun h=>nx (rest:=[ah before]) (ridx h) rfl rfl
    have rl':l'.length=L:=by rw[rnxt,List.length_set,List.length_set,rl1]
    have t35:=nn (rest:=[ah (k:Int)]) rka rkb rcon rfl rfl
    have t141:=rD (m:=m) (n:=(k:Int)) (ns:=n1) (x:=lp) rka rkb res rn1 rels
    rw[rl'] at t35 t141
    rw[rca] at t35 t141
    rw[rcb] at t35 t141
    have hkL:k<L:=by rw[←rl1];exact hkl1
    have htL:a<L:=by rw[←rl1];exact hbl1
    obtain⟨z1,z2,z3,z4,z5,z6,z7,z8,z9,z10⟩:=y0
    obtain⟨p1,p2,p3,p4,p5,p6,p7,p8,p9,p10⟩:=y1
    obtain⟨q1,q2,q3,q4,q5,q6,q7,q8,q9,q10⟩:=yk
    dsimp only at rkids ri rend ridx rsm h140 t73 hrow rover hk3
    subst rkids
    (have fct:=rend;(repeat' (first
    |refine pF ?_
    | ((first
      |((with_reducible show aX _ _ _ _);(refine aX.mk (fun hp=>?_) (fun hp=>?_)<;>(try simp only[ay,bH,cR,Bool.not_eq_true',Bool.not_eq_false',Decidable.not_not,Int.not_lt,Int.not_le] at hp)))
      |((with_reducible show ee _ _ _ _ _);first|refine ee.mk j rfl (by first|exact hjl|omega) ?_|refine ee.mk a rfl (by first|exact htL|omega) ?_|refine ee.mk k rfl (by first|exact hkL|omega) ?_)
      |((with_reducible show aT _ _ _ _ _);first|refine aT.mk (ah (k:Int)) (by first|exact hgk|(rw[Nat.zero_add];exact hgk)) ?_|refine aT.mk _ (by first|exact e0|exact e1|exact e2 _|(rw[Nat.zero_add];first|exact e0|exact e1)) ?_)
      |((with_reducible show af _ _ 139 _ _ _ _);refine af.c7 (news:=[aL m L 4 (.own 213 0 n1.length),.dead,aA kb,.dead,aQ l1 a 211 k 202,aA k1,aN n1]) [0,201,202,203,4,211,213] [] rover JU ⟨⟨rfl,rfl⟩,rfl,rfl,trivial⟩ ⟨⟨rfl,.inr ⟨⟨⟨⟨rfl,rfl⟩,rfl,⟨rfl,rfl⟩,trivial⟩,trivial⟩,rfl⟩⟩,⟨rfl,.inl ⟨rfl,aa _⟩⟩,⟨rfl,.inl ⟨rfl,aa _⟩⟩,⟨rfl,.inl ⟨rfl,aj _⟩⟩,⟨rfl,bI (fun _=>rfl) (fun _=>rfl)⟩,trivial⟩ rfl ⟨⟨rfl,rfl⟩,rfl⟩ rfl ⟨⟨rfl,.inr ⟨rfl,rfl,rfl⟩⟩,⟨rfl,.inl ⟨rfl,aa _⟩⟩,⟨rfl,bB rfl rfl (by decide) (by decide)⟩,⟨rfl,.inl ⟨rfl,aa _⟩⟩,⟨rfl,.inl ⟨rfl,aj _⟩⟩,trivial⟩ rfl rfl ?_)
      |((with_reducible show af _ _ 73 _ _ _ _);refine af.c7 (news:=[aA k1]) [211] [] (t73 (by assumption)) GW ⟨⟨rfl,rfl⟩,rfl,trivial⟩ ⟨⟨rfl,.inl ⟨rfl,aa _⟩⟩,trivial⟩ rfl ⟨⟨rfl,rfl⟩,rfl⟩ rfl ⟨⟨rfl,.inl ⟨rfl,aa _⟩⟩,trivial⟩ rfl rfl ?_)
      |((with_reducible show af _ _ 140 _ _ _ _);refine af.c7 (news:=[.dead,.live 1 [ah (k:Int)] false,aA k3]) [211,981,299] [] h140 Jh ⟨⟨rfl,rfl⟩,by first|rfl|(show(i:Int)=(k1.length:Int);have:=rend (by assumption);omega),⟨rfl,rfl⟩,trivial⟩ ⟨⟨rfl,.inl ⟨rfl,aa _⟩⟩,⟨rfl,.inl ⟨rfl,rfl⟩⟩,trivial⟩ rfl ⟨⟨rfl,rfl⟩,rfl⟩ rfl ⟨⟨rfl,.inl ⟨rfl,rfl⟩⟩,⟨rfl,.inl ⟨rfl,aa _⟩⟩,trivial⟩ rfl rfl ?_)
      |((with_reducible show af _ _ 35 _ _ _ _);refine af.c7 (news:=[aQ l' a 299 k 202,aA k3,aA kb]) [4,299,202] [] t35 Gi ⟨⟨⟨rfl,rfl⟩,rfl,trivial⟩,rfl,trivial⟩ ⟨⟨rfl,cast (congrArg (sN _ _ _ _) hrow.symm) (bI (fun _=>rfl) (fun _=>rfl))⟩,⟨rfl,.inl ⟨rfl,aa _⟩⟩,⟨rfl,.inl ⟨rfl,aa _⟩⟩,trivial⟩ rfl ⟨⟨rfl,rfl⟩,rfl⟩ rfl ⟨⟨rfl,bB rfl rfl (by decide) (by decide)⟩,⟨rfl,.inl ⟨rfl,aa _⟩⟩,⟨rfl,.inl ⟨rfl,aa _⟩⟩,trivial⟩ rfl rfl ?_)
      |((with_reducible show af _ _ 141 _ _ _ _);refine af.c7 (news:=[aL m L 4 (.own 223 0 (n1.length+es.length)),aA k3,aA kb,.dead,aQ l' a 299 k 202,aN (n1++es.map (dX lp))]) [0,299,202,213,4,223] [] t141 Ct ⟨⟨rfl,rfl⟩,rfl,⟨rfl,rfl,rfl,rfl,rfl,rfl,rfl,rfl,rfl,trivial⟩,trivial⟩ ⟨⟨rfl,.inr ⟨⟨⟨⟨rfl,rfl⟩,rfl,⟨rfl,rfl⟩,trivial⟩,trivial⟩,rfl⟩⟩,⟨rfl,.inl ⟨rfl,aa _⟩⟩,⟨rfl,.inl ⟨rfl,aa _⟩⟩,⟨rfl,.inl ⟨rfl,aj _⟩⟩,⟨rfl,bI (fun _=>rfl) (fun _=>rfl)⟩,trivial⟩ rfl ⟨⟨rfl,rfl⟩,rfl⟩ rfl ⟨⟨rfl,.inr ⟨rfl,rfl,rfl⟩⟩,⟨rfl,.inl ⟨rfl,aa _⟩⟩,⟨rfl,.inl ⟨rfl,aa _⟩⟩,⟨rfl,bB rfl rfl (by decide) (by decide)⟩,⟨rfl,.inl ⟨rfl,aj _⟩⟩,trivial⟩ rfl rfl ?_)
      |((with_reducible show aI _ _ _ _);refine dK ?_))<;>with_reducible refine wK ?_)
    |((with_reducible show(_∧_)∧_∧_);(refine eK ?_ ?_<;>with_reducible repeat' (first|exact trivial|(show _∧_;refine aK ?_ ?_))))));all_goals clear fct)
    all_goals (first
      | (cases hp
         have ht:ns'=n1++es.map (dX lp):=rtold
         refine mH.mk (j+1) [(201,299),(202,202),(203,223)] (by omega) (by omega) ?_
         rw[hl',hn',hka',hkb',rca,rcb,ht,kf,bW])
      | (cases hp
         have ht:ns'=n1++ []:=rtold
         rw[List.append_nil] at ht
         refine mH.mk (j+1) [(201,299),(202,202),(203,213)] (by omega) (by omega) ?_
         rw[hl',hn',hka',hkb',rca,rcb,ht])
      |trace_state)
    all_goals (refine fK ?_;(with_reducible repeat' (first|exact trivial|(show _∧_;refine aK ?_ ?_)));(all_goals try rfl))
    all_goals first
      |exact⟨.refl (aa _),aa _⟩
      |exact⟨.refl (aj _),aj _⟩
      |exact bu (fun _=>rfl) (fun _=>rfl)
      |trace_state
  · obtain rfl:j=parts.length:=by simp only[cR,ay] at h1;omega
    repeat' (first
    |refine gK ?_
    |(((with_reducible show aI _ _ _ _);refine dK ?_)<;>with_reducible refine wK ?_)
    |((with_reducible show(_∧_)∧_∧_);(refine eK ?_ ?_<;>with_reducible repeat' (first|exact trivial|(show _∧_;refine aK ?_ ?_)))))
    all_goals first
      |exact⟨.refl (aa _),aa _⟩
      |exact⟨.refl (aj _),aj _⟩
      |exact bu (fun _=>rfl) (fun _=>rfl)
      |trace_state
theorem KB {m:Int}{L a b n:Nat}{before:Int}{parts:List Int}{ls:Nat→List ai}{nss:Nat→List aJ}{kas kbs:Nat→List Int}{yn:ai}(hab:b≠a)(hpl:parts.length≤1000)(hl0:(ls 0).length=L)(hn:(ls 0)[n]? =some yn)(hkind:yn.kind≠3)
    (hka0:∀y,(ls 0)[a]? =some y→y.kids=kas 0) (hkb0:∀y,(ls 0)[b]? =some y→y.kids=kbs 0)
    (h27:ak Tryz.prog 27 [] [aM ⟨ls 0,m⟩,ah n] [aA parts] (.own 0 0 parts.length))
    (hr:∀j k,parts[j]? =some k→Ay m L a b before (ls j) (nss j) (kas j) (kbs j) k (ls (j+1)) (nss (j+1)) (kas (j+1)) (kbs (j+1))):
    ak Tryz.prog 75 [aL m L 4 (.own 3 0 (nss 0).length),aA (kas 0),aA (kbs 0),aN (nss 0),aQ (ls 0) a 1 b 2] [.ptr 0 0 0,ah n,ah b,ah before]
      [aL m L 4 (.own 7 0 (nss parts.length).length),.dead,.dead,.dead,aQ (ls parts.length) a 5 b 6,aA (kas parts.length),aA (kbs parts.length),aN (nss parts.length)] (.tup []):=by
  have hnl:=(aY hn).1
  have t27:=mQ (m:=m) (ex:=[]) (rest:=[ah n]) hka0 hkb0 (by rw[List.append_nil];exact h27) rfl
  rw[List.append_nil] at t27
  rw[hl0] at t27
  obtain⟨q,hq⟩:=iy a 1 b 2 n yn
  have g0:(aO (ls 0) a 1 b 2)[n]? =some (yx yn q):=by rw[cO hn,hq yn rfl]
  have hgp:∀ (j:Nat) (k:Int),parts[j]? =some k→(parts.map bU)[j]? =some (ah k):=fun j k h=>nj h
  have fk:=eq_false hkind
  obtain⟨x1,x2,x3,x4,x5,x6,x7,x8,x9,x10⟩:=yn
  dsimp only at g0 fk hkind
  refine ak.eA [(5,201),(6,202),(7,203)] (rvs:=[]) G au Tryz.func75 rfl Tryz.ntmps75 rfl rfl ?_;with_reducible refine wD ?_
  (have fct:=fk;(repeat' (first
    |refine gF ?_
    | ((first
      |((with_reducible show ee _ _ _ _ _);refine ee.mk n rfl (by first|exact hnl|omega) ?_)
      |((with_reducible show aT _ _ _ _ _);refine aT.mk _ (by first|exact g0|(rw[Nat.zero_add];exact g0)) ?_)
      |((with_reducible show af _ _ 27 _ _ _ _);refine af.c7 (news:=[aQ (ls 0) a 1 b 2,aA (kas 0),aA (kbs 0),aA parts]) [4,1,2,191] [] t27 Md ⟨⟨⟨rfl,rfl⟩,rfl,trivial⟩,rfl,trivial⟩ ⟨⟨rfl,bI (fun _=>rfl) (fun _=>rfl)⟩,⟨rfl,.inl ⟨rfl,aa _⟩⟩,⟨rfl,.inl ⟨rfl,aa _⟩⟩,trivial⟩ rfl ⟨⟨rfl,rfl⟩,rfl⟩ rfl ⟨⟨rfl,bB rfl rfl (by decide) (by decide)⟩,⟨rfl,.inl ⟨rfl,aa _⟩⟩,⟨rfl,.inl ⟨rfl,aa _⟩⟩,⟨rfl,.inl ⟨rfl,aa _⟩⟩,trivial⟩ rfl rfl ?_)
      |((with_reducible show aI _ _ _ _);refine dK ?_))<;>with_reducible refine wK ?_)
    |((with_reducible show(_∧_)∧_∧_);(refine eK ?_ ?_<;>with_reducible repeat' (first|exact trivial|(show _∧_;refine aK ?_ ?_))))));all_goals clear fct)
  refine bX.FW G au (fun(j:Nat)=>[(0,.ptr 0 0 0),(2,ah b),(3,ah before),(40,.own 191 0 parts.length),(41,ah parts.length),(42,ah j)])
    (fun j=>[(0,aL m L 4 (.own 203 0 (nss j).length)),(1,.dead),(2,.dead),(3,.dead),(4,aQ (ls j) a 201 b 202),(201,aA (kas j)),(202,aA (kbs j)),(203,aN (nss j)),(191,aA parts)])
    (fun j=>j≤parts.length) (fun j=>parts.length-j) 0 [(201,1),(202,2),(203,3)] (Nat.zero_le _) ?_ ?_
  · (refine fK ?_;(with_reducible repeat' (first|exact trivial|(show _∧_;refine aK ?_ ?_)));(all_goals try rfl))
    all_goals first
      |exact⟨.refl (aa _),aa _⟩
      |exact⟨.refl (aj _),aj _⟩
      |exact bu (fun _=>rfl) (fun _=>rfl)
      |trace_state
  intro j hj
  with_reducible refine wK ?_
  refine aX.mk (fun h1=>?_) (fun h1=>?_)<;>(try simp only[ay] at h1)<;>with_reducible refine wK ?_
  · have hjl:j<parts.length:=by simp only[bH,ay] at h1;omega
    obtain⟨k0,hk0⟩:∃k,parts[j]? =some k:=⟨_,bD hjl⟩
    have R:=hr j k0 hk0
    have hgk:=hgp _ _ hk0
    obtain⟨l',hl'⟩:∃x,ls (j+1)=x:=⟨_,rfl⟩
    obtain⟨ns',hn'⟩:∃x,nss (j+1)=x:=⟨_,rfl⟩
    obtain⟨ka',hka'⟩:∃x,kas (j+1)=x:=⟨_,rfl⟩
    obtain⟨kb',hkb'⟩:∃x,kbs (j+1)=x:=⟨_,rfl⟩
    rw[hl',hn',hka',hkb'] at R
    obtain⟨k,hkk,y0,y1,yk,l1,n1,k1,i,conn,es,ex,R⟩:=R
    subst hkk
    generalize ls j=l at*
    generalize nss j=ns at*
    generalize kas j=ka at*
    generalize kbs j=kb at*
    obtain⟨rl,rl1,r0,rover,r1,rk,rkids,ri,rend,ridx,rsm,rnxt,rne,rka,rkb,rca,rcb,rcon,rels,rtold,rn1,res⟩:=R
    have hbl:=(aY r0).1
    have hbl1:=(aY r1).1
    have hkl1:=(aY rk).1
    obtain⟨hkb,hkna⟩:=rne
    have e0:(aO l a 201 b 202)[b]? =some (dW y0 202):=uD r0 hab
    have e1:(aO l1 a 211 b 202)[b]? =some (dW y1 202):=uD r1 hab
    have e2:∀x,((aO l1 a 211 b 202).set (0+b) x)[0+k]? =some (aP yk):=fun x=>by rw[Nat.zero_add,Nat.zero_add,List.getElem?_set,if_neg (fun e=>hkb e.symm)];exact F3 rk hkna hkb
    obtain⟨k3,hk3⟩:∃k3,k3=y1.kids.take i++ [(k:Int)]++y1.kids.drop i:=⟨_,rfl⟩
    have hrow:((aO l1 a 211 b 202).set (0+b) (dF {y1 with kids:=k3} 299)).set (0+k) (bF {yk with parent:=(b:Int)})=aO l' a 211 b 299:=by
      rw[rnxt,←hk3,Nat.zero_add,Nat.zero_add,rN _ hbl1 hab,oQ _ (by rw[List.length_set];exact hkl1) hkna hkb]
    rw[←hk3] at rcb
    have h140:=oU (rows:=y1.kids.map bU) (mG y1.kids) i (k:Int) (by simpa using ri) (by simp;omega)
    rw[bW,←List.map_take,←List.map_drop,show[ah (k:Int)]=[(k:Int)].map bU from rfl,←iq,←iq,←hk3,show y1.kids.length+1=k3.length by rw[hk3];simp;omega] at h140
    have t73:=fun h=>nx (rest:=[ah before]) (ridx h) rfl rfl
    have rl':l'.length=L:=by rw[rnxt,List.length_set,List.length_set,rl1]
    have t35:=nn (rest:=[ah (k:Int)]) rka rkb rcon rfl rfl
    have t141:=rD (m:=m) (n:=(k:Int)) (ns:=n1) (x:=lp) rka rkb res rn1 rels
    rw[rl'] at t35 t141
    rw[rca] at t35 t141
    rw[rcb] at t35 t141
    have hkL:k<L:=by rw[←rl1];exact hkl1
    have htL:b<L:=by rw[←rl1];exact hbl1
    obtain⟨z1,z2,z3,z4,z5,z6,z7,z8,z9,z10⟩:=y0
    obtain⟨p1,p2,p3,p4,p5,p6,p7,p8,p9,p10⟩:=y1
    obtain⟨q1,q2,q3,q4,q5,q6,q7,q8,q9,q10⟩:=yk
    dsimp only at rkids ri rend ridx rsm h140 t73 hrow rover hk3
    subst rkids
    (have fct:=rend;(repeat' (first
    |refine pF ?_
    | ((first
      |((with_reducible show aX _ _ _ _);(refine aX.mk (fun hp=>?_) (fun hp=>?_)<;>(try simp only[ay,bH,cR,Bool.not_eq_true',Bool.not_eq_false',Decidable.not_not,Int.not_lt,Int.not_le] at hp)))
      |((with_reducible show ee _ _ _ _ _);first|refine ee.mk j rfl (by first|exact hjl|omega) ?_|refine ee.mk b rfl (by first|exact htL|omega) ?_|refine ee.mk k rfl (by first|exact hkL|omega) ?_)
      |((with_reducible show aT _ _ _ _ _);first|refine aT.mk (ah (k:Int)) (by first|exact hgk|(rw[Nat.zero_add];exact hgk)) ?_|refine aT.mk _ (by first|exact e0|exact e1|exact e2 _|(rw[Nat.zero_add];first|exact e0|exact e1)) ?_)
      |((with_reducible show af _ _ 139 _ _ _ _);refine af.c7 (news:=[aL m L 4 (.own 213 0 n1.length),.dead,aA kb,.dead,aQ l1 a 211 b 202,aA k1,aN n1]) [0,201,202,203,4,211,213] [] rover JU ⟨⟨rfl,rfl⟩,rfl,rfl,trivial⟩ ⟨⟨rfl,.inr ⟨⟨⟨⟨rfl,rfl⟩,rfl,⟨rfl,rfl⟩,trivial⟩,trivial⟩,rfl⟩⟩,⟨rfl,.inl ⟨rfl,aa _⟩⟩,⟨rfl,.inl ⟨rfl,aa _⟩⟩,⟨rfl,.inl ⟨rfl,aj _⟩⟩,⟨rfl,bI (fun _=>rfl) (fun _=>rfl)⟩,trivial⟩ rfl ⟨⟨rfl,rfl⟩,rfl⟩ rfl ⟨⟨rfl,.inr ⟨rfl,rfl,rfl⟩⟩,⟨rfl,.inl ⟨rfl,aa _⟩⟩,⟨rfl,bB rfl rfl (by decide) (by decide)⟩,⟨rfl,.inl ⟨rfl,aa _⟩⟩,⟨rfl,.inl ⟨rfl,aj _⟩⟩,trivial⟩ rfl rfl ?_)
      |((with_reducible show af _ _ 73 _ _ _ _);refine af.c7 (news:=[aA kb]) [202] [] (t73 (by assumption)) GW ⟨⟨rfl,rfl⟩,rfl,trivial⟩ ⟨⟨rfl,.inl ⟨rfl,aa _⟩⟩,trivial⟩ rfl ⟨⟨rfl,rfl⟩,rfl⟩ rfl ⟨⟨rfl,.inl ⟨rfl,aa _⟩⟩,trivial⟩ rfl rfl ?_)
      |((with_reducible show af _ _ 140 _ _ _ _);refine af.c7 (news:=[.dead,.live 1 [ah (k:Int)] false,aA k3]) [202,981,299] [] h140 Jh ⟨⟨rfl,rfl⟩,by first|rfl|(show(i:Int)=(kb.length:Int);have:=rend (by assumption);omega),⟨rfl,rfl⟩,trivial⟩ ⟨⟨rfl,.inl ⟨rfl,aa _⟩⟩,⟨rfl,.inl ⟨rfl,rfl⟩⟩,trivial⟩ rfl ⟨⟨rfl,rfl⟩,rfl⟩ rfl ⟨⟨rfl,.inl ⟨rfl,rfl⟩⟩,⟨rfl,.inl ⟨rfl,aa _⟩⟩,trivial⟩ rfl rfl ?_)
      |((with_reducible show af _ _ 35 _ _ _ _);refine af.c7 (news:=[aQ l' a 211 b 299,aA k1,aA k3]) [4,211,299] [] t35 Gi ⟨⟨⟨rfl,rfl⟩,rfl,trivial⟩,rfl,trivial⟩ ⟨⟨rfl,cast (congrArg (sN _ _ _ _) hrow.symm) (bI (fun _=>rfl) (fun _=>rfl))⟩,⟨rfl,.inl ⟨rfl,aa _⟩⟩,⟨rfl,.inl ⟨rfl,aa _⟩⟩,trivial⟩ rfl ⟨⟨rfl,rfl⟩,rfl⟩ rfl ⟨⟨rfl,bB rfl rfl (by decide) (by decide)⟩,⟨rfl,.inl ⟨rfl,aa _⟩⟩,⟨rfl,.inl ⟨rfl,aa _⟩⟩,trivial⟩ rfl rfl ?_)
      |((with_reducible show af _ _ 141 _ _ _ _);refine af.c7 (news:=[aL m L 4 (.own 223 0 (n1.length+es.length)),aA k1,aA k3,.dead,aQ l' a 211 b 299,aN (n1++es.map (dX lp))]) [0,211,299,213,4,223] [] t141 Ct ⟨⟨rfl,rfl⟩,rfl,⟨rfl,rfl,rfl,rfl,rfl,rfl,rfl,rfl,rfl,trivial⟩,trivial⟩ ⟨⟨rfl,.inr ⟨⟨⟨⟨rfl,rfl⟩,rfl,⟨rfl,rfl⟩,trivial⟩,trivial⟩,rfl⟩⟩,⟨rfl,.inl ⟨rfl,aa _⟩⟩,⟨rfl,.inl ⟨rfl,aa _⟩⟩,⟨rfl,.inl ⟨rfl,aj _⟩⟩,⟨rfl,bI (fun _=>rfl) (fun _=>rfl)⟩,trivial⟩ rfl ⟨⟨rfl,rfl⟩,rfl⟩ rfl ⟨⟨rfl,.inr ⟨rfl,rfl,rfl⟩⟩,⟨rfl,.inl ⟨rfl,aa _⟩⟩,⟨rfl,.inl ⟨rfl,aa _⟩⟩,⟨rfl,bB rfl rfl (by decide) (by decide)⟩,⟨rfl,.inl ⟨rfl,aj _⟩⟩,trivial⟩ rfl rfl ?_)
      |((with_reducible show aI _ _ _ _);refine dK ?_))<;>with_reducible refine wK ?_)
    |((with_reducible show(_∧_)∧_∧_);(refine eK ?_ ?_<;>with_reducible repeat' (first|exact trivial|(show _∧_;refine aK ?_ ?_))))));all_goals clear fct)
    all_goals (first
      | (cases hp
         have ht:ns'=n1++es.map (dX lp):=rtold
         refine mH.mk (j+1) [(201,211),(202,299),(203,223)] (by omega) (by omega) ?_
         rw[hl',hn',hka',hkb',rca,rcb,ht,kf,bW])
      | (cases hp
         have ht:ns'=n1++ []:=rtold
         rw[List.append_nil] at ht
         refine mH.mk (j+1) [(201,211),(202,299),(203,213)] (by omega) (by omega) ?_
         rw[hl',hn',hka',hkb',rca,rcb,ht])
      |trace_state)
    all_goals (refine fK ?_;(with_reducible repeat' (first|exact trivial|(show _∧_;refine aK ?_ ?_)));(all_goals try rfl))
    all_goals first
      |exact⟨.refl (aa _),aa _⟩
      |exact⟨.refl (aj _),aj _⟩
      |exact bu (fun _=>rfl) (fun _=>rfl)
      |trace_state
  · obtain rfl:j=parts.length:=by simp only[cR,ay] at h1;omega
    repeat' (first
    |refine gK ?_
    |(((with_reducible show aI _ _ _ _);refine dK ?_)<;>with_reducible refine wK ?_)
    |((with_reducible show(_∧_)∧_∧_);(refine eK ?_ ?_<;>with_reducible repeat' (first|exact trivial|(show _∧_;refine aK ?_ ?_)))))
    all_goals first
      |exact⟨.refl (aa _),aa _⟩
      |exact⟨.refl (aj _),aj _⟩
      |exact bu (fun _=>rfl) (fun _=>rfl)
      |trace_state
theorem KM {m:Int}{L a b n:Nat}{before:Int}{parts:List Int}{us:Nat→List ai}{uns:Nat→List aJ}{uka:Nat→List Int}{ls:Nat→List ai}{nss:Nat→List aJ}{kas kbs:Nat→List Int}{yn:ai}(hab:b≠a)(hpl:parts.length≤1000)(hl0:(us 0).length=L)(hn:(us 0)[n]? =some yn)(hkind:yn.kind=3)
    (hka0:∀y,(us 0)[a]? =some y→y.kids=uka 0) (hkb0:∀y,(us 0)[b]? =some y→y.kids=kbs 0)
    (h27:ak Tryz.prog 27 [] [aM ⟨us 0,m⟩,ah n] [aA parts] (.own 0 0 parts.length))
    (hu:∀j k,parts[j]? =some k→ak Tryz.prog 79 [aL m L 4 (.own 3 0 (uns j).length),aA (uka j),aA (kbs 0),aN (uns j),aQ (us j) a 1 b 2] [.ptr 0 0 0,ah k] [aL m L 4 (.own 6 0 (uns (j+1)).length),.dead,aA (kbs 0),.dead,aQ (us (j+1)) a 5 b 2,aA (uka (j+1)),aN (uns (j+1))] (.tup []))
    (hls:ls 0=us parts.length) (hns:nss 0=uns parts.length) (hks:kas 0=uka parts.length)
    (hr:∀j k,parts[j]? =some k→Ay m L a b before (ls j) (nss j) (kas j) (kbs j) k (ls (j+1)) (nss (j+1)) (kas (j+1)) (kbs (j+1))):
    ak Tryz.prog 75 [aL m L 4 (.own 3 0 (uns 0).length),aA (uka 0),aA (kbs 0),aN (uns 0),aQ (us 0) a 1 b 2] [.ptr 0 0 0,ah n,ah b,ah before]
      [aL m L 4 (.own 7 0 (nss parts.length).length),.dead,.dead,.dead,aQ (ls parts.length) a 5 b 6,aA (kas parts.length),aA (kbs parts.length),aN (nss parts.length)] (.tup []):=by
  have hnl:=(aY hn).1
  have t27:=mQ (m:=m) (ex:=[]) (rest:=[ah n]) hka0 hkb0 (by rw[List.append_nil];exact h27) rfl
  rw[List.append_nil] at t27
  rw[hl0] at t27
  obtain⟨q,hq⟩:=iy a 1 b 2 n yn
  have g0:(aO (us 0) a 1 b 2)[n]? =some (yx yn q):=by rw[cO hn,hq yn rfl]
  have hgp:∀ (j:Nat) (k:Int),parts[j]? =some k→(parts.map bU)[j]? =some (ah k):=fun j k h=>nj h
  have fk:=eq_true hkind
  obtain⟨x1,x2,x3,x4,x5,x6,x7,x8,x9,x10⟩:=yn
  dsimp only at g0 fk hkind
  refine ak.eA [(5,201),(6,202),(7,203)] (rvs:=[]) G au Tryz.func75 rfl Tryz.ntmps75 rfl rfl ?_;with_reducible refine wD ?_
  (have fct:=fk;(repeat' (first
    |refine gF ?_
    | ((first
      |((with_reducible show ee _ _ _ _ _);refine ee.mk n rfl (by first|exact hnl|omega) ?_)
      |((with_reducible show aT _ _ _ _ _);refine aT.mk _ (by first|exact g0|(rw[Nat.zero_add];exact g0)) ?_)
      |((with_reducible show af _ _ 27 _ _ _ _);refine af.c7 (news:=[aQ (us 0) a 1 b 2,aA (uka 0),aA (kbs 0),aA parts]) [4,1,2,191] [] t27 Md ⟨⟨⟨rfl,rfl⟩,rfl,trivial⟩,rfl,trivial⟩ ⟨⟨rfl,bI (fun _=>rfl) (fun _=>rfl)⟩,⟨rfl,.inl ⟨rfl,aa _⟩⟩,⟨rfl,.inl ⟨rfl,aa _⟩⟩,trivial⟩ rfl ⟨⟨rfl,rfl⟩,rfl⟩ rfl ⟨⟨rfl,bB rfl rfl (by decide) (by decide)⟩,⟨rfl,.inl ⟨rfl,aa _⟩⟩,⟨rfl,.inl ⟨rfl,aa _⟩⟩,⟨rfl,.inl ⟨rfl,aa _⟩⟩,trivial⟩ rfl rfl ?_)
      |((with_reducible show aI _ _ _ _);refine dK ?_))<;>with_reducible refine wK ?_)
    |((with_reducible show(_∧_)∧_∧_);(refine eK ?_ ?_<;>with_reducible repeat' (first|exact trivial|(show _∧_;refine aK ?_ ?_))))));all_goals clear fct)
  refine bX.FW G au (fun(j:Nat)=>[(0,.ptr 0 0 0),(1,ah n),(2,ah b),(3,ah before),(8,.own 191 0 parts.length),(30,.own 191 0 parts.length),(31,ah parts.length),(32,ah j)])
    (fun j=>[(0,aL m L 4 (.own 203 0 (uns j).length)),(1,.dead),(2,aA (kbs 0)),(3,.dead),(4,aQ (us j) a 201 b 2),(201,aA (uka j)),(203,aN (uns j)),(191,aA parts)])
    (fun j=>j≤parts.length) (fun j=>parts.length-j) 0 [(201,1),(203,3)] (Nat.zero_le _) ?_ ?_
  · (refine fK ?_;(with_reducible repeat' (first|exact trivial|(show _∧_;refine aK ?_ ?_)));(all_goals try rfl))
    all_goals first
      |exact⟨.refl (aa _),aa _⟩
      |exact⟨.refl (aj _),aj _⟩
      |exact bu (fun _=>rfl) (fun _=>rfl)
      |trace_state
  intro u hu0
  with_reducible refine wK ?_
  refine aX.mk (fun h1=>?_) (fun h1=>?_)<;>(try simp only[ay] at h1)<;>with_reducible refine wK ?_
  · have hul:u<parts.length:=by simp only[bH,ay] at h1;omega
    obtain⟨k,hk⟩:∃k,parts[u]? =some k:=⟨_,bD hul⟩
    have h79:=hu u k hk
    repeat' (first
    |refine gK ?_
    | ((first
      |((with_reducible show ee _ _ _ _ _);refine ee.mk u rfl (by first|exact hul|omega) ?_)
      |((with_reducible show aT _ _ _ _ _);refine aT.mk (ah k) (by first|exact hgp _ _ hk|(rw[Nat.zero_add];exact hgp _ _ hk)) ?_)
      |((with_reducible show af _ _ 79 _ _ _ _);refine af.c7 (news:=[aL m L 4 (.own 213 0 (uns (u+1)).length),.dead,aA (kbs 0),.dead,aQ (us (u+1)) a 211 b 2,aA (uka (u+1)),aN (uns (u+1))]) [0,201,2,203,4,211,213] [] h79 J9 ⟨⟨rfl,rfl⟩,rfl,trivial⟩ ⟨⟨rfl,.inr ⟨⟨⟨⟨rfl,rfl⟩,rfl,⟨rfl,rfl⟩,trivial⟩,trivial⟩,rfl⟩⟩,⟨rfl,.inl ⟨rfl,aa _⟩⟩,⟨rfl,.inl ⟨rfl,aa _⟩⟩,⟨rfl,.inl ⟨rfl,aj _⟩⟩,⟨rfl,bI (fun _=>rfl) (fun _=>rfl)⟩,trivial⟩ rfl ⟨⟨rfl,rfl⟩,rfl⟩ rfl ⟨⟨rfl,.inr ⟨rfl,rfl,rfl⟩⟩,⟨rfl,.inl ⟨rfl,aa _⟩⟩,⟨rfl,bB rfl rfl (by decide) (by decide)⟩,⟨rfl,.inl ⟨rfl,aa _⟩⟩,⟨rfl,.inl ⟨rfl,aj _⟩⟩,trivial⟩ rfl rfl ?_)
      |((with_reducible show aI _ _ _ _);refine dK ?_))<;>with_reducible refine wK ?_)
    |((with_reducible show(_∧_)∧_∧_);(refine eK ?_ ?_<;>with_reducible repeat' (first|exact trivial|(show _∧_;refine aK ?_ ?_)))))
    refine mH.mk (u+1) [(201,211),(203,213)] (by omega) (by omega) ?_
    (refine fK ?_;(with_reducible repeat' (first|exact trivial|(show _∧_;refine aK ?_ ?_)));(all_goals try rfl))
    all_goals first
      |exact⟨.refl (aa _),aa _⟩
      |exact⟨.refl (aj _),aj _⟩
      |exact bu (fun _=>rfl) (fun _=>rfl)
      |trace_state
  obtain rfl:u=parts.length:=by simp only[cR,ay] at h1;omega
  rw[←hls,←hns,←hks]
  repeat' (first
    |refine gK ?_
    |(((with_reducible show aI _ _ _ _);refine dK ?_)<;>with_reducible refine wK ?_)
    |((with_reducible show(_∧_)∧_∧_);(refine eK ?_ ?_<;>with_reducible repeat' (first|exact trivial|(show _∧_;refine aK ?_ ?_)))))
  refine bX.FW G au (fun(j:Nat)=>[(0,.ptr 0 0 0),(2,ah b),(3,ah before),(40,.own 191 0 parts.length),(41,ah parts.length),(42,ah j)])
    (fun j=>[(0,aL m L 4 (.own 203 0 (nss j).length)),(1,.dead),(2,.dead),(3,.dead),(4,aQ (ls j) a 201 b 202),(201,aA (kas j)),(202,aA (kbs j)),(203,aN (nss j)),(191,aA parts)])
    (fun j=>j≤parts.length) (fun j=>parts.length-j) 0 [(201,201),(202,2),(203,203)] (Nat.zero_le _) ?_ ?_
  · (refine fK ?_;(with_reducible repeat' (first|exact trivial|(show _∧_;refine aK ?_ ?_)));(all_goals try rfl))
    all_goals first
      |exact⟨.refl (aa _),aa _⟩
      |exact⟨.refl (aj _),aj _⟩
      |exact bu (fun _=>rfl) (fun _=>rfl)
      |trace_state
  intro j hj
  with_reducible refine wK ?_
  refine aX.mk (fun h1=>?_) (fun h1=>?_)<;>(try simp only[ay] at h1)<;>with_reducible refine wK ?_
  · have hjl:j<parts.length:=by simp only[bH,ay] at h1;omega
    obtain⟨k0,hk0⟩:∃k,parts[j]? =some k:=⟨_,bD hjl⟩
    have R:=hr j k0 hk0
    have hgk:=hgp _ _ hk0
    obtain⟨l',hl'⟩:∃x,ls (j+1)=x:=⟨_,rfl⟩
    obtain⟨ns',hn'⟩:∃x,nss (j+1)=x:=⟨_,rfl⟩
    obtain⟨ka',hka'⟩:∃x,kas (j+1)=x:=⟨_,rfl⟩
    obtain⟨kb',hkb'⟩:∃x,kbs (j+1)=x:=⟨_,rfl⟩
    rw[hl',hn',hka',hkb'] at R
    obtain⟨k,hkk,y0,y1,yk,l1,n1,k1,i,conn,es,ex,R⟩:=R
    subst hkk
    generalize ls j=l at*
    generalize nss j=ns at*
    generalize kas j=ka at*
    generalize kbs j=kb at*
    obtain⟨rl,rl1,r0,rover,r1,rk,rkids,ri,rend,ridx,rsm,rnxt,rne,rka,rkb,rca,rcb,rcon,rels,rtold,rn1,res⟩:=R
    have hbl:=(aY r0).1
    have hbl1:=(aY r1).1
    have hkl1:=(aY rk).1
    obtain⟨hkb,hkna⟩:=rne
    have e0:(aO l a 201 b 202)[b]? =some (dW y0 202):=uD r0 hab
    have e1:(aO l1 a 211 b 202)[b]? =some (dW y1 202):=uD r1 hab
    have e2:∀x,((aO l1 a 211 b 202).set (0+b) x)[0+k]? =some (aP yk):=fun x=>by rw[Nat.zero_add,Nat.zero_add,List.getElem?_set,if_neg (fun e=>hkb e.symm)];exact F3 rk hkna hkb
    obtain⟨k3,hk3⟩:∃k3,k3=y1.kids.take i++ [(k:Int)]++y1.kids.drop i:=⟨_,rfl⟩
    have hrow:((aO l1 a 211 b 202).set (0+b) (dF {y1 with kids:=k3} 299)).set (0+k) (bF {yk with parent:=(b:Int)})=aO l' a 211 b 299:=by
      rw[rnxt,←hk3,Nat.zero_add,Nat.zero_add,rN _ hbl1 hab,oQ _ (by rw[List.length_set];exact hkl1) hkna hkb]
    rw[←hk3] at rcb
    have h140:=oU (rows:=y1.kids.map bU) (mG y1.kids) i (k:Int) (by simpa using ri) (by simp;omega)
    rw[bW,←List.map_take,←List.map_drop,show[ah (k:Int)]=[(k:Int)].map bU from rfl,←iq,←iq,←hk3,show y1.kids.length+1=k3.length by rw[hk3];simp;omega] at h140
    have t73:=fun h=>nx (rest:=[ah before]) (ridx h) rfl rfl
    have rl':l'.length=L:=by rw[rnxt,List.length_set,List.length_set,rl1]
    have t35:=nn (rest:=[ah (k:Int)]) rka rkb rcon rfl rfl
    have t141:=rD (m:=m) (n:=(k:Int)) (ns:=n1) (x:=lp) rka rkb res rn1 rels
    rw[rl'] at t35 t141
    rw[rca] at t35 t141
    rw[rcb] at t35 t141
    have hkL:k<L:=by rw[←rl1];exact hkl1
    have htL:b<L:=by rw[←rl1];exact hbl1
    obtain⟨z1,z2,z3,z4,z5,z6,z7,z8,z9,z10⟩:=y0
    obtain⟨p1,p2,p3,p4,p5,p6,p7,p8,p9,p10⟩:=y1
    obtain⟨q1,q2,q3,q4,q5,q6,q7,q8,q9,q10⟩:=yk
    dsimp only at rkids ri rend ridx rsm h140 t73 hrow rover hk3
    subst rkids
    (have fct:=rend;(repeat' (first
    |refine pF ?_
    | ((first
      |((with_reducible show aX _ _ _ _);(refine aX.mk (fun hp=>?_) (fun hp=>?_)<;>(try simp only[ay,bH,cR,Bool.not_eq_true',Bool.not_eq_false',Decidable.not_not,Int.not_lt,Int.not_le] at hp)))
      |((with_reducible show ee _ _ _ _ _);first|refine ee.mk j rfl (by first|exact hjl|omega) ?_|refine ee.mk b rfl (by first|exact htL|omega) ?_|refine ee.mk k rfl (by first|exact hkL|omega) ?_)
      |((with_reducible show aT _ _ _ _ _);first|refine aT.mk (ah (k:Int)) (by first|exact hgk|(rw[Nat.zero_add];exact hgk)) ?_|refine aT.mk _ (by first|exact e0|exact e1|exact e2 _|(rw[Nat.zero_add];first|exact e0|exact e1)) ?_)
      |((with_reducible show af _ _ 139 _ _ _ _);refine af.c7 (news:=[aL m L 4 (.own 213 0 n1.length),.dead,aA kb,.dead,aQ l1 a 211 b 202,aA k1,aN n1]) [0,201,202,203,4,211,213] [] rover JU ⟨⟨rfl,rfl⟩,rfl,rfl,trivial⟩ ⟨⟨rfl,.inr ⟨⟨⟨⟨rfl,rfl⟩,rfl,⟨rfl,rfl⟩,trivial⟩,trivial⟩,rfl⟩⟩,⟨rfl,.inl ⟨rfl,aa _⟩⟩,⟨rfl,.inl ⟨rfl,aa _⟩⟩,⟨rfl,.inl ⟨rfl,aj _⟩⟩,⟨rfl,bI (fun _=>rfl) (fun _=>rfl)⟩,trivial⟩ rfl ⟨⟨rfl,rfl⟩,rfl⟩ rfl ⟨⟨rfl,.inr ⟨rfl,rfl,rfl⟩⟩,⟨rfl,.inl ⟨rfl,aa _⟩⟩,⟨rfl,bB rfl rfl (by decide) (by decide)⟩,⟨rfl,.inl ⟨rfl,aa _⟩⟩,⟨rfl,.inl ⟨rfl,aj _⟩⟩,trivial⟩ rfl rfl ?_)
      |((with_reducible show af _ _ 73 _ _ _ _);refine af.c7 (news:=[aA kb]) [202] [] (t73 (by assumption)) GW ⟨⟨rfl,rfl⟩,rfl,trivial⟩ ⟨⟨rfl,.inl ⟨rfl,aa _⟩⟩,trivial⟩ rfl ⟨⟨rfl,rfl⟩,rfl⟩ rfl ⟨⟨rfl,.inl ⟨rfl,aa _⟩⟩,trivial⟩ rfl rfl ?_)
      |((with_reducible show af _ _ 140 _ _ _ _);refine af.c7 (news:=[.dead,.live 1 [ah (k:Int)] false,aA k3]) [202,981,299] [] h140 Jh ⟨⟨rfl,rfl⟩,by first|rfl|(show(i:Int)=(kb.length:Int);have:=rend (by assumption);omega),⟨rfl,rfl⟩,trivial⟩ ⟨⟨rfl,.inl ⟨rfl,aa _⟩⟩,⟨rfl,.inl ⟨rfl,rfl⟩⟩,trivial⟩ rfl ⟨⟨rfl,rfl⟩,rfl⟩ rfl ⟨⟨rfl,.inl ⟨rfl,rfl⟩⟩,⟨rfl,.inl ⟨rfl,aa _⟩⟩,trivial⟩ rfl rfl ?_)
      |((with_reducible show af _ _ 35 _ _ _ _);refine af.c7 (news:=[aQ l' a 211 b 299,aA k1,aA k3]) [4,211,299] [] t35 Gi ⟨⟨⟨rfl,rfl⟩,rfl,trivial⟩,rfl,trivial⟩ ⟨⟨rfl,cast (congrArg (sN _ _ _ _) hrow.symm) (bI (fun _=>rfl) (fun _=>rfl))⟩,⟨rfl,.inl ⟨rfl,aa _⟩⟩,⟨rfl,.inl ⟨rfl,aa _⟩⟩,trivial⟩ rfl ⟨⟨rfl,rfl⟩,rfl⟩ rfl ⟨⟨rfl,bB rfl rfl (by decide) (by decide)⟩,⟨rfl,.inl ⟨rfl,aa _⟩⟩,⟨rfl,.inl ⟨rfl,aa _⟩⟩,trivial⟩ rfl rfl ?_)
      |((with_reducible show af _ _ 141 _ _ _ _);refine af.c7 (news:=[aL m L 4 (.own 223 0 (n1.length+es.length)),aA k1,aA k3,.dead,aQ l' a 211 b 299,aN (n1++es.map (dX lp))]) [0,211,299,213,4,223] [] t141 Ct ⟨⟨rfl,rfl⟩,rfl,⟨rfl,rfl,rfl,rfl,rfl,rfl,rfl,rfl,rfl,trivial⟩,trivial⟩ ⟨⟨rfl,.inr ⟨⟨⟨⟨rfl,rfl⟩,rfl,⟨rfl,rfl⟩,trivial⟩,trivial⟩,rfl⟩⟩,⟨rfl,.inl ⟨rfl,aa _⟩⟩,⟨rfl,.inl ⟨rfl,aa _⟩⟩,⟨rfl,.inl ⟨rfl,aj _⟩⟩,⟨rfl,bI (fun _=>rfl) (fun _=>rfl)⟩,trivial⟩ rfl ⟨⟨rfl,rfl⟩,rfl⟩ rfl ⟨⟨rfl,.inr ⟨rfl,rfl,rfl⟩⟩,⟨rfl,.inl ⟨rfl,aa _⟩⟩,⟨rfl,.inl ⟨rfl,aa _⟩⟩,⟨rfl,bB rfl rfl (by decide) (by decide)⟩,⟨rfl,.inl ⟨rfl,aj _⟩⟩,trivial⟩ rfl rfl ?_)
      |((with_reducible show aI _ _ _ _);refine dK ?_))<;>with_reducible refine wK ?_)
    |((with_reducible show(_∧_)∧_∧_);(refine eK ?_ ?_<;>with_reducible repeat' (first|exact trivial|(show _∧_;refine aK ?_ ?_))))));all_goals clear fct)
    all_goals (first
      | (cases hp
         have ht:ns'=n1++es.map (dX lp):=rtold
         refine mH.mk (j+1) [(201,211),(202,299),(203,223)] (by omega) (by omega) ?_
         rw[hl',hn',hka',hkb',rca,rcb,ht,kf,bW])
      | (cases hp
         have ht:ns'=n1++ []:=rtold
         rw[List.append_nil] at ht
         refine mH.mk (j+1) [(201,211),(202,299),(203,213)] (by omega) (by omega) ?_
         rw[hl',hn',hka',hkb',rca,rcb,ht])
      |trace_state)
    all_goals (refine fK ?_;(with_reducible repeat' (first|exact trivial|(show _∧_;refine aK ?_ ?_)));(all_goals try rfl))
    all_goals first
      |exact⟨.refl (aa _),aa _⟩
      |exact⟨.refl (aj _),aj _⟩
      |exact bu (fun _=>rfl) (fun _=>rfl)
      |trace_state
  · obtain rfl:j=parts.length:=by simp only[cR,ay] at h1;omega
    repeat' (first
    |refine gK ?_
    |(((with_reducible show aI _ _ _ _);refine dK ?_)<;>with_reducible refine wK ?_)
    |((with_reducible show(_∧_)∧_∧_);(refine eK ?_ ?_<;>with_reducible repeat' (first|exact trivial|(show _∧_;refine aK ?_ ?_)))))
    all_goals first
      |exact⟨.refl (aa _),aa _⟩
      |exact⟨.refl (aj _),aj _⟩
      |exact bu (fun _=>rfl) (fun _=>rfl)
      |trace_state
end Go.Proofs.Heir
