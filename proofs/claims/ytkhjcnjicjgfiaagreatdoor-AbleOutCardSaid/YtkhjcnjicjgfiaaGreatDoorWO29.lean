/- Models, plain laws and contracts of functions of the given program; conditions as stated in each theorem. By an AI agent. -/
import Derived.Test.YtkhjcnjicjgfiaaGreatDoorWO28
import Derived.Test.YtkhjcnjicjgfiaaGreatDoorWO27
set_option linter.unusedSimpArgs false
set_option linter.unusedVariables false
namespace Go.Proofs.Heir
open Go Go.Am Go.RowKit Go.Lib
set_option maxRecDepth 100000
set_option maxHeartbeats 8000000
theorem MI {m:Int}{L a b n:Nat}{before:Int}{parts:List Int}{ls:Nat→List ai}{nss:Nat→List aR}{kas kbs:Nat→List Int}{yn:ai}(hab:b≠a)(hpl:parts.length≤1000)(hl0:(ls 0).length=L)(hn:(ls 0)[n]? =some yn)(hkind:yn.kind≠3)
    (hka0:∀y,(ls 0)[a]? =some y→y.kids=kas 0) (hkb0:∀y,(ls 0)[b]? =some y→y.kids=kbs 0)
    (h27:an Tryz.prog 27 [] [aY ⟨ls 0,m⟩,aj n] [aI parts] (.own 0 0 parts.length))
    (hr:∀j k,parts[j]? =some k→Bp m L a b before (ls j) (nss j) (kas j) (kbs j) k (ls (j+1)) (nss (j+1)) (kas (j+1)) (kbs (j+1))):
    an Tryz.prog 75 [aQ m L 4 (.own 3 0 (nss 0).length),aI (kas 0),aI (kbs 0),aW (nss 0),aT (ls 0) a 1 b 2] [.ptr 0 0 0,aj n,aj b,aj before]
      [aQ m L 4 (.own 7 0 (nss parts.length).length),.dead,.dead,.dead,aT (ls parts.length) a 5 b 6,aI (kas parts.length),aI (kbs parts.length),aW (nss parts.length)] (.tup []):=by
  have hnl:=(bg hn).1
  have t27:=mF (m:=m) (ex:=[]) (rest:=[aj n]) hka0 hkb0 (by rw[List.append_nil];exact h27) rfl
  rw[List.append_nil] at t27
  rw[hl0] at t27
  obtain⟨q,hq⟩:=ir a 1 b 2 n yn
  have g0:(aP (ls 0) a 1 b 2)[n]? =some (AF yn q):=by rw[cI hn,hq yn rfl]
  have hgp:∀ (j:Nat) (k:Int),parts[j]? =some k→(parts.map bV)[j]? =some (aj k):=fun j k h=>mY h
  have fk:=eq_false hkind
  obtain⟨x1,x2,x3,x4,x5,x6,x7,x8,x9,x10⟩:=yn
  dsimp only at g0 fk hkind
  refine an.fA [(5,201),(6,202),(7,203)] (rvs:=[]) G au Tryz.func75 rfl Tryz.ntmps75 rfl rfl ?_;with_reducible refine wD ?_
  (have fct:=fk;(repeat' (first
    |refine gF ?_
    | ((first
      |((with_reducible show eO _ _ _ _ _);refine eO.mk n rfl (by first|exact hnl|omega) ?_)
      |((with_reducible show aZ _ _ _ _ _);refine aZ.mk _ (by first|exact g0|(rw[Nat.zero_add];exact g0)) ?_)
      |((with_reducible show aa _ _ 27 _ _ _ _);refine aa.dg (news:=[aT (ls 0) a 1 b 2,aI (kas 0),aI (kbs 0),aI parts]) [4,1,2,191] [] t27 NW ⟨⟨⟨rfl,rfl⟩,rfl,trivial⟩,rfl,trivial⟩ ⟨⟨rfl,bR (fun _=>rfl) (fun _=>rfl)⟩,⟨rfl,.inl ⟨rfl,ae _⟩⟩,⟨rfl,.inl ⟨rfl,ae _⟩⟩,trivial⟩ rfl ⟨⟨rfl,rfl⟩,rfl⟩ rfl ⟨⟨rfl,bM rfl rfl (by decide) (by decide)⟩,⟨rfl,.inl ⟨rfl,ae _⟩⟩,⟨rfl,.inl ⟨rfl,ae _⟩⟩,⟨rfl,.inl ⟨rfl,ae _⟩⟩,trivial⟩ rfl rfl ?_)
      |((with_reducible show aL _ _ _ _);refine dK ?_))<;>with_reducible refine wK ?_)
    |((with_reducible show(_∧_)∧_∧_);(refine eK ?_ ?_<;>with_reducible repeat' (first|exact trivial|(show _∧_;refine aK ?_ ?_))))));all_goals clear fct)
  refine cn.G6 G au (fun(j:Nat)=>[(0,.ptr 0 0 0),(2,aj b),(3,aj before),(40,.own 191 0 parts.length),(41,aj parts.length),(42,aj j)])
    (fun j=>[(0,aQ m L 4 (.own 203 0 (nss j).length)),(1,.dead),(2,.dead),(3,.dead),(4,aT (ls j) a 201 b 202),(201,aI (kas j)),(202,aI (kbs j)),(203,aW (nss j)),(191,aI parts)])
    (fun j=>j≤parts.length) (fun j=>parts.length-j) 0 [(201,1),(202,2),(203,3)] (Nat.zero_le _) ?_ ?_
  · (refine fK ?_;(with_reducible repeat' (first|exact trivial|(show _∧_;refine aK ?_ ?_)));(all_goals try rfl))
    all_goals first
      |exact⟨.refl (ae _),ae _⟩
      |exact⟨.refl (aq _),aq _⟩
      |exact bt (fun _=>rfl) (fun _=>rfl)
      |trace_state
  intro j hj
  with_reducible refine wK ?_
  refine bk.mk (fun h1=>?_) (fun h1=>?_)<;>(try simp only[ay] at h1)<;>with_reducible refine wK ?_
  · have hjl:j<parts.length:=by simp only[bO,ay] at h1;omega
    obtain⟨k0,hk0⟩:∃k,parts[j]? =some k:=⟨_,bz hjl⟩
    have R:=hr j k0 hk0
    have hgk:=hgp _ _ hk0
    obtain⟨l',hl'⟩:∃x,ls (j+1)=x:=⟨_,rfl⟩
    obtain⟨ns',hn'⟩:∃x,nss (j+1)=x:=⟨_,rfl⟩
    obtain⟨ka',hka'⟩:∃x,kas (j+1)=x:=⟨_,rfl⟩
    obtain⟨kb',hkb'⟩:∃x,kbs (j+1)=x:=⟨_,rfl⟩
    rw[hl',hn',hka',hkb'] at R
    obtain⟨k,hkk,y0,y1,yk,l1,n1,k1,i,conn,es,ex,R⟩:=R
    subst hkk
    generalize ls j=l at*
    generalize nss j=ns at*
    generalize kas j=ka at*
    generalize kbs j=kb at*
    obtain⟨rl,rl1,r0,rover,r1,rk,rkids,ri,rend,ridx,rsm,rnxt,rne,rka,rkb,rca,rcb,rcon,rels,rtold,rn1,res⟩:=R
    have hbl:=(bg r0).1
    have hbl1:=(bg r1).1
    have hkl1:=(bg rk).1
    obtain⟨hkb,hkna⟩:=rne
    have e0:(aP l a 201 b 202)[b]? =some (dN y0 202):=s5 r0 hab
    have e1:(aP l1 a 211 b 202)[b]? =some (dN y1 202):=s5 r1 hab
    have e2:∀x,((aP l1 a 211 b 202).set (0+b) x)[0+k]? =some (az yk):=fun x=>by rw[Nat.zero_add,Nat.zero_add,List.getElem?_set,if_neg (fun e=>hkb e.symm)];exact Gj rk hkna hkb
    obtain⟨k3,hk3⟩:∃k3,k3=y1.kids.take i++ [(k:Int)]++y1.kids.drop i:=⟨_,rfl⟩
    have hrow:((aP l1 a 211 b 202).set (0+b) (dF {y1 with kids:=k3} 299)).set (0+k) (bJ {yk with parent:=(b:Int)})=aP l' a 211 b 299:=by
      rw[rnxt,←hk3,Nat.zero_add,Nat.zero_add,rU _ hbl1 hab,oT _ (by rw[List.length_set];exact hkl1) hkna hkb]
    rw[←hk3] at rcb
    have h140:=o5 (rows:=y1.kids.map bV) (mQ y1.kids) i (k:Int) (by simpa using ri) (by simp;omega)
    rw[cj,←List.map_take,←List.map_drop,show[aj (k:Int)]=[(k:Int)].map bV from rfl,←gY,←gY,←hk3,show y1.kids.length+1=k3.length by rw[hk3];simp;omega] at h140
    have t73:=fun h=>mP (rest:=[aj before]) (ridx h) rfl rfl
    have rl':l'.length=L:=by rw[rnxt,List.length_set,List.length_set,rl1]
    have t35:=mO (rest:=[aj (k:Int)]) rka rkb rcon rfl rfl
    have t141:=qD (m:=m) (n:=(k:Int)) (ns:=n1) (x:=kG) rka rkb res rn1 rels
    rw[rl'] at t35 t141
    rw[rca] at t35 t141
    rw[rcb] at t35 t141
    have hkL:k<L:=by rw[←rl1];exact hkl1
    have htL:b<L:=by rw[←rl1];exact hbl1
    obtain⟨z1,z2,z3,z4,z5,z6,z7,z8,z9,z10⟩:=y0
    obtain⟨p1,p2,p3,p4,p5,p6,p7,p8,p9,p10⟩:=y1
    obtain⟨q1,q2,q3,q4,q5,q6,q7,q8,q9,q10⟩:=yk
    dsimp only at rkids ri rend ridx rsm h140 t73 hrow rover hk3
    subst rkids
    (have fct:=rend;(repeat' (first
    |refine pF ?_
    | ((first
      |((with_reducible show bk _ _ _ _);(refine bk.mk (fun hp=>?_) (fun hp=>?_)<;>(try simp only[ay,bO,dh,Bool.not_eq_true',Bool.not_eq_false',Decidable.not_not,Int.not_lt,Int.not_le] at hp)))
      |((with_reducible show eO _ _ _ _ _);first|refine eO.mk j rfl (by first|exact hjl|omega) ?_|refine eO.mk b rfl (by first|exact htL|omega) ?_|refine eO.mk k rfl (by first|exact hkL|omega) ?_)
      |((with_reducible show aZ _ _ _ _ _);first|refine aZ.mk (aj (k:Int)) (by first|exact hgk|(rw[Nat.zero_add];exact hgk)) ?_|refine aZ.mk _ (by first|exact e0|exact e1|exact e2 _|(rw[Nat.zero_add];first|exact e0|exact e1)) ?_)
      |((with_reducible show aa _ _ 139 _ _ _ _);refine aa.dg (news:=[aQ m L 4 (.own 213 0 n1.length),.dead,aI kb,.dead,aT l1 a 211 b 202,aI k1,aW n1]) [0,201,202,203,4,211,213] [] rover Kr ⟨⟨rfl,rfl⟩,rfl,rfl,trivial⟩ ⟨⟨rfl,.inr ⟨⟨⟨⟨rfl,rfl⟩,rfl,⟨rfl,rfl⟩,trivial⟩,trivial⟩,rfl⟩⟩,⟨rfl,.inl ⟨rfl,ae _⟩⟩,⟨rfl,.inl ⟨rfl,ae _⟩⟩,⟨rfl,.inl ⟨rfl,aq _⟩⟩,⟨rfl,bR (fun _=>rfl) (fun _=>rfl)⟩,trivial⟩ rfl ⟨⟨rfl,rfl⟩,rfl⟩ rfl ⟨⟨rfl,.inr ⟨rfl,rfl,rfl⟩⟩,⟨rfl,.inl ⟨rfl,ae _⟩⟩,⟨rfl,bM rfl rfl (by decide) (by decide)⟩,⟨rfl,.inl ⟨rfl,ae _⟩⟩,⟨rfl,.inl ⟨rfl,aq _⟩⟩,trivial⟩ rfl rfl ?_)
      |((with_reducible show aa _ _ 73 _ _ _ _);refine aa.dg (news:=[aI kb]) [202] [] (t73 (by assumption)) Ju ⟨⟨rfl,rfl⟩,rfl,trivial⟩ ⟨⟨rfl,.inl ⟨rfl,ae _⟩⟩,trivial⟩ rfl ⟨⟨rfl,rfl⟩,rfl⟩ rfl ⟨⟨rfl,.inl ⟨rfl,ae _⟩⟩,trivial⟩ rfl rfl ?_)
      |((with_reducible show aa _ _ 140 _ _ _ _);refine aa.dg (news:=[.dead,.live 1 [aj (k:Int)] false,aI k3]) [202,981,299] [] h140 Lf ⟨⟨rfl,rfl⟩,by first|rfl|(show(i:Int)=(kb.length:Int);have:=rend (by assumption);omega),⟨rfl,rfl⟩,trivial⟩ ⟨⟨rfl,.inl ⟨rfl,ae _⟩⟩,⟨rfl,.inl ⟨rfl,rfl⟩⟩,trivial⟩ rfl ⟨⟨rfl,rfl⟩,rfl⟩ rfl ⟨⟨rfl,.inl ⟨rfl,rfl⟩⟩,⟨rfl,.inl ⟨rfl,ae _⟩⟩,trivial⟩ rfl rfl ?_)
      |((with_reducible show aa _ _ 35 _ _ _ _);refine aa.dg (news:=[aT l' a 211 b 299,aI k1,aI k3]) [4,211,299] [] t35 Mz ⟨⟨⟨rfl,rfl⟩,rfl,trivial⟩,rfl,trivial⟩ ⟨⟨rfl,cast (congrArg (zz _ _ _ _) hrow.symm) (bR (fun _=>rfl) (fun _=>rfl))⟩,⟨rfl,.inl ⟨rfl,ae _⟩⟩,⟨rfl,.inl ⟨rfl,ae _⟩⟩,trivial⟩ rfl ⟨⟨rfl,rfl⟩,rfl⟩ rfl ⟨⟨rfl,bM rfl rfl (by decide) (by decide)⟩,⟨rfl,.inl ⟨rfl,ae _⟩⟩,⟨rfl,.inl ⟨rfl,ae _⟩⟩,trivial⟩ rfl rfl ?_)
      |((with_reducible show aa _ _ 141 _ _ _ _);refine aa.dg (news:=[aQ m L 4 (.own 223 0 (n1.length+es.length)),aI k1,aI k3,.dead,aT l' a 211 b 299,aW (n1++es.map (dO kG))]) [0,211,299,213,4,223] [] t141 Ey ⟨⟨rfl,rfl⟩,rfl,⟨rfl,rfl,rfl,rfl,rfl,rfl,rfl,rfl,rfl,trivial⟩,trivial⟩ ⟨⟨rfl,.inr ⟨⟨⟨⟨rfl,rfl⟩,rfl,⟨rfl,rfl⟩,trivial⟩,trivial⟩,rfl⟩⟩,⟨rfl,.inl ⟨rfl,ae _⟩⟩,⟨rfl,.inl ⟨rfl,ae _⟩⟩,⟨rfl,.inl ⟨rfl,aq _⟩⟩,⟨rfl,bR (fun _=>rfl) (fun _=>rfl)⟩,trivial⟩ rfl ⟨⟨rfl,rfl⟩,rfl⟩ rfl ⟨⟨rfl,.inr ⟨rfl,rfl,rfl⟩⟩,⟨rfl,.inl ⟨rfl,ae _⟩⟩,⟨rfl,.inl ⟨rfl,ae _⟩⟩,⟨rfl,bM rfl rfl (by decide) (by decide)⟩,⟨rfl,.inl ⟨rfl,aq _⟩⟩,trivial⟩ rfl rfl ?_)
      |((with_reducible show aL _ _ _ _);refine dK ?_))<;>with_reducible refine wK ?_)
    |((with_reducible show(_∧_)∧_∧_);(refine eK ?_ ?_<;>with_reducible repeat' (first|exact trivial|(show _∧_;refine aK ?_ ?_))))));all_goals clear fct)
    all_goals (first
      | (cases hp
         have ht:ns'=n1++es.map (dO kG):=rtold
         refine my.mk (j+1) [(201,211),(202,299),(203,223)] (by omega) (by omega) ?_
         rw[hl',hn',hka',hkb',rca,rcb,ht,jH,cj])
      | (cases hp
         have ht:ns'=n1++ []:=rtold
         rw[List.append_nil] at ht
         refine my.mk (j+1) [(201,211),(202,299),(203,213)] (by omega) (by omega) ?_
         rw[hl',hn',hka',hkb',rca,rcb,ht])
      |trace_state)
    all_goals (refine fK ?_;(with_reducible repeat' (first|exact trivial|(show _∧_;refine aK ?_ ?_)));(all_goals try rfl))
    all_goals first
      |exact⟨.refl (ae _),ae _⟩
      |exact⟨.refl (aq _),aq _⟩
      |exact bt (fun _=>rfl) (fun _=>rfl)
      |trace_state
  · obtain rfl:j=parts.length:=by simp only[dh,ay] at h1;omega
    repeat' (first
    |refine gK ?_
    |(((with_reducible show aL _ _ _ _);refine dK ?_)<;>with_reducible refine wK ?_)
    |((with_reducible show(_∧_)∧_∧_);(refine eK ?_ ?_<;>with_reducible repeat' (first|exact trivial|(show _∧_;refine aK ?_ ?_)))))
    all_goals first
      |exact⟨.refl (ae _),ae _⟩
      |exact⟨.refl (aq _),aq _⟩
      |exact bt (fun _=>rfl) (fun _=>rfl)
      |trace_state
theorem MT {m:Int}{L a b n:Nat}{before:Int}{parts:List Int}{us:Nat→List ai}{uns:Nat→List aR}{uka:Nat→List Int}{ls:Nat→List ai}{nss:Nat→List aR}{kas kbs:Nat→List Int}{yn:ai}(hab:b≠a)(hpl:parts.length≤1000)(hl0:(us 0).length=L)(hn:(us 0)[n]? =some yn)(hkind:yn.kind=3)
    (hka0:∀y,(us 0)[a]? =some y→y.kids=uka 0) (hkb0:∀y,(us 0)[b]? =some y→y.kids=kbs 0)
    (h27:an Tryz.prog 27 [] [aY ⟨us 0,m⟩,aj n] [aI parts] (.own 0 0 parts.length))
    (hu:∀j k,parts[j]? =some k→an Tryz.prog 79 [aQ m L 4 (.own 3 0 (uns j).length),aI (uka j),aI (kbs 0),aW (uns j),aT (us j) a 1 b 2] [.ptr 0 0 0,aj k] [aQ m L 4 (.own 6 0 (uns (j+1)).length),.dead,aI (kbs 0),.dead,aT (us (j+1)) a 5 b 2,aI (uka (j+1)),aW (uns (j+1))] (.tup []))
    (hls:ls 0=us parts.length) (hns:nss 0=uns parts.length) (hks:kas 0=uka parts.length)
    (hr:∀j k,parts[j]? =some k→Bp m L a b before (ls j) (nss j) (kas j) (kbs j) k (ls (j+1)) (nss (j+1)) (kas (j+1)) (kbs (j+1))):
    an Tryz.prog 75 [aQ m L 4 (.own 3 0 (uns 0).length),aI (uka 0),aI (kbs 0),aW (uns 0),aT (us 0) a 1 b 2] [.ptr 0 0 0,aj n,aj b,aj before]
      [aQ m L 4 (.own 7 0 (nss parts.length).length),.dead,.dead,.dead,aT (ls parts.length) a 5 b 6,aI (kas parts.length),aI (kbs parts.length),aW (nss parts.length)] (.tup []):=by
  have hnl:=(bg hn).1
  have t27:=mF (m:=m) (ex:=[]) (rest:=[aj n]) hka0 hkb0 (by rw[List.append_nil];exact h27) rfl
  rw[List.append_nil] at t27
  rw[hl0] at t27
  obtain⟨q,hq⟩:=ir a 1 b 2 n yn
  have g0:(aP (us 0) a 1 b 2)[n]? =some (AF yn q):=by rw[cI hn,hq yn rfl]
  have hgp:∀ (j:Nat) (k:Int),parts[j]? =some k→(parts.map bV)[j]? =some (aj k):=fun j k h=>mY h
  have fk:=eq_true hkind
  obtain⟨x1,x2,x3,x4,x5,x6,x7,x8,x9,x10⟩:=yn
  dsimp only at g0 fk hkind
  refine an.fA [(5,201),(6,202),(7,203)] (rvs:=[]) G au Tryz.func75 rfl Tryz.ntmps75 rfl rfl ?_;with_reducible refine wD ?_
  (have fct:=fk;(repeat' (first
    |refine gF ?_
    | ((first
      |((with_reducible show eO _ _ _ _ _);refine eO.mk n rfl (by first|exact hnl|omega) ?_)
      |((with_reducible show aZ _ _ _ _ _);refine aZ.mk _ (by first|exact g0|(rw[Nat.zero_add];exact g0)) ?_)
      |((with_reducible show aa _ _ 27 _ _ _ _);refine aa.dg (news:=[aT (us 0) a 1 b 2,aI (uka 0),aI (kbs 0),aI parts]) [4,1,2,191] [] t27 NW ⟨⟨⟨rfl,rfl⟩,rfl,trivial⟩,rfl,trivial⟩ ⟨⟨rfl,bR (fun _=>rfl) (fun _=>rfl)⟩,⟨rfl,.inl ⟨rfl,ae _⟩⟩,⟨rfl,.inl ⟨rfl,ae _⟩⟩,trivial⟩ rfl ⟨⟨rfl,rfl⟩,rfl⟩ rfl ⟨⟨rfl,bM rfl rfl (by decide) (by decide)⟩,⟨rfl,.inl ⟨rfl,ae _⟩⟩,⟨rfl,.inl ⟨rfl,ae _⟩⟩,⟨rfl,.inl ⟨rfl,ae _⟩⟩,trivial⟩ rfl rfl ?_)
      |((with_reducible show aL _ _ _ _);refine dK ?_))<;>with_reducible refine wK ?_)
    |((with_reducible show(_∧_)∧_∧_);(refine eK ?_ ?_<;>with_reducible repeat' (first|exact trivial|(show _∧_;refine aK ?_ ?_))))));all_goals clear fct)
  refine cn.G6 G au (fun(j:Nat)=>[(0,.ptr 0 0 0),(1,aj n),(2,aj b),(3,aj before),(8,.own 191 0 parts.length),(30,.own 191 0 parts.length),(31,aj parts.length),(32,aj j)])
    (fun j=>[(0,aQ m L 4 (.own 203 0 (uns j).length)),(1,.dead),(2,aI (kbs 0)),(3,.dead),(4,aT (us j) a 201 b 2),(201,aI (uka j)),(203,aW (uns j)),(191,aI parts)])
    (fun j=>j≤parts.length) (fun j=>parts.length-j) 0 [(201,1),(203,3)] (Nat.zero_le _) ?_ ?_
  · (refine fK ?_;(with_reducible repeat' (first|exact trivial|(show _∧_;refine aK ?_ ?_)));(all_goals try rfl))
    all_goals first
      |exact⟨.refl (ae _),ae _⟩
      |exact⟨.refl (aq _),aq _⟩
      |exact bt (fun _=>rfl) (fun _=>rfl)
      |trace_state
  intro u hu0
  with_reducible refine wK ?_
  refine bk.mk (fun h1=>?_) (fun h1=>?_)<;>(try simp only[ay] at h1)<;>with_reducible refine wK ?_
  · have hul:u<parts.length:=by simp only[bO,ay] at h1;omega
    obtain⟨k,hk⟩:∃k,parts[u]? =some k:=⟨_,bz hul⟩
    have h79:=hu u k hk
    repeat' (first
    |refine gK ?_
    | ((first
      |((with_reducible show eO _ _ _ _ _);refine eO.mk u rfl (by first|exact hul|omega) ?_)
      |((with_reducible show aZ _ _ _ _ _);refine aZ.mk (aj k) (by first|exact hgp _ _ hk|(rw[Nat.zero_add];exact hgp _ _ hk)) ?_)
      |((with_reducible show aa _ _ 79 _ _ _ _);refine aa.dg (news:=[aQ m L 4 (.own 213 0 (uns (u+1)).length),.dead,aI (kbs 0),.dead,aT (us (u+1)) a 211 b 2,aI (uka (u+1)),aW (uns (u+1))]) [0,201,2,203,4,211,213] [] h79 MY ⟨⟨rfl,rfl⟩,rfl,trivial⟩ ⟨⟨rfl,.inr ⟨⟨⟨⟨rfl,rfl⟩,rfl,⟨rfl,rfl⟩,trivial⟩,trivial⟩,rfl⟩⟩,⟨rfl,.inl ⟨rfl,ae _⟩⟩,⟨rfl,.inl ⟨rfl,ae _⟩⟩,⟨rfl,.inl ⟨rfl,aq _⟩⟩,⟨rfl,bR (fun _=>rfl) (fun _=>rfl)⟩,trivial⟩ rfl ⟨⟨rfl,rfl⟩,rfl⟩ rfl ⟨⟨rfl,.inr ⟨rfl,rfl,rfl⟩⟩,⟨rfl,.inl ⟨rfl,ae _⟩⟩,⟨rfl,bM rfl rfl (by decide) (by decide)⟩,⟨rfl,.inl ⟨rfl,ae _⟩⟩,⟨rfl,.inl ⟨rfl,aq _⟩⟩,trivial⟩ rfl rfl ?_)
      |((with_reducible show aL _ _ _ _);refine dK ?_))<;>with_reducible refine wK ?_)
    |((with_reducible show(_∧_)∧_∧_);(refine eK ?_ ?_<;>with_reducible repeat' (first|exact trivial|(show _∧_;refine aK ?_ ?_)))))
    refine my.mk (u+1) [(201,211),(203,213)] (by omega) (by omega) ?_
    (refine fK ?_;(with_reducible repeat' (first|exact trivial|(show _∧_;refine aK ?_ ?_)));(all_goals try rfl))
    all_goals first
      |exact⟨.refl (ae _),ae _⟩
      |exact⟨.refl (aq _),aq _⟩
      |exact bt (fun _=>rfl) (fun _=>rfl)
      |trace_state
  obtain rfl:u=parts.length:=by simp only[dh,ay] at h1;omega
  rw[←hls,←hns,←hks]
  repeat' (first
    |refine gK ?_
    |(((with_reducible show aL _ _ _ _);refine dK ?_)<;>with_reducible refine wK ?_)
    |((with_reducible show(_∧_)∧_∧_);(refine eK ?_ ?_<;>with_reducible repeat' (first|exact trivial|(show _∧_;refine aK ?_ ?_)))))
  refine cn.G6 G au (fun(j:Nat)=>[(0,.ptr 0 0 0),(2,aj b),(3,aj before),(40,.own 191 0 parts.length),(41,aj parts.length),(42,aj j)])
    (fun j=>[(0,aQ m L 4 (.own 203 0 (nss j).length)),(1,.dead),(2,.dead),(3,.dead),(4,aT (ls j) a 201 b 202),(201,aI (kas j)),(202,aI (kbs j)),(203,aW (nss j)),(191,aI parts)])
    (fun j=>j≤parts.length) (fun j=>parts.length-j) 0 [(201,201),(202,2),(203,203)] (Nat.zero_le _) ?_ ?_
  · (refine fK ?_;(with_reducible repeat' (first|exact trivial|(show _∧_;refine aK ?_ ?_)));(all_goals try rfl))
    all_goals first
      |exact⟨.refl (ae _),ae _⟩
      |exact⟨.refl (aq _),aq _⟩
      |exact bt (fun _=>rfl) (fun _=>rfl)
      |trace_state
  intro j hj
  with_reducible refine wK ?_
  refine bk.mk (fun h1=>?_) (fun h1=>?_)<;>(try simp only[ay] at h1)<;>with_reducible refine wK ?_
  · have hjl:j<parts.length:=by simp only[bO,ay] at h1;omega
    obtain⟨k0,hk0⟩:∃k,parts[j]? =some k:=⟨_,bz hjl⟩
    have R:=hr j k0 hk0
    have hgk:=hgp _ _ hk0
    obtain⟨l',hl'⟩:∃x,ls (j+1)=x:=⟨_,rfl⟩
    obtain⟨ns',hn'⟩:∃x,nss (j+1)=x:=⟨_,rfl⟩
    obtain⟨ka',hka'⟩:∃x,kas (j+1)=x:=⟨_,rfl⟩
    obtain⟨kb',hkb'⟩:∃x,kbs (j+1)=x:=⟨_,rfl⟩
    rw[hl',hn',hka',hkb'] at R
    obtain⟨k,hkk,y0,y1,yk,l1,n1,k1,i,conn,es,ex,R⟩:=R
    subst hkk
    generalize ls j=l at*
    generalize nss j=ns at*
    generalize kas j=ka at*
    generalize kbs j=kb at*
    obtain⟨rl,rl1,r0,rover,r1,rk,rkids,ri,rend,ridx,rsm,rnxt,rne,rka,rkb,rca,rcb,rcon,rels,rtold,rn1,res⟩:=R
    have hbl:=(bg r0).1
    have hbl1:=(bg r1).1
    have hkl1:=(bg rk).1
    obtain⟨hkb,hkna⟩:=rne
    have e0:(aP l a 201 b 202)[b]? =some (dN y0 202):=s5 r0 hab
    have e1:(aP l1 a 211 b 202)[b]? =some (dN y1 202):=s5 r1 hab
    have e2:∀x,((aP l1 a 211 b 202).set (0+b) x)[0+k]? =some (az yk):=fun x=>by rw[Nat.zero_add,Nat.zero_add,List.getElem?_set,if_neg (fun e=>hkb e.symm)];exact Gj rk hkna hkb
    obtain⟨k3,hk3⟩:∃k3,k3=y1.kids.take i++ [(k:Int)]++y1.kids.drop i:=⟨_,rfl⟩
    have hrow:((aP l1 a 211 b 202).set (0+b) (dF {y1 with kids:=k3} 299)).set (0+k) (bJ {yk with parent:=(b:Int)})=aP l' a 211 b 299:=by
      rw[rnxt,←hk3,Nat.zero_add,Nat.zero_add,rU _ hbl1 hab,oT _ (by rw[List.length_set];exact hkl1) hkna hkb]
    rw[←hk3] at rcb
    have h140:=o5 (rows:=y1.kids.map bV) (mQ y1.kids) i (k:Int) (by simpa using ri) (by simp;omega)
    rw[cj,←List.map_take,←List.map_drop,show[aj (k:Int)]=[(k:Int)].map bV from rfl,←gY,←gY,←hk3,show y1.kids.length+1=k3.length by rw[hk3];simp;omega] at h140
    have t73:=fun h=>mP (rest:=[aj before]) (ridx h) rfl rfl
    have rl':l'.length=L:=by rw[rnxt,List.length_set,List.length_set,rl1]
    have t35:=mO (rest:=[aj (k:Int)]) rka rkb rcon rfl rfl
    have t141:=qD (m:=m) (n:=(k:Int)) (ns:=n1) (x:=kG) rka rkb res rn1 rels
    rw[rl'] at t35 t141
    rw[rca] at t35 t141
    rw[rcb] at t35 t141
    have hkL:k<L:=by rw[←rl1];exact hkl1
    have htL:b<L:=by rw[←rl1];exact hbl1
    obtain⟨z1,z2,z3,z4,z5,z6,z7,z8,z9,z10⟩:=y0
    obtain⟨p1,p2,p3,p4,p5,p6,p7,p8,p9,p10⟩:=y1
    obtain⟨q1,q2,q3,q4,q5,q6,q7,q8,q9,q10⟩:=yk
    dsimp only at rkids ri rend ridx rsm h140 t73 hrow rover hk3
    subst rkids
    (have fct:=rend;(repeat' (first
    |refine pF ?_
    | ((first
      |((with_reducible show bk _ _ _ _);(refine bk.mk (fun hp=>?_) (fun hp=>?_)<;>(try simp only[ay,bO,dh,Bool.not_eq_true',Bool.not_eq_false',Decidable.not_not,Int.not_lt,Int.not_le] at hp)))
      |((with_reducible show eO _ _ _ _ _);first|refine eO.mk j rfl (by first|exact hjl|omega) ?_|refine eO.mk b rfl (by first|exact htL|omega) ?_|refine eO.mk k rfl (by first|exact hkL|omega) ?_)
      |((with_reducible show aZ _ _ _ _ _);first|refine aZ.mk (aj (k:Int)) (by first|exact hgk|(rw[Nat.zero_add];exact hgk)) ?_|refine aZ.mk _ (by first|exact e0|exact e1|exact e2 _|(rw[Nat.zero_add];first|exact e0|exact e1)) ?_)
      |((with_reducible show aa _ _ 139 _ _ _ _);refine aa.dg (news:=[aQ m L 4 (.own 213 0 n1.length),.dead,aI kb,.dead,aT l1 a 211 b 202,aI k1,aW n1]) [0,201,202,203,4,211,213] [] rover Kr ⟨⟨rfl,rfl⟩,rfl,rfl,trivial⟩ ⟨⟨rfl,.inr ⟨⟨⟨⟨rfl,rfl⟩,rfl,⟨rfl,rfl⟩,trivial⟩,trivial⟩,rfl⟩⟩,⟨rfl,.inl ⟨rfl,ae _⟩⟩,⟨rfl,.inl ⟨rfl,ae _⟩⟩,⟨rfl,.inl ⟨rfl,aq _⟩⟩,⟨rfl,bR (fun _=>rfl) (fun _=>rfl)⟩,trivial⟩ rfl ⟨⟨rfl,rfl⟩,rfl⟩ rfl ⟨⟨rfl,.inr ⟨rfl,rfl,rfl⟩⟩,⟨rfl,.inl ⟨rfl,ae _⟩⟩,⟨rfl,bM rfl rfl (by decide) (by decide)⟩,⟨rfl,.inl ⟨rfl,ae _⟩⟩,⟨rfl,.inl ⟨rfl,aq _⟩⟩,trivial⟩ rfl rfl ?_)
      |((with_reducible show aa _ _ 73 _ _ _ _);refine aa.dg (news:=[aI kb]) [202] [] (t73 (by assumption)) Ju ⟨⟨rfl,rfl⟩,rfl,trivial⟩ ⟨⟨rfl,.inl ⟨rfl,ae _⟩⟩,trivial⟩ rfl ⟨⟨rfl,rfl⟩,rfl⟩ rfl ⟨⟨rfl,.inl ⟨rfl,ae _⟩⟩,trivial⟩ rfl rfl ?_)
      |((with_reducible show aa _ _ 140 _ _ _ _);refine aa.dg (news:=[.dead,.live 1 [aj (k:Int)] false,aI k3]) [202,981,299] [] h140 Lf ⟨⟨rfl,rfl⟩,by first|rfl|(show(i:Int)=(kb.length:Int);have:=rend (by assumption);omega),⟨rfl,rfl⟩,trivial⟩ ⟨⟨rfl,.inl ⟨rfl,ae _⟩⟩,⟨rfl,.inl ⟨rfl,rfl⟩⟩,trivial⟩ rfl ⟨⟨rfl,rfl⟩,rfl⟩ rfl ⟨⟨rfl,.inl ⟨rfl,rfl⟩⟩,⟨rfl,.inl ⟨rfl,ae _⟩⟩,trivial⟩ rfl rfl ?_)
      |((with_reducible show aa _ _ 35 _ _ _ _);refine aa.dg (news:=[aT l' a 211 b 299,aI k1,aI k3]) [4,211,299] [] t35 Mz ⟨⟨⟨rfl,rfl⟩,rfl,trivial⟩,rfl,trivial⟩ ⟨⟨rfl,cast (congrArg (zz _ _ _ _) hrow.symm) (bR (fun _=>rfl) (fun _=>rfl))⟩,⟨rfl,.inl ⟨rfl,ae _⟩⟩,⟨rfl,.inl ⟨rfl,ae _⟩⟩,trivial⟩ rfl ⟨⟨rfl,rfl⟩,rfl⟩ rfl ⟨⟨rfl,bM rfl rfl (by decide) (by decide)⟩,⟨rfl,.inl ⟨rfl,ae _⟩⟩,⟨rfl,.inl ⟨rfl,ae _⟩⟩,trivial⟩ rfl rfl ?_)
      |((with_reducible show aa _ _ 141 _ _ _ _);refine aa.dg (news:=[aQ m L 4 (.own 223 0 (n1.length+es.length)),aI k1,aI k3,.dead,aT l' a 211 b 299,aW (n1++es.map (dO kG))]) [0,211,299,213,4,223] [] t141 Ey ⟨⟨rfl,rfl⟩,rfl,⟨rfl,rfl,rfl,rfl,rfl,rfl,rfl,rfl,rfl,trivial⟩,trivial⟩ ⟨⟨rfl,.inr ⟨⟨⟨⟨rfl,rfl⟩,rfl,⟨rfl,rfl⟩,trivial⟩,trivial⟩,rfl⟩⟩,⟨rfl,.inl ⟨rfl,ae _⟩⟩,⟨rfl,.inl ⟨rfl,ae _⟩⟩,⟨rfl,.inl ⟨rfl,aq _⟩⟩,⟨rfl,bR (fun _=>rfl) (fun _=>rfl)⟩,trivial⟩ rfl ⟨⟨rfl,rfl⟩,rfl⟩ rfl ⟨⟨rfl,.inr ⟨rfl,rfl,rfl⟩⟩,⟨rfl,.inl ⟨rfl,ae _⟩⟩,⟨rfl,.inl ⟨rfl,ae _⟩⟩,⟨rfl,bM rfl rfl (by decide) (by decide)⟩,⟨rfl,.inl ⟨rfl,aq _⟩⟩,trivial⟩ rfl rfl ?_)
      |((with_reducible show aL _ _ _ _);refine dK ?_))<;>with_reducible refine wK ?_)
    |((with_reducible show(_∧_)∧_∧_);(refine eK ?_ ?_<;>with_reducible repeat' (first|exact trivial|(show _∧_;refine aK ?_ ?_))))));all_goals clear fct)
    all_goals (first
      | (cases hp
         have ht:ns'=n1++es.map (dO kG):=rtold
         refine my.mk (j+1) [(201,211),(202,299),(203,223)] (by omega) (by omega) ?_
         rw[hl',hn',hka',hkb',rca,rcb,ht,jH,cj])
      | (cases hp
         have ht:ns'=n1++ []:=rtold
         rw[List.append_nil] at ht
         refine my.mk (j+1) [(201,211),(202,299),(203,213)] (by omega) (by omega) ?_
         rw[hl',hn',hka',hkb',rca,rcb,ht])
      |trace_state)
    all_goals (refine fK ?_;(with_reducible repeat' (first|exact trivial|(show _∧_;refine aK ?_ ?_)));(all_goals try rfl))
    all_goals first
      |exact⟨.refl (ae _),ae _⟩
      |exact⟨.refl (aq _),aq _⟩
      |exact bt (fun _=>rfl) (fun _=>rfl)
      |trace_state
  · obtain rfl:j=parts.length:=by simp only[dh,ay] at h1;omega
    repeat' (first
    |refine gK ?_
    |(((with_reducible show aL _ _ _ _);refine dK ?_)<;>with_reducible refine wK ?_)
    |((with_reducible show(_∧_)∧_∧_);(refine eK ?_ ?_<;>with_reducible repeat' (first|exact trivial|(show _∧_;refine aK ?_ ?_)))))
    all_goals first
      |exact⟨.refl (ae _),ae _⟩
      |exact⟨.refl (aq _),aq _⟩
      |exact bt (fun _=>rfl) (fun _=>rfl)
      |trace_state
end Go.Proofs.Heir
namespace Go.Proofs.Heir
open Go Go.Am Go.RowKit Go.Lib
set_option maxRecDepth 100000
set_option maxHeartbeats 8000000
set_option maxHeartbeats 4000000
section
variable {l : List ai} {m : Int}
theorem AH {p b:Int}{ks:List Int}(R:RF l m)(h60:l.length≤60)(hd:ks.Nodup)(ns:List aR)(hC:∀k∈ks,fu l k p b∧((nd l k).parent=-1∨ks.length=1))(h0:(nd l p).kind=0→ks.length≤1)(tp:af l p=true):
    ∀ j,j≤ks.length→RF ((ks.take j).foldl (cK p b) (l,ns)).1 m∧((ks.take j).foldl (cK p b) (l,ns)).1.length=l.length∧((ks.take j).foldl (cK p b) (l,ns)).2.length≤ns.length+180*j∧(nd ((ks.take j).foldl (cK p b) (l,ns)).1 p).kind=(nd l p).kind∧
      ∀i k,j≤i→ks[i]? =some k→fu ((ks.take j).foldl (cK p b) (l,ns)).1 k p b∧(nd ((ks.take j).foldl (cK p b) (l,ns)).1 k).parent=(nd l k).parent:=by
  intro j
  induction j with
  |zero=>exact fun _=>⟨R,rfl,Nat.le_refl _,rfl,fun i k _ hk=>⟨(hC k (bT hk)).1,rfl⟩⟩
  | succ j ih=>
    intro hj
    obtain⟨i1,i2,i3,i4,i5⟩:=ih (by omega)
    obtain⟨k,hk⟩:∃k,ks[j]? =some k:=⟨_,bz (by omega)⟩
    have hs:(ks.take (j+1)).foldl (cK p b) (l,ns)=cK p b ((ks.take j).foldl (cK p b) (l,ns)) k:=by
      rw[List.take_add_one,hk,List.foldl_append];rfl
    rw[hs]
    clear ih hs
    generalize(ks.take j).foldl (cK p b) (l,ns)=S at*
    obtain⟨s1,s2⟩:=S
    simp only at i1 i2 i3 i4 i5
    obtain⟨C,hp⟩:=i5 j k (Nat.le_refl _) hk
    obtain⟨kn,_,rfl,_,_⟩:=aU.1 C.tk
    have hl:=GO i1 (by omega) C (i1.own p C.tp).1 s2
    rw[wc]
    refine⟨ig i1 C,by rw[fj,i2],by omega,?_,?_⟩
    ·rw[(fU i1 C p C.tp).1.kind,i4]
    · intro i c hi hc
      obtain⟨D,hq⟩:=i5 i c (by omega) hc
      have hne:c≠ (kn:Int):=fun e=>by
        have hil:=(bg hc).1
        have h1:=(bg hc).2
        have h2:=(bg hk).2
        exact(List.pairwise_iff_getElem.1 hd) j i (by omega) hil (by omega) (by rw[h1,h2,e])
      have hil:=(bg hc).1
      have hk0:(nd s1 p).kind≠0:=fun e=>by
        have:=h0 (by rw[←i4];exact e)
        omega
      refine⟨nR i1 C D hne hk0,?_⟩
      rw[(fU i1 C c D.tk).2.1,if_neg hne,hq]
theorem yQ:∀ (ks:List Int) {l:List ai} (ns:List aR),RF l m→l.length≤60→(∀k∈ks,af l k=true)→(ks.foldl dA (l,ns)).2.length≤ns.length+60*ks.length
  |[],l,ns,R,h60,_=>by simp
  | k ::ks,l,ns,R,h60,h=>by
    have hk:=h k dJ
    obtain⟨kn,_,rfl,_,_⟩:=aU.1 hk
    have h1:=xw R h60 (di hk) ns
    have hf:=mH (l,ns) (kn:Int)
    have hsp:dA (l,ns) (kn:Int)=(bI l kn,(dA (l,ns) (kn:Int)).2):=by
      rw[←hf]
    have h2:=yQ ks (l:=bI l kn) (dA (l,ns) (kn:Int)).2 (fm R hk) (by rw[dS];exact h60) (fun j hj=>by rw[bf (dS ..)];exact h j (c7 _ hj))
    rw[List.foldl_cons,hsp,List.length_cons]
    omega
theorem CP {n k:Int}{j:Nat}(h:[n][j]? =some k):j=0∧k=n:=by
  cases j with
  |zero=>cases h;exact⟨rfl,rfl⟩
  |succ j=>simp at h
theorem FX (R:RF l m)(h60:l.length≤60){n p:Nat}{before:Int}(C:qu l n p before)(h3:(nd l n).kind≠3)(h:(nd l n).parent=-1∨(nd l n).parent=(p:Int)){ns:List aR}(hns:ns.length≤1000):
    an Tryz.prog 75 [aQ m l.length 4 (.own 3 0 ns.length),aI (nd l p).kids,aI (nd l n).kids,aW ns,aT l p 1 n 2] [.ptr 0 0 0,aj n,aj p,aj before]
      [aQ m l.length 4 (.own 7 0 (dz (l,ns) n p before).2.length),.dead,.dead,.dead,aT (dz (l,ns) n p before).1 p 5 n 6,aI (nd (dz (l,ns) n p before).1 p).kids,aI (nd (dz (l,ns) n p before).1 n).kids,aW (dz (l,ns) n p before).2] (.tup []):=by
  have hnl:=di C.tn
  have hpl:=di C.tp
  have hne:n≠p:=fun e=>C.w (by rw[e];exact U.cV R.tree C.tp)
  have h27:=Bu ⟨l,m⟩ (fg R h60) n _ (c9 hnl) (cC.2 R)
  have hpo:=fQ h3
  unfold dz
  simp only at h27 ⊢
  rw[if_neg h3,hpo]
  rw[hpo] at h27
  exact Mx (m:=m) (L:=l.length) (a:=p) (b:=n) (n:=n) (before:=before) (parts:=[(n:Int)]) (ls:=fun j=>(([(n:Int)].take j).foldl (cK p before) (l,ns)).1) (nss:=fun j=>(([(n:Int)].take j).foldl (cK p before) (l,ns)).2)
    (kas:=fun j=>(nd (([(n:Int)].take j).foldl (cK p before) (l,ns)).1 p).kids) (kbs:=fun j=>(nd (([(n:Int)].take j).foldl (cK p before) (l,ns)).1 n).kids) hne (by simp) rfl (c9 hnl) h3 dB dB h27
    (fun j k hk=>by
      obtain⟨rfl,rfl⟩:=CP hk
      exact JT R h60 hne (pB C h3) (R.own p C.tp).1 h (show ns.length≤70000 by omega))
theorem FY (R:RF l m)(h60:l.length≤60){n p q:Nat}{before:Int}(C:qu l n p before)(h3:(nd l n).kind≠3)(hq:q<l.length)(hpq:p≠q)(hnq:n≠q)(h:(nd l n).parent=-1∨(nd l n).parent=(q:Int)){ns:List aR}(hns:ns.length≤1000):
    an Tryz.prog 75 [aQ m l.length 4 (.own 3 0 ns.length),aI (nd l q).kids,aI (nd l p).kids,aW ns,aT l q 1 p 2] [.ptr 0 0 0,aj n,aj p,aj before]
      [aQ m l.length 4 (.own 7 0 (dz (l,ns) n p before).2.length),.dead,.dead,.dead,aT (dz (l,ns) n p before).1 q 5 p 6,aI (nd (dz (l,ns) n p before).1 q).kids,aI (nd (dz (l,ns) n p before).1 p).kids,aW (dz (l,ns) n p before).2] (.tup []):=by
  have hnl:=di C.tn
  have hpl:=di C.tp
  have h27:=Bu ⟨l,m⟩ (fg R h60) n _ (c9 hnl) (cC.2 R)
  have hpo:=fQ h3
  unfold dz
  simp only at h27 ⊢
  rw[if_neg h3,hpo]
  rw[hpo] at h27
  exact MI (m:=m) (L:=l.length) (a:=q) (b:=p) (n:=n) (before:=before) (parts:=[(n:Int)]) (ls:=fun j=>(([(n:Int)].take j).foldl (cK p before) (l,ns)).1) (nss:=fun j=>(([(n:Int)].take j).foldl (cK p before) (l,ns)).2)
    (kas:=fun j=>(nd (([(n:Int)].take j).foldl (cK p before) (l,ns)).1 q).kids) (kbs:=fun j=>(nd (([(n:Int)].take j).foldl (cK p before) (l,ns)).1 p).kids) hpq (by simp) rfl (c9 hnl) h3 dB dB h27
    (fun j k hk=>by
      obtain⟨rfl,rfl⟩:=CP hk
      exact Ck R h60 hpq hq (pB C h3) (R.own p C.tp).1 hnq h (show ns.length≤70000 by omega))
theorem G8 (R:RF l m)(h60:l.length≤60){n p:Nat}{before:Int}(C:qu l n p before)(h3:(nd l n).kind=3){ns:List aR}(hns:ns.length≤1000):
    an Tryz.prog 75 [aQ m l.length 4 (.own 3 0 ns.length),aI (nd l n).kids,aI (nd l p).kids,aW ns,aT l n 1 p 2] [.ptr 0 0 0,aj n,aj p,aj before]
      [aQ m l.length 4 (.own 7 0 (dz (l,ns) n p before).2.length),.dead,.dead,.dead,aT (dz (l,ns) n p before).1 n 5 p 6,aI (nd (dz (l,ns) n p before).1 n).kids,aI (nd (dz (l,ns) n p before).1 p).kids,aW (dz (l,ns) n p before).2] (.tup []):=by
  have hnl:=di C.tn
  have hpl:=di C.tp
  have hne:p≠n:=fun e=>C.w (by rw[←e];exact U.cV R.tree C.tp)
  have h27:=Bu ⟨l,m⟩ (fg R h60) n _ (c9 hnl) (cC.2 R)
  have hpo:dn l n=(nd l n).kids:=by unfold dn;rw[if_pos h3]
  obtain⟨hf1,hf2,hf3,hf4⟩:=qi R C h3
  have hks:∀k∈ (nd l n).kids,af l k=true:=fun k hk=>(R.kid n C.tn k hk).1
  have hdup:=R.dup n C.tn
  have hkl:(nd l n).kids.length≤60:=(fg R h60).kids _ (bT (c9 hnl))
  have hpar:∀k∈ (nd l n).kids,(nd l k).parent=n:=fun k hk=>(R.kid n C.tn k hk).2.1
  unfold dz
  simp only at h27 ⊢
  rw[if_pos h3,hpo]
  rw[hpo] at h27
  have hnself:∀k∈ (nd l n).kids,k≠ (n:Int):=fun k hk e=>by
    have h1:=R.kL C.tn
    rw[R.gj C.tn (by rw[←e,hpar k hk];omega)] at h1
    have:=hpar k hk
    rw[e] at this
    exact h1 this
  generalize hks0:(nd l n).kids=ks at*
  -- the states of the first loop
  have hU:∀j,((ks.take j).foldl dA (l,ns)).1=(ks.take j).foldl bI l:=fun j=>gC _ _
  have hin:∀j,∀k∈ks.take j,k∈ks:=fun j k hk=>List.mem_of_mem_take hk
  have hR:∀j,RF ((ks.take j).foldl bI l) m∧((ks.take j).foldl bI l).length=l.length:=fun j=>oL _ R fun k hk=>hks k (hin j k hk)
  have hL:=fun(j:Nat) (x:Int) (hx:af l x=true)=>jm (ks.take j) R (fun k hk=>hks k (hin j k hk)) n (fun k hk=>.inl (hpar k (hin j k hk))) x hx
  have hN:∀j,((ks.take j).foldl dA (l,ns)).2.length≤ns.length+60*ks.length:=fun j=>by
    have h1:=yQ (m:=m) (ks.take j) ns R h60 (fun k hk=>hks k (hin j k hk))
    have h2:(ks.take j).length≤ks.length:=by rw[fP];omega
    have:60* (ks.take j).length≤60*ks.length:=Nat.mul_le_mul_left 60 h2
    omega
  have hTl:ks.take ks.length=ks:=List.take_length
  have hsp:ks.foldl dA (l,ns)=(ks.foldl bI l,(ks.foldl dA (l,ns)).2):=Prod.ext (gC ks (l,ns)) rfl
  have hkp:∀j,(nd ((ks.take j).foldl dA (l,ns)).1 p).kids=(nd l p).kids:=fun j=>by
    rw[hU j];exact(hL j p C.tp).2.2.2 (by omega)
  have hstate:=AH (p:=(p:Int)) (b:=before) (ks:=ks) (m:=m) hf1 (by rw[hf2];exact h60) hdup (ks.foldl dA (l,ns)).2 (fun k hk=>⟨(hf3 k hk).1,.inl (hf3 k hk).2⟩) (fun e=>hf4 (by
    have:=(hL ks.length p C.tp).1.kind
    rw[hTl] at this
    rw[←this];exact e)) (by rw[bf hf2];exact C.tp)
  rw[←hsp] at hstate
  have hkb:(nd l p).kids=(nd ((ks.take 0).foldl (cK p before) (ks.foldl dA (l,ns))).1 p).kids:=by
    have:=hkp ks.length
    rw[hTl] at this
    exact this.symm
  have hend:(ks.take ks.length).foldl (cK p before) (ks.foldl dA (l,ns))=ks.foldl (cK p before) (ks.foldl dA (l,ns)):=by rw[hTl]
  have hk0:ks=(nd ((ks.take 0).foldl dA (l,ns)).1 n).kids:=hks0.symm
  have main:=MT (m:=m) (L:=l.length) (a:=n) (b:=p) (n:=n) (before:=before) (parts:=ks) (us:=fun j=>((ks.take j).foldl dA (l,ns)).1) (uns:=fun j=>((ks.take j).foldl dA (l,ns)).2) (uka:=fun j=>(nd ((ks.take j).foldl dA (l,ns)).1 n).kids)
    (ls:=fun j=>((ks.take j).foldl (cK p before) (ks.foldl dA (l,ns))).1) (nss:=fun j=>((ks.take j).foldl (cK p before) (ks.foldl dA (l,ns))).2)
    (kas:=fun j=>(nd ((ks.take j).foldl (cK p before) (ks.foldl dA (l,ns))).1 n).kids) (kbs:=fun j=>(nd ((ks.take j).foldl (cK p before) (ks.foldl dA (l,ns))).1 p).kids) hne (by omega) rfl (c9 hnl) h3 dB (fun y hy=>by rw[dB y hy];exact hkb) h27
    (fun j k hk=>by
      have hkm:=bT hk
      have htk:=hks k hkm
      obtain⟨kn,_,rfl,_,_⟩:=aU.1 htk
      have hnext:(ks.take (j+1)).foldl dA (l,ns)=dA ((ks.take j).foldl dA (l,ns)) kn:=by
        rw[List.take_add_one,hk,List.foldl_append];rfl
      have hRj:=hR j
      have hUj:=hU j
      have hNj:=hN j
      have hkpj:=hkp j
      have hpj:(nd ((ks.take j).foldl bI l) kn).parent=-1∨(nd ((ks.take j).foldl bI l) kn).parent=(n:Int):=by
        rw[(hL j kn htk).2.2.1]
        split
        ·exact .inl rfl
        ·exact .inr (hpar kn hkm)
      try dsimp only
      rw[hnext,←hkb,←hkpj]
      rw[←hUj] at hRj hpj
      clear hnext hUj hkpj
      generalize(ks.take j).foldl dA (l,ns)=S at*
      obtain⟨s1,s2⟩:=S
      simp only at hRj hpj hNj
      rw[mH,←hRj.2]
      exact FP hRj.1 (by rw[hRj.2];exact h60) hne (by rw[hRj.2];exact hnl) (by rw[hRj.2];exact hpl) (by rw[hRj.2];exact di htk) (ns:=s2) (by omega) hpj)
    (by first|(rw[hTl];rfl)|(dsimp only;rw[hTl];rfl)) (by first|(rw[hTl];rfl)|(dsimp only;rw[hTl];rfl)) (by first|(rw[hTl];rfl)|(dsimp only;rw[hTl];rfl))
    (fun j k hk=>by
      have hkm:=bT hk
      have hjl:=(bg hk).1
      have htk:=hks k hkm
      obtain⟨kn,_,rfl,_,_⟩:=aU.1 htk
      obtain⟨i1,i2,i3,i4,i5⟩:=hstate j (by omega)
      obtain⟨D,hpD⟩:=i5 j kn (Nat.le_refl _) hk
      have hnext:(ks.take (j+1)).foldl (cK p before) (ks.foldl dA (l,ns))=cK p before ((ks.take j).foldl (cK p before) (ks.foldl dA (l,ns))) kn:=by
        rw[List.take_add_one,hk,List.foldl_append];rfl
      have hNT:=hN ks.length
      rw[hTl] at hNT
      have hlT:(ks.foldl dA (l,ns)).1.length=l.length:=by rw[gC];exact hf2
      have hpT:(nd (ks.foldl dA (l,ns)).1 kn).parent=-1:=by rw[gC];exact(hf3 kn hkm).2
      try dsimp only
      rw[hnext]
      generalize ks.foldl dA (l,ns)=T at*
      rw[(hf3 kn hkm).2] at hpD
      clear hnext i5
      generalize(ks.take j).foldl (cK p before) T=S at*
      obtain⟨s1,s2⟩:=S
      simp only at i1 i2 i3 i4 D hpD
      rw[wc]
      have hl1:s1.length=l.length:=by rw[i2,hf2]
      have:=Ck i1 (by rw[hl1];exact h60) hne (by rw[hl1];exact hnl) D (i1.own p D.tp).1 (fun e=>hnself kn hkm (by rw[e])) (.inl hpD) (ns:=s2) (by
        have:60*ks.length≤3600:=by omega
        have:180*j≤180*60:=by omega
        omega)
      rw[hl1] at this
      exact this)
  try dsimp only at main
  rw[hend,←hkb,←hk0] at main
  exact main
end
theorem Lr (f:ForM)(hs:bE f.nodes)(h60:f.nodes.length≤60)(n p c:Int):an Tryz.prog 29 [] [aY f,aj n,aj p,aj c] [] (.tup [aY (eS f n p c).1,uj (eS f n p c).2.1,aj (eS f n p c).2.2]):=by
  have h30:=GA f hs n p c
  by_cases e0:nY f n p c=0
  · have ha:iO f n p c=true:=by
      cases h:iO f n p c with
      |true=>rfl
      |false=>unfold nY at e0;rw[h] at e0;simp at e0
    have ht:kO f.nodes p c (-1) n=0:=by unfold nY at e0;rw[if_pos ha] at e0;exact e0
    unfold iO at ha
    simp only[bQ,jK,bO] at ha
    obtain⟨⟨hr,hn,hp⟩,hc⟩:=ha
    have h28:=KY f hs n p c
    rw[e0] at h30
    obtain⟨l,m⟩:=f
    have R:RF l m:=cC.1 hr
    have C:=C9 R hn hp hc ht
    have hbef:gT ⟨l,m⟩ n p c=if c≠n then c else mM (nd l p).kids n:=by unfold gT;rw[if_neg (fun q=>q e0)]
    rw[←hbef] at C
    have e:eS ⟨l,m⟩ n p c=(⟨(dz (l,[]) n p (gT ⟨l,m⟩ n p c)).1,m⟩,(dz (l,[]) n p (gT ⟨l,m⟩ n p c)).2,0):=by unfold eS;rw[if_pos e0]
    rw[e]
    clear e hbef
    generalize gT ⟨l,m⟩ n p c=before at*
    obtain⟨a,_,rfl,_,_⟩:=aU.1 hn
    obtain⟨b,_,rfl,_,_⟩:=aU.1 hp
    have hal:=di hn
    have hbl:=di hp
    have hab:b≠a:=fun e=>C.w (by rw[←e];exact U.cV R.tree C.tp)
    have hlen:=(vz R [] C).2
    simp only at h60 hs
    by_cases h3:(nd l a).kind=3
    · have h75:=G8 R h60 C h3 (ns:=[]) (by simp)
      exact oU ⟨l,m⟩ a b c ⟨_,m⟩ _ 0 h30 (s7 w4) (wV ⟨l,m⟩ hs (fun e=>hab e.symm) (c9 hal) (c9 hbl) 74 N2 _ rfl _ _ _ _ hlen dB dB (o7 h28 h75))
    · by_cases hq:(nd l a).parent=-1∨(nd l a).parent=(b:Int)
      · have h75:=FX R h60 C h3 hq (ns:=[]) (by simp)
        exact oU ⟨l,m⟩ a b c ⟨_,m⟩ _ 0 h30 (s7 w4) (wV ⟨l,m⟩ hs hab (c9 hbl) (c9 hal) 74 N2 _ rfl _ _ _ _ hlen dB dB (o7 h28 h75))
      · have hq1:(nd l a).parent≠-1:=fun e=>hq (.inl e)
        have hpar:=(R.par a hn hq1).2.1
        obtain⟨q,_,hqe,_,_⟩:=aU.1 hpar
        have hql:q<l.length:=by rw[hqe] at hpar;exact di hpar
        have hbq:b≠q:=fun e=>hq (.inr (by rw[hqe,e]))
        have haq:a≠q:=fun e=>by
          have h1:=R.kL hn
          rw[R.gj hn hq1,hqe,←e] at h1
          exact h1 rfl
        have h75:=FY R h60 C h3 hql hbq haq (.inr hqe) (ns:=[]) (by simp)
        exact oU ⟨l,m⟩ a b c ⟨_,m⟩ _ 0 h30 (s7 w4) (wV ⟨l,m⟩ hs (fun e=>hbq e.symm) (c9 hql) (c9 hbl) 74 N2 _ rfl _ _ _ _ hlen dB dB (o7 h28 h75))
  · rw[wo e0]
    exact AZ f n p c _ f [] _ h30 (mG w4 _ e0) (pO f hs 74 _ w4 _)
end Go.Proofs.Heir
