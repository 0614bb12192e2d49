/- Models, plain laws and contracts of functions of the given program; conditions as stated in each theorem. By an AI agent. -/
import Derived.Test.YtkhjcnjicjgfiaaGreatDoorW30
import Derived.Test.YtkhjcnjicjgfiaaGreatDoorW32
import Derived.Test.YtkhjcnjicjgfiaaGreatDoorW31
set_option linter.unusedSimpArgs false
set_option linter.unusedVariables false
namespace Go.Proofs.Heir
open Go Go.Am Go.RowKit Go.Lib
set_option maxRecDepth 100000
set_option maxHeartbeats 8000000
theorem LF {m:Int}{L a b n:Nat}{before:Int}{parts:List Int}{ls:Nat→List ai}{nss:Nat→List aO}{kas kbs:Nat→List Int}{yn:ai}(hab:b≠a)(hpl:parts.length≤1000)(hl0:(ls 0).length=L)(hn:(ls 0)[n]? =some yn)(hkind:yn.kind≠3)
    (hka0:∀y,(ls 0)[a]? =some y→y.kids=kas 0) (hkb0:∀y,(ls 0)[b]? =some y→y.kids=kbs 0)
    (h27:aj Tryz.prog 27 [] [aN ⟨ls 0,m⟩,ah n] [aF parts] (.own 0 0 parts.length))
    (hr:∀j k,parts[j]? =some k→Al m L a b before (ls j) (nss j) (kas j) (kbs j) k (ls (j+1)) (nss (j+1)) (kas (j+1)) (kbs (j+1))):
    aj Tryz.prog 75 [aT m L 4 (.own 3 0 (nss 0).length),aF (kas 0),aF (kbs 0),aU (nss 0),aV (ls 0) a 1 b 2] [.ptr 0 0 0,ah n,ah b,ah before]
      [aT m L 4 (.own 7 0 (nss parts.length).length),.dead,.dead,.dead,aV (ls parts.length) a 5 b 6,aF (kas parts.length),aF (kbs parts.length),aU (nss parts.length)] (.tup []):=by
  have hnl:=(aZ hn).1
  have t27:=mL (m:=m) (ex:=[]) (rest:=[ah n]) hka0 hkb0 (by rw[List.append_nil];exact h27) rfl
  rw[List.append_nil] at t27
  rw[hl0] at t27
  obtain⟨q,hq⟩:=iG a 1 b 2 n yn
  have g0:(aR (ls 0) a 1 b 2)[n]? =some (yp yn q):=by rw[cQ hn,hq yn rfl]
  have hgp:∀ (j:Nat) (k:Int),parts[j]? =some k→(parts.map bJ)[j]? =some (ah k):=fun j k h=>nc h
  have fk:=eq_false hkind
  obtain⟨x1,x2,x3,x4,x5,x6,x7,x8,x9,x10⟩:=yn
  dsimp only at g0 fk hkind
  refine aj.fW [(5,201),(6,202),(7,203)] (rvs:=[]) G ak Tryz.func75 rfl Tryz.ntmps75 rfl rfl ?_;with_reducible refine wD ?_
  (have fct:=fk;(repeat' (first
    |refine gF ?_
    | ((first
      |((with_reducible show fM _ _ _ _ _);refine fM.mk n rfl (by first|exact hnl|omega) ?_)
      |((with_reducible show bu _ _ _ _ _);refine bu.mk _ (by first|exact g0|(rw[Nat.zero_add];exact g0)) ?_)
      |((with_reducible show ae _ _ 27 _ _ _ _);refine ae.dy (news:=[aV (ls 0) a 1 b 2,aF (kas 0),aF (kbs 0),aF parts]) [4,1,2,191] [] t27 Mz ⟨⟨⟨rfl,rfl⟩,rfl,trivial⟩,rfl,trivial⟩ ⟨⟨rfl,bR (fun _=>rfl) (fun _=>rfl)⟩,⟨rfl,.inl ⟨rfl,aa _⟩⟩,⟨rfl,.inl ⟨rfl,aa _⟩⟩,trivial⟩ rfl ⟨⟨rfl,rfl⟩,rfl⟩ rfl ⟨⟨rfl,bL rfl rfl (by decide) (by decide)⟩,⟨rfl,.inl ⟨rfl,aa _⟩⟩,⟨rfl,.inl ⟨rfl,aa _⟩⟩,⟨rfl,.inl ⟨rfl,aa _⟩⟩,trivial⟩ rfl rfl ?_)
      |((with_reducible show aB _ _ _ _);refine dK ?_))<;>with_reducible refine wK ?_)
    |((with_reducible show(_∧_)∧_∧_);(refine eK ?_ ?_<;>with_reducible repeat' (first|exact trivial|(show _∧_;refine aK ?_ ?_))))));all_goals clear fct)
  refine bE.Fs G ak (fun(j:Nat)=>[(0,.ptr 0 0 0),(2,ah b),(3,ah before),(40,.own 191 0 parts.length),(41,ah parts.length),(42,ah j)])
    (fun j=>[(0,aT m L 4 (.own 203 0 (nss j).length)),(1,.dead),(2,.dead),(3,.dead),(4,aV (ls j) a 201 b 202),(201,aF (kas j)),(202,aF (kbs j)),(203,aU (nss j)),(191,aF parts)])
    (fun j=>j≤parts.length) (fun j=>parts.length-j) 0 [(201,1),(202,2),(203,3)] (Nat.zero_le _) ?_ ?_
  · (refine fK ?_;(with_reducible repeat' (first|exact trivial|(show _∧_;refine aK ?_ ?_)));(all_goals try rfl))
    all_goals first
      |exact⟨.refl (aa _),aa _⟩
      |exact⟨.refl (ay _),ay _⟩
      |exact bF (fun _=>rfl) (fun _=>rfl)
      |trace_state
  intro j hj
  with_reducible refine wK ?_
  refine aM.mk (fun h1=>?_) (fun h1=>?_)<;>(try simp only[aq] at h1)<;>with_reducible refine wK ?_
  · have hjl:j<parts.length:=by simp only[aP,aq] at h1;omega
    obtain⟨k0,hk0⟩:∃k,parts[j]? =some k:=⟨_,bH hjl⟩
    have R:=hr j k0 hk0
    have hgk:=hgp _ _ hk0
    obtain⟨l',hl'⟩:∃x,ls (j+1)=x:=⟨_,rfl⟩
    obtain⟨ns',hn'⟩:∃x,nss (j+1)=x:=⟨_,rfl⟩
    obtain⟨ka',hka'⟩:∃x,kas (j+1)=x:=⟨_,rfl⟩
    obtain⟨kb',hkb'⟩:∃x,kbs (j+1)=x:=⟨_,rfl⟩
    rw[hl',hn',hka',hkb'] at R
    obtain⟨k,hkk,y0,y1,yk,l1,n1,k1,i,conn,es,ex,R⟩:=R
    subst hkk
    generalize ls j=l at*
    generalize nss j=ns at*
    generalize kas j=ka at*
    generalize kbs j=kb at*
    obtain⟨rl,rl1,r0,rover,r1,rk,rkids,ri,rend,ridx,rsm,rnxt,rne,rka,rkb,rca,rcb,rcon,rels,rtold,rn1,res⟩:=R
    have hbl:=(aZ r0).1
    have hbl1:=(aZ r1).1
    have hkl1:=(aZ rk).1
    obtain⟨hkb,hkna⟩:=rne
    have e0:(aR l a 201 b 202)[b]? =some (ei y0 202):=tJ r0 hab
    have e1:(aR l1 a 211 b 202)[b]? =some (ei y1 202):=tJ r1 hab
    have e2:∀x,((aR l1 a 211 b 202).set (0+b) x)[0+k]? =some (aG yk):=fun x=>by rw[Nat.zero_add,Nat.zero_add,List.getElem?_set,if_neg (fun e=>hkb e.symm)];exact FG rk hkna hkb
    obtain⟨k3,hk3⟩:∃k3,k3=y1.kids.take i++ [(k:Int)]++y1.kids.drop i:=⟨_,rfl⟩
    have hrow:((aR l1 a 211 b 202).set (0+b) (dG {y1 with kids:=k3} 299)).set (0+k) (bM {yk with parent:=(b:Int)})=aR l' a 211 b 299:=by
      rw[rnxt,←hk3,Nat.zero_add,Nat.zero_add,rK _ hbl1 hab,oI _ (by rw[List.length_set];exact hkl1) hkna hkb]
    rw[←hk3] at rcb
    have h140:=oD (rows:=y1.kids.map bJ) (j5 y1.kids) i (k:Int) (by simpa using ri) (by simp;omega)
    rw[bP,←List.map_take,←List.map_drop,show[ah (k:Int)]=[(k:Int)].map bJ from rfl,←gm,←gm,←hk3,show y1.kids.length+1=k3.length by rw[hk3];simp;omega] at h140
    have t73:=fun h=>nv (rest:=[ah before]) (ridx h) rfl rfl
    have rl':l'.length=L:=by rw[rnxt,List.length_set,List.length_set,rl1]
    have t35:=mZ (rest:=[ah (k:Int)]) rka rkb rcon rfl rfl
    have t141:=qv (m:=m) (n:=(k:Int)) (ns:=n1) (x:=ld) rka rkb res rn1 rels
    rw[rl'] at t35 t141
    rw[rca] at t35 t141
    rw[rcb] at t35 t141
    have hkL:k<L:=by rw[←rl1];exact hkl1
    have htL:b<L:=by rw[←rl1];exact hbl1
    obtain⟨z1,z2,z3,z4,z5,z6,z7,z8,z9,z10⟩:=y0
    obtain⟨p1,p2,p3,p4,p5,p6,p7,p8,p9,p10⟩:=y1
    obtain⟨q1,q2,q3,q4,q5,q6,q7,q8,q9,q10⟩:=yk
    dsimp only at rkids ri rend ridx rsm h140 t73 hrow rover hk3
    subst rkids
    (have fct:=rend;(repeat' (first
    |refine pF ?_
    | ((first
      |((with_reducible show aM _ _ _ _);(refine aM.mk (fun hp=>?_) (fun hp=>?_)<;>(try simp only[aq,aP,cj,Bool.not_eq_true',Bool.not_eq_false',Decidable.not_not,Int.not_lt,Int.not_le] at hp)))
      |((with_reducible show fM _ _ _ _ _);first|refine fM.mk j rfl (by first|exact hjl|omega) ?_|refine fM.mk b rfl (by first|exact htL|omega) ?_|refine fM.mk k rfl (by first|exact hkL|omega) ?_)
      |((with_reducible show bu _ _ _ _ _);first|refine bu.mk (ah (k:Int)) (by first|exact hgk|(rw[Nat.zero_add];exact hgk)) ?_|refine bu.mk _ (by first|exact e0|exact e1|exact e2 _|(rw[Nat.zero_add];first|exact e0|exact e1)) ?_)
      |((with_reducible show ae _ _ 139 _ _ _ _);refine ae.dy (news:=[aT m L 4 (.own 213 0 n1.length),.dead,aF kb,.dead,aV l1 a 211 b 202,aF k1,aU n1]) [0,201,202,203,4,211,213] [] rover JV ⟨⟨rfl,rfl⟩,rfl,rfl,trivial⟩ ⟨⟨rfl,.inr ⟨⟨⟨⟨rfl,rfl⟩,rfl,⟨rfl,rfl⟩,trivial⟩,trivial⟩,rfl⟩⟩,⟨rfl,.inl ⟨rfl,aa _⟩⟩,⟨rfl,.inl ⟨rfl,aa _⟩⟩,⟨rfl,.inl ⟨rfl,ay _⟩⟩,⟨rfl,bR (fun _=>rfl) (fun _=>rfl)⟩,trivial⟩ rfl ⟨⟨rfl,rfl⟩,rfl⟩ rfl ⟨⟨rfl,.inr ⟨rfl,rfl,rfl⟩⟩,⟨rfl,.inl ⟨rfl,aa _⟩⟩,⟨rfl,bL rfl rfl (by decide) (by decide)⟩,⟨rfl,.inl ⟨rfl,aa _⟩⟩,⟨rfl,.inl ⟨rfl,ay _⟩⟩,trivial⟩ rfl rfl ?_)
      |((with_reducible show ae _ _ 73 _ _ _ _);refine ae.dy (news:=[aF kb]) [202] [] (t73 (by assumption)) GQ ⟨⟨rfl,rfl⟩,rfl,trivial⟩ ⟨⟨rfl,.inl ⟨rfl,aa _⟩⟩,trivial⟩ rfl ⟨⟨rfl,rfl⟩,rfl⟩ rfl ⟨⟨rfl,.inl ⟨rfl,aa _⟩⟩,trivial⟩ rfl rfl ?_)
      |((with_reducible show ae _ _ 140 _ _ _ _);refine ae.dy (news:=[.dead,.live 1 [ah (k:Int)] false,aF k3]) [202,981,299] [] h140 Jh ⟨⟨rfl,rfl⟩,by first|rfl|(show(i:Int)=(kb.length:Int);have:=rend (by assumption);omega),⟨rfl,rfl⟩,trivial⟩ ⟨⟨rfl,.inl ⟨rfl,aa _⟩⟩,⟨rfl,.inl ⟨rfl,rfl⟩⟩,trivial⟩ rfl ⟨⟨rfl,rfl⟩,rfl⟩ rfl ⟨⟨rfl,.inl ⟨rfl,rfl⟩⟩,⟨rfl,.inl ⟨rfl,aa _⟩⟩,trivial⟩ rfl rfl ?_)
      |((with_reducible show ae _ _ 35 _ _ _ _);refine ae.dy (news:=[aV l' a 211 b 299,aF k1,aF k3]) [4,211,299] [] t35 Lc ⟨⟨⟨rfl,rfl⟩,rfl,trivial⟩,rfl,trivial⟩ ⟨⟨rfl,cast (congrArg (sI _ _ _ _) hrow.symm) (bR (fun _=>rfl) (fun _=>rfl))⟩,⟨rfl,.inl ⟨rfl,aa _⟩⟩,⟨rfl,.inl ⟨rfl,aa _⟩⟩,trivial⟩ rfl ⟨⟨rfl,rfl⟩,rfl⟩ rfl ⟨⟨rfl,bL rfl rfl (by decide) (by decide)⟩,⟨rfl,.inl ⟨rfl,aa _⟩⟩,⟨rfl,.inl ⟨rfl,aa _⟩⟩,trivial⟩ rfl rfl ?_)
      |((with_reducible show ae _ _ 141 _ _ _ _);refine ae.dy (news:=[aT m L 4 (.own 223 0 (n1.length+es.length)),aF k1,aF k3,.dead,aV l' a 211 b 299,aU (n1++es.map (dF ld))]) [0,211,299,213,4,223] [] t141 DU ⟨⟨rfl,rfl⟩,rfl,⟨rfl,rfl,rfl,rfl,rfl,rfl,rfl,rfl,rfl,trivial⟩,trivial⟩ ⟨⟨rfl,.inr ⟨⟨⟨⟨rfl,rfl⟩,rfl,⟨rfl,rfl⟩,trivial⟩,trivial⟩,rfl⟩⟩,⟨rfl,.inl ⟨rfl,aa _⟩⟩,⟨rfl,.inl ⟨rfl,aa _⟩⟩,⟨rfl,.inl ⟨rfl,ay _⟩⟩,⟨rfl,bR (fun _=>rfl) (fun _=>rfl)⟩,trivial⟩ rfl ⟨⟨rfl,rfl⟩,rfl⟩ rfl ⟨⟨rfl,.inr ⟨rfl,rfl,rfl⟩⟩,⟨rfl,.inl ⟨rfl,aa _⟩⟩,⟨rfl,.inl ⟨rfl,aa _⟩⟩,⟨rfl,bL rfl rfl (by decide) (by decide)⟩,⟨rfl,.inl ⟨rfl,ay _⟩⟩,trivial⟩ rfl rfl ?_)
      |((with_reducible show aB _ _ _ _);refine dK ?_))<;>with_reducible refine wK ?_)
    |((with_reducible show(_∧_)∧_∧_);(refine eK ?_ ?_<;>with_reducible repeat' (first|exact trivial|(show _∧_;refine aK ?_ ?_))))));all_goals clear fct)
    all_goals (first
      | (cases hp
         have ht:ns'=n1++es.map (dF ld):=rtold
         refine nn.mk (j+1) [(201,211),(202,299),(203,223)] (by omega) (by omega) ?_
         rw[hl',hn',hka',hkb',rca,rcb,ht,jN,bP])
      | (cases hp
         have ht:ns'=n1++ []:=rtold
         rw[List.append_nil] at ht
         refine nn.mk (j+1) [(201,211),(202,299),(203,213)] (by omega) (by omega) ?_
         rw[hl',hn',hka',hkb',rca,rcb,ht])
      |trace_state)
    all_goals (refine fK ?_;(with_reducible repeat' (first|exact trivial|(show _∧_;refine aK ?_ ?_)));(all_goals try rfl))
    all_goals first
      |exact⟨.refl (aa _),aa _⟩
      |exact⟨.refl (ay _),ay _⟩
      |exact bF (fun _=>rfl) (fun _=>rfl)
      |trace_state
  · obtain rfl:j=parts.length:=by simp only[cj,aq] at h1;omega
    repeat' (first
    |refine gK ?_
    |(((with_reducible show aB _ _ _ _);refine dK ?_)<;>with_reducible refine wK ?_)
    |((with_reducible show(_∧_)∧_∧_);(refine eK ?_ ?_<;>with_reducible repeat' (first|exact trivial|(show _∧_;refine aK ?_ ?_)))))
    all_goals first
      |exact⟨.refl (aa _),aa _⟩
      |exact⟨.refl (ay _),ay _⟩
      |exact bF (fun _=>rfl) (fun _=>rfl)
      |trace_state
theorem Lo {m:Int}{L a b n:Nat}{before:Int}{parts:List Int}{us:Nat→List ai}{uns:Nat→List aO}{uka:Nat→List Int}{ls:Nat→List ai}{nss:Nat→List aO}{kas kbs:Nat→List Int}{yn:ai}(hab:b≠a)(hpl:parts.length≤1000)(hl0:(us 0).length=L)(hn:(us 0)[n]? =some yn)(hkind:yn.kind=3)
    (hka0:∀y,(us 0)[a]? =some y→y.kids=uka 0) (hkb0:∀y,(us 0)[b]? =some y→y.kids=kbs 0)
    (h27:aj Tryz.prog 27 [] [aN ⟨us 0,m⟩,ah n] [aF parts] (.own 0 0 parts.length))
    (hu:∀j k,parts[j]? =some k→aj Tryz.prog 79 [aT m L 4 (.own 3 0 (uns j).length),aF (uka j),aF (kbs 0),aU (uns j),aV (us j) a 1 b 2] [.ptr 0 0 0,ah k] [aT m L 4 (.own 6 0 (uns (j+1)).length),.dead,aF (kbs 0),.dead,aV (us (j+1)) a 5 b 2,aF (uka (j+1)),aU (uns (j+1))] (.tup []))
    (hls:ls 0=us parts.length) (hns:nss 0=uns parts.length) (hks:kas 0=uka parts.length)
    (hr:∀j k,parts[j]? =some k→Al m L a b before (ls j) (nss j) (kas j) (kbs j) k (ls (j+1)) (nss (j+1)) (kas (j+1)) (kbs (j+1))):
    aj Tryz.prog 75 [aT m L 4 (.own 3 0 (uns 0).length),aF (uka 0),aF (kbs 0),aU (uns 0),aV (us 0) a 1 b 2] [.ptr 0 0 0,ah n,ah b,ah before]
      [aT m L 4 (.own 7 0 (nss parts.length).length),.dead,.dead,.dead,aV (ls parts.length) a 5 b 6,aF (kas parts.length),aF (kbs parts.length),aU (nss parts.length)] (.tup []):=by
  have hnl:=(aZ hn).1
  have t27:=mL (m:=m) (ex:=[]) (rest:=[ah n]) hka0 hkb0 (by rw[List.append_nil];exact h27) rfl
  rw[List.append_nil] at t27
  rw[hl0] at t27
  obtain⟨q,hq⟩:=iG a 1 b 2 n yn
  have g0:(aR (us 0) a 1 b 2)[n]? =some (yp yn q):=by rw[cQ hn,hq yn rfl]
  have hgp:∀ (j:Nat) (k:Int),parts[j]? =some k→(parts.map bJ)[j]? =some (ah k):=fun j k h=>nc h
  have fk:=eq_true hkind
  obtain⟨x1,x2,x3,x4,x5,x6,x7,x8,x9,x10⟩:=yn
  dsimp only at g0 fk hkind
  refine aj.fW [(5,201),(6,202),(7,203)] (rvs:=[]) G ak Tryz.func75 rfl Tryz.ntmps75 rfl rfl ?_;with_reducible refine wD ?_
  (have fct:=fk;(repeat' (first
    |refine gF ?_
    | ((first
      |((with_reducible show fM _ _ _ _ _);refine fM.mk n rfl (by first|exact hnl|omega) ?_)
      |((with_reducible show bu _ _ _ _ _);refine bu.mk _ (by first|exact g0|(rw[Nat.zero_add];exact g0)) ?_)
      |((with_reducible show ae _ _ 27 _ _ _ _);refine ae.dy (news:=[aV (us 0) a 1 b 2,aF (uka 0),aF (kbs 0),aF parts]) [4,1,2,191] [] t27 Mz ⟨⟨⟨rfl,rfl⟩,rfl,trivial⟩,rfl,trivial⟩ ⟨⟨rfl,bR (fun _=>rfl) (fun _=>rfl)⟩,⟨rfl,.inl ⟨rfl,aa _⟩⟩,⟨rfl,.inl ⟨rfl,aa _⟩⟩,trivial⟩ rfl ⟨⟨rfl,rfl⟩,rfl⟩ rfl ⟨⟨rfl,bL rfl rfl (by decide) (by decide)⟩,⟨rfl,.inl ⟨rfl,aa _⟩⟩,⟨rfl,.inl ⟨rfl,aa _⟩⟩,⟨rfl,.inl ⟨rfl,aa _⟩⟩,trivial⟩ rfl rfl ?_)
      |((with_reducible show aB _ _ _ _);refine dK ?_))<;>with_reducible refine wK ?_)
    |((with_reducible show(_∧_)∧_∧_);(refine eK ?_ ?_<;>with_reducible repeat' (first|exact trivial|(show _∧_;refine aK ?_ ?_))))));all_goals clear fct)
  refine bE.Fs G ak (fun(j:Nat)=>[(0,.ptr 0 0 0),(1,ah n),(2,ah b),(3,ah before),(8,.own 191 0 parts.length),(30,.own 191 0 parts.length),(31,ah parts.length),(32,ah j)])
    (fun j=>[(0,aT m L 4 (.own 203 0 (uns j).length)),(1,.dead),(2,aF (kbs 0)),(3,.dead),(4,aV (us j) a 201 b 2),(201,aF (uka j)),(203,aU (uns j)),(191,aF parts)])
    (fun j=>j≤parts.length) (fun j=>parts.length-j) 0 [(201,1),(203,3)] (Nat.zero_le _) ?_ ?_
  · (refine fK ?_;(with_reducible repeat' (first|exact trivial|(show _∧_;refine aK ?_ ?_)));(all_goals try rfl))
    all_goals first
      |exact⟨.refl (aa _),aa _⟩
      |exact⟨.refl (ay _),ay _⟩
      |exact bF (fun _=>rfl) (fun _=>rfl)
      |trace_state
  intro u hu0
  with_reducible refine wK ?_
  refine aM.mk (fun h1=>?_) (fun h1=>?_)<;>(try simp only[aq] at h1)<;>with_reducible refine wK ?_
  · have hul:u<parts.length:=by simp only[aP,aq] at h1;omega
    obtain⟨k,hk⟩:∃k,parts[u]? =some k:=⟨_,bH hul⟩
    have h79:=hu u k hk
    repeat' (first
    |refine gK ?_
    | ((first
      |((with_reducible show fM _ _ _ _ _);refine fM.mk u rfl (by first|exact hul|omega) ?_)
      |((with_reducible show bu _ _ _ _ _);refine bu.mk (ah k) (by first|exact hgp _ _ hk|(rw[Nat.zero_add];exact hgp _ _ hk)) ?_)
      |((with_reducible show ae _ _ 79 _ _ _ _);refine ae.dy (news:=[aT m L 4 (.own 213 0 (uns (u+1)).length),.dead,aF (kbs 0),.dead,aV (us (u+1)) a 211 b 2,aF (uka (u+1)),aU (uns (u+1))]) [0,201,2,203,4,211,213] [] h79 KW ⟨⟨rfl,rfl⟩,rfl,trivial⟩ ⟨⟨rfl,.inr ⟨⟨⟨⟨rfl,rfl⟩,rfl,⟨rfl,rfl⟩,trivial⟩,trivial⟩,rfl⟩⟩,⟨rfl,.inl ⟨rfl,aa _⟩⟩,⟨rfl,.inl ⟨rfl,aa _⟩⟩,⟨rfl,.inl ⟨rfl,ay _⟩⟩,⟨rfl,bR (fun _=>rfl) (fun _=>rfl)⟩,trivial⟩ rfl ⟨⟨rfl,rfl⟩,rfl⟩ rfl ⟨⟨rfl,.inr ⟨rfl,rfl,rfl⟩⟩,⟨rfl,.inl ⟨rfl,aa _⟩⟩,⟨rfl,bL rfl rfl (by decide) (by decide)⟩,⟨rfl,.inl ⟨rfl,aa _⟩⟩,⟨rfl,.inl ⟨rfl,ay _⟩⟩,trivial⟩ rfl rfl ?_)
      |((with_reducible show aB _ _ _ _);refine dK ?_))<;>with_reducible refine wK ?_)
    |((with_reducible show(_∧_)∧_∧_);(refine eK ?_ ?_<;>with_reducible repeat' (first|exact trivial|(show _∧_;refine aK ?_ ?_)))))
    refine nn.mk (u+1) [(201,211),(203,213)] (by omega) (by omega) ?_
    (refine fK ?_;(with_reducible repeat' (first|exact trivial|(show _∧_;refine aK ?_ ?_)));(all_goals try rfl))
    all_goals first
      |exact⟨.refl (aa _),aa _⟩
      |exact⟨.refl (ay _),ay _⟩
      |exact bF (fun _=>rfl) (fun _=>rfl)
      |trace_state
  obtain rfl:u=parts.length:=by simp only[cj,aq] at h1;omega
  rw[←hls,←hns,←hks]
  repeat' (first
    |refine gK ?_
    |(((with_reducible show aB _ _ _ _);refine dK ?_)<;>with_reducible refine wK ?_)
    |((with_reducible show(_∧_)∧_∧_);(refine eK ?_ ?_<;>with_reducible repeat' (first|exact trivial|(show _∧_;refine aK ?_ ?_)))))
  refine bE.Fs G ak (fun(j:Nat)=>[(0,.ptr 0 0 0),(2,ah b),(3,ah before),(40,.own 191 0 parts.length),(41,ah parts.length),(42,ah j)])
    (fun j=>[(0,aT m L 4 (.own 203 0 (nss j).length)),(1,.dead),(2,.dead),(3,.dead),(4,aV (ls j) a 201 b 202),(201,aF (kas j)),(202,aF (kbs j)),(203,aU (nss j)),(191,aF parts)])
    (fun j=>j≤parts.length) (fun j=>parts.length-j) 0 [(201,201),(202,2),(203,203)] (Nat.zero_le _) ?_ ?_
  · (refine fK ?_;(with_reducible repeat' (first|exact trivial|(show _∧_;refine aK ?_ ?_)));(all_goals try rfl))
    all_goals first
      |exact⟨.refl (aa _),aa _⟩
      |exact⟨.refl (ay _),ay _⟩
      |exact bF (fun _=>rfl) (fun _=>rfl)
      |trace_state
  intro j hj
  with_reducible refine wK ?_
  refine aM.mk (fun h1=>?_) (fun h1=>?_)<;>(try simp only[aq] at h1)<;>with_reducible refine wK ?_
  · have hjl:j<parts.length:=by simp only[aP,aq] at h1;omega
    obtain⟨k0,hk0⟩:∃k,parts[j]? =some k:=⟨_,bH hjl⟩
    have R:=hr j k0 hk0
    have hgk:=hgp _ _ hk0
    obtain⟨l',hl'⟩:∃x,ls (j+1)=x:=⟨_,rfl⟩
    obtain⟨ns',hn'⟩:∃x,nss (j+1)=x:=⟨_,rfl⟩
    obtain⟨ka',hka'⟩:∃x,kas (j+1)=x:=⟨_,rfl⟩
    obtain⟨kb',hkb'⟩:∃x,kbs (j+1)=x:=⟨_,rfl⟩
    rw[hl',hn',hka',hkb'] at R
    obtain⟨k,hkk,y0,y1,yk,l1,n1,k1,i,conn,es,ex,R⟩:=R
    subst hkk
    generalize ls j=l at*
    generalize nss j=ns at*
    generalize kas j=ka at*
    generalize kbs j=kb at*
    obtain⟨rl,rl1,r0,rover,r1,rk,rkids,ri,rend,ridx,rsm,rnxt,rne,rka,rkb,rca,rcb,rcon,rels,rtold,rn1,res⟩:=R
    have hbl:=(aZ r0).1
    have hbl1:=(aZ r1).1
    have hkl1:=(aZ rk).1
    obtain⟨hkb,hkna⟩:=rne
    have e0:(aR l a 201 b 202)[b]? =some (ei y0 202):=tJ r0 hab
    have e1:(aR l1 a 211 b 202)[b]? =some (ei y1 202):=tJ r1 hab
    have e2:∀x,((aR l1 a 211 b 202).set (0+b) x)[0+k]? =some (aG yk):=fun x=>by rw[Nat.zero_add,Nat.zero_add,List.getElem?_set,if_neg (fun e=>hkb e.symm)];exact FG rk hkna hkb
    obtain⟨k3,hk3⟩:∃k3,k3=y1.kids.take i++ [(k:Int)]++y1.kids.drop i:=⟨_,rfl⟩
    have hrow:((aR l1 a 211 b 202).set (0+b) (dG {y1 with kids:=k3} 299)).set (0+k) (bM {yk with parent:=(b:Int)})=aR l' a 211 b 299:=by
      rw[rnxt,←hk3,Nat.zero_add,Nat.zero_add,rK _ hbl1 hab,oI _ (by rw[List.length_set];exact hkl1) hkna hkb]
    rw[←hk3] at rcb
    have h140:=oD (rows:=y1.kids.map bJ) (j5 y1.kids) i (k:Int) (by simpa using ri) (by simp;omega)
    rw[bP,←List.map_take,←List.map_drop,show[ah (k:Int)]=[(k:Int)].map bJ from rfl,←gm,←gm,←hk3,show y1.kids.length+1=k3.length by rw[hk3];simp;omega] at h140
    have t73:=fun h=>nv (rest:=[ah before]) (ridx h) rfl rfl
    have rl':l'.length=L:=by rw[rnxt,List.length_set,List.length_set,rl1]
    have t35:=mZ (rest:=[ah (k:Int)]) rka rkb rcon rfl rfl
    have t141:=qv (m:=m) (n:=(k:Int)) (ns:=n1) (x:=ld) rka rkb res rn1 rels
    rw[rl'] at t35 t141
    rw[rca] at t35 t141
    rw[rcb] at t35 t141
    have hkL:k<L:=by rw[←rl1];exact hkl1
    have htL:b<L:=by rw[←rl1];exact hbl1
    obtain⟨z1,z2,z3,z4,z5,z6,z7,z8,z9,z10⟩:=y0
    obtain⟨p1,p2,p3,p4,p5,p6,p7,p8,p9,p10⟩:=y1
    obtain⟨q1,q2,q3,q4,q5,q6,q7,q8,q9,q10⟩:=yk
    dsimp only at rkids ri rend ridx rsm h140 t73 hrow rover hk3
    subst rkids
    (have fct:=rend;(repeat' (first
    |refine pF ?_
    | ((first
      |((with_reducible show aM _ _ _ _);(refine aM.mk (fun hp=>?_) (fun hp=>?_)<;>(try simp only[aq,aP,cj,Bool.not_eq_true',Bool.not_eq_false',Decidable.not_not,Int.not_lt,Int.not_le] at hp)))
      |((with_reducible show fM _ _ _ _ _);first|refine fM.mk j rfl (by first|exact hjl|omega) ?_|refine fM.mk b rfl (by first|exact htL|omega) ?_|refine fM.mk k rfl (by first|exact hkL|omega) ?_)
      |((with_reducible show bu _ _ _ _ _);first|refine bu.mk (ah (k:Int)) (by first|exact hgk|(rw[Nat.zero_add];exact hgk)) ?_|refine bu.mk _ (by first|exact e0|exact e1|exact e2 _|(rw[Nat.zero_add];first|exact e0|exact e1)) ?_)
      |((with_reducible show ae _ _ 139 _ _ _ _);refine ae.dy (news:=[aT m L 4 (.own 213 0 n1.length),.dead,aF kb,.dead,aV l1 a 211 b 202,aF k1,aU n1]) [0,201,202,203,4,211,213] [] rover JV ⟨⟨rfl,rfl⟩,rfl,rfl,trivial⟩ ⟨⟨rfl,.inr ⟨⟨⟨⟨rfl,rfl⟩,rfl,⟨rfl,rfl⟩,trivial⟩,trivial⟩,rfl⟩⟩,⟨rfl,.inl ⟨rfl,aa _⟩⟩,⟨rfl,.inl ⟨rfl,aa _⟩⟩,⟨rfl,.inl ⟨rfl,ay _⟩⟩,⟨rfl,bR (fun _=>rfl) (fun _=>rfl)⟩,trivial⟩ rfl ⟨⟨rfl,rfl⟩,rfl⟩ rfl ⟨⟨rfl,.inr ⟨rfl,rfl,rfl⟩⟩,⟨rfl,.inl ⟨rfl,aa _⟩⟩,⟨rfl,bL rfl rfl (by decide) (by decide)⟩,⟨rfl,.inl ⟨rfl,aa _⟩⟩,⟨rfl,.inl ⟨rfl,ay _⟩⟩,trivial⟩ rfl rfl ?_)
      |((with_reducible show ae _ _ 73 _ _ _ _);refine ae.dy (news:=[aF kb]) [202] [] (t73 (by assumption)) GQ ⟨⟨rfl,rfl⟩,rfl,trivial⟩ ⟨⟨rfl,.inl ⟨rfl,aa _⟩⟩,trivial⟩ rfl ⟨⟨rfl,rfl⟩,rfl⟩ rfl ⟨⟨rfl,.inl ⟨rfl,aa _⟩⟩,trivial⟩ rfl rfl ?_)
      |((with_reducible show ae _ _ 140 _ _ _ _);refine ae.dy (news:=[.dead,.live 1 [ah (k:Int)] false,aF k3]) [202,981,299] [] h140 Jh ⟨⟨rfl,rfl⟩,by first|rfl|(show(i:Int)=(kb.length:Int);have:=rend (by assumption);omega),⟨rfl,rfl⟩,trivial⟩ ⟨⟨rfl,.inl ⟨rfl,aa _⟩⟩,⟨rfl,.inl ⟨rfl,rfl⟩⟩,trivial⟩ rfl ⟨⟨rfl,rfl⟩,rfl⟩ rfl ⟨⟨rfl,.inl ⟨rfl,rfl⟩⟩,⟨rfl,.inl ⟨rfl,aa _⟩⟩,trivial⟩ rfl rfl ?_)
      |((with_reducible show ae _ _ 35 _ _ _ _);refine ae.dy (news:=[aV l' a 211 b 299,aF k1,aF k3]) [4,211,299] [] t35 Lc ⟨⟨⟨rfl,rfl⟩,rfl,trivial⟩,rfl,trivial⟩ ⟨⟨rfl,cast (congrArg (sI _ _ _ _) hrow.symm) (bR (fun _=>rfl) (fun _=>rfl))⟩,⟨rfl,.inl ⟨rfl,aa _⟩⟩,⟨rfl,.inl ⟨rfl,aa _⟩⟩,trivial⟩ rfl ⟨⟨rfl,rfl⟩,rfl⟩ rfl ⟨⟨rfl,bL rfl rfl (by decide) (by decide)⟩,⟨rfl,.inl ⟨rfl,aa _⟩⟩,⟨rfl,.inl ⟨rfl,aa _⟩⟩,trivial⟩ rfl rfl ?_)
      |((with_reducible show ae _ _ 141 _ _ _ _);refine ae.dy (news:=[aT m L 4 (.own 223 0 (n1.length+es.length)),aF k1,aF k3,.dead,aV l' a 211 b 299,aU (n1++es.map (dF ld))]) [0,211,299,213,4,223] [] t141 DU ⟨⟨rfl,rfl⟩,rfl,⟨rfl,rfl,rfl,rfl,rfl,rfl,rfl,rfl,rfl,trivial⟩,trivial⟩ ⟨⟨rfl,.inr ⟨⟨⟨⟨rfl,rfl⟩,rfl,⟨rfl,rfl⟩,trivial⟩,trivial⟩,rfl⟩⟩,⟨rfl,.inl ⟨rfl,aa _⟩⟩,⟨rfl,.inl ⟨rfl,aa _⟩⟩,⟨rfl,.inl ⟨rfl,ay _⟩⟩,⟨rfl,bR (fun _=>rfl) (fun _=>rfl)⟩,trivial⟩ rfl ⟨⟨rfl,rfl⟩,rfl⟩ rfl ⟨⟨rfl,.inr ⟨rfl,rfl,rfl⟩⟩,⟨rfl,.inl ⟨rfl,aa _⟩⟩,⟨rfl,.inl ⟨rfl,aa _⟩⟩,⟨rfl,bL rfl rfl (by decide) (by decide)⟩,⟨rfl,.inl ⟨rfl,ay _⟩⟩,trivial⟩ rfl rfl ?_)
      |((with_reducible show aB _ _ _ _);refine dK ?_))<;>with_reducible refine wK ?_)
    |((with_reducible show(_∧_)∧_∧_);(refine eK ?_ ?_<;>with_reducible repeat' (first|exact trivial|(show _∧_;refine aK ?_ ?_))))));all_goals clear fct)
    all_goals (first
      | (cases hp
         have ht:ns'=n1++es.map (dF ld):=rtold
         refine nn.mk (j+1) [(201,211),(202,299),(203,223)] (by omega) (by omega) ?_
         rw[hl',hn',hka',hkb',rca,rcb,ht,jN,bP])
      | (cases hp
         have ht:ns'=n1++ []:=rtold
         rw[List.append_nil] at ht
         refine nn.mk (j+1) [(201,211),(202,299),(203,213)] (by omega) (by omega) ?_
         rw[hl',hn',hka',hkb',rca,rcb,ht])
      |trace_state)
    all_goals (refine fK ?_;(with_reducible repeat' (first|exact trivial|(show _∧_;refine aK ?_ ?_)));(all_goals try rfl))
    all_goals first
      |exact⟨.refl (aa _),aa _⟩
      |exact⟨.refl (ay _),ay _⟩
      |exact bF (fun _=>rfl) (fun _=>rfl)
      |trace_state
  · obtain rfl:j=parts.length:=by simp only[cj,aq] at h1;omega
    repeat' (first
    |refine gK ?_
    |(((with_reducible show aB _ _ _ _);refine dK ?_)<;>with_reducible refine wK ?_)
    |((with_reducible show(_∧_)∧_∧_);(refine eK ?_ ?_<;>with_reducible repeat' (first|exact trivial|(show _∧_;refine aK ?_ ?_)))))
    all_goals first
      |exact⟨.refl (aa _),aa _⟩
      |exact⟨.refl (ay _),ay _⟩
      |exact bF (fun _=>rfl) (fun _=>rfl)
      |trace_state
end Go.Proofs.Heir
namespace Go.Proofs.Heir
open Go Go.Am Go.RowKit Go.Lib
set_option maxRecDepth 100000
set_option maxHeartbeats 8000000
set_option maxHeartbeats 4000000
section
variable {l : List ai} {m : Int}
theorem mY {p b:Int}{ks:List Int}(R:RF l m)(h60:l.length≤60)(hd:ks.Nodup)(ns:List aO)(hC:∀k∈ks,gh l k p b∧((nd l k).parent=-1∨ks.length=1))(h0:(nd l p).kind=0→ks.length≤1)(tp:af l p=true):
    ∀ j,j≤ks.length→RF ((ks.take j).foldl (cz p b) (l,ns)).1 m∧((ks.take j).foldl (cz p b) (l,ns)).1.length=l.length∧((ks.take j).foldl (cz p b) (l,ns)).2.length≤ns.length+180*j∧(nd ((ks.take j).foldl (cz p b) (l,ns)).1 p).kind=(nd l p).kind∧
      ∀i k,j≤i→ks[i]? =some k→gh ((ks.take j).foldl (cz p b) (l,ns)).1 k p b∧(nd ((ks.take j).foldl (cz p b) (l,ns)).1 k).parent=(nd l k).parent:=by
  intro j
  induction j with
  |zero=>exact fun _=>⟨R,rfl,Nat.le_refl _,rfl,fun i k _ hk=>⟨(hC k (bV hk)).1,rfl⟩⟩
  | succ j ih=>
    intro hj
    obtain⟨i1,i2,i3,i4,i5⟩:=ih (by omega)
    obtain⟨k,hk⟩:∃k,ks[j]? =some k:=⟨_,bH (by omega)⟩
    have hs:(ks.take (j+1)).foldl (cz p b) (l,ns)=cz p b ((ks.take j).foldl (cz p b) (l,ns)) k:=by
      rw[List.take_add_one,hk,List.foldl_append];rfl
    rw[hs]
    clear ih hs
    generalize(ks.take j).foldl (cz p b) (l,ns)=S at*
    obtain⟨s1,s2⟩:=S
    simp only at i1 i2 i3 i4 i5
    obtain⟨C,hp⟩:=i5 j k (Nat.le_refl _) hk
    obtain⟨kn,_,rfl,_,_⟩:=aI.1 C.tk
    have hl:=zn i1 (by omega) C (i1.own p C.tp).1 s2
    rw[qR]
    refine⟨j9 i1 C,by rw[fF,i2],by omega,?_,?_⟩
    ·rw[(jH i1 C p C.tp).1.kind,i4]
    · intro i c hi hc
      obtain⟨D,hq⟩:=i5 i c (by omega) hc
      have hne:c≠ (kn:Int):=fun e=>by
        have hil:=(aZ hc).1
        have h1:=(aZ hc).2
        have h2:=(aZ hk).2
        exact(List.pairwise_iff_getElem.1 hd) j i (by omega) hil (by omega) (by rw[h1,h2,e])
      have hil:=(aZ hc).1
      have hk0:(nd s1 p).kind≠0:=fun e=>by
        have:=h0 (by rw[←i4];exact e)
        omega
      refine⟨wo i1 C D hne hk0,?_⟩
      rw[(jH i1 C c D.tk).2.1,if_neg hne,hq]
theorem pY:∀ (ks:List Int) {l:List ai} (ns:List aO),RF l m→l.length≤60→(∀k∈ks,af l k=true)→(ks.foldl bW (l,ns)).2.length≤ns.length+60*ks.length
  |[],l,ns,R,h60,_=>by simp
  | k ::ks,l,ns,R,h60,h=>by
    have hk:=h k gE
    obtain⟨kn,_,rfl,_,_⟩:=aI.1 hk
    have h1:=lQ R h60 (bZ hk) ns
    have hf:=gl (l,ns) (kn:Int)
    have hsp:bW (l,ns) (kn:Int)=(bj l kn,(bW (l,ns) (kn:Int)).2):=by
      rw[←hf]
    have h2:=pY ks (l:=bj l kn) (bW (l,ns) (kn:Int)).2 (dP R hk) (by rw[c9];exact h60) (fun j hj=>by rw[bk (c9 ..)];exact h j (fJ _ hj))
    rw[List.foldl_cons,hsp,List.length_cons]
    omega
theorem wR {n k:Int}{j:Nat}(h:[n][j]? =some k):j=0∧k=n:=by
  cases j with
  |zero=>cases h;exact⟨rfl,rfl⟩
  |succ j=>simp at h
theorem zl (R:RF l m)(h60:l.length≤60){n p:Nat}{before:Int}(C:oh l n p before)(h3:(nd l n).kind≠3)(h:(nd l n).parent=-1∨(nd l n).parent=(p:Int)){ns:List aO}(hns:ns.length≤1000):
    aj Tryz.prog 75 [aT m l.length 4 (.own 3 0 ns.length),aF (nd l p).kids,aF (nd l n).kids,aU ns,aV l p 1 n 2] [.ptr 0 0 0,ah n,ah p,ah before]
      [aT m l.length 4 (.own 7 0 (cJ (l,ns) n p before).2.length),.dead,.dead,.dead,aV (cJ (l,ns) n p before).1 p 5 n 6,aF (nd (cJ (l,ns) n p before).1 p).kids,aF (nd (cJ (l,ns) n p before).1 n).kids,aU (cJ (l,ns) n p before).2] (.tup []):=by
  have hnl:=bZ C.tn
  have hpl:=bZ C.tp
  have hne:n≠p:=fun e=>C.w (by rw[e];exact U.cM R.tree C.tp)
  have h27:=AO ⟨l,m⟩ (cD R h60) n _ (bU hnl) (dB.2 R)
  have hpo:=gO h3
  unfold cJ
  simp only at h27 ⊢
  rw[if_neg h3,hpo]
  rw[hpo] at h27
  exact LS (m:=m) (L:=l.length) (a:=p) (b:=n) (n:=n) (before:=before) (parts:=[(n:Int)]) (ls:=fun j=>(([(n:Int)].take j).foldl (cz p before) (l,ns)).1) (nss:=fun j=>(([(n:Int)].take j).foldl (cz p before) (l,ns)).2)
    (kas:=fun j=>(nd (([(n:Int)].take j).foldl (cz p before) (l,ns)).1 p).kids) (kbs:=fun j=>(nd (([(n:Int)].take j).foldl (cz p before) (l,ns)).1 n).kids) hne (by simp) rfl (bU hnl) h3 cP cP h27
    (fun j k hk=>by
      obtain⟨rfl,rfl⟩:=wR hk
      exact Ih R h60 hne (pZ C h3) (R.own p C.tp).1 h (show ns.length≤70000 by omega))
theorem yM (R:RF l m)(h60:l.length≤60){n p q:Nat}{before:Int}(C:oh l n p before)(h3:(nd l n).kind≠3)(hq:q<l.length)(hpq:p≠q)(hnq:n≠q)(h:(nd l n).parent=-1∨(nd l n).parent=(q:Int)){ns:List aO}(hns:ns.length≤1000):
    aj Tryz.prog 75 [aT m l.length 4 (.own 3 0 ns.length),aF (nd l q).kids,aF (nd l p).kids,aU ns,aV l q 1 p 2] [.ptr 0 0 0,ah n,ah p,ah before]
      [aT m l.length 4 (.own 7 0 (cJ (l,ns) n p before).2.length),.dead,.dead,.dead,aV (cJ (l,ns) n p before).1 q 5 p 6,aF (nd (cJ (l,ns) n p before).1 q).kids,aF (nd (cJ (l,ns) n p before).1 p).kids,aU (cJ (l,ns) n p before).2] (.tup []):=by
  have hnl:=bZ C.tn
  have hpl:=bZ C.tp
  have h27:=AO ⟨l,m⟩ (cD R h60) n _ (bU hnl) (dB.2 R)
  have hpo:=gO h3
  unfold cJ
  simp only at h27 ⊢
  rw[if_neg h3,hpo]
  rw[hpo] at h27
  exact LF (m:=m) (L:=l.length) (a:=q) (b:=p) (n:=n) (before:=before) (parts:=[(n:Int)]) (ls:=fun j=>(([(n:Int)].take j).foldl (cz p before) (l,ns)).1) (nss:=fun j=>(([(n:Int)].take j).foldl (cz p before) (l,ns)).2)
    (kas:=fun j=>(nd (([(n:Int)].take j).foldl (cz p before) (l,ns)).1 q).kids) (kbs:=fun j=>(nd (([(n:Int)].take j).foldl (cz p before) (l,ns)).1 p).kids) hpq (by simp) rfl (bU hnl) h3 cP cP h27
    (fun j k hk=>by
      obtain⟨rfl,rfl⟩:=wR hk
      exact BT R h60 hpq hq (pZ C h3) (R.own p C.tp).1 hnq h (show ns.length≤70000 by omega))
theorem zc (R:RF l m)(h60:l.length≤60){n p:Nat}{before:Int}(C:oh l n p before)(h3:(nd l n).kind=3){ns:List aO}(hns:ns.length≤1000):
    aj Tryz.prog 75 [aT m l.length 4 (.own 3 0 ns.length),aF (nd l n).kids,aF (nd l p).kids,aU ns,aV l n 1 p 2] [.ptr 0 0 0,ah n,ah p,ah before]
      [aT m l.length 4 (.own 7 0 (cJ (l,ns) n p before).2.length),.dead,.dead,.dead,aV (cJ (l,ns) n p before).1 n 5 p 6,aF (nd (cJ (l,ns) n p before).1 n).kids,aF (nd (cJ (l,ns) n p before).1 p).kids,aU (cJ (l,ns) n p before).2] (.tup []):=by
  have hnl:=bZ C.tn
  have hpl:=bZ C.tp
  have hne:p≠n:=fun e=>C.w (by rw[←e];exact U.cM R.tree C.tp)
  have h27:=AO ⟨l,m⟩ (cD R h60) n _ (bU hnl) (dB.2 R)
  have hpo:cC l n=(nd l n).kids:=by unfold cC;rw[if_pos h3]
  obtain⟨hf1,hf2,hf3,hf4⟩:=pC R C h3
  have hks:∀k∈ (nd l n).kids,af l k=true:=fun k hk=>(R.kid n C.tn k hk).1
  have hdup:=R.dup n C.tn
  have hkl:(nd l n).kids.length≤60:=(cD R h60).kids _ (bV (bU hnl))
  have hpar:∀k∈ (nd l n).kids,(nd l k).parent=n:=fun k hk=>(R.kid n C.tn k hk).2.1
  unfold cJ
  simp only at h27 ⊢
  rw[if_pos h3,hpo]
  rw[hpo] at h27
  have hnself:∀k∈ (nd l n).kids,k≠ (n:Int):=fun k hk e=>by
    have h1:=R.ja C.tn
    rw[R.fj C.tn (by rw[←e,hpar k hk];omega)] at h1
    have:=hpar k hk
    rw[e] at this
    exact h1 this
  generalize hks0:(nd l n).kids=ks at*
  -- the states of the first loop
  have hU:∀j,((ks.take j).foldl bW (l,ns)).1=(ks.take j).foldl bj l:=fun j=>gw _ _
  have hin:∀j,∀k∈ks.take j,k∈ks:=fun j k hk=>List.mem_of_mem_take hk
  have hR:∀j,RF ((ks.take j).foldl bj l) m∧((ks.take j).foldl bj l).length=l.length:=fun j=>lV _ R fun k hk=>hks k (hin j k hk)
  have hL:=fun(j:Nat) (x:Int) (hx:af l x=true)=>jJ (ks.take j) R (fun k hk=>hks k (hin j k hk)) n (fun k hk=>.inl (hpar k (hin j k hk))) x hx
  have hN:∀j,((ks.take j).foldl bW (l,ns)).2.length≤ns.length+60*ks.length:=fun j=>by
    have h1:=pY (m:=m) (ks.take j) ns R h60 (fun k hk=>hks k (hin j k hk))
    have h2:(ks.take j).length≤ks.length:=by rw[gd];omega
    have:60* (ks.take j).length≤60*ks.length:=Nat.mul_le_mul_left 60 h2
    omega
  have hTl:ks.take ks.length=ks:=List.take_length
  have hsp:ks.foldl bW (l,ns)=(ks.foldl bj l,(ks.foldl bW (l,ns)).2):=Prod.ext (gw ks (l,ns)) rfl
  have hkp:∀j,(nd ((ks.take j).foldl bW (l,ns)).1 p).kids=(nd l p).kids:=fun j=>by
    rw[hU j];exact(hL j p C.tp).2.2.2 (by omega)
  have hstate:=mY (p:=(p:Int)) (b:=before) (ks:=ks) (m:=m) hf1 (by rw[hf2];exact h60) hdup (ks.foldl bW (l,ns)).2 (fun k hk=>⟨(hf3 k hk).1,.inl (hf3 k hk).2⟩) (fun e=>hf4 (by
    have:=(hL ks.length p C.tp).1.kind
    rw[hTl] at this
    rw[←this];exact e)) (by rw[bk hf2];exact C.tp)
  rw[←hsp] at hstate
  have hkb:(nd l p).kids=(nd ((ks.take 0).foldl (cz p before) (ks.foldl bW (l,ns))).1 p).kids:=by
    have:=hkp ks.length
    rw[hTl] at this
    exact this.symm
  have hend:(ks.take ks.length).foldl (cz p before) (ks.foldl bW (l,ns))=ks.foldl (cz p before) (ks.foldl bW (l,ns)):=by rw[hTl]
  have hk0:ks=(nd ((ks.take 0).foldl bW (l,ns)).1 n).kids:=hks0.symm
  have main:=Lo (m:=m) (L:=l.length) (a:=n) (b:=p) (n:=n) (before:=before) (parts:=ks) (us:=fun j=>((ks.take j).foldl bW (l,ns)).1) (uns:=fun j=>((ks.take j).foldl bW (l,ns)).2) (uka:=fun j=>(nd ((ks.take j).foldl bW (l,ns)).1 n).kids)
    (ls:=fun j=>((ks.take j).foldl (cz p before) (ks.foldl bW (l,ns))).1) (nss:=fun j=>((ks.take j).foldl (cz p before) (ks.foldl bW (l,ns))).2)
    (kas:=fun j=>(nd ((ks.take j).foldl (cz p before) (ks.foldl bW (l,ns))).1 n).kids) (kbs:=fun j=>(nd ((ks.take j).foldl (cz p before) (ks.foldl bW (l,ns))).1 p).kids) hne (by omega) rfl (bU hnl) h3 cP (fun y hy=>by rw[cP y hy];exact hkb) h27
    (fun j k hk=>by
      have hkm:=bV hk
      have htk:=hks k hkm
      obtain⟨kn,_,rfl,_,_⟩:=aI.1 htk
      have hnext:(ks.take (j+1)).foldl bW (l,ns)=bW ((ks.take j).foldl bW (l,ns)) kn:=by
        rw[List.take_add_one,hk,List.foldl_append];rfl
      have hRj:=hR j
      have hUj:=hU j
      have hNj:=hN j
      have hkpj:=hkp j
      have hpj:(nd ((ks.take j).foldl bj l) kn).parent=-1∨(nd ((ks.take j).foldl bj l) kn).parent=(n:Int):=by
        rw[(hL j kn htk).2.2.1]
        split
        ·exact .inl rfl
        ·exact .inr (hpar kn hkm)
      try dsimp only
      rw[hnext,←hkb,←hkpj]
      rw[←hUj] at hRj hpj
      clear hnext hUj hkpj
      generalize(ks.take j).foldl bW (l,ns)=S at*
      obtain⟨s1,s2⟩:=S
      simp only at hRj hpj hNj
      rw[gl,←hRj.2]
      exact AR hRj.1 (by rw[hRj.2];exact h60) hne (by rw[hRj.2];exact hnl) (by rw[hRj.2];exact hpl) (by rw[hRj.2];exact bZ htk) (ns:=s2) (by omega) hpj)
    (by first|(rw[hTl];rfl)|(dsimp only;rw[hTl];rfl)) (by first|(rw[hTl];rfl)|(dsimp only;rw[hTl];rfl)) (by first|(rw[hTl];rfl)|(dsimp only;rw[hTl];rfl))
    (fun j k hk=>by
      have hkm:=bV hk
      have hjl:=(aZ hk).1
      have htk:=hks k hkm
      obtain⟨kn,_,rfl,_,_⟩:=aI.1 htk
      obtain⟨i1,i2,i3,i4,i5⟩:=hstate j (by omega)
      obtain⟨D,hpD⟩:=i5 j kn (Nat.le_refl _) hk
      have hnext:(ks.take (j+1)).foldl (cz p before) (ks.foldl bW (l,ns))=cz p before ((ks.take j).foldl (cz p before) (ks.foldl bW (l,ns))) kn:=by
        rw[List.take_add_one,hk,List.foldl_append];rfl
      have hNT:=hN ks.length
      rw[hTl] at hNT
      have hlT:(ks.foldl bW (l,ns)).1.length=l.length:=by rw[gw];exact hf2
      have hpT:(nd (ks.foldl bW (l,ns)).1 kn).parent=-1:=by rw[gw];exact(hf3 kn hkm).2
      try dsimp only
      rw[hnext]
      generalize ks.foldl bW (l,ns)=T at*
      rw[(hf3 kn hkm).2] at hpD
      clear hnext i5
      generalize(ks.take j).foldl (cz p before) T=S at*
      obtain⟨s1,s2⟩:=S
      simp only at i1 i2 i3 i4 D hpD
      rw[qR]
      have hl1:s1.length=l.length:=by rw[i2,hf2]
      have:=BT i1 (by rw[hl1];exact h60) hne (by rw[hl1];exact hnl) D (i1.own p D.tp).1 (fun e=>hnself kn hkm (by rw[e])) (.inl hpD) (ns:=s2) (by
        have:60*ks.length≤3600:=by omega
        have:180*j≤180*60:=by omega
        omega)
      rw[hl1] at this
      exact this)
  try dsimp only at main
  rw[hend,←hkb,←hk0] at main
  exact main
end
end Go.Proofs.Heir
namespace Go.Proofs.Heir
open Go Go.Am Go.RowKit Go.Lib
set_option maxRecDepth 100000
set_option maxHeartbeats 8000000
set_option maxHeartbeats 16000000
theorem oR {l l':List ai}{m n p c before:Int}{a b:Nat}{ka kb ka' kb':List Int}{told:List aO}
    (h28:aj Tryz.prog 28 [] [aN ⟨l,m⟩,ah n,ah p,ah c] [] (ah before))
    (h75:aj Tryz.prog 75 [aT m l.length 4 (.own 3 0 0),aF ka,aF kb,aU [],aV l a 1 b 2] [.ptr 0 0 0,ah n,ah p,ah before]
      [aT m l.length 4 (.own 7 0 told.length),.dead,.dead,.dead,aV l' a 5 b 6,aF ka',aF kb',aU told] (.tup [])):
    aj Tryz.prog 74 [aT m l.length 4 (.own 3 0 0),aF ka,aF kb,aU [],aV l a 1 b 2] [.ptr 0 0 0,.fptr (ah n) 0,.fptr (ah p) 0,.fptr (aN ⟨l,m⟩) 0,.fptr (ah c) 0]
      [aT m l.length 4 (.own 7 0 told.length),.dead,.dead,.dead,aV l' a 5 b 6,aF ka',aF kb',aU told] gq:=by
  refine aj.fW [(5,151),(6,153),(7,163)] (rvs:=[.tmp 6]) G ak Tryz.func74 rfl Tryz.ntmps74 rfl rfl ?_;with_reducible refine wD ?_
  repeat' (first
    |refine gK ?_
    | ((first
      |((with_reducible show ae _ _ 28 _ _ _ _);refine ae.lit [] h28 Ni ⟨⟨rfl,rfl,trivial⟩,rfl,rfl,rfl,trivial⟩ rfl rfl ?_)
      |((with_reducible show ae _ _ 75 _ _ _ _);refine ae.dy (news:=[aT m l.length 4 (.own 163 0 told.length),.dead,.dead,.dead,aV l' a 151 b 153,aF ka',aF kb',aU told]) [0,1,2,3,4,151,153,163] [] h75 Mr ⟨⟨rfl,rfl⟩,rfl,rfl,rfl,trivial⟩ ⟨⟨rfl,.inr ⟨⟨⟨⟨rfl,rfl⟩,rfl,⟨rfl,rfl⟩,trivial⟩,trivial⟩,rfl⟩⟩,⟨rfl,.inl ⟨rfl,aa _⟩⟩,⟨rfl,.inl ⟨rfl,aa _⟩⟩,⟨rfl,.inl ⟨rfl,ay _⟩⟩,⟨rfl,bR (fun _=>rfl) (fun _=>rfl)⟩,trivial⟩ rfl ⟨⟨rfl,rfl⟩,rfl⟩ rfl ⟨⟨rfl,.inr ⟨rfl,rfl,rfl⟩⟩,⟨rfl,bL rfl rfl (by decide) (by decide)⟩,⟨rfl,.inl ⟨rfl,aa _⟩⟩,⟨rfl,.inl ⟨rfl,aa _⟩⟩,⟨rfl,.inl ⟨rfl,ay _⟩⟩,trivial⟩ rfl rfl ?_)
      |((with_reducible show aB _ _ _ _);refine dK ?_))<;>with_reducible refine wK ?_)
    |((with_reducible show(_∧_)∧_∧_);(refine eK ?_ ?_<;>with_reducible repeat' (first|exact trivial|(show _∧_;refine aK ?_ ?_)))))
  all_goals first
    |rfl
    |exact⟨.refl (aa _),aa _⟩
    |exact⟨.refl (ay _),ay _⟩
    |exact bF (fun _=>rfl) (fun _=>rfl)
    |trace_state
theorem nQ (f:ForM)(hs:bq f.nodes){a b:Nat}{ya yb:ai}(hab:a≠b)(ha:f.nodes[a]? =some ya)(hb:f.nodes[b]? =some yb)(g:Nat)(cg:au Tryz.prog g)(caps:List AV)(hcaps:bz caps=true)(l':List ai)(k1 k2:List Int)(told:List aO)(hl:l'.length=f.nodes.length)
    (hka:∀y,l'[a]? =some y→y.kids=k1) (hkb:∀y,l'[b]? =some y→y.kids=k2)
    (hg:aj Tryz.prog g [aT f.most f.nodes.length 4 (.own 3 0 0),aF ya.kids,aF yb.kids,aU [],aV f.nodes a 1 b 2] (.ptr 0 0 0::caps)
      [aT f.most f.nodes.length 4 (.own 7 0 told.length),.dead,.dead,.dead,aV l' a 5 b 6,aF k1,aF k2,aU told] gq):
    aj Tryz.prog 56 [] [aN f,gq,.clo (.func g) [] caps] [] (.tup [aN ⟨l',f.most⟩,mD told,ah 0]):=by
  have h121:=I7 f hs hab ha hb
  have hlm:(l'.map bM).length=f.nodes.length:=by rw[bP,hl]
  obtain⟨l,m⟩:=f
  simp only at*
  refine aj.aA (rvs:=[.cell 6 24,.tmp 7,.tmp 8]) G ak Tryz.func56 rfl Tryz.ntmps56 rfl rfl ?_;with_reducible refine wD ?_
  repeat' (first
    |refine gK ?_
    | ((first
      |((with_reducible show ae _ _ 121 _ _ _ _);refine ae.dy (news:=[aT m l.length 114 (.own 113 0 0),aF ya.kids,aF yb.kids,.live 9 [] false,aV l a 111 b 112]) [110,111,112,113,114] [] h121 Ek ⟨⟨rfl,rfl,trivial⟩,trivial⟩ trivial rfl ⟨⟨rfl,rfl⟩,rfl⟩ rfl ⟨⟨rfl,.inr ⟨rfl,rfl,rfl⟩⟩,⟨rfl,.inl ⟨rfl,aa _⟩⟩,⟨rfl,.inl ⟨rfl,aa _⟩⟩,⟨rfl,.inl ⟨rfl,rfl⟩⟩,⟨rfl,bL rfl rfl (by decide) (by decide)⟩,trivial⟩ rfl rfl ?_)
      |((with_reducible show bD _ _ _ _ _);first|refine bD.mN true Tryz.underlying98 rfl rfl rfl rfl rfl ?_|refine bD.nr false Tryz.underlying98 rfl rfl rfl rfl rfl ?_)
      |((with_reducible show ae _ _ _ _ _ _ _);refine ae.dy (news:=[aT m l.length 114 (.own 163 0 told.length),.dead,.dead,.dead,aV l' a 161 b 162,aF k1,aF k2,aU told]) [110,111,112,113,114,161,162,163] [] hg cg ⟨⟨rfl,rfl⟩,cq hcaps⟩ ⟨⟨rfl,.inr ⟨⟨⟨⟨rfl,rfl⟩,rfl,⟨rfl,rfl⟩,trivial⟩,trivial⟩,rfl⟩⟩,⟨rfl,.inl ⟨rfl,aa _⟩⟩,⟨rfl,.inl ⟨rfl,aa _⟩⟩,⟨rfl,.inl ⟨rfl,rfl⟩⟩,⟨rfl,bR (fun _=>rfl) (fun _=>rfl)⟩,trivial⟩ rfl ⟨⟨rfl,rfl⟩,rfl⟩ rfl ⟨⟨rfl,.inr ⟨rfl,rfl,rfl⟩⟩,⟨rfl,bL rfl rfl (by decide) (by decide)⟩,⟨rfl,.inl ⟨rfl,aa _⟩⟩,⟨rfl,.inl ⟨rfl,aa _⟩⟩,⟨rfl,.inl ⟨rfl,ay _⟩⟩,trivial⟩ rfl rfl ?_)
      |((with_reducible show aB _ _ _ _);refine dK ?_))<;>with_reducible refine wK ?_)
    |((with_reducible show(_∧_)∧_∧_);(refine eK ?_ ?_<;>with_reducible repeat' (first|exact trivial|(show _∧_;refine aK ?_ ?_)))))
  all_goals first
    |rfl
    |exact kY rfl rfl rfl (by simp) (ay _)
    |exact(by rw[←hl];exact tw (ra:=false) (rb:=false) (ea:=[]) (eb:=[]) rfl rfl (fun y hy=>by rw[List.append_nil,hka y hy];exact⟨rfl,rfl⟩) (fun y hy=>by rw[List.append_nil,hkb y hy];exact⟨rfl,rfl⟩))
    |trace_state
def xS:ByteArray:=⟨#[112,117,116]⟩
def sA (f:ForM)(n p c:Int):List AV:=[.fptr (ah n) 0,.fptr (ah p) 0,.fptr (aN f) 0,.fptr (ah c) 0]
theorem AM (f:ForM)(n p c:Int)(e:Int)(r:ForM)(ns:List aO)(z:Int)(h30:aj Tryz.prog 30 [] [aN f,ah n,ah p,ah c] [] (ah e))(h60:aj Tryz.prog 60 [] [cn xS,ah e] [] (.lit (iV xS e)))
    (h56:aj Tryz.prog 56 [] [aN f,(.lit (iV xS e)),.clo (.func 74) [] (sA f n p c)] [] (.tup [aN r,mD ns,ah z])):aj Tryz.prog 29 [] [aN f,ah n,ah p,ah c] [] (.tup [aN r,mD ns,ah z]):=by
  unfold sA at h56
  obtain⟨l,m⟩:=f
  obtain⟨l',m'⟩:=r
  refine aj.aA (rvs:=[.cell 8 24,.tmp 9,.tmp 10]) G ak Tryz.func29 rfl Tryz.ntmps29 rfl rfl ?_;with_reducible refine wD ?_
  repeat' (first
    |refine gK ?_
    | ((first
      |((with_reducible show ae _ _ 30 _ _ _ _);refine ae.lit [] h30 KY ⟨⟨rfl,rfl,trivial⟩,rfl,rfl,rfl,trivial⟩ rfl rfl ?_)
      |((with_reducible show ae _ _ 60 _ _ _ _);refine ae.lit [] h60 Gv ⟨rfl,rfl,trivial⟩ rfl rfl ?_)
      |((with_reducible show ae _ _ 56 _ _ _ _);refine ae.val [50,60,40,70] h56 HA ⟨⟨rfl,rfl,trivial⟩,⟨rfl,rfl⟩,⟨rfl,trivial,⟨_,_,_,_,_,rfl,rfl,rfl,rfl,rfl,rfl⟩,⟨_,_,_,_,_,rfl,rfl,rfl,rfl,rfl,rfl⟩,⟨_,_,_,_,_,rfl,rfl,rfl,rfl,rfl,⟨rfl,rfl,trivial⟩⟩,⟨_,_,_,_,_,rfl,rfl,rfl,rfl,rfl,rfl⟩,trivial⟩,trivial⟩ rfl rfl rfl ?_)
      |((with_reducible show aB _ _ _ _);refine dK ?_))<;>with_reducible refine wK ?_)
    |((with_reducible show(_∧_)∧_∧_);(refine eK ?_ ?_<;>with_reducible repeat' (first|exact trivial|(show _∧_;refine aK ?_ ?_)))))
  all_goals first|rfl|trace_state
theorem oK (f:ForM)(n p c:Int)(r:ForM)(ns:List aO)(z:Int)(h30:aj Tryz.prog 30 [] [aN f,ah n,ah p,ah c] [] (ah 0))(h60:aj Tryz.prog 60 [] [cn xS,ah 0] [] gq)
    (h56:aj Tryz.prog 56 [] [aN f,gq,.clo (.func 74) [] (sA f n p c)] [] (.tup [aN r,mD ns,ah z])):aj Tryz.prog 29 [] [aN f,ah n,ah p,ah c] [] (.tup [aN r,mD ns,ah z]):=by
  unfold sA at h56
  obtain⟨l,m⟩:=f
  obtain⟨l',m'⟩:=r
  refine aj.aA (rvs:=[.cell 8 24,.tmp 9,.tmp 10]) G ak Tryz.func29 rfl Tryz.ntmps29 rfl rfl ?_;with_reducible refine wD ?_
  repeat' (first
    |refine gK ?_
    | ((first
      |((with_reducible show ae _ _ 30 _ _ _ _);refine ae.lit [] h30 KY ⟨⟨rfl,rfl,trivial⟩,rfl,rfl,rfl,trivial⟩ rfl rfl ?_)
      |((with_reducible show ae _ _ 60 _ _ _ _);refine ae.lit [] h60 Gv ⟨rfl,rfl,trivial⟩ rfl rfl ?_)
      |((with_reducible show ae _ _ 56 _ _ _ _);refine ae.val [50,60,40,70] h56 HA ⟨⟨rfl,rfl,trivial⟩,⟨rfl,rfl⟩,⟨rfl,trivial,⟨_,_,_,_,_,rfl,rfl,rfl,rfl,rfl,rfl⟩,⟨_,_,_,_,_,rfl,rfl,rfl,rfl,rfl,rfl⟩,⟨_,_,_,_,_,rfl,rfl,rfl,rfl,rfl,⟨rfl,rfl,trivial⟩⟩,⟨_,_,_,_,_,rfl,rfl,rfl,rfl,rfl,rfl⟩,trivial⟩,trivial⟩ rfl rfl rfl ?_)
      |((with_reducible show aB _ _ _ _);refine dK ?_))<;>with_reducible refine wK ?_)
    |((with_reducible show(_∧_)∧_∧_);(refine eK ?_ ?_<;>with_reducible repeat' (first|exact trivial|(show _∧_;refine aK ?_ ?_)))))
  all_goals first|rfl|trace_state
def qj:ByteArray:=⟨#[115,119,97,112]⟩
def kz (f:ForM)(n p c:Int):List AV:=[.fptr (aN f) 0,.fptr (ah c) 0,.fptr (ah n) 0,.fptr (ah p) 0]
theorem yR (f:ForM)(n p c:Int)(e:Int)(r:ForM)(ns:List aO)(z:Int)(h30:aj Tryz.prog 85 [] [aN f,ah n,ah p,ah c] [] (ah e))(h60:aj Tryz.prog 60 [] [cn qj,ah e] [] (.lit (iV qj e)))
    (h56:aj Tryz.prog 56 [] [aN f,(.lit (iV qj e)),.clo (.func 86) [] (kz f n p c)] [] (.tup [aN r,mD ns,ah z])):aj Tryz.prog 36 [] [aN f,ah n,ah p,ah c] [] (.tup [aN r,mD ns,ah z]):=by
  unfold kz at h56
  obtain⟨l,m⟩:=f
  obtain⟨l',m'⟩:=r
  refine aj.aA (rvs:=[.cell 8 24,.tmp 9,.tmp 10]) G ak Tryz.func36 rfl Tryz.ntmps36 rfl rfl ?_;with_reducible refine wD ?_
  repeat' (first
    |refine gK ?_
    | ((first
      |((with_reducible show ae _ _ 85 _ _ _ _);refine ae.lit [] h30 M1 ⟨⟨rfl,rfl,trivial⟩,rfl,rfl,rfl,trivial⟩ rfl rfl ?_)
      |((with_reducible show ae _ _ 60 _ _ _ _);refine ae.lit [] h60 Gv ⟨rfl,rfl,trivial⟩ rfl rfl ?_)
      |((with_reducible show ae _ _ 56 _ _ _ _);refine ae.val [40,70,50,60] h56 HA ⟨⟨rfl,rfl,trivial⟩,⟨rfl,rfl⟩,⟨rfl,trivial,⟨_,_,_,_,_,rfl,rfl,rfl,rfl,rfl,⟨rfl,rfl,trivial⟩⟩,⟨_,_,_,_,_,rfl,rfl,rfl,rfl,rfl,rfl⟩,⟨_,_,_,_,_,rfl,rfl,rfl,rfl,rfl,rfl⟩,⟨_,_,_,_,_,rfl,rfl,rfl,rfl,rfl,rfl⟩,trivial⟩,trivial⟩ rfl rfl rfl ?_)
      |((with_reducible show aB _ _ _ _);refine dK ?_))<;>with_reducible refine wK ?_)
    |((with_reducible show(_∧_)∧_∧_);(refine eK ?_ ?_<;>with_reducible repeat' (first|exact trivial|(show _∧_;refine aK ?_ ?_)))))
  all_goals first|rfl|trace_state
theorem nh (f:ForM)(n p c:Int)(r:ForM)(ns:List aO)(z:Int)(h30:aj Tryz.prog 85 [] [aN f,ah n,ah p,ah c] [] (ah 0))(h60:aj Tryz.prog 60 [] [cn qj,ah 0] [] gq)
    (h56:aj Tryz.prog 56 [] [aN f,gq,.clo (.func 86) [] (kz f n p c)] [] (.tup [aN r,mD ns,ah z])):aj Tryz.prog 36 [] [aN f,ah n,ah p,ah c] [] (.tup [aN r,mD ns,ah z]):=by
  unfold kz at h56
  obtain⟨l,m⟩:=f
  obtain⟨l',m'⟩:=r
  refine aj.aA (rvs:=[.cell 8 24,.tmp 9,.tmp 10]) G ak Tryz.func36 rfl Tryz.ntmps36 rfl rfl ?_;with_reducible refine wD ?_
  repeat' (first
    |refine gK ?_
    | ((first
      |((with_reducible show ae _ _ 85 _ _ _ _);refine ae.lit [] h30 M1 ⟨⟨rfl,rfl,trivial⟩,rfl,rfl,rfl,trivial⟩ rfl rfl ?_)
      |((with_reducible show ae _ _ 60 _ _ _ _);refine ae.lit [] h60 Gv ⟨rfl,rfl,trivial⟩ rfl rfl ?_)
      |((with_reducible show ae _ _ 56 _ _ _ _);refine ae.val [40,70,50,60] h56 HA ⟨⟨rfl,rfl,trivial⟩,⟨rfl,rfl⟩,⟨rfl,trivial,⟨_,_,_,_,_,rfl,rfl,rfl,rfl,rfl,⟨rfl,rfl,trivial⟩⟩,⟨_,_,_,_,_,rfl,rfl,rfl,rfl,rfl,rfl⟩,⟨_,_,_,_,_,rfl,rfl,rfl,rfl,rfl,rfl⟩,⟨_,_,_,_,_,rfl,rfl,rfl,rfl,rfl,rfl⟩,trivial⟩,trivial⟩ rfl rfl rfl ?_)
      |((with_reducible show aB _ _ _ _);refine dK ?_))<;>with_reducible refine wK ?_)
    |((with_reducible show(_∧_)∧_∧_);(refine eK ?_ ?_<;>with_reducible repeat' (first|exact trivial|(show _∧_;refine aK ?_ ?_)))))
  all_goals first|rfl|trace_state
end Go.Proofs.Heir
