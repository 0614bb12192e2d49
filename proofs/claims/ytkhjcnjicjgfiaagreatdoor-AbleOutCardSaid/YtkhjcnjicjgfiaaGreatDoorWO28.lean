/- Models, plain laws and contracts of functions of the given program; conditions as stated in each theorem. By an AI agent. -/
import Derived.Test.YtkhjcnjicjgfiaaGreatDoorWO19
import Derived.Test.YtkhjcnjicjgfiaaGreatDoorWO26
import Derived.Test.YtkhjcnjicjgfiaaGreatDoorWO27
import Derived.Test.YtkhjcnjicjgfiaaGreatDoorWO20
import Derived.Test.YtkhjcnjicjgfiaaGreatDoorWO17
set_option linter.unusedSimpArgs false
set_option linter.unusedVariables false
namespace Go.Proofs.Heir
open Go Go.Am Go.RowKit Go.Lib
set_option maxRecDepth 100000
set_option maxHeartbeats 8000000
@[reducible] def AF (y : ai) (q : AV) : AV := .agg [aj y.kind, cu y.name, cu y.is, cu y.data, dG y.attrs, aj y.parent, q, aj y.host, aj y.under, aj y.doc]
theorem ir (a ta b tb i:Nat)(y:ai):∃q,∀y':ai,y'.kids=y.kids→ei a ta b tb i y'=AF y' q:=by
  by_cases h:i=a
  ·exact⟨.own ta 0 y.kids.length,fun y' e=>by unfold ei;rw[if_pos h,←e];rfl⟩
  · by_cases c:i=b
    ·exact⟨.own tb 0 y.kids.length,fun y' e=>by unfold ei;rw[if_neg h,if_pos c,←e];rfl⟩
    ·exact⟨cF y.kids,fun y' e=>by unfold ei;rw[if_neg h,if_neg c,←e];rfl⟩
def je (d:Int)(l:List ai)(k:Nat):List ai:=match l[k]? with
  |some y=>l.set k {y with doc:=d}
  |none=>l
theorem Ah (d:Int)(l:List ai)(k:Nat):(je d l k).length=l.length:=by
  unfold je
  split
  ·exact List.length_set ..
  ·rfl
theorem qI (d:Int):∀ (ks:List Nat) (l:List ai),(ks.foldl (je d) l).length=l.length
  |[],_=>rfl
  |k::r,l=>(qI d r (je d l k)).trans (Ah d l k)
theorem Ew (d:Int)(l:List ai)(k i:Nat)(y:ai)(h:(je d l k)[i]? =some y):∃z,l[i]? =some z∧z.kids=y.kids:=by
  unfold je at h
  split at h
  · rename_i z hz
    rw[List.getElem?_set] at h
    split at h
    · rename_i e
      subst e
      split at h
      ·cases h;exact⟨z,hz,rfl⟩
      ·cases h
    ·exact⟨y,h,rfl⟩
  ·exact⟨y,h,rfl⟩
theorem oZ (d:Int):∀ (ks:List Nat) (l:List ai) (i:Nat) (y:ai),(ks.foldl (je d) l)[i]? =some y→∃z,l[i]? =some z∧z.kids=y.kids
  |[],_,_,y,h=>⟨y,h,rfl⟩
  | k::r,l,i,y,h=>by
    obtain⟨z,h1,h2⟩:=oZ d r (je d l k) i y h
    obtain⟨z2,h3,h4⟩:=Ew d l k i z h1
    exact⟨z2,h3,h4.trans h2⟩
def BV (l:List Nat):List Int:=l.map Int.ofNat
theorem IF {l:List Nat}{j k:Nat}(h:l[j]? =some k):((BV l).map bV)[j]? =some (aj (k:Int)):=by
  unfold BV
  rw[fH,fH,h];rfl
theorem HM (l:List Nat):(BV l).length=l.length:=cj ..
@[reducible] def xG (was d : Int) : aR := ⟨3, 0, was, d, ByteArray.empty, false, false, ByteArray.empty, ByteArray.empty⟩
theorem La {l l1 l2:List ai}{m d:Int}{a b n:Nat}{ka kb k1 es ex:List Int}{all:List Nat}{ns n1:List aR}{y:ai}(hl1:l1.length=l.length)(hy:l1[n]? =some y)(hd:y.doc≠d)(hall:∀k∈all,k<l1.length)(hal:all.length≤1000)(hl2:l2=all.foldl (je d) l1)(hk1:∀y,l1[a]? =some y→y.kids=k1)(hkb:∀y,l1[b]? =some y→y.kids=kb)(he:es.length≤1000)(hn:n1.length≤100000)
    (h161:an Tryz.prog 79 [aQ m l.length 4 (.own 3 0 ns.length),aI ka,aI kb,aW ns,aT l a 1 b 2] [.ptr 0 0 0,aj n] [aQ m l.length 4 (.own 6 0 n1.length),.dead,aI kb,.dead,aT l1 a 5 b 2,aI k1,aW n1] (.tup []))
    (h104:an Tryz.prog 82 [] [aY ⟨l1,m⟩,aj n] [aI (BV all)] (.own 0 0 (BV all).length))
    (h191:an Tryz.prog 34 [] [aY ⟨l2,m⟩,aj n] [aI (es++ex)] (.own 0 0 es.length)):
    an Tryz.prog 139 [aQ m l.length 4 (.own 3 0 ns.length),aI ka,aI kb,aW ns,aT l a 1 b 2] [.ptr 0 0 0,aj n,aj d]
      [aQ m l.length 4 (.own 6 0 (n1.length+es.length)),.dead,aI kb,.dead,aT l2 a 5 b 2,aI k1,aW (n1++es.map (dO (xG y.doc d)))] (.tup []):=by
  have hnl:=(bg hy).1
  have hl2l:l2.length=l.length:=by rw[hl2,qI,hl1]
  have t104:=mF (m:=m) (ex:=[]) (rest:=[aj n]) hk1 hkb (by rw[List.append_nil];exact h104) rfl
  rw[List.append_nil] at t104
  have t164:=qD (m:=m) (n:=n) (ns:=n1) (x:=xG y.doc d) (fun z hz=>by rw[hl2] at hz;obtain⟨w,h1,h2⟩:=oZ d _ _ _ _ hz;rw[←h2];exact hk1 w h1) (fun z hz=>by rw[hl2] at hz;obtain⟨w,h1,h2⟩:=oZ d _ _ _ _ hz;rw[←h2];exact hkb w h1) he hn h191
  rw[hl1] at t104
  rw[hl2l] at t164
  obtain⟨q,hq⟩:=ir a 151 b 2 n y
  have g1:(aP l1 a 151 b 2)[n]? =some (AF y q):=by rw[cI hy,hq y rfl]
  have hlr:∀x:List ai,(aP x a 151 b 2).length=x.length:=fun x=>bN
  have hmem:∀ (j:Nat) (k:Nat),all[j]? =some k→k<l1.length:=fun j k h=>hall k (bT h)
  generalize hy0:y.doc=w0 at hd
  obtain⟨y1,y2,y3,y4,y5,y6,y7,y8,y9,y10⟩:=y
  dsimp only at g1 hy0 t164
  subst hy0
  refine an.fA [(5,151)] (rvs:=[]) G au Tryz.func139 rfl Tryz.ntmps139 rfl rfl ?_;with_reducible refine wD ?_
  (have fct:=hd;(repeat' (first
    |refine gF ?_
    | ((first
      |((with_reducible show aa _ _ 79 _ _ _ _);refine aa.dg (news:=[aQ m l.length 4 (.own 163 0 n1.length),.dead,aI kb,.dead,aT l1 a 151 b 2,aI k1,aW n1]) [0,1,2,3,4,151,163] [] h161 MY ⟨⟨rfl,rfl⟩,rfl,trivial⟩ ⟨⟨rfl,.inr ⟨⟨⟨⟨rfl,rfl⟩,rfl,⟨rfl,rfl⟩,trivial⟩,trivial⟩,rfl⟩⟩,⟨rfl,.inl ⟨rfl,ae _⟩⟩,⟨rfl,.inl ⟨rfl,ae _⟩⟩,⟨rfl,.inl ⟨rfl,aq _⟩⟩,⟨rfl,bR (fun _=>rfl) (fun _=>rfl)⟩,trivial⟩ rfl ⟨⟨rfl,rfl⟩,rfl⟩ rfl ⟨⟨rfl,.inr ⟨rfl,rfl,rfl⟩⟩,⟨rfl,.inl ⟨rfl,ae _⟩⟩,⟨rfl,bM rfl rfl (by decide) (by decide)⟩,⟨rfl,.inl ⟨rfl,ae _⟩⟩,⟨rfl,.inl ⟨rfl,aq _⟩⟩,trivial⟩ rfl rfl ?_)
      |((with_reducible show eO _ _ _ _ _);refine eO.mk n rfl (by first|exact hnl|omega) ?_)
      |((with_reducible show aZ _ _ _ _ _);refine aZ.mk _ (by first|exact g1|(rw[Nat.zero_add];exact g1)) ?_)
      |((with_reducible show aa _ _ 82 _ _ _ _);refine aa.dg (news:=[aT l1 a 151 b 2,aI k1,aI kb,aI (BV all)]) [4,151,2,171] [] t104 N4 ⟨⟨⟨rfl,rfl⟩,rfl,trivial⟩,rfl,trivial⟩ ⟨⟨rfl,bR (fun _=>rfl) (fun _=>rfl)⟩,⟨rfl,.inl ⟨rfl,ae _⟩⟩,⟨rfl,.inl ⟨rfl,ae _⟩⟩,trivial⟩ rfl ⟨⟨rfl,rfl⟩,rfl⟩ rfl ⟨⟨rfl,bM rfl rfl (by decide) (by decide)⟩,⟨rfl,.inl ⟨rfl,ae _⟩⟩,⟨rfl,.inl ⟨rfl,ae _⟩⟩,⟨rfl,.inl ⟨rfl,ae _⟩⟩,trivial⟩ rfl rfl ?_)
      |((with_reducible show aL _ _ _ _);refine dK ?_))<;>with_reducible refine wK ?_)
    |((with_reducible show(_∧_)∧_∧_);(refine eK ?_ ?_<;>with_reducible repeat' (first|exact trivial|(show _∧_;refine aK ?_ ?_))))));all_goals clear fct)
  refine cn.use G au (fun(j:Nat)=>[(0,.ptr 0 0 0),(1,aj n),(2,aj d),(6,aj y10),(29,.own 171 0 (BV all).length),(30,aj (BV all).length),(31,aj j)])
    (fun j=>[(0,aQ m l.length 4 (.own 163 0 n1.length)),(1,.dead),(2,aI kb),(3,.dead),(4,aT ((all.take j).foldl (je d) l1) a 151 b 2),(163,aW n1),(151,aI k1),(171,aI (BV all))])
    (fun j=>j≤all.length) (fun j=>all.length-j) 0 (Nat.zero_le _) ?_ ?_
  · (refine fK ?_;(with_reducible repeat' (first|exact trivial|(show _∧_;refine aK ?_ ?_)));(all_goals try rfl))
    all_goals first
      |exact⟨.refl (ae _),ae _⟩
      |exact⟨.refl (aq _),aq _⟩
      |exact bt (l:=l1) (fun _=>rfl) (fun _=>rfl)
      |trace_state
  intro j hj
  have hti:=HM all
  with_reducible refine wK ?_
  refine bk.mk (fun h1=>?_) (fun h1=>?_)<;>(try simp only[ay] at h1)<;>with_reducible refine wK ?_
  · have hjl:j<all.length:=by simp only[bO,ay] at h1;omega
    obtain⟨k,hk⟩:∃k,all[j]? =some k:=⟨_,bz hjl⟩
    obtain⟨lj,hlj⟩:∃lj,lj=(all.take j).foldl (je d) l1:=⟨_,rfl⟩
    have hljl:lj.length=l.length:=by rw[hlj,qI,hl1]
    have hkl:k<lj.length:=by have:=hmem j k hk;omega
    obtain⟨z,hz⟩:∃z,lj[k]? =some z:=⟨_,bz hkl⟩
    obtain⟨p,hp⟩:=ir a 151 b 2 k z
    have gz:(aP lj a 151 b 2)[k]? =some (AF z p):=by rw[cI hz,hp z rfl]
    have hnext:(all.take (j+1)).foldl (je d) l1=lj.set k {z with doc:=d}:=by
      rw[List.take_add_one,hk,List.foldl_append,←hlj]
      show je d lj k=_
      unfold je;rw[hz]
    have hrow:(aP lj a 151 b 2).set (0+k) (AF {z with doc:=d} p)=aP ((all.take (j+1)).foldl (je d) l1) a 151 b 2:=by
      rw[hnext,Nat.zero_add,←hp {z with doc:=d} rfl,rj _ hkl]
    have hkr:k< (aP lj a 151 b 2).length:=by rw[bN];exact hkl
    have hge:=IF hk
    rw[←hlj]
    obtain⟨z1,z2,z3,z4,z5,z6,z7,z8,z9,z10⟩:=z
    repeat' (first
    |refine gK ?_
    | ((first
      |((with_reducible show eO _ _ _ _ _);first|refine eO.mk j rfl (by first|omega|(simp;omega)) ?_|refine eO.mk k rfl (by first|exact hkl|omega) ?_)
      |((with_reducible show aZ _ _ _ _ _);first|refine aZ.mk (aj (k:Int)) (by first|exact hge|(rw[Nat.zero_add];exact hge)) ?_|refine aZ.mk _ (by first|exact gz|(rw[Nat.zero_add];exact gz)) ?_)
      |((with_reducible show aL _ _ _ _);refine dK ?_))<;>with_reducible refine wK ?_)
    |((with_reducible show(_∧_)∧_∧_);(refine eK ?_ ?_<;>with_reducible repeat' (first|exact trivial|(show _∧_;refine aK ?_ ?_)))))
    refine cm.mk (j+1) (by omega) (by omega) ?_
    (refine fK ?_;(with_reducible repeat' (first|exact trivial|(show _∧_;refine aK ?_ ?_)));(all_goals try rfl))
    all_goals first
      |exact⟨.refl (ae _),ae _⟩
      |exact⟨.refl (aq _),aq _⟩
      |exact cast (congrArg (eF _ _) hrow.symm) (bt (fun _=>rfl) (fun _=>rfl))
      |trace_state
  · have hjl:j=all.length:=by simp only[dh,ay] at h1;omega
    subst hjl
    obtain rfl:l2=(all.take all.length).foldl (je d) l1:=by rw[List.take_length];exact hl2
    repeat' (first
    |refine gK ?_
    | ((first
      |((with_reducible show aa _ _ 141 _ _ _ _);refine aa.dg (news:=[aQ m l.length 4 (.own 173 0 (n1.length+es.length)),aI k1,aI kb,.dead,aT ((all.take all.length).foldl (je d) l1) a 151 b 2,aW (n1++es.map (dO (xG y10 d)))]) [0,151,2,163,4,173] [] t164 Ey ⟨⟨rfl,rfl⟩,rfl,⟨rfl,rfl,rfl,rfl,rfl,rfl,rfl,rfl,rfl,trivial⟩,trivial⟩ ⟨⟨rfl,.inr ⟨⟨⟨⟨rfl,rfl⟩,rfl,⟨rfl,rfl⟩,trivial⟩,trivial⟩,rfl⟩⟩,⟨rfl,.inl ⟨rfl,ae _⟩⟩,⟨rfl,.inl ⟨rfl,ae _⟩⟩,⟨rfl,.inl ⟨rfl,aq _⟩⟩,⟨rfl,bR (fun _=>rfl) (fun _=>rfl)⟩,trivial⟩ rfl ⟨⟨rfl,rfl⟩,rfl⟩ rfl ⟨⟨rfl,.inr ⟨rfl,rfl,rfl⟩⟩,⟨rfl,.inl ⟨rfl,ae _⟩⟩,⟨rfl,.inl ⟨rfl,ae _⟩⟩,⟨rfl,bM rfl rfl (by decide) (by decide)⟩,⟨rfl,.inl ⟨rfl,aq _⟩⟩,trivial⟩ rfl rfl ?_)
      |((with_reducible show aL _ _ _ _);refine dK ?_))<;>with_reducible refine wK ?_)
    |((with_reducible show(_∧_)∧_∧_);(refine eK ?_ ?_<;>with_reducible repeat' (first|exact trivial|(show _∧_;refine aK ?_ ?_)))))
    all_goals first
      |exact⟨.refl (ae _),ae _⟩
      |exact⟨.refl (aq _),aq _⟩
      |exact bt (fun _=>rfl) (fun _=>rfl)
      |(simp;done)
      |trace_state
theorem Dp {l l1:List ai}{m d:Int}{a b n:Nat}{ka kb k1:List Int}{ns n1:List aR}{y:ai}(hl1:l1.length=l.length)(hy:l1[n]? =some y)(hd:y.doc=d)
    (h161:an Tryz.prog 79 [aQ m l.length 4 (.own 3 0 ns.length),aI ka,aI kb,aW ns,aT l a 1 b 2] [.ptr 0 0 0,aj n] [aQ m l.length 4 (.own 6 0 n1.length),.dead,aI kb,.dead,aT l1 a 5 b 2,aI k1,aW n1] (.tup [])):
    an Tryz.prog 139 [aQ m l.length 4 (.own 3 0 ns.length),aI ka,aI kb,aW ns,aT l a 1 b 2] [.ptr 0 0 0,aj n,aj d]
      [aQ m l.length 4 (.own 6 0 n1.length),.dead,aI kb,.dead,aT l1 a 5 b 2,aI k1,aW n1] (.tup []):=by
  have hnl:=(bg hy).1
  obtain⟨q,hq⟩:=ir a 151 b 2 n y
  have g1:(aP l1 a 151 b 2)[n]? =some (AF y q):=by rw[cI hy,hq y rfl]
  have hlr:∀x:List ai,(aP x a 151 b 2).length=x.length:=fun x=>bN
  obtain⟨y1,y2,y3,y4,y5,y6,y7,y8,y9,y10⟩:=y
  dsimp only at g1 hd
  subst hd
  refine an.fA [(5,151)] (rvs:=[]) G au Tryz.func139 rfl Tryz.ntmps139 rfl rfl ?_;with_reducible refine wD ?_
  repeat' (first
    |refine gK ?_
    | ((first
      |((with_reducible show aa _ _ 79 _ _ _ _);refine aa.dg (news:=[aQ m l.length 4 (.own 163 0 n1.length),.dead,aI kb,.dead,aT l1 a 151 b 2,aI k1,aW n1]) [0,1,2,3,4,151,163] [] h161 MY ⟨⟨rfl,rfl⟩,rfl,trivial⟩ ⟨⟨rfl,.inr ⟨⟨⟨⟨rfl,rfl⟩,rfl,⟨rfl,rfl⟩,trivial⟩,trivial⟩,rfl⟩⟩,⟨rfl,.inl ⟨rfl,ae _⟩⟩,⟨rfl,.inl ⟨rfl,ae _⟩⟩,⟨rfl,.inl ⟨rfl,aq _⟩⟩,⟨rfl,bR (fun _=>rfl) (fun _=>rfl)⟩,trivial⟩ rfl ⟨⟨rfl,rfl⟩,rfl⟩ rfl ⟨⟨rfl,.inr ⟨rfl,rfl,rfl⟩⟩,⟨rfl,.inl ⟨rfl,ae _⟩⟩,⟨rfl,bM rfl rfl (by decide) (by decide)⟩,⟨rfl,.inl ⟨rfl,ae _⟩⟩,⟨rfl,.inl ⟨rfl,aq _⟩⟩,trivial⟩ rfl rfl ?_)
      |((with_reducible show eO _ _ _ _ _);refine eO.mk n rfl (by first|exact hnl|omega) ?_)
      |((with_reducible show aZ _ _ _ _ _);refine aZ.mk _ (by first|exact g1|(rw[Nat.zero_add];exact g1)) ?_)
      |((with_reducible show aL _ _ _ _);refine dK ?_))<;>with_reducible refine wK ?_)
    |((with_reducible show(_∧_)∧_∧_);(refine eK ?_ ?_<;>with_reducible repeat' (first|exact trivial|(show _∧_;refine aK ?_ ?_)))))
  all_goals first
    |exact⟨.refl (ae _),ae _⟩
    |exact⟨.refl (aq _),aq _⟩
    |exact bt (fun _=>rfl) (fun _=>rfl)
    |trace_state
theorem Bk (f:ForM)(n:Int)(what:ByteArray)(e:Int)(r:ForM)(ns:List aR)(z:Int)(h77:an Tryz.prog 77 [] [aY f,aj n] [] (.lit (jt what e)))
    (h56:an Tryz.prog 56 [] [aY f,.lit (jt what e),.clo (.func 78) [] [.fptr (aj n) 0]] [] (.tup [aY r,uj ns,aj z])):an Tryz.prog 32 [] [aY f,aj n] [] (.tup [aY r,uj ns,aj z]):=by
  obtain⟨l,m⟩:=f
  obtain⟨l',m'⟩:=r
  refine an.aF (rvs:=[.cell 4 24,.tmp 5,.tmp 6]) G au Tryz.func32 rfl Tryz.ntmps32 rfl rfl ?_;with_reducible refine wD ?_
  repeat' (first
    |refine gK ?_
    | ((first
      |((with_reducible show aa _ _ 77 _ _ _ _);refine aa.lit [] h77 L0 ⟨⟨rfl,rfl,trivial⟩,rfl,trivial⟩ rfl rfl ?_)
      |((with_reducible show aa _ _ 56 _ _ _ _);refine aa.val [30] h56 Lm ⟨⟨rfl,rfl,trivial⟩,⟨rfl,rfl⟩,⟨rfl,trivial,⟨_,_,_,_,_,rfl,rfl,rfl,rfl,rfl,rfl⟩,trivial⟩,trivial⟩ rfl rfl rfl ?_)
      |((with_reducible show aL _ _ _ _);refine dK ?_))<;>with_reducible refine wK ?_)
    |((with_reducible show(_∧_)∧_∧_);(refine eK ?_ ?_<;>with_reducible repeat' (first|exact trivial|(show _∧_;refine aK ?_ ?_)))))
  all_goals first|rfl|trace_state
theorem Bc (f:ForM)(n:Int)(r:ForM)(ns:List aR)(z:Int)(h77:an Tryz.prog 77 [] [aY f,aj n] [] fZ)
    (h56:an Tryz.prog 56 [] [aY f,fZ,.clo (.func 78) [] [.fptr (aj n) 0]] [] (.tup [aY r,uj ns,aj z])):an Tryz.prog 32 [] [aY f,aj n] [] (.tup [aY r,uj ns,aj z]):=by
  obtain⟨l,m⟩:=f
  obtain⟨l',m'⟩:=r
  refine an.aF (rvs:=[.cell 4 24,.tmp 5,.tmp 6]) G au Tryz.func32 rfl Tryz.ntmps32 rfl rfl ?_;with_reducible refine wD ?_
  repeat' (first
    |refine gK ?_
    | ((first
      |((with_reducible show aa _ _ 77 _ _ _ _);refine aa.lit [] h77 L0 ⟨⟨rfl,rfl,trivial⟩,rfl,trivial⟩ rfl rfl ?_)
      |((with_reducible show aa _ _ 56 _ _ _ _);refine aa.val [30] h56 Lm ⟨⟨rfl,rfl,trivial⟩,⟨rfl,rfl⟩,⟨rfl,trivial,⟨_,_,_,_,_,rfl,rfl,rfl,rfl,rfl,rfl⟩,trivial⟩,trivial⟩ rfl rfl rfl ?_)
      |((with_reducible show aL _ _ _ _);refine dK ?_))<;>with_reducible refine wK ?_)
    |((with_reducible show(_∧_)∧_∧_);(refine eK ?_ ?_<;>with_reducible repeat' (first|exact trivial|(show _∧_;refine aK ?_ ?_)))))
  all_goals first|rfl|trace_state
theorem jD (l:List ai)(m:Int)(R:RF l m){n:Int}(hn:af l n=true)(x:aR):sN l n x=(zh ⟨l,m⟩ n).map (dO x):=by
  unfold sN zh MO jy lU dO
  rw[if_pos (by rw[cC.2 R,hn];rfl)]
  simp
theorem JG (l:List ai)(m:Int)(R:RF l m)(hl:l.length≤64)(n:Int)(hn:af l n=true):(lU ⟨l,m⟩ n).length≤1000∧(zh ⟨l,m⟩ n).length≤1000:=by
  have h:(lU ⟨l,m⟩ n).length≤1000:=by
    unfold lU
    rw[if_pos (by rw[cC.2 R,hn];rfl)]
    have:=U.sL R.tree l.length hn
    show(U.bX l l.length n).length≤1000
    omega
  exact⟨h,Nat.le_trans (List.length_filter_le ..) h⟩
theorem KW (f:ForM)(hs:bE f.nodes)(n:Int):an Tryz.prog 32 [] [aY f,aj n] [] (.tup [aY (iz f n).1,uj (iz f n).2.1,aj (iz f n).2.2]):=by
  cases hrt:(aX f&&af f.nodes n) with
  | false=>
    have e:iz f n=(f,[],1):=by unfold iz;rw[hrt];rfl
    rw[e]
    exact Bk f n oA 1 f [] 1 (zb f hs n hrt) (pO f hs 78 _ oA 1)
  | true =>
    simp only[bQ] at hrt
    obtain⟨hr,ht⟩:=hrt
    obtain⟨b,y,rfl,hy,_⟩:=aU.1 ht
    obtain⟨l,m⟩:=f
    have R:RF l m:=cC.1 hr
    have hnd:=cz hy
    by_cases hp:y.parent=-1
    · have e:=tD R ht (by rw[hnd];exact hp)
      rw[e]
      exact Ar ⟨l,m⟩ hs hr b y hy hp
    · have hq:=R.par b ht (by rw[hnd];exact hp)
      rw[hnd] at hq
      have e:=uJ R ht (by rw[hnd];exact hp)
      rw[e]
      obtain⟨a,ya,hpa,ha,_⟩:=aU.1 hq.2.1
      rw[hpa] at hq hp
      have hnda:=cz ha
      have hmem:(b:Int)∈ya.kids:=by
        have:=hq.2.2.2
        rwa [hnda] at this
      have hab:b≠a:=by
        intro e
        have h1:=R.kL ht
        rw[R.gj ht (by rw[hnd,hpa];exact hp),hnd,hpa,e] at h1
        exact h1 rfl
      obtain⟨i,hi,hib,hno,_,_,her⟩:=mq hmem
      have hs64:l.length≤64:=hs.len
      have hkl:ya.kids.length≤60:=hs.kids ya (bT ha)
      have hel:=JG l m R hs64 b ht
      have h35:=GY ⟨l,m⟩ hs b
      rw[show DI ⟨l,m⟩ b=iD l b by unfold DI iD;rw[hr,ht];rfl] at h35
      have h34:=Di ⟨l,m⟩ hs b (by rw[hr,ht];rfl) (by omega)
      have h73:=tW ya.kids (by omega) b
      rw[fO hib (dV rfl) fun j x hj hx=>bY (hno j x hj hx)] at h73
      have h145:=uR (rows:=ya.kids.map bV) (mQ ya.kids) i (i+1) (by omega) (by simp;omega)
      rw[cj,←List.map_take,←List.map_drop,←gY,show i+ (ya.kids.length- (i+1))=(ya.kids.take i++ya.kids.drop (i+1)).length by simp;omega] at h145
      have hto:(if iD l b=true then sN l b (nw 2 0 0) else[])=(if iD l b=true then(zh ⟨l,m⟩ b).map (dO lV) else[]):=by
        rw[jD l m R ht];rfl
      have h79:=J5 (l:=l) (m:=m) (a:=a) (b:=b) (i:=i) (ns:=[]) (told:=if iD l b=true then(zh ⟨l,m⟩ b).map (dO lV) else[]) rfl (by omega) ha (kb:=y.kids) (fun z hz=>by rw[hy] at hz;cases hz;rfl) hy hab rfl hpa hi (by omega) hel.2 (by simp) h35 h34 h73 h145
      have hout:bI l b=(l.set a {ya with kids:=ya.kids.take i++ya.kids.drop (i+1)}).set b {y with parent:=-1}:=by
        unfold bI
        rw[hnd,if_neg (by rw[hpa];exact hp)]
        unfold nS
        rw[hpa,hnda]
        dsimp only
        rw[her,Int.toNat_natCast,Int.toNat_natCast]
        congr 1
        have:nd (l.set a {ya with kids:=ya.kids.take i++ya.kids.drop (i+1)}) b=y:=cz (by rw[List.getElem?_set,if_neg (fun e=>hab e.symm)];exact hy)
        rw[this]
      rw[hto,hout]
      have hlen:((l.set a {ya with kids:=ya.kids.take i++ya.kids.drop (i+1)}).set b {y with parent:=-1}).length=l.length:=by simp
      generalize(if iD l b=true then(zh ⟨l,m⟩ b).map (dO lV) else[])=told at h79 ⊢
      have hA:∀z,((l.set a {ya with kids:=ya.kids.take i++ya.kids.drop (i+1)}).set b {y with parent:=-1})[a]? =some z→z.kids=ya.kids.take i++ya.kids.drop (i+1):=fun z hz=>by
        rw[List.getElem?_set,if_neg hab,List.getElem?_set,if_pos rfl,if_pos (bg ha).1] at hz
        cases hz;rfl
      have hB:∀z,((l.set a {ya with kids:=ya.kids.take i++ya.kids.drop (i+1)}).set b {y with parent:=-1})[b]? =some z→z.kids=y.kids:=fun z hz=>by
        rw[List.getElem?_set,if_pos rfl,if_pos (by rw[List.length_set];exact(bg hy).1)] at hz
        cases hz;rfl
      exact Bc ⟨l,m⟩ b _ _ 0 (nM ⟨l,m⟩ hs b (by rw[hr,ht];rfl))
        (Lj ⟨l,m⟩ hs (fun e=>hab e.symm) ha hy 78 Oe [.fptr (aj b) 0] rfl _ _ told hlen hA hB
          (yJ (show l.length≤1000 by omega) hy (by rw[hpa];exact hp) hlen h79 hab))
@[reducible] def kG : aR := ⟨1, 0, 0, 0, ByteArray.empty, false, false, ByteArray.empty, ByteArray.empty⟩
section
variable {l : List ai} {a b ta tb i : Nat}
theorem rU {tb':Nat}(y':ai)(hb:b<l.length)(hab:b≠a):(aP l a ta b tb).set b (dF y' tb')=aP (l.set b y') a ta b tb':=by
  apply List.ext_getElem?
  intro j
  unfold aP
  rw[List.getElem?_set,List.getElem?_mapIdx,List.getElem?_mapIdx,List.getElem?_set,List.length_mapIdx]
  by_cases e:b=j
  · subst e
    rw[if_pos rfl,if_pos rfl,if_pos hb,if_pos hb]
    show _=some (ei a ta b tb' b y')
    unfold ei
    rw[if_neg hab,if_pos rfl]
  · rw [if_neg e,if_neg e]
    cases h:l[j]? with
    |none=>rfl
    | some z=>
      show some (ei a ta b tb j z)=some (ei a ta b tb' j z)
      unfold ei
      rw[if_neg (show ¬j=b from fun q=>e q.symm),if_neg (show ¬j=b from fun q=>e q.symm)]
end
def Bp (m:Int)(L a b:Nat)(before:Int)(l:List ai)(ns:List aR)(ka kb:List Int)(k':Int)(l':List ai)(ns':List aR)(ka' kb':List Int):Prop:=
  ∃ (k:Nat),k'=(k:Int)∧∃ (y0 y1 yk:ai) (l1:List ai) (n1:List aR) (k1:List Int) (i:Nat) (conn:Bool) (es ex:List Int),
    l.length=L∧l1.length=L∧l[b]? =some y0∧
    an Tryz.prog 139 [aQ m L 4 (.own 3 0 ns.length),aI ka,aI kb,aW ns,aT l a 1 b 2] [.ptr 0 0 0,aj k,aj y0.doc] [aQ m L 4 (.own 6 0 n1.length),.dead,aI kb,.dead,aT l1 a 5 b 2,aI k1,aW n1] (.tup [])∧
    l1[b]? =some y1∧l1[k]? =some yk∧kb=y1.kids∧i≤y1.kids.length∧(before=-1→i=y1.kids.length)∧(before≠-1→an Tryz.prog 73 [] [cF y1.kids,aj before] [] (aj i))∧y1.kids.length≤1000∧
    l'=(l1.set b {y1 with kids:=y1.kids.take i++ [(k:Int)]++y1.kids.drop i}).set k {yk with parent:=(b:Int)}∧(k≠b∧k≠a)∧(∀y,l'[a]? =some y→y.kids=ka')∧(∀y,l'[b]? =some y→y.kids=kb')∧
    ka'=k1∧kb'=y1.kids.take i++ [(k:Int)]++y1.kids.drop i∧
    an Tryz.prog 35 [] [aY ⟨l',m⟩,aj k] [] (bB conn)∧an Tryz.prog 34 [] [aY ⟨l',m⟩,aj k] [aI (es++ex)] (.own 0 0 es.length)∧
    ns'=n1++ (if conn=true then es.map (dO kG) else[])∧n1.length≤100000∧es.length≤1000
def Gb (m:Int)(L a b:Nat)(before:Int)(l:List ai)(ns:List aR)(ka kb:List Int)(k':Int)(l':List ai)(ns':List aR)(ka' kb':List Int):Prop:=
  ∃ (k:Nat),k'=(k:Int)∧∃ (y0 y1 yk:ai) (l1:List ai) (n1:List aR) (k1:List Int) (i:Nat) (conn:Bool) (es ex:List Int),
    l.length=L∧l1.length=L∧l[a]? =some y0∧
    an Tryz.prog 139 [aQ m L 4 (.own 3 0 ns.length),aI ka,aI kb,aW ns,aT l a 1 b 2] [.ptr 0 0 0,aj k,aj y0.doc] [aQ m L 4 (.own 6 0 n1.length),.dead,aI kb,.dead,aT l1 a 5 b 2,aI k1,aW n1] (.tup [])∧
    l1[a]? =some y1∧l1[k]? =some yk∧k1=y1.kids∧i≤y1.kids.length∧(before=-1→i=y1.kids.length)∧(before≠-1→an Tryz.prog 73 [] [cF y1.kids,aj before] [] (aj i))∧y1.kids.length≤1000∧
    l'=(l1.set a {y1 with kids:=y1.kids.take i++ [(k:Int)]++y1.kids.drop i}).set k {yk with parent:=(a:Int)}∧k=b∧(∀y,l'[a]? =some y→y.kids=ka')∧(∀y,l'[b]? =some y→y.kids=kb')∧
    ka'=y1.kids.take i++ [(k:Int)]++y1.kids.drop i∧kb'=kb∧
    an Tryz.prog 35 [] [aY ⟨l',m⟩,aj k] [] (bB conn)∧an Tryz.prog 34 [] [aY ⟨l',m⟩,aj k] [aI (es++ex)] (.own 0 0 es.length)∧
    ns'=n1++ (if conn=true then es.map (dO kG) else[])∧n1.length≤100000∧es.length≤1000
end Go.Proofs.Heir
namespace Go.Proofs.Heir
open Go Go.Am Go.RowKit Go.Lib
set_option maxRecDepth 100000
set_option maxHeartbeats 8000000
set_option maxHeartbeats 4000000
section
variable {l : List ai} {m : Int}
theorem gM {k:Nat}(h:k<l.length):af l (k:Int)=true:=by unfold af;rw[dV (by omega:(0:Int)≤k),dV (by omega:(k:Int)<l.length)];rfl
theorem di {k:Nat}(h:af l (k:Int)=true):k<l.length:=by
  unfold af at h
  simp only[bQ,bO] at h;omega
theorem c9 {k:Nat}(h:k<l.length):l[k]? =some (nd l k):=by
  obtain⟨y,hy⟩:∃y,l[k]? =some y:=⟨_,bz h⟩
  rw[cz hy];exact hy
theorem dB {k:Nat}:∀y,l[k]? =some y→y.kids=(nd l k).kids:=fun y hy=>by rw[cz hy]
theorem jL (R:RF l m)(h60:l.length≤60){n:Int}(hn:af l n=true):(lU ⟨l,m⟩ n).length≤60∧(zh ⟨l,m⟩ n).length≤60:=by
  have h:(lU ⟨l,m⟩ n).length≤60:=by
    unfold lU
    rw[if_pos (by rw[cC.2 R,hn];rfl)]
    have:=U.sL R.tree l.length hn
    show(U.bX l l.length n).length≤60
    omega
  exact⟨h,Nat.le_trans (List.length_filter_le ..) h⟩
theorem Ge (R:RF l m)(h60:l.length≤60){n:Int}(hn:af l n=true):an Tryz.prog 35 [] [aY ⟨l,m⟩,aj n] [] (bB (iD l n)):=by
  have:=GY ⟨l,m⟩ (fg R h60) n
  rwa [show DI ⟨l,m⟩ n=iD l n by unfold DI iD;rw[cC.2 R,hn];rfl] at this
theorem A3 (R:RF l m)(h60:l.length≤60){n:Int}(hn:af l n=true):an Tryz.prog 34 [] [aY ⟨l,m⟩,aj n] [aI (zh ⟨l,m⟩ n++NC ⟨l,m⟩ n)] (.own 0 0 (zh ⟨l,m⟩ n).length):=
  Di ⟨l,m⟩ (fg R h60) n (by rw[cC.2 R,hn];rfl) (by have:=(jL R h60 hn).1;omega)
theorem FP (R:RF l m)(h60:l.length≤60){a b k:Nat}(hab:b≠a)(ha:a<l.length)(hb:b<l.length)(hk:k<l.length){ns:List aR}(hns:ns.length≤90000)(h:(nd l k).parent=-1∨(nd l k).parent=(a:Int)):
    an Tryz.prog 79 [aQ m l.length 4 (.own 3 0 ns.length),aI (nd l a).kids,aI (nd l b).kids,aW ns,aT l a 1 b 2] [.ptr 0 0 0,aj k]
      [aQ m l.length 4 (.own 6 0 (dA (l,ns) k).2.length),.dead,aI (nd l b).kids,.dead,aT (bI l k) a 5 b 2,aI (nd (bI l k) a).kids,aW (dA (l,ns) k).2] (.tup []):=by
  have hy:=c9 hk
  by_cases hp:(nd l k).parent=-1
  · have e1:bI l k=l:=by unfold bI;rw[if_pos hp]
    have e2:dA (l,ns) k=(l,ns):=by unfold dA;rw[if_pos hp]
    rw[e1,e2]
    obtain⟨q,hq⟩:=ir a 1 b 2 k (nd l k)
    exact EE hy ⟨q,hq _ rfl⟩ hp
  · have hpa:=h.resolve_left hp
    have ht:=gM hk
    have hq:=R.par k ht hp
    rw[hpa] at hq
    have hmem:(k:Int)∈ (nd l a).kids:=hq.2.2.2
    have hka:k≠a:=fun e=>by
      have h1:=R.kL ht
      rw[R.gj ht hp,hpa,e] at h1
      exact h1 rfl
    obtain⟨i,hi,hib,hno,_,_,her⟩:=mq hmem
    have hs:=fg R h60
    have hkl:(nd l a).kids.length≤60:=hs.kids _ (bT (c9 ha))
    have hel:=jL R h60 ht
    have h35:=Ge R h60 ht
    have h34:=A3 R h60 ht
    have h73:=tW (nd l a).kids (by omega) k
    rw[fO hib (dV rfl) fun j x hj hx=>bY (hno j x hj hx)] at h73
    have h145:=uR (rows:=(nd l a).kids.map bV) (mQ (nd l a).kids) i (i+1) (by omega) (by simp;omega)
    rw[cj,←List.map_take,←List.map_drop,←gY,show i+ ((nd l a).kids.length- (i+1))=((nd l a).kids.take i++ (nd l a).kids.drop (i+1)).length by simp;omega] at h145
    have hto:dA (l,ns) k=(bI l k,ns++if iD l k=true then(zh ⟨l,m⟩ k).map (dO lV) else[]):=by
      unfold dA
      rw[if_neg hp]
      simp only
      rw[jD l m R ht];rfl
    have hout:bI l k=(l.set a {nd l a with kids:=(nd l a).kids.take i++ (nd l a).kids.drop (i+1)}).set k {nd l k with parent:=-1}:=by
      unfold bI
      rw[if_neg hp]
      unfold nS
      rw[hpa]
      dsimp only
      rw[her,Int.toNat_natCast,Int.toNat_natCast]
      congr 1
      have:nd (l.set a {nd l a with kids:=(nd l a).kids.take i++ (nd l a).kids.drop (i+1)}) k=nd l k:=cz (by rw[List.getElem?_set,if_neg (fun e=>hka e.symm)];exact hy)
      rw[this]
    have hA:(nd (bI l k) a).kids=(nd l a).kids.take i++ (nd l a).kids.drop (i+1):=by
      have:(bI l k)[a]? =some {nd l a with kids:=(nd l a).kids.take i++ (nd l a).kids.drop (i+1)}:=by
        rw[hout,List.getElem?_set,if_neg hka,List.getElem?_set,if_pos rfl,if_pos ha]
      rw[cz this]
    rw[hA,hto,hout]
    by_cases hkb:k=b
    · subst hkb
      exact J5 rfl (by omega) (c9 ha) dB hy hka rfl hpa hi (by omega) (by omega) (by omega) h35 h34 h73 h145
    ·exact Ma rfl (by omega) (c9 ha) dB hy hka hkb rfl hpa hi (by omega) (by omega) (by omega) h35 h34 h73 h145
theorem xw (R:RF l m)(h60:l.length≤60){k:Nat}(hk:k<l.length)(ns:List aR):(dA (l,ns) k).2.length≤ns.length+60:=by
  unfold dA
  split
  ·simp
  · simp only
    rw[jD l m R (gM hk)]
    have:=(jL R h60 (gM hk)).2
    split<;>simp<;>omega
theorem I9 (d:Int)(l:List ai)(k:Nat)(h:k<l.length):je d l k=nS l k fun x=>{x with doc:=d}:=by
  unfold je nS
  rw[c9 h,Int.toNat_natCast]
theorem zy (d:Int):∀ (ks:List Nat) (l:List ai),(∀k∈ks,k<l.length)→ks.foldl (je d) l=rA l (BV ks) d
  |[],_,_=>rfl
  | k::ks,l,h=>by
    have hk:=h k dJ
    show ks.foldl (je d) (je d l k)=rA (nS l k fun x=>{x with doc:=d}) (BV ks) d
    rw[zy d ks (je d l k) (fun j hj=>by rw[Ah];exact h j (c7 _ hj)),I9 d l k hk]
theorem II {cs:List Int}(h:∀c∈cs,0≤c):BV (cs.map Int.toNat)=cs:=by
  unfold BV
  rw[List.map_map]
  conv=>rhs;rw[←List.map_id cs]
  exact List.map_congr_left fun c hc=>by
    have:=h c hc
    show((c.toNat:Nat):Int)=c
    omega
theorem Co (R:RF l m)(h60:l.length≤60){a b k:Nat}(hab:b≠a)(ha:a<l.length)(hb:b<l.length)(hk:k<l.length){ns:List aR}(hns:ns.length≤80000)(h:(nd l k).parent=-1∨(nd l k).parent=(a:Int))(hkk:(nd l k).kind=1∨(nd l k).kind=2){d:Int}(hd:jY l d 0=true):
    an Tryz.prog 139 [aQ m l.length 4 (.own 3 0 ns.length),aI (nd l a).kids,aI (nd l b).kids,aW ns,aT l a 1 b 2] [.ptr 0 0 0,aj k,aj d]
      [aQ m l.length 4 (.own 6 0 (jQ (l,ns) k d).2.length),.dead,aI (nd l b).kids,.dead,aT (cB l k d) a 5 b 2,aI (nd (cB l k d) a).kids,aW (jQ (l,ns) k d).2] (.tup []):=by
  have h79:=FP R h60 hab ha hb hk (by omega:ns.length≤90000) h
  have ht:=gM hk
  have R1:=fm R ht
  have T:=bf (dS l k)
  have hl1:=dS l (k:Int)
  have ht1:af (bI l k) k=true:=by rw[T];exact ht
  have hk1:k< (bI l k).length:=by rw[hl1];exact hk
  have hf:=mH (l,ns) (k:Int)
  have hol:=xw R h60 hk ns
  by_cases e:(nd (bI l k) k).doc=d
  · have e1:cB l k d=bI l k:=by unfold cB;rw[if_pos e]
    have e2:jQ (l,ns) k d=dA (l,ns) k:=by unfold jQ;rw[hf,if_pos e]
    rw[e1,e2]
    exact Dp hl1 (c9 hk1) e h79
  · have R2:=kX R ht hkk hd
    have e1:cB l k d=rA (bI l k) (U.bX (bI l k) (bI l k).length k) d:=by unfold cB;rw[if_neg e]
    have ht2:af (cB l k d) k=true:=by rw[bf (eY l k d)];exact ht
    have e2:(jQ (l,ns) k d).2=(dA (l,ns) k).2++ (zh ⟨cB l k d,m⟩ k).map (dO (xG (nd (bI l k) k).doc d)):=by
      unfold jQ
      rw[hf,if_neg e]
      simp only
      rw[jD _ m R2 ht2];rfl
    have h82:=C6 ⟨bI l k,m⟩ (fg R1 (by rw[hl1];exact h60)) k (by rw[cC.2 R1,ht1];rfl)
    have hall:lU ⟨bI l k,m⟩ k=U.bX (bI l k) (bI l k).length k:=by unfold lU;rw[if_pos (by rw[cC.2 R1,ht1];rfl)]
    have hpos:∀c∈U.bX (bI l k) (bI l k).length k,af (bI l k) c=true:=fun c hc=>sY (f:=⟨bI l k,m⟩) (n:=k) c (by rw[hall];exact hc)
    have hti:BV ((U.bX (bI l k) (bI l k).length k).map Int.toNat)=U.bX (bI l k) (bI l k).length k:=II fun c hc=>(aV (hpos c hc)).1
    have hlt:∀j∈ (U.bX (bI l k) (bI l k).length k).map Int.toNat,j< (bI l k).length:=fun j hj=>by
      obtain⟨c,hc,rfl⟩:=List.mem_map.1 hj
      obtain⟨i,_,rfl,hi,_⟩:=aU.1 (hpos c hc)
      rw[Int.toNat_natCast];exact(bg hi).1
    have hlen:=(jL R1 (by rw[hl1];exact h60) ht1).1
    rw[hall] at h82 hlen
    have hL2:cB l k d=((U.bX (bI l k) (bI l k).length k).map Int.toNat).foldl (je d) (bI l k):=by rw[zy d _ _ hlt,hti,e1]
    have h34:=A3 R2 (by rw[eY];exact h60) ht2
    have hel:=(jL R2 (by rw[eY];exact h60) ht2).2
    have hkb1:(nd (bI l k) b).kids=(nd l b).kids:=by
      rw[(gN R ht b (gM hb)).2.2.2]
      split
      · rename_i hpb
        rcases h with h|h
        ·rw[h] at hpb;omega
        ·rw[h] at hpb;omega
      ·rfl
    have hka2:(nd (cB l k d) a).kids=(nd (bI l k) a).kids:=by
      rw[e1]
      exact(tH hpos a (by rw[T];exact gM ha)).2.2.2
    rw[e2,hka2,jH,cj]
    exact La hl1 (c9 hk1) e hlt (by rw[cj];omega) hL2 dB (fun y hy=>by rw[dB y hy,hkb1]) (by omega) (by omega) h79 (by rw[hti];exact h82) h34
theorem yw (R:RF l m)(h60:l.length≤60){k:Nat}(hk:k<l.length)(hkk:(nd l k).kind=1∨(nd l k).kind=2){d:Int}(hd:jY l d 0=true)(ns:List aR):(jQ (l,ns) k d).2.length≤ns.length+120:=by
  have h1:=xw R h60 hk ns
  have ht:=gM hk
  unfold jQ
  split
  ·omega
  · simp only
    have R2:=kX R ht hkk hd
    have ht2:af (cB l k d) k=true:=by rw[bf (eY l k d)];exact ht
    rw[jD _ m R2 ht2,jH,cj]
    have:=(jL R2 (by rw[eY];exact h60) ht2).2
    omega
end
section
variable {l : List ai} {m : Int}
theorem GO (R:RF l m)(h60:l.length≤60){k:Nat}{p before:Int}(C:fu l k p before)(hd:jY l (nd l p).doc 0=true)(ns:List aR):(cK p before (l,ns) k).2.length≤ns.length+180:=by
  have h1:=yw R h60 (di C.tk) C.kk hd ns
  have R':=ig R C
  have ht:af (cA l k p before) k=true:=by rw[bf (fj l k p before)];exact C.tk
  unfold cK
  simp only
  rw[jH,jD _ m R' ht]
  have:=(jL R' (by rw[fj];exact h60) ht).2
  split<;>simp<;>omega
theorem rV (R:RF l m)(h60:l.length≤60){k t:Nat}{before:Int}(C:fu l k t before)(hd:jY l (nd l t).doc 0=true)(ns:List aR)(hns:ns.length≤70000):
    ∃ (i:Nat) (conn:Bool) (es ex:List Int),i≤ (nd (cB l k (nd l t).doc) t).kids.length∧(before=-1→i=(nd (cB l k (nd l t).doc) t).kids.length)∧
      (before≠-1→an Tryz.prog 73 [] [cF (nd (cB l k (nd l t).doc) t).kids,aj before] [] (aj i))∧(nd (cB l k (nd l t).doc) t).kids.length≤1000∧
      cA l k t before=((cB l k (nd l t).doc).set t {nd (cB l k (nd l t).doc) t with kids:=(nd (cB l k (nd l t).doc) t).kids.take i++ [(k:Int)]++ (nd (cB l k (nd l t).doc) t).kids.drop i}).set k {nd (cB l k (nd l t).doc) k with parent:=(t:Int)}∧
      (nd (cA l k t before) t).kids=(nd (cB l k (nd l t).doc) t).kids.take i++ [(k:Int)]++ (nd (cB l k (nd l t).doc) t).kids.drop i∧
      an Tryz.prog 35 [] [aY ⟨cA l k t before,m⟩,aj k] [] (bB conn)∧an Tryz.prog 34 [] [aY ⟨cA l k t before,m⟩,aj k] [aI (es++ex)] (.own 0 0 es.length)∧
      (cK t before (l,ns) k).2=(jQ (l,ns) k (nd l t).doc).2++ (if conn=true then es.map (dO kG) else[])∧(jQ (l,ns) k (nd l t).doc).2.length≤100000∧es.length≤1000:=by
  have hk:=di C.tk
  have ht:=di C.tp
  have hne:(k:Int)≠ (t:Int):=fun e=>C.w (by rw[e];exact U.cV R.tree C.tp)
  have hne':k≠t:=fun e=>hne (by rw[e])
  have hol:=yw R h60 hk C.kk hd ns
  have R1:=kX R C.tk C.kk hd
  have R':=ig R C
  have htk:af (cA l k t before) k=true:=by rw[bf (fj l k t before)];exact C.tk
  have hkids:=qW R (d:=(nd l t).doc) C.tk C.kk C.tp
  obtain⟨l1,hl1⟩:∃l1,cB l k (nd l t).doc=l1:=⟨_,rfl⟩
  have hlen:l1.length=l.length:=by rw[←hl1];exact eY ..
  have hst:cA l k t before=gB l1 k t before:=by unfold cA;rw[hl1]
  rw[hl1] at R1 hkids ⊢
  have hs1:=fg R1 (by omega)
  have hkl:(nd l1 t).kids.length≤60:=hs1.kids _ (bT (c9 (by omega)))
  have hfin:∀i:Nat,oF (nd l1 t).kids before k=(nd l1 t).kids.take i++ (k:Int)::(nd l1 t).kids.drop i→cA l k t before=(l1.set t {nd l1 t with kids:=(nd l1 t).kids.take i++ [(k:Int)]++ (nd l1 t).kids.drop i}).set k {nd l1 k with parent:=(t:Int)}:=fun i hi=>by
    rw[hst]
    unfold gB nS
    rw[Int.toNat_natCast,Int.toNat_natCast]
    dsimp only
    rw[hi,List.append_assoc,List.singleton_append]
    congr 1
    have:nd (l1.set t {nd l1 t with kids:=(nd l1 t).kids.take i++ (k:Int)::(nd l1 t).kids.drop i}) k=nd l1 k:=cz (by rw[List.getElem?_set,if_neg (fun e=>hne' e.symm)];exact c9 (by omega))
    rw[this]
  have hfk:∀i:Nat,oF (nd l1 t).kids before k=(nd l1 t).kids.take i++ (k:Int)::(nd l1 t).kids.drop i→(nd (cA l k t before) t).kids=(nd l1 t).kids.take i++ [(k:Int)]++ (nd l1 t).kids.drop i:=fun i hi=>by
    have:(cA l k t before)[t]? =some {nd l1 t with kids:=(nd l1 t).kids.take i++ [(k:Int)]++ (nd l1 t).kids.drop i}:=by
      rw[hfin i hi,List.getElem?_set,if_neg hne',List.getElem?_set,if_pos rfl,if_pos (by omega)]
    rw[cz this]
  have hcon:=Ge R' (by rw[fj];exact h60) htk
  have hels:=A3 R' (by rw[fj];exact h60) htk
  have hel:=(jL R' (by rw[fj];exact h60) htk).2
  have htold:(cK t before (l,ns) k).2=(jQ (l,ns) k (nd l t).doc).2++ (if iD (cA l k t before) k=true then(zh ⟨cA l k t before,m⟩ k).map (dO kG) else[]):=by
    unfold cK
    simp only
    rw[jD _ m R' htk];rfl
  by_cases hb:before=-1
  · subst hb
    have hi:oF (nd l1 t).kids (-1) k=(nd l1 t).kids.take (nd l1 t).kids.length++ (k:Int)::(nd l1 t).kids.drop (nd l1 t).kids.length:=by
      rw[It,List.take_length,List.drop_length]
    exact⟨_,_,_,_,Nat.le_refl _,fun _=>rfl,fun h=>absurd rfl h,by omega,hfin _ hi,hfk _ hi,hcon,hels,htold,by omega,by omega⟩
  · have hmem:before∈ (nd l1 t).kids:=by
      rw[hkids]
      have:=C.ab.resolve_left hb
      exact(List.mem_erase_of_ne this.1).2 this.2
    obtain⟨i,hi,hib,hno,h4,h5,_⟩:=mq hmem
    have h73:=tW (nd l1 t).kids (by omega) before
    rw[fO hib (dV rfl) fun j x hj hx=>bY (hno j x hj hx)] at h73
    have hii:=Kn (k:=(k:Int)) hb h4 h5
    exact⟨i,_,_,_,by omega,fun h=>absurd h hb,fun _=>h73,by omega,hfin _ hii,hfk _ hii,hcon,hels,htold,by omega,by omega⟩
theorem lX (R:RF l m){k t x:Nat}{before:Int}(C:fu l k t before)(hx:x<l.length)(hxt:x≠t)(d:Int)(hd:d=(nd l t).doc):(nd (cA l k t before) x).kids=(nd (cB l k d) x).kids:=by
  subst hd
  have h1:=(fU R C x (gM hx)).2.2.1
  have h2:=(ij R (d:=(nd l t).doc) C.tk C.kk x (gM hx)).2.2.1
  rw[h1,h2,if_neg (by omega)]
theorem Ck (R:RF l m)(h60:l.length≤60){a b k:Nat}{before:Int}(hab:b≠a)(ha:a<l.length)(C:fu l k b before)(hd:jY l (nd l b).doc 0=true)(hka:k≠a)(h:(nd l k).parent=-1∨(nd l k).parent=(a:Int)){ns:List aR}(hns:ns.length≤70000):
    Bp m l.length a b before l ns (nd l a).kids (nd l b).kids k (cA l k b before) (cK b before (l,ns) k).2 (nd (cA l k b before) a).kids (nd (cA l k b before) b).kids:=by
  have hb:=di C.tp
  have hk:=di C.tk
  have hkb:k≠b:=fun e=>C.w (by rw[e];exact U.cV R.tree C.tp)
  obtain⟨i,conn,es,ex,e1,e2,e3,e4,e5,e6,e7,e8,e9,e10,e11⟩:=rV R h60 C hd ns hns
  have hov:=Co R h60 hab ha hb hk (by omega:ns.length≤80000) h C.kk hd
  have hl:=eY l k (nd l b).doc
  have hkk:(nd (cB l k (nd l b).doc) b).kids=(nd l b).kids:=by
    rw[(ij R (d:=(nd l b).doc) C.tk C.kk b C.tp).2.2.1]
    split
    · rename_i hpb
      rcases h with h|h
      ·rw[h] at hpb;omega
      ·rw[h] at hpb;omega
    ·rfl
  exact⟨k,rfl,nd l b,nd (cB l k (nd l b).doc) b,nd (cB l k (nd l b).doc) k,cB l k (nd l b).doc,(jQ (l,ns) k (nd l b).doc).2,(nd (cB l k (nd l b).doc) a).kids,i,conn,es,ex,
    rfl,hl,c9 hb,hov,c9 (by omega),c9 (by omega),hkk.symm,e1,e2,e3,e4,e5,⟨hkb,hka⟩,dB,dB,lX R C ha (fun e=>hab e.symm) _ rfl,e6,e7,e8,e9,e10,e11⟩
theorem JT (R:RF l m)(h60:l.length≤60){a b:Nat}{before:Int}(hab:b≠a)(C:fu l b a before)(hd:jY l (nd l a).doc 0=true)(h:(nd l b).parent=-1∨(nd l b).parent=(a:Int)){ns:List aR}(hns:ns.length≤70000):
    Gb m l.length a b before l ns (nd l a).kids (nd l b).kids b (cA l b a before) (cK a before (l,ns) b).2 (nd (cA l b a before) a).kids (nd (cA l b a before) b).kids:=by
  have ha:=di C.tp
  have hb:=di C.tk
  obtain⟨i,conn,es,ex,e1,e2,e3,e4,e5,e6,e7,e8,e9,e10,e11⟩:=rV R h60 C hd ns hns
  have hov:=Co R h60 hab ha hb hb (by omega:ns.length≤80000) h C.kk hd
  have hl:=eY l b (nd l a).doc
  have hkk:(nd (cA l b a before) b).kids=(nd l b).kids:=by
    rw[lX R C hb hab _ rfl,(ij R (d:=(nd l a).doc) C.tk C.kk b C.tk).2.2.1]
    split
    · rename_i hpb
      rcases h with h|h
      ·rw[h] at hpb;omega
      ·rw[h] at hpb;omega
    ·rfl
  exact⟨b,rfl,nd l a,nd (cB l b (nd l a).doc) a,nd (cB l b (nd l a).doc) b,cB l b (nd l a).doc,(jQ (l,ns) b (nd l a).doc).2,(nd (cB l b (nd l a).doc) a).kids,i,conn,es,ex,
    rfl,hl,c9 ha,hov,c9 (by omega),c9 (by omega),rfl,e1,e2,e3,e4,e5,rfl,dB,dB,e6,hkk,e7,e8,e9,e10,e11⟩
end
end Go.Proofs.Heir
namespace Go.Proofs.Heir
open Go Go.Am Go.RowKit Go.Lib
set_option maxRecDepth 100000
set_option maxHeartbeats 8000000
theorem Mx {m:Int}{L a b n:Nat}{before:Int}{parts:List Int}{ls:Nat→List ai}{nss:Nat→List aR}{kas kbs:Nat→List Int}{yn:ai}(hab:b≠a)(hpl:parts.length≤1000)(hl0:(ls 0).length=L)(hn:(ls 0)[n]? =some yn)(hkind:yn.kind≠3)
    (hka0:∀y,(ls 0)[a]? =some y→y.kids=kas 0) (hkb0:∀y,(ls 0)[b]? =some y→y.kids=kbs 0)
    (h27:an Tryz.prog 27 [] [aY ⟨ls 0,m⟩,aj n] [aI parts] (.own 0 0 parts.length))
    (hr:∀j k,parts[j]? =some k→Gb m L a b before (ls j) (nss j) (kas j) (kbs j) k (ls (j+1)) (nss (j+1)) (kas (j+1)) (kbs (j+1))):
    an Tryz.prog 75 [aQ m L 4 (.own 3 0 (nss 0).length),aI (kas 0),aI (kbs 0),aW (nss 0),aT (ls 0) a 1 b 2] [.ptr 0 0 0,aj n,aj a,aj before]
      [aQ m L 4 (.own 7 0 (nss parts.length).length),.dead,.dead,.dead,aT (ls parts.length) a 5 b 6,aI (kas parts.length),aI (kbs parts.length),aW (nss parts.length)] (.tup []):=by
  have hnl:=(bg hn).1
  have t27:=mF (m:=m) (ex:=[]) (rest:=[aj n]) hka0 hkb0 (by rw[List.append_nil];exact h27) rfl
  rw[List.append_nil] at t27
  rw[hl0] at t27
  obtain⟨q,hq⟩:=ir a 1 b 2 n yn
  have g0:(aP (ls 0) a 1 b 2)[n]? =some (AF yn q):=by rw[cI hn,hq yn rfl]
  have hgp:∀ (j:Nat) (k:Int),parts[j]? =some k→(parts.map bV)[j]? =some (aj k):=fun j k h=>mY h
  have fk:=eq_false hkind
  obtain⟨x1,x2,x3,x4,x5,x6,x7,x8,x9,x10⟩:=yn
  dsimp only at g0 fk hkind
  refine an.fA [(5,201),(6,202),(7,203)] (rvs:=[]) G au Tryz.func75 rfl Tryz.ntmps75 rfl rfl ?_;with_reducible refine wD ?_
  (have fct:=fk;(repeat' (first
    |refine gF ?_
    | ((first
      |((with_reducible show eO _ _ _ _ _);refine eO.mk n rfl (by first|exact hnl|omega) ?_)
      |((with_reducible show aZ _ _ _ _ _);refine aZ.mk _ (by first|exact g0|(rw[Nat.zero_add];exact g0)) ?_)
      |((with_reducible show aa _ _ 27 _ _ _ _);refine aa.dg (news:=[aT (ls 0) a 1 b 2,aI (kas 0),aI (kbs 0),aI parts]) [4,1,2,191] [] t27 NW ⟨⟨⟨rfl,rfl⟩,rfl,trivial⟩,rfl,trivial⟩ ⟨⟨rfl,bR (fun _=>rfl) (fun _=>rfl)⟩,⟨rfl,.inl ⟨rfl,ae _⟩⟩,⟨rfl,.inl ⟨rfl,ae _⟩⟩,trivial⟩ rfl ⟨⟨rfl,rfl⟩,rfl⟩ rfl ⟨⟨rfl,bM rfl rfl (by decide) (by decide)⟩,⟨rfl,.inl ⟨rfl,ae _⟩⟩,⟨rfl,.inl ⟨rfl,ae _⟩⟩,⟨rfl,.inl ⟨rfl,ae _⟩⟩,trivial⟩ rfl rfl ?_)
      |((with_reducible show aL _ _ _ _);refine dK ?_))<;>with_reducible refine wK ?_)
    |((with_reducible show(_∧_)∧_∧_);(refine eK ?_ ?_<;>with_reducible repeat' (first|exact trivial|(show _∧_;refine aK ?_ ?_))))));all_goals clear fct)
  refine cn.G6 G au (fun(j:Nat)=>[(0,.ptr 0 0 0),(2,aj a),(3,aj before),(40,.own 191 0 parts.length),(41,aj parts.length),(42,aj j)])
    (fun j=>[(0,aQ m L 4 (.own 203 0 (nss j).length)),(1,.dead),(2,.dead),(3,.dead),(4,aT (ls j) a 201 b 202),(201,aI (kas j)),(202,aI (kbs j)),(203,aW (nss j)),(191,aI parts)])
    (fun j=>j≤parts.length) (fun j=>parts.length-j) 0 [(201,1),(202,2),(203,3)] (Nat.zero_le _) ?_ ?_
  · (refine fK ?_;(with_reducible repeat' (first|exact trivial|(show _∧_;refine aK ?_ ?_)));(all_goals try rfl))
    all_goals first
      |exact⟨.refl (ae _),ae _⟩
      |exact⟨.refl (aq _),aq _⟩
      |exact bt (fun _=>rfl) (fun _=>rfl)
      |trace_state
  intro j hj
  with_reducible refine wK ?_
  refine bk.mk (fun h1=>?_) (fun h1=>?_)<;>(try simp only[ay] at h1)<;>with_reducible refine wK ?_
  · have hjl:j<parts.length:=by simp only[bO,ay] at h1;omega
    obtain⟨k0,hk0⟩:∃k,parts[j]? =some k:=⟨_,bz hjl⟩
    have R:=hr j k0 hk0
    have hgk:=hgp _ _ hk0
    obtain⟨l',hl'⟩:∃x,ls (j+1)=x:=⟨_,rfl⟩
    obtain⟨ns',hn'⟩:∃x,nss (j+1)=x:=⟨_,rfl⟩
    obtain⟨ka',hka'⟩:∃x,kas (j+1)=x:=⟨_,rfl⟩
    obtain⟨kb',hkb'⟩:∃x,kbs (j+1)=x:=⟨_,rfl⟩
    rw[hl',hn',hka',hkb'] at R
    obtain⟨k,hkk,y0,y1,yk,l1,n1,k1,i,conn,es,ex,R⟩:=R
    subst hkk
    generalize ls j=l at*
    generalize nss j=ns at*
    generalize kas j=ka at*
    generalize kbs j=kb at*
    obtain⟨rl,rl1,r0,rover,r1,rk,rkids,ri,rend,ridx,rsm,rnxt,rne,rka,rkb,rca,rcb,rcon,rels,rtold,rn1,res⟩:=R
    have hbl:=(bg r0).1
    have hbl1:=(bg r1).1
    have hkl1:=(bg rk).1
    subst rne
    have e0:(aP l a 201 k 202)[a]? =some (dN y0 201):=B6 r0
    have e1:(aP l1 a 211 k 202)[a]? =some (dN y1 211):=B6 r1
    have e2:∀x,((aP l1 a 211 k 202).set (0+a) x)[0+k]? =some (dN yk 202):=fun x=>by rw[Nat.zero_add,Nat.zero_add,List.getElem?_set,if_neg (fun e=>hab e.symm)];exact s5 rk hab
    obtain⟨k3,hk3⟩:∃k3,k3=y1.kids.take i++ [(k:Int)]++y1.kids.drop i:=⟨_,rfl⟩
    have hrow:((aP l1 a 211 k 202).set (0+a) (dF {y1 with kids:=k3} 299)).set (0+k) (dF {yk with parent:=(a:Int)} 202)=aP l' a 299 k 202:=by
      rw[rnxt,←hk3,Nat.zero_add,Nat.zero_add,oH _ hbl1,sO _ (by rw[List.length_set];exact hkl1) hab]
    rw[←hk3] at rca
    have h140:=o5 (rows:=y1.kids.map bV) (mQ y1.kids) i (k:Int) (by simpa using ri) (by simp;omega)
    rw[cj,←List.map_take,←List.map_drop,show[aj (k:Int)]=[(k:Int)].map bV from rfl,←gY,←gY,←hk3,show y1.kids.length+1=k3.length by rw[hk3];simp;omega] at h140
    have t73:=fun h=>mP (rest:=[aj before]) (ridx h) rfl rfl
    have rl':l'.length=L:=by rw[rnxt,List.length_set,List.length_set,rl1]
    have t35:=mO (rest:=[aj (k:Int)]) rka rkb rcon rfl rfl
    have t141:=qD (m:=m) (n:=(k:Int)) (ns:=n1) (x:=kG) rka rkb res rn1 rels
    rw[rl'] at t35 t141
    rw[rca] at t35 t141
    rw[rcb] at t35 t141
    have hkL:k<L:=by rw[←rl1];exact hkl1
    have htL:a<L:=by rw[←rl1];exact hbl1
    obtain⟨z1,z2,z3,z4,z5,z6,z7,z8,z9,z10⟩:=y0
    obtain⟨p1,p2,p3,p4,p5,p6,p7,p8,p9,p10⟩:=y1
    obtain⟨q1,q2,q3,q4,q5,q6,q7,q8,q9,q10⟩:=yk
    dsimp only at rkids ri rend ridx rsm h140 t73 hrow rover hk3
    subst rkids
    (have fct:=rend;(repeat' (first
    |refine pF ?_
    | ((first
      |((with_reducible show bk _ _ _ _);(refine bk.mk (fun hp=>?_) (fun hp=>?_)<;>(try simp only[ay,bO,dh,Bool.not_eq_true',Bool.not_eq_false',Decidable.not_not,Int.not_lt,Int.not_le] at hp)))
      |((with_reducible show eO _ _ _ _ _);first|refine eO.mk j rfl (by first|exact hjl|omega) ?_|refine eO.mk a rfl (by first|exact htL|omega) ?_|refine eO.mk k rfl (by first|exact hkL|omega) ?_)
      |((with_reducible show aZ _ _ _ _ _);first|refine aZ.mk (aj (k:Int)) (by first|exact hgk|(rw[Nat.zero_add];exact hgk)) ?_|refine aZ.mk _ (by first|exact e0|exact e1|exact e2 _|(rw[Nat.zero_add];first|exact e0|exact e1)) ?_)
      |((with_reducible show aa _ _ 139 _ _ _ _);refine aa.dg (news:=[aQ m L 4 (.own 213 0 n1.length),.dead,aI kb,.dead,aT l1 a 211 k 202,aI k1,aW n1]) [0,201,202,203,4,211,213] [] rover Kr ⟨⟨rfl,rfl⟩,rfl,rfl,trivial⟩ ⟨⟨rfl,.inr ⟨⟨⟨⟨rfl,rfl⟩,rfl,⟨rfl,rfl⟩,trivial⟩,trivial⟩,rfl⟩⟩,⟨rfl,.inl ⟨rfl,ae _⟩⟩,⟨rfl,.inl ⟨rfl,ae _⟩⟩,⟨rfl,.inl ⟨rfl,aq _⟩⟩,⟨rfl,bR (fun _=>rfl) (fun _=>rfl)⟩,trivial⟩ rfl ⟨⟨rfl,rfl⟩,rfl⟩ rfl ⟨⟨rfl,.inr ⟨rfl,rfl,rfl⟩⟩,⟨rfl,.inl ⟨rfl,ae _⟩⟩,⟨rfl,bM rfl rfl (by decide) (by decide)⟩,⟨rfl,.inl ⟨rfl,ae _⟩⟩,⟨rfl,.inl ⟨rfl,aq _⟩⟩,trivial⟩ rfl rfl ?_)
      |((with_reducible show aa _ _ 73 _ _ _ _);refine aa.dg (news:=[aI k1]) [211] [] (t73 (by assumption)) Ju ⟨⟨rfl,rfl⟩,rfl,trivial⟩ ⟨⟨rfl,.inl ⟨rfl,ae _⟩⟩,trivial⟩ rfl ⟨⟨rfl,rfl⟩,rfl⟩ rfl ⟨⟨rfl,.inl ⟨rfl,ae _⟩⟩,trivial⟩ rfl rfl ?_)
      |((with_reducible show aa _ _ 140 _ _ _ _);refine aa.dg (news:=[.dead,.live 1 [aj (k:Int)] false,aI k3]) [211,981,299] [] h140 Lf ⟨⟨rfl,rfl⟩,by first|rfl|(show(i:Int)=(k1.length:Int);have:=rend (by assumption);omega),⟨rfl,rfl⟩,trivial⟩ ⟨⟨rfl,.inl ⟨rfl,ae _⟩⟩,⟨rfl,.inl ⟨rfl,rfl⟩⟩,trivial⟩ rfl ⟨⟨rfl,rfl⟩,rfl⟩ rfl ⟨⟨rfl,.inl ⟨rfl,rfl⟩⟩,⟨rfl,.inl ⟨rfl,ae _⟩⟩,trivial⟩ rfl rfl ?_)
      |((with_reducible show aa _ _ 35 _ _ _ _);refine aa.dg (news:=[aT l' a 299 k 202,aI k3,aI kb]) [4,299,202] [] t35 Mz ⟨⟨⟨rfl,rfl⟩,rfl,trivial⟩,rfl,trivial⟩ ⟨⟨rfl,cast (congrArg (zz _ _ _ _) hrow.symm) (bR (fun _=>rfl) (fun _=>rfl))⟩,⟨rfl,.inl ⟨rfl,ae _⟩⟩,⟨rfl,.inl ⟨rfl,ae _⟩⟩,trivial⟩ rfl ⟨⟨rfl,rfl⟩,rfl⟩ rfl ⟨⟨rfl,bM rfl rfl (by decide) (by decide)⟩,⟨rfl,.inl ⟨rfl,ae _⟩⟩,⟨rfl,.inl ⟨rfl,ae _⟩⟩,trivial⟩ rfl rfl ?_)
      |((with_reducible show aa _ _ 141 _ _ _ _);refine aa.dg (news:=[aQ m L 4 (.own 223 0 (n1.length+es.length)),aI k3,aI kb,.dead,aT l' a 299 k 202,aW (n1++es.map (dO kG))]) [0,299,202,213,4,223] [] t141 Ey ⟨⟨rfl,rfl⟩,rfl,⟨rfl,rfl,rfl,rfl,rfl,rfl,rfl,rfl,rfl,trivial⟩,trivial⟩ ⟨⟨rfl,.inr ⟨⟨⟨⟨rfl,rfl⟩,rfl,⟨rfl,rfl⟩,trivial⟩,trivial⟩,rfl⟩⟩,⟨rfl,.inl ⟨rfl,ae _⟩⟩,⟨rfl,.inl ⟨rfl,ae _⟩⟩,⟨rfl,.inl ⟨rfl,aq _⟩⟩,⟨rfl,bR (fun _=>rfl) (fun _=>rfl)⟩,trivial⟩ rfl ⟨⟨rfl,rfl⟩,rfl⟩ rfl ⟨⟨rfl,.inr ⟨rfl,rfl,rfl⟩⟩,⟨rfl,.inl ⟨rfl,ae _⟩⟩,⟨rfl,.inl ⟨rfl,ae _⟩⟩,⟨rfl,bM rfl rfl (by decide) (by decide)⟩,⟨rfl,.inl ⟨rfl,aq _⟩⟩,trivial⟩ rfl rfl ?_)
      |((with_reducible show aL _ _ _ _);refine dK ?_))<;>with_reducible refine wK ?_)
    |((with_reducible show(_∧_)∧_∧_);(refine eK ?_ ?_<;>with_reducible repeat' (first|exact trivial|(show _∧_;refine aK ?_ ?_))))));all_goals clear fct)
    all_goals (first
      | (cases hp
         have ht:ns'=n1++es.map (dO kG):=rtold
         refine my.mk (j+1) [(201,299),(202,202),(203,223)] (by omega) (by omega) ?_
         rw[hl',hn',hka',hkb',rca,rcb,ht,jH,cj])
      | (cases hp
         have ht:ns'=n1++ []:=rtold
         rw[List.append_nil] at ht
         refine my.mk (j+1) [(201,299),(202,202),(203,213)] (by omega) (by omega) ?_
         rw[hl',hn',hka',hkb',rca,rcb,ht])
      |trace_state)
    all_goals (refine fK ?_;(with_reducible repeat' (first|exact trivial|(show _∧_;refine aK ?_ ?_)));(all_goals try rfl))
    all_goals first
      |exact⟨.refl (ae _),ae _⟩
      |exact⟨.refl (aq _),aq _⟩
      |exact bt (fun _=>rfl) (fun _=>rfl)
      |trace_state
  · obtain rfl:j=parts.length:=by simp only[dh,ay] at h1;omega
    repeat' (first
    |refine gK ?_
    |(((with_reducible show aL _ _ _ _);refine dK ?_)<;>with_reducible refine wK ?_)
    |((with_reducible show(_∧_)∧_∧_);(refine eK ?_ ?_<;>with_reducible repeat' (first|exact trivial|(show _∧_;refine aK ?_ ?_)))))
    all_goals first
      |exact⟨.refl (ae _),ae _⟩
      |exact⟨.refl (aq _),aq _⟩
      |exact bt (fun _=>rfl) (fun _=>rfl)
      |trace_state
end Go.Proofs.Heir
