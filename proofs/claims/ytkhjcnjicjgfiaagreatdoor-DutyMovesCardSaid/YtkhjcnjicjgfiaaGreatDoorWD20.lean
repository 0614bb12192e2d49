/- Models, plain laws and contracts of functions of the given program; conditions as stated in each theorem. By an AI agent. -/
import Derived.Test.YtkhjcnjicjgfiaaGreatDoorWD19
import Derived.Test.YtkhjcnjicjgfiaaGreatDoorWD12
import Derived.Test.YtkhjcnjicjgfiaaGreatDoorWD15
import Derived.Test.YtkhjcnjicjgfiaaGreatDoorWD16
set_option linter.unusedSimpArgs false
set_option linter.unusedVariables false
namespace Go.Proofs.Heir
open Go Go.Am Go.RowKit Go.Lib
set_option maxRecDepth 100000
set_option maxHeartbeats 8000000
@[reducible] def DO (t : List (ByteArray × Int)) : AV := .fmap (dz Value.string bu t)
def LA (t:List (ByteArray×Int)):AV:=DO t
@[reducible] def j8 (c : List (Int × List (ByteArray × Int))) : List AV := dz nZ LA c
@[reducible] def fA (c : List (Int × List (ByteArray × Int))) : MS := .live 2 (j8 c) false
theorem KF:gj Tryz.prog 141 (.int .i64) (.map none):=⟨3,202,by kernel_rfl,by kernel_rfl,fun w=>Tryz.zeroValue202 w⟩
theorem qZ {K α:Type}(kv:K→Value)(e:α→AV)(h:∀a,bj (e a)=true)(l:List (K×α)):aV (dz kv e l)=true:=by
 rw[cr];intro x hx
 obtain⟨p,_,rfl⟩:=List.mem_map.1 hx
 simp[entry,bj,aV,h]
theorem aO (c:List (Int×List (ByteArray×Int))):aV (j8 c)=true:=qZ _ _ (fun _=>rfl) c
theorem jq (t:List (ByteArray×Int)):aV (dz Value.string bu t)=true:=qZ _ _ (fun _=>rfl) t
structure wm (l:List ai) (c:List (Int×List (ByteArray×Int))):Prop where
 is:∀r t,cM r c=some t→t=mO l r
 len:c.length≤1000
def qa (l:List ai)(c:List (Int×List (ByteArray×Int)))(r:Int):List (Int×List (ByteArray×Int)):=match cM r c with
 |some _=>c
 |none=>c++ [(r,mO l r)]
def iW (l:List ai)(c:List (Int×List (ByteArray×Int)))(n:Int):List (Int×List (ByteArray×Int)):=
 if(nd l n).kind=1 then
  match kz (nd l n) eW with
  |some _=>if BH l n=true then qa l c (cT l n) else c
  |none=>c
 else c
theorem Hl {l:List ai}{c:List (Int×List (ByteArray×Int))}(h:∀r t,cM r c=some t→t=mO l r)(r:Int):∀q t,cM q (qa l c r)=some t→t=mO l q:=by
 intro q t
 unfold qa
 cases hg:cM r c with
 |some x=>exact h q t
 | none=>
   rw[←o9 hg,eE]
   by_cases e:r=q
   ·rw[if_pos e];intro ht;cases ht;rw[e]
   ·rw[if_neg e];exact h q t
theorem DH (l:List ai)(c:List (Int×List (ByteArray×Int)))(r:Int):(qa l c r).length≤c.length+1:=by
 unfold qa;split<;>simp
theorem yQ {l:List ai}{c:List (Int×List (ByteArray×Int))}(h:∀r t,cM r c=some t→t=mO l r)(n:Int):∀q t,cM q (iW l c n)=some t→t=mO l q:=by
 unfold iW
 split
 ·split
  ·split
   ·exact Hl h _
   ·exact h
  ·exact h
 ·exact h
theorem vS (l:List ai)(c:List (Int×List (ByteArray×Int)))(n:Int):(iW l c n).length≤c.length+1:=by
 unfold iW
 split
 ·split
  ·split
   ·exact DH _ _ _
   ·omega
  ·omega
 ·omega
theorem IA (l:List ai)(m:Int)(c:List (Int×List (ByteArray×Int)))(T:Tree l)(n:Int)(hn:aa l n=true):
  an Tryz.prog 167 [] [.agg [gq l,ay m,.fmap (j8 c)],ay n] [] (ay (iZ l n)):=by
 have hstep:=fun n h1 h2=>DJ T (fun p=>bU (nd l p)) (n:=n) h1 h2
 have htop:=fun n h1 h2=>HE T (fun p=>bU (nd l p)) (n:=n) h1 h2
 have hwst:=fun n h1 h2=>bP T (n:=n) h1 h2
 have hpar:∀n,aa l n=true→(nd l n).parent=-1∨aa l (nd l n).parent=true:=fun n hn=>by
  by_cases h:(nd l n).parent=-1
  ·exact .inl h
  ·exact .inr (T.par n hn h).1
 unfold iZ
 obtain⟨q,hq⟩:∃q:Int→Bool,(fun p=>bU (nd l p))=q:=⟨_,rfl⟩
 rw[hq] at hstep htop ⊢
 have hqe:∀p,q p=bU (nd l p):=fun p=>by rw[←hq]
 have step:∀p y,aa l p=true→nd l p=y→(y.parent=-1∧gu l q p=-1)∨(aa l y.parent=true∧y.parent≠-1∧(gu l q p=if bU (nd l y.parent)=true then y.parent else gu l q y.parent)∧(bk l y.parent).length< (bk l p).length):=by
  rintro p y hp rfl
  by_cases e:(nd l p).parent=-1
  ·exact .inl ⟨e,htop p hp e⟩
  ·exact .inr ⟨(hpar p hp).resolve_left e,e,(hstep p hp e).trans (by first|rfl|rw[hqe]),by rw[hwst p hp e];simp⟩
 clear hstep htop hwst hpar
 refine an.aF (rvs:=[.tmp 4]) G aq Tryz.func167 rfl Tryz.ntmps167 rfl rfl ?_;with_reducible refine wD ?_
 obtain⟨i,y,e,hy,hny⟩:=bp.1 hn
 have hst:=step n y hn hny
 obtain⟨b1,b2,b3,b4,b5,b6,b7,b8,b9,b10⟩:=y
 simp only at hst
 refine bn.mk i (aR _) e (aI hy) ?_;with_reducible refine wK ?_
 refine bD.use G aq (fun(p:Int)=>[(1,ay p),(2,.ptr 20 0 0)]) (fun _=>[(20,.live 3 [.agg [gq l,ay m,.fmap (j8 c)]] false)])
  (fun p=>(p=-1∧gu l q n=-1)∨(aa l p=true∧p≠-1∧gu l q n=if bU (nd l p)=true then p else gu l q p)) (fun p=>if p=-1 then 0 else(bk l p).length) b6
  (by rcases hst with h|⟨h1,h2,h3,_⟩;exact .inl h;exact .inr ⟨h1,h2,h3⟩) (by(refine fK ?_;(with_reducible repeat' (first|exact trivial|(show _∧_;refine aK ?_ ?_)));(all_goals try rfl))) ?_
 intro p hp
 with_reducible refine wK ?_
 rcases hp with⟨rfl,h1⟩|⟨h1,h2,h3⟩
 ·rw[h1]
  repeat' (first
  |refine gK ?_|refine aE ?_ ?_
  |apply trivial)
  all_goals rfl
 ·obtain⟨j,z,e',hz,hnz⟩:=bp.1 h1
  have hst:=step p z h1 hnz
  rw[hnz] at h3
  have h81:=xu z
  obtain⟨c1,c2,c3,c4,c5,c6,c7,c8,c9,NS⟩:=z
  simp only at hst
  cases hf:bU ⟨c1,c2,c3,c4,c5,c6,c7,c8,c9,NS⟩ with
  | true=>
    rw[hf] at h81 h3
    rw[h3,if_pos rfl]
    (have fct:=(eq_false h2);(repeat' (first
  |refine gF ?_|refine aE ?_ ?_
  | ((first
   |((with_reducible refine kQ 163 ?_);refine cL h81 Ei ?_)
   |(refine bn.mk j (aR ⟨c1,c2,c3,c4,c5,c6,c7,c8,c9,NS⟩) e' (aI hz) ?_))<;>with_reducible refine wK ?_)
  | apply trivial));all_goals clear fct)
    all_goals rfl
  | false=>
    rw[hf] at h81 h3
    rw[if_neg (by simp)] at h3
    (have fct:=(eq_false h2);(repeat' (first
  |refine gF ?_|refine aE ?_ ?_
  | ((first
   |((with_reducible refine kQ 163 ?_);refine cL h81 Ei ?_)
   |(refine bn.mk j (aR ⟨c1,c2,c3,c4,c5,c6,c7,c8,c9,NS⟩) e' (aI hz) ?_))<;>with_reducible refine wK ?_)
  | apply trivial));all_goals clear fct)
    refine aT.mk c6 ?_ ?_ ?_
    ·rw[h3]
     rcases hst with h|⟨g1,g2,g3,_⟩
     ·exact .inl h
     ·exact .inr ⟨g1,g2,g3⟩
    ·rw[if_neg h2]
     rcases hst with⟨h,_⟩|⟨_,g2,_,g4⟩
     ·rw[if_pos h]
      obtain⟨r,hr⟩:=dm T h1
      rw[hr];simp
     ·rw[if_neg g2];exact g4
    ·(refine fK ?_;(with_reducible repeat' (first|exact trivial|(show _∧_;refine aK ?_ ?_)));(all_goals try rfl))
theorem CT (f:ForM):an Tryz.prog 104 [] [bF f] [fA []] (.agg [gq f.nodes,ay f.most,.mapr 0]):=by
 obtain⟨l,m⟩:=f
 refine an.aF (rvs:=[.cell 2 143]) G aq Tryz.func104 rfl Tryz.ntmps104 rfl rfl ?_;with_reducible refine wD ?_
 repeat' (first
  |refine gK ?_|refine aE ?_ ?_
  |apply trivial)
 all_goals first|rfl|trivial
theorem DQ {R:AV→AV→Prop}{a b:List AV}{x y:AV}(h:cH R a b)(k:R x y):cH R (a++ [x]) (b++ [y]):=by
 refine⟨by simp[h.1],fun i u v hu hv=>?_⟩
 rw[List.getElem?_append] at hu hv
 rw[h.1] at hu
 by_cases hi:i<b.length
 ·rw[if_pos hi] at hu hv;exact h.2 i u v hu hv
 ·rw[if_neg hi] at hu hv
  rw[List.getElem?_singleton] at hu hv
  split at hu
  ·rename_i h0;rw[if_pos h0] at hv;cases hu;cases hv;exact k
  ·cases hu
theorem Gv {R:AV→AV→Prop}:∀ {a b:List AV},cH R a b→u5 R a b
 |[],[],_=>trivial
 |x::xs,y::ys,h=>⟨h.2 0 x y rfl rfl,Gv ⟨by have:=h.1;simpa using this,fun i u v hu hv=>h.2 (i+1) u v (by simpa using hu) (by simpa using hv)⟩⟩
 |[],_::_,h=>by have:=h.1;simp at this
 |_::_,[],h=>by have:=h.1;simp at this
theorem Fw (c:List (Int×List (ByteArray×Int)))(r:Int)(t:List (ByteArray×Int)):j8 (c++ [(r,t)])=j8 c++ [entry (nZ r) (DO t)]:=by
 unfold j8 dz;rw[gL];rfl
theorem Cq {m:ML}{fz:Nat→Bool}{k:Nat}{ro:Bool}{rows:List AV}{t:List (ByteArray×Int)}(h1:dc m k=.live 2 rows ro)(h2:fz k=true)(h3:rows=dz Value.string bu t):Fm m fz (DO t) k:=by
 subst h3
 refine⟨2,_,ro,h1,h2,rfl,fun x hx=>?_⟩
 obtain⟨p,_,rfl⟩:=List.mem_map.1 hx
 exact⟨_,_,rfl,rfl⟩
theorem JY (l:List ai)(m:Int)(hs:bO l)(hrt:aU ⟨l,m⟩=true)(c:List (Int×List (ByteArray×Int)))(hc:wm l c)(r:Int)(hr:aa l r=true):
  an Tryz.prog 168 [fA c] [.agg [gq l,ay m,.mapr 0],ay r] [fA (qa l c r)] (DO (mO l r)):=by
 have T:Tree l:=dY hrt
 have h78:=IF ⟨l,m⟩ hs r
 have e78:Fz ⟨l,m⟩ r=cD l l.length r:=by unfold Fz;rw[if_pos (by rw[hrt,hr];rfl)]
 rw[e78] at h78
 have hol:=lD T l.length hr
 have h60:=hs.len
 have hot:∀k∈cD l l.length r,aa l k=true:=fun k hk=>(pD T hr hk).1
 have hci:=hc.is r
 have hcl:=hc.len
 obtain⟨kt,hkt⟩:∃kt,qa l c r=kt:=⟨_,rfl⟩
 rw[hkt]
 unfold qa at hkt
 unfold mO at hkt hci ⊢
 have hci:=hci
 generalize cD l l.length r=ks at h78 hol hot hci hkt ⊢
 have hkm:(ks.map bu).length=ks.length:=bM ..
 refine an.aF (rvs:=[.tmp 4]) G aq Tryz.func168 rfl Tryz.ntmps168 rfl rfl ?_;with_reducible refine wD ?_
 refine jV.tab nZ LA c (k:=r) (zv:=.lit (.map none)) KF ⟨_,_,rfl⟩ jj j3 rfl rfl (fun x hx=>?_) (fun hx=>?_)
 ·rw[hx] at hkt
  dsimp only at hkt
  subst hkt
  rw[show LA x=DO x from rfl]
  have hxe:=hci x hx
  with_reducible refine wK ?_
  repeat' (first
  |refine gK ?_|refine aE ?_ ?_
  |apply trivial)
  all_goals first
   |exact aQ (aO c)
   |rfl
   |exact(congrArg DO hxe).symm
   |skip
 ·rw [hx] at hkt
  dsimp only at hkt
  subst hkt
  with_reducible refine wK ?_
  repeat' (first
  |refine gK ?_|refine aE ?_ ?_
  |(((with_reducible refine kQ 164 ?_);refine cV h78 NC ?_)<;>with_reducible refine wK ?_)
  |apply trivial)
  refine bD.use G aq (fun(j:Nat)=>[(1,ay r),(2,.ptr 20 0 0),(7,.mapr 71),(27,cN ks),(28,ay ks.length),(29,ay j)])
   (fun j=>[(0,fA c),(20,.live 3 [.agg [gq l,ay m,.mapr 0]] false),(71,.live 2 (dz Value.string bu ((ks.take j).foldl (iY l) [])) false)])
   (fun j=>j≤ks.length) (fun j=>ks.length-j) 0 (Nat.zero_le _) ?_ ?_
  ·(refine fK ?_;(with_reducible repeat' (first|exact trivial|(show _∧_;refine aK ?_ ?_)));(all_goals try rfl))
   all_goals first
    |exact aQ (aO c)
    |exact hkm
    |(show(ks.length:Int)=_;rw[hkm])
    |(show o3 _ [] [];exact⟨.refl rfl,rfl⟩)
    |skip
  intro j hj
  with_reducible refine wK ?_
  refine aL.mk (fun h1=>?_) (fun h1=>?_)<;>(try simp only[ak] at h1)<;>with_reducible refine wK ?_
  ·have hj':j<ks.length:=by simp only[bH] at h1;omega
   obtain⟨k,hk⟩:∃k,ks[j]? =some k:=⟨_,bh hj'⟩
   obtain⟨i,y,e,hy,hny⟩:=bp.1 (hot k (bN hk))
   have h47:=BG y.attrs (by have:=hs.attrs y (bN hy);omega) C9
   have hst:(ks.take (j+1)).foldl (iY l) []=iY l ((ks.take j).foldl (iY l) []) k:=by
    rw[List.take_add_one,hk,List.foldl_append];rfl
   have hfl:=yK l (ks.take j) []
   rw[List.length_nil,gI] at hfl
   generalize(ks.take j).foldl (iY l) []=t at hst hfl ⊢
   have ha:iY l t k=if 0≤iM y.attrs C9∧cM (uS y.attrs C9) t=none then dP (uS y.attrs C9) k t else t:=by
    unfold iY kz
    rw[hny]
    by_cases e1:0≤iM y.attrs C9
    ·rw[if_pos e1]
     simp only
     cases e2:cM (uS y.attrs C9) t with
     |none=>rw[if_pos ⟨e1,rfl⟩]
     |some z=>rw[if_neg (fun h=>by cases h.2)]
    ·rw[if_neg e1,if_neg (fun h=>e1 h.1)]
   rw[ha] at hst
   generalize hg:uS y.attrs C9=gs at h47 hst
   obtain⟨ok,hok⟩:∃ok,decide (0≤iM y.attrs C9)=ok:=⟨_,rfl⟩
   rw[hok] at h47
   have hst':(ks.take (j+1)).foldl (iY l) []=if ok=true∧cM gs t=none then dP gs k t else t:=by rw[hst];simp only[←hok,bH]
   clear ha hst hg hok
   obtain⟨b1,b2,b3,b4,b5,b6,b7,b8,b9,b10⟩:=y
   simp only at h47
   refine bn.mk j (ay k) rfl (iy hk) ?_;with_reducible refine wK ?_
   refine bn.mk i (aR _) e (aI hy) ?_;with_reducible refine wK ?_
   refine cL h47 M1 ?_;with_reducible refine wK ?_
   refine jV.tab Value.string bu t (k:=gs) (zv:=ay 0) q8 ⟨_,_,rfl⟩ nN nM rfl rfl (fun x hx2=>?_) (fun hx2=>?_)
   ·rw[hx2,if_neg (fun h=>by cases h.2)] at hst'
    rw[show bu x=ay x from rfl]
    with_reducible refine wK ?_
    cases ok<;>(
     repeat' (first
  |refine gK ?_|refine aE ?_ ?_
  | apply trivial)
     refine aT.mk (j+1) (by omega) (by omega) ?_
     rw[hst']
     (refine fK ?_;(with_reducible repeat' (first|exact trivial|(show _∧_;refine aK ?_ ?_)));(all_goals try rfl))
     all_goals first
      |exact aQ (aO c)
      |exact⟨.refl (jq t),jq t⟩
      |skip)
   ·rw [hx2] at hst'
    with_reducible refine wK ?_
    cases ok with
    | false=>
      rw[if_neg (fun h=>by cases h.1)] at hst'
      repeat' (first
  |refine gK ?_|refine aE ?_ ?_
  | apply trivial)
      refine aT.mk (j+1) (by omega) (by omega) ?_
      rw[hst']
      (refine fK ?_;(with_reducible repeat' (first|exact trivial|(show _∧_;refine aK ?_ ?_)));(all_goals try rfl))
      all_goals first
       |exact aQ (aO c)
       |exact⟨.refl (jq t),jq t⟩
       |skip
    | true=>
      rw[if_pos ⟨rfl,rfl⟩] at hst'
      repeat' (first
  |refine gK ?_|refine aE ?_ ?_
  |apply trivial)
      refine pQ.tab Value.string bu t k q8 rfl nN nM (by unfold maxLen;omega) rfl ?_;with_reducible refine wK ?_
      repeat' (first
  |refine gK ?_|refine aE ?_ ?_
  |apply trivial)
      refine aT.mk (j+1) (by omega) (by omega) ?_
      rw[hst']
      (refine fK ?_;(with_reducible repeat' (first|exact trivial|(show _∧_;refine aK ?_ ?_)));(all_goals try rfl))
      all_goals first
       |exact aQ (aO c)
       |exact⟨.refl (jq _),jq _⟩
       |skip
  ·have hjl:j=ks.length:=by simp only[dG] at h1;omega
   subst hjl
   rw[List.take_length]
   generalize hT:ks.foldl (iY l) []=t
   repeat' (first
  |refine gK ?_|refine aE ?_ ?_
  | apply trivial)
   refine pQ.new KF rfl (jj r) (jH jj) (tU j3 hx) (by simp[j8,dz,maxLen];omega) rfl rfl ?_;with_reducible refine wK ?_
   repeat' (first
  |refine gK ?_|refine aE ?_ ?_
  | apply trivial)
   all_goals first
    |exact Cq rfl rfl rfl
    |skip
   rw[Fw]
   refine Gv (DQ (.refl (aO c)) ?_)
   exact⟨rfl,⟨Cq rfl rfl rfl,trivial⟩,trivial⟩
theorem CY {m:ML}{fz:Nat→Bool}{k:Nat}{ro:Bool}{rows:List AV}{c:List (Int×List (ByteArray×Int))}(h1:dc m k=.live 2 rows ro)(h2:fz k=true)(h3:rows=j8 c):Fm m fz (.fmap (j8 c)) k:=by
  subst h3
  refine⟨2,_,ro,h1,h2,rfl,fun x hx=>?_⟩
  obtain⟨p,_,rfl⟩:=List.mem_map.1 hx
  exact⟨_,_,rfl,rfl⟩
theorem Jq {x:ai}{w:ByteArray}:kz x w=if 0≤iM x.attrs w then some (uS x.attrs w) else none:=rfl
theorem H6 {l:List ai}{m:Int}(hr:aU ⟨l,m⟩=true){n:Int}(hn:aa l n=true):D4 ⟨l,m⟩ n=BH l n:=by
  unfold D4 BH;rw[hr,show aa (ForM.mk l m).nodes n=true from hn];rfl
theorem DA (l:List ai)(m:Int)(hs:bO l)(hrt:aU ⟨l,m⟩=true)(c:List (Int×List (ByteArray×Int)))(hc:wm l c)(n:Int)(hn:aa l n=true):
    an Tryz.prog 105 [fA c] [.agg [gq l,ay m,.mapr 0],ay n] [fA (iW l c n)] (ay (eC l n)):=by
  have T:Tree l:=dY hrt
  have h21:=HJ ⟨l,m⟩ hs n
  rw[H6 hrt hn] at h21
  have h116:=IA l m c T n hn
  have h48:=Dh ⟨l,m⟩ hs hrt n hn
  have hrth:=(jy T n hn).1
  have h117:=JY l m hs hrt c hc (cT l n) hrth
  have hfst:=fun v k=> @BE l (cT l n) v k
  have hord:=fun k hk=>(pD T hrth (n:=k) hk).1
  obtain⟨i,x,e,hx,hnx⟩:=bp.1 hn
  have h47:=BG x.attrs (by have:=hs.attrs x (bN hx);omega) eW
  unfold eC iW Ny
  rw[hnx,Jq]
  simp only at h48
  have hig:=fun v=>DL l (cT l n) v
  generalize cT l n=r at h48 h117 hfst hord hig ⊢
  generalize iZ l n=nr at h116 ⊢
  generalize BH l n=cn at h21 ⊢
  generalize hgs:uS x.attrs eW=v at h47 ⊢
  obtain⟨ok,hok⟩:∃ok,decide (0≤iM x.attrs eW)=ok:=⟨_,rfl⟩
  rw[hok] at h47
  have hok':(0≤iM x.attrs eW)=(ok=true):=by rw[←hok];simp
  simp only[hok']
  clear hok hok' hgs
  obtain⟨a1,a2,a3,a4,a5,a6,a7,a8,a9,a10⟩:=x
  simp only at h47 ⊢
  refine an.aF (rvs:=[.tmp 4]) G aq Tryz.func105 rfl Tryz.ntmps105 rfl rfl ?_;with_reducible refine wD ?_
  refine bn.mk i (aR ⟨a1,a2,a3,a4,a5,a6,a7,a8,a9,a10⟩) e (aI hx) ?_;with_reducible refine wK ?_
  by_cases e1:a1=1
  · rw [if_pos e1,if_pos e1]
    refine aL.no (by rw[e1];rfl) ?_;with_reducible refine wK ?_
    cases ok with
    | false=>
      rw[if_neg (by simp)]
      repeat' (first
    |refine gK ?_
    | ((first
      |((with_reducible show ah _ _ 23 _ _ _ _);refine ah.lit [] h47 M1 ⟨rfl,rfl,trivial⟩ rfl rfl ?_)
      |((with_reducible show ah _ _ 35 _ _ _ _);refine ah.lit [] h21 NM ⟨⟨rfl,rfl,trivial⟩,rfl,trivial⟩ rfl rfl ?_)
      |((with_reducible show ah _ _ 167 _ _ _ _);refine ah.lit [0] h116 M9 ⟨⟨rfl,rfl,CY rfl rfl rfl,trivial⟩,rfl,trivial⟩ rfl rfl ?_))<;>with_reducible refine wK ?_)
    | ((with_reducible show(_∧_)∧_∧_);(refine eK ?_ ?_<;>with_reducible repeat' (first|exact trivial|(show _∧_;refine aK ?_ ?_)))))
      all_goals first|rfl|exact aQ (aO c)
    | true=>
      rw[if_pos rfl]
      simp only
      cases cn with
      | false=>
        rw[if_neg (by simp),if_neg (by simp)]
        repeat' (first
    |refine gK ?_
    | ((first
      |((with_reducible show ah _ _ 23 _ _ _ _);refine ah.lit [] h47 M1 ⟨rfl,rfl,trivial⟩ rfl rfl ?_)
      |((with_reducible show ah _ _ 35 _ _ _ _);refine ah.lit [] h21 NM ⟨⟨rfl,rfl,trivial⟩,rfl,trivial⟩ rfl rfl ?_)
      |((with_reducible show ah _ _ 167 _ _ _ _);refine ah.lit [0] h116 M9 ⟨⟨rfl,rfl,CY rfl rfl rfl,trivial⟩,rfl,trivial⟩ rfl rfl ?_))<;>with_reducible refine wK ?_)
    | ((with_reducible show(_∧_)∧_∧_);(refine eK ?_ ?_<;>with_reducible repeat' (first|exact trivial|(show _∧_;refine aK ?_ ?_)))))
        all_goals first|rfl|exact aQ (aO c)
      | true=>
        rw[if_pos rfl,if_pos rfl]
        repeat' (first
    |refine gK ?_
    | ((first
      |((with_reducible show ah _ _ 23 _ _ _ _);refine ah.lit [] h47 M1 ⟨rfl,rfl,trivial⟩ rfl rfl ?_)
      |((with_reducible show ah _ _ 35 _ _ _ _);refine ah.lit [] h21 NM ⟨⟨rfl,rfl,trivial⟩,rfl,trivial⟩ rfl rfl ?_)
      |((with_reducible show ah _ _ 165 _ _ _ _);refine ah.lit [] h48 MO ⟨⟨rfl,rfl,trivial⟩,rfl,trivial⟩ rfl rfl ?_))<;>with_reducible refine wK ?_)
    | ((with_reducible show(_∧_)∧_∧_);(refine eK ?_ ?_<;>with_reducible repeat' (first|exact trivial|(show _∧_;refine aK ?_ ?_)))))
        refine ah.dw (news:=[fA (qa l c r)]) [0] [] h117 NW ⟨⟨rfl,rfl,trivial,trivial⟩,rfl,trivial⟩ ⟨⟨rfl,.inl ⟨rfl,aO c⟩⟩,trivial⟩ rfl ⟨⟨rfl,rfl⟩,rfl⟩ rfl ⟨⟨rfl,.inl ⟨rfl,aO _⟩⟩,trivial⟩ rfl rfl ?_
        with_reducible refine wK ?_
        refine jV.tab Value.string bu (mO l r) (k:=v) (zv:=ay 0) q8 rfl nN nM rfl rfl (fun k hk=>?_) (fun hk=>?_)
        · rw [hig] at hk
          rw[hk,show bu k=ay k from rfl]
          simp only
          obtain⟨j,y,e',hy,hny⟩:=bp.1 (hord k (hfst v k hk).1)
          rw[hny]
          have h81:=xu y
          obtain⟨b1,b2,b3,b4,b5,b6,b7,b8,b9,b10⟩:=y
          obtain⟨fm,hfm⟩:∃fm,bU ⟨b1,b2,b3,b4,b5,b6,b7,b8,b9,b10⟩=fm:=⟨_,rfl⟩
          rw[hfm] at h81 ⊢
          with_reducible refine wK ?_
          by_cases ev:v=⟨#[]⟩
          · rw[if_neg (fun h=>h.1 ev)]
            have ev':v=⟨⟨[]⟩⟩:=ev
            (have fct:=ev';(repeat' (first
    |refine gF ?_
    |(((with_reducible show aH _ _ _ _);refine dK ?_)<;>with_reducible refine wK ?_)
    |((with_reducible show(_∧_)∧_∧_);(refine eK ?_ ?_<;>with_reducible repeat' (first|exact trivial|(show _∧_;refine aK ?_ ?_))))));all_goals clear fct)
            all_goals first|rfl|exact aQ (aO _)
          · have ev':¬v=⟨⟨[]⟩⟩:=ev
            cases fm with
            | true=>
              rw[if_pos ⟨ev,rfl⟩]
              (have fct:=ev';(repeat' (first
    |refine gF ?_
    | ((first
      |((with_reducible show aH _ _ _ _);refine dK ?_)
      |(refine bn.mk j (aR ⟨b1,b2,b3,b4,b5,b6,b7,b8,b9,b10⟩) e' (aI hy) ?_)
      |((with_reducible show ah _ _ 163 _ _ _ _);refine ah.lit [] h81 Ei ⟨⟨rfl,rfl,rfl,rfl,rfl,rfl,rfl,rfl,rfl,rfl,trivial⟩,trivial⟩ rfl rfl ?_))<;>with_reducible refine wK ?_)
    |((with_reducible show(_∧_)∧_∧_);(refine eK ?_ ?_<;>with_reducible repeat' (first|exact trivial|(show _∧_;refine aK ?_ ?_))))));all_goals clear fct)
              all_goals first|rfl|exact aQ (aO _)
            | false=>
              rw[if_neg (fun h=>by cases h.2)]
              (have fct:=ev';(repeat' (first
    |refine gF ?_
    | ((first
      |((with_reducible show aH _ _ _ _);refine dK ?_)
      |(refine bn.mk j (aR ⟨b1,b2,b3,b4,b5,b6,b7,b8,b9,b10⟩) e' (aI hy) ?_)
      |((with_reducible show ah _ _ 163 _ _ _ _);refine ah.lit [] h81 Ei ⟨⟨rfl,rfl,rfl,rfl,rfl,rfl,rfl,rfl,rfl,rfl,trivial⟩,trivial⟩ rfl rfl ?_))<;>with_reducible refine wK ?_)
    | ((with_reducible show(_∧_)∧_∧_);(refine eK ?_ ?_<;>with_reducible repeat' (first|exact trivial|(show _∧_;refine aK ?_ ?_))))));all_goals clear fct)
              all_goals first|rfl|exact aQ (aO _)
        · rw[hig] at hk
          rw[hk]
          with_reducible refine wK ?_
          repeat' (first
    |refine gK ?_
    |(((with_reducible show aH _ _ _ _);refine dK ?_)<;>with_reducible refine wK ?_)
    |((with_reducible show(_∧_)∧_∧_);(refine eK ?_ ?_<;>with_reducible repeat' (first|exact trivial|(show _∧_;refine aK ?_ ?_)))))
          all_goals first|rfl|exact aQ (aO _)
  · rw[if_neg e1,if_neg e1]
    (have fct:=(eq_false e1);(repeat' (first
    |refine gF ?_
    |((with_reducible show(_∧_)∧_∧_);(refine eK ?_ ?_<;>with_reducible repeat' (first|exact trivial|(show _∧_;refine aK ?_ ?_))))));all_goals clear fct)
    all_goals first|rfl|exact aQ (aO c)
theorem ve (l:List ai):wm l []:=⟨fun r t h=>(by cases h),(by simp)⟩
def kI (l:List ai)(k:Nat):List Int:=(List.range k).map fun n:Nat=>eC l (n:Int)
def jJ (l:List ai):Nat→List (Int×List (ByteArray×Int))
  |0=>[]
  |k+1=>iW l (jJ l k) (k:Int)
theorem v7 (l:List ai):∀k,k≤64→wm l (jJ l k)∧(jJ l k).length≤k
  |0,_=>⟨ve l,Nat.le_refl _⟩
  | k+1,h=>by
    obtain⟨h1,h2⟩:=v7 l k (by omega)
    have h3:=vS l (jJ l k) (k:Int)
    exact⟨⟨yQ h1.is _,by show(iW l (jJ l k) (k:Int)).length≤_;omega⟩,by show(iW l (jJ l k) (k:Int)).length≤_;omega⟩
theorem B4 (l:List ai)(k:Nat):kI l (k+1)=kI l k++ [eC l (k:Int)]:=by unfold kI;rw[List.range_succ,gL];rfl
theorem vo (l:List ai)(k:Nat):(kI l k).length=k:=by unfold kI;simp
def HY (f:ForM):List Int:=if aU f=true then kI f.nodes f.nodes.length else[]
theorem Lq (f:ForM)(hs:bO f.nodes):an Tryz.prog 50 [] [bF f] [] (cN (HY f)):=by
  have h15:=ng f hs
  have h73:=CT f
  have h60:=hs.len
  obtain⟨l,m⟩:=f
  unfold HY
  simp only at h73 h60 ⊢
  have hlm:(l.map cj).length=l.length:=bM ..
  obtain⟨o,ho⟩:∃o,(if aU ⟨l,m⟩=true then kI l l.length else[])=o:=⟨_,rfl⟩
  rw[ho]
  refine an.aF (rvs:=[.tmp 2]) G aq Tryz.func50 rfl Tryz.ntmps50 rfl rfl ?_;with_reducible refine wD ?_
  cases hr:aU ⟨l,m⟩ with
  | false=>
    rw[hr] at h15
    rw[hr,if_neg (by simp)] at ho
    subst ho
    repeat' (first
    |refine gK ?_
    |(((with_reducible show ah _ _ 17 _ _ _ _);refine ah.lit [] h15 yg ⟨⟨rfl,rfl,trivial⟩,trivial⟩ rfl rfl ?_)<;>with_reducible refine wK ?_)
    |((with_reducible show(_∧_)∧_∧_);(refine eK ?_ ?_<;>with_reducible repeat' (first|exact trivial|(show _∧_;refine aK ?_ ?_)))))
    all_goals exact .inr (.inr ⟨1,rfl⟩)
  | true =>
    rw[hr] at h15
    rw[hr,if_pos rfl] at ho
    subst ho
    have hstep:=fun k=>B4 l k
    have hlen:=fun k=>vo l k
    have hcall:∀k,k<l.length→an Tryz.prog 105 [fA (jJ l k)] [.agg [gq l,ay m,.mapr 0],ay (k:Int)] [fA (jJ l (k+1))] (ay (eC l (k:Int))):=fun k hk=>
      DA l m hs hr (jJ l k) (v7 l k (by omega)).1 k (eF (bh hk))
    have hk0:jJ l 0=[]:=rfl
    have ho0:kI l 0=[]:=rfl
    generalize jJ l=kt at hcall hk0
    generalize kI l=ot at hstep hlen ho0 ⊢
    repeat' (first
    |refine gK ?_
    | ((first
      |((with_reducible show ah _ _ 17 _ _ _ _);refine ah.lit [] h15 yg ⟨⟨rfl,rfl,trivial⟩,trivial⟩ rfl rfl ?_)
      |((with_reducible show ah _ _ 104 _ _ _ _);refine ah.new 101 [] h73 M0 ⟨⟨rfl,rfl,trivial⟩,trivial⟩ rfl rfl rfl ⟨.nil _,rfl,trivial⟩ rfl ?_))<;>with_reducible refine wK ?_)
    |((with_reducible show(_∧_)∧_∧_);(refine eK ?_ ?_<;>with_reducible repeat' (first|exact trivial|(show _∧_;refine aK ?_ ?_)))))
    refine bD.ghost 3 31 1 rfl rfl ?_
    refine bD.use G aq (fun(k:Nat)=>[(1,.ptr 10 0 0),(3,.own 31 0 k),(4,.ptr 40 0 0),(13,ay l.length),(14,ay k)])
      (fun k=>[(10,.live 2 [bF ⟨l,m⟩] false),(31,cU (ot k)),(40,.live 3 [.agg [gq l,ay m,.mapr 101]] false),(101,fA (kt k))])
      (fun k=>k≤l.length) (fun k=>l.length-k) 0 (Nat.zero_le _) ?_ ?_
    · (refine fK ?_;(with_reducible repeat' (first|exact trivial|(show _∧_;refine aK ?_ ?_)));(all_goals try rfl))
      all_goals first
        |(show(l.length:Int)=_;rw[hlm])
        |(rw[ho0];exact⟨.refl rfl,rfl⟩)
        |(rw[hk0];exact⟨.refl rfl,rfl⟩)
        |skip
    intro k hk
    have hkl:=hlen k
    have hkm:((ot k).map bu).length=k:=by rw[bM,hkl]
    with_reducible refine wK ?_
    refine aL.mk (fun h1=>?_) (fun h1=>?_)<;>(try simp only[ak] at h1)<;>with_reducible refine wK ?_
    · have hk':k<l.length:=by simp only[bH] at h1;omega
      have h74:=hcall k hk'
      have hst:=hstep k
      generalize eC l (k:Int)=o at h74 hst
      repeat' (first
    |refine gK ?_
    | ((first
      |((with_reducible show ah _ _ 105 _ _ _ _);refine ah.dw (news:=[fA (kt (k+1))]) [101] [] h74 MK ⟨⟨rfl,rfl,trivial,trivial⟩,rfl,trivial⟩ ⟨⟨rfl,.inl ⟨rfl,aO _⟩⟩,trivial⟩ rfl ⟨⟨rfl,rfl⟩,rfl⟩ rfl ⟨⟨rfl,.inl ⟨rfl,aO _⟩⟩,trivial⟩ rfl rfl ?_)
      |((with_reducible show jR _ _ _ _ _ _ _ _ _ _);refine jR.mk ((ot k).map bu) [ay o] ⟨rfl,hkm.symm,rfl⟩ ⟨rfl,rfl,rfl⟩ rfl (by simp;omega) (by simp;omega) ?_)
      |((with_reducible show aH _ _ _ _);refine dK ?_))<;>with_reducible refine wK ?_)
    | ((with_reducible show(_∧_)∧_∧_);(refine eK ?_ ?_<;>with_reducible repeat' (first|exact trivial|(show _∧_;refine aK ?_ ?_)))))
      refine aT.mk (k+1) (by omega) (by omega) ?_
      rw[hst]
      (refine fK ?_;(with_reducible repeat' (first|exact trivial|(show _∧_;refine aK ?_ ?_)));(all_goals try rfl))
      all_goals first
        |(simp[hkl];done)
        |(refine⟨?_,ae _⟩;rw[gL];exact .refl (by rw[←gL];exact ae _))
        |exact⟨.refl (aO _),aO _⟩
        |skip
    · have hjl:k=l.length:=by simp only[dG] at h1;omega
      subst hjl
      repeat' (first
    |refine gK ?_
    | ((with_reducible show(_∧_)∧_∧_);(refine eK ?_ ?_<;>with_reducible repeat' (first|exact trivial|(show _∧_;refine aK ?_ ?_)))))
      all_goals exact fq rfl rfl rfl hkl.symm
theorem G9 {l:List ai}{m:Nat}{n:Int}:gd l (m+1) n=if(nd l n).parent=-1 then true else gd l m (nd l n).parent:=rfl
theorem En {l:List ai}{m:Nat}{b:Int}:l7 l (m+1) b=if(nd l b).parent=-1 then false else(zD l (nd l b).parent b||l7 l m (nd l b).parent):=rfl
theorem Mn (f:ForM)(hs:bO f.nodes)(T:Tree f.nodes)(k:Nat)(x:ai)(hx:f.nodes[k]? =some x):an Tryz.prog 64 [] [bF f,ay k] [] (aX (jL f.nodes k)):=by
 have h28:∀x∈f.nodes,an Tryz.prog 130 [] [aR x] [] (aX (kJ x)):=fun x hx=>HW x (by have:=hs.attrs x hx;omega)
 have h20:∀ (k:Nat) (x:ai),f.nodes[k]? =some x→an Tryz.prog 62 [] [bF f,ay k] [] (ay (ux f.nodes k)):=fun k x hx=>KY f hs k x hx fun c hc=>by
  have:=T.kid k (eF hx) c
  rw[fZ hx] at this
  exact(this hc).1
 have hfin:=T.fin k (eF hx)
 have hpar:=T.par
 have hk:=(br hx).1
 obtain⟨l,m⟩:=f
 unfold jL
 simp only at h28 h20 hx hfin hpar hk ⊢
 rw[fZ hx]
 have hx':=hx
 have h28x:=h28 x (bN hx)
 have hw:kJ x=false→x.kind=1→∀b:Bool,l7 l l.length k=b→(kJ x||(decide (x.kind=1)&&l7 l l.length k))=b:=fun h1 h2 b h=>by rw[h1,h2,h];simp
 have hwn:kJ x=false→x.kind≠1→(kJ x||(decide (x.kind=1)&&l7 l l.length k))=false:=fun h1 h2=>by rw[h1,dQ h2];rfl
 have hwy:kJ x=true→(kJ x||(decide (x.kind=1)&&l7 l l.length k))=true:=fun h1=>by rw[h1];rfl
 have hdk:=@GR x
 obtain⟨a1,a2,a3,a4,a5,a6,a7,a8,a9,a10⟩:=x
 have hxp:(nd l k).parent=a6:=by rw[fZ hx]
 simp only at hw hwn hwy hdk ⊢
 refine an.aF (rvs:=[.tmp 4]) G aq Tryz.func64 rfl Tryz.ntmps64 rfl rfl ?_;with_reducible refine wD ?_
 refine bn.mk k (aR _) rfl (aI hx) ?_;with_reducible refine wK ?_
 refine cL h28x HV ?_;with_reducible refine wK ?_
 cases d0:kJ ⟨a1,a2,a3,a4,a5,a6,a7,a8,a9,a10⟩ with
 | true=>
   have e1:=hdk d0
   rw[Bool.true_or]
   (have fct:=And.intro d0 (e1);(repeat' (first
  |refine gF ?_|refine aE ?_ ?_
  |((refine bn.mk k (aR _) rfl (aI hx) ?_)<;>with_reducible refine wK ?_)
  | apply trivial));all_goals clear fct)
   all_goals simp[e1]
 | false =>
   by_cases e1:¬a1=1
   ·rw[dQ e1]
    (have fct:=And.intro d0 ((eq_false e1));(repeat' (first
  |refine gF ?_|refine aE ?_ ?_
  |((refine bn.mk k (aR _) rfl (aI hx) ?_)<;>with_reducible refine wK ?_)
  | apply trivial));all_goals clear fct)
    all_goals simp
   have e1:=Decidable.not_not.1 e1
   rw[dB e1,Bool.false_or,Bool.true_and]
   (have fct:=And.intro d0 (e1);(repeat' (first
  |refine gF ?_|refine aE ?_ ?_
  |((refine bn.mk k (aR _) rfl (aI hx) ?_)<;>with_reducible refine wK ?_)
  | apply trivial));all_goals clear fct)
   refine bD.use G aq (fun(i:Nat×Nat)=>[(2,.ptr 20 0 0),(5,ay i.2),(6,ay (nd l i.2).parent)]) (fun _=>[(20,.live 2 [bF ⟨l,m⟩] false)])
    (fun i=>i.2<l.length∧gd l i.1 i.2=true∧l7 l l.length k=l7 l i.1 i.2) (fun i=>i.1) (l.length,k) ⟨hk,hfin,rfl⟩
    ⟨⟨rfl,rfl⟩,⟨⟨rfl,rfl⟩,rfl,hxp,trivial⟩,⟨⟨rfl,rfl,trivial⟩,trivial⟩,trivial⟩ ?_
   rintro⟨n,b⟩ ⟨hb,hf,hwk⟩
   simp only at hb hf hwk
   obtain⟨y,hy⟩:∃y,l[b]? =some y:=⟨_,bh hb⟩
   have hpb:=hpar b (eF hy)
   cases n with
   |zero=>simp[gd] at hf
   |succ n=>
   rw[G9] at hf
   rw[En] at hwk
   rw[fZ hy] at hf hwk hpb
   with_reducible refine wK ?_
   simp only[fZ hy]
   obtain⟨b1,b2,b3,b4,b5,b6,b7,b8,b9,b10⟩:=y
   simp only at hf hwk hpb ⊢
   by_cases p1:b6=-1
   ·rw[if_pos p1] at hwk
    rw[hwk]
    (have fct:=p1;(repeat' (first
  |refine gF ?_|refine aE ?_ ?_
  | apply trivial));all_goals clear fct)
   ·rw [if_neg p1] at hf hwk
    obtain⟨i,z,rfl,hz,hnz⟩:=bp.1 (hpb p1).1
    have h28z:=h28 z (bN hz)
    have h20z:=h20 i z hz
    have hi:=(br hz).1
    have hzp:(nd l i).parent=z.parent:=by rw[hnz]
    unfold zD at hwk
    rw[hnz] at hwk
    obtain⟨z1,z2,z3,z4,z5,z6,z7,z8,z9,z10⟩:=z
    simp only at hwk hzp
    have hne:¬ ((i:Int)=-1):=p1
    refine aL.yes (by simp[hne]) ?_;with_reducible refine wK ?_
    refine bn.mk i (aR ⟨z1,z2,z3,z4,z5,z6,z7,z8,z9,z10⟩) rfl (aI hz) ?_;with_reducible refine wK ?_
    by_cases f1:z2=K1
    ·cases d1:kJ ⟨z1,z2,z3,z4,z5,z6,z7,z8,z9,z10⟩ with
     | true=>
       by_cases g1:ux l i=b
       ·rw[d1,dQ (fun h:ux l i≠b=>h g1),Bool.and_false,Bool.and_false,Bool.false_or] at hwk
        (have fct:=And.intro f1 (And.intro d1 (g1));(repeat' (first
  |refine gF ?_|refine aE ?_ ?_
  | ((first
   |((with_reducible refine kQ 130 ?_);refine cL h28z HV ?_)
   |((with_reducible refine kQ 62 ?_);refine cL h20z Pn ?_)
   |(refine bn.mk i (aR ⟨z1,z2,z3,z4,z5,z6,z7,z8,z9,z10⟩) rfl (aI hz) ?_)
   |((with_reducible show aT _ _);refine aT.mk (n,i) ⟨hi,hf,hwk⟩ (Nat.lt_succ_self n) ⟨⟨rfl,rfl⟩,⟨⟨rfl,rfl⟩,rfl,hzp,trivial⟩,⟨⟨rfl,rfl,trivial⟩,trivial⟩,trivial⟩))<;>with_reducible refine wK ?_)
  |apply trivial));all_goals clear fct)
       ·rw[d1,dB f1,dB (show ux l i≠b from g1)] at hwk
        rw[hwk]
        (have fct:=And.intro f1 (And.intro d1 ((eq_false g1)));(repeat' (first
  |refine gF ?_|refine aE ?_ ?_
  | ((first
   |((with_reducible refine kQ 130 ?_);refine cL h28z HV ?_)
   |((with_reducible refine kQ 62 ?_);refine cL h20z Pn ?_))<;>with_reducible refine wK ?_)
  |apply trivial));all_goals clear fct)
        all_goals simp
     | false=>
       rw[d1,Bool.false_and,Bool.and_false,Bool.false_or] at hwk
       (have fct:=And.intro f1 (d1);(repeat' (first
  |refine gF ?_|refine aE ?_ ?_
  | ((first
   |((with_reducible refine kQ 130 ?_);refine cL h28z HV ?_)
   |(refine bn.mk i (aR ⟨z1,z2,z3,z4,z5,z6,z7,z8,z9,z10⟩) rfl (aI hz) ?_)
   |((with_reducible show aT _ _);refine aT.mk (n,i) ⟨hi,hf,hwk⟩ (Nat.lt_succ_self n) ⟨⟨rfl,rfl⟩,⟨⟨rfl,rfl⟩,rfl,hzp,trivial⟩,⟨⟨rfl,rfl,trivial⟩,trivial⟩,trivial⟩))<;>with_reducible refine wK ?_)
  | apply trivial));all_goals clear fct)
    ·rw[dQ f1,Bool.false_and,Bool.false_or] at hwk
     (have fct:=(eq_false f1);(repeat' (first
  |refine gF ?_|refine aE ?_ ?_
  | ((first
   |(refine bn.mk i (aR ⟨z1,z2,z3,z4,z5,z6,z7,z8,z9,z10⟩) rfl (aI hz) ?_)
   |((with_reducible show aT _ _);refine aT.mk (n,i) ⟨hi,hf,hwk⟩ (Nat.lt_succ_self n) ⟨⟨rfl,rfl⟩,⟨⟨rfl,rfl⟩,rfl,hzp,trivial⟩,⟨⟨rfl,rfl,trivial⟩,trivial⟩,trivial⟩))<;>with_reducible refine wK ?_)
  |apply trivial));all_goals clear fct)
theorem Lh (f:ForM)(hs:bO f.nodes)(n:Int):an Tryz.prog 21 [] [bF f,ay n] [] (aX (aa f.nodes n&&(aU f&&jL f.nodes n))):=by
 have h13:=ng f hs
 have h18:aU f=true→∀ (k:Nat) (x:ai),f.nodes[k]? =some x→an Tryz.prog 64 [] [bF f,ay k] [] (aX (jL f.nodes k)):=fun hr k x hx=>Mn f hs (dY hr) k x hx
 obtain⟨l,m⟩:=f
 simp only at h13 h18 ⊢
 have hlm:(l.map cj).length=l.length:=bM ..
 refine an.aF (rvs:=[.tmp 4]) G aq Tryz.func21 rfl Tryz.ntmps21 rfl rfl ?_;with_reducible refine wD ?_
 by_cases e0:¬0≤n
 ·have ht:aa l n=false:=by unfold aa;simp[e0]
  rw[ht]
  (have fct:=(eq_false e0);(repeat' (first
  |refine gF ?_|refine aE ?_ ?_
  |apply trivial));all_goals clear fct)
  all_goals simp
 have e0:=Decidable.not_not.1 e0
 by_cases e1:¬n< (l.length:Int)
 ·have ht:aa l n=false:=by unfold aa;simp[e1]
  rw[ht]
  (have fct:=And.intro e0 (And.intro hlm ((eq_false e1)));(repeat' (first
  |refine gF ?_|refine aE ?_ ?_
  |apply trivial));all_goals clear fct)
  all_goals simp
 have e1:=Decidable.not_not.1 e1
 have ht:aa l n=true:=by unfold aa;simp[e0,e1]
 obtain⟨k,x,rfl,hx,_⟩:=bp.1 ht
 rw[ht]
 cases hr:aU ⟨l,m⟩ with
 | false=>
   (have fct:=And.intro hlm (And.intro e0 (And.intro e1 (hr)));(repeat' (first
  |refine gF ?_|refine aE ?_ ?_
  |(((with_reducible refine kQ 17 ?_);refine cL h13 yg ?_)<;>with_reducible refine wK ?_)
  | apply trivial));all_goals clear fct)
   all_goals simp
 | true=>
   have h18':=h18 hr k x hx
   (have fct:=And.intro hlm (And.intro e0 (And.intro e1 (hr)));(repeat' (first
  |refine gF ?_|refine aE ?_ ?_
  | ((first
   |((with_reducible refine kQ 17 ?_);refine cL h13 yg ?_)
   |((with_reducible refine kQ 64 ?_);refine cL h18' Pv ?_))<;>with_reducible refine wK ?_)
  | apply trivial));all_goals clear fct)
   all_goals simp
@[reducible] def bf (l : List StateM) : MS := .live 4 (l.map eR) false
theorem aj (l:List StateM):aV (l.map eR)=true:=dL eR (fun _=>rfl) l
theorem BD (l:List StateM):lX (flat (l.map eR))=true:=mY eR (fun _=>rfl) l
theorem zG (l:List StateM):ic [bf l]:=⟨bB.ga fun r hr=>by
 obtain⟨a,_,rfl⟩:=List.mem_map.1 hr
 rfl,aj l,trivial⟩
theorem sv {m:ML}{fz:Nat→Bool}{tab:List (Nat×Nat)}{n t len:Nat}{ro:Bool}{rows:List AV}{l:List StateM}(h1:dc m t=.live 4 rows ro)(h2:fz t=true)(h3:rows=l.map eR)(h4:len=l.length):sN m fz (MF tab fz m n) (eP l) t 0 len:=by
 subst h3;subst h4
 have e:(l.map eR).length=l.length:=bM ..
 exact .cut h1 h2 (by omega) (by rw[List.drop_zero,nU (by omega)]) (aj l)
theorem Ju (l:List StateM)(hl:l.length≤100000):an Tryz.prog 170 [] [eP l] [bf l] (.own 0 0 l.length):=by
 have hlm:(l.map eR).length=l.length:=bM ..
 refine an.aF (rvs:=[.tmp 2]) G aq Tryz.func170 rfl Tryz.ntmps170 rfl rfl ?_;with_reducible refine wD ?_
 refine oW.mk (fun h=>?_) (fun _=>?_)<;>with_reducible refine wK ?_
 ·obtain rfl:l=[]:=by simpa using h
  (refine eK ?_ ?_<;>with_reducible repeat' (first|exact trivial|(show _∧_;refine aK ?_ ?_)))
  all_goals first|rfl|trivial
 ·refine jR.mk [] (l.map eR) ⟨rfl,rfl,rfl⟩ ⟨rfl,rfl,rfl⟩ (BD l) (by simp;omega) (by simp;omega) ?_;with_reducible refine wK ?_
  (refine eK ?_ ?_<;>with_reducible repeat' (first|exact trivial|(show _∧_;refine aK ?_ ?_)))
  ·exact hlm.symm
  ·exact aQ (aj l)
theorem Bs (l:List ej)(x:ej):l.map iU++ [mP x]=(l++ [x]).map iU:=by rw[gL];rfl
@[reducible] def Ai (f : ForM) (x : AV) (d : bw) (cs : List aM) (y : AV) : AV := .agg [gq f.nodes, ay f.most, x, Di d.defs, xU d.waits, ay d.next, aX d.busy, dN cs, y]
@[reducible] def bW (f : ForM) (x : AV) (d : bw) (cs : List aM) (y : AV) : MS := .live 9 [Ai f x d cs y] false
@[reducible] def jP : AV := .lit (.slice none 0 0)
theorem rX (f:ForM)(hs:bO f.nodes)(st:List StateM)(hst:st.length≤100000)(d:bw)(hd:nw d)(cs:List aM):
  an Tryz.prog 111 [] [bF f,eP st,gN d,dN cs] [bW f (.own 1 0 st.length) d cs jP,bf st] (.tup [.ptr 0 0 0,aX (gB f st d)]):=by
 have h15:=ng f hs
 have h71:=CR d hd
 have h108:=Ju st hst
 have hsm:(st.map eR).length=st.length:=bM ..
 have hlm:=(show(f.nodes.map cj).length=f.nodes.length from bM ..)
 unfold gB
 obtain⟨l,m⟩:=f
 obtain⟨d1,d2,d3,d4⟩:=d
 simp only at h15 h71 hlm ⊢
 refine an.aF (rvs:=[.tmp 8,.tmp 9]) G aq Tryz.func111 rfl Tryz.ntmps111 rfl rfl ?_;with_reducible refine wD ?_
 refine ah.new 131 [] h108 O1 ⟨rfl,trivial⟩ rfl rfl rfl (zG st) rfl ?_;with_reducible refine wK ?_
 by_cases e1:st.length=l.length
 ·cases e2:aU ⟨l,m⟩<;>rw[e2] at h15
  ·(have fct:=And.intro hsm (And.intro hlm ((eq_true e1)));(repeat' (first
  |refine gF ?_|refine aE ?_ ?_
  | ((first
   |((with_reducible refine kQ 17 ?_);refine cL h15 yg ?_)
   |((with_reducible show aH _ _ _ _);refine dK ?_))<;>with_reducible refine wK ?_)
  | apply trivial));all_goals clear fct)
   all_goals first|(simp[e1];done)|exact⟨.refl (aj st),aj st⟩|exact .inl rfl|rfl
  ·cases e3:ig ⟨d1,d2,d3,d4⟩<;>rw[e3] at h71
   all_goals ((have fct:=And.intro hsm (And.intro hlm ((eq_true e1)));(repeat' (first
  |refine gF ?_|refine aE ?_ ?_
  | ((first
   |((with_reducible refine kQ 17 ?_);refine cL h15 yg ?_)
   |((with_reducible refine kQ 110 ?_);refine cL h71 Ly ?_)
   |((with_reducible show aH _ _ _ _);refine dK ?_))<;>with_reducible refine wK ?_)
  | apply trivial));all_goals clear fct))
   all_goals first|(simp[e1];done)|exact⟨.refl (aj st),aj st⟩|exact .inl rfl|rfl
 ·(have fct:=And.intro hsm (And.intro hlm ((eq_false e1)));(repeat' (first
  |refine gF ?_|refine aE ?_ ?_
  |(((with_reducible show aH _ _ _ _);refine dK ?_)<;>with_reducible refine wK ?_)
  |apply trivial));all_goals clear fct)
  all_goals first|(simp[e1];done)|exact⟨.refl (aj st),aj st⟩|exact .inl rfl|rfl
theorem zJ (f:ForM)(st:List StateM)(d:bw)(cs:List aM)(due:List ej)(hdl:due.length≤100000)(c:aM)(hc:c.hooks.length≤100000)(n:Int)(t:gi)(hh:cG c t.kind=true):
  an Tryz.prog 113 [bW f (.own 1 0 st.length) d cs (.own 2 0 due.length),bf st,cA due] [.ptr 0 0 0,fD c,ay n,uK t]
   [bW f (.own 1 0 st.length) d cs (.own 3 0 (due.length+1)),bf st,.dead,cA (due++ [⟨n,t⟩])] (.tup []):=by
 have h37:=r7 c hc t.kind
 rw[hh] at h37
 have hdm:(due.map iU).length=due.length:=bM ..
 obtain⟨l,m⟩:=f
 obtain⟨d1,d2,d3,d4⟩:=d
 obtain⟨c1,c2,c3,c4,c5⟩:=c
 obtain⟨t1,t2,t3,t4,t5,t6,t7,t8,t9,t10⟩:=t
 simp only at h37
 refine an.Gq (rvs:=[]) G aq Tryz.func113 rfl Tryz.ntmps113 rfl rfl ?_;with_reducible refine wD ?_
 repeat' (first
  |refine gK ?_|refine aE ?_ ?_
  | ((first
   |((with_reducible refine kQ 172 ?_);refine cL h37 J2 ?_)
   |((with_reducible show jR _ _ _ _ _ _ _ _ _ _);refine jR.mk (due.map iU) [mP ⟨n,⟨t1,t2,t3,t4,t5,t6,t7,t8,t9,t10⟩⟩] ⟨rfl,hdm.symm,rfl⟩ ⟨rfl,rfl,rfl⟩ rfl (by simp;omega) (by simp;omega) ?_)
   |((with_reducible show aH _ _ _ _);refine dK ?_))<;>with_reducible refine wK ?_)
  |apply trivial)
 all_goals first
  |(simp;done)
  |exact⟨.refl (aj st),aj st⟩
  |(show o3 _ ((due++ ([⟨n,⟨t1,t2,t3,t4,t5,t6,t7,t8,t9,t10⟩⟩]:List ej)).map iU) (due.map iU++ [mP ⟨n,⟨t1,t2,t3,t4,t5,t6,t7,t8,t9,t10⟩⟩]);rw[Bs];exact⟨.refl (aJ _),aJ _⟩)
theorem C8 (f:ForM)(st:List StateM)(d:bw)(cs:List aM)(due:List ej)(c:aM)(hc:c.hooks.length≤100000)(n:Int)(t:gi)(hh:cG c t.kind=false):
  an Tryz.prog 113 [bW f (.own 1 0 st.length) d cs (.own 2 0 due.length),bf st,cA due] [.ptr 0 0 0,fD c,ay n,uK t]
   [bW f (.own 1 0 st.length) d cs (.own 2 0 due.length),bf st,cA due] (.tup []):=by
 have h37:=r7 c hc t.kind
 rw[hh] at h37
 obtain⟨l,m⟩:=f
 obtain⟨d1,d2,d3,d4⟩:=d
 obtain⟨c1,c2,c3,c4,c5⟩:=c
 obtain⟨t1,t2,t3,t4,t5,t6,t7,t8,t9,t10⟩:=t
 simp only at h37
 refine an.aF (rvs:=[]) G aq Tryz.func113 rfl Tryz.ntmps113 rfl rfl ?_;with_reducible refine wD ?_
 repeat' (first
  |refine gK ?_|refine aE ?_ ?_
  |(((with_reducible refine kQ 172 ?_);refine cL h37 J2 ?_)<;>with_reducible refine wK ?_)
  |apply trivial)
 all_goals first
  |exact⟨.refl (aj st),aj st⟩
  |exact⟨.refl (aJ due),aJ due⟩
section
variable {m : ML} {b s e : Nat} {f : ForM} {st st' : List StateM} {d : bw} {cs : List aM} {due due' : List ej} {k k' n n' : Nat}
theorem eX (hb:dc m b=bW f (.own s 0 n) d cs (.own e 0 k))(hs:dc m s=bf st)(he:dc m e=cA due){r:List Nat}:oU (kO 3 0 (b::s::e::r)) [] m [bW f (.own 1 0 n) d cs (.own 2 0 k),bf st,cA due] (b::s::e::r):=by
 simp only[oU,hb,hs,he]
 refine⟨⟨trivial,.inr ⟨⟨⟨rfl,rfl,?_,rfl,rfl,rfl,rfl,rfl,?_,trivial⟩,trivial⟩,rfl⟩⟩,⟨trivial,.inl ⟨rfl,aj _⟩⟩,⟨trivial,.inl ⟨rfl,aJ _⟩⟩,trivial⟩
 all_goals (simp[MF,kO,mJ,Nat.beq_refl])
theorem gG:l8 [b,s,e] [bW f (.own 1 0 n) d cs (.own 2 0 k),bf st,cA due] [bW f (.own s 0 n) d cs (.own e 0 k),bf st,cA due]:=
 ⟨⟨rfl,.inr ⟨rfl,rfl,rfl⟩⟩,⟨rfl,.inl ⟨rfl,aj _⟩⟩,⟨rfl,.inl ⟨rfl,aJ _⟩⟩,trivial⟩
theorem kU {q:Nat}:l8 [b,s,e,q] [bW f (.own 1 0 n) d cs (.own 3 0 k),bf st,.dead,cA due] [bW f (.own s 0 n) d cs (.own q 0 k),bf st,.dead,cA due]:=
 ⟨⟨rfl,.inr ⟨rfl,rfl,rfl⟩⟩,⟨rfl,.inl ⟨rfl,aj _⟩⟩,⟨rfl,.inl ⟨rfl,aJ _⟩⟩,trivial⟩
end
theorem yc (l:List StateM)(k:Nat)(y:StateM):(l.map eR).set (0+k) (gO y)=(l.set k y).map eR:=by rw[Nat.zero_add,List.map_set];rfl
theorem zl (f:ForM)(st:List StateM)(ns:Nat)(hns:st.length=ns)(d:bw)(cs:List aM)(due:List ej)(k:Nat)(s:StateM)(hk:st[k]? =some s)(ht:aa f.nodes (k:Int)=true):
  an Tryz.prog 112 [bW f (.own 1 0 ns) d cs (.own 2 0 due.length),bf st,cA due] [.ptr 0 0 0,ay k] [bW f (.own 1 0 ns) d cs (.own 2 0 due.length),bf st,cA due] (.tup [fD (cJ s d cs),aX (ia f d cs k s)]):=by
 have hkl:=(br hk).1
 have h36:=Dw s d cs
 unfold ia
 obtain⟨i,x,e,hx,hnx⟩:=bp.1 ht
 rw[hnx]
 obtain⟨l,m⟩:=f
 obtain⟨d1,d2,d3,d4⟩:=d
 obtain⟨cv,hcv⟩:∃cv,cJ s ⟨d1,d2,d3,d4⟩ cs=cv:=⟨_,rfl⟩
 obtain⟨cb,hcb⟩:∃cb,jK s ⟨d1,d2,d3,d4⟩ cs=cb:=⟨_,rfl⟩
 rw[hcv,hcb] at h36 ⊢
 obtain⟨s1,s2,s3,s4⟩:=s
 obtain⟨c1,c2,c3,c4,c5⟩:=cv
 obtain⟨a1,a2,a3,a4,a5,a6,a7,a8,a9,a10⟩:=x
 simp only at hx
 clear hcv hcb
 refine an.aF (rvs:=[.cell 4 154,.tmp 5]) G aq Tryz.func112 rfl Tryz.ntmps112 rfl rfl ?_;with_reducible refine wD ?_
 repeat' (first
  |refine gK ?_|refine aE ?_ ?_
  | ((first
   |(refine bn.mk i (aR _) e (aI hx) ?_)
   |((with_reducible show gX _ _ _ _ _);refine gX.mk k rfl (by omega) ?_)
   |((with_reducible show bE _ _ _ _ _);refine bE.mk (gO ⟨s1,s2,s3,s4⟩) (by rw[Nat.zero_add];exact fP hk) ?_)
   |((with_reducible refine kQ 171 ?_);refine cV h36 Nx ?_)
   |((with_reducible show aH _ _ _ _);refine dK ?_))<;>with_reducible refine wK ?_)
  |apply trivial)
 cases cb with
 | false=>
   repeat' (first
  |refine gK ?_|refine aE ?_ ?_
  |(((with_reducible show aH _ _ _ _);refine dK ?_)<;>with_reducible refine wK ?_)
  | apply trivial)
   all_goals first
    |rfl
    |exact⟨.refl (aj st),aj st⟩
    |exact⟨.refl (aJ due),aJ due⟩
    |(simp[*];done)
 | true =>
   cases c1 with
   | false=>
     repeat' (first
  |refine gK ?_|refine aE ?_ ?_
  |(((with_reducible show aH _ _ _ _);refine dK ?_)<;>with_reducible refine wK ?_)
  | apply trivial)
     all_goals first
      |rfl
      |exact⟨.refl (aj st),aj st⟩
      |exact⟨.refl (aJ due),aJ due⟩
      |(simp[*];done)
   | true=>
     by_cases e1:s1=3
     ·(have fct:=(eq_true e1);(repeat' (first
  |refine gF ?_|refine aE ?_ ?_
  | ((first
   |(refine bn.mk i (aR _) e (aI hx) ?_)
   |((with_reducible show aH _ _ _ _);refine dK ?_))<;>with_reducible refine wK ?_)
  |apply trivial));all_goals clear fct)
      all_goals first
       |rfl
       |exact⟨.refl (aj st),aj st⟩
       |exact⟨.refl (aJ due),aJ due⟩
       |(simp[*];done)
     ·(have fct:=(eq_false e1);(repeat' (first
  |refine gF ?_|refine aE ?_ ?_
  |(((with_reducible show aH _ _ _ _);refine dK ?_)<;>with_reducible refine wK ?_)
  |apply trivial));all_goals clear fct)
      all_goals first
       |rfl
       |exact⟨.refl (aj st),aj st⟩
       |exact⟨.refl (aJ due),aJ due⟩
       |(simp[*];done)
end Go.Proofs.Heir
