/- Models, plain laws and contracts of functions of the given program; conditions as stated in each theorem. By an AI agent. -/
import Derived.Test.YtkhjcnjicjgfiaaGreatDoorWD23
import Derived.Test.YtkhjcnjicjgfiaaGreatDoorWD20
import Derived.Test.YtkhjcnjicjgfiaaGreatDoorWD19
import Derived.Test.YtkhjcnjicjgfiaaGreatDoorWD24
import Derived.Test.YtkhjcnjicjgfiaaGreatDoorWD21
import Derived.Test.YtkhjcnjicjgfiaaGreatDoorWD11
import Derived.Test.YtkhjcnjicjgfiaaGreatDoorWD14
import Derived.Test.YtkhjcnjicjgfiaaGreatDoorWD16
set_option linter.unusedSimpArgs false
set_option linter.unusedVariables false
namespace Go.Proofs.Heir
open Go Go.Am Go.RowKit Go.Lib
set_option maxRecDepth 100000
set_option maxHeartbeats 8000000
def iA (l:List ai)(ks:List Int):Nat→List (Int×List (ByteArray×Int))
  |0=>[]
  | j+1=>match ks[j]? with
    |some a=>iW l (iA l ks j) a
    |none=>iA l ks j
theorem Ah (l:List ai)(ks:List Int):∀k,k≤64→wm l (iA l ks k)∧(iA l ks k).length≤k
  |0,_=>⟨ve l,Nat.le_refl _⟩
  | k +1,h=>by
    obtain⟨h1,h2⟩:=Ah l ks k (by omega)
    unfold iA
    cases hk:ks[k]? with
    |none=>exact⟨h1,by show(iA l ks k).length≤_;omega⟩
    | some a=>
      have h3:=vS l (iA l ks k) a
      exact⟨⟨yQ h1.is _,by show(iW l (iA l ks k) a).length≤_;omega⟩,by show(iW l (iA l ks k) a).length≤_;omega⟩
def nS (f:ForM)(x:Int):List Int:=if(aa f.nodes x&&aU f)=true then BV f.nodes x else[]
theorem EF {l:List ai}{x:Int}:j0 (fun a=> !decide (eC l a=x)) (cD l l.length (cT l x))=D1 l x:=by
  unfold j0 D1
  congr 1
  funext a
  simp
theorem GH {m:ML}{fz:Nat→Bool}{tab:List (Nat×Nat)}{n t k:Nat}{ro:Bool}{rows:List AV}{l r:List Int}(h1:dc m t=.live 1 rows ro)(h2:fz t=true)(h3:rows=(l++r).map bu)(h4:k=l.length):sN m fz (MF tab fz m n) (cN l) t 0 k:=by
  subst h3;subst h4
  have e:(l.map bu).length=l.length:=bM ..
  exact .cut h1 h2 (by simp) (by rw[List.drop_zero,gL,List.take_left' e]) (ae l)
theorem vO (l:List Int):ic [cU l]:=⟨bB.ga fun r hr=>by
  obtain⟨a,_,rfl⟩:=List.mem_map.1 hr
  rfl,ae l,trivial⟩
theorem Ke (f:ForM)(hs:bO f.nodes)(n:Int):an Tryz.prog 103 [] [bF f,ay n] [] (cN (nS f n)):=by
  have h15:=ng f hs
  have h73:=CT f
  have h48:=Dh f hs
  have h78:=Ak f hs
  have h83:=Ib f.nodes f.most hs
  have h60:=hs.len
  obtain⟨l,m⟩:=f
  simp only at h73 h48 h78 h60 h83
  have hlm:(l.map cj).length=l.length:=bM ..
  obtain⟨o,ho⟩:∃o,nS ⟨l,m⟩ n=o:=⟨_,rfl⟩
  rw[ho]
  unfold nS at ho
  simp only at ho
  refine an.Ll (rvs:=[.tmp 4]) G aq Tryz.func103 rfl Tryz.ntmps103 rfl rfl ?_;with_reducible refine wD ?_
  refine bD.fit (sl':=[(2,.fptr (bF ⟨l,m⟩) 0),(3,.fptr (ay n) 0),(4,jP)]) (m':=[]) ?_ ?_
  · (refine fK ?_;(with_reducible repeat' (first|exact trivial|(show _∧_;refine aK ?_ ?_)));(all_goals try rfl))
    all_goals first
      |exact⟨2,[bF ⟨l,m⟩],false,bF ⟨l,m⟩,bF ⟨l,m⟩,rfl,rfl,rfl,rfl,rfl,⟨rfl,rfl,trivial⟩⟩
      |exact⟨1,[ay n],false,ay n,ay n,rfl,rfl,rfl,rfl,rfl,rfl⟩
      |exact .inl rfl
      |trace_state
  refine bD.run G aq ?_
  with_reducible refine wK ?_
  cases ht:aa l n with
  | false=>
    have ht':¬ (0≤n∧n< (l.length:Int)):=fun h=>by
      unfold aa at ht;simp[h.1,h.2] at ht
    rw[ht,Bool.false_and,if_neg (by simp)] at ho
    subst ho
    by_cases e1:n<0
    · (have fct:=(eq_true e1);(repeat' (first
    |refine gF ?_
    | ((with_reducible show(_∧_)∧_∧_);(refine eK ?_ ?_<;>with_reducible repeat' (first|exact trivial|(show _∧_;refine aK ?_ ?_))))));all_goals clear fct)
      all_goals exact .inr (.inr ⟨1,rfl⟩)
    · have e2:(l.length:Int)≤n:=by omega
      (have fct:=And.intro (eq_false e1) (And.intro hlm ((eq_true e2)));(repeat' (first
    |refine gF ?_
    | ((with_reducible show(_∧_)∧_∧_);(refine eK ?_ ?_<;>with_reducible repeat' (first|exact trivial|(show _∧_;refine aK ?_ ?_))))));all_goals clear fct)
      all_goals exact .inr (.inr ⟨1,rfl⟩)
  | true =>
    obtain⟨e1,e2⟩:=bQ ht
    have e1':¬n<0:=by omega
    have e2':¬ (l.length:Int)≤n:=by omega
    cases hr:aU ⟨l,m⟩ with
    | false=>
      rw[hr] at h15
      rw[ht,hr,Bool.true_and,if_neg (by simp)] at ho
      subst ho
      (have fct:=And.intro (eq_false e1') (And.intro hlm ((eq_false e2')));(repeat' (first
    |refine gF ?_
    |(((with_reducible show ah _ _ 17 _ _ _ _);refine ah.lit [] h15 yg ⟨⟨rfl,rfl,trivial⟩,trivial⟩ rfl rfl ?_)<;>with_reducible refine wK ?_)
    | ((with_reducible show(_∧_)∧_∧_);(refine eK ?_ ?_<;>with_reducible repeat' (first|exact trivial|(show _∧_;refine aK ?_ ?_))))));all_goals clear fct)
      all_goals exact .inr (.inr ⟨1,rfl⟩)
    | true=>
      rw[hr] at h15
      rw[ht,hr,Bool.true_and,if_pos rfl] at ho
      have T:Tree l:=dY hr
      have h48:=h48 hr n ht
      have hrt:=(jy T n ht).1
      have h78:=h78 (cT l n) (by rw[hr,show aa l (cT l n)=true from hrt];rfl)
      have hol:=lD T l.length hrt
      have hot:∀k∈cD l l.length (cT l n),aa l k=true:=fun k hk=>(pD T hrt hk).1
      have hkp:=EF (l:=l) (x:=n)
      obtain⟨p,hp⟩:∃p:Int→Bool,p=fun a=> !decide (eC l a=n):=⟨_,rfl⟩
      rw[←hp] at hkp
      generalize cD l l.length (cT l n)=ks at h78 hol hot hkp
      have hasks:LW l m n p ks (iA l ks):=fun j a ha=>by
        have hj:=(br ha).1
        have:=h83 hr (iA l ks j) (Ah l ks j (by omega)).1 n a (hot a (bN ha))
        have e:iA l ks (j+1)=iW l (iA l ks j) a:=by show(match ks[j]? with|some a=>iW l (iA l ks j) a|none=>iA l ks j)=_;rw[ha]
        rw[e,hp]
        exact this
      have h82:=IV (show ks.length≤100000 by omega) hasks
      rw[hkp] at h82
      have hk0:iA l ks 0=[]:=rfl
      rw[hk0] at h82
      unfold BV at ho
      generalize D1 l n=mm at h82 ho
      generalize iA l ks ks.length=c2 at h82
      generalize List.replicate (ks.length-mm.length) (0:Int)=gar at h82
      generalize cT l n=r at h48 h78
      obtain⟨i,x,e,hx,hnx⟩:=bp.1 ht
      rw[hnx] at ho
      have h81:=xu x
      obtain⟨fm,hfm⟩:∃fm,bU x=fm:=⟨_,rfl⟩
      rw[hfm] at h81 ho
      obtain⟨a1,a2,a3,a4,a5,a6,a7,a8,a9,a10⟩:=x
      clear hfm
      cases fm with
      | false=>
        rw[if_neg (by simp)] at ho
        subst ho
        (have fct:=And.intro (eq_false e1') (And.intro hlm ((eq_false e2')));(repeat' (first
    |refine gF ?_
    | ((first
      |((with_reducible show ah _ _ 17 _ _ _ _);refine ah.lit [] h15 yg ⟨⟨rfl,rfl,trivial⟩,trivial⟩ rfl rfl ?_)
      |(refine bn.mk i (aR ⟨a1,a2,a3,a4,a5,a6,a7,a8,a9,a10⟩) e (aI hx) ?_)
      |((with_reducible show ah _ _ 163 _ _ _ _);refine ah.lit [] h81 Ei ⟨⟨rfl,rfl,rfl,rfl,rfl,rfl,rfl,rfl,rfl,rfl,trivial⟩,trivial⟩ rfl rfl ?_))<;>with_reducible refine wK ?_)
    | ((with_reducible show(_∧_)∧_∧_);(refine eK ?_ ?_<;>with_reducible repeat' (first|exact trivial|(show _∧_;refine aK ?_ ?_))))));all_goals clear fct)
        all_goals exact .inr (.inr ⟨1,rfl⟩)
      | true=>
        rw[if_pos rfl] at ho
        subst ho
        (have fct:=And.intro (eq_false e1') (And.intro hlm ((eq_false e2')));(repeat' (first
    |refine gF ?_
    | ((first
      |((with_reducible show ah _ _ 17 _ _ _ _);refine ah.lit [] h15 yg ⟨⟨rfl,rfl,trivial⟩,trivial⟩ rfl rfl ?_)
      |(refine bn.mk i (aR ⟨a1,a2,a3,a4,a5,a6,a7,a8,a9,a10⟩) e (aI hx) ?_)
      |((with_reducible show ah _ _ 163 _ _ _ _);refine ah.lit [] h81 Ei ⟨⟨rfl,rfl,rfl,rfl,rfl,rfl,rfl,rfl,rfl,rfl,trivial⟩,trivial⟩ rfl rfl ?_)
      |((with_reducible show ah _ _ 104 _ _ _ _);refine ah.new 301 [] h73 M0 ⟨⟨rfl,rfl,trivial⟩,trivial⟩ rfl rfl rfl ⟨.nil _,rfl,trivial⟩ rfl ?_)
      |((with_reducible show ah _ _ 165 _ _ _ _);refine ah.lit [] h48 MO ⟨⟨rfl,rfl,trivial⟩,rfl,trivial⟩ rfl rfl ?_)
      |((with_reducible show ah _ _ 164 _ _ _ _);refine ah.new 351 [] h78 NC ⟨⟨rfl,rfl,trivial⟩,rfl,trivial⟩ rfl rfl rfl (vO ks) rfl ?_))<;>with_reducible refine wK ?_)
    | ((with_reducible show(_∧_)∧_∧_);(refine eK ?_ ?_<;>with_reducible repeat' (first|exact trivial|(show _∧_;refine aK ?_ ?_))))));all_goals clear fct)
        refine ah.dw (news:=[jN l m 301,fA c2,cU (mm++gar)]) [50,301,351] [] h82 Pf ⟨⟨rfl,rfl⟩,⟨rfl,trivial,⟨rfl,rfl⟩,⟨rfl,rfl⟩,trivial⟩,trivial⟩ (uu rfl rfl rfl) rfl ⟨⟨rfl,rfl⟩,rfl⟩ rfl qi rfl rfl ?_
        with_reducible refine wK ?_
        repeat' (first
    |refine gK ?_
    | ((with_reducible show(_∧_)∧_∧_);(refine eK ?_ ?_<;>with_reducible repeat' (first|exact trivial|(show _∧_;refine aK ?_ ?_)))))
        all_goals first|exact GH rfl rfl rfl rfl|trace_state
def I9 (f:ForM)(d:bw)(cs:List aM)(st:List StateM)(ms:List Int)(k:Nat):List ej:=(ms.take k).flatMap (qq f d cs st)
theorem yN {f:ForM}{d:bw}{cs:List aM}{st:List StateM}{ms:List Int}{k:Nat}{c:Int}(h:ms[k]? =some c):I9 f d cs st ms (k+1)=I9 f d cs st ms k++qq f d cs st c:=by
  unfold I9;rw[List.take_add_one,h,List.flatMap_append];simp
theorem Bw (f:ForM)(d:bw)(cs:List aM)(st:List StateM)(c:Int):(qq f d cs st c).length≤1:=by
  unfold qq
  split
  ·exact qL _ _ _
  ·simp
theorem C3 (f:ForM)(d:bw)(cs:List aM)(st:List StateM)(ms:List Int):∀k,(I9 f d cs st ms k).length≤k
  |0=>Nat.le_refl _
  | k +1=>by
    have:=C3 f d cs st ms k
    cases h:ms[k]? with
    | none=>
      have h1:ms.take (k+1)=ms.take k:=by rw[List.take_add_one,h];simp
      unfold I9 at this ⊢
      rw[h1];omega
    | some c=>
      rw[yN h,j7]
      have:=Bw f d cs st c
      omega
theorem B6 {f:ForM}{st:List StateM}{d:bw}{cs:List aM}{x:Int}(h:gB f st d=true):nC f st d cs x=I9 f d cs st (nS f x) (nS f x).length:=by
  have hr:aU f=true:=by
    unfold gB at h
    simp only[bJ] at h
    exact h.1.2
  unfold nC I9 nS
  rw[List.take_length,hr,h,Bool.and_true]
  cases aa f.nodes x<;>simp
theorem AU {f:ForM}{x c:Int}(h:c∈nS f x):aa f.nodes c=true:=by
  unfold nS at h
  split at h
  · rename_i e
    obtain⟨e1,e2⟩:aa f.nodes x=true∧aU f=true:=by simpa using e
    exact(DU (dY e2) e1 h).1
  ·cases h
theorem F4 {f:ForM}(x:Int):(nS f x).length≤f.nodes.length:=by
  unfold nS
  split
  · rename_i e
    obtain⟨e1,e2⟩:aa f.nodes x=true∧aU f=true:=by simpa using e
    exact IX (dY e2) e1
  ·simp
theorem Ik (f:ForM)(hs:bO f.nodes)(st:List StateM)(hst:st.length≤1000)(d:bw)(hd:nw d)(cs:List aM)(hcs:∀c∈cs,c.hooks.length≤100000)(x:Int):
    an Tryz.prog 106 [] [bF f,eP st,gN d,dN cs,ay x] [] (kj (nC f st d cs x)):=by
  have h64:=rX f hs st (by omega) d hd cs
  obtain⟨od,hod⟩:∃x',nC f st d cs x=x':=⟨_,rfl⟩
  rw[hod]
  obtain⟨lv,hlv⟩:∃lv,gB f st d=lv:=⟨_,rfl⟩
  rw[hlv] at h64
  cases lv with
  | false=>
    have h0:od=[]:=by rw[←hod];unfold nC;rw[hlv];simp
    subst h0
    obtain⟨l,m⟩:=f
    obtain⟨d1,d2,d3,d4⟩:=d
    refine an.aF (rvs:=[.tmp 10]) G aq Tryz.func106 rfl Tryz.ntmps106 rfl rfl ?_;with_reducible refine wD ?_
    refine ah.dw (news:=[bW ⟨l,m⟩ (.own 221 0 st.length) ⟨d1,d2,d3,d4⟩ cs jP,bf st]) [220,221] [] h64 A0 ⟨⟨rfl,rfl,trivial⟩,rfl,⟨rfl,rfl,rfl,rfl,trivial⟩,rfl,trivial⟩ trivial rfl ⟨⟨rfl,rfl⟩,rfl⟩ rfl ⟨⟨rfl,.inr ⟨rfl,rfl,rfl⟩⟩,⟨rfl,.inl ⟨rfl,aj _⟩⟩,trivial⟩ rfl rfl ?_
    with_reducible refine wK ?_
    repeat' (first
    |refine gK ?_
    |((with_reducible show(_∧_)∧_∧_);(refine eK ?_ ?_<;>with_reducible repeat' (first|exact trivial|(show _∧_;refine aK ?_ ?_)))))
    all_goals exact .inr (.inr ⟨_,rfl⟩)
  | true =>
    rw[B6 hlv] at hod
    subst hod
    have hlv':=hlv
    unfold gB at hlv'
    obtain⟨⟨hlen,hr⟩,hrd⟩:(st.length=f.nodes.length∧aU f=true)∧ig d=true:=by simpa using hlv'
    have h43:=Ke f hs x
    have hhk:=fun s=>lO hcs s d
    have h60:=hs.len
    have hml:=F4 (f:=f) x
    have hmt:∀c∈nS f x,∃ (i:Nat) (s:StateM),c=(i:Int)∧st[i]? =some s∧qh st c.toNat=s∧aa f.nodes (i:Int)=true:=fun c hc=>by
      have ht:=AU hc
      obtain⟨i,y,e,hy,_⟩:=bp.1 ht
      have hi:=(br hy).1
      obtain⟨s,hs'⟩:∃s,st[i]? =some s:=⟨_,bh (by omega)⟩
      subst e
      exact⟨i,s,rfl,hs',by rw[Int.toNat_natCast];exact Bm hs',ht⟩
    have hstep:=fun k c (h:(nS f x)[k]? =some c)=>yN (f:=f) (d:=d) (cs:=cs) (st:=st) h
    have hRD:∀c,qq f d cs st c=if ia f d cs c (qh st c.toNat)=true then iG (cJ (qh st c.toNat) d cs) c fF else[]:=fun c=>rfl
    have hdlen:=C3 f d cs st (nS f x)
    have h0:I9 f d cs st (nS f x) 0=[]:=rfl
    have h65:=fun(due:List ej) (k:Nat) (s:StateM) (h2:st[k]? =some s) (h3:aa f.nodes (k:Int)=true)=>zl f st st.length rfl d cs due k s h2 h3
    generalize I9 f d cs st (nS f x)=du at hstep hdlen h0
    generalize nS f x=ms at h43 hml hmt hstep
    have hmm:(ms.map bu).length=ms.length:=bM ..
    obtain⟨l,m⟩:=f
    obtain⟨d1,d2,d3,d4⟩:=d
    simp only at hlen h60 hml
    refine an.aF (rvs:=[.tmp 10]) G aq Tryz.func106 rfl Tryz.ntmps106 rfl rfl ?_;with_reducible refine wD ?_
    refine ah.dw (news:=[bW ⟨l,m⟩ (.own 221 0 st.length) ⟨d1,d2,d3,d4⟩ cs jP,bf st]) [220,221] [] h64 A0 ⟨⟨rfl,rfl,trivial⟩,rfl,⟨rfl,rfl,rfl,rfl,trivial⟩,rfl,trivial⟩ trivial rfl ⟨⟨rfl,rfl⟩,rfl⟩ rfl ⟨⟨rfl,.inr ⟨rfl,rfl,rfl⟩⟩,⟨rfl,.inl ⟨rfl,aj _⟩⟩,trivial⟩ rfl rfl ?_
    with_reducible refine wK ?_
    repeat' (first
    |refine gK ?_
    |(((with_reducible show ah _ _ 103 _ _ _ _);refine ah.val [] h43 OX ⟨⟨rfl,rfl,trivial⟩,rfl,trivial⟩ rfl rfl rfl ?_)<;>with_reducible refine wK ?_)
    |((with_reducible show(_∧_)∧_∧_);(refine eK ?_ ?_<;>with_reducible repeat' (first|exact trivial|(show _∧_;refine aK ?_ ?_)))))
    refine bD.gW 11 220 228 11 0 8 (Ai ⟨l,m⟩ (.own 221 0 st.length) ⟨d1,d2,d3,d4⟩ cs jP) (Ai ⟨l,m⟩ (.own 221 0 st.length) ⟨d1,d2,d3,d4⟩ cs (.own 228 0 0)) rfl rfl rfl rfl rfl rfl ?_
    refine bD.use G aq (fun(k:Nat)=>[(11,.ptr 220 0 0),(29,cN ms),(30,ay ms.length),(31,ay k)])
      (fun k=>[(220,bW ⟨l,m⟩ (.own 221 0 st.length) ⟨d1,d2,d3,d4⟩ cs (.own 228 0 (du k).length)),(221,bf st),(228,cA (du k))])
      (fun k=>k≤ms.length) (fun k=>ms.length-k) 0 (Nat.zero_le _) ?_ ?_
    · rw [h0]
      (refine fK ?_;(with_reducible repeat' (first|exact trivial|(show _∧_;refine aK ?_ ?_)));(all_goals try rfl))
      all_goals first
        |(show(ms.length:Int)=_;rw[hmm])
        |exact⟨⟨rfl,rfl,⟨rfl,rfl⟩,rfl,rfl,rfl,rfl,rfl,⟨rfl,rfl⟩,trivial⟩,trivial⟩
        |exact⟨.refl (aj st),aj st⟩
        |(show o3 _ [] [];exact⟨.refl rfl,rfl⟩)
        |trace_state
    intro k hk
    have hdl:=hdlen k
    with_reducible refine wK ?_
    refine aL.mk (fun h1=>?_) (fun h1=>?_)<;>(try simp only[ak] at h1)<;>with_reducible refine wK ?_
    · have hk':k<ms.length:=by simp only[bH] at h1;omega
      obtain⟨c,hc⟩:∃c,ms[k]? =some c:=⟨_,bh hk'⟩
      obtain⟨i,s,ei,hsi,hsa,hti⟩:=hmt c (bN hc)
      subst ei
      have h65:=h65 (du k) i s hsi hti
      have hst1:=hstep k _ hc
      rw[hRD,hsa] at hst1
      have hhk:=hhk s
      clear hmt hstep hRD hsa h64 h43
      obtain⟨dy,hdy⟩:∃dy,ia ⟨l,m⟩ ⟨d1,d2,d3,d4⟩ cs (i:Int) s=dy:=⟨_,rfl⟩
      rw[hdy] at h65 hst1
      generalize hcv:cJ s ⟨d1,d2,d3,d4⟩ cs=cv at*
      generalize du k=D at*
      obtain⟨c1,c2,c3,c4,c5⟩:=cv
      refine bn.mk k (ay (i:Int)) rfl (iy hc) ?_;with_reducible refine wK ?_
      refine ah.dw (news:=[bW ⟨l,m⟩ (.own 221 0 st.length) ⟨d1,d2,d3,d4⟩ cs (.own 228 0 D.length),bf st,cA D]) [220,221,228] [] h65 Lg ⟨⟨rfl,rfl⟩,rfl,trivial⟩ (eX rfl rfl rfl) rfl ⟨⟨rfl,rfl⟩,rfl⟩ rfl gG rfl rfl ?_
      with_reducible refine wK ?_
      cases dy with
      | false=>
        rw[if_neg (by simp),List.append_nil] at hst1
        repeat' (first
    |refine gK ?_
    | ((with_reducible show(_∧_)∧_∧_);(refine eK ?_ ?_<;>with_reducible repeat' (first|exact trivial|(show _∧_;refine aK ?_ ?_)))))
        refine aT.mk (k+1) (by omega) (by omega) ?_
        rw[hst1]
        (refine fK ?_;(with_reducible repeat' (first|exact trivial|(show _∧_;refine aK ?_ ?_)));(all_goals try rfl))
        all_goals first
          |exact⟨.refl (aj _),aj _⟩
          |exact⟨.refl (aJ _),aJ _⟩
          |(simp;done)
          |trace_state
      | true=>
        rw[if_pos rfl] at hst1
        repeat' (first
    |refine gK ?_
    | ((with_reducible show(_∧_)∧_∧_);(refine eK ?_ ?_<;>with_reducible repeat' (first|exact trivial|(show _∧_;refine aK ?_ ?_)))))
        cases hw:cG ⟨c1,c2,c3,c4,c5⟩ 7 with
        | true=>
          rw[jt (show cG _ fF.kind=true from hw)] at hst1
          have h66:=zJ ⟨l,m⟩ st ⟨d1,d2,d3,d4⟩ cs D (by omega) ⟨c1,c2,c3,c4,c5⟩ hhk (i:Int) fF hw
          have hFl:(D++ ([⟨(i:Int),fF⟩]:List ej)).length=D.length+1:=by simp
          refine ah.dw (news:=[bW ⟨l,m⟩ (.own 221 0 st.length) ⟨d1,d2,d3,d4⟩ cs (.own 911 0 (D.length+1)),bf st,.dead,cA (D++ [⟨(i:Int),fF⟩])]) [220,221,228,911] [] h66 rV ⟨⟨rfl,rfl⟩,⟨rfl,rfl,rfl,rfl,rfl,trivial⟩,rfl,⟨rfl,rfl,rfl,rfl,rfl,rfl,rfl,rfl,rfl,rfl,trivial⟩,trivial⟩ (eX rfl rfl rfl) rfl ⟨⟨rfl,rfl⟩,rfl⟩ rfl kU rfl rfl ?_
          with_reducible refine wK ?_
          repeat' (first
    |refine gK ?_
    | ((with_reducible show(_∧_)∧_∧_);(refine eK ?_ ?_<;>with_reducible repeat' (first|exact trivial|(show _∧_;refine aK ?_ ?_)))))
          refine aT.mk (k+1) (by omega) (by omega) ?_
          rw[hst1]
          (refine fK ?_;(with_reducible repeat' (first|exact trivial|(show _∧_;refine aK ?_ ?_)));(all_goals try rfl))
          all_goals first
            |exact⟨.refl (aj _),aj _⟩
            |exact⟨.refl (aJ _),aJ _⟩
            |(simp;done)
            |trace_state
        | false=>
          rw[kG (show cG _ fF.kind=false from hw),List.append_nil] at hst1
          have h66:=C8 ⟨l,m⟩ st ⟨d1,d2,d3,d4⟩ cs D ⟨c1,c2,c3,c4,c5⟩ hhk (i:Int) fF hw
          refine ah.dw (news:=[bW ⟨l,m⟩ (.own 221 0 st.length) ⟨d1,d2,d3,d4⟩ cs (.own 228 0 D.length),bf st,cA D]) [220,221,228] [] h66 rV ⟨⟨rfl,rfl⟩,⟨rfl,rfl,rfl,rfl,rfl,trivial⟩,rfl,⟨rfl,rfl,rfl,rfl,rfl,rfl,rfl,rfl,rfl,rfl,trivial⟩,trivial⟩ (eX rfl rfl rfl) rfl ⟨⟨rfl,rfl⟩,rfl⟩ rfl gG rfl rfl ?_
          with_reducible refine wK ?_
          repeat' (first
    |refine gK ?_
    |((with_reducible show(_∧_)∧_∧_);(refine eK ?_ ?_<;>with_reducible repeat' (first|exact trivial|(show _∧_;refine aK ?_ ?_)))))
          refine aT.mk (k+1) (by omega) (by omega) ?_
          rw[hst1]
          (refine fK ?_;(with_reducible repeat' (first|exact trivial|(show _∧_;refine aK ?_ ?_)));(all_goals try rfl))
          all_goals first
            |exact⟨.refl (aj _),aj _⟩
            |exact⟨.refl (aJ _),aJ _⟩
            |(simp;done)
            |trace_state
    · have hjl:k=ms.length:=by simp only[dG] at h1;omega
      subst hjl
      repeat' (first
    |refine gK ?_
    |(((with_reducible show aH _ _ _ _);refine dK ?_)<;>with_reducible refine wK ?_)
    | ((with_reducible show(_∧_)∧_∧_);(refine eK ?_ ?_<;>with_reducible repeat' (first|exact trivial|(show _∧_;refine aK ?_ ?_)))))
      all_goals first|exact qT rfl rfl rfl rfl|trace_state
theorem qt {m:ML}{b s:Nat}{f:ForM}{st:List StateM}{d:bw}{cs:List aM}{n:Nat}(hb:dc m b=bW f (.own s 0 n) d cs jP)(hs:dc m s=bf st){r:List Nat}:oU (kO 2 0 (b::s::r)) [] m [bW f (.own 1 0 n) d cs jP,bf st] (b::s::r):=by
  simp only[oU,hb,hs]
  refine⟨⟨trivial,.inr ⟨⟨⟨rfl,rfl,?_,rfl,rfl,rfl,rfl,rfl,.inl rfl,trivial⟩,trivial⟩,rfl⟩⟩,⟨trivial,.inl ⟨rfl,aj _⟩⟩,trivial⟩
  all_goals (simp[MF,kO,mJ,Nat.beq_refl])
theorem uJ {b s:Nat}{f:ForM}{st:List StateM}{d:bw}{cs:List aM}{n:Nat}:l8 [b,s] [bW f (.own 1 0 n) d cs jP,bf st] [bW f (.own s 0 n) d cs jP,bf st]:=
  ⟨⟨rfl,.inr ⟨rfl,rfl,rfl⟩⟩,⟨rfl,.inl ⟨rfl,aj _⟩⟩,trivial⟩
theorem Hf (f:ForM)(st:List StateM)(ns:Nat)(hns:st.length=ns)(d:bw)(cs:List aM)(k:Nat)(s:StateM)(hk:st[k]? =some s)(ht:aa f.nodes (k:Int)=true):
    an Tryz.prog 112 [bW f (.own 1 0 ns) d cs jP,bf st] [.ptr 0 0 0,ay k] [bW f (.own 1 0 ns) d cs jP,bf st] (.tup [fD (cJ s d cs),aX (ia f d cs k s)]):=by
  have hkl:=(br hk).1
  have h36:=Dw s d cs
  unfold ia
  obtain⟨i,x,e,hx,hnx⟩:=bp.1 ht
  rw[hnx]
  obtain⟨l,m⟩:=f
  obtain⟨d1,d2,d3,d4⟩:=d
  obtain⟨cv,hcv⟩:∃cv,cJ s ⟨d1,d2,d3,d4⟩ cs=cv:=⟨_,rfl⟩
  obtain⟨cb,hcb⟩:∃cb,jK s ⟨d1,d2,d3,d4⟩ cs=cb:=⟨_,rfl⟩
  rw[hcv,hcb] at h36 ⊢
  obtain⟨s1,s2,s3,s4⟩:=s
  obtain⟨c1,c2,c3,c4,c5⟩:=cv
  obtain⟨a1,a2,a3,a4,a5,a6,a7,a8,a9,a10⟩:=x
  simp only at hx
  clear hcv hcb
  refine an.aF (rvs:=[.cell 4 154,.tmp 5]) G aq Tryz.func112 rfl Tryz.ntmps112 rfl rfl ?_;with_reducible refine wD ?_
  repeat' (first
    |refine gK ?_
    | ((first
      |(refine bn.mk i (aR ⟨a1,a2,a3,a4,a5,a6,a7,a8,a9,a10⟩) e (aI hx) ?_)
      |((with_reducible show gX _ _ _ _ _);refine gX.mk k rfl (by omega) ?_)
      |((with_reducible show bE _ _ _ _ _);refine bE.mk (gO ⟨s1,s2,s3,s4⟩) (by rw[Nat.zero_add];exact fP hk) ?_)
      |((with_reducible show ah _ _ 171 _ _ _ _);refine ah.val [] h36 Nx ⟨⟨rfl,rfl,rfl,rfl,trivial⟩,⟨rfl,rfl,rfl,rfl,trivial⟩,rfl,trivial⟩ rfl rfl rfl ?_)
      |((with_reducible show aH _ _ _ _);refine dK ?_))<;>with_reducible refine wK ?_)
    |((with_reducible show(_∧_)∧_∧_);(refine eK ?_ ?_<;>with_reducible repeat' (first|exact trivial|(show _∧_;refine aK ?_ ?_)))))
  cases cb with
  | false=>
    repeat' (first
    |refine gK ?_
    |(((with_reducible show aH _ _ _ _);refine dK ?_)<;>with_reducible refine wK ?_)
    |((with_reducible show(_∧_)∧_∧_);(refine eK ?_ ?_<;>with_reducible repeat' (first|exact trivial|(show _∧_;refine aK ?_ ?_)))))
    all_goals first
      |rfl
      |exact⟨.refl (aj st),aj st⟩
      |exact .inl rfl
      |(simp[*];done)
      |trace_state
  | true =>
    cases c1 with
    | false=>
      repeat' (first
    |refine gK ?_
    |(((with_reducible show aH _ _ _ _);refine dK ?_)<;>with_reducible refine wK ?_)
    | ((with_reducible show(_∧_)∧_∧_);(refine eK ?_ ?_<;>with_reducible repeat' (first|exact trivial|(show _∧_;refine aK ?_ ?_)))))
      all_goals first
        |rfl
        |exact⟨.refl (aj st),aj st⟩
        |exact .inl rfl
        |(simp[*];done)
        |trace_state
    | true=>
      by_cases e1:s1=3
      · (have fct:=(eq_true e1);(repeat' (first
    |refine gF ?_
    | ((first
      |(refine bn.mk i (aR ⟨a1,a2,a3,a4,a5,a6,a7,a8,a9,a10⟩) e (aI hx) ?_)
      |((with_reducible show aH _ _ _ _);refine dK ?_))<;>with_reducible refine wK ?_)
    | ((with_reducible show(_∧_)∧_∧_);(refine eK ?_ ?_<;>with_reducible repeat' (first|exact trivial|(show _∧_;refine aK ?_ ?_))))));all_goals clear fct)
        all_goals first
          |rfl
          |exact⟨.refl (aj st),aj st⟩
          |exact .inl rfl
          |(simp[*];done)
          |trace_state
      · (have fct:=(eq_false e1);(repeat' (first
    |refine gF ?_
    |(((with_reducible show aH _ _ _ _);refine dK ?_)<;>with_reducible refine wK ?_)
    | ((with_reducible show(_∧_)∧_∧_);(refine eK ?_ ?_<;>with_reducible repeat' (first|exact trivial|(show _∧_;refine aK ?_ ?_))))));all_goals clear fct)
        all_goals first
          |rfl
          |exact⟨.refl (aj st),aj st⟩
          |exact .inl rfl
          |(simp[*];done)
          |trace_state
theorem EO (f:ForM)(st:List StateM)(d:bw)(cs:List aM)(c:aM)(hc:c.hooks.length≤100000)(n:Int)(t:gi)(hh:cG c t.kind=true):
    an Tryz.prog 113 [bW f (.own 1 0 st.length) d cs jP,bf st] [.ptr 0 0 0,fD c,ay n,uK t]
      [bW f (.own 1 0 st.length) d cs (.own 2 0 1),bf st,cA [⟨n,t⟩]] (.tup []):=by
  have h37:=r7 c hc t.kind
  rw[hh] at h37
  obtain⟨l,m⟩:=f
  obtain⟨d1,d2,d3,d4⟩:=d
  obtain⟨c1,c2,c3,c4,c5⟩:=c
  obtain⟨t1,t2,t3,t4,t5,t6,t7,t8,t9,t10⟩:=t
  simp only at h37
  refine an.Gq (rvs:=[]) G aq Tryz.func113 rfl Tryz.ntmps113 rfl rfl ?_;with_reducible refine wD ?_
  repeat' (first
    |refine gK ?_
    | ((first
      |((with_reducible show ah _ _ 172 _ _ _ _);refine ah.lit [] h37 J2 ⟨⟨rfl,rfl,rfl,rfl,rfl,trivial⟩,rfl,trivial⟩ rfl rfl ?_)
      |((with_reducible show jR _ _ _ _ _ _ _ _ _ _);refine jR.mk [] [mP ⟨n,⟨t1,t2,t3,t4,t5,t6,t7,t8,t9,t10⟩⟩] ⟨rfl,rfl,rfl⟩ ⟨rfl,rfl,rfl⟩ rfl (by simp) (by simp) ?_)
      |((with_reducible show aH _ _ _ _);refine dK ?_))<;>with_reducible refine wK ?_)
    |((with_reducible show(_∧_)∧_∧_);(refine eK ?_ ?_<;>with_reducible repeat' (first|exact trivial|(show _∧_;refine aK ?_ ?_)))))
  all_goals first
    |(simp;done)
    |exact⟨.refl (aj st),aj st⟩
    |exact⟨.refl (aJ [⟨n,⟨t1,t2,t3,t4,t5,t6,t7,t8,t9,t10⟩⟩]),aJ [⟨n,⟨t1,t2,t3,t4,t5,t6,t7,t8,t9,t10⟩⟩]⟩
    |trace_state
theorem Gl (f:ForM)(st:List StateM)(d:bw)(cs:List aM)(c:aM)(hc:c.hooks.length≤100000)(n:Int)(t:gi)(hh:cG c t.kind=false):
    an Tryz.prog 113 [bW f (.own 1 0 st.length) d cs jP,bf st] [.ptr 0 0 0,fD c,ay n,uK t]
      [bW f (.own 1 0 st.length) d cs jP,bf st] (.tup []):=by
  have h37:=r7 c hc t.kind
  rw[hh] at h37
  obtain⟨l,m⟩:=f
  obtain⟨d1,d2,d3,d4⟩:=d
  obtain⟨c1,c2,c3,c4,c5⟩:=c
  obtain⟨t1,t2,t3,t4,t5,t6,t7,t8,t9,t10⟩:=t
  simp only at h37
  refine an.aF (rvs:=[]) G aq Tryz.func113 rfl Tryz.ntmps113 rfl rfl ?_;with_reducible refine wD ?_
  repeat' (first
    |refine gK ?_
    |(((with_reducible show ah _ _ 172 _ _ _ _);refine ah.lit [] h37 J2 ⟨⟨rfl,rfl,rfl,rfl,rfl,trivial⟩,rfl,trivial⟩ rfl rfl ?_)<;>with_reducible refine wK ?_)
    |((with_reducible show(_∧_)∧_∧_);(refine eK ?_ ?_<;>with_reducible repeat' (first|exact trivial|(show _∧_;refine aK ?_ ?_)))))
  all_goals first
    |exact⟨.refl (aj st),aj st⟩
    |exact .inl rfl
    |trace_state
theorem Kg (f:ForM)(hs:bO f.nodes)(st:List StateM)(hst:st.length≤1000)(d:bw)(hd:nw d)(cs:List aM)(hcs:∀c∈cs,c.hooks.length≤100000)(n:Int)(s:ByteArray):
    an Tryz.prog 107 [] [bF f,eP st,gN d,dN cs,ay n,cw s] [] (kj (nQ f st d cs n s)):=by
  have h64:=rX f hs st (by omega) d hd cs
  obtain⟨od,hod⟩:∃x',nQ f st d cs n s=x':=⟨_,rfl⟩
  rw[hod]
  obtain⟨lv,hlv⟩:∃lv,gB f st d=lv:=⟨_,rfl⟩
  rw[hlv] at h64
  unfold nQ at hod
  rw[hlv] at hod
  have hsm:(st.map eR).length=st.length:=bM ..
  cases lv with
  | false=>
    rw[if_neg (by simp)] at hod
    subst hod
    obtain⟨l,m⟩:=f
    obtain⟨d1,d2,d3,d4⟩:=d
    refine an.aF (rvs:=[.tmp 12]) G aq Tryz.func107 rfl Tryz.ntmps107 rfl rfl ?_;with_reducible refine wD ?_
    refine ah.dw (news:=[bW ⟨l,m⟩ (.own 221 0 st.length) ⟨d1,d2,d3,d4⟩ cs jP,bf st]) [220,221] [] h64 A0 ⟨⟨rfl,rfl,trivial⟩,rfl,⟨rfl,rfl,rfl,rfl,trivial⟩,rfl,trivial⟩ trivial rfl ⟨⟨rfl,rfl⟩,rfl⟩ rfl ⟨⟨rfl,.inr ⟨rfl,rfl,rfl⟩⟩,⟨rfl,.inl ⟨rfl,aj _⟩⟩,trivial⟩ rfl rfl ?_
    with_reducible refine wK ?_
    repeat' (first
    |refine gK ?_
    |((with_reducible show(_∧_)∧_∧_);(refine eK ?_ ?_<;>with_reducible repeat' (first|exact trivial|(show _∧_;refine aK ?_ ?_)))))
    all_goals exact .inr (.inr ⟨_,rfl⟩)
  | true =>
    have hlv':=hlv
    unfold gB at hlv'
    obtain⟨⟨hlen,hr⟩,hrd⟩:(st.length=f.nodes.length∧aU f=true)∧ig d=true:=by simpa using hlv'
    have hhk:=fun s=>lO hcs s d
    have h65:=fun(k:Nat) (s:StateM) (h2:st[k]? =some s) (h3:aa f.nodes (k:Int)=true)=>Hf f st st.length rfl d cs k s h2 h3
    cases ht:aa f.nodes n with
    | false=>
      rw[ht,if_neg (by simp)] at hod
      subst hod
      obtain⟨l,m⟩:=f
      obtain⟨d1,d2,d3,d4⟩:=d
      simp only at hlen ht
      have ht':¬ (0≤n∧n< (l.length:Int)):=fun h=>by
        unfold aa at ht;simp[h.1,h.2] at ht
      refine an.aF (rvs:=[.tmp 12]) G aq Tryz.func107 rfl Tryz.ntmps107 rfl rfl ?_;with_reducible refine wD ?_
      refine ah.dw (news:=[bW ⟨l,m⟩ (.own 221 0 st.length) ⟨d1,d2,d3,d4⟩ cs jP,bf st]) [220,221] [] h64 A0 ⟨⟨rfl,rfl,trivial⟩,rfl,⟨rfl,rfl,rfl,rfl,trivial⟩,rfl,trivial⟩ trivial rfl ⟨⟨rfl,rfl⟩,rfl⟩ rfl ⟨⟨rfl,.inr ⟨rfl,rfl,rfl⟩⟩,⟨rfl,.inl ⟨rfl,aj _⟩⟩,trivial⟩ rfl rfl ?_
      with_reducible refine wK ?_
      by_cases e1:n<0
      · (have fct:=(eq_true e1);(repeat' (first
    |refine gF ?_
    | ((with_reducible show(_∧_)∧_∧_);(refine eK ?_ ?_<;>with_reducible repeat' (first|exact trivial|(show _∧_;refine aK ?_ ?_))))));all_goals clear fct)
        all_goals exact .inr (.inr ⟨_,rfl⟩)
      · have e2:(st.length:Int)≤n:=by omega
        (have fct:=And.intro (eq_false e1) (And.intro hsm ((eq_true e2)));(repeat' (first
    |refine gF ?_
    | ((with_reducible show(_∧_)∧_∧_);(refine eK ?_ ?_<;>with_reducible repeat' (first|exact trivial|(show _∧_;refine aK ?_ ?_))))));all_goals clear fct)
        all_goals exact .inr (.inr ⟨_,rfl⟩)
    | true=>
      rw[ht,if_pos ⟨rfl,rfl⟩] at hod
      obtain⟨i,y,ei,hy,_⟩:=bp.1 ht
      subst ei
      have hi:=(br hy).1
      obtain⟨q,hq⟩:∃q,st[i]? =some q:=⟨_,bh (by omega)⟩
      have h65:=h65 i q hq ht
      rw[Int.toNat_natCast,Bm hq] at hod
      have hhk:=hhk q
      have hi1:i<st.length:=by omega
      clear h64 hy
      have h64:=rX f hs st (by omega) d hd cs
      rw[hlv] at h64
      obtain⟨dy,hdy⟩:∃dy,ia f d cs (i:Int) q=dy:=⟨_,rfl⟩
      rw[hdy] at h65 hod
      generalize hcv:cJ q d cs=cv at*
      obtain⟨l,m⟩:=f
      obtain⟨d1,d2,d3,d4⟩:=d
      obtain⟨c1,c2,c3,c4,c5⟩:=cv
      have e1:¬ ((i:Int)<0):=by omega
      have e2:¬ ((st.length:Int)≤ (i:Int)):=by omega
      refine an.aF (rvs:=[.tmp 12]) G aq Tryz.func107 rfl Tryz.ntmps107 rfl rfl ?_;with_reducible refine wD ?_
      refine ah.dw (news:=[bW ⟨l,m⟩ (.own 221 0 st.length) ⟨d1,d2,d3,d4⟩ cs jP,bf st]) [220,221] [] h64 A0 ⟨⟨rfl,rfl,trivial⟩,rfl,⟨rfl,rfl,rfl,rfl,trivial⟩,rfl,trivial⟩ trivial rfl ⟨⟨rfl,rfl⟩,rfl⟩ rfl ⟨⟨rfl,.inr ⟨rfl,rfl,rfl⟩⟩,⟨rfl,.inl ⟨rfl,aj _⟩⟩,trivial⟩ rfl rfl ?_
      with_reducible refine wK ?_
      (have fct:=And.intro (eq_false e1) (And.intro hsm ((eq_false e2)));(repeat' (first
    |refine gF ?_
    | ((with_reducible show(_∧_)∧_∧_);(refine eK ?_ ?_<;>with_reducible repeat' (first|exact trivial|(show _∧_;refine aK ?_ ?_))))));all_goals clear fct)
      refine ah.dw (news:=[bW ⟨l,m⟩ (.own 221 0 st.length) ⟨d1,d2,d3,d4⟩ cs jP,bf st]) [220,221] [] h65 Lg ⟨⟨rfl,rfl⟩,rfl,trivial⟩ (qt rfl rfl) rfl ⟨⟨rfl,rfl⟩,rfl⟩ rfl uJ rfl rfl ?_
      with_reducible refine wK ?_
      cases dy with
      | false=>
        rw[if_neg (by simp)] at hod
        subst hod
        repeat' (first
    |refine gK ?_
    |(((with_reducible show aH _ _ _ _);refine dK ?_)<;>with_reducible refine wK ?_)
    | ((with_reducible show(_∧_)∧_∧_);(refine eK ?_ ?_<;>with_reducible repeat' (first|exact trivial|(show _∧_;refine aK ?_ ?_)))))
        all_goals exact .inr (.inr ⟨_,rfl⟩)
      | true=>
        rw[if_pos rfl] at hod
        repeat' (first
    |refine gK ?_
    | ((with_reducible show(_∧_)∧_∧_);(refine eK ?_ ?_<;>with_reducible repeat' (first|exact trivial|(show _∧_;refine aK ?_ ?_)))))
        cases hw:cG ⟨c1,c2,c3,c4,c5⟩ 8 with
        | true=>
          rw[jt (show cG _ (fM s).kind=true from hw)] at hod
          subst hod
          have h66:=EO ⟨l,m⟩ st ⟨d1,d2,d3,d4⟩ cs ⟨c1,c2,c3,c4,c5⟩ hhk (i:Int) (fM s) hw
          refine ah.dw (news:=[bW ⟨l,m⟩ (.own 221 0 st.length) ⟨d1,d2,d3,d4⟩ cs (.own 911 0 1),bf st,cA [⟨(i:Int),fM s⟩]]) [220,221,911] [] h66 rV ⟨⟨rfl,rfl⟩,⟨rfl,rfl,rfl,rfl,rfl,trivial⟩,rfl,⟨rfl,rfl,rfl,rfl,rfl,rfl,rfl,rfl,rfl,rfl,trivial⟩,trivial⟩ (qt rfl rfl) rfl ⟨⟨rfl,rfl⟩,rfl⟩ rfl gG rfl rfl ?_
          with_reducible refine wK ?_
          repeat' (first
    |refine gK ?_
    |(((with_reducible show aH _ _ _ _);refine dK ?_)<;>with_reducible refine wK ?_)
    | ((with_reducible show(_∧_)∧_∧_);(refine eK ?_ ?_<;>with_reducible repeat' (first|exact trivial|(show _∧_;refine aK ?_ ?_)))))
          all_goals exact qT rfl rfl rfl rfl
        | false=>
          rw[kG (show cG _ (fM s).kind=false from hw)] at hod
          subst hod
          have h66:=Gl ⟨l,m⟩ st ⟨d1,d2,d3,d4⟩ cs ⟨c1,c2,c3,c4,c5⟩ hhk (i:Int) (fM s) hw
          refine ah.dw (news:=[bW ⟨l,m⟩ (.own 221 0 st.length) ⟨d1,d2,d3,d4⟩ cs jP,bf st]) [220,221] [] h66 rV ⟨⟨rfl,rfl⟩,⟨rfl,rfl,rfl,rfl,rfl,trivial⟩,rfl,⟨rfl,rfl,rfl,rfl,rfl,rfl,rfl,rfl,rfl,rfl,trivial⟩,trivial⟩ (qt rfl rfl) rfl ⟨⟨rfl,rfl⟩,rfl⟩ rfl uJ rfl rfl ?_
          with_reducible refine wK ?_
          repeat' (first
    |refine gK ?_
    |(((with_reducible show aH _ _ _ _);refine dK ?_)<;>with_reducible refine wK ?_)
    |((with_reducible show(_∧_)∧_∧_);(refine eK ?_ ?_<;>with_reducible repeat' (first|exact trivial|(show _∧_;refine aK ?_ ?_)))))
          all_goals exact .inr (.inr ⟨_,rfl⟩)
def J4 (s:ByteArray):List MS:=[.live 5 [.agg [.own 1 0 2,.lit (.int .i64 (400)),.lit (.int .i64 (0)),.lit (.string s),.lit (.bool false)]] false,.live 10 [.agg [.lit (.int .i64 (0)),.lit (.string ⟨⟨[]⟩⟩),.lit (.string ⟨⟨[]⟩⟩),.lit (.string ⟨⟨[]⟩⟩),.lit (.slice none 0 0),.lit (.int .i64 (-1)),.lit (.slice none 0 0),.lit (.int .i64 (-1)),.lit (.int .i64 (-1)),.lit (.int .i64 (0))],.agg [.lit (.int .i64 (1)),.lit (.string ⟨⟨[102,111,114,109]⟩⟩),.lit (.string ⟨⟨[]⟩⟩),.lit (.string ⟨⟨[]⟩⟩),.lit (.slice none 0 0),.lit (.int .i64 (-1)),.lit (.slice none 0 0),.lit (.int .i64 (-1)),.lit (.int .i64 (-1)),.lit (.int .i64 (0))]] false]
def NJ:yl:=⟨219,J4 ⟨⟨[34,34,62,60,47,120,45,97,62,60,47,102,111,114,109,62]⟩⟩,[.ptr 0 0 0,.lit (.string ⟨⟨[34]⟩⟩)],J4 ⟨⟨[34,62,60,47,120,45,97,62,60,47,102,111,114,109,62]⟩⟩,.tup []⟩
theorem J0:yz Ma 1000 60 NJ.g NJ.ins NJ.args=some (NJ.outs,NJ.res):=by kernel_rfl
def O3:yl:=⟨205,J4 ⟨⟨[34,34,62,60,47,120,45,97,62,60,47,102,111,114,109,62]⟩⟩,[.ptr 0 0 0],J4 ⟨⟨[62,60,47,120,45,97,62,60,47,102,111,114,109,62]⟩⟩,.lit (.string ⟨⟨[]⟩⟩)⟩
theorem Mm:O3.OK Tryz.prog:=⟨J7 (.own 1 0 2) (.lit (.int .i64 400)) (.lit (.int .i64 0)) _ [] [62,60,47,120,45,97,62,60,47,102,111,114,109,62] _ (by decide) (by decide) (yl.of vz J0).1,MV⟩
theorem Ng:∀r∈ [O3],r.OK Tryz.prog:=yl.cons Mm (fun _ h=>by cases h)
def dR:yl:=⟨54,[],[.lit (.string ⟨⟨[60,102,111,114,109,62,60,120,45,97,32,100,105,115,97,98,108,101,100,61,34,34,62,60,47,120,45,97,62,60,47,102,111,114,109,62]⟩⟩),.lit (.int .i64 (9))],[.live 10 [.agg [.lit (.int .i64 (0)),.lit (.string ⟨⟨[]⟩⟩),.lit (.string ⟨⟨[]⟩⟩),.lit (.string ⟨⟨[]⟩⟩),.lit (.slice none 0 0),.lit (.int .i64 (-1)),.lit (.slice none 0 0),.lit (.int .i64 (-1)),.lit (.int .i64 (-1)),.lit (.int .i64 (0))],.agg [.lit (.int .i64 (1)),.lit (.string ⟨⟨[102,111,114,109]⟩⟩),.lit (.string ⟨⟨[]⟩⟩),.lit (.string ⟨⟨[]⟩⟩),.lit (.slice none 0 0),.lit (.int .i64 (-1)),.own 1 0 1,.lit (.int .i64 (-1)),.lit (.int .i64 (-1)),.lit (.int .i64 (0))],.agg [.lit (.int .i64 (1)),.lit (.string ⟨⟨[120,45,97]⟩⟩),.lit (.string ⟨⟨[]⟩⟩),.lit (.string ⟨⟨[]⟩⟩),.own 2 0 1,.lit (.int .i64 (1)),.lit (.slice none 0 0),.lit (.int .i64 (-1)),.lit (.int .i64 (-1)),.lit (.int .i64 (0))]] false,.live 1 [.lit (.int .i64 (2))] false,.live 2 [.agg [.lit (.string ⟨⟨[100,105,115,97,98,108,101,100]⟩⟩),.lit (.string ⟨⟨[]⟩⟩)]] false],.tup [.agg [.own 0 0 3,.lit (.int .i64 (9))],.lit (.int .i64 (1)),.lit (.int .i64 (0))]⟩
theorem Mo:yz (Ma.more [O3]) 1000 60 dR.g dR.ins dR.args=some (dR.outs,dR.res):=by kernel_rfl
theorem Nn:dR.OK Tryz.prog:=yl.of (l9.DC vz Ng) Mo
def dT:ByteArray:=⟨⟨[60,102,111,114,109,62,60,120,45,97,32,100,105,115,97,98,108,101,100,61,34,34,62,60,47,120,45,97,62,60,47,102,111,114,109,62]⟩⟩
def Px:ByteArray:=⟨#[100,105,115,97,98,108,101,100]⟩
def Ox:ByteArray:=⟨#[120,45,97]⟩
def dF:ForM:=⟨[⟨0,⟨#[]⟩,⟨#[]⟩,⟨#[]⟩,[],-1,[],-1,-1,0⟩,⟨1,⟨#[102,111,114,109]⟩,⟨#[]⟩,⟨#[]⟩,[],-1,[2],-1,-1,0⟩,⟨1,Ox,⟨#[]⟩,⟨#[]⟩,[⟨Px,⟨#[]⟩⟩],1,[],-1,-1,0⟩],9⟩
theorem Er:an Tryz.prog 54 [] [cw dT,ay 9] [] (.tup [bF dF,ay 1,ay 0]):=by
  have h:=Nn.1
  refine an.frozen (aW 0 dR.outs) ?_ (by kernel_rfl) h ?_
  · funext t
    match t with
    |0=>rfl
    |1=>rfl
    |2=>rfl
    |n+3=>rfl
  · have nil2:∀wd,wX (.sl wd []):=fun wd=>.inr (.inr ⟨wd,rfl⟩)
    refine⟨⟨⟨10,_,_,_,rfl,rfl,rfl,by decide,rfl,cH.of ⟨?_,?_,?_,trivial⟩⟩,rfl,trivial⟩,rfl,rfl,trivial⟩
    ·exact⟨rfl,rfl,rfl,rfl,nil2 _,rfl,nil2 _,rfl,rfl,rfl,trivial⟩
    ·exact⟨rfl,rfl,rfl,rfl,nil2 _,rfl,⟨1,_,_,_,rfl,rfl,rfl,by decide,rfl,cH.of ⟨rfl,trivial⟩⟩,rfl,rfl,rfl,trivial⟩
    ·exact⟨rfl,rfl,rfl,rfl,⟨2,_,_,_,rfl,rfl,rfl,by decide,rfl,cH.of ⟨⟨rfl,rfl,trivial⟩,trivial⟩⟩,rfl,nil2 _,rfl,rfl,rfl,trivial⟩
def E8:bw:=⟨[⟨Ox,Ox,0⟩],[],0,false⟩
def Hg:aM:=⟨true,[],[],[],[⟨5,[]⟩,⟨6,[]⟩,⟨7,[]⟩,⟨8,[]⟩]⟩
def HO:List StateM:=[⟨0,-1,-1,false⟩,⟨0,-1,-1,false⟩,⟨3,0,-1,false⟩]
def NI:List StateM:=[⟨0,-1,-1,false⟩,⟨0,-1,-1,false⟩,⟨3,0,1,true⟩]
def dS:ByteArray:=⟨#[115]⟩
theorem xP:bO dF.nodes:=⟨by decide,by decide,by decide,by decide⟩
theorem uD:nw E8:=⟨by decide,by decide⟩
theorem tq:∀c∈ [Hg],c.hooks.length≤100000:=by
  intro c hc
  rw[kX] at hc
  subst hc
  decide
theorem Og:an Tryz.prog 53 [] [bF dF,eP HO,gN E8,dN [Hg]] [] (.tup [eP NI,kj [⟨2,fV (-1) 1⟩,⟨2,ct true⟩]]):=by
  have h:=BL dF xP HO (by decide) E8 uD [Hg] tq
  rwa [show fg dF HO E8 [Hg]=NI from by kernel_rfl,show iO dF HO E8 [Hg]=[⟨2,fV (-1) 1⟩,⟨2,ct true⟩] from by kernel_rfl] at h
theorem OE:an Tryz.prog 106 [] [bF dF,eP HO,gN E8,dN [Hg],ay 1] [] (kj [⟨2,fF⟩]):=by
  have h:=Ik dF xP HO (by decide) E8 uD [Hg] tq 1
  rwa [show nC dF HO E8 [Hg] 1=[⟨2,fF⟩] from by kernel_rfl] at h
theorem Oa:an Tryz.prog 107 [] [bF dF,eP HO,gN E8,dN [Hg],ay 2,cw dS] [] (kj [⟨2,fM dS⟩]):=by
  have h:=Kg dF xP HO (by decide) E8 uD [Hg] tq 2 dS
  rwa [show nQ dF HO E8 [Hg] 2 dS=[⟨2,fM dS⟩] from by kernel_rfl] at h
theorem LZ:an Tryz.prog 51 [] [] [] (aX true):=by
  have nil2:∀wd,wX (.sl wd []):=fun wd=>.inr (.inr ⟨wd,rfl⟩)
  refine an.aF (rvs:=[.tmp 0]) G aq Tryz.func51 rfl Tryz.ntmps51 rfl rfl ?_;with_reducible refine wD ?_
  refine ah.val [] Er Pd ⟨rfl,rfl,trivial⟩ rfl rfl rfl ?_;with_reducible refine wK ?_
  repeat' (first
    |refine gK ?_
    |(((with_reducible show ah _ _ 53 _ _ _ _);refine ah.val [181,241,261,311] Og Nh ⟨⟨rfl,rfl,trivial⟩,⟨4,_,_,_,rfl,rfl,rfl,by decide,rfl,cH.of ⟨⟨rfl,rfl,rfl,rfl,trivial⟩,⟨rfl,rfl,rfl,rfl,trivial⟩,⟨rfl,rfl,rfl,rfl,trivial⟩,trivial⟩⟩,⟨⟨3,_,_,_,rfl,rfl,rfl,by decide,rfl,cH.of ⟨⟨rfl,rfl,rfl,trivial⟩,trivial⟩⟩,nil2 _,rfl,rfl,trivial⟩,⟨5,_,_,_,rfl,rfl,rfl,by decide,rfl,cH.of ⟨⟨rfl,nil2 _,nil2 _,nil2 _,⟨2,_,_,_,rfl,rfl,rfl,by decide,rfl,cH.of ⟨⟨rfl,nil2 _,trivial⟩,⟨rfl,nil2 _,trivial⟩,⟨rfl,nil2 _,trivial⟩,⟨rfl,nil2 _,trivial⟩,trivial⟩⟩,trivial⟩,trivial⟩⟩,trivial⟩ rfl rfl rfl ?_)<;>with_reducible refine wK ?_)
    |((with_reducible show(_∧_)∧_∧_);(refine eK ?_ ?_<;>with_reducible repeat' (first|exact trivial|(show _∧_;refine aK ?_ ?_)))))
  dsimp only[List.append];with_reducible refine wK ?_
  repeat' (first
    |refine gK ?_
    |(((with_reducible show ah _ _ 106 _ _ _ _);refine ah.val [181,241,261,311] OE N5 ⟨⟨rfl,rfl,trivial⟩,⟨4,_,_,_,rfl,rfl,rfl,by decide,rfl,cH.of ⟨⟨rfl,rfl,rfl,rfl,trivial⟩,⟨rfl,rfl,rfl,rfl,trivial⟩,⟨rfl,rfl,rfl,rfl,trivial⟩,trivial⟩⟩,⟨⟨3,_,_,_,rfl,rfl,rfl,by decide,rfl,cH.of ⟨⟨rfl,rfl,rfl,trivial⟩,trivial⟩⟩,nil2 _,rfl,rfl,trivial⟩,⟨5,_,_,_,rfl,rfl,rfl,by decide,rfl,cH.of ⟨⟨rfl,nil2 _,nil2 _,nil2 _,⟨2,_,_,_,rfl,rfl,rfl,by decide,rfl,cH.of ⟨⟨rfl,nil2 _,trivial⟩,⟨rfl,nil2 _,trivial⟩,⟨rfl,nil2 _,trivial⟩,⟨rfl,nil2 _,trivial⟩,trivial⟩⟩,trivial⟩,trivial⟩⟩,rfl,trivial⟩ rfl rfl rfl ?_)<;>with_reducible refine wK ?_)
    |((with_reducible show(_∧_)∧_∧_);(refine eK ?_ ?_<;>with_reducible repeat' (first|exact trivial|(show _∧_;refine aK ?_ ?_)))))
  dsimp only[List.append];with_reducible refine wK ?_
  repeat' (first
    |refine gK ?_
    |(((with_reducible show ah _ _ 107 _ _ _ _);refine ah.val [181,241,261,311] Oa O7 ⟨⟨rfl,rfl,trivial⟩,⟨4,_,_,_,rfl,rfl,rfl,by decide,rfl,cH.of ⟨⟨rfl,rfl,rfl,rfl,trivial⟩,⟨rfl,rfl,rfl,rfl,trivial⟩,⟨rfl,rfl,rfl,rfl,trivial⟩,trivial⟩⟩,⟨⟨3,_,_,_,rfl,rfl,rfl,by decide,rfl,cH.of ⟨⟨rfl,rfl,rfl,trivial⟩,trivial⟩⟩,nil2 _,rfl,rfl,trivial⟩,⟨5,_,_,_,rfl,rfl,rfl,by decide,rfl,cH.of ⟨⟨rfl,nil2 _,nil2 _,nil2 _,⟨2,_,_,_,rfl,rfl,rfl,by decide,rfl,cH.of ⟨⟨rfl,nil2 _,trivial⟩,⟨rfl,nil2 _,trivial⟩,⟨rfl,nil2 _,trivial⟩,⟨rfl,nil2 _,trivial⟩,trivial⟩⟩,trivial⟩,trivial⟩⟩,rfl,rfl,trivial⟩ rfl rfl rfl ?_)<;>with_reducible refine wK ?_)
    |((with_reducible show(_∧_)∧_∧_);(refine eK ?_ ?_<;>with_reducible repeat' (first|exact trivial|(show _∧_;refine aK ?_ ?_)))))
  dsimp only[List.append];with_reducible refine wK ?_
  repeat' (first
    |refine gK ?_
    | ((first
      |(first|refine bn.mk 0 (mP ⟨2,fV (-1) 1⟩) rfl rfl ?_|refine bn.mk 1 (mP ⟨2,ct true⟩) rfl rfl ?_|refine bn.mk 2 (gO ⟨3,0,1,true⟩) rfl rfl ?_|refine bn.mk 0 (mP ⟨2,fF⟩) rfl rfl ?_|refine bn.mk 0 (mP ⟨2,fM dS⟩) rfl rfl ?_)
      |((with_reducible show K6 _ _ _ _ _ _ _ _);first|refine K6.mk _ (fun y z w=>yH ⟨2,fV (-1) 1⟩ ⟨2,fV (-1) 1⟩ y z w) ?_|refine K6.mk _ (fun y z w=>yH ⟨2,ct true⟩ ⟨2,ct true⟩ y z w) ?_)
      |((with_reducible show aH _ _ _ _);refine dK ?_))<;>with_reducible refine wK ?_)
    |((with_reducible show(_∧_)∧_∧_);(refine eK ?_ ?_<;>with_reducible repeat' (first|exact trivial|(show _∧_;refine aK ?_ ?_)))))
  all_goals first|rfl|trace_state
@[reducible] def iP (l : List ai) : MS := .live 10 (l.map cj) false
@[reducible] def dg (most : Int) (n : Nat) (t : Nat) (notes : AV) : MS := .live 3 [.agg [.own t 0 n, ay most, notes]] false
theorem zW (x:ai):bj (cj x)=true:=by
  show bj (.agg [ay x.kind,cw x.name,cw x.is,cw x.data,gT x.attrs,ay x.parent,cN x.kids,ay x.host,ay x.under,ay x.doc])=true
  have h1:aV (x.attrs.map gZ)=true:=dL gZ (fun _=>rfl) _
  have h2:aV (x.kids.map bu)=true:=dL bu (fun _=>rfl) _
  simp[bj,aV,h1,h2]
theorem bI (l:List ai):aV (l.map cj)=true:=dL cj zW l
theorem tD (l:List ai):ic [iP l]:=⟨bB.ga fun x hx=>by
  obtain⟨a,_,rfl⟩:=List.mem_map.1 hx;rfl,bI l,trivial⟩
theorem Eh (l:List ai):lX (flat (l.map cj))=true:=mY cj (fun _=>rfl) l
theorem yY (l:List ai)(hl:l.length≤100000):an Tryz.prog 137 [] [gq l] [iP l] (.own 0 0 l.length):=by
  have hlm:(l.map cj).length=l.length:=bM ..
  refine an.aF (rvs:=[.tmp 2]) G aq Tryz.func137 rfl Tryz.ntmps137 rfl rfl ?_;with_reducible refine wD ?_
  refine oW.mk (fun h=>?_) (fun _=>?_)<;>with_reducible refine wK ?_
  · obtain rfl:l=[]:=by simpa using h
    (refine eK ?_ ?_<;>with_reducible repeat' (first|exact trivial|(show _∧_;refine aK ?_ ?_)))
    all_goals first|rfl|trivial
  · refine jR.mk [] (l.map cj) ⟨rfl,rfl,rfl⟩ ⟨rfl,rfl,rfl⟩ (Eh l) (by simp;omega) (by simp;omega) ?_;with_reducible refine wK ?_
    (refine eK ?_ ?_<;>with_reducible repeat' (first|exact trivial|(show _∧_;refine aK ?_ ?_)))
    ·exact hlm.symm
    ·exact aQ (bI l)
theorem GW (l:List Int)(hl:l.length≤100000):an Tryz.prog 72 [] [cN l] [] (cN l):=by
  have hlm:(l.map bu).length=l.length:=bM ..
  refine an.aF (rvs:=[.tmp 2]) G aq Tryz.func72 rfl Tryz.ntmps72 rfl rfl ?_;with_reducible refine wD ?_
  refine oW.mk (fun h=>?_) (fun _=>?_)<;>with_reducible refine wK ?_
  · obtain rfl:l=[]:=by simpa using h
    (refine eK ?_ ?_<;>with_reducible repeat' (first|exact trivial|(show _∧_;refine aK ?_ ?_)))
    all_goals first|rfl|exact .inr (.inr ⟨1,rfl⟩)|trace_state
  · refine jR.mk [] (l.map bu) ⟨rfl,rfl,rfl⟩ ⟨rfl,rfl,rfl⟩ (mY bu (fun _=>rfl) l) (by simp;omega) (by simp;omega) ?_;with_reducible refine wK ?_
    (refine eK ?_ ?_<;>with_reducible repeat' (first|exact trivial|(show _∧_;refine aK ?_ ?_)))
    all_goals first|exact fq rfl rfl rfl rfl|(refine fq rfl rfl ?_ ?_<;>simp)|trace_state
theorem Dc (f:ForM)(hs:bO f.nodes):an Tryz.prog 121 [] [bF f] [dg f.most f.nodes.length 1 (.lit (.slice none 0 0)),iP f.nodes] (.ptr 0 0 0):=by
  have h137:=yY f.nodes (by have:=hs.len;omega)
  have h60:=hs.len
  have h182:∀ (k:Nat) (y:ai),f.nodes[k]? =some y→an Tryz.prog 72 [] [cN y.kids] [] (cN y.kids):=fun k y hy=>GW y.kids (by have:=hs.kids y (bN hy);omega)
  have hset:∀ (k:Nat) (y:ai),f.nodes[k]? =some y→f.nodes.set k y=f.nodes:=fun k y hy=>by
    apply List.ext_getElem?
    intro n
    rw[List.getElem?_set]
    by_cases e:k=n
    · subst e
      have:=(br hy).1
      rw[if_pos rfl,if_pos this,hy]
    ·rw[if_neg e]
  have hlm:(f.nodes.map cj).length=f.nodes.length:=bM ..
  obtain⟨l,m⟩:=f
  simp only at h137 h60 h182 hset hlm
  refine an.aF (rvs:=[.tmp 2]) G aq Tryz.func121 rfl Tryz.ntmps121 rfl rfl ?_;with_reducible refine wD ?_
  repeat' (first
    |refine gK ?_
    | ((first
      |((with_reducible show ah _ _ 137 _ _ _ _);refine ah.new 71 [] h137 LF ⟨rfl,trivial⟩ rfl rfl rfl (tD l) rfl ?_)
      |((with_reducible show aH _ _ _ _);refine dK ?_))<;>with_reducible refine wK ?_)
    |((with_reducible show(_∧_)∧_∧_);(refine eK ?_ ?_<;>with_reducible repeat' (first|exact trivial|(show _∧_;refine aK ?_ ?_)))))
  refine bD.use G aq (fun(k:Nat)=>[(3,.ptr 120 0 0),(18,ay l.length),(19,ay k)])
    (fun _=>[(120,dg m l.length 71 (.lit (.slice none 0 0))),(71,iP l)])
    (fun k=>k≤l.length) (fun k=>l.length-k) 0 (Nat.zero_le _) ?_ ?_
  · (refine fK ?_;(with_reducible repeat' (first|exact trivial|(show _∧_;refine aK ?_ ?_)));(all_goals try rfl))
    all_goals first
      |exact⟨.refl rfl,rfl⟩
      |exact .inl rfl
      |exact⟨.refl (bI _),bI _⟩
      |trace_state
  intro k hk
  with_reducible refine wK ?_
  refine aL.mk (fun h1=>?_) (fun h1=>?_)<;>(try simp only[ak] at h1)<;>with_reducible refine wK ?_
  · have hkl:k<l.length:=by simp only[bH,ak] at h1;omega
    obtain⟨y,hy⟩:∃y,l[k]? =some y:=⟨_,bh hkl⟩
    have h182k:=h182 k y hy
    have hrow:(l.map cj).set (0+k) (cj y)=l.map cj:=by
      rw[Nat.zero_add,←List.map_set,hset k y hy]
    obtain⟨y1,y2,y3,y4,y5,y6,y7,y8,y9,y10⟩:=y
    simp only at h182k
    repeat' (first
    |refine gK ?_
    | ((first
      |((with_reducible show gX _ _ _ _ _);refine gX.mk k rfl hkl ?_)
      |((with_reducible show bE _ _ _ _ _);first|refine bE.mk (aR ⟨y1,y2,y3,y4,y5,y6,y7,y8,y9,y10⟩) (by first|exact aI hy|(rw[Nat.zero_add];exact aI hy)) ?_|refine bE.mk _ rfl ?_)
      |((with_reducible show ah _ _ 72 _ _ _ _);refine ah.val [] h182k HU ⟨rfl,trivial⟩ rfl rfl rfl ?_)
      |((with_reducible show aH _ _ _ _);refine dK ?_))<;>with_reducible refine wK ?_)
    |((with_reducible show(_∧_)∧_∧_);(refine eK ?_ ?_<;>with_reducible repeat' (first|exact trivial|(show _∧_;refine aK ?_ ?_)))))
    refine aT.mk (k+1) (by omega) (by omega) ?_
    (refine fK ?_;(with_reducible repeat' (first|exact trivial|(show _∧_;refine aK ?_ ?_)));(all_goals try rfl))
    all_goals first
      |exact⟨.refl rfl,rfl⟩
      |exact .inl rfl
      |exact⟨.refl (bI _),bI _⟩
      |(refine cast (congrArg (o3 _ _) hrow.symm) ?_;exact⟨.refl (bI _),bI _⟩)
      |(simp;done)
      |trace_state
  · have hjl:k=l.length:=by simp only[dG,ak] at h1;omega
    subst hjl
    repeat' (first
    |refine gK ?_
    |(((with_reducible show aH _ _ _ _);refine dK ?_)<;>with_reducible refine wK ?_)
    |((with_reducible show(_∧_)∧_∧_);(refine eK ?_ ?_<;>with_reducible repeat' (first|exact trivial|(show _∧_;refine aK ?_ ?_)))))
    all_goals first|rfl|exact .inl rfl|exact⟨.refl (bI _),bI _⟩|trace_state
end Go.Proofs.Heir
namespace Go.Proofs.Heir
open Go Go.Am Go.RowKit Go.Lib
set_option maxRecDepth 100000

end Go.Proofs.Heir
