/- Models, plain laws and contracts of functions of the given program; conditions as stated in each theorem. By an AI agent. -/
import Derived.Test.YtkhjcnjicjgfiaaGreatDoorWD20
set_option linter.unusedSimpArgs false
set_option linter.unusedVariables false
namespace Go.Proofs.Heir
open Go Go.Am Go.RowKit Go.Lib
set_option maxRecDepth 100000
set_option maxHeartbeats 8000000
theorem jt {c:aM}{n:Int}{t:gi}(h:cG c t.kind=true):iG c n t=[⟨n,t⟩]:=by unfold iG;rw[if_pos h]
theorem kG {c:aM}{n:Int}{t:gi}(h:cG c t.kind=false):iG c n t=[]:=by unfold iG;rw[if_neg (by simp[h])]
theorem lO {cs:List aM}(h:∀c∈cs,c.hooks.length≤100000)(s:StateM)(d:bw):(cJ s d cs).hooks.length≤100000:=by
 unfold cJ
 split
 ·cases hg:cs[(eO s d cs.length).toNat]? with
  |none=>show(0:Nat)≤_;omega
  |some c=>exact h c (bN hg)
 ·show(0:Nat)≤_;omega
theorem BL (f:ForM)(hs:bO f.nodes)(st:List StateM)(hst:st.length≤1000)(d:bw)(hd:nw d)(cs:List aM)(hcs:∀c∈cs,c.hooks.length≤100000):
  an Tryz.prog 53 [] [bF f,eP st,gN d,dN cs] [] (.tup [eP (fg f st d cs),kj (iO f st d cs)]):=by
 have h64:=rX f hs st (by omega) d hd cs
 obtain⟨os',hos'⟩:∃x,fg f st d cs=x:=⟨_,rfl⟩
 obtain⟨od,hod⟩:∃x,iO f st d cs=x:=⟨_,rfl⟩
 rw[hos',hod]
 unfold fg at hos'
 unfold iO at hod
 obtain⟨lv,hlv⟩:∃lv,gB f st d=lv:=⟨_,rfl⟩
 rw[hlv] at h64 hos' hod
 cases lv with
 | false=>
   rw[if_neg (by simp)] at hos' hod
   subst hos'
   subst hod
   obtain⟨l,m⟩:=f
   obtain⟨d1,d2,d3,d4⟩:=d
   refine an.aF (rvs:=[.tmp 8,.tmp 9]) G aq Tryz.func53 rfl Tryz.ntmps53 rfl rfl ?_;with_reducible refine wD ?_
   refine ah.dw (news:=[bW ⟨l,m⟩ (.own 241 0 st.length) ⟨d1,d2,d3,d4⟩ cs jP,bf st]) [240,241] [] h64 A0 ⟨⟨rfl,rfl,trivial⟩,rfl,⟨rfl,rfl,rfl,rfl,trivial⟩,rfl,trivial⟩ trivial rfl ⟨⟨rfl,rfl⟩,rfl⟩ rfl ⟨⟨rfl,.inr ⟨rfl,rfl,rfl⟩⟩,⟨rfl,.inl ⟨rfl,aj _⟩⟩,trivial⟩ rfl rfl ?_
   with_reducible refine wK ?_
   repeat' (first
  |refine gK ?_|refine aE ?_ ?_
  | apply trivial)
   all_goals first|exact sv rfl rfl rfl rfl|exact .inr (.inr ⟨_,rfl⟩)
 | true =>
   rw[if_pos rfl] at hos' hod
   have hlv':=hlv
   unfold gB at hlv'
   obtain⟨⟨hlen,hr⟩,hrd⟩:(st.length=f.nodes.length∧aU f=true)∧ig d=true:=by simpa using hlv'
   have h42:=Lq f hs
   have e42:HY f=kI f.nodes f.nodes.length:=by unfold HY;rw[if_pos hr]
   rw[e42] at h42
   have h39:=fun n=>Lh f hs n
   have hhk:=fun s=>lO hcs s d
   have h60:=hs.len
   have hos:∀k,k<st.length→(kI f.nodes f.nodes.length)[k]? =some (eC f.nodes (k:Int)):=fun k hk=>by
    unfold kI;rw[dM,List.getElem?_range (by omega)];rfl
   have hol:=vo f.nodes f.nodes.length
   have hth:∀k,k<st.length→aa f.nodes (k:Int)=true:=fun k hk=>eF (bh (by omega))
   have htl:=fun k=>jZ f d cs st k
   have htg:∀k,k<st.length→(AH f d cs st k)[k]? =some (qh st k):=fun k hk=>by rw[nI hk,if_neg (by omega)]
   have hts:=fun k hk=>zT f d cs st (k:=k) hk
   have htm:=fun k hk=>FG f d cs st (k:=k) hk
   have htd:=fun k=>Af f d cs st k
   have htdl:=fun k=>xp f d cs st k
   have ht0:=Hu f d cs st
   have hd0:Kr f d cs st 0=[]:=rfl
   have hSd:∀k s,mw f d cs k s=if ia f d cs k s=true then⟨s.phase,s.df,eC f.nodes k,jL f.nodes k⟩ else s:=fun k s=>rfl
   have hDd:∀k s,s5 f d cs k s=if ia f d cs k s=true then
    (if s.owner=eC f.nodes k then[] else iG (cJ s d cs) k (fV s.owner (eC f.nodes k)))++ (if s.barred=jL f.nodes k then[] else iG (cJ s d cs) k (ct (jL f.nodes k))) else[]:=fun k s=>rfl
   have h65:=fun(st':List StateM) (due:List ej) (k:Nat) (s:StateM) (h1:st'.length=st.length) (h2:st'[k]? =some s) (h3:aa f.nodes (k:Int)=true)=>zl f st' st.length h1 d cs due k s h2 h3
   generalize AH f d cs st=ts at hos' htl htg hts htm ht0
   generalize Kr f d cs st=td at hod htd htdl hd0
   subst hos'
   subst hod
   generalize kI f.nodes f.nodes.length=ol at h42 hos hol
   have hom:(ol.map bu).length=ol.length:=bM ..
   obtain⟨l,m⟩:=f
   obtain⟨d1,d2,d3,d4⟩:=d
   simp only at hlen h60 hol
   refine an.aF (rvs:=[.tmp 8,.tmp 9]) G aq Tryz.func53 rfl Tryz.ntmps53 rfl rfl ?_;with_reducible refine wD ?_
   refine ah.dw (news:=[bW ⟨l,m⟩ (.own 241 0 st.length) ⟨d1,d2,d3,d4⟩ cs jP,bf st]) [240,241] [] h64 A0 ⟨⟨rfl,rfl,trivial⟩,rfl,⟨rfl,rfl,rfl,rfl,trivial⟩,rfl,trivial⟩ trivial rfl ⟨⟨rfl,rfl⟩,rfl⟩ rfl ⟨⟨rfl,.inr ⟨rfl,rfl,rfl⟩⟩,⟨rfl,.inl ⟨rfl,aj _⟩⟩,trivial⟩ rfl rfl ?_
   with_reducible refine wK ?_
   repeat' (first
  |refine gK ?_|refine aE ?_ ?_
  |(((with_reducible refine kQ 50 ?_);refine cV h42 PC ?_)<;>with_reducible refine wK ?_)
  | apply trivial)
   refine bD.gW 10 240 248 11 0 8 (Ai ⟨l,m⟩ (.own 241 0 st.length) ⟨d1,d2,d3,d4⟩ cs jP) (Ai ⟨l,m⟩ (.own 241 0 st.length) ⟨d1,d2,d3,d4⟩ cs (.own 248 0 0)) rfl rfl rfl rfl rfl rfl ?_
   refine bD.use G aq (fun(k:Nat)=>[(4,.ptr 40 0 0),(10,.ptr 240 0 0),(34,cN ol),(35,ay ol.length),(36,ay k)])
    (fun k=>[(40,.live 2 [bF ⟨l,m⟩] false),(240,bW ⟨l,m⟩ (.own 241 0 st.length) ⟨d1,d2,d3,d4⟩ cs (.own 248 0 (td k).length)),(241,bf (ts k)),(248,cA (td k))])
    (fun k=>k≤st.length) (fun k=>st.length-k) 0 (Nat.zero_le _) ?_ ?_
   ·rw[ht0,hd0]
    (refine fK ?_;(with_reducible repeat' (first|exact trivial|(show _∧_;refine aK ?_ ?_)));(all_goals try rfl))
    all_goals first
     |(show(ol.length:Int)=_;rw[hom])
     |exact⟨⟨rfl,rfl,⟨rfl,rfl⟩,rfl,rfl,rfl,rfl,rfl,⟨rfl,rfl⟩,trivial⟩,trivial⟩
     |exact⟨.refl (aj st),aj st⟩
     |(show o3 _ [] [];exact⟨.refl rfl,rfl⟩)
   intro k hk
   have hdl:=htdl k
   have htk:=htl k
   with_reducible refine wK ?_
   refine aL.mk (fun h1=>?_) (fun h1=>?_)<;>(try simp only[ak] at h1)<;>with_reducible refine wK ?_
   ·have hk':k<st.length:=by simp only[bH] at h1;omega
    have hok:=hos k hk'
    have hgk:=htg k hk'
    have h65:=h65 (ts k) (td k) k (qh st k) htk hgk (hth k hk')
    have h39:=h39 (k:Int)
    rw[hth k hk',hr,Bool.true_and,Bool.true_and] at h39
    have hts:=hts k hk'
    have htm:=htm k hk'
    have htd:=htd k
    have hhk:=hhk (qh st k)
    have hSd:=hSd k (qh st k)
    have hDd:=hDd k (qh st k)
    have htl1:=htl (k+1)
    clear hos htl htg htdl h64 h42 hth
    generalize qh st k=s at*
    obtain⟨dy,hdy⟩:∃dy,ia ⟨l,m⟩ ⟨d1,d2,d3,d4⟩ cs (k:Int) s=dy:=⟨_,rfl⟩
    rw[hdy] at h65 hSd hDd
    generalize hcv:cJ s ⟨d1,d2,d3,d4⟩ cs=cv at*
    generalize eC l (k:Int)=o at*
    generalize jL l (k:Int)=b at*
    generalize ts k=X at*
    generalize td k=D at*
    obtain⟨s1,s2,s3,s4⟩:=s
    obtain⟨c1,c2,c3,c4,c5⟩:=cv
    refine bn.mk k (ay o) rfl (iy hok) ?_;with_reducible refine wK ?_
    refine ah.dw (news:=[bW ⟨l,m⟩ (.own 241 0 st.length) ⟨d1,d2,d3,d4⟩ cs (.own 248 0 D.length),bf X,cA D]) [240,241,248] [] h65 Lg ⟨⟨rfl,rfl⟩,rfl,trivial⟩ (eX rfl rfl rfl) rfl ⟨⟨rfl,rfl⟩,rfl⟩ rfl gG rfl rfl ?_
    with_reducible refine wK ?_
    cases dy with
    | false=>
      rw[if_neg (by simp)] at hSd hDd
      rw[hSd] at htm
      rw[hDd,List.append_nil] at htd
      repeat' (first
  |refine gK ?_|refine aE ?_ ?_
  | apply trivial)
      refine aT.mk (k+1) (by omega) (by omega) ?_
      rw[htd,htm rfl]
      (refine fK ?_;(with_reducible repeat' (first|exact trivial|(show _∧_;refine aK ?_ ?_)));(all_goals try rfl))
      all_goals first
       |exact⟨.refl (aj _),aj _⟩
       |exact⟨.refl (aJ _),aJ _⟩
       |(simp;done)
    | true=>
      rw[if_pos rfl] at hSd hDd
      simp only at hSd hDd
      rw[hSd] at hts htm
      rw[hDd] at htd
      have hXk:X[k]? =some ⟨s1,s2,s3,s4⟩:=hgk
      have h66y:∀ (Z:List StateM) (E:List ej) (t:gi),Z.length=st.length→E.length≤1000→cG ⟨c1,c2,c3,c4,c5⟩ t.kind=true→
        an Tryz.prog 113 [bW ⟨l,m⟩ (.own 1 0 st.length) ⟨d1,d2,d3,d4⟩ cs (.own 2 0 E.length),bf Z,cA E] [.ptr 0 0 0,fD ⟨c1,c2,c3,c4,c5⟩,ay (k:Int),uK t]
         [bW ⟨l,m⟩ (.own 1 0 st.length) ⟨d1,d2,d3,d4⟩ cs (.own 3 0 (E.length+1)),bf Z,.dead,cA (E++ [⟨(k:Int),t⟩])] (.tup []):=fun Z E t hz he hh=>by
       have:=zJ ⟨l,m⟩ Z ⟨d1,d2,d3,d4⟩ cs E (by omega) ⟨c1,c2,c3,c4,c5⟩ hhk (k:Int) t hh
       rwa [hz] at this
      have h66n:∀ (Z:List StateM) (E:List ej) (t:gi),Z.length=st.length→cG ⟨c1,c2,c3,c4,c5⟩ t.kind=false→
        an Tryz.prog 113 [bW ⟨l,m⟩ (.own 1 0 st.length) ⟨d1,d2,d3,d4⟩ cs (.own 2 0 E.length),bf Z,cA E] [.ptr 0 0 0,fD ⟨c1,c2,c3,c4,c5⟩,ay (k:Int),uK t]
         [bW ⟨l,m⟩ (.own 1 0 st.length) ⟨d1,d2,d3,d4⟩ cs (.own 2 0 E.length),bf Z,cA E] (.tup []):=fun Z E t hz hh=>by
       have:=C8 ⟨l,m⟩ Z ⟨d1,d2,d3,d4⟩ cs E ⟨c1,c2,c3,c4,c5⟩ hhk (k:Int) t hh
       rwa [hz] at this
      have hDl:D.length≤500:=by omega
      clear h65 hSd hDd hhk
      by_cases e1:s3=o
      ·obtain rfl:=e1.symm
       rw[if_pos rfl,List.nil_append] at htd
       by_cases e2:s4=b
       ·obtain rfl:=e2.symm
        rw[if_pos rfl,List.append_nil] at htd
        repeat' (first
  |refine gK ?_|refine aE ?_ ?_
  | ((first
   |((with_reducible show gX _ _ _ _ _);refine gX.mk k rfl (by omega) ?_)
   |((with_reducible show bE _ _ _ _ _);refine bE.mk (gO ⟨s1,s2,o,b⟩) (by rw[Nat.zero_add];exact fP hXk) ?_)
   |((with_reducible refine kQ 21 ?_);refine cL h39 Mr ?_))<;>with_reducible refine wK ?_)
  |apply  trivial)
        refine aT.mk (k+1) (by omega) (by omega) ?_
        rw[htd,htm rfl]
        (refine fK ?_;(with_reducible repeat' (first|exact trivial|(show _∧_;refine aK ?_ ?_)));(all_goals try rfl))
        all_goals first
         |exact⟨.refl (aj _),aj _⟩
         |exact⟨.refl (aJ _),aJ _⟩
         |(simp;done)
       ·rw[if_neg e2] at htd
        have e2':(b==s4)=false:=by cases b<;>cases s4<;>simp at e2 ⊢
        (have fct:=e2';(repeat' (first
  |refine gF ?_|refine aE ?_ ?_
  | ((first
   |((with_reducible show gX _ _ _ _ _);refine gX.mk k rfl (by omega) ?_)
   |((with_reducible show bE _ _ _ _ _);refine bE.mk (gO ⟨s1,s2,o,s4⟩) (by rw[Nat.zero_add];exact fP hXk) ?_)
   |((with_reducible refine kQ 21 ?_);refine cL h39 Mr ?_))<;>with_reducible refine wK ?_)
  |apply  trivial));all_goals clear fct)
        have htk2:(X.set k ⟨s1,s2,o,b⟩).length=st.length:=by simp[htk]
        rw[yc X k ⟨s1,s2,o,b⟩]
        cases hw2:cG ⟨c1,c2,c3,c4,c5⟩ 6 with
        | true=>
          rw[jt (show cG _ (ct b).kind=true from hw2)] at htd
          have hFl:(D++ ([⟨(k:Int),ct b⟩]:List ej)).length=D.length+1:=by simp
          refine ah.dw (news:=[bW ⟨l,m⟩ (.own 241 0 st.length) ⟨d1,d2,d3,d4⟩ cs (.own 911 0 (D.length+1)),bf (X.set k ⟨s1,s2,o,b⟩),.dead,cA (D++ [⟨(k:Int),ct b⟩])]) [240,241,248,911] [] (h66y (X.set k ⟨s1,s2,o,b⟩) D (ct b) (by simp;omega) (by omega) hw2) rV ⟨⟨rfl,rfl⟩,⟨rfl,rfl,rfl,rfl,rfl,trivial⟩,rfl,⟨rfl,rfl,rfl,rfl,rfl,rfl,rfl,rfl,rfl,rfl,trivial⟩,trivial⟩ (eX rfl rfl rfl) rfl ⟨⟨rfl,rfl⟩,rfl⟩ rfl kU rfl rfl ?_
          with_reducible refine wK ?_
          repeat' (first
  |refine gK ?_|refine aE ?_ ?_
  |apply  trivial)
          refine aT.mk (k+1) (by omega) (by omega) ?_
          rw[htd,hts]
          (refine fK ?_;(with_reducible repeat' (first|exact trivial|(show _∧_;refine aK ?_ ?_)));(all_goals try rfl))
          all_goals first
           |exact⟨.refl (aj _),aj _⟩
           |exact⟨.refl (aJ _),aJ _⟩
           |(simp;done)
        | false=>
          rw[kG (show cG _ (ct b).kind=false from hw2),List.append_nil] at htd
          refine ah.dw (news:=[bW ⟨l,m⟩ (.own 241 0 st.length) ⟨d1,d2,d3,d4⟩ cs (.own 248 0 D.length),bf (X.set k ⟨s1,s2,o,b⟩),cA D]) [240,241,248] [] (h66n (X.set k ⟨s1,s2,o,b⟩) D (ct b) (by simp;omega) hw2) rV ⟨⟨rfl,rfl⟩,⟨rfl,rfl,rfl,rfl,rfl,trivial⟩,rfl,⟨rfl,rfl,rfl,rfl,rfl,rfl,rfl,rfl,rfl,rfl,trivial⟩,trivial⟩ (eX rfl rfl rfl) rfl ⟨⟨rfl,rfl⟩,rfl⟩ rfl gG rfl rfl ?_
          with_reducible refine wK ?_
          repeat' (first
  |refine gK ?_|refine aE ?_ ?_
  |apply  trivial)
          refine aT.mk (k+1) (by omega) (by omega) ?_
          rw[htd,hts]
          (refine fK ?_;(with_reducible repeat' (first|exact trivial|(show _∧_;refine aK ?_ ?_)));(all_goals try rfl))
          all_goals first
           |exact⟨.refl (aj _),aj _⟩
           |exact⟨.refl (aJ _),aJ _⟩
           |(simp;done)
      ·rw[if_neg e1] at htd
       have hYk:(X.set k ⟨s1,s2,o,s4⟩)[k]? =some ⟨s1,s2,o,s4⟩:=by rw[List.getElem?_set_self (by omega)]
       have hYl:(X.set k ⟨s1,s2,o,s4⟩).length=st.length:=by simp[htk]
       have hset:(X.set k ⟨s1,s2,o,s4⟩).set k ⟨s1,s2,o,b⟩=X.set k ⟨s1,s2,o,b⟩:=List.set_set ..
       rw[←hset] at hts
       (have fct:=(eq_false e1);(repeat' (first
  |refine gF ?_|refine aE ?_ ?_
  | ((first
   |((with_reducible show gX _ _ _ _ _);refine gX.mk k rfl (by omega) ?_)
   |((with_reducible show bE _ _ _ _ _);refine bE.mk (gO ⟨s1,s2,s3,s4⟩) (by rw[Nat.zero_add];exact fP hXk) ?_))<;>with_reducible refine wK ?_)
  |apply  trivial));all_goals clear fct)
       rw[yc X k ⟨s1,s2,o,s4⟩]
       generalize X.set k ⟨s1,s2,o,s4⟩=Y at*
       cases hw:cG ⟨c1,c2,c3,c4,c5⟩ 5 with
       | true=>
         rw[jt (show cG _ (fV s3 o).kind=true from hw),←List.append_assoc] at htd
         have hEl:(D++ ([⟨(k:Int),fV s3 o⟩]:List ej)).length=D.length+1:=by simp
         refine ah.dw (news:=[bW ⟨l,m⟩ (.own 241 0 st.length) ⟨d1,d2,d3,d4⟩ cs (.own 721 0 (D.length+1)),bf Y,.dead,cA (D++ [⟨(k:Int),fV s3 o⟩])]) [240,241,248,721] [] (h66y Y D (fV s3 o) hYl (by omega) hw) rV ⟨⟨rfl,rfl⟩,⟨rfl,rfl,rfl,rfl,rfl,trivial⟩,rfl,⟨rfl,rfl,rfl,rfl,rfl,rfl,rfl,rfl,rfl,rfl,trivial⟩,trivial⟩ (eX rfl rfl rfl) rfl ⟨⟨rfl,rfl⟩,rfl⟩ rfl kU rfl rfl ?_
         rw[←hEl]
         generalize D++ ([⟨(k:Int),fV s3 o⟩]:List ej)=E at*
         have hEl':E.length≤501:=by omega
         with_reducible refine wK ?_
         by_cases e2:s4=b
         ·obtain rfl:=e2.symm
          rw[if_pos rfl,List.append_nil] at htd
          have hYs:Y.set k ⟨s1,s2,o,b⟩=Y:=by
           apply List.ext_getElem?
           intro n
           rw[List.getElem?_set]
           by_cases e:k=n
           ·subst e;rw[if_pos rfl,if_pos (by omega),hYk]
           ·rw[if_neg e]
          rw[hYs] at hts
          repeat' (first
  |refine gK ?_|refine aE ?_ ?_
  | ((first
   |((with_reducible show gX _ _ _ _ _);refine gX.mk k rfl (by omega) ?_)
   |((with_reducible show bE _ _ _ _ _);refine bE.mk (gO ⟨s1,s2,o,b⟩) (by rw[Nat.zero_add];exact fP hYk) ?_)
   |((with_reducible refine kQ 21 ?_);refine cL h39 Mr ?_))<;>with_reducible refine wK ?_)
  |apply  trivial)
          refine aT.mk (k+1) (by omega) (by omega) ?_
          rw[htd,hts]
          (refine fK ?_;(with_reducible repeat' (first|exact trivial|(show _∧_;refine aK ?_ ?_)));(all_goals try rfl))
          all_goals first
           |exact⟨.refl (aj _),aj _⟩
           |exact⟨.refl (aJ _),aJ _⟩
           |(simp;done)
         ·rw[if_neg e2] at htd
          have e2':(b==s4)=false:=by cases b<;>cases s4<;>simp at e2 ⊢
          (have fct:=e2';(repeat' (first
  |refine gF ?_|refine aE ?_ ?_
  | ((first
   |((with_reducible show gX _ _ _ _ _);refine gX.mk k rfl (by omega) ?_)
   |((with_reducible show bE _ _ _ _ _);refine bE.mk (gO ⟨s1,s2,o,s4⟩) (by rw[Nat.zero_add];exact fP hYk) ?_)
   |((with_reducible refine kQ 21 ?_);refine cL h39 Mr ?_))<;>with_reducible refine wK ?_)
  |apply  trivial));all_goals clear fct)
          rw[yc Y k ⟨s1,s2,o,b⟩]
          cases hw2:cG ⟨c1,c2,c3,c4,c5⟩ 6 with
          | true=>
            rw[jt (show cG _ (ct b).kind=true from hw2)] at htd
            have hFl:(E++ ([⟨(k:Int),ct b⟩]:List ej)).length=E.length+1:=by simp
            refine ah.dw (news:=[bW ⟨l,m⟩ (.own 241 0 st.length) ⟨d1,d2,d3,d4⟩ cs (.own 911 0 (E.length+1)),bf (Y.set k ⟨s1,s2,o,b⟩),.dead,cA (E++ [⟨(k:Int),ct b⟩])]) [240,241,721,911] [] (h66y (Y.set k ⟨s1,s2,o,b⟩) E (ct b) (by simp;omega) (by omega) hw2) rV ⟨⟨rfl,rfl⟩,⟨rfl,rfl,rfl,rfl,rfl,trivial⟩,rfl,⟨rfl,rfl,rfl,rfl,rfl,rfl,rfl,rfl,rfl,rfl,trivial⟩,trivial⟩ (eX rfl rfl rfl) rfl ⟨⟨rfl,rfl⟩,rfl⟩ rfl kU rfl rfl ?_
            with_reducible refine wK ?_
            repeat' (first
  |refine gK ?_|refine aE ?_ ?_
  |apply  trivial)
            refine aT.mk (k+1) (by omega) (by omega) ?_
            rw[htd,hts]
            (refine fK ?_;(with_reducible repeat' (first|exact trivial|(show _∧_;refine aK ?_ ?_)));(all_goals try rfl))
            all_goals first
             |exact⟨.refl (aj _),aj _⟩
             |exact⟨.refl (aJ _),aJ _⟩
             |(simp;done)
          | false=>
            rw[kG (show cG _ (ct b).kind=false from hw2),List.append_nil] at htd
            refine ah.dw (news:=[bW ⟨l,m⟩ (.own 241 0 st.length) ⟨d1,d2,d3,d4⟩ cs (.own 721 0 E.length),bf (Y.set k ⟨s1,s2,o,b⟩),cA E]) [240,241,721] [] (h66n (Y.set k ⟨s1,s2,o,b⟩) E (ct b) (by simp;omega) hw2) rV ⟨⟨rfl,rfl⟩,⟨rfl,rfl,rfl,rfl,rfl,trivial⟩,rfl,⟨rfl,rfl,rfl,rfl,rfl,rfl,rfl,rfl,rfl,rfl,trivial⟩,trivial⟩ (eX rfl rfl rfl) rfl ⟨⟨rfl,rfl⟩,rfl⟩ rfl gG rfl rfl ?_
            with_reducible refine wK ?_
            repeat' (first
  |refine gK ?_|refine aE ?_ ?_
  |apply  trivial)
            refine aT.mk (k+1) (by omega) (by omega) ?_
            rw[htd,hts]
            (refine fK ?_;(with_reducible repeat' (first|exact trivial|(show _∧_;refine aK ?_ ?_)));(all_goals try rfl))
            all_goals first
             |exact⟨.refl (aj _),aj _⟩
             |exact⟨.refl (aJ _),aJ _⟩
             |(simp;done)
       | false=>
         rw[kG (show cG _ (fV s3 o).kind=false from hw),List.nil_append] at htd
         refine ah.dw (news:=[bW ⟨l,m⟩ (.own 241 0 st.length) ⟨d1,d2,d3,d4⟩ cs (.own 248 0 D.length),bf Y,cA D]) [240,241,248] [] (h66n Y D (fV s3 o) hYl hw) rV ⟨⟨rfl,rfl⟩,⟨rfl,rfl,rfl,rfl,rfl,trivial⟩,rfl,⟨rfl,rfl,rfl,rfl,rfl,rfl,rfl,rfl,rfl,rfl,trivial⟩,trivial⟩ (eX rfl rfl rfl) rfl ⟨⟨rfl,rfl⟩,rfl⟩ rfl gG rfl rfl ?_
         with_reducible refine wK ?_
         by_cases e2:s4=b
         ·obtain rfl:=e2.symm
          rw[if_pos rfl,List.append_nil] at htd
          have hYs:Y.set k ⟨s1,s2,o,b⟩=Y:=by
           apply List.ext_getElem?
           intro n
           rw[List.getElem?_set]
           by_cases e:k=n
           ·subst e;rw[if_pos rfl,if_pos (by omega),hYk]
           ·rw[if_neg e]
          rw[hYs] at hts
          repeat' (first
  |refine gK ?_|refine aE ?_ ?_
  | ((first
   |((with_reducible show gX _ _ _ _ _);refine gX.mk k rfl (by omega) ?_)
   |((with_reducible show bE _ _ _ _ _);refine bE.mk (gO ⟨s1,s2,o,b⟩) (by rw[Nat.zero_add];exact fP hYk) ?_)
   |((with_reducible refine kQ 21 ?_);refine cL h39 Mr ?_))<;>with_reducible refine wK ?_)
  |apply  trivial)
          refine aT.mk (k+1) (by omega) (by omega) ?_
          rw[htd,hts]
          (refine fK ?_;(with_reducible repeat' (first|exact trivial|(show _∧_;refine aK ?_ ?_)));(all_goals try rfl))
          all_goals first
           |exact⟨.refl (aj _),aj _⟩
           |exact⟨.refl (aJ _),aJ _⟩
           |(simp;done)
         ·rw[if_neg e2] at htd
          have e2':(b==s4)=false:=by cases b<;>cases s4<;>simp at e2 ⊢
          (have fct:=e2';(repeat' (first
  |refine gF ?_|refine aE ?_ ?_
  | ((first
   |((with_reducible show gX _ _ _ _ _);refine gX.mk k rfl (by omega) ?_)
   |((with_reducible show bE _ _ _ _ _);refine bE.mk (gO ⟨s1,s2,o,s4⟩) (by rw[Nat.zero_add];exact fP hYk) ?_)
   |((with_reducible refine kQ 21 ?_);refine cL h39 Mr ?_))<;>with_reducible refine wK ?_)
  |apply  trivial));all_goals clear fct)
          rw[yc Y k ⟨s1,s2,o,b⟩]
          cases hw2:cG ⟨c1,c2,c3,c4,c5⟩ 6 with
          | true=>
            rw[jt (show cG _ (ct b).kind=true from hw2)] at htd
            have hFl:(D++ ([⟨(k:Int),ct b⟩]:List ej)).length=D.length+1:=by simp
            refine ah.dw (news:=[bW ⟨l,m⟩ (.own 241 0 st.length) ⟨d1,d2,d3,d4⟩ cs (.own 911 0 (D.length+1)),bf (Y.set k ⟨s1,s2,o,b⟩),.dead,cA (D++ [⟨(k:Int),ct b⟩])]) [240,241,248,911] [] (h66y (Y.set k ⟨s1,s2,o,b⟩) D (ct b) (by simp;omega) (by omega) hw2) rV ⟨⟨rfl,rfl⟩,⟨rfl,rfl,rfl,rfl,rfl,trivial⟩,rfl,⟨rfl,rfl,rfl,rfl,rfl,rfl,rfl,rfl,rfl,rfl,trivial⟩,trivial⟩ (eX rfl rfl rfl) rfl ⟨⟨rfl,rfl⟩,rfl⟩ rfl kU rfl rfl ?_
            with_reducible refine wK ?_
            repeat' (first
  |refine gK ?_|refine aE ?_ ?_
  |apply  trivial)
            refine aT.mk (k+1) (by omega) (by omega) ?_
            rw[htd,hts]
            (refine fK ?_;(with_reducible repeat' (first|exact trivial|(show _∧_;refine aK ?_ ?_)));(all_goals try rfl))
            all_goals first
             |exact⟨.refl (aj _),aj _⟩
             |exact⟨.refl (aJ _),aJ _⟩
             |(simp;done)
          | false=>
            rw[kG (show cG _ (ct b).kind=false from hw2),List.append_nil] at htd
            refine ah.dw (news:=[bW ⟨l,m⟩ (.own 241 0 st.length) ⟨d1,d2,d3,d4⟩ cs (.own 248 0 D.length),bf (Y.set k ⟨s1,s2,o,b⟩),cA D]) [240,241,248] [] (h66n (Y.set k ⟨s1,s2,o,b⟩) D (ct b) (by simp;omega) hw2) rV ⟨⟨rfl,rfl⟩,⟨rfl,rfl,rfl,rfl,rfl,trivial⟩,rfl,⟨rfl,rfl,rfl,rfl,rfl,rfl,rfl,rfl,rfl,rfl,trivial⟩,trivial⟩ (eX rfl rfl rfl) rfl ⟨⟨rfl,rfl⟩,rfl⟩ rfl gG rfl rfl ?_
            with_reducible refine wK ?_
            repeat' (first
  |refine gK ?_|refine aE ?_ ?_
  | apply trivial)
            refine aT.mk (k+1) (by omega) (by omega) ?_
            rw[htd,hts]
            (refine fK ?_;(with_reducible repeat' (first|exact trivial|(show _∧_;refine aK ?_ ?_)));(all_goals try rfl))
            all_goals first
             |exact⟨.refl (aj _),aj _⟩
             |exact⟨.refl (aJ _),aJ _⟩
             |(simp;done)
   ·have hjl:k=st.length:=by simp only[dG] at h1;omega
    subst hjl
    repeat' (first
  |refine gK ?_|refine aE ?_ ?_
  |(((with_reducible show aH _ _ _ _);refine dK ?_)<;>with_reducible refine wK ?_)
  | apply trivial)
    all_goals first|exact sv rfl rfl rfl htk.symm|exact qT rfl rfl rfl rfl
end Go.Proofs.Heir
