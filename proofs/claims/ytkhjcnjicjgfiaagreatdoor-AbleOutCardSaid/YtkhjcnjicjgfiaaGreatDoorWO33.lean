/- Models, plain laws and contracts of functions of the given program; conditions as stated in each theorem. By an AI agent. -/
import Derived.Test.YtkhjcnjicjgfiaaGreatDoorWO29
import Derived.Test.YtkhjcnjicjgfiaaGreatDoorWO28
import Derived.Test.YtkhjcnjicjgfiaaGreatDoorWO26
import Derived.Test.YtkhjcnjicjgfiaaGreatDoorWO32
import Derived.Test.YtkhjcnjicjgfiaaGreatDoorWO16
import Derived.Test.YtkhjcnjicjgfiaaGreatDoorWO17
set_option linter.unusedSimpArgs false
set_option linter.unusedVariables false
section
namespace Go.Proofs.Heir
open Go Go.Am Go.RowKit Go.Lib
set_option maxRecDepth 100000
set_option maxHeartbeats 8000000
variable {l l' : List ai} {m : Int}
theorem oO {l:List ai}{k:Nat}(h:af l (k:Int)=true):∃x,l[k]? =some x∧nd l (k:Int)=x:=by
  obtain⟨i,x,e,hx,hn⟩:=aU.1 h
  have e':k=i:=by omega
  subst e'
  exact⟨x,hx,hn⟩
theorem JB (R:RF l m){n p:Int}{r:List Int}(hn:af l n=true)(hp:af l p=true)(hk:(nd l n).kind=1)(hpar:(nd l n).parent=p)(hkids:(nd l p).kids=n::r)(hname:(nd l n).name=HD):
    ((nd l p).kind≠1∧eR ⟨l,m⟩ p jI=(⟨l,m⟩,[],5))∨((nd l p).kind=1∧∃ (w:List ai) (ns:List aR),eR ⟨l,m⟩ p jI=(⟨w,m⟩,ns,0)∧RF w m∧w.length=l.length∧lJ l p=n∧jv l n=(fI (nd l n)||jv w p)):=by
  have hrf:(aX ⟨l,m⟩&&af l p)=true:=by rw[cC.2 R,hp];rfl
  by_cases hkp:(nd l p).kind=1
  · refine .inr ⟨hkp,iM l p (bS (nd l p).attrs jI).1,iy (nd l p).attrs (bS (nd l p).attrs jI).1 p jI,?_,?_,gL _ _ _,wA hkids hk hname,?_⟩
    · unfold eR kD
      simp only
      rw[if_pos hrf,if_pos hkp,if_neg (fun q=>q rfl),oP,if_neg (by decide)]
      rfl
    · have:=(zG R hp jI).right
      unfold eR kD at this
      simp only at this
      rw[if_pos hrf,if_pos hkp,if_neg (fun q=>q rfl),oP,if_neg (by decide)] at this
      exact cC.1 this
    · have R':RF (iM l p (bS (nd l p).attrs jI).1) m:=by
        have:=(zG R hp jI).right
        unfold eR kD at this
        simp only at this
        rw[if_pos hrf,if_pos hkp,if_neg (fun q=>q rfl),oP,if_neg (by decide)] at this
        exact cC.1 this
      refine JW R R' (gL _ _ _) (fun x hx=>⟨(mR hp x hx).1,(mR hp x hx).2.1⟩) hn hpar (by have:=aV hp;omega) hk hkp (wA hkids hk hname) fun x hx=>?_
      rw[AW hp hx]
      by_cases e:x=p
      ·rw[if_pos e,if_pos e];exact D0
      ·rw[if_neg e,if_neg e]
  · refine .inl ⟨hkp,?_⟩
    unfold eR kD
    simp only
    rw[if_pos hrf,if_neg hkp,if_pos (by decide)]
theorem EC (R:RF l m){n p:Int}(hn:af l n=true)(hp:af l p=true)(hk:(nd l n).kind=1)(hpar:(nd l n).parent=-1){first:Int}(hf:first=((nd l p).kids.head?).getD (-1)):
    ((eS ⟨l,m⟩ n p first).2.2≠0∧(eS ⟨l,m⟩ n p first).1=⟨l,m⟩∧(eS ⟨l,m⟩ n p first).2.1=[])∨∃ (h:List ai) (ns:List aR) (r:List Int),eS ⟨l,m⟩ n p first=(⟨h,m⟩,ns,0)∧RF h m∧h.length=l.length∧(nd h n).parent=p∧(nd h p).kids=n::r∧eZ (nd h n) (nd l n):=by
  have hnk:n∉ (nd l p).kids:=fun q=>by have:=(R.kid p hp n q).2.1;have:=aV hp;omega
  have hc:first=-1∨first∈ (nd l p).kids:=by
    rw[hf]
    cases(nd l p).kids with
    |nil=>exact .inl rfl
    |cons a r=>exact .inr dJ
  have hct:first=-1∨af l first=true:=hc.imp id fun q=>(R.kid p hp first q).1
  have hne:first≠n:=fun e=>by
    rcases hc with q|q
    ·have:=aV hn;omega
    ·exact hnk (e▸q)
  by_cases e0:nY ⟨l,m⟩ n p first=0
  · have C:=C9 R hn hp hct (by rw[←FU R hn hp hct];exact e0)
    have hbef:gT ⟨l,m⟩ n p first=first:=by unfold gT;rw[if_neg (fun q=>q e0),if_pos hne]
    rw[if_pos hne] at C
    have hR:=vz R [] C
    have K:=E4 R [] C
    have hpo:dn l n=[n]:=fQ (by omega)
    have hlike:=Fj R [] C n hn
    have hkids:∃r,(nd (dz (l,[]) n p first).1 p).kids=n::r:=by
      rw[K.1,hpo]
      have hfil:((nd l p).kids.filter fun k=> !me [n] k)=(nd l p).kids:=by
        rw[List.filter_eq_self]
        intro k hkk
        unfold me
        simp only[Bool.not_eq_true',dh,gg]
        exact fun q=>hnk (q▸hkk)
      rw[hfil]
      unfold iv
      cases hcs:(nd l p).kids with
      | nil=>
        rw[hcs] at hf
        rw[if_pos (show first=-1 from hf)];exact⟨[],rfl⟩
      | cons a r=>
        rw[hcs] at hf
        have ha:first=a:=hf
        have:a≠-1:=Af R hp a (by rw[hcs];exact dJ)
        subst ha
        rw[if_neg this,List.takeWhile_cons,if_neg (by simp)]
        exact⟨_,rfl⟩
    obtain⟨r,hr⟩:=hkids
    refine .inr ⟨(dz (l,[]) n p first).1,(dz (l,[]) n p first).2,r,?_,hR.1,hR.2,?_,hr,hlike⟩
    ·unfold eS;rw[if_pos e0,hbef]
    ·exact(K.2.1 n (by rw[hpo];exact gg.2 rfl)).2
  · refine .inl ?_
    rw[wo e0]
    exact⟨e0,rfl,rfl⟩
theorem KE (f:ForM)(a b:Int)(ha:0≤a∧a<256)(hb:0≤b∧b<256):an Tryz.prog 11 [] [aY f,.lit (.int .u8 a),.lit (.int .u8 b)] [] (bB true):=by
  have h15:=Lq
  have h16:=K3 f
  cases hsh:tJ f with
  | false=>
    rw[hsh] at h16
    obtain⟨l,m⟩:=f
    refine an.aF (rvs:=[.tmp 6]) G au Tryz.func11 rfl Tryz.ntmps11 rfl rfl ?_;with_reducible refine wD ?_
    repeat' (first
    |refine gK ?_
    | ((first
      |((with_reducible show aa _ _ 15 _ _ _ _);refine aa.lit [] h15 oa trivial rfl rfl ?_)
      |((with_reducible show aa _ _ 16 _ _ _ _);refine aa.lit [] h16 nT ⟨⟨rfl,rfl,trivial⟩,trivial⟩ rfl rfl ?_))<;>with_reducible refine wK ?_)
    |((with_reducible show(_∧_)∧_∧_);(refine eK ?_ ?_<;>with_reducible repeat' (first|exact trivial|(show _∧_;refine aK ?_ ?_)))))
    all_goals rfl
  | true =>
    rw[hsh] at h16
    have hs:=xQ hsh
    have h17:=ng f hs
    cases hr:aX f with
    | false=>
      rw[hr] at h17
      obtain⟨l,m⟩:=f
      refine an.aF (rvs:=[.tmp 6]) G au Tryz.func11 rfl Tryz.ntmps11 rfl rfl ?_;with_reducible refine wD ?_
      repeat' (first
    |refine gK ?_
    | ((first
      |((with_reducible show aa _ _ 15 _ _ _ _);refine aa.lit [] h15 oa trivial rfl rfl ?_)
      |((with_reducible show aa _ _ 16 _ _ _ _);refine aa.lit [] h16 nT ⟨⟨rfl,rfl,trivial⟩,trivial⟩ rfl rfl ?_)
      |((with_reducible show aa _ _ 17 _ _ _ _);refine aa.lit [] h17 jX ⟨⟨rfl,rfl,trivial⟩,trivial⟩ rfl rfl ?_))<;>with_reducible refine wK ?_)
    | ((with_reducible show(_∧_)∧_∧_);(refine eK ?_ ?_<;>with_reducible repeat' (first|exact trivial|(show _∧_;refine aK ?_ ?_)))))
      all_goals rfl
    | true =>
      rw[hr] at h17
      have hpos:1≤f.nodes.length:=by
        have h0:=hr
        unfold aX oV at h0
        simp only[bQ,bO] at h0
        exact h0.1.1.1.2
      obtain⟨l,m⟩:=f
      have R:RF l m:=cC.1 hr
      simp only at hpos
      have h60:l.length≤60:=by
        have:=hsh;rw[Aw] at this;simp only[bQ,bO] at this;exact this.1
      have hlm:(l.map bJ).length=l.length:=cj ..
      obtain⟨i,x,hni,hx,hnx⟩:=Cu (l:=l) (n:=a% ((l.map bJ).length:Int)) (by rw[hlm];exact⟨Int.emod_nonneg _ (by omega),Int.emod_lt_of_pos _ (by omega)⟩)
      obtain⟨j,y,hnj,hy,hny⟩:=Cu (l:=l) (n:=b% ((l.map bJ).length:Int)) (by rw[hlm];exact⟨Int.emod_nonneg _ (by omega),Int.emod_lt_of_pos _ (by omega)⟩)
      have ht:=dM hx
      have htp:=dM hy
      have hcx:=cz hx
      have hxal:x.attrs.length≤100000:=by have:=hs.attrs x (bT hx);omega
      have h23:=qP x.attrs hxal jI
      have h32:=KW ⟨l,m⟩ hs i
      have h21:=uM ⟨l,m⟩ hs i
      rw[ht,cC.2 R,Bool.true_and,Bool.true_and] at h21
      -- what goes out
      obtain⟨lg,nsg,eg,hrem,RG,hlg,hpg,hlike,heg⟩:∃ (lg:List ai) (nsg:List aR) (eg:Int),iz ⟨l,m⟩ i=(⟨lg,m⟩,nsg,eg)∧RF lg m∧lg.length=l.length∧(nd lg i).parent=-1∧eZ (nd lg i) (nd l i)∧((eg=6∧lg=l)∨eg=0):=by
        by_cases hp:(nd l i).parent=-1
        ·exact⟨l,[],6,tD R ht hp,R,rfl,hp,eZ.refl _,.inl ⟨rfl,rfl⟩⟩
        · have L:=gN R ht i ht
          exact⟨_,_,0,uJ R ht hp,fm R ht,dS ..,by rw[L.2.2.1,if_pos rfl],L.1,.inr rfl⟩
      rw[hrem] at h32
      have TG:=bf hlg
      have hsg:bE lg:=fg RG (by omega)
      obtain⟨gx,hgx,hgxn⟩:=oO (show af lg i=true by rw[TG];exact ht)
      obtain⟨gy,hgy,hgyn⟩:=oO (show af lg j=true by rw[TG];exact htp)
      have hgyl:gy.kids.length≤60:=hsg.kids gy (bT hgy)
      by_cases hk:(nd l i).kind=1
      rotate_left
      · rw [He hk] at h21
        rw[hcx] at hk
        rw[hgxn] at hpg
        obtain⟨x1,x2,x3,x4,x5,x6,x7,x8,x9,x10⟩:=x
        obtain⟨g1,g2,g3,g4,g5,g6,g7,g8,g9,g10⟩:=gx
        simp only at h23 hk hpg
        have fk:=eq_false hk
        rcases heg with⟨rfl,rfl⟩|rfl
        · rw[hx] at hgx;cases hgx
          refine an.aF (rvs:=[.tmp 6]) G au Tryz.func11 rfl Tryz.ntmps11 rfl rfl ?_;with_reducible refine wD ?_
          (have fct:=And.intro hlm (fk);(repeat' (first
    |refine gF ?_
    | ((first
      |((with_reducible show aa _ _ 15 _ _ _ _);refine aa.lit [] h15 oa trivial rfl rfl ?_)
      |((with_reducible show aa _ _ 16 _ _ _ _);refine aa.lit [] h16 nT ⟨⟨rfl,rfl,trivial⟩,trivial⟩ rfl rfl ?_)
      |((with_reducible show aa _ _ 17 _ _ _ _);refine aa.lit [] h17 jX ⟨⟨rfl,rfl,trivial⟩,trivial⟩ rfl rfl ?_)
      |(refine cT.int (by kernel_rfl) (by kernel_rfl) (wrap_u8 (by assumption)) ?_)
      |(refine aN.rem (by omega) (by(try simp only[ay]);omega) rfl rfl rfl rfl ?_)
      |((with_reducible show aG _ _ _ _ _);first|refine aG.mk i (az _) (by first|exact hni|rfl) (ah hx) ?_|refine aG.mk i (az _) (by first|exact hni|rfl) (ah hgx) ?_|refine aG.mk j (az _) (by first|exact hnj|rfl) (ah hgy) ?_|refine aG.mk j (az _) (by first|exact hnj|rfl) (ah hhy) ?_|refine aG.mk 0 (aj first) rfl (bK hfz) ?_)
      |((with_reducible show aa _ _ 23 _ _ _ _);refine aa.val [] h23 mc ⟨rfl,rfl,trivial⟩ rfl rfl rfl ?_)
      |((with_reducible show aa _ _ 32 _ _ _ _);(try rw[hni]);(try rw[hnj]);refine aa.val [] h32 pg ⟨⟨rfl,rfl,trivial⟩,rfl,trivial⟩ rfl rfl rfl ?_)
      |((with_reducible show aa _ _ 21 _ _ _ _);(try rw[hni]);(try rw[hnj]);first|refine aa.lit [] h21g cQ ⟨⟨rfl,rfl,trivial⟩,rfl,trivial⟩ rfl rfl ?_|refine aa.lit [] h21 cQ ⟨⟨rfl,rfl,trivial⟩,rfl,trivial⟩ rfl rfl ?_|refine aa.lit [] h21h cQ ⟨⟨rfl,rfl,trivial⟩,rfl,trivial⟩ rfl rfl ?_|refine aa.lit [] h21w cQ ⟨⟨rfl,rfl,trivial⟩,rfl,trivial⟩ rfl rfl ?_)
      |((with_reducible show aa _ _ 29 _ _ _ _);(try rw[hni]);(try rw[hnj]);refine aa.val [] h29 o9 ⟨⟨rfl,rfl,trivial⟩,rfl,rfl,rfl,trivial⟩ rfl rfl rfl ?_)
      |((with_reducible show aa _ _ 24 _ _ _ _);(try rw[hni]);(try rw[hnj]);refine aa.val [] h24 pq ⟨⟨rfl,rfl,trivial⟩,rfl,rfl,trivial⟩ rfl rfl rfl ?_)
      |((with_reducible show aa _ _ 19 _ _ _ _);(try rw[hni]);(try rw[hnj]);refine aa.lit [] h19 oz ⟨⟨rfl,rfl,trivial⟩,rfl,trivial⟩ rfl rfl ?_)
      |((with_reducible show aL _ _ _ _);refine dK ?_))<;>with_reducible refine wK ?_)
    | ((with_reducible show(_∧_)∧_∧_);(refine eK ?_ ?_<;>with_reducible repeat' (first|exact trivial|(show _∧_;refine aK ?_ ?_))))));all_goals clear fct)
          all_goals first|rfl|(rw[bY q1];rfl)|trace_state
        · refine an.aF (rvs:=[.tmp 6]) G au Tryz.func11 rfl Tryz.ntmps11 rfl rfl ?_;with_reducible refine wD ?_
          (have fct:=And.intro hlm (fk);(repeat' (first
    |refine gF ?_
    | ((first
      |((with_reducible show aa _ _ 15 _ _ _ _);refine aa.lit [] h15 oa trivial rfl rfl ?_)
      |((with_reducible show aa _ _ 16 _ _ _ _);refine aa.lit [] h16 nT ⟨⟨rfl,rfl,trivial⟩,trivial⟩ rfl rfl ?_)
      |((with_reducible show aa _ _ 17 _ _ _ _);refine aa.lit [] h17 jX ⟨⟨rfl,rfl,trivial⟩,trivial⟩ rfl rfl ?_)
      |(refine cT.int (by kernel_rfl) (by kernel_rfl) (wrap_u8 (by assumption)) ?_)
      |(refine aN.rem (by omega) (by(try simp only[ay]);omega) rfl rfl rfl rfl ?_)
      |((with_reducible show aG _ _ _ _ _);first|refine aG.mk i (az _) (by first|exact hni|rfl) (ah hx) ?_|refine aG.mk i (az _) (by first|exact hni|rfl) (ah hgx) ?_|refine aG.mk j (az _) (by first|exact hnj|rfl) (ah hgy) ?_|refine aG.mk j (az _) (by first|exact hnj|rfl) (ah hhy) ?_|refine aG.mk 0 (aj first) rfl (bK hfz) ?_)
      |((with_reducible show aa _ _ 23 _ _ _ _);refine aa.val [] h23 mc ⟨rfl,rfl,trivial⟩ rfl rfl rfl ?_)
      |((with_reducible show aa _ _ 32 _ _ _ _);(try rw[hni]);(try rw[hnj]);refine aa.val [] h32 pg ⟨⟨rfl,rfl,trivial⟩,rfl,trivial⟩ rfl rfl rfl ?_)
      |((with_reducible show aa _ _ 21 _ _ _ _);(try rw[hni]);(try rw[hnj]);first|refine aa.lit [] h21g cQ ⟨⟨rfl,rfl,trivial⟩,rfl,trivial⟩ rfl rfl ?_|refine aa.lit [] h21 cQ ⟨⟨rfl,rfl,trivial⟩,rfl,trivial⟩ rfl rfl ?_|refine aa.lit [] h21h cQ ⟨⟨rfl,rfl,trivial⟩,rfl,trivial⟩ rfl rfl ?_|refine aa.lit [] h21w cQ ⟨⟨rfl,rfl,trivial⟩,rfl,trivial⟩ rfl rfl ?_)
      |((with_reducible show aa _ _ 29 _ _ _ _);(try rw[hni]);(try rw[hnj]);refine aa.val [] h29 o9 ⟨⟨rfl,rfl,trivial⟩,rfl,rfl,rfl,trivial⟩ rfl rfl rfl ?_)
      |((with_reducible show aa _ _ 24 _ _ _ _);(try rw[hni]);(try rw[hnj]);refine aa.val [] h24 pq ⟨⟨rfl,rfl,trivial⟩,rfl,rfl,trivial⟩ rfl rfl rfl ?_)
      |((with_reducible show aa _ _ 19 _ _ _ _);(try rw[hni]);(try rw[hnj]);refine aa.lit [] h19 oz ⟨⟨rfl,rfl,trivial⟩,rfl,trivial⟩ rfl rfl ?_)
      |((with_reducible show aL _ _ _ _);refine dK ?_))<;>with_reducible refine wK ?_)
    | ((with_reducible show(_∧_)∧_∧_);(refine eK ?_ ?_<;>with_reducible repeat' (first|exact trivial|(show _∧_;refine aK ?_ ?_))))));all_goals clear fct)
          all_goals first|rfl|(rw[bY q1];rfl)|trace_state
      have h21g:=uM ⟨lg,m⟩ hsg i
      have hown:jv lg i=decide (0≤bU x.attrs jI):=by
        rw[B3 RG (by rw[TG];exact ht) hpg,yR hlike,hcx]
        unfold fI
        rw[dV (by rw[←hcx];exact hk),Bool.true_and]
      rw[show(af lg i&&(aX ⟨lg,m⟩&&jv lg i))=decide (0≤bU x.attrs jI) by rw[TG,ht,cC.2 RG,hown];rfl] at h21g
      have hdis:fI (nd lg i)=decide (0≤bU x.attrs jI):=by rw[←B3 RG (by rw[TG];exact ht) hpg];exact hown
      have hkg:(nd lg i).kind=1:=by rw[hlike.kind];exact hk
      generalize decide (0≤bU x.attrs jI)=own at*
      have h29:=fun c=>Lr ⟨lg,m⟩ hsg (by rw[hlg];exact h60) i j c
      have hfirst:=fun c hc=>EC RG (n:=i) (p:=j) (first:=c) (by rw[TG];exact ht) (by rw[TG];exact htp) hkg hpg hc
      have hng:(nd lg i).name=x.name:=by rw[hlike.name,hcx]
      have hhk:∀h:List ai,eZ (nd h i) (nd lg i)→(nd h i).kind=1∧(nd h i).name=x.name∧fI (nd h i)=own:=fun h q=>⟨by rw[q.kind];exact hkg,by rw[q.name];exact hng,by rw[yR q];exact hdis⟩
      rw[hcx] at hk
      rw[hgxn] at hpg
      rw[hgyn] at hfirst
      clear hown hdis hkg hng hcx hlike
      obtain⟨x1,x2,x3,x4,x5,x6,x7,x8,x9,x10⟩:=x
      obtain⟨g1,g2,g3,g4,g5,g6,g7,g8,g9,g10⟩:=gx
      obtain⟨y1,y2,y3,y4,y5,y6,y7,y8,y9,y10⟩:=gy
      simp only at h23 hk hpg hgyl hfirst hhk
      subst hpg
      have fk:=eq_true hk
      have hyl:(y7.map bV).length=y7.length:=cj ..
      obtain⟨first,hfst⟩:∃first,first=(y7.head?).getD (-1):=⟨_,rfl⟩
      have hcut:(y7=[]∧first=-1)∨(0<y7.length∧y7[0]? =some first):=by
        cases y7 with
        |nil=>exact .inl ⟨rfl,hfst⟩
        |cons z r=>exact .inr ⟨by simp,by rw[hfst];rfl⟩
      have fo:∀v:Bool,(v=v)=True:=fun v=>eq_self v
      have h29:=h29 first
      rcases hfirst first hfst with⟨he,e1,e2⟩|⟨h,nsh,r,hins,RH,hlh,hph,hkh,hlk⟩
      · have e3:eS ⟨lg,m⟩ i j first=(⟨lg,m⟩,[],(eS ⟨lg,m⟩ i j first).2.2):=Prod.ext e1 (Prod.ext e2 rfl)
        rw[e3] at h29
        generalize(eS ⟨lg,m⟩ i j first).2.2=e4 at*
        have fe:=eq_false he
        rcases heg with⟨rfl,rfl⟩|rfl
        · rw [hx] at hgx;cases hgx
          rcases hcut with⟨rfl,rfl⟩|⟨hf0,hfz⟩
          · refine an.aF (rvs:=[.tmp 6]) G au Tryz.func11 rfl Tryz.ntmps11 rfl rfl ?_;with_reducible refine wD ?_
            (have fct:=And.intro hlm (And.intro fk (fe));(repeat' (first
    |refine gF ?_
    | ((first
      |((with_reducible show aa _ _ 15 _ _ _ _);refine aa.lit [] h15 oa trivial rfl rfl ?_)
      |((with_reducible show aa _ _ 16 _ _ _ _);refine aa.lit [] h16 nT ⟨⟨rfl,rfl,trivial⟩,trivial⟩ rfl rfl ?_)
      |((with_reducible show aa _ _ 17 _ _ _ _);refine aa.lit [] h17 jX ⟨⟨rfl,rfl,trivial⟩,trivial⟩ rfl rfl ?_)
      |(refine cT.int (by kernel_rfl) (by kernel_rfl) (wrap_u8 (by assumption)) ?_)
      |(refine aN.rem (by omega) (by(try simp only[ay]);omega) rfl rfl rfl rfl ?_)
      |((with_reducible show aG _ _ _ _ _);first|refine aG.mk i (az _) (by first|exact hni|rfl) (ah hx) ?_|refine aG.mk i (az _) (by first|exact hni|rfl) (ah hgx) ?_|refine aG.mk j (az _) (by first|exact hnj|rfl) (ah hgy) ?_|refine aG.mk j (az _) (by first|exact hnj|rfl) (ah hhy) ?_|refine aG.mk 0 (aj first) rfl (bK hfz) ?_)
      |((with_reducible show aa _ _ 23 _ _ _ _);refine aa.val [] h23 mc ⟨rfl,rfl,trivial⟩ rfl rfl rfl ?_)
      |((with_reducible show aa _ _ 32 _ _ _ _);(try rw[hni]);(try rw[hnj]);refine aa.val [] h32 pg ⟨⟨rfl,rfl,trivial⟩,rfl,trivial⟩ rfl rfl rfl ?_)
      |((with_reducible show aa _ _ 21 _ _ _ _);(try rw[hni]);(try rw[hnj]);first|refine aa.lit [] h21g cQ ⟨⟨rfl,rfl,trivial⟩,rfl,trivial⟩ rfl rfl ?_|refine aa.lit [] h21 cQ ⟨⟨rfl,rfl,trivial⟩,rfl,trivial⟩ rfl rfl ?_|refine aa.lit [] h21h cQ ⟨⟨rfl,rfl,trivial⟩,rfl,trivial⟩ rfl rfl ?_|refine aa.lit [] h21w cQ ⟨⟨rfl,rfl,trivial⟩,rfl,trivial⟩ rfl rfl ?_)
      |((with_reducible show aa _ _ 29 _ _ _ _);(try rw[hni]);(try rw[hnj]);refine aa.val [] h29 o9 ⟨⟨rfl,rfl,trivial⟩,rfl,rfl,rfl,trivial⟩ rfl rfl rfl ?_)
      |((with_reducible show aa _ _ 24 _ _ _ _);(try rw[hni]);(try rw[hnj]);refine aa.val [] h24 pq ⟨⟨rfl,rfl,trivial⟩,rfl,rfl,trivial⟩ rfl rfl rfl ?_)
      |((with_reducible show aa _ _ 19 _ _ _ _);(try rw[hni]);(try rw[hnj]);refine aa.lit [] h19 oz ⟨⟨rfl,rfl,trivial⟩,rfl,trivial⟩ rfl rfl ?_)
      |((with_reducible show aL _ _ _ _);refine dK ?_))<;>with_reducible refine wK ?_)
    |((with_reducible show(_∧_)∧_∧_);(refine eK ?_ ?_<;>with_reducible repeat' (first|exact trivial|(show _∧_;refine aK ?_ ?_))))));all_goals clear fct)
            all_goals first|rfl|(rw[bY q1];rfl)|trace_state
          · have hf1:=eq_true (show 0< (y7.length:Int) by omega)
            refine an.aF (rvs:=[.tmp 6]) G au Tryz.func11 rfl Tryz.ntmps11 rfl rfl ?_;with_reducible refine wD ?_
            (have fct:=And.intro hlm (And.intro fk (And.intro hyl (And.intro hf1 (fe))));(repeat' (first
    |refine gF ?_
    | ((first
      |((with_reducible show aa _ _ 15 _ _ _ _);refine aa.lit [] h15 oa trivial rfl rfl ?_)
      |((with_reducible show aa _ _ 16 _ _ _ _);refine aa.lit [] h16 nT ⟨⟨rfl,rfl,trivial⟩,trivial⟩ rfl rfl ?_)
      |((with_reducible show aa _ _ 17 _ _ _ _);refine aa.lit [] h17 jX ⟨⟨rfl,rfl,trivial⟩,trivial⟩ rfl rfl ?_)
      |(refine cT.int (by kernel_rfl) (by kernel_rfl) (wrap_u8 (by assumption)) ?_)
      |(refine aN.rem (by omega) (by(try simp only[ay]);omega) rfl rfl rfl rfl ?_)
      |((with_reducible show aG _ _ _ _ _);first|refine aG.mk i (az _) (by first|exact hni|rfl) (ah hx) ?_|refine aG.mk i (az _) (by first|exact hni|rfl) (ah hgx) ?_|refine aG.mk j (az _) (by first|exact hnj|rfl) (ah hgy) ?_|refine aG.mk j (az _) (by first|exact hnj|rfl) (ah hhy) ?_|refine aG.mk 0 (aj first) rfl (bK hfz) ?_)
      |((with_reducible show aa _ _ 23 _ _ _ _);refine aa.val [] h23 mc ⟨rfl,rfl,trivial⟩ rfl rfl rfl ?_)
      |((with_reducible show aa _ _ 32 _ _ _ _);(try rw[hni]);(try rw[hnj]);refine aa.val [] h32 pg ⟨⟨rfl,rfl,trivial⟩,rfl,trivial⟩ rfl rfl rfl ?_)
      |((with_reducible show aa _ _ 21 _ _ _ _);(try rw[hni]);(try rw[hnj]);first|refine aa.lit [] h21g cQ ⟨⟨rfl,rfl,trivial⟩,rfl,trivial⟩ rfl rfl ?_|refine aa.lit [] h21 cQ ⟨⟨rfl,rfl,trivial⟩,rfl,trivial⟩ rfl rfl ?_|refine aa.lit [] h21h cQ ⟨⟨rfl,rfl,trivial⟩,rfl,trivial⟩ rfl rfl ?_|refine aa.lit [] h21w cQ ⟨⟨rfl,rfl,trivial⟩,rfl,trivial⟩ rfl rfl ?_)
      |((with_reducible show aa _ _ 29 _ _ _ _);(try rw[hni]);(try rw[hnj]);refine aa.val [] h29 o9 ⟨⟨rfl,rfl,trivial⟩,rfl,rfl,rfl,trivial⟩ rfl rfl rfl ?_)
      |((with_reducible show aa _ _ 24 _ _ _ _);(try rw[hni]);(try rw[hnj]);refine aa.val [] h24 pq ⟨⟨rfl,rfl,trivial⟩,rfl,rfl,trivial⟩ rfl rfl rfl ?_)
      |((with_reducible show aa _ _ 19 _ _ _ _);(try rw[hni]);(try rw[hnj]);refine aa.lit [] h19 oz ⟨⟨rfl,rfl,trivial⟩,rfl,trivial⟩ rfl rfl ?_)
      |((with_reducible show aL _ _ _ _);refine dK ?_))<;>with_reducible refine wK ?_)
    | ((with_reducible show(_∧_)∧_∧_);(refine eK ?_ ?_<;>with_reducible repeat' (first|exact trivial|(show _∧_;refine aK ?_ ?_))))));all_goals clear fct)
            all_goals first|rfl|(rw[bY q1];rfl)|trace_state
        · rcases hcut with⟨rfl,rfl⟩|⟨hf0,hfz⟩
          · refine an.aF (rvs:=[.tmp 6]) G au Tryz.func11 rfl Tryz.ntmps11 rfl rfl ?_;with_reducible refine wD ?_
            (have fct:=And.intro hlm (And.intro fk (fe));(repeat' (first
    |refine gF ?_
    | ((first
      |((with_reducible show aa _ _ 15 _ _ _ _);refine aa.lit [] h15 oa trivial rfl rfl ?_)
      |((with_reducible show aa _ _ 16 _ _ _ _);refine aa.lit [] h16 nT ⟨⟨rfl,rfl,trivial⟩,trivial⟩ rfl rfl ?_)
      |((with_reducible show aa _ _ 17 _ _ _ _);refine aa.lit [] h17 jX ⟨⟨rfl,rfl,trivial⟩,trivial⟩ rfl rfl ?_)
      |(refine cT.int (by kernel_rfl) (by kernel_rfl) (wrap_u8 (by assumption)) ?_)
      |(refine aN.rem (by omega) (by(try simp only[ay]);omega) rfl rfl rfl rfl ?_)
      |((with_reducible show aG _ _ _ _ _);first|refine aG.mk i (az _) (by first|exact hni|rfl) (ah hx) ?_|refine aG.mk i (az _) (by first|exact hni|rfl) (ah hgx) ?_|refine aG.mk j (az _) (by first|exact hnj|rfl) (ah hgy) ?_|refine aG.mk j (az _) (by first|exact hnj|rfl) (ah hhy) ?_|refine aG.mk 0 (aj first) rfl (bK hfz) ?_)
      |((with_reducible show aa _ _ 23 _ _ _ _);refine aa.val [] h23 mc ⟨rfl,rfl,trivial⟩ rfl rfl rfl ?_)
      |((with_reducible show aa _ _ 32 _ _ _ _);(try rw[hni]);(try rw[hnj]);refine aa.val [] h32 pg ⟨⟨rfl,rfl,trivial⟩,rfl,trivial⟩ rfl rfl rfl ?_)
      |((with_reducible show aa _ _ 21 _ _ _ _);(try rw[hni]);(try rw[hnj]);first|refine aa.lit [] h21g cQ ⟨⟨rfl,rfl,trivial⟩,rfl,trivial⟩ rfl rfl ?_|refine aa.lit [] h21 cQ ⟨⟨rfl,rfl,trivial⟩,rfl,trivial⟩ rfl rfl ?_|refine aa.lit [] h21h cQ ⟨⟨rfl,rfl,trivial⟩,rfl,trivial⟩ rfl rfl ?_|refine aa.lit [] h21w cQ ⟨⟨rfl,rfl,trivial⟩,rfl,trivial⟩ rfl rfl ?_)
      |((with_reducible show aa _ _ 29 _ _ _ _);(try rw[hni]);(try rw[hnj]);refine aa.val [] h29 o9 ⟨⟨rfl,rfl,trivial⟩,rfl,rfl,rfl,trivial⟩ rfl rfl rfl ?_)
      |((with_reducible show aa _ _ 24 _ _ _ _);(try rw[hni]);(try rw[hnj]);refine aa.val [] h24 pq ⟨⟨rfl,rfl,trivial⟩,rfl,rfl,trivial⟩ rfl rfl rfl ?_)
      |((with_reducible show aa _ _ 19 _ _ _ _);(try rw[hni]);(try rw[hnj]);refine aa.lit [] h19 oz ⟨⟨rfl,rfl,trivial⟩,rfl,trivial⟩ rfl rfl ?_)
      |((with_reducible show aL _ _ _ _);refine dK ?_))<;>with_reducible refine wK ?_)
    |((with_reducible show(_∧_)∧_∧_);(refine eK ?_ ?_<;>with_reducible repeat' (first|exact trivial|(show _∧_;refine aK ?_ ?_))))));all_goals clear fct)
            all_goals first|rfl|(rw[bY q1];rfl)|trace_state
          · have hf1:=eq_true (show 0< (y7.length:Int) by omega)
            refine an.aF (rvs:=[.tmp 6]) G au Tryz.func11 rfl Tryz.ntmps11 rfl rfl ?_;with_reducible refine wD ?_
            (have fct:=And.intro hlm (And.intro fk (And.intro hyl (And.intro hf1 (fe))));(repeat' (first
    |refine gF ?_
    | ((first
      |((with_reducible show aa _ _ 15 _ _ _ _);refine aa.lit [] h15 oa trivial rfl rfl ?_)
      |((with_reducible show aa _ _ 16 _ _ _ _);refine aa.lit [] h16 nT ⟨⟨rfl,rfl,trivial⟩,trivial⟩ rfl rfl ?_)
      |((with_reducible show aa _ _ 17 _ _ _ _);refine aa.lit [] h17 jX ⟨⟨rfl,rfl,trivial⟩,trivial⟩ rfl rfl ?_)
      |(refine cT.int (by kernel_rfl) (by kernel_rfl) (wrap_u8 (by assumption)) ?_)
      |(refine aN.rem (by omega) (by(try simp only[ay]);omega) rfl rfl rfl rfl ?_)
      |((with_reducible show aG _ _ _ _ _);first|refine aG.mk i (az _) (by first|exact hni|rfl) (ah hx) ?_|refine aG.mk i (az _) (by first|exact hni|rfl) (ah hgx) ?_|refine aG.mk j (az _) (by first|exact hnj|rfl) (ah hgy) ?_|refine aG.mk j (az _) (by first|exact hnj|rfl) (ah hhy) ?_|refine aG.mk 0 (aj first) rfl (bK hfz) ?_)
      |((with_reducible show aa _ _ 23 _ _ _ _);refine aa.val [] h23 mc ⟨rfl,rfl,trivial⟩ rfl rfl rfl ?_)
      |((with_reducible show aa _ _ 32 _ _ _ _);(try rw[hni]);(try rw[hnj]);refine aa.val [] h32 pg ⟨⟨rfl,rfl,trivial⟩,rfl,trivial⟩ rfl rfl rfl ?_)
      |((with_reducible show aa _ _ 21 _ _ _ _);(try rw[hni]);(try rw[hnj]);first|refine aa.lit [] h21g cQ ⟨⟨rfl,rfl,trivial⟩,rfl,trivial⟩ rfl rfl ?_|refine aa.lit [] h21 cQ ⟨⟨rfl,rfl,trivial⟩,rfl,trivial⟩ rfl rfl ?_|refine aa.lit [] h21h cQ ⟨⟨rfl,rfl,trivial⟩,rfl,trivial⟩ rfl rfl ?_|refine aa.lit [] h21w cQ ⟨⟨rfl,rfl,trivial⟩,rfl,trivial⟩ rfl rfl ?_)
      |((with_reducible show aa _ _ 29 _ _ _ _);(try rw[hni]);(try rw[hnj]);refine aa.val [] h29 o9 ⟨⟨rfl,rfl,trivial⟩,rfl,rfl,rfl,trivial⟩ rfl rfl rfl ?_)
      |((with_reducible show aa _ _ 24 _ _ _ _);(try rw[hni]);(try rw[hnj]);refine aa.val [] h24 pq ⟨⟨rfl,rfl,trivial⟩,rfl,rfl,trivial⟩ rfl rfl rfl ?_)
      |((with_reducible show aa _ _ 19 _ _ _ _);(try rw[hni]);(try rw[hnj]);refine aa.lit [] h19 oz ⟨⟨rfl,rfl,trivial⟩,rfl,trivial⟩ rfl rfl ?_)
      |((with_reducible show aL _ _ _ _);refine dK ?_))<;>with_reducible refine wK ?_)
    | ((with_reducible show(_∧_)∧_∧_);(refine eK ?_ ?_<;>with_reducible repeat' (first|exact trivial|(show _∧_;refine aK ?_ ?_))))));all_goals clear fct)
            all_goals first|rfl|(rw[bY q1];rfl)|trace_state
      · rw [hins] at h29
        obtain⟨k1,k2,k3⟩:=hhk h hlk
        by_cases hname:x2=HD
        rotate_left
        · have fn:=eq_false hname
          rcases heg with⟨rfl,rfl⟩|rfl
          · rw [hx] at hgx;cases hgx
            rcases hcut with⟨rfl,rfl⟩|⟨hf0,hfz⟩
            · refine an.aF (rvs:=[.tmp 6]) G au Tryz.func11 rfl Tryz.ntmps11 rfl rfl ?_;with_reducible refine wD ?_
              (have fct:=And.intro hlm (And.intro fk (fn));(repeat' (first
    |refine gF ?_
    | ((first
      |((with_reducible show aa _ _ 15 _ _ _ _);refine aa.lit [] h15 oa trivial rfl rfl ?_)
      |((with_reducible show aa _ _ 16 _ _ _ _);refine aa.lit [] h16 nT ⟨⟨rfl,rfl,trivial⟩,trivial⟩ rfl rfl ?_)
      |((with_reducible show aa _ _ 17 _ _ _ _);refine aa.lit [] h17 jX ⟨⟨rfl,rfl,trivial⟩,trivial⟩ rfl rfl ?_)
      |(refine cT.int (by kernel_rfl) (by kernel_rfl) (wrap_u8 (by assumption)) ?_)
      |(refine aN.rem (by omega) (by(try simp only[ay]);omega) rfl rfl rfl rfl ?_)
      |((with_reducible show aG _ _ _ _ _);first|refine aG.mk i (az _) (by first|exact hni|rfl) (ah hx) ?_|refine aG.mk i (az _) (by first|exact hni|rfl) (ah hgx) ?_|refine aG.mk j (az _) (by first|exact hnj|rfl) (ah hgy) ?_|refine aG.mk j (az _) (by first|exact hnj|rfl) (ah hhy) ?_|refine aG.mk 0 (aj first) rfl (bK hfz) ?_)
      |((with_reducible show aa _ _ 23 _ _ _ _);refine aa.val [] h23 mc ⟨rfl,rfl,trivial⟩ rfl rfl rfl ?_)
      |((with_reducible show aa _ _ 32 _ _ _ _);(try rw[hni]);(try rw[hnj]);refine aa.val [] h32 pg ⟨⟨rfl,rfl,trivial⟩,rfl,trivial⟩ rfl rfl rfl ?_)
      |((with_reducible show aa _ _ 21 _ _ _ _);(try rw[hni]);(try rw[hnj]);first|refine aa.lit [] h21g cQ ⟨⟨rfl,rfl,trivial⟩,rfl,trivial⟩ rfl rfl ?_|refine aa.lit [] h21 cQ ⟨⟨rfl,rfl,trivial⟩,rfl,trivial⟩ rfl rfl ?_|refine aa.lit [] h21h cQ ⟨⟨rfl,rfl,trivial⟩,rfl,trivial⟩ rfl rfl ?_|refine aa.lit [] h21w cQ ⟨⟨rfl,rfl,trivial⟩,rfl,trivial⟩ rfl rfl ?_)
      |((with_reducible show aa _ _ 29 _ _ _ _);(try rw[hni]);(try rw[hnj]);refine aa.val [] h29 o9 ⟨⟨rfl,rfl,trivial⟩,rfl,rfl,rfl,trivial⟩ rfl rfl rfl ?_)
      |((with_reducible show aa _ _ 24 _ _ _ _);(try rw[hni]);(try rw[hnj]);refine aa.val [] h24 pq ⟨⟨rfl,rfl,trivial⟩,rfl,rfl,trivial⟩ rfl rfl rfl ?_)
      |((with_reducible show aa _ _ 19 _ _ _ _);(try rw[hni]);(try rw[hnj]);refine aa.lit [] h19 oz ⟨⟨rfl,rfl,trivial⟩,rfl,trivial⟩ rfl rfl ?_)
      |((with_reducible show aL _ _ _ _);refine dK ?_))<;>with_reducible refine wK ?_)
    |((with_reducible show(_∧_)∧_∧_);(refine eK ?_ ?_<;>with_reducible repeat' (first|exact trivial|(show _∧_;refine aK ?_ ?_))))));all_goals clear fct)
              all_goals first|rfl|(rw[bY q1];rfl)|trace_state
            · have hf1:=eq_true (show 0< (y7.length:Int) by omega)
              refine an.aF (rvs:=[.tmp 6]) G au Tryz.func11 rfl Tryz.ntmps11 rfl rfl ?_;with_reducible refine wD ?_
              (have fct:=And.intro hlm (And.intro fk (And.intro hyl (And.intro hf1 (fn))));(repeat' (first
    |refine gF ?_
    | ((first
      |((with_reducible show aa _ _ 15 _ _ _ _);refine aa.lit [] h15 oa trivial rfl rfl ?_)
      |((with_reducible show aa _ _ 16 _ _ _ _);refine aa.lit [] h16 nT ⟨⟨rfl,rfl,trivial⟩,trivial⟩ rfl rfl ?_)
      |((with_reducible show aa _ _ 17 _ _ _ _);refine aa.lit [] h17 jX ⟨⟨rfl,rfl,trivial⟩,trivial⟩ rfl rfl ?_)
      |(refine cT.int (by kernel_rfl) (by kernel_rfl) (wrap_u8 (by assumption)) ?_)
      |(refine aN.rem (by omega) (by(try simp only[ay]);omega) rfl rfl rfl rfl ?_)
      |((with_reducible show aG _ _ _ _ _);first|refine aG.mk i (az _) (by first|exact hni|rfl) (ah hx) ?_|refine aG.mk i (az _) (by first|exact hni|rfl) (ah hgx) ?_|refine aG.mk j (az _) (by first|exact hnj|rfl) (ah hgy) ?_|refine aG.mk j (az _) (by first|exact hnj|rfl) (ah hhy) ?_|refine aG.mk 0 (aj first) rfl (bK hfz) ?_)
      |((with_reducible show aa _ _ 23 _ _ _ _);refine aa.val [] h23 mc ⟨rfl,rfl,trivial⟩ rfl rfl rfl ?_)
      |((with_reducible show aa _ _ 32 _ _ _ _);(try rw[hni]);(try rw[hnj]);refine aa.val [] h32 pg ⟨⟨rfl,rfl,trivial⟩,rfl,trivial⟩ rfl rfl rfl ?_)
      |((with_reducible show aa _ _ 21 _ _ _ _);(try rw[hni]);(try rw[hnj]);first|refine aa.lit [] h21g cQ ⟨⟨rfl,rfl,trivial⟩,rfl,trivial⟩ rfl rfl ?_|refine aa.lit [] h21 cQ ⟨⟨rfl,rfl,trivial⟩,rfl,trivial⟩ rfl rfl ?_|refine aa.lit [] h21h cQ ⟨⟨rfl,rfl,trivial⟩,rfl,trivial⟩ rfl rfl ?_|refine aa.lit [] h21w cQ ⟨⟨rfl,rfl,trivial⟩,rfl,trivial⟩ rfl rfl ?_)
      |((with_reducible show aa _ _ 29 _ _ _ _);(try rw[hni]);(try rw[hnj]);refine aa.val [] h29 o9 ⟨⟨rfl,rfl,trivial⟩,rfl,rfl,rfl,trivial⟩ rfl rfl rfl ?_)
      |((with_reducible show aa _ _ 24 _ _ _ _);(try rw[hni]);(try rw[hnj]);refine aa.val [] h24 pq ⟨⟨rfl,rfl,trivial⟩,rfl,rfl,trivial⟩ rfl rfl rfl ?_)
      |((with_reducible show aa _ _ 19 _ _ _ _);(try rw[hni]);(try rw[hnj]);refine aa.lit [] h19 oz ⟨⟨rfl,rfl,trivial⟩,rfl,trivial⟩ rfl rfl ?_)
      |((with_reducible show aL _ _ _ _);refine dK ?_))<;>with_reducible refine wK ?_)
    |((with_reducible show(_∧_)∧_∧_);(refine eK ?_ ?_<;>with_reducible repeat' (first|exact trivial|(show _∧_;refine aK ?_ ?_))))));all_goals clear fct)
              all_goals first|rfl|(rw[bY q1];rfl)|trace_state
          · rcases hcut with⟨rfl,rfl⟩|⟨hf0,hfz⟩
            · refine an.aF (rvs:=[.tmp 6]) G au Tryz.func11 rfl Tryz.ntmps11 rfl rfl ?_;with_reducible refine wD ?_
              (have fct:=And.intro hlm (And.intro fk (fn));(repeat' (first
    |refine gF ?_
    | ((first
      |((with_reducible show aa _ _ 15 _ _ _ _);refine aa.lit [] h15 oa trivial rfl rfl ?_)
      |((with_reducible show aa _ _ 16 _ _ _ _);refine aa.lit [] h16 nT ⟨⟨rfl,rfl,trivial⟩,trivial⟩ rfl rfl ?_)
      |((with_reducible show aa _ _ 17 _ _ _ _);refine aa.lit [] h17 jX ⟨⟨rfl,rfl,trivial⟩,trivial⟩ rfl rfl ?_)
      |(refine cT.int (by kernel_rfl) (by kernel_rfl) (wrap_u8 (by assumption)) ?_)
      |(refine aN.rem (by omega) (by(try simp only[ay]);omega) rfl rfl rfl rfl ?_)
      |((with_reducible show aG _ _ _ _ _);first|refine aG.mk i (az _) (by first|exact hni|rfl) (ah hx) ?_|refine aG.mk i (az _) (by first|exact hni|rfl) (ah hgx) ?_|refine aG.mk j (az _) (by first|exact hnj|rfl) (ah hgy) ?_|refine aG.mk j (az _) (by first|exact hnj|rfl) (ah hhy) ?_|refine aG.mk 0 (aj first) rfl (bK hfz) ?_)
      |((with_reducible show aa _ _ 23 _ _ _ _);refine aa.val [] h23 mc ⟨rfl,rfl,trivial⟩ rfl rfl rfl ?_)
      |((with_reducible show aa _ _ 32 _ _ _ _);(try rw[hni]);(try rw[hnj]);refine aa.val [] h32 pg ⟨⟨rfl,rfl,trivial⟩,rfl,trivial⟩ rfl rfl rfl ?_)
      |((with_reducible show aa _ _ 21 _ _ _ _);(try rw[hni]);(try rw[hnj]);first|refine aa.lit [] h21g cQ ⟨⟨rfl,rfl,trivial⟩,rfl,trivial⟩ rfl rfl ?_|refine aa.lit [] h21 cQ ⟨⟨rfl,rfl,trivial⟩,rfl,trivial⟩ rfl rfl ?_|refine aa.lit [] h21h cQ ⟨⟨rfl,rfl,trivial⟩,rfl,trivial⟩ rfl rfl ?_|refine aa.lit [] h21w cQ ⟨⟨rfl,rfl,trivial⟩,rfl,trivial⟩ rfl rfl ?_)
      |((with_reducible show aa _ _ 29 _ _ _ _);(try rw[hni]);(try rw[hnj]);refine aa.val [] h29 o9 ⟨⟨rfl,rfl,trivial⟩,rfl,rfl,rfl,trivial⟩ rfl rfl rfl ?_)
      |((with_reducible show aa _ _ 24 _ _ _ _);(try rw[hni]);(try rw[hnj]);refine aa.val [] h24 pq ⟨⟨rfl,rfl,trivial⟩,rfl,rfl,trivial⟩ rfl rfl rfl ?_)
      |((with_reducible show aa _ _ 19 _ _ _ _);(try rw[hni]);(try rw[hnj]);refine aa.lit [] h19 oz ⟨⟨rfl,rfl,trivial⟩,rfl,trivial⟩ rfl rfl ?_)
      |((with_reducible show aL _ _ _ _);refine dK ?_))<;>with_reducible refine wK ?_)
    |((with_reducible show(_∧_)∧_∧_);(refine eK ?_ ?_<;>with_reducible repeat' (first|exact trivial|(show _∧_;refine aK ?_ ?_))))));all_goals clear fct)
              all_goals first|rfl|(rw[bY q1];rfl)|trace_state
            · have hf1:=eq_true (show 0< (y7.length:Int) by omega)
              refine an.aF (rvs:=[.tmp 6]) G au Tryz.func11 rfl Tryz.ntmps11 rfl rfl ?_;with_reducible refine wD ?_
              (have fct:=And.intro hlm (And.intro fk (And.intro hyl (And.intro hf1 (fn))));(repeat' (first
    |refine gF ?_
    | ((first
      |((with_reducible show aa _ _ 15 _ _ _ _);refine aa.lit [] h15 oa trivial rfl rfl ?_)
      |((with_reducible show aa _ _ 16 _ _ _ _);refine aa.lit [] h16 nT ⟨⟨rfl,rfl,trivial⟩,trivial⟩ rfl rfl ?_)
      |((with_reducible show aa _ _ 17 _ _ _ _);refine aa.lit [] h17 jX ⟨⟨rfl,rfl,trivial⟩,trivial⟩ rfl rfl ?_)
      |(refine cT.int (by kernel_rfl) (by kernel_rfl) (wrap_u8 (by assumption)) ?_)
      |(refine aN.rem (by omega) (by(try simp only[ay]);omega) rfl rfl rfl rfl ?_)
      |((with_reducible show aG _ _ _ _ _);first|refine aG.mk i (az _) (by first|exact hni|rfl) (ah hx) ?_|refine aG.mk i (az _) (by first|exact hni|rfl) (ah hgx) ?_|refine aG.mk j (az _) (by first|exact hnj|rfl) (ah hgy) ?_|refine aG.mk j (az _) (by first|exact hnj|rfl) (ah hhy) ?_|refine aG.mk 0 (aj first) rfl (bK hfz) ?_)
      |((with_reducible show aa _ _ 23 _ _ _ _);refine aa.val [] h23 mc ⟨rfl,rfl,trivial⟩ rfl rfl rfl ?_)
      |((with_reducible show aa _ _ 32 _ _ _ _);(try rw[hni]);(try rw[hnj]);refine aa.val [] h32 pg ⟨⟨rfl,rfl,trivial⟩,rfl,trivial⟩ rfl rfl rfl ?_)
      |((with_reducible show aa _ _ 21 _ _ _ _);(try rw[hni]);(try rw[hnj]);first|refine aa.lit [] h21g cQ ⟨⟨rfl,rfl,trivial⟩,rfl,trivial⟩ rfl rfl ?_|refine aa.lit [] h21 cQ ⟨⟨rfl,rfl,trivial⟩,rfl,trivial⟩ rfl rfl ?_|refine aa.lit [] h21h cQ ⟨⟨rfl,rfl,trivial⟩,rfl,trivial⟩ rfl rfl ?_|refine aa.lit [] h21w cQ ⟨⟨rfl,rfl,trivial⟩,rfl,trivial⟩ rfl rfl ?_)
      |((with_reducible show aa _ _ 29 _ _ _ _);(try rw[hni]);(try rw[hnj]);refine aa.val [] h29 o9 ⟨⟨rfl,rfl,trivial⟩,rfl,rfl,rfl,trivial⟩ rfl rfl rfl ?_)
      |((with_reducible show aa _ _ 24 _ _ _ _);(try rw[hni]);(try rw[hnj]);refine aa.val [] h24 pq ⟨⟨rfl,rfl,trivial⟩,rfl,rfl,trivial⟩ rfl rfl rfl ?_)
      |((with_reducible show aa _ _ 19 _ _ _ _);(try rw[hni]);(try rw[hnj]);refine aa.lit [] h19 oz ⟨⟨rfl,rfl,trivial⟩,rfl,trivial⟩ rfl rfl ?_)
      |((with_reducible show aL _ _ _ _);refine dK ?_))<;>with_reducible refine wK ?_)
    | ((with_reducible show(_∧_)∧_∧_);(refine eK ?_ ?_<;>with_reducible repeat' (first|exact trivial|(show _∧_;refine aK ?_ ?_))))));all_goals clear fct)
              all_goals first|rfl|(rw[bY q1];rfl)|trace_state
        have fn:=eq_true hname
        have TH:=bf (hlh.trans hlg)
        have hsh2:bE h:=fg RH (by omega)
        have hti:af h i=true:=by rw[TH];exact ht
        have htj:af h j=true:=by rw[TH];exact htp
        have h24:=Lb ⟨h,m⟩ hsh2 j jI (by decide)
        have h21h:=uM ⟨h,m⟩ hsh2 i
        have h19:=GS ⟨h,m⟩ hsh2 j
        rw[hti,cC.2 RH,Bool.true_and,Bool.true_and] at h21h
        rw[show(af h (j:Int)&&aX ⟨h,m⟩)=true by rw[htj,cC.2 RH];rfl,if_pos rfl] at h19
        obtain⟨hy1,hhy,hhyn⟩:=oO htj
        rcases JB RH hti htj k1 hph hkh (by rw[k2,hname]) with⟨q1,q2⟩|⟨q1,w,nsw,q2,RW,hlw,q3,q4⟩
        · rw [q2] at h24
          rw[hhyn] at q1
          obtain⟨z1,z2,z3,z4,z5,z6,z7,z8,z9,z10⟩:=hy1
          simp only at q1
          have fz:=eq_false q1
          rcases heg with⟨rfl,rfl⟩|rfl
          · rw [hx] at hgx;cases hgx
            rcases hcut with⟨rfl,rfl⟩|⟨hf0,hfz⟩
            · refine an.aF (rvs:=[.tmp 6]) G au Tryz.func11 rfl Tryz.ntmps11 rfl rfl ?_;with_reducible refine wD ?_
              (have fct:=And.intro hlm (And.intro fk (And.intro fn (fz)));(repeat' (first
    |refine gF ?_
    | ((first
      |((with_reducible show aa _ _ 15 _ _ _ _);refine aa.lit [] h15 oa trivial rfl rfl ?_)
      |((with_reducible show aa _ _ 16 _ _ _ _);refine aa.lit [] h16 nT ⟨⟨rfl,rfl,trivial⟩,trivial⟩ rfl rfl ?_)
      |((with_reducible show aa _ _ 17 _ _ _ _);refine aa.lit [] h17 jX ⟨⟨rfl,rfl,trivial⟩,trivial⟩ rfl rfl ?_)
      |(refine cT.int (by kernel_rfl) (by kernel_rfl) (wrap_u8 (by assumption)) ?_)
      |(refine aN.rem (by omega) (by(try simp only[ay]);omega) rfl rfl rfl rfl ?_)
      |((with_reducible show aG _ _ _ _ _);first|refine aG.mk i (az _) (by first|exact hni|rfl) (ah hx) ?_|refine aG.mk i (az _) (by first|exact hni|rfl) (ah hgx) ?_|refine aG.mk j (az _) (by first|exact hnj|rfl) (ah hgy) ?_|refine aG.mk j (az _) (by first|exact hnj|rfl) (ah hhy) ?_|refine aG.mk 0 (aj first) rfl (bK hfz) ?_)
      |((with_reducible show aa _ _ 23 _ _ _ _);refine aa.val [] h23 mc ⟨rfl,rfl,trivial⟩ rfl rfl rfl ?_)
      |((with_reducible show aa _ _ 32 _ _ _ _);(try rw[hni]);(try rw[hnj]);refine aa.val [] h32 pg ⟨⟨rfl,rfl,trivial⟩,rfl,trivial⟩ rfl rfl rfl ?_)
      |((with_reducible show aa _ _ 21 _ _ _ _);(try rw[hni]);(try rw[hnj]);first|refine aa.lit [] h21g cQ ⟨⟨rfl,rfl,trivial⟩,rfl,trivial⟩ rfl rfl ?_|refine aa.lit [] h21 cQ ⟨⟨rfl,rfl,trivial⟩,rfl,trivial⟩ rfl rfl ?_|refine aa.lit [] h21h cQ ⟨⟨rfl,rfl,trivial⟩,rfl,trivial⟩ rfl rfl ?_|refine aa.lit [] h21w cQ ⟨⟨rfl,rfl,trivial⟩,rfl,trivial⟩ rfl rfl ?_)
      |((with_reducible show aa _ _ 29 _ _ _ _);(try rw[hni]);(try rw[hnj]);refine aa.val [] h29 o9 ⟨⟨rfl,rfl,trivial⟩,rfl,rfl,rfl,trivial⟩ rfl rfl rfl ?_)
      |((with_reducible show aa _ _ 24 _ _ _ _);(try rw[hni]);(try rw[hnj]);refine aa.val [] h24 pq ⟨⟨rfl,rfl,trivial⟩,rfl,rfl,trivial⟩ rfl rfl rfl ?_)
      |((with_reducible show aa _ _ 19 _ _ _ _);(try rw[hni]);(try rw[hnj]);refine aa.lit [] h19 oz ⟨⟨rfl,rfl,trivial⟩,rfl,trivial⟩ rfl rfl ?_)
      |((with_reducible show aL _ _ _ _);refine dK ?_))<;>with_reducible refine wK ?_)
    |((with_reducible show(_∧_)∧_∧_);(refine eK ?_ ?_<;>with_reducible repeat' (first|exact trivial|(show _∧_;refine aK ?_ ?_))))));all_goals clear fct)
              all_goals first|rfl|(rw[bY q1];rfl)|trace_state
            · have hf1:=eq_true (show 0< (y7.length:Int) by omega)
              refine an.aF (rvs:=[.tmp 6]) G au Tryz.func11 rfl Tryz.ntmps11 rfl rfl ?_;with_reducible refine wD ?_
              (have fct:=And.intro hlm (And.intro fk (And.intro hyl (And.intro hf1 (And.intro fn (fz)))));(repeat' (first
    |refine gF ?_
    | ((first
      |((with_reducible show aa _ _ 15 _ _ _ _);refine aa.lit [] h15 oa trivial rfl rfl ?_)
      |((with_reducible show aa _ _ 16 _ _ _ _);refine aa.lit [] h16 nT ⟨⟨rfl,rfl,trivial⟩,trivial⟩ rfl rfl ?_)
      |((with_reducible show aa _ _ 17 _ _ _ _);refine aa.lit [] h17 jX ⟨⟨rfl,rfl,trivial⟩,trivial⟩ rfl rfl ?_)
      |(refine cT.int (by kernel_rfl) (by kernel_rfl) (wrap_u8 (by assumption)) ?_)
      |(refine aN.rem (by omega) (by(try simp only[ay]);omega) rfl rfl rfl rfl ?_)
      |((with_reducible show aG _ _ _ _ _);first|refine aG.mk i (az _) (by first|exact hni|rfl) (ah hx) ?_|refine aG.mk i (az _) (by first|exact hni|rfl) (ah hgx) ?_|refine aG.mk j (az _) (by first|exact hnj|rfl) (ah hgy) ?_|refine aG.mk j (az _) (by first|exact hnj|rfl) (ah hhy) ?_|refine aG.mk 0 (aj first) rfl (bK hfz) ?_)
      |((with_reducible show aa _ _ 23 _ _ _ _);refine aa.val [] h23 mc ⟨rfl,rfl,trivial⟩ rfl rfl rfl ?_)
      |((with_reducible show aa _ _ 32 _ _ _ _);(try rw[hni]);(try rw[hnj]);refine aa.val [] h32 pg ⟨⟨rfl,rfl,trivial⟩,rfl,trivial⟩ rfl rfl rfl ?_)
      |((with_reducible show aa _ _ 21 _ _ _ _);(try rw[hni]);(try rw[hnj]);first|refine aa.lit [] h21g cQ ⟨⟨rfl,rfl,trivial⟩,rfl,trivial⟩ rfl rfl ?_|refine aa.lit [] h21 cQ ⟨⟨rfl,rfl,trivial⟩,rfl,trivial⟩ rfl rfl ?_|refine aa.lit [] h21h cQ ⟨⟨rfl,rfl,trivial⟩,rfl,trivial⟩ rfl rfl ?_|refine aa.lit [] h21w cQ ⟨⟨rfl,rfl,trivial⟩,rfl,trivial⟩ rfl rfl ?_)
      |((with_reducible show aa _ _ 29 _ _ _ _);(try rw[hni]);(try rw[hnj]);refine aa.val [] h29 o9 ⟨⟨rfl,rfl,trivial⟩,rfl,rfl,rfl,trivial⟩ rfl rfl rfl ?_)
      |((with_reducible show aa _ _ 24 _ _ _ _);(try rw[hni]);(try rw[hnj]);refine aa.val [] h24 pq ⟨⟨rfl,rfl,trivial⟩,rfl,rfl,trivial⟩ rfl rfl rfl ?_)
      |((with_reducible show aa _ _ 19 _ _ _ _);(try rw[hni]);(try rw[hnj]);refine aa.lit [] h19 oz ⟨⟨rfl,rfl,trivial⟩,rfl,trivial⟩ rfl rfl ?_)
      |((with_reducible show aL _ _ _ _);refine dK ?_))<;>with_reducible refine wK ?_)
    |((with_reducible show(_∧_)∧_∧_);(refine eK ?_ ?_<;>with_reducible repeat' (first|exact trivial|(show _∧_;refine aK ?_ ?_))))));all_goals clear fct)
              all_goals first|rfl|(rw[bY q1];rfl)|trace_state
          · rcases hcut with⟨rfl,rfl⟩|⟨hf0,hfz⟩
            · refine an.aF (rvs:=[.tmp 6]) G au Tryz.func11 rfl Tryz.ntmps11 rfl rfl ?_;with_reducible refine wD ?_
              (have fct:=And.intro hlm (And.intro fk (And.intro fn (fz)));(repeat' (first
    |refine gF ?_
    | ((first
      |((with_reducible show aa _ _ 15 _ _ _ _);refine aa.lit [] h15 oa trivial rfl rfl ?_)
      |((with_reducible show aa _ _ 16 _ _ _ _);refine aa.lit [] h16 nT ⟨⟨rfl,rfl,trivial⟩,trivial⟩ rfl rfl ?_)
      |((with_reducible show aa _ _ 17 _ _ _ _);refine aa.lit [] h17 jX ⟨⟨rfl,rfl,trivial⟩,trivial⟩ rfl rfl ?_)
      |(refine cT.int (by kernel_rfl) (by kernel_rfl) (wrap_u8 (by assumption)) ?_)
      |(refine aN.rem (by omega) (by(try simp only[ay]);omega) rfl rfl rfl rfl ?_)
      |((with_reducible show aG _ _ _ _ _);first|refine aG.mk i (az _) (by first|exact hni|rfl) (ah hx) ?_|refine aG.mk i (az _) (by first|exact hni|rfl) (ah hgx) ?_|refine aG.mk j (az _) (by first|exact hnj|rfl) (ah hgy) ?_|refine aG.mk j (az _) (by first|exact hnj|rfl) (ah hhy) ?_|refine aG.mk 0 (aj first) rfl (bK hfz) ?_)
      |((with_reducible show aa _ _ 23 _ _ _ _);refine aa.val [] h23 mc ⟨rfl,rfl,trivial⟩ rfl rfl rfl ?_)
      |((with_reducible show aa _ _ 32 _ _ _ _);(try rw[hni]);(try rw[hnj]);refine aa.val [] h32 pg ⟨⟨rfl,rfl,trivial⟩,rfl,trivial⟩ rfl rfl rfl ?_)
      |((with_reducible show aa _ _ 21 _ _ _ _);(try rw[hni]);(try rw[hnj]);first|refine aa.lit [] h21g cQ ⟨⟨rfl,rfl,trivial⟩,rfl,trivial⟩ rfl rfl ?_|refine aa.lit [] h21 cQ ⟨⟨rfl,rfl,trivial⟩,rfl,trivial⟩ rfl rfl ?_|refine aa.lit [] h21h cQ ⟨⟨rfl,rfl,trivial⟩,rfl,trivial⟩ rfl rfl ?_|refine aa.lit [] h21w cQ ⟨⟨rfl,rfl,trivial⟩,rfl,trivial⟩ rfl rfl ?_)
      |((with_reducible show aa _ _ 29 _ _ _ _);(try rw[hni]);(try rw[hnj]);refine aa.val [] h29 o9 ⟨⟨rfl,rfl,trivial⟩,rfl,rfl,rfl,trivial⟩ rfl rfl rfl ?_)
      |((with_reducible show aa _ _ 24 _ _ _ _);(try rw[hni]);(try rw[hnj]);refine aa.val [] h24 pq ⟨⟨rfl,rfl,trivial⟩,rfl,rfl,trivial⟩ rfl rfl rfl ?_)
      |((with_reducible show aa _ _ 19 _ _ _ _);(try rw[hni]);(try rw[hnj]);refine aa.lit [] h19 oz ⟨⟨rfl,rfl,trivial⟩,rfl,trivial⟩ rfl rfl ?_)
      |((with_reducible show aL _ _ _ _);refine dK ?_))<;>with_reducible refine wK ?_)
    |((with_reducible show(_∧_)∧_∧_);(refine eK ?_ ?_<;>with_reducible repeat' (first|exact trivial|(show _∧_;refine aK ?_ ?_))))));all_goals clear fct)
              all_goals first|rfl|(rw[bY q1];rfl)|trace_state
            · have hf1:=eq_true (show 0< (y7.length:Int) by omega)
              refine an.aF (rvs:=[.tmp 6]) G au Tryz.func11 rfl Tryz.ntmps11 rfl rfl ?_;with_reducible refine wD ?_
              (have fct:=And.intro hlm (And.intro fk (And.intro hyl (And.intro hf1 (And.intro fn (fz)))));(repeat' (first
    |refine gF ?_
    | ((first
      |((with_reducible show aa _ _ 15 _ _ _ _);refine aa.lit [] h15 oa trivial rfl rfl ?_)
      |((with_reducible show aa _ _ 16 _ _ _ _);refine aa.lit [] h16 nT ⟨⟨rfl,rfl,trivial⟩,trivial⟩ rfl rfl ?_)
      |((with_reducible show aa _ _ 17 _ _ _ _);refine aa.lit [] h17 jX ⟨⟨rfl,rfl,trivial⟩,trivial⟩ rfl rfl ?_)
      |(refine cT.int (by kernel_rfl) (by kernel_rfl) (wrap_u8 (by assumption)) ?_)
      |(refine aN.rem (by omega) (by(try simp only[ay]);omega) rfl rfl rfl rfl ?_)
      |((with_reducible show aG _ _ _ _ _);first|refine aG.mk i (az _) (by first|exact hni|rfl) (ah hx) ?_|refine aG.mk i (az _) (by first|exact hni|rfl) (ah hgx) ?_|refine aG.mk j (az _) (by first|exact hnj|rfl) (ah hgy) ?_|refine aG.mk j (az _) (by first|exact hnj|rfl) (ah hhy) ?_|refine aG.mk 0 (aj first) rfl (bK hfz) ?_)
      |((with_reducible show aa _ _ 23 _ _ _ _);refine aa.val [] h23 mc ⟨rfl,rfl,trivial⟩ rfl rfl rfl ?_)
      |((with_reducible show aa _ _ 32 _ _ _ _);(try rw[hni]);(try rw[hnj]);refine aa.val [] h32 pg ⟨⟨rfl,rfl,trivial⟩,rfl,trivial⟩ rfl rfl rfl ?_)
      |((with_reducible show aa _ _ 21 _ _ _ _);(try rw[hni]);(try rw[hnj]);first|refine aa.lit [] h21g cQ ⟨⟨rfl,rfl,trivial⟩,rfl,trivial⟩ rfl rfl ?_|refine aa.lit [] h21 cQ ⟨⟨rfl,rfl,trivial⟩,rfl,trivial⟩ rfl rfl ?_|refine aa.lit [] h21h cQ ⟨⟨rfl,rfl,trivial⟩,rfl,trivial⟩ rfl rfl ?_|refine aa.lit [] h21w cQ ⟨⟨rfl,rfl,trivial⟩,rfl,trivial⟩ rfl rfl ?_)
      |((with_reducible show aa _ _ 29 _ _ _ _);(try rw[hni]);(try rw[hnj]);refine aa.val [] h29 o9 ⟨⟨rfl,rfl,trivial⟩,rfl,rfl,rfl,trivial⟩ rfl rfl rfl ?_)
      |((with_reducible show aa _ _ 24 _ _ _ _);(try rw[hni]);(try rw[hnj]);refine aa.val [] h24 pq ⟨⟨rfl,rfl,trivial⟩,rfl,rfl,trivial⟩ rfl rfl rfl ?_)
      |((with_reducible show aa _ _ 19 _ _ _ _);(try rw[hni]);(try rw[hnj]);refine aa.lit [] h19 oz ⟨⟨rfl,rfl,trivial⟩,rfl,trivial⟩ rfl rfl ?_)
      |((with_reducible show aL _ _ _ _);refine dK ?_))<;>with_reducible refine wK ?_)
    | ((with_reducible show(_∧_)∧_∧_);(refine eK ?_ ?_<;>with_reducible repeat' (first|exact trivial|(show _∧_;refine aK ?_ ?_))))));all_goals clear fct)
              all_goals first|rfl|(rw[bY q1];rfl)|trace_state
        · rw [q2] at h24
          rw[q3] at h19
          rw[q4,k3] at h21h
          have h21w:=uM ⟨w,m⟩ (fg RW (show w.length≤60 by omega)) j
          rw[bf hlw,htj,cC.2 RW,Bool.true_and,Bool.true_and] at h21w
          generalize jv w j=bw at*
          cases own<;>cases bw
          · rcases heg with⟨rfl,rfl⟩|rfl
            · rw [hx] at hgx;cases hgx
              rcases hcut with⟨rfl,rfl⟩|⟨hf0,hfz⟩
              · refine an.aF (rvs:=[.tmp 6]) G au Tryz.func11 rfl Tryz.ntmps11 rfl rfl ?_;with_reducible refine wD ?_
                (have fct:=And.intro hlm (And.intro fk (fn));(repeat' (first
    |refine gF ?_
    | ((first
      |((with_reducible show aa _ _ 15 _ _ _ _);refine aa.lit [] h15 oa trivial rfl rfl ?_)
      |((with_reducible show aa _ _ 16 _ _ _ _);refine aa.lit [] h16 nT ⟨⟨rfl,rfl,trivial⟩,trivial⟩ rfl rfl ?_)
      |((with_reducible show aa _ _ 17 _ _ _ _);refine aa.lit [] h17 jX ⟨⟨rfl,rfl,trivial⟩,trivial⟩ rfl rfl ?_)
      |(refine cT.int (by kernel_rfl) (by kernel_rfl) (wrap_u8 (by assumption)) ?_)
      |(refine aN.rem (by omega) (by(try simp only[ay]);omega) rfl rfl rfl rfl ?_)
      |((with_reducible show aG _ _ _ _ _);first|refine aG.mk i (az _) (by first|exact hni|rfl) (ah hx) ?_|refine aG.mk i (az _) (by first|exact hni|rfl) (ah hgx) ?_|refine aG.mk j (az _) (by first|exact hnj|rfl) (ah hgy) ?_|refine aG.mk j (az _) (by first|exact hnj|rfl) (ah hhy) ?_|refine aG.mk 0 (aj first) rfl (bK hfz) ?_)
      |((with_reducible show aa _ _ 23 _ _ _ _);refine aa.val [] h23 mc ⟨rfl,rfl,trivial⟩ rfl rfl rfl ?_)
      |((with_reducible show aa _ _ 32 _ _ _ _);(try rw[hni]);(try rw[hnj]);refine aa.val [] h32 pg ⟨⟨rfl,rfl,trivial⟩,rfl,trivial⟩ rfl rfl rfl ?_)
      |((with_reducible show aa _ _ 21 _ _ _ _);(try rw[hni]);(try rw[hnj]);first|refine aa.lit [] h21g cQ ⟨⟨rfl,rfl,trivial⟩,rfl,trivial⟩ rfl rfl ?_|refine aa.lit [] h21 cQ ⟨⟨rfl,rfl,trivial⟩,rfl,trivial⟩ rfl rfl ?_|refine aa.lit [] h21h cQ ⟨⟨rfl,rfl,trivial⟩,rfl,trivial⟩ rfl rfl ?_|refine aa.lit [] h21w cQ ⟨⟨rfl,rfl,trivial⟩,rfl,trivial⟩ rfl rfl ?_)
      |((with_reducible show aa _ _ 29 _ _ _ _);(try rw[hni]);(try rw[hnj]);refine aa.val [] h29 o9 ⟨⟨rfl,rfl,trivial⟩,rfl,rfl,rfl,trivial⟩ rfl rfl rfl ?_)
      |((with_reducible show aa _ _ 24 _ _ _ _);(try rw[hni]);(try rw[hnj]);refine aa.val [] h24 pq ⟨⟨rfl,rfl,trivial⟩,rfl,rfl,trivial⟩ rfl rfl rfl ?_)
      |((with_reducible show aa _ _ 19 _ _ _ _);(try rw[hni]);(try rw[hnj]);refine aa.lit [] h19 oz ⟨⟨rfl,rfl,trivial⟩,rfl,trivial⟩ rfl rfl ?_)
      |((with_reducible show aL _ _ _ _);refine dK ?_))<;>with_reducible refine wK ?_)
    |((with_reducible show(_∧_)∧_∧_);(refine eK ?_ ?_<;>with_reducible repeat' (first|exact trivial|(show _∧_;refine aK ?_ ?_))))));all_goals clear fct)
                all_goals first|rfl|(rw[bY q1];rfl)|trace_state
              · have hf1:=eq_true (show 0< (y7.length:Int) by omega)
                refine an.aF (rvs:=[.tmp 6]) G au Tryz.func11 rfl Tryz.ntmps11 rfl rfl ?_;with_reducible refine wD ?_
                (have fct:=And.intro hlm (And.intro fk (And.intro hyl (And.intro hf1 (fn))));(repeat' (first
    |refine gF ?_
    | ((first
      |((with_reducible show aa _ _ 15 _ _ _ _);refine aa.lit [] h15 oa trivial rfl rfl ?_)
      |((with_reducible show aa _ _ 16 _ _ _ _);refine aa.lit [] h16 nT ⟨⟨rfl,rfl,trivial⟩,trivial⟩ rfl rfl ?_)
      |((with_reducible show aa _ _ 17 _ _ _ _);refine aa.lit [] h17 jX ⟨⟨rfl,rfl,trivial⟩,trivial⟩ rfl rfl ?_)
      |(refine cT.int (by kernel_rfl) (by kernel_rfl) (wrap_u8 (by assumption)) ?_)
      |(refine aN.rem (by omega) (by(try simp only[ay]);omega) rfl rfl rfl rfl ?_)
      |((with_reducible show aG _ _ _ _ _);first|refine aG.mk i (az _) (by first|exact hni|rfl) (ah hx) ?_|refine aG.mk i (az _) (by first|exact hni|rfl) (ah hgx) ?_|refine aG.mk j (az _) (by first|exact hnj|rfl) (ah hgy) ?_|refine aG.mk j (az _) (by first|exact hnj|rfl) (ah hhy) ?_|refine aG.mk 0 (aj first) rfl (bK hfz) ?_)
      |((with_reducible show aa _ _ 23 _ _ _ _);refine aa.val [] h23 mc ⟨rfl,rfl,trivial⟩ rfl rfl rfl ?_)
      |((with_reducible show aa _ _ 32 _ _ _ _);(try rw[hni]);(try rw[hnj]);refine aa.val [] h32 pg ⟨⟨rfl,rfl,trivial⟩,rfl,trivial⟩ rfl rfl rfl ?_)
      |((with_reducible show aa _ _ 21 _ _ _ _);(try rw[hni]);(try rw[hnj]);first|refine aa.lit [] h21g cQ ⟨⟨rfl,rfl,trivial⟩,rfl,trivial⟩ rfl rfl ?_|refine aa.lit [] h21 cQ ⟨⟨rfl,rfl,trivial⟩,rfl,trivial⟩ rfl rfl ?_|refine aa.lit [] h21h cQ ⟨⟨rfl,rfl,trivial⟩,rfl,trivial⟩ rfl rfl ?_|refine aa.lit [] h21w cQ ⟨⟨rfl,rfl,trivial⟩,rfl,trivial⟩ rfl rfl ?_)
      |((with_reducible show aa _ _ 29 _ _ _ _);(try rw[hni]);(try rw[hnj]);refine aa.val [] h29 o9 ⟨⟨rfl,rfl,trivial⟩,rfl,rfl,rfl,trivial⟩ rfl rfl rfl ?_)
      |((with_reducible show aa _ _ 24 _ _ _ _);(try rw[hni]);(try rw[hnj]);refine aa.val [] h24 pq ⟨⟨rfl,rfl,trivial⟩,rfl,rfl,trivial⟩ rfl rfl rfl ?_)
      |((with_reducible show aa _ _ 19 _ _ _ _);(try rw[hni]);(try rw[hnj]);refine aa.lit [] h19 oz ⟨⟨rfl,rfl,trivial⟩,rfl,trivial⟩ rfl rfl ?_)
      |((with_reducible show aL _ _ _ _);refine dK ?_))<;>with_reducible refine wK ?_)
    |((with_reducible show(_∧_)∧_∧_);(refine eK ?_ ?_<;>with_reducible repeat' (first|exact trivial|(show _∧_;refine aK ?_ ?_))))));all_goals clear fct)
                all_goals first|rfl|(rw[bY q1];rfl)|trace_state
            · rcases hcut with⟨rfl,rfl⟩|⟨hf0,hfz⟩
              · refine an.aF (rvs:=[.tmp 6]) G au Tryz.func11 rfl Tryz.ntmps11 rfl rfl ?_;with_reducible refine wD ?_
                (have fct:=And.intro hlm (And.intro fk (fn));(repeat' (first
    |refine gF ?_
    | ((first
      |((with_reducible show aa _ _ 15 _ _ _ _);refine aa.lit [] h15 oa trivial rfl rfl ?_)
      |((with_reducible show aa _ _ 16 _ _ _ _);refine aa.lit [] h16 nT ⟨⟨rfl,rfl,trivial⟩,trivial⟩ rfl rfl ?_)
      |((with_reducible show aa _ _ 17 _ _ _ _);refine aa.lit [] h17 jX ⟨⟨rfl,rfl,trivial⟩,trivial⟩ rfl rfl ?_)
      |(refine cT.int (by kernel_rfl) (by kernel_rfl) (wrap_u8 (by assumption)) ?_)
      |(refine aN.rem (by omega) (by(try simp only[ay]);omega) rfl rfl rfl rfl ?_)
      |((with_reducible show aG _ _ _ _ _);first|refine aG.mk i (az _) (by first|exact hni|rfl) (ah hx) ?_|refine aG.mk i (az _) (by first|exact hni|rfl) (ah hgx) ?_|refine aG.mk j (az _) (by first|exact hnj|rfl) (ah hgy) ?_|refine aG.mk j (az _) (by first|exact hnj|rfl) (ah hhy) ?_|refine aG.mk 0 (aj first) rfl (bK hfz) ?_)
      |((with_reducible show aa _ _ 23 _ _ _ _);refine aa.val [] h23 mc ⟨rfl,rfl,trivial⟩ rfl rfl rfl ?_)
      |((with_reducible show aa _ _ 32 _ _ _ _);(try rw[hni]);(try rw[hnj]);refine aa.val [] h32 pg ⟨⟨rfl,rfl,trivial⟩,rfl,trivial⟩ rfl rfl rfl ?_)
      |((with_reducible show aa _ _ 21 _ _ _ _);(try rw[hni]);(try rw[hnj]);first|refine aa.lit [] h21g cQ ⟨⟨rfl,rfl,trivial⟩,rfl,trivial⟩ rfl rfl ?_|refine aa.lit [] h21 cQ ⟨⟨rfl,rfl,trivial⟩,rfl,trivial⟩ rfl rfl ?_|refine aa.lit [] h21h cQ ⟨⟨rfl,rfl,trivial⟩,rfl,trivial⟩ rfl rfl ?_|refine aa.lit [] h21w cQ ⟨⟨rfl,rfl,trivial⟩,rfl,trivial⟩ rfl rfl ?_)
      |((with_reducible show aa _ _ 29 _ _ _ _);(try rw[hni]);(try rw[hnj]);refine aa.val [] h29 o9 ⟨⟨rfl,rfl,trivial⟩,rfl,rfl,rfl,trivial⟩ rfl rfl rfl ?_)
      |((with_reducible show aa _ _ 24 _ _ _ _);(try rw[hni]);(try rw[hnj]);refine aa.val [] h24 pq ⟨⟨rfl,rfl,trivial⟩,rfl,rfl,trivial⟩ rfl rfl rfl ?_)
      |((with_reducible show aa _ _ 19 _ _ _ _);(try rw[hni]);(try rw[hnj]);refine aa.lit [] h19 oz ⟨⟨rfl,rfl,trivial⟩,rfl,trivial⟩ rfl rfl ?_)
      |((with_reducible show aL _ _ _ _);refine dK ?_))<;>with_reducible refine wK ?_)
    |((with_reducible show(_∧_)∧_∧_);(refine eK ?_ ?_<;>with_reducible repeat' (first|exact trivial|(show _∧_;refine aK ?_ ?_))))));all_goals clear fct)
                all_goals first|rfl|(rw[bY q1];rfl)|trace_state
              · have hf1:=eq_true (show 0< (y7.length:Int) by omega)
                refine an.aF (rvs:=[.tmp 6]) G au Tryz.func11 rfl Tryz.ntmps11 rfl rfl ?_;with_reducible refine wD ?_
                (have fct:=And.intro hlm (And.intro fk (And.intro hyl (And.intro hf1 (fn))));(repeat' (first
    |refine gF ?_
    | ((first
      |((with_reducible show aa _ _ 15 _ _ _ _);refine aa.lit [] h15 oa trivial rfl rfl ?_)
      |((with_reducible show aa _ _ 16 _ _ _ _);refine aa.lit [] h16 nT ⟨⟨rfl,rfl,trivial⟩,trivial⟩ rfl rfl ?_)
      |((with_reducible show aa _ _ 17 _ _ _ _);refine aa.lit [] h17 jX ⟨⟨rfl,rfl,trivial⟩,trivial⟩ rfl rfl ?_)
      |(refine cT.int (by kernel_rfl) (by kernel_rfl) (wrap_u8 (by assumption)) ?_)
      |(refine aN.rem (by omega) (by(try simp only[ay]);omega) rfl rfl rfl rfl ?_)
      |((with_reducible show aG _ _ _ _ _);first|refine aG.mk i (az _) (by first|exact hni|rfl) (ah hx) ?_|refine aG.mk i (az _) (by first|exact hni|rfl) (ah hgx) ?_|refine aG.mk j (az _) (by first|exact hnj|rfl) (ah hgy) ?_|refine aG.mk j (az _) (by first|exact hnj|rfl) (ah hhy) ?_|refine aG.mk 0 (aj first) rfl (bK hfz) ?_)
      |((with_reducible show aa _ _ 23 _ _ _ _);refine aa.val [] h23 mc ⟨rfl,rfl,trivial⟩ rfl rfl rfl ?_)
      |((with_reducible show aa _ _ 32 _ _ _ _);(try rw[hni]);(try rw[hnj]);refine aa.val [] h32 pg ⟨⟨rfl,rfl,trivial⟩,rfl,trivial⟩ rfl rfl rfl ?_)
      |((with_reducible show aa _ _ 21 _ _ _ _);(try rw[hni]);(try rw[hnj]);first|refine aa.lit [] h21g cQ ⟨⟨rfl,rfl,trivial⟩,rfl,trivial⟩ rfl rfl ?_|refine aa.lit [] h21 cQ ⟨⟨rfl,rfl,trivial⟩,rfl,trivial⟩ rfl rfl ?_|refine aa.lit [] h21h cQ ⟨⟨rfl,rfl,trivial⟩,rfl,trivial⟩ rfl rfl ?_|refine aa.lit [] h21w cQ ⟨⟨rfl,rfl,trivial⟩,rfl,trivial⟩ rfl rfl ?_)
      |((with_reducible show aa _ _ 29 _ _ _ _);(try rw[hni]);(try rw[hnj]);refine aa.val [] h29 o9 ⟨⟨rfl,rfl,trivial⟩,rfl,rfl,rfl,trivial⟩ rfl rfl rfl ?_)
      |((with_reducible show aa _ _ 24 _ _ _ _);(try rw[hni]);(try rw[hnj]);refine aa.val [] h24 pq ⟨⟨rfl,rfl,trivial⟩,rfl,rfl,trivial⟩ rfl rfl rfl ?_)
      |((with_reducible show aa _ _ 19 _ _ _ _);(try rw[hni]);(try rw[hnj]);refine aa.lit [] h19 oz ⟨⟨rfl,rfl,trivial⟩,rfl,trivial⟩ rfl rfl ?_)
      |((with_reducible show aL _ _ _ _);refine dK ?_))<;>with_reducible refine wK ?_)
    |((with_reducible show(_∧_)∧_∧_);(refine eK ?_ ?_<;>with_reducible repeat' (first|exact trivial|(show _∧_;refine aK ?_ ?_))))));all_goals clear fct)
                all_goals first|rfl|(rw[bY q1];rfl)|trace_state
          · rcases heg with⟨rfl,rfl⟩|rfl
            · rw [hx] at hgx;cases hgx
              rcases hcut with⟨rfl,rfl⟩|⟨hf0,hfz⟩
              · refine an.aF (rvs:=[.tmp 6]) G au Tryz.func11 rfl Tryz.ntmps11 rfl rfl ?_;with_reducible refine wD ?_
                (have fct:=And.intro hlm (And.intro fk (fn));(repeat' (first
    |refine gF ?_
    | ((first
      |((with_reducible show aa _ _ 15 _ _ _ _);refine aa.lit [] h15 oa trivial rfl rfl ?_)
      |((with_reducible show aa _ _ 16 _ _ _ _);refine aa.lit [] h16 nT ⟨⟨rfl,rfl,trivial⟩,trivial⟩ rfl rfl ?_)
      |((with_reducible show aa _ _ 17 _ _ _ _);refine aa.lit [] h17 jX ⟨⟨rfl,rfl,trivial⟩,trivial⟩ rfl rfl ?_)
      |(refine cT.int (by kernel_rfl) (by kernel_rfl) (wrap_u8 (by assumption)) ?_)
      |(refine aN.rem (by omega) (by(try simp only[ay]);omega) rfl rfl rfl rfl ?_)
      |((with_reducible show aG _ _ _ _ _);first|refine aG.mk i (az _) (by first|exact hni|rfl) (ah hx) ?_|refine aG.mk i (az _) (by first|exact hni|rfl) (ah hgx) ?_|refine aG.mk j (az _) (by first|exact hnj|rfl) (ah hgy) ?_|refine aG.mk j (az _) (by first|exact hnj|rfl) (ah hhy) ?_|refine aG.mk 0 (aj first) rfl (bK hfz) ?_)
      |((with_reducible show aa _ _ 23 _ _ _ _);refine aa.val [] h23 mc ⟨rfl,rfl,trivial⟩ rfl rfl rfl ?_)
      |((with_reducible show aa _ _ 32 _ _ _ _);(try rw[hni]);(try rw[hnj]);refine aa.val [] h32 pg ⟨⟨rfl,rfl,trivial⟩,rfl,trivial⟩ rfl rfl rfl ?_)
      |((with_reducible show aa _ _ 21 _ _ _ _);(try rw[hni]);(try rw[hnj]);first|refine aa.lit [] h21g cQ ⟨⟨rfl,rfl,trivial⟩,rfl,trivial⟩ rfl rfl ?_|refine aa.lit [] h21 cQ ⟨⟨rfl,rfl,trivial⟩,rfl,trivial⟩ rfl rfl ?_|refine aa.lit [] h21h cQ ⟨⟨rfl,rfl,trivial⟩,rfl,trivial⟩ rfl rfl ?_|refine aa.lit [] h21w cQ ⟨⟨rfl,rfl,trivial⟩,rfl,trivial⟩ rfl rfl ?_)
      |((with_reducible show aa _ _ 29 _ _ _ _);(try rw[hni]);(try rw[hnj]);refine aa.val [] h29 o9 ⟨⟨rfl,rfl,trivial⟩,rfl,rfl,rfl,trivial⟩ rfl rfl rfl ?_)
      |((with_reducible show aa _ _ 24 _ _ _ _);(try rw[hni]);(try rw[hnj]);refine aa.val [] h24 pq ⟨⟨rfl,rfl,trivial⟩,rfl,rfl,trivial⟩ rfl rfl rfl ?_)
      |((with_reducible show aa _ _ 19 _ _ _ _);(try rw[hni]);(try rw[hnj]);refine aa.lit [] h19 oz ⟨⟨rfl,rfl,trivial⟩,rfl,trivial⟩ rfl rfl ?_)
      |((with_reducible show aL _ _ _ _);refine dK ?_))<;>with_reducible refine wK ?_)
    |((with_reducible show(_∧_)∧_∧_);(refine eK ?_ ?_<;>with_reducible repeat' (first|exact trivial|(show _∧_;refine aK ?_ ?_))))));all_goals clear fct)
                all_goals first|rfl|(rw[bY q1];rfl)|trace_state
              · have hf1:=eq_true (show 0< (y7.length:Int) by omega)
                refine an.aF (rvs:=[.tmp 6]) G au Tryz.func11 rfl Tryz.ntmps11 rfl rfl ?_;with_reducible refine wD ?_
                (have fct:=And.intro hlm (And.intro fk (And.intro hyl (And.intro hf1 (fn))));(repeat' (first
    |refine gF ?_
    | ((first
      |((with_reducible show aa _ _ 15 _ _ _ _);refine aa.lit [] h15 oa trivial rfl rfl ?_)
      |((with_reducible show aa _ _ 16 _ _ _ _);refine aa.lit [] h16 nT ⟨⟨rfl,rfl,trivial⟩,trivial⟩ rfl rfl ?_)
      |((with_reducible show aa _ _ 17 _ _ _ _);refine aa.lit [] h17 jX ⟨⟨rfl,rfl,trivial⟩,trivial⟩ rfl rfl ?_)
      |(refine cT.int (by kernel_rfl) (by kernel_rfl) (wrap_u8 (by assumption)) ?_)
      |(refine aN.rem (by omega) (by(try simp only[ay]);omega) rfl rfl rfl rfl ?_)
      |((with_reducible show aG _ _ _ _ _);first|refine aG.mk i (az _) (by first|exact hni|rfl) (ah hx) ?_|refine aG.mk i (az _) (by first|exact hni|rfl) (ah hgx) ?_|refine aG.mk j (az _) (by first|exact hnj|rfl) (ah hgy) ?_|refine aG.mk j (az _) (by first|exact hnj|rfl) (ah hhy) ?_|refine aG.mk 0 (aj first) rfl (bK hfz) ?_)
      |((with_reducible show aa _ _ 23 _ _ _ _);refine aa.val [] h23 mc ⟨rfl,rfl,trivial⟩ rfl rfl rfl ?_)
      |((with_reducible show aa _ _ 32 _ _ _ _);(try rw[hni]);(try rw[hnj]);refine aa.val [] h32 pg ⟨⟨rfl,rfl,trivial⟩,rfl,trivial⟩ rfl rfl rfl ?_)
      |((with_reducible show aa _ _ 21 _ _ _ _);(try rw[hni]);(try rw[hnj]);first|refine aa.lit [] h21g cQ ⟨⟨rfl,rfl,trivial⟩,rfl,trivial⟩ rfl rfl ?_|refine aa.lit [] h21 cQ ⟨⟨rfl,rfl,trivial⟩,rfl,trivial⟩ rfl rfl ?_|refine aa.lit [] h21h cQ ⟨⟨rfl,rfl,trivial⟩,rfl,trivial⟩ rfl rfl ?_|refine aa.lit [] h21w cQ ⟨⟨rfl,rfl,trivial⟩,rfl,trivial⟩ rfl rfl ?_)
      |((with_reducible show aa _ _ 29 _ _ _ _);(try rw[hni]);(try rw[hnj]);refine aa.val [] h29 o9 ⟨⟨rfl,rfl,trivial⟩,rfl,rfl,rfl,trivial⟩ rfl rfl rfl ?_)
      |((with_reducible show aa _ _ 24 _ _ _ _);(try rw[hni]);(try rw[hnj]);refine aa.val [] h24 pq ⟨⟨rfl,rfl,trivial⟩,rfl,rfl,trivial⟩ rfl rfl rfl ?_)
      |((with_reducible show aa _ _ 19 _ _ _ _);(try rw[hni]);(try rw[hnj]);refine aa.lit [] h19 oz ⟨⟨rfl,rfl,trivial⟩,rfl,trivial⟩ rfl rfl ?_)
      |((with_reducible show aL _ _ _ _);refine dK ?_))<;>with_reducible refine wK ?_)
    |((with_reducible show(_∧_)∧_∧_);(refine eK ?_ ?_<;>with_reducible repeat' (first|exact trivial|(show _∧_;refine aK ?_ ?_))))));all_goals clear fct)
                all_goals first|rfl|(rw[bY q1];rfl)|trace_state
            · rcases hcut with⟨rfl,rfl⟩|⟨hf0,hfz⟩
              · refine an.aF (rvs:=[.tmp 6]) G au Tryz.func11 rfl Tryz.ntmps11 rfl rfl ?_;with_reducible refine wD ?_
                (have fct:=And.intro hlm (And.intro fk (fn));(repeat' (first
    |refine gF ?_
    | ((first
      |((with_reducible show aa _ _ 15 _ _ _ _);refine aa.lit [] h15 oa trivial rfl rfl ?_)
      |((with_reducible show aa _ _ 16 _ _ _ _);refine aa.lit [] h16 nT ⟨⟨rfl,rfl,trivial⟩,trivial⟩ rfl rfl ?_)
      |((with_reducible show aa _ _ 17 _ _ _ _);refine aa.lit [] h17 jX ⟨⟨rfl,rfl,trivial⟩,trivial⟩ rfl rfl ?_)
      |(refine cT.int (by kernel_rfl) (by kernel_rfl) (wrap_u8 (by assumption)) ?_)
      |(refine aN.rem (by omega) (by(try simp only[ay]);omega) rfl rfl rfl rfl ?_)
      |((with_reducible show aG _ _ _ _ _);first|refine aG.mk i (az _) (by first|exact hni|rfl) (ah hx) ?_|refine aG.mk i (az _) (by first|exact hni|rfl) (ah hgx) ?_|refine aG.mk j (az _) (by first|exact hnj|rfl) (ah hgy) ?_|refine aG.mk j (az _) (by first|exact hnj|rfl) (ah hhy) ?_|refine aG.mk 0 (aj first) rfl (bK hfz) ?_)
      |((with_reducible show aa _ _ 23 _ _ _ _);refine aa.val [] h23 mc ⟨rfl,rfl,trivial⟩ rfl rfl rfl ?_)
      |((with_reducible show aa _ _ 32 _ _ _ _);(try rw[hni]);(try rw[hnj]);refine aa.val [] h32 pg ⟨⟨rfl,rfl,trivial⟩,rfl,trivial⟩ rfl rfl rfl ?_)
      |((with_reducible show aa _ _ 21 _ _ _ _);(try rw[hni]);(try rw[hnj]);first|refine aa.lit [] h21g cQ ⟨⟨rfl,rfl,trivial⟩,rfl,trivial⟩ rfl rfl ?_|refine aa.lit [] h21 cQ ⟨⟨rfl,rfl,trivial⟩,rfl,trivial⟩ rfl rfl ?_|refine aa.lit [] h21h cQ ⟨⟨rfl,rfl,trivial⟩,rfl,trivial⟩ rfl rfl ?_|refine aa.lit [] h21w cQ ⟨⟨rfl,rfl,trivial⟩,rfl,trivial⟩ rfl rfl ?_)
      |((with_reducible show aa _ _ 29 _ _ _ _);(try rw[hni]);(try rw[hnj]);refine aa.val [] h29 o9 ⟨⟨rfl,rfl,trivial⟩,rfl,rfl,rfl,trivial⟩ rfl rfl rfl ?_)
      |((with_reducible show aa _ _ 24 _ _ _ _);(try rw[hni]);(try rw[hnj]);refine aa.val [] h24 pq ⟨⟨rfl,rfl,trivial⟩,rfl,rfl,trivial⟩ rfl rfl rfl ?_)
      |((with_reducible show aa _ _ 19 _ _ _ _);(try rw[hni]);(try rw[hnj]);refine aa.lit [] h19 oz ⟨⟨rfl,rfl,trivial⟩,rfl,trivial⟩ rfl rfl ?_)
      |((with_reducible show aL _ _ _ _);refine dK ?_))<;>with_reducible refine wK ?_)
    |((with_reducible show(_∧_)∧_∧_);(refine eK ?_ ?_<;>with_reducible repeat' (first|exact trivial|(show _∧_;refine aK ?_ ?_))))));all_goals clear fct)
                all_goals first|rfl|(rw[bY q1];rfl)|trace_state
              · have hf1:=eq_true (show 0< (y7.length:Int) by omega)
                refine an.aF (rvs:=[.tmp 6]) G au Tryz.func11 rfl Tryz.ntmps11 rfl rfl ?_;with_reducible refine wD ?_
                (have fct:=And.intro hlm (And.intro fk (And.intro hyl (And.intro hf1 (fn))));(repeat' (first
    |refine gF ?_
    | ((first
      |((with_reducible show aa _ _ 15 _ _ _ _);refine aa.lit [] h15 oa trivial rfl rfl ?_)
      |((with_reducible show aa _ _ 16 _ _ _ _);refine aa.lit [] h16 nT ⟨⟨rfl,rfl,trivial⟩,trivial⟩ rfl rfl ?_)
      |((with_reducible show aa _ _ 17 _ _ _ _);refine aa.lit [] h17 jX ⟨⟨rfl,rfl,trivial⟩,trivial⟩ rfl rfl ?_)
      |(refine cT.int (by kernel_rfl) (by kernel_rfl) (wrap_u8 (by assumption)) ?_)
      |(refine aN.rem (by omega) (by(try simp only[ay]);omega) rfl rfl rfl rfl ?_)
      |((with_reducible show aG _ _ _ _ _);first|refine aG.mk i (az _) (by first|exact hni|rfl) (ah hx) ?_|refine aG.mk i (az _) (by first|exact hni|rfl) (ah hgx) ?_|refine aG.mk j (az _) (by first|exact hnj|rfl) (ah hgy) ?_|refine aG.mk j (az _) (by first|exact hnj|rfl) (ah hhy) ?_|refine aG.mk 0 (aj first) rfl (bK hfz) ?_)
      |((with_reducible show aa _ _ 23 _ _ _ _);refine aa.val [] h23 mc ⟨rfl,rfl,trivial⟩ rfl rfl rfl ?_)
      |((with_reducible show aa _ _ 32 _ _ _ _);(try rw[hni]);(try rw[hnj]);refine aa.val [] h32 pg ⟨⟨rfl,rfl,trivial⟩,rfl,trivial⟩ rfl rfl rfl ?_)
      |((with_reducible show aa _ _ 21 _ _ _ _);(try rw[hni]);(try rw[hnj]);first|refine aa.lit [] h21g cQ ⟨⟨rfl,rfl,trivial⟩,rfl,trivial⟩ rfl rfl ?_|refine aa.lit [] h21 cQ ⟨⟨rfl,rfl,trivial⟩,rfl,trivial⟩ rfl rfl ?_|refine aa.lit [] h21h cQ ⟨⟨rfl,rfl,trivial⟩,rfl,trivial⟩ rfl rfl ?_|refine aa.lit [] h21w cQ ⟨⟨rfl,rfl,trivial⟩,rfl,trivial⟩ rfl rfl ?_)
      |((with_reducible show aa _ _ 29 _ _ _ _);(try rw[hni]);(try rw[hnj]);refine aa.val [] h29 o9 ⟨⟨rfl,rfl,trivial⟩,rfl,rfl,rfl,trivial⟩ rfl rfl rfl ?_)
      |((with_reducible show aa _ _ 24 _ _ _ _);(try rw[hni]);(try rw[hnj]);refine aa.val [] h24 pq ⟨⟨rfl,rfl,trivial⟩,rfl,rfl,trivial⟩ rfl rfl rfl ?_)
      |((with_reducible show aa _ _ 19 _ _ _ _);(try rw[hni]);(try rw[hnj]);refine aa.lit [] h19 oz ⟨⟨rfl,rfl,trivial⟩,rfl,trivial⟩ rfl rfl ?_)
      |((with_reducible show aL _ _ _ _);refine dK ?_))<;>with_reducible refine wK ?_)
    |((with_reducible show(_∧_)∧_∧_);(refine eK ?_ ?_<;>with_reducible repeat' (first|exact trivial|(show _∧_;refine aK ?_ ?_))))));all_goals clear fct)
                all_goals first|rfl|(rw[bY q1];rfl)|trace_state
          · rcases heg with⟨rfl,rfl⟩|rfl
            · rw [hx] at hgx;cases hgx
              rcases hcut with⟨rfl,rfl⟩|⟨hf0,hfz⟩
              · refine an.aF (rvs:=[.tmp 6]) G au Tryz.func11 rfl Tryz.ntmps11 rfl rfl ?_;with_reducible refine wD ?_
                (have fct:=And.intro hlm (And.intro fk (fn));(repeat' (first
    |refine gF ?_
    | ((first
      |((with_reducible show aa _ _ 15 _ _ _ _);refine aa.lit [] h15 oa trivial rfl rfl ?_)
      |((with_reducible show aa _ _ 16 _ _ _ _);refine aa.lit [] h16 nT ⟨⟨rfl,rfl,trivial⟩,trivial⟩ rfl rfl ?_)
      |((with_reducible show aa _ _ 17 _ _ _ _);refine aa.lit [] h17 jX ⟨⟨rfl,rfl,trivial⟩,trivial⟩ rfl rfl ?_)
      |(refine cT.int (by kernel_rfl) (by kernel_rfl) (wrap_u8 (by assumption)) ?_)
      |(refine aN.rem (by omega) (by(try simp only[ay]);omega) rfl rfl rfl rfl ?_)
      |((with_reducible show aG _ _ _ _ _);first|refine aG.mk i (az _) (by first|exact hni|rfl) (ah hx) ?_|refine aG.mk i (az _) (by first|exact hni|rfl) (ah hgx) ?_|refine aG.mk j (az _) (by first|exact hnj|rfl) (ah hgy) ?_|refine aG.mk j (az _) (by first|exact hnj|rfl) (ah hhy) ?_|refine aG.mk 0 (aj first) rfl (bK hfz) ?_)
      |((with_reducible show aa _ _ 23 _ _ _ _);refine aa.val [] h23 mc ⟨rfl,rfl,trivial⟩ rfl rfl rfl ?_)
      |((with_reducible show aa _ _ 32 _ _ _ _);(try rw[hni]);(try rw[hnj]);refine aa.val [] h32 pg ⟨⟨rfl,rfl,trivial⟩,rfl,trivial⟩ rfl rfl rfl ?_)
      |((with_reducible show aa _ _ 21 _ _ _ _);(try rw[hni]);(try rw[hnj]);first|refine aa.lit [] h21g cQ ⟨⟨rfl,rfl,trivial⟩,rfl,trivial⟩ rfl rfl ?_|refine aa.lit [] h21 cQ ⟨⟨rfl,rfl,trivial⟩,rfl,trivial⟩ rfl rfl ?_|refine aa.lit [] h21h cQ ⟨⟨rfl,rfl,trivial⟩,rfl,trivial⟩ rfl rfl ?_|refine aa.lit [] h21w cQ ⟨⟨rfl,rfl,trivial⟩,rfl,trivial⟩ rfl rfl ?_)
      |((with_reducible show aa _ _ 29 _ _ _ _);(try rw[hni]);(try rw[hnj]);refine aa.val [] h29 o9 ⟨⟨rfl,rfl,trivial⟩,rfl,rfl,rfl,trivial⟩ rfl rfl rfl ?_)
      |((with_reducible show aa _ _ 24 _ _ _ _);(try rw[hni]);(try rw[hnj]);refine aa.val [] h24 pq ⟨⟨rfl,rfl,trivial⟩,rfl,rfl,trivial⟩ rfl rfl rfl ?_)
      |((with_reducible show aa _ _ 19 _ _ _ _);(try rw[hni]);(try rw[hnj]);refine aa.lit [] h19 oz ⟨⟨rfl,rfl,trivial⟩,rfl,trivial⟩ rfl rfl ?_)
      |((with_reducible show aL _ _ _ _);refine dK ?_))<;>with_reducible refine wK ?_)
    |((with_reducible show(_∧_)∧_∧_);(refine eK ?_ ?_<;>with_reducible repeat' (first|exact trivial|(show _∧_;refine aK ?_ ?_))))));all_goals clear fct)
                all_goals first|rfl|(rw[bY q1];rfl)|trace_state
              · have hf1:=eq_true (show 0< (y7.length:Int) by omega)
                refine an.aF (rvs:=[.tmp 6]) G au Tryz.func11 rfl Tryz.ntmps11 rfl rfl ?_;with_reducible refine wD ?_
                (have fct:=And.intro hlm (And.intro fk (And.intro hyl (And.intro hf1 (fn))));(repeat' (first
    |refine gF ?_
    | ((first
      |((with_reducible show aa _ _ 15 _ _ _ _);refine aa.lit [] h15 oa trivial rfl rfl ?_)
      |((with_reducible show aa _ _ 16 _ _ _ _);refine aa.lit [] h16 nT ⟨⟨rfl,rfl,trivial⟩,trivial⟩ rfl rfl ?_)
      |((with_reducible show aa _ _ 17 _ _ _ _);refine aa.lit [] h17 jX ⟨⟨rfl,rfl,trivial⟩,trivial⟩ rfl rfl ?_)
      |(refine cT.int (by kernel_rfl) (by kernel_rfl) (wrap_u8 (by assumption)) ?_)
      |(refine aN.rem (by omega) (by(try simp only[ay]);omega) rfl rfl rfl rfl ?_)
      |((with_reducible show aG _ _ _ _ _);first|refine aG.mk i (az _) (by first|exact hni|rfl) (ah hx) ?_|refine aG.mk i (az _) (by first|exact hni|rfl) (ah hgx) ?_|refine aG.mk j (az _) (by first|exact hnj|rfl) (ah hgy) ?_|refine aG.mk j (az _) (by first|exact hnj|rfl) (ah hhy) ?_|refine aG.mk 0 (aj first) rfl (bK hfz) ?_)
      |((with_reducible show aa _ _ 23 _ _ _ _);refine aa.val [] h23 mc ⟨rfl,rfl,trivial⟩ rfl rfl rfl ?_)
      |((with_reducible show aa _ _ 32 _ _ _ _);(try rw[hni]);(try rw[hnj]);refine aa.val [] h32 pg ⟨⟨rfl,rfl,trivial⟩,rfl,trivial⟩ rfl rfl rfl ?_)
      |((with_reducible show aa _ _ 21 _ _ _ _);(try rw[hni]);(try rw[hnj]);first|refine aa.lit [] h21g cQ ⟨⟨rfl,rfl,trivial⟩,rfl,trivial⟩ rfl rfl ?_|refine aa.lit [] h21 cQ ⟨⟨rfl,rfl,trivial⟩,rfl,trivial⟩ rfl rfl ?_|refine aa.lit [] h21h cQ ⟨⟨rfl,rfl,trivial⟩,rfl,trivial⟩ rfl rfl ?_|refine aa.lit [] h21w cQ ⟨⟨rfl,rfl,trivial⟩,rfl,trivial⟩ rfl rfl ?_)
      |((with_reducible show aa _ _ 29 _ _ _ _);(try rw[hni]);(try rw[hnj]);refine aa.val [] h29 o9 ⟨⟨rfl,rfl,trivial⟩,rfl,rfl,rfl,trivial⟩ rfl rfl rfl ?_)
      |((with_reducible show aa _ _ 24 _ _ _ _);(try rw[hni]);(try rw[hnj]);refine aa.val [] h24 pq ⟨⟨rfl,rfl,trivial⟩,rfl,rfl,trivial⟩ rfl rfl rfl ?_)
      |((with_reducible show aa _ _ 19 _ _ _ _);(try rw[hni]);(try rw[hnj]);refine aa.lit [] h19 oz ⟨⟨rfl,rfl,trivial⟩,rfl,trivial⟩ rfl rfl ?_)
      |((with_reducible show aL _ _ _ _);refine dK ?_))<;>with_reducible refine wK ?_)
    |((with_reducible show(_∧_)∧_∧_);(refine eK ?_ ?_<;>with_reducible repeat' (first|exact trivial|(show _∧_;refine aK ?_ ?_))))));all_goals clear fct)
                all_goals first|rfl|(rw[bY q1];rfl)|trace_state
            · rcases hcut with⟨rfl,rfl⟩|⟨hf0,hfz⟩
              · refine an.aF (rvs:=[.tmp 6]) G au Tryz.func11 rfl Tryz.ntmps11 rfl rfl ?_;with_reducible refine wD ?_
                (have fct:=And.intro hlm (And.intro fk (fn));(repeat' (first
    |refine gF ?_
    | ((first
      |((with_reducible show aa _ _ 15 _ _ _ _);refine aa.lit [] h15 oa trivial rfl rfl ?_)
      |((with_reducible show aa _ _ 16 _ _ _ _);refine aa.lit [] h16 nT ⟨⟨rfl,rfl,trivial⟩,trivial⟩ rfl rfl ?_)
      |((with_reducible show aa _ _ 17 _ _ _ _);refine aa.lit [] h17 jX ⟨⟨rfl,rfl,trivial⟩,trivial⟩ rfl rfl ?_)
      |(refine cT.int (by kernel_rfl) (by kernel_rfl) (wrap_u8 (by assumption)) ?_)
      |(refine aN.rem (by omega) (by(try simp only[ay]);omega) rfl rfl rfl rfl ?_)
      |((with_reducible show aG _ _ _ _ _);first|refine aG.mk i (az _) (by first|exact hni|rfl) (ah hx) ?_|refine aG.mk i (az _) (by first|exact hni|rfl) (ah hgx) ?_|refine aG.mk j (az _) (by first|exact hnj|rfl) (ah hgy) ?_|refine aG.mk j (az _) (by first|exact hnj|rfl) (ah hhy) ?_|refine aG.mk 0 (aj first) rfl (bK hfz) ?_)
      |((with_reducible show aa _ _ 23 _ _ _ _);refine aa.val [] h23 mc ⟨rfl,rfl,trivial⟩ rfl rfl rfl ?_)
      |((with_reducible show aa _ _ 32 _ _ _ _);(try rw[hni]);(try rw[hnj]);refine aa.val [] h32 pg ⟨⟨rfl,rfl,trivial⟩,rfl,trivial⟩ rfl rfl rfl ?_)
      |((with_reducible show aa _ _ 21 _ _ _ _);(try rw[hni]);(try rw[hnj]);first|refine aa.lit [] h21g cQ ⟨⟨rfl,rfl,trivial⟩,rfl,trivial⟩ rfl rfl ?_|refine aa.lit [] h21 cQ ⟨⟨rfl,rfl,trivial⟩,rfl,trivial⟩ rfl rfl ?_|refine aa.lit [] h21h cQ ⟨⟨rfl,rfl,trivial⟩,rfl,trivial⟩ rfl rfl ?_|refine aa.lit [] h21w cQ ⟨⟨rfl,rfl,trivial⟩,rfl,trivial⟩ rfl rfl ?_)
      |((with_reducible show aa _ _ 29 _ _ _ _);(try rw[hni]);(try rw[hnj]);refine aa.val [] h29 o9 ⟨⟨rfl,rfl,trivial⟩,rfl,rfl,rfl,trivial⟩ rfl rfl rfl ?_)
      |((with_reducible show aa _ _ 24 _ _ _ _);(try rw[hni]);(try rw[hnj]);refine aa.val [] h24 pq ⟨⟨rfl,rfl,trivial⟩,rfl,rfl,trivial⟩ rfl rfl rfl ?_)
      |((with_reducible show aa _ _ 19 _ _ _ _);(try rw[hni]);(try rw[hnj]);refine aa.lit [] h19 oz ⟨⟨rfl,rfl,trivial⟩,rfl,trivial⟩ rfl rfl ?_)
      |((with_reducible show aL _ _ _ _);refine dK ?_))<;>with_reducible refine wK ?_)
    |((with_reducible show(_∧_)∧_∧_);(refine eK ?_ ?_<;>with_reducible repeat' (first|exact trivial|(show _∧_;refine aK ?_ ?_))))));all_goals clear fct)
                all_goals first|rfl|(rw[bY q1];rfl)|trace_state
              · have hf1:=eq_true (show 0< (y7.length:Int) by omega)
                refine an.aF (rvs:=[.tmp 6]) G au Tryz.func11 rfl Tryz.ntmps11 rfl rfl ?_;with_reducible refine wD ?_
                (have fct:=And.intro hlm (And.intro fk (And.intro hyl (And.intro hf1 (fn))));(repeat' (first
    |refine gF ?_
    | ((first
      |((with_reducible show aa _ _ 15 _ _ _ _);refine aa.lit [] h15 oa trivial rfl rfl ?_)
      |((with_reducible show aa _ _ 16 _ _ _ _);refine aa.lit [] h16 nT ⟨⟨rfl,rfl,trivial⟩,trivial⟩ rfl rfl ?_)
      |((with_reducible show aa _ _ 17 _ _ _ _);refine aa.lit [] h17 jX ⟨⟨rfl,rfl,trivial⟩,trivial⟩ rfl rfl ?_)
      |(refine cT.int (by kernel_rfl) (by kernel_rfl) (wrap_u8 (by assumption)) ?_)
      |(refine aN.rem (by omega) (by(try simp only[ay]);omega) rfl rfl rfl rfl ?_)
      |((with_reducible show aG _ _ _ _ _);first|refine aG.mk i (az _) (by first|exact hni|rfl) (ah hx) ?_|refine aG.mk i (az _) (by first|exact hni|rfl) (ah hgx) ?_|refine aG.mk j (az _) (by first|exact hnj|rfl) (ah hgy) ?_|refine aG.mk j (az _) (by first|exact hnj|rfl) (ah hhy) ?_|refine aG.mk 0 (aj first) rfl (bK hfz) ?_)
      |((with_reducible show aa _ _ 23 _ _ _ _);refine aa.val [] h23 mc ⟨rfl,rfl,trivial⟩ rfl rfl rfl ?_)
      |((with_reducible show aa _ _ 32 _ _ _ _);(try rw[hni]);(try rw[hnj]);refine aa.val [] h32 pg ⟨⟨rfl,rfl,trivial⟩,rfl,trivial⟩ rfl rfl rfl ?_)
      |((with_reducible show aa _ _ 21 _ _ _ _);(try rw[hni]);(try rw[hnj]);first|refine aa.lit [] h21g cQ ⟨⟨rfl,rfl,trivial⟩,rfl,trivial⟩ rfl rfl ?_|refine aa.lit [] h21 cQ ⟨⟨rfl,rfl,trivial⟩,rfl,trivial⟩ rfl rfl ?_|refine aa.lit [] h21h cQ ⟨⟨rfl,rfl,trivial⟩,rfl,trivial⟩ rfl rfl ?_|refine aa.lit [] h21w cQ ⟨⟨rfl,rfl,trivial⟩,rfl,trivial⟩ rfl rfl ?_)
      |((with_reducible show aa _ _ 29 _ _ _ _);(try rw[hni]);(try rw[hnj]);refine aa.val [] h29 o9 ⟨⟨rfl,rfl,trivial⟩,rfl,rfl,rfl,trivial⟩ rfl rfl rfl ?_)
      |((with_reducible show aa _ _ 24 _ _ _ _);(try rw[hni]);(try rw[hnj]);refine aa.val [] h24 pq ⟨⟨rfl,rfl,trivial⟩,rfl,rfl,trivial⟩ rfl rfl rfl ?_)
      |((with_reducible show aa _ _ 19 _ _ _ _);(try rw[hni]);(try rw[hnj]);refine aa.lit [] h19 oz ⟨⟨rfl,rfl,trivial⟩,rfl,trivial⟩ rfl rfl ?_)
      |((with_reducible show aL _ _ _ _);refine dK ?_))<;>with_reducible refine wK ?_)
    |((with_reducible show(_∧_)∧_∧_);(refine eK ?_ ?_<;>with_reducible repeat' (first|exact trivial|(show _∧_;refine aK ?_ ?_))))));all_goals clear fct)
                all_goals first|rfl|(rw[bY q1];rfl)|trace_state
          · rcases heg with⟨rfl,rfl⟩|rfl
            · rw [hx] at hgx;cases hgx
              rcases hcut with⟨rfl,rfl⟩|⟨hf0,hfz⟩
              · refine an.aF (rvs:=[.tmp 6]) G au Tryz.func11 rfl Tryz.ntmps11 rfl rfl ?_;with_reducible refine wD ?_
                (have fct:=And.intro hlm (And.intro fk (fn));(repeat' (first
    |refine gF ?_
    | ((first
      |((with_reducible show aa _ _ 15 _ _ _ _);refine aa.lit [] h15 oa trivial rfl rfl ?_)
      |((with_reducible show aa _ _ 16 _ _ _ _);refine aa.lit [] h16 nT ⟨⟨rfl,rfl,trivial⟩,trivial⟩ rfl rfl ?_)
      |((with_reducible show aa _ _ 17 _ _ _ _);refine aa.lit [] h17 jX ⟨⟨rfl,rfl,trivial⟩,trivial⟩ rfl rfl ?_)
      |(refine cT.int (by kernel_rfl) (by kernel_rfl) (wrap_u8 (by assumption)) ?_)
      |(refine aN.rem (by omega) (by(try simp only[ay]);omega) rfl rfl rfl rfl ?_)
      |((with_reducible show aG _ _ _ _ _);first|refine aG.mk i (az _) (by first|exact hni|rfl) (ah hx) ?_|refine aG.mk i (az _) (by first|exact hni|rfl) (ah hgx) ?_|refine aG.mk j (az _) (by first|exact hnj|rfl) (ah hgy) ?_|refine aG.mk j (az _) (by first|exact hnj|rfl) (ah hhy) ?_|refine aG.mk 0 (aj first) rfl (bK hfz) ?_)
      |((with_reducible show aa _ _ 23 _ _ _ _);refine aa.val [] h23 mc ⟨rfl,rfl,trivial⟩ rfl rfl rfl ?_)
      |((with_reducible show aa _ _ 32 _ _ _ _);(try rw[hni]);(try rw[hnj]);refine aa.val [] h32 pg ⟨⟨rfl,rfl,trivial⟩,rfl,trivial⟩ rfl rfl rfl ?_)
      |((with_reducible show aa _ _ 21 _ _ _ _);(try rw[hni]);(try rw[hnj]);first|refine aa.lit [] h21g cQ ⟨⟨rfl,rfl,trivial⟩,rfl,trivial⟩ rfl rfl ?_|refine aa.lit [] h21 cQ ⟨⟨rfl,rfl,trivial⟩,rfl,trivial⟩ rfl rfl ?_|refine aa.lit [] h21h cQ ⟨⟨rfl,rfl,trivial⟩,rfl,trivial⟩ rfl rfl ?_|refine aa.lit [] h21w cQ ⟨⟨rfl,rfl,trivial⟩,rfl,trivial⟩ rfl rfl ?_)
      |((with_reducible show aa _ _ 29 _ _ _ _);(try rw[hni]);(try rw[hnj]);refine aa.val [] h29 o9 ⟨⟨rfl,rfl,trivial⟩,rfl,rfl,rfl,trivial⟩ rfl rfl rfl ?_)
      |((with_reducible show aa _ _ 24 _ _ _ _);(try rw[hni]);(try rw[hnj]);refine aa.val [] h24 pq ⟨⟨rfl,rfl,trivial⟩,rfl,rfl,trivial⟩ rfl rfl rfl ?_)
      |((with_reducible show aa _ _ 19 _ _ _ _);(try rw[hni]);(try rw[hnj]);refine aa.lit [] h19 oz ⟨⟨rfl,rfl,trivial⟩,rfl,trivial⟩ rfl rfl ?_)
      |((with_reducible show aL _ _ _ _);refine dK ?_))<;>with_reducible refine wK ?_)
    |((with_reducible show(_∧_)∧_∧_);(refine eK ?_ ?_<;>with_reducible repeat' (first|exact trivial|(show _∧_;refine aK ?_ ?_))))));all_goals clear fct)
                all_goals first|rfl|(rw[bY q1];rfl)|trace_state
              · have hf1:=eq_true (show 0< (y7.length:Int) by omega)
                refine an.aF (rvs:=[.tmp 6]) G au Tryz.func11 rfl Tryz.ntmps11 rfl rfl ?_;with_reducible refine wD ?_
                (have fct:=And.intro hlm (And.intro fk (And.intro hyl (And.intro hf1 (fn))));(repeat' (first
    |refine gF ?_
    | ((first
      |((with_reducible show aa _ _ 15 _ _ _ _);refine aa.lit [] h15 oa trivial rfl rfl ?_)
      |((with_reducible show aa _ _ 16 _ _ _ _);refine aa.lit [] h16 nT ⟨⟨rfl,rfl,trivial⟩,trivial⟩ rfl rfl ?_)
      |((with_reducible show aa _ _ 17 _ _ _ _);refine aa.lit [] h17 jX ⟨⟨rfl,rfl,trivial⟩,trivial⟩ rfl rfl ?_)
      |(refine cT.int (by kernel_rfl) (by kernel_rfl) (wrap_u8 (by assumption)) ?_)
      |(refine aN.rem (by omega) (by(try simp only[ay]);omega) rfl rfl rfl rfl ?_)
      |((with_reducible show aG _ _ _ _ _);first|refine aG.mk i (az _) (by first|exact hni|rfl) (ah hx) ?_|refine aG.mk i (az _) (by first|exact hni|rfl) (ah hgx) ?_|refine aG.mk j (az _) (by first|exact hnj|rfl) (ah hgy) ?_|refine aG.mk j (az _) (by first|exact hnj|rfl) (ah hhy) ?_|refine aG.mk 0 (aj first) rfl (bK hfz) ?_)
      |((with_reducible show aa _ _ 23 _ _ _ _);refine aa.val [] h23 mc ⟨rfl,rfl,trivial⟩ rfl rfl rfl ?_)
      |((with_reducible show aa _ _ 32 _ _ _ _);(try rw[hni]);(try rw[hnj]);refine aa.val [] h32 pg ⟨⟨rfl,rfl,trivial⟩,rfl,trivial⟩ rfl rfl rfl ?_)
      |((with_reducible show aa _ _ 21 _ _ _ _);(try rw[hni]);(try rw[hnj]);first|refine aa.lit [] h21g cQ ⟨⟨rfl,rfl,trivial⟩,rfl,trivial⟩ rfl rfl ?_|refine aa.lit [] h21 cQ ⟨⟨rfl,rfl,trivial⟩,rfl,trivial⟩ rfl rfl ?_|refine aa.lit [] h21h cQ ⟨⟨rfl,rfl,trivial⟩,rfl,trivial⟩ rfl rfl ?_|refine aa.lit [] h21w cQ ⟨⟨rfl,rfl,trivial⟩,rfl,trivial⟩ rfl rfl ?_)
      |((with_reducible show aa _ _ 29 _ _ _ _);(try rw[hni]);(try rw[hnj]);refine aa.val [] h29 o9 ⟨⟨rfl,rfl,trivial⟩,rfl,rfl,rfl,trivial⟩ rfl rfl rfl ?_)
      |((with_reducible show aa _ _ 24 _ _ _ _);(try rw[hni]);(try rw[hnj]);refine aa.val [] h24 pq ⟨⟨rfl,rfl,trivial⟩,rfl,rfl,trivial⟩ rfl rfl rfl ?_)
      |((with_reducible show aa _ _ 19 _ _ _ _);(try rw[hni]);(try rw[hnj]);refine aa.lit [] h19 oz ⟨⟨rfl,rfl,trivial⟩,rfl,trivial⟩ rfl rfl ?_)
      |((with_reducible show aL _ _ _ _);refine dK ?_))<;>with_reducible refine wK ?_)
    |((with_reducible show(_∧_)∧_∧_);(refine eK ?_ ?_<;>with_reducible repeat' (first|exact trivial|(show _∧_;refine aK ?_ ?_))))));all_goals clear fct)
                all_goals first|rfl|(rw[bY q1];rfl)|trace_state
            · rcases hcut with⟨rfl,rfl⟩|⟨hf0,hfz⟩
              · refine an.aF (rvs:=[.tmp 6]) G au Tryz.func11 rfl Tryz.ntmps11 rfl rfl ?_;with_reducible refine wD ?_
                (have fct:=And.intro hlm (And.intro fk (fn));(repeat' (first
    |refine gF ?_
    | ((first
      |((with_reducible show aa _ _ 15 _ _ _ _);refine aa.lit [] h15 oa trivial rfl rfl ?_)
      |((with_reducible show aa _ _ 16 _ _ _ _);refine aa.lit [] h16 nT ⟨⟨rfl,rfl,trivial⟩,trivial⟩ rfl rfl ?_)
      |((with_reducible show aa _ _ 17 _ _ _ _);refine aa.lit [] h17 jX ⟨⟨rfl,rfl,trivial⟩,trivial⟩ rfl rfl ?_)
      |(refine cT.int (by kernel_rfl) (by kernel_rfl) (wrap_u8 (by assumption)) ?_)
      |(refine aN.rem (by omega) (by(try simp only[ay]);omega) rfl rfl rfl rfl ?_)
      |((with_reducible show aG _ _ _ _ _);first|refine aG.mk i (az _) (by first|exact hni|rfl) (ah hx) ?_|refine aG.mk i (az _) (by first|exact hni|rfl) (ah hgx) ?_|refine aG.mk j (az _) (by first|exact hnj|rfl) (ah hgy) ?_|refine aG.mk j (az _) (by first|exact hnj|rfl) (ah hhy) ?_|refine aG.mk 0 (aj first) rfl (bK hfz) ?_)
      |((with_reducible show aa _ _ 23 _ _ _ _);refine aa.val [] h23 mc ⟨rfl,rfl,trivial⟩ rfl rfl rfl ?_)
      |((with_reducible show aa _ _ 32 _ _ _ _);(try rw[hni]);(try rw[hnj]);refine aa.val [] h32 pg ⟨⟨rfl,rfl,trivial⟩,rfl,trivial⟩ rfl rfl rfl ?_)
      |((with_reducible show aa _ _ 21 _ _ _ _);(try rw[hni]);(try rw[hnj]);first|refine aa.lit [] h21g cQ ⟨⟨rfl,rfl,trivial⟩,rfl,trivial⟩ rfl rfl ?_|refine aa.lit [] h21 cQ ⟨⟨rfl,rfl,trivial⟩,rfl,trivial⟩ rfl rfl ?_|refine aa.lit [] h21h cQ ⟨⟨rfl,rfl,trivial⟩,rfl,trivial⟩ rfl rfl ?_|refine aa.lit [] h21w cQ ⟨⟨rfl,rfl,trivial⟩,rfl,trivial⟩ rfl rfl ?_)
      |((with_reducible show aa _ _ 29 _ _ _ _);(try rw[hni]);(try rw[hnj]);refine aa.val [] h29 o9 ⟨⟨rfl,rfl,trivial⟩,rfl,rfl,rfl,trivial⟩ rfl rfl rfl ?_)
      |((with_reducible show aa _ _ 24 _ _ _ _);(try rw[hni]);(try rw[hnj]);refine aa.val [] h24 pq ⟨⟨rfl,rfl,trivial⟩,rfl,rfl,trivial⟩ rfl rfl rfl ?_)
      |((with_reducible show aa _ _ 19 _ _ _ _);(try rw[hni]);(try rw[hnj]);refine aa.lit [] h19 oz ⟨⟨rfl,rfl,trivial⟩,rfl,trivial⟩ rfl rfl ?_)
      |((with_reducible show aL _ _ _ _);refine dK ?_))<;>with_reducible refine wK ?_)
    |((with_reducible show(_∧_)∧_∧_);(refine eK ?_ ?_<;>with_reducible repeat' (first|exact trivial|(show _∧_;refine aK ?_ ?_))))));all_goals clear fct)
                all_goals first|rfl|(rw[bY q1];rfl)|trace_state
              · have hf1:=eq_true (show 0< (y7.length:Int) by omega)
                refine an.aF (rvs:=[.tmp 6]) G au Tryz.func11 rfl Tryz.ntmps11 rfl rfl ?_;with_reducible refine wD ?_
                (have fct:=And.intro hlm (And.intro fk (And.intro hyl (And.intro hf1 (fn))));(repeat' (first
    |refine gF ?_
    | ((first
      |((with_reducible show aa _ _ 15 _ _ _ _);refine aa.lit [] h15 oa trivial rfl rfl ?_)
      |((with_reducible show aa _ _ 16 _ _ _ _);refine aa.lit [] h16 nT ⟨⟨rfl,rfl,trivial⟩,trivial⟩ rfl rfl ?_)
      |((with_reducible show aa _ _ 17 _ _ _ _);refine aa.lit [] h17 jX ⟨⟨rfl,rfl,trivial⟩,trivial⟩ rfl rfl ?_)
      |(refine cT.int (by kernel_rfl) (by kernel_rfl) (wrap_u8 (by assumption)) ?_)
      |(refine aN.rem (by omega) (by(try simp only[ay]);omega) rfl rfl rfl rfl ?_)
      |((with_reducible show aG _ _ _ _ _);first|refine aG.mk i (az _) (by first|exact hni|rfl) (ah hx) ?_|refine aG.mk i (az _) (by first|exact hni|rfl) (ah hgx) ?_|refine aG.mk j (az _) (by first|exact hnj|rfl) (ah hgy) ?_|refine aG.mk j (az _) (by first|exact hnj|rfl) (ah hhy) ?_|refine aG.mk 0 (aj first) rfl (bK hfz) ?_)
      |((with_reducible show aa _ _ 23 _ _ _ _);refine aa.val [] h23 mc ⟨rfl,rfl,trivial⟩ rfl rfl rfl ?_)
      |((with_reducible show aa _ _ 32 _ _ _ _);(try rw[hni]);(try rw[hnj]);refine aa.val [] h32 pg ⟨⟨rfl,rfl,trivial⟩,rfl,trivial⟩ rfl rfl rfl ?_)
      |((with_reducible show aa _ _ 21 _ _ _ _);(try rw[hni]);(try rw[hnj]);first|refine aa.lit [] h21g cQ ⟨⟨rfl,rfl,trivial⟩,rfl,trivial⟩ rfl rfl ?_|refine aa.lit [] h21 cQ ⟨⟨rfl,rfl,trivial⟩,rfl,trivial⟩ rfl rfl ?_|refine aa.lit [] h21h cQ ⟨⟨rfl,rfl,trivial⟩,rfl,trivial⟩ rfl rfl ?_|refine aa.lit [] h21w cQ ⟨⟨rfl,rfl,trivial⟩,rfl,trivial⟩ rfl rfl ?_)
      |((with_reducible show aa _ _ 29 _ _ _ _);(try rw[hni]);(try rw[hnj]);refine aa.val [] h29 o9 ⟨⟨rfl,rfl,trivial⟩,rfl,rfl,rfl,trivial⟩ rfl rfl rfl ?_)
      |((with_reducible show aa _ _ 24 _ _ _ _);(try rw[hni]);(try rw[hnj]);refine aa.val [] h24 pq ⟨⟨rfl,rfl,trivial⟩,rfl,rfl,trivial⟩ rfl rfl rfl ?_)
      |((with_reducible show aa _ _ 19 _ _ _ _);(try rw[hni]);(try rw[hnj]);refine aa.lit [] h19 oz ⟨⟨rfl,rfl,trivial⟩,rfl,trivial⟩ rfl rfl ?_)
      |((with_reducible show aL _ _ _ _);refine dK ?_))<;>with_reducible refine wK ?_)
    |((with_reducible show(_∧_)∧_∧_);(refine eK ?_ ?_<;>with_reducible repeat' (first|exact trivial|(show _∧_;refine aK ?_ ?_))))));all_goals clear fct)
                all_goals first|rfl|(rw[bY q1];rfl)|trace_state
end Go.Proofs.Heir
end
