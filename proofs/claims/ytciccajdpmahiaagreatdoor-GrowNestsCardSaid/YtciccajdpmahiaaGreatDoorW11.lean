/- Models, plain laws and contracts of functions of the given program; conditions as stated in each theorem. By an AI agent. -/
import Derived.Test.YtciccajdpmahiaaGreatDoorW10
set_option linter.unusedSimpArgs false
set_option linter.unusedVariables false
namespace Go.Am
open Go Go.ChangeShapes Go.WideShapes
section
variable {P : Program} {t : TypeId} {α : Type} {E : α → AV} {ok : α → Prop}
theorem Reads.topOne {H : Type} {enc : TypeId × Value → H} {w : World} {base : Nat} {sp : Nat → Bool} {held : Bool} {v : Value} {d : DataW H} {ps : List MemPlace} (h : Reads P t 1 E ok) (hE : ∀ a, cells (E a) = [E a])
    (hv : v.cells.toList = [v]) (hd : DataW.Trod enc P w base sp held t v d ps) : ∃ a, ok a ∧ ∀ (W : Nat → Prop) (μ : Mu), (∀ b, ¬ W b) → cq W μ w (E a) v := by
  obtain ⟨fuel, hf⟩ := hd
  obtain ⟨hl, a, h1, h2⟩ := h.2.2 hf
  refine ⟨a, h1, fun W μ hW => h2 W μ hW 0 _ _ (by rw [hE]; rfl) (by rw [hv]; rfl)⟩
end
end Go.Am
namespace Go.Proofs.Heir
open Go Go.Am Go.RowKit Go.Lib
set_option maxRecDepth 100000
set_option maxHeartbeats 8000000
set_option maxHeartbeats 8000000
def fI (df:Int)(bs:List Nat):List aY:=bs.map fun k:Nat=>(⟨df,(k:Int)⟩:aY)
structure uV (w:ai) (df:Int) (bs:List Nat) (v:ai):Prop where
 r:aP v
 sm:bh v
 sl:kV (60+61*bs.length) v.line
 ta:v.tasks.length≤60+bs.length
 f:v.f=w.f
 d:v.desk=w.desk
 cl:v.classes=w.classes
 bu:v.builds=w.builds++fI df bs
 nd:bs.Nodup
 st:∀k∈bs,∃s,v.states[k]? =some s∧s.phase=2∧s.df=df
theorem Is {w:ai}(R:aP w)(S:bh w)(hl:kV 60 w.line)(ht:w.tasks.length≤60)(df:Int):uV w df [] w:=⟨R,S,hl,ht,rfl,rfl,rfl,by unfold fI;simp,List.nodup_nil,fun k hk=>by cases hk⟩
theorem HE {w v:ai}{df:Int}{bs:List Nat}(F:uV w df bs v)(hb:bs.length≤20)(hwb:w.builds.length≤60){k:Nat}(h:cD v k df=true):uV w df (bs++ [k]) (bg v k df):=by
 obtain⟨s,hs⟩:∃s,v.states[k]? =some s:=by
  obtain⟨⟨R,he⟩,_,_⟩:=eO.1 h
  obtain⟨k',x,s,hk,_,_,hg,_,_⟩:=sN R he
  obtain rfl:k=k':=by omega
  exact⟨s,hg⟩
 have hph:s.phase=1:=by have:=(eO.1 h).2.2;rwa [bX hs] at this
 have hbl:v.builds.length≤80000:=by rw[F.bu];unfold fI;rw[List.length_append,List.length_map];omega
 have hB:60+61*bs.length≤80000:=by omega
 have htl:=F.ta
 have G:=lM h hs F.sm F.sl hB (by omega) hbl
 have GS:=lO h F.sm F.sl hB (by omega) hbl
 have hkn:k∉bs:=fun hk=>by
  obtain⟨t,ht,h2,_⟩:=F.st k hk
  rw[hs] at ht;cases ht;omega
 refine⟨G.r,G.sm,GS.2.1.mono (by rw[List.length_append,List.length_singleton];omega),by have:=GS.2.2.1;rw[List.length_append,List.length_singleton];omega,G.f.trans F.f,G.d.trans F.d,G.cl.trans F.cl,?_,?_,?_⟩
 ·rw[G.bu,F.bu];unfold fI;simp
 ·rw[List.nodup_append]
  refine⟨F.nd,by simp,fun a ha b hb=>?_⟩
  rw[List.mem_singleton.1 hb]
  exact fun e=>hkn (e▸ha)
 ·intro i hi
  rcases List.mem_append.1 hi with q|q
  ·obtain⟨t,ht,h2,h3⟩:=F.st i q
   exact⟨t,((G.ot i (fun e=>hkn (e▸q))).1).trans ht,h2,h3⟩
  ·rw[List.mem_singleton.1 q]
   exact⟨_,G.st,rfl,rfl⟩
structure Qd (w:ai) (df:Int) (bs:List Nat) (i:Nat) (v:ai):Prop where
 r:aP v
 sm:bh v
 sl:kV (60+61*bs.length+1300* (bs.length-i)) v.line
 ta:v.tasks.length≤60+bs.length+ (bs.length-i)
 f:v.f=w.f
 d:v.desk=w.desk
 cl:v.classes=w.classes
 bu:v.builds=w.builds++fI df (bs.take i)
 st:∀ (q:Nat) k,bs[q]? =some k→∃s,v.states[k]? =some s∧s.phase=(if q<i then 2 else 3)∧s.df=df
theorem Od {w v:ai}{df:Int}{bs:List Nat}(F:uV w df bs v):Qd w df bs bs.length v:=
 ⟨F.r,F.sm,F.sl.mono (by omega),Nat.le_trans F.ta (by omega),F.f,F.d,F.cl,by rw[List.take_length];exact F.bu,fun q k hq=>by
  rw[if_pos (List.getElem?_eq_some_iff.1 hq).1]
  exact F.st k (List.mem_of_getElem? hq)⟩
def PE (w:ai)(df:Int)(bs:List Nat)(i:Nat)(v:ai):ai:=eC {v with builds:=w.builds++fI df (bs.take i)} ((bs[i]?).getD 0)
theorem FC {w v:ai}{df:Int}{bs:List Nat}{i k:Nat}(nd:bs.Nodup)(hb:bs.length≤20)(hwb:w.builds.length≤60)(hd:dO w df=true)(hk:bs[i]? =some k)(F:Qd w df bs (i+1) v):
  gq v (iO w.desk df).cls=(fP v (w.builds++fI df (bs.take i)) df,(k:Int),false,0)∧bh (fP v (w.builds++fI df (bs.take i)) df)∧iJ (fP v (w.builds++fI df (bs.take i)) df) k k 0=(PE w df bs i v,0)∧Qd w df bs i (PE w df bs i v):=by
 have hil:=(List.getElem?_eq_some_iff.1 hk).1
 have hbv:v.builds=(w.builds++fI df (bs.take i))++ [⟨df,k⟩]:=by
  rw[F.bu];unfold fI
  rw[List.take_add_one,hk];simp
 have hdv:dO v df=true:=by unfold dO at hd ⊢;rw[F.d];exact hd
 have h1:=qS F.r hbv hdv
 rw[F.d,show(aY.mk df (k:Int)).df=df from rfl] at h1
 have h2:=zC hbv (by show(k:Int)≠-4;omega)
 obtain⟨s,hs,hs2,hs3⟩:=F.st i k hk
 rw[if_pos (by omega)] at hs2
 have hel:elemV v.f.nodes k=true:=nk F.r hs (by omega)
 have lb:(fI df (bs.take i)).length≤20:=by unfold fI;rw[List.length_map,List.length_take];omega
 have UR:aP (fP v (w.builds++fI df (bs.take i)) df):=by
  refine j6 F.r fun b hb=>?_
  rcases List.mem_append.1 hb with q|q
  ·exact F.r.bu b (by rw[hbv];exact List.mem_append_left _ q)
  ·rw[List.mem_singleton.1 q];unfold gS;rw[hdv];rfl
 have US:bh (fP v (w.builds++fI df (bs.take i)) df):=fW F.sm (by rw[List.length_append,List.length_append,List.length_singleton];omega)
 obtain⟨hpo,PR⟩:=pA UR (b:=⟨df,-4⟩) rfl
 have hfo:gG (fP v (w.builds++fI df (bs.take i)) df) k=true:=by
  rw[jy (iB.2 ⟨UR,hel⟩) (bX hs) (b:=⟨df,-4⟩) rfl,hs2,hs3]
  simp
 have hun:PE w df bs i v=eC {v with builds:=w.builds++fI df (bs.take i)} k:=by unfold PE;rw[hk];rfl
 have hpo':Bt (fP v (w.builds++fI df (bs.take i)) df)={v with builds:=w.builds++fI df (bs.take i)}:=hpo
 have PR':aP {v with builds:=w.builds++fI df (bs.take i)}:=PR
 have PS:bh {v with builds:=w.builds++fI df (bs.take i)}:=fW F.sm (by rw[List.length_append];omega)
 have htl:=F.ta
 have DG:=xA PR' (k:=k) (s:=s) hel hs (.inl hs2)
 have DS:=rE PR' (n:=k) hel (by rw[show eI ({v with builds:=w.builds++fI df (bs.take i)}:ai).states k=s from bX hs];exact .inl hs2) PS F.sl (by omega) (by show v.tasks.length≤_;omega)
 refine⟨by rw[h1];exact h2,US,?_,?_⟩
 ·rw[nw hfo,if_neg (by simp),if_neg (by simp),hpo',hun]
 ·rw [hun]
  refine⟨DG.1,DS.1,DS.2.1.mono (by omega),by have:=DS.2.2;have e:({v with builds:=w.builds++fI df (bs.take i)}:ai).tasks=v.tasks:=rfl;rw[e] at this;omega,DG.2.1.1.trans F.f,DG.2.1.2.1.trans F.d,DG.2.1.2.2.2.trans F.cl,DG.2.1.2.2.1,?_⟩
  intro q m hq
  obtain⟨t,ht,ht2,ht3⟩:=F.st q m hq
  obtain⟨u,hu,hu2,hu3⟩:=DG.2.2 m t ht
  refine⟨u,hu,?_,hu3.trans ht3⟩
  rw[hu2]
  by_cases e:q=i
  ·subst e
   rw[hk] at hq;cases hq
   rw[if_pos rfl,if_neg (by omega)]
  ·have hne:k≠m:=fun c=>by
    subst c
    exact e ((List.getElem?_inj hil nd).1 (hk.trans hq.symm)).symm
   rw[if_neg hne,ht2]
   by_cases c:q<i
   ·rw[if_pos c,if_pos (by omega)]
   ·rw[if_neg c,if_neg (by omega)]
def Pd (c:UInt8):AV:=.lit (.int .u8 (c.toNat:Int))
@[reducible] def Pc (l : List UInt8) : AV := .sl 1 (l.map Pd)
theorem I8 {l:List UInt8}{k:Nat}{x:UInt8}(h:l[k]? =some x):(l.map Pd)[k]? =some (.lit (.int .u8 (x.toNat:Int))):=by rw[List.getElem?_map,h];rfl
def E1 (w:ai)(c:UInt8):Nat:=c.toNat%w.states.length
def E6 (w:ai)(df:Int)(p:ai×List Nat)(c:UInt8):ai×List Nat:=if cD p.1 (E1 w c) df=true then(bg p.1 (E1 w c) df,p.2++ [E1 w c]) else p
def bU (w:ai)(df:Int)(l:List UInt8)(q:Nat):ai×List Nat:=(l.take q).foldl (E6 w df) (w,[])
theorem xg (w:ai)(df:Int){l:List UInt8}{q:Nat}{c:UInt8}(h:l[q]? =some c):bU w df l (q+1)=E6 w df (bU w df l q) c:=by
 unfold bU
 rw[List.take_add_one,h]
 simp[List.foldl_append]
theorem EN {w:ai}(R:aP w)(S:bh w)(hl:kV 60 w.line)(ht:w.tasks.length≤60)(hwb:w.builds.length≤60)(df:Int)(l:List UInt8)(h20:l.length≤20):∀q,q≤l.length→uV w df (bU w df l q).2 (bU w df l q).1∧(bU w df l q).2.length≤q
 |0,_=>⟨Is R S hl ht df,Nat.le_refl _⟩
 | q +1,h=>by
   obtain⟨F,hlen⟩:=EN R S hl ht hwb df l h20 q (by omega)
   obtain⟨c,hc⟩:∃c,l[q]? =some c:=⟨_,List.getElem?_eq_getElem (by omega)⟩
   rw[xg w df hc]
   unfold E6
   split
   ·rename_i e
    exact⟨HE F (by omega) hwb e,by rw[List.length_append,List.length_singleton];omega⟩
   ·exact⟨F,by omega⟩
theorem xd {w:ai}{df:Int}{l:List UInt8}{q:Nat}{c:UInt8}(h:l[q]? =some c):gm (bU w df l q).1 (E1 w c) df=((bU w df l (q+1)).1,cD (bU w df l q).1 (E1 w c) df)∧(bU w df l (q+1)).2=if cD (bU w df l q).1 (E1 w c) df=true then(bU w df l q).2++ [E1 w c] else(bU w df l q).2:=by
 rw[xg w df h]
 unfold E6 gm
 cases e:cD (bU w df l q).1 (E1 w c) df with
 |true=>exact⟨by rw[if_pos rfl,if_pos rfl],by rw[if_pos rfl,if_pos rfl]⟩
 |false=>exact⟨by rw[if_neg (by simp),if_neg (by simp)],by rw[if_neg (by simp),if_neg (by simp)]⟩
def zP (w:ai)(df:Int)(bs:List Nat)(v:ai):Nat→ai
 |0=>v
 |k+1=>PE w df bs (bs.length-1-k) (zP w df bs v k)
theorem Kq {w v:ai}{df:Int}{bs:List Nat}(F:uV w df bs v)(hb:bs.length≤20)(hwb:w.builds.length≤60)(hd:dO w df=true):∀k,k≤bs.length→Qd w df bs (bs.length-k) (zP w df bs v k)
 |0,_=>Od F
 | k+1,h=>by
   have U:=Kq F hb hwb hd k (by omega)
   obtain⟨m,hm⟩:∃m,bs[bs.length-1-k]? =some m:=⟨_,List.getElem?_eq_getElem (by omega)⟩
   have e:bs.length-k=(bs.length-1-k)+1:=by omega
   rw[e] at U
   have:=(FC F.nd hb hwb hd hm U).2.2.2
   rw[show bs.length- (k+1)=bs.length-1-k by omega]
   exact this
end Go.Proofs.Heir
namespace Go.Proofs.Heir
open Go Go.Am Go.RowKit Go.Lib
set_option maxRecDepth 100000
set_option maxHeartbeats 8000000
set_option maxHeartbeats 32000000
theorem Dy {w v:ai}{j:Nat}{bs:List Nat}(F:uV w j bs v)(hb:bs.length≤20)(hwb:w.builds.length≤60)(hd:dO w j=true){y1 y2:ByteArray}{y3:Int}(hda:iO w.desk j=⟨y1,y2,y3⟩)(h63:w.f.nodes.length≤63)(hz:∀x∈w.desk.defs,(ek x.locl).size≤300){k:Nat}(hk:k<bs.length):
  ∃ (m:Nat) (tb:List aY),bs[bs.length-1-k]? =some m∧ah Tryz.prog 50 [] [aT (zP w j bs v k),aq y3] [] (.tup [aT (fP (zP w j bs v k) tb j),aq m,aA false,aq 0])∧
   ah Tryz.prog 52 [] [aT (fP (zP w j bs v k) tb j),aq m,aq m,aq 0] [] (.tup [aT (zP w j bs v (k+1)),aq 0]):=by
 have U:=Kq F hb hwb hd k (by omega)
 obtain⟨m,hm⟩:∃m,bs[bs.length-1-k]? =some m:=⟨_,List.getElem?_eq_getElem (by omega)⟩
 have e:bs.length-k=(bs.length-1-k)+1:=by omega
 rw[e] at U
 obtain⟨h1,h2,h3,_⟩:=FC F.nd hb hwb hd hm U
 have hta:=U.ta
 have a1:=iE (zP w j bs v k) U.sm (by rw[U.f];exact h63) (U.sl.mono (by omega)) (by omega) (by rw[U.d];exact hz) y3
 rw[hda] at h1
 simp only at h1
 rw[h1] at a1
 have a2:=jq (fP (zP w j bs v k) (w.builds++fI j (bs.take (bs.length-1-k))) j) h2 (U.sl.mono (by omega)) (by show(zP w j bs v k).tasks.length≤_;omega) m m 0
 rw[h3] at a2
 exact⟨m,w.builds++fI j (bs.take (bs.length-1-k)),hm,a1,a2⟩
theorem NT (w:ai)(x:Int)(hx:0≤x∧x<256)(us:List UInt8):ah Tryz.prog 10 [] [aT w,.lit (.int .u8 x),Pc us] [] (aA true):=by
 have h15:=mH
 have h16:=kp w
 have hdm:(w.desk.defs.map fH).length=w.desk.defs.length:=List.length_map ..
 have hum:(us.map Pd).length=us.length:=List.length_map ..
 cases e1:nj w with
 | false=>
   rw[e1] at h16
   obtain⟨⟨l,m⟩,st,⟨d1,d2,d3,d4⟩,⟨a,b,c,d⟩,ta,bu,cs⟩:=w
   refine ah.af (rvs:=[.tmp 6]) G aa Tryz.func10 rfl Tryz.ntmps10 rfl rfl ?_;with_reducible refine wD ?_
   repeat' (first
  |refine gK ?_|refine aE ?_ ?_
  | ((first
   |((with_reducible refine kQ 46 ?_);refine cL h15 rT ?_)
   | ((with_reducible refine kQ 16 ?_);refine aj.lit [] h16 rM ⟨
       ⟨rfl,rfl,rfl,rfl,rfl,rfl,rfl,rfl,rfl,rfl,rfl,rfl,rfl,rfl,trivial⟩
       ,trivial⟩ rfl rfl ?_))<;>with_reducible refine wK ?_)
  |apply trivial)
 |true=>
 rw[e1] at h16
 have S:=jg.1 e1
 have h19:=cr w S.small
 cases e3:cf w with
 | false=>
   rw[e3] at h19
   clear S e1
   obtain⟨⟨l,m⟩,st,⟨d1,d2,d3,d4⟩,⟨a,b,c,d⟩,ta,bu,cs⟩:=w
   refine ah.af (rvs:=[.tmp 6]) G aa Tryz.func10 rfl Tryz.ntmps10 rfl rfl ?_;with_reducible refine wD ?_
   repeat' (first
  |refine gK ?_|refine aE ?_ ?_
  | ((first
   |((with_reducible refine kQ 46 ?_);refine cL h15 rT ?_)
   | ((with_reducible refine kQ 16 ?_);refine aj.lit [] h16 rM ⟨
       ⟨rfl,rfl,rfl,rfl,rfl,rfl,rfl,rfl,rfl,rfl,rfl,rfl,rfl,rfl,trivial⟩
       ,trivial⟩ rfl rfl ?_)
   | ((with_reducible refine kQ 19 ?_);refine aj.lit [] h19 gZ ⟨
       ⟨rfl,rfl,rfl,rfl,rfl,rfl,rfl,rfl,rfl,rfl,rfl,rfl,rfl,rfl,trivial⟩
       ,trivial⟩ rfl rfl ?_))<;>with_reducible refine wK ?_)
  |apply trivial)
 |true=>
 rw[e3] at h19
 by_cases e2:(w.desk.defs.length:Int)=0
 ·clear S e1 e3
  obtain⟨⟨l,m⟩,st,⟨d1,d2,d3,d4⟩,⟨a,b,c,d⟩,ta,bu,cs⟩:=w
  simp only at hdm e2
  refine ah.af (rvs:=[.tmp 6]) G aa Tryz.func10 rfl Tryz.ntmps10 rfl rfl ?_;with_reducible refine wD ?_
  (have fct:=And.intro hdm (e2);(repeat' (first
  |refine gF ?_|refine aE ?_ ?_
  | ((first
   |((with_reducible refine kQ 46 ?_);refine cL h15 rT ?_)
   | ((with_reducible refine kQ 16 ?_);refine aj.lit [] h16 rM ⟨
       ⟨rfl,rfl,rfl,rfl,rfl,rfl,rfl,rfl,rfl,rfl,rfl,rfl,rfl,rfl,trivial⟩
       ,trivial⟩ rfl rfl ?_)
   | ((with_reducible refine kQ 19 ?_);refine aj.lit [] h19 gZ ⟨
       ⟨rfl,rfl,rfl,rfl,rfl,rfl,rfl,rfl,rfl,rfl,rfl,rfl,rfl,rfl,trivial⟩
       ,trivial⟩ rfl rfl ?_))<;>with_reducible refine wK ?_)
  |apply trivial));all_goals clear fct)
 have hg2:decide (((w.desk.defs.map fH).length:Int)=0)=false:=decide_eq_false (by omega)
 by_cases e4:(20:Int)< (us.length:Int)
 ·have hg3:decide ((20:Int)< ((us.map Pd).length:Int))=true:=decide_eq_true (by omega)
  clear S e1 e3
  obtain⟨⟨l,m⟩,st,⟨d1,d2,d3,d4⟩,⟨a,b,c,d⟩,ta,bu,cs⟩:=w
  simp only at hdm e2 hg2 hg3
  refine ah.af (rvs:=[.tmp 6]) G aa Tryz.func10 rfl Tryz.ntmps10 rfl rfl ?_;with_reducible refine wD ?_
  (have fct:=hdm;(repeat' (first
  |refine gF ?_|refine aE ?_ ?_
  | ((first
   |((with_reducible refine kQ 46 ?_);refine cL h15 rT ?_)
   | ((with_reducible refine kQ 16 ?_);refine aj.lit [] h16 rM ⟨
       ⟨rfl,rfl,rfl,rfl,rfl,rfl,rfl,rfl,rfl,rfl,rfl,rfl,rfl,rfl,trivial⟩
       ,trivial⟩ rfl rfl ?_)
   | ((with_reducible refine kQ 19 ?_);refine aj.lit [] h19 gZ ⟨
       ⟨rfl,rfl,rfl,rfl,rfl,rfl,rfl,rfl,rfl,rfl,rfl,rfl,rfl,rfl,trivial⟩
       ,trivial⟩ rfl rfl ?_))<;>with_reducible refine wK ?_)
  |apply trivial));all_goals clear fct)
 have hg3:decide ((20:Int)< ((us.map Pd).length:Int))=false:=decide_eq_false (by omega)
 have R:=bH.1 e3
 have hsm:=S.small
 have hn1:=mo R
 have hsl:=R.sl
 obtain⟨j,hj⟩:∃j:Nat,x% (w.desk.defs.length:Int)=j:=⟨_,(Int.toNat_of_nonneg (Int.emod_nonneg _ (by omega))).symm⟩
 have hjl:j<w.desk.defs.length:=by
  have:=Int.emod_lt_of_pos x (show(0:Int)< (w.desk.defs.length:Int) by omega)
  omega
 have hd:dO w j=true:=by unfold dO;simp;omega
 have hl6:=mP S.l
 have hdpos:0<w.desk.defs.length:=by omega
 have hspos:0<w.states.length:=by omega
 obtain⟨kd,⟨y1,y2,y3⟩,hkd,hyd,hda,_,_,hcl,_⟩:=tu R hd
 obtain rfl:j=kd:=by omega
 have hstm:(w.states.map bG).length=w.states.length:=List.length_map ..
 have hF:=EN R hsm hl6 S.ta S.bu j us (by omega)
 have hSt:∀ (q:Nat) c,us[q]? =some c→ah Tryz.prog 47 [] [aT (bU w j us q).1,aq ((c.toNat:Int)% ((w.states.map bG).length:Int)),aq j] [] (.tup [aT (bU w j us (q+1)).1,aA (cD (bU w j us q).1 (E1 w c) j)]):=fun q c hc=>by
  have hql:=(List.getElem?_eq_some_iff.1 hc).1
  have:=iG (bU w j us q).1 (hF q (by omega)).1.sm (E1 w c) j
  rw[(xd hc).1] at this
  rw[hstm,show((c.toNat:Int)% (w.states.length:Int))=((E1 w c:Nat):Int) from rfl]
  exact this
 have hBS:∀ (q:Nat) c,us[q]? =some c→(bU w j us (q+1)).2=if cD (bU w j us q).1 (E1 w c) j=true then(bU w j us q).2++ [E1 w c] else(bU w j us q).2:=fun q c hc=>(xd hc).2
 have hve:∀q,q≤us.length→(bU w j us q).1=⟨w.f,(bU w j us q).1.states,w.desk,(bU w j us q).1.line,(bU w j us q).1.tasks,(bU w j us q).1.builds,w.classes⟩:=fun q hq=>by
  have F:=(hF q hq).1
  have p1:=F.f
  have p2:=F.d
  have p3:=F.cl
  generalize(bU w j us q).1=v at*
  obtain⟨v1,v2,v3,v4,v5,v6,v7⟩:=v
  simp only at p1 p2 p3
  subst p1;subst p2;subst p3;rfl
 have hEnd:=hF us.length (Nat.le_refl _)
 have SD:=kT.1 S.d
 have hzs:∀x∈w.desk.defs,(ek x.locl).size≤300:=fun x hx=>by rw[tS];exact(SD.names x hx).2
 obtain⟨bs,hbs⟩:∃bs,(bU w j us us.length).2=bs:=⟨_,rfl⟩
 have hN:uV w j bs (bU w j us us.length).1:=by rw[←hbs];exact hEnd.1
 have hb20:bs.length≤20:=by rw[←hbs];have:=hEnd.2;omega
 have hRd:=fun k (hk:k<bs.length)=>Dy hN hb20 S.bu hd hda (by have:=oR S;omega) hzs hk
 have hUn:=fun k (hk:k≤bs.length)=>Kq hN hb20 S.bu hd k hk
 obtain⟨VS,hVS⟩:∃VS:Nat→List StateM,VS=fun q=>(bU w j us q).1.states:=⟨_,rfl⟩
 obtain⟨VL,hVL⟩:∃VL:Nat→bK,VL=fun q=>(bU w j us q).1.line:=⟨_,rfl⟩
 obtain⟨VT,hVT⟩:∃VT:Nat→List gw,VT=fun q=>(bU w j us q).1.tasks:=⟨_,rfl⟩
 obtain⟨VB,hVB⟩:∃VB:Nat→List aY,VB=fun q=>(bU w j us q).1.builds:=⟨_,rfl⟩
 obtain⟨BI,hBI⟩:∃BI:Nat→List Int,BI=fun q=>(bU w j us q).2.map fun k:Nat=>(k:Int):=⟨_,rfl⟩
 have hve:∀q,q≤us.length→(bU w j us q).1=⟨w.f,VS q,w.desk,VL q,VT q,VB q,w.classes⟩:=fun q hq=>by rw[hVS,hVL,hVT,hVB];exact hve q hq
 have h0:VS 0=w.states∧VL 0=w.line∧VT 0=w.tasks∧VB 0=w.builds∧BI 0=[]:=by rw[hVS,hVL,hVT,hVB,hBI];exact⟨rfl,rfl,rfl,rfl,rfl⟩
 have hSt:∀ (q:Nat) c,us[q]? =some c→∃g,ah Tryz.prog 47 [] [aT ⟨w.f,VS q,w.desk,VL q,VT q,VB q,w.classes⟩,aq ((c.toNat:Int)% ((w.states.map bG).length:Int)),aq j] [] (.tup [aT ⟨w.f,VS (q+1),w.desk,VL (q+1),VT (q+1),VB (q+1),w.classes⟩,aA g])∧BI (q+1)=if g=true then BI q++ [(c.toNat:Int)% ((w.states.map bG).length:Int)] else BI q:=fun q c hc=>by
  have hql:=(List.getElem?_eq_some_iff.1 hc).1
  have h1:=hSt q c hc
  have h2:=hBS q c hc
  rw[hve q (by omega),hve (q+1) (by omega)] at h1
  rw[←hve q (by omega)] at h1
  refine⟨cD (bU w j us q).1 (E1 w c) j,?_,?_⟩
  ·rw[←hve q (by omega)];exact h1
  ·rw[hBI]
   show(bU w j us (q+1)).2.map _=_
   rw[h2,hstm]
   split
   ·rw[List.map_append];rfl
   ·rfl
 have hBl:∀q,q≤us.length→(BI q).length≤20:=fun q hq=>by
  rw[hBI]
  show((bU w j us q).2.map _).length≤_
  rw[List.length_map]
  have:=(hF q hq).2;omega
 have h20:us.length≤20:=by omega
 obtain⟨US,hUS⟩:∃US:Nat→List StateM,US=fun k=>(zP w j bs (bU w j us us.length).1 k).states:=⟨_,rfl⟩
 obtain⟨UL,hUL⟩:∃UL:Nat→bK,UL=fun k=>(zP w j bs (bU w j us us.length).1 k).line:=⟨_,rfl⟩
 obtain⟨UT,hUT⟩:∃UT:Nat→List gw,UT=fun k=>(zP w j bs (bU w j us us.length).1 k).tasks:=⟨_,rfl⟩
 obtain⟨UB,hUB⟩:∃UB:Nat→List aY,UB=fun k=>(zP w j bs (bU w j us us.length).1 k).builds:=⟨_,rfl⟩
 obtain⟨IX,hIX⟩:∃IX:Nat→Int,IX=fun k:Nat=>(bs.length:Int)-1-k:=⟨_,rfl⟩
 have hue:∀k,k≤bs.length→zP w j bs (bU w j us us.length).1 k=⟨w.f,US k,w.desk,UL k,UT k,UB k,w.classes⟩:=fun k hk=>by
  have F:=hUn k hk
  have p1:=F.f
  have p2:=F.d
  have p3:=F.cl
  rw[hUS,hUL,hUT,hUB]
  show zP w j bs (bU w j us us.length).1 k=⟨_,(zP w j bs (bU w j us us.length).1 k).states,_,(zP w j bs (bU w j us us.length).1 k).line,(zP w j bs (bU w j us us.length).1 k).tasks,(zP w j bs (bU w j us us.length).1 k).builds,_⟩
  generalize zP w j bs (bU w j us us.length).1 k=v at*
  obtain⟨v1,v2,v3,v4,v5,v6,v7⟩:=v
  simp only at p1 p2 p3
  subst p1;subst p2;subst p3;rfl
 have hU0:US 0=VS us.length∧UL 0=VL us.length∧UT 0=VT us.length∧UB 0=VB us.length:=by rw[hUS,hUL,hUT,hUB,hVS,hVL,hVT,hVB];exact⟨rfl,rfl,rfl,rfl⟩
 have hRd:∀k,k<bs.length→∃ (z:Nat) (B2:List aY),bs[bs.length-1-k]? =some z∧ah Tryz.prog 50 [] [aT ⟨w.f,US k,w.desk,UL k,UT k,UB k,w.classes⟩,aq y3] [] (.tup [aT ⟨w.f,US k,w.desk,UL k,UT k,B2,w.classes⟩,aq z,aA false,aq 0])∧
   ah Tryz.prog 52 [] [aT ⟨w.f,US k,w.desk,UL k,UT k,B2,w.classes⟩,aq z,aq z,aq 0] [] (.tup [aT ⟨w.f,US (k+1),w.desk,UL (k+1),UT (k+1),UB (k+1),w.classes⟩,aq 0]):=fun k hk=>by
  obtain⟨z,tb,h1,h2,h3⟩:=hRd k hk
  rw[hue k (by omega)] at h2 h3
  rw[hue (k+1) (by omega)] at h3
  exact⟨z,tb++ [aY.mk (j:Int) (-4)],h1,h2,h3⟩
 have hbl2:(BI us.length).length=bs.length:=by rw[hBI,←hbs];exact List.length_map ..
 have hcs:∀ (i z:Nat),bs[i]? =some z→(BI us.length)[i]? =some (z:Int):=fun i z hz=>by
  rw[hBI]
  show((bU w j us us.length).2.map fun k:Nat=>(k:Int))[i]? =_
  rw[hbs,List.getElem?_map,hz];rfl
 have hI0:IX 0=((BI us.length).length:Int)-1:=by rw[hIX,hbl2];show(bs.length:Int)-1- ((0:Nat):Int)=_;omega
 have hIk:∀k:Nat,IX k=(bs.length:Int)-1-k:=fun k=>by rw[hIX]
 have hIs:∀k:Nat,IX (k+1)=IX k-1:=fun k=>by rw[hIk,hIk];omega
 have hF0:=hUn bs.length (Nat.le_refl _)
 rw[hue bs.length (Nat.le_refl _),Nat.sub_self] at hF0
 have hRv:=cr _ hF0.sm
 rw[bH.2 hF0.r] at hRv
 have hBu:UB bs.length=w.builds:=by
  have:=hF0.bu
  simp only[List.take_zero] at this
  unfold fI at this
  rw[List.map_nil,List.append_nil] at this
  exact this
 have hSe:∀ (i z:Nat),bs[i]? =some z→∃o b,(US bs.length)[z]? =some ⟨3,j,o,b⟩:=fun i z hz=>by
  obtain⟨s,h1,h2,h3⟩:=hF0.st i z hz
  rw[if_neg (by omega)] at h2
  obtain⟨s1,s2,s3,s4⟩:=s
  simp only at h2 h3
  subst h2;subst h3
  exact⟨s3,s4,h1⟩
 have hCo:∀ (i z:Nat),bs[i]? =some z→ah Tryz.prog 53 [] [bY (BI us.length),aq z] [] (aq 1):=fun i z hz=>by
  have:=IP (BI us.length) (by omega) z
  have hnd:(BI us.length).Nodup:=by
   rw[hBI]
   show((bU w j us us.length).2.map fun k:Nat=>(k:Int)).Nodup
   rw[hbs]
   exact List.Pairwise.map _ (fun a b hab he=>hab (by omega)) hN.nd
  rw[count_one hnd (List.mem_of_getElem? (hcs i z hz))] at this
  exact this
 clear hF0 hUS hUL hUT hUB hIX hue hUn hN hBI hbs hEnd
 clear hVS hVL hVT hVB hda hcl hkd
 obtain⟨⟨l,m⟩,st,⟨d1,d2,d3,d4⟩,⟨a,b,c,d⟩,ta,bu,cs⟩:=w
 simp only at hdm hg2 hyd hstm hdpos hspos hSt h0 hRd hRv hBu
 refine ah.af (rvs:=[.tmp 6]) G aa Tryz.func10 rfl Tryz.ntmps10 rfl rfl ?_;with_reducible refine wD ?_
 (have fct:=hdm;(repeat' (first
  |refine gF ?_|refine aE ?_ ?_
  | ((first
   |((with_reducible refine kQ 46 ?_);refine cL h15 rT ?_)
   |((with_reducible refine kQ 16 ?_);refine aj.lit [] h16 rM ⟨
   ⟨rfl,rfl,rfl,rfl,rfl,rfl,rfl,rfl,rfl,rfl,rfl,rfl,rfl,rfl,trivial⟩
   ,trivial⟩ rfl rfl ?_)
   |((with_reducible refine kQ 19 ?_);refine aj.lit [] h19 gZ ⟨
   ⟨rfl,rfl,rfl,rfl,rfl,rfl,rfl,rfl,rfl,rfl,rfl,rfl,rfl,rfl,trivial⟩
   ,trivial⟩ rfl rfl ?_))<;>with_reducible refine wK ?_)
  |apply trivial));all_goals clear fct)
 refine dA.int (by kernel_rfl) (by kernel_rfl) (dH hx) ?_;with_reducible refine wK ?_
 repeat' (first
  |refine gK ?_|refine aE ?_ ?_
  |apply trivial)
 refine aW.rem hx.1 (show 0< ((d1.map fH).length:Int) by omega) rfl rfl rfl rfl ?_;with_reducible refine wK ?_
 rw[hdm,hj]
 repeat' (first
  |refine gK ?_|refine aE ?_ ?_
  |(((with_reducible show ay _ _ _ _ _);refine ay.mk j (jH ⟨y1,y2,y3⟩) rfl (dD hyd) ?_)<;>with_reducible refine wK ?_)
  |apply trivial)
 refine aU.ghost 9 91 1 rfl rfl ?_
 refine aU.use G aa (fun(q:Nat)=>[(2,Pc us),(3,.ptr 30 0 0),(7,aq j),(8,aq y3),(9,.own 91 0 (BI q).length),(10,.ptr 100 0 0),(11,aq q)])
  (fun q=>[(30,mW ⟨⟨l,m⟩,st,⟨d1,d2,d3,d4⟩,⟨a,b,c,d⟩,ta,bu,cs⟩),(91,gX (BI q)),(100,mW ⟨⟨l,m⟩,VS q,⟨d1,d2,d3,d4⟩,VL q,VT q,VB q,cs⟩)])
  (fun q=>q≤us.length) (fun q=>us.length-q) 0 (Nat.zero_le _) ?_ ?_
 ·rw[h0.1,h0.2.1,h0.2.2.1,h0.2.2.2.1,h0.2.2.2.2]
  (refine fK ?_;(with_reducible repeat' (first|exact trivial|(show _∧_;refine aK ?_ ?_)));(all_goals try rfl))
  all_goals first
   |rfl
   |exact⟨.refl (aQ _),aQ _⟩
 intro q hq
 with_reducible refine wK ?_
 refine bq.mk (fun h9=>?_) (fun h9=>?_)<;>(try simp only[aF] at h9)<;>with_reducible refine wK ?_
 ·have hq':q<us.length:=by simp only[decide_eq_true_eq] at h9;omega
  obtain⟨ch,hch⟩:∃z,us[q]? =some z:=⟨_,List.getElem?_eq_getElem hq'⟩
  obtain⟨g,hS,hB⟩:=hSt q ch hch
  have hbl:=hBl q (by omega)
  have hch2:ch.toNat<256:=UInt8.toNat_lt ch
  have hwg:0≤ (ch.toNat:Int)∧(ch.toNat:Int)<256:=by omega
  have hpo:(0:Int)< ((st.map bG).length:Int):=by omega
  have hbm:((BI q).map bF).length=(BI q).length:=List.length_map ..
  clear h9 hSt hBl
  generalize hn1:VS (q+1)=S1 at*
  generalize hn2:VL (q+1)=L1 at*
  generalize hn3:VT (q+1)=T1 at*
  generalize hn4:VB (q+1)=B1 at*
  generalize hn5:BI (q+1)=I1 at*
  obtain⟨L1a,L1b,L1c,L1d⟩:=L1
  cases g with
  | true=>
    rw[if_pos rfl] at hB
    have e3:(BI q).map bF++ [aq ((ch.toNat:Int)% ((st.map bG).length:Int))]=I1.map bF:=by rw[hB,List.map_append];rfl
    have e4:I1.length=(BI q).length+1:=by rw[hB];simp
    repeat' (first
  |refine gK ?_|refine aE ?_ ?_
  | ((first
   |((with_reducible show ay _ _ _ _ _);refine ay.mk q (.lit (.int .u8 (ch.toNat:Int))) rfl (I8 hch) ?_)
   |((with_reducible show dA _ _ _ _ _ _ _);refine dA.int (by kernel_rfl) (by kernel_rfl) (dH hwg) ?_)
   |((with_reducible show aW _ _ _ _ _);refine aW.rem hwg.1 hpo rfl rfl rfl rfl ?_)
   | ((with_reducible refine kQ 47 ?_);refine aj.val [] hS Eg ⟨
     ⟨rfl,rfl,rfl,rfl,rfl,rfl,rfl,rfl,rfl,rfl,rfl,rfl,rfl,rfl,trivial⟩
     ,rfl,rfl,trivial⟩ rfl rfl rfl ?_)
   |((with_reducible show dI _ _ _ _ _ _ _ _ _ _);refine dI.mk ((BI q).map bF) [aq ((ch.toNat:Int)% ((st.map bG).length:Int))] ⟨rfl,hbm.symm,rfl⟩ ⟨rfl,rfl,rfl⟩ rfl (by simp;omega) (by simp;omega) ?_)
   |((with_reducible show bI _ _ _ _);refine dK ?_))<;>with_reducible refine wK ?_)
  | apply trivial)
    refine aL.mk (q+1) (by omega) (by omega) ?_
    rw[hn1,hn2,hn3,hn4,hn5,e4,e3]
    (refine fK ?_;(with_reducible repeat' (first|exact trivial|(show _∧_;refine aK ?_ ?_)));(all_goals try rfl))
    all_goals first
     |rfl
     |exact⟨.refl (aQ _),aQ _⟩
     |(rw[List.length_map,e4];done)
     |(simp;done)
  | false=>
    rw[if_neg (by simp)] at hB
    repeat' (first
  |refine gK ?_|refine aE ?_ ?_
  | ((first
   |((with_reducible show ay _ _ _ _ _);refine ay.mk q (.lit (.int .u8 (ch.toNat:Int))) rfl (I8 hch) ?_)
   |((with_reducible show dA _ _ _ _ _ _ _);refine dA.int (by kernel_rfl) (by kernel_rfl) (dH hwg) ?_)
   |((with_reducible show aW _ _ _ _ _);refine aW.rem hwg.1 hpo rfl rfl rfl rfl ?_)
   | ((with_reducible refine kQ 47 ?_);refine aj.val [] hS Eg ⟨
     ⟨rfl,rfl,rfl,rfl,rfl,rfl,rfl,rfl,rfl,rfl,rfl,rfl,rfl,rfl,trivial⟩
     ,rfl,rfl,trivial⟩ rfl rfl rfl ?_)
   |((with_reducible show bI _ _ _ _);refine dK ?_))<;>with_reducible refine wK ?_)
  | apply trivial)
    refine aL.mk (q+1) (by omega) (by omega) ?_
    rw[hn1,hn2,hn3,hn4,hn5,hB]
    (refine fK ?_;(with_reducible repeat' (first|exact trivial|(show _∧_;refine aK ?_ ?_)));(all_goals try rfl))
    all_goals first
     |rfl
     |exact⟨.refl (aQ _),aQ _⟩
     |(simp;done)
 ·have hqe:q=us.length:=by simp only[decide_eq_false_iff_not] at h9;omega
  subst hqe
  clear h9 hSt
  repeat' (first
  |refine gK ?_|refine aE ?_ ?_
  |apply trivial)
  refine aU.use G aa (fun(k:Nat)=>[(3,.ptr 30 0 0),(8,aq y3),(9,.own 91 0 (BI us.length).length),(10,.ptr 100 0 0),(14,aq (IX k))])
   (fun k=>[(30,mW ⟨⟨l,m⟩,st,⟨d1,d2,d3,d4⟩,⟨a,b,c,d⟩,ta,bu,cs⟩),(91,gX (BI us.length)),(100,mW ⟨⟨l,m⟩,US k,⟨d1,d2,d3,d4⟩,UL k,UT k,UB k,cs⟩)])
   (fun k=>k≤bs.length) (fun k=>bs.length-k) 0 (Nat.zero_le _) ?_ ?_
  ·rw[hU0.1,hU0.2.1,hU0.2.2.1,hU0.2.2.2,hI0]
   (refine fK ?_;(with_reducible repeat' (first|exact trivial|(show _∧_;refine aK ?_ ?_)));(all_goals try rfl))
   all_goals first
    |rfl
    |exact⟨.refl (aQ _),aQ _⟩
  intro k hk
  with_reducible refine wK ?_
  refine bq.mk (fun h9=>?_) (fun h9=>?_)<;>(try simp only[aF] at h9)<;>with_reducible refine wK ?_
  ·have hk':k<bs.length:=by simp only[decide_eq_true_eq,ge_iff_le] at h9;rw[hIk] at h9;omega
   obtain⟨z,B2,hz,hSu,hFi⟩:=hRd k hk'
   have hIs':=hIs k
   have hzc:=hcs _ _ hz
   have hix:IX k=((bs.length-1-k:Nat):Int):=by rw[hIk];omega
   have hlt:bs.length-1-k< (BI us.length).length:=by omega
   have hix2:IX k≤20∧0≤IX k:=by have:=hBl us.length (Nat.le_refl _);omega
   clear h9 hRd hBl hSe hCo hRv
   generalize hn1:US (k+1)=S1 at*
   generalize hn2:UL (k+1)=L1 at*
   generalize hn3:UT (k+1)=T1 at*
   generalize hn4:UB (k+1)=B1 at*
   obtain⟨L1a,L1b,L1c,L1d⟩:=L1
   repeat' (first
  |refine gK ?_|refine aE ?_ ?_
  | ((first
   |((with_reducible show nZ _ _ _ _ _);refine nZ.mk (bs.length-1-k) hix hlt ?_)
   |((with_reducible show cB _ _ _ _ _);refine cB.mk (aq z) (by first|exact fZ hzc|(rw[Nat.zero_add];exact fZ hzc)) ?_)
   | ((with_reducible refine kQ 50 ?_);refine aj.val [] hSu KS ⟨
     ⟨rfl,rfl,rfl,rfl,rfl,rfl,rfl,rfl,rfl,rfl,rfl,rfl,rfl,rfl,trivial⟩
     ,rfl,trivial⟩ rfl rfl rfl ?_)
   | ((with_reducible refine kQ 52 ?_);refine aj.val [] hFi Oz ⟨
     ⟨rfl,rfl,rfl,rfl,rfl,rfl,rfl,rfl,rfl,rfl,rfl,rfl,rfl,rfl,trivial⟩
     ,rfl,rfl,rfl,trivial⟩ rfl rfl rfl ?_)
   |((with_reducible show bI _ _ _ _);refine dK ?_))<;>with_reducible refine wK ?_)
  | apply trivial)
   refine aL.mk (k+1) (by omega) (by omega) ?_
   rw[hn1,hn2,hn3,hn4,hIs']
   (refine fK ?_;(with_reducible repeat' (first|exact trivial|(show _∧_;refine aK ?_ ?_)));(all_goals try rfl))
   all_goals first
    |rfl
    |exact⟨.refl (aQ _),aQ _⟩
    |(simp;done)
  ·have hke:k=bs.length:=by simp only[decide_eq_false_iff_not,ge_iff_le] at h9;rw[hIk] at h9;omega
   subst hke
   clear h9 hRd
   refine aU.use G aa (fun(q:Nat)=>[(3,.ptr 30 0 0),(9,.own 91 0 (BI us.length).length),(10,.ptr 100 0 0),(21,aq q)])
    (fun q=>[(30,mW ⟨⟨l,m⟩,st,⟨d1,d2,d3,d4⟩,⟨a,b,c,d⟩,ta,bu,cs⟩),(91,gX (BI us.length)),(100,mW ⟨⟨l,m⟩,US bs.length,⟨d1,d2,d3,d4⟩,UL bs.length,UT bs.length,UB bs.length,cs⟩)])
    (fun q=>q≤bs.length) (fun q=>bs.length-q) 0 (Nat.zero_le _) ?_ ?_
   ·(refine fK ?_;(with_reducible repeat' (first|exact trivial|(show _∧_;refine aK ?_ ?_)));(all_goals try rfl))
    all_goals first
     |rfl
     |exact⟨.refl (aQ _),aQ _⟩
   intro q hq
   with_reducible refine wK ?_
   refine bq.mk (fun h9=>?_) (fun h9=>?_)<;>(try simp only[aF] at h9)<;>with_reducible refine wK ?_
   ·have hq':q<bs.length:=by simp only[decide_eq_true_eq] at h9;omega
    obtain⟨z,hz⟩:∃z,bs[q]? =some z:=⟨_,List.getElem?_eq_getElem hq'⟩
    obtain⟨o1,o2,hs3⟩:=hSe q z hz
    have hco:=hCo q z hz
    have hzc:=hcs _ _ hz
    have hlt:q< (BI us.length).length:=by omega
    have hq20:=hBl us.length (Nat.le_refl _)
    clear h9 hSe hCo hBl hRv
    repeat' (first
  |refine gK ?_|refine aE ?_ ?_
  | ((first
   |((with_reducible show nZ _ _ _ _ _);refine nZ.mk q rfl hlt ?_)
   |((with_reducible show cB _ _ _ _ _);refine cB.mk (aq z) (by first|exact fZ hzc|(rw[Nat.zero_add];exact fZ hzc)) ?_)
   |((with_reducible show ay _ _ _ _ _);refine ay.mk z (aX ⟨3,j,o1,o2⟩) rfl (aM hs3) ?_)
   |((with_reducible refine kQ 53 ?_);refine aj.lit [91] hco R8 ⟨eG rfl rfl rfl rfl,rfl,trivial⟩ rfl rfl ?_)
   |((with_reducible show bI _ _ _ _);refine dK ?_))<;>with_reducible refine wK ?_)
  | apply trivial)
    refine aL.mk (q+1) (by omega) (by omega) ?_
    (refine fK ?_;(with_reducible repeat' (first|exact trivial|(show _∧_;refine aK ?_ ?_)));(all_goals try rfl))
    all_goals first
     |rfl
     |exact⟨.refl (aQ _),aQ _⟩
     |(simp;done)
   ·clear h9
    rw[hBu] at hRv ⊢
    repeat' (first
  |refine gK ?_|refine aE ?_ ?_
  | (((with_reducible refine kQ 19 ?_);refine aj.lit [] hRv gZ ⟨
     ⟨rfl,rfl,rfl,rfl,rfl,rfl,rfl,rfl,rfl,rfl,rfl,rfl,rfl,rfl,trivial⟩
     ,trivial⟩ rfl rfl ?_)<;>with_reducible refine wK ?_)
  | apply trivial)
    all_goals first|rfl|(simp;done)
end Go.Proofs.Heir
namespace Go.Proofs.Heir
open Go Go.Am Go.RowKit Go.Lib
set_option maxRecDepth 100000
set_option maxHeartbeats 8000000
theorem rU8:Reads Tryz.prog 5 1 (fun c:UInt8=>.lit (.int .u8 (c.toNat:Int))) (fun _=>True):=by
 have h:=Reads.int (P:=Tryz.prog) (t:=5) (k:=.u8) Tryz.underlying5 (by kernel_rfl)
 refine⟨h.1,fun _=>⟨rfl,by simp[cells,bj]⟩,fun hx=>?_⟩
 obtain⟨hl,a,hw,hr⟩:=h.2.2 hx
 have hk:0≤a∧a<256:=by
  simp[Lit.wf,IntKind.min,IntKind.max,IntKind.signed,IntKind.bits] at hw
  omega
 refine⟨hl,UInt8.ofNat a.toNat,trivial,?_⟩
 have e:((UInt8.ofNat a.toNat).toNat:Int)=a:=by simp;omega
 simp only[e]
 exact hr
theorem rU8o:Reads Tryz.prog 5 1 Pd (fun _=>True):=rU8.conv id id (fun _=>rfl) (fun _=>rfl) (fun _ h=>h)
theorem rU8s:Reads Tryz.prog 100 1 Pc (fun _=>True):=(Reads.slice Tryz.underlying100 (by kernel_rfl) rU8o (by omega)).conv id id (fun _=>rfl) (fun _=>rfl) (fun _ _=>trivial)
end Go.Proofs.Heir
