/- Models, plain laws and contracts of functions of the given program; conditions as stated in each theorem. By an AI agent. -/
import Derived.Test.YtkhjcnjicjgfiaaGreatDoorWD14
import Derived.Test.YtkhjcnjicjgfiaaGreatDoorWD13
import Derived.RangeFuncNested
import Derived.RangeFuncBound
import Derived.RangeFuncCalls
import Derived.Shelf.Abstract
import Derived.Shelf.RegionOpen
import Derived.WalkKit
import Derived.OwnWalkIn
import Derived.TacticsInMore
import Derived.LoopNIn
import Derived.LoopIn
import Derived.Laws.StructEq
import Derived.Tactics
set_option linter.unusedSimpArgs false
set_option linter.unusedVariables false
namespace Go.Proofs.Heir
open Go Go.Am Go.RowKit Go.Lib
set_option maxRecDepth 100000
set_option maxHeartbeats 8000000
theorem Dp (g:Nat)(cg:af Tryz.prog g)(caps:List AV)(hcaps:aV caps=true)(p:Int→Bool)(l:List Int)(hl:l.length≤100000)(hf:∀a,a∈l→an Tryz.prog g [] (ay a::caps) [] (aX (p a))):
  an Tryz.prog 125 [] [cN l,.clo (.func g) [] caps] [] (ay (dI p l)):=by
 have hlm:(l.map bu).length=l.length:=bM ..
 refine an.aF (rvs:=[.tmp 4]) G aq Tryz.func125 rfl Tryz.ntmps125 rfl rfl ?_;with_reducible refine wD ?_
 refine bD.use G aq (fun(k:Nat)=>[(0,cN l),(1,.clo (.func g) [] caps),(7,ay l.length),(8,ay k)]) (fun _=>[]) (fun k=>k≤l.length∧∀j x,j<k→l[j]? =some x→p x=false) (fun k=>l.length-k) 0 ⟨Nat.zero_le _,fun j x h=>by omega⟩
  ⟨⟨rfl,rfl⟩,⟨rfl,⟨rfl,trivial,aQ hcaps⟩,by show(l.length:Int)=((l.map bu).length:Int);rw[hlm],rfl,trivial⟩,trivial⟩ ?_
 rintro k ⟨hk,hno⟩
 with_reducible refine wK ?_
 refine aL.mk (fun h1=>?_) (fun h1=>?_)<;>(try simp only[ak] at h1)<;>with_reducible refine wK ?_
 ·simp only[bH] at h1
  have hk':k<l.length:=by omega
  obtain⟨a,ha⟩:∃a,l[k]? =some a:=⟨_,bh hk'⟩
  refine bn.mk k (ay a) rfl (iy ha) ?_;with_reducible refine wK ?_
  refine ah.lit [] (hf a (bN ha)) cg ⟨rfl,aQ hcaps⟩ rfl rfl ?_;with_reducible refine wK ?_
  refine aL.mk (fun h2=>?_) (fun h2=>?_)<;>(try simp only[ak] at h2)<;>with_reducible refine wK ?_
  ·(refine eK ?_ ?_<;>with_reducible repeat' (first|exact trivial|(show _∧_;refine aK ?_ ?_)))
   exact kS ha h2 hno
  ·refine nK ?_;with_reducible refine wK ?_
   refine aT.mk (k+1) ⟨by omega,fun j x hj hx=>?_⟩ (by omega) ⟨⟨rfl,rfl⟩,⟨rfl,⟨rfl,trivial,aQ hcaps⟩,rfl,by show((k+1:Nat):Int)=(k:Int)+1;omega,trivial⟩,trivial⟩
   rcases Nat.lt_or_ge j k with h6|h6
   ·exact hno j x h6 hx
   ·have:j=k:=by omega
    subst this
    rw[ha] at hx;cases hx;exact h2
 ·(refine eK ?_ ?_<;>with_reducible repeat' (first|exact trivial|(show _∧_;refine aK ?_ ?_)))
  have:k=l.length:=by simp only[dG] at h1;omega
  exact jm fun j x hx=>hno j x (by have:=(br hx).1;omega) hx
theorem IM (f:ForM)(c:Int)(hc:aa f.nodes c=true):an Tryz.prog 126 [] [ay c,.fptr (bF f) 0] [] (aX (q7 f.nodes c)):=by
 obtain⟨k,x,rfl,hx,hnd⟩:=bp.1 hc
 obtain⟨l,m⟩:=f
 unfold q7
 simp only at hx hnd ⊢
 rw[hnd]
 obtain⟨a1,a2,a3,a4,a5,a6,a7,a8,a9,a10⟩:=x
 refine an.aF (rvs:=[.tmp 3]) G aq Tryz.func126 rfl Tryz.ntmps126 rfl rfl ?_;with_reducible refine wD ?_
 refine bn.mk k (aR _) rfl (aI hx) ?_;with_reducible refine wK ?_
 by_cases e1:a1=1
 ·(have fct:=e1;(repeat' (first
  |refine gF ?_|refine aE ?_ ?_
  |((refine bn.mk k (aR _) rfl (aI hx) ?_)<;>with_reducible refine wK ?_)
  |apply trivial));all_goals clear fct)
  all_goals simp[e1]
 ·(have fct:=(eq_false e1);(repeat' (first
  |refine gF ?_|refine aE ?_ ?_
  |apply trivial));all_goals clear fct)
  all_goals simp[e1]
theorem KY (f:ForM)(hs:bO f.nodes)(k:Nat)(x:ai)(hx:f.nodes[k]? =some x)(hkids:∀c∈x.kids,aa f.nodes c=true):an Tryz.prog 62 [] [bF f,ay k] [] (ay (ux f.nodes k)):=by
 have h7:=hs.kids x (bN hx)
 have h35:=fun c hc=>IM f c (hkids c hc)
 obtain⟨l,m⟩:=f
 unfold ux Hj
 simp only at hx h7 hkids h35 ⊢
 rw[fZ hx]
 obtain⟨a1,a2,a3,a4,a5,a6,a7,a8,a9,a10⟩:=x
 simp only at h7 hkids h35 ⊢
 refine an.aF (rvs:=[.tmp 4]) G aq Tryz.func62 rfl Tryz.ntmps62 rfl rfl ?_;with_reducible refine wD ?_
 refine bn.mk k (aR _) rfl (aI hx) ?_;with_reducible refine wK ?_
 refine ah.lit [20] (Dp 126 Om [.fptr (bF ⟨l,m⟩) 0] rfl (q7 l) a7 (by omega) h35) AL ⟨rfl,⟨rfl,trivial,⟨_,_,_,_,_,rfl,rfl,rfl,rfl,rfl,⟨rfl,rfl,trivial⟩⟩,trivial⟩,trivial⟩ rfl rfl ?_;with_reducible refine wK ?_
 rcases um (q7 l) a7 with h|⟨i,c,h,hi,_⟩
 ·rw[h]
  (have fct:=h;(repeat' (first
  |refine gF ?_|refine aE ?_ ?_
  |apply trivial));all_goals clear fct)
  all_goals simp
 ·rw[h]
  (have fct:=h;(repeat' (first
  |refine gF ?_|refine aE ?_ ?_
  |((refine bn.mk i (ay c) rfl (iy hi) ?_)<;>with_reducible refine wK ?_)
  |apply trivial));all_goals clear fct)
  all_goals simp[hi]
theorem HW (x:ai)(hx:x.attrs.length≤100000):an Tryz.prog 130 [] [aR x] [] (aX (kJ x)):=by
 have h14:=BG x.attrs hx NK
 unfold kJ
 obtain⟨a1,a2,a3,a4,a5,a6,a7,a8,a9,a10⟩:=x
 simp only at h14 hx ⊢
 refine an.aF (rvs:=[.tmp 2]) G aq Tryz.func130 rfl Tryz.ntmps130 rfl rfl ?_;with_reducible refine wD ?_
 refine cL h14 M1 ?_;with_reducible refine wK ?_
 by_cases e1:a1=1
 ·(have fct:=e1;(repeat' (first
  |refine gF ?_|refine aE ?_ ?_
  |apply trivial));all_goals clear fct)
  all_goals simp[e1]
 ·(have fct:=(eq_false e1);(repeat' (first
  |refine gF ?_|refine aE ?_ ?_
  |apply trivial));all_goals clear fct)
  all_goals simp[e1]
theorem HP (f:ForM)(n:Int):an Tryz.prog 128 [] [ay n,.fptr (bF f) 0] [] (aX (!aa f.nodes n)):=by
 have h49:=so f n
 obtain⟨l,m⟩:=f
 simp only at h49 ⊢
 refine an.aF (rvs:=[.tmp 3]) G aq Tryz.func128 rfl Tryz.ntmps128 rfl rfl ?_;with_reducible refine wD ?_
 refine cL h49 uN ?_;with_reducible refine wK ?_
 (refine eK ?_ ?_<;>with_reducible repeat' (first|exact trivial|(show _∧_;refine aK ?_ ?_)))
 all_goals rfl
theorem Dm (g:Nat)(cg:af Tryz.prog g)(caps:List AV)(hcaps:aV caps=true)(p:Int→Bool)(l:List Int)(hl:l.length≤100000)(hf:∀a,a∈l→an Tryz.prog g [] (ay a::caps) [] (aX (p a))):
  an Tryz.prog 127 [] [cN l,.clo (.func g) [] caps] [] (aX (decide (0≤dI p l))):=by
 have h34:=Dp g cg caps hcaps p l hl hf
 refine an.aF (rvs:=[.tmp 4]) G aq Tryz.func127 rfl Tryz.ntmps127 rfl rfl ?_;with_reducible refine wD ?_
 refine ah.lit [] h34 AL ⟨rfl,⟨rfl,trivial,aQ hcaps⟩,trivial⟩ rfl rfl ?_;with_reducible refine wK ?_
 (refine eK ?_ ?_<;>with_reducible repeat' (first|exact trivial|(show _∧_;refine aK ?_ ?_)))
 all_goals rfl
theorem xI (f:ForM)(hs:bO f.nodes)(l:List Int)(hl:l.length≤100000):an Tryz.prog 63 [] [bF f,cN l] [] (aX (aU f&& !decide (0≤dI (fun n=> !aa f.nodes n) l))):=by
 have h23:=Ga f hs
 have h47:=Dm 128 O6 [.fptr (bF f) 0] rfl (fun n=> !aa f.nodes n) l hl (fun a _=>HP f a)
 obtain⟨ns,m⟩:=f
 simp only at h23 h47 ⊢
 refine an.aF (rvs:=[.tmp 4]) G aq Tryz.func63 rfl Tryz.ntmps63 rfl rfl ?_;with_reducible refine wD ?_
 refine cL h23 NY ?_;with_reducible refine wK ?_
 cases hr:aU ⟨ns,m⟩ with
 | false=>
   (have fct:=hr;(repeat' (first
  |refine gF ?_|refine aE ?_ ?_
  | apply trivial));all_goals clear fct)
   all_goals rfl
 | true=>
   refine aL.tt ?_;with_reducible refine wK ?_
   refine ah.lit [50] h47 LI ⟨rfl,⟨rfl,trivial,⟨_,_,_,_,_,rfl,rfl,rfl,rfl,rfl,⟨rfl,rfl,trivial⟩⟩,trivial⟩,trivial⟩ rfl rfl ?_;with_reducible refine wK ?_
   (refine eK ?_ ?_<;>with_reducible repeat' (first|exact trivial|(show _∧_;refine aK ?_ ?_)))
   all_goals rfl
end Go.Proofs.Heir
namespace Go.Proofs.Heir
open Go Go.Am Go.RowKit Go.Shelf
set_option maxRecDepth 100000
set_option maxHeartbeats 8000000
theorem G2 {Wn:Nat→Prop}{μ:Mu}{W:World}{l:List Int}{b o:Nat}(h:cm Wn μ W (.fptr (.sl 1 (l.map bu)) 0) (.pointer (some ⟨b,o,none⟩))):
  ∃ad cap,W.cell? ⟨b,o,none⟩=some (.slice ad l.length cap)∧l.length≤cap∧∀ (j:Nat) (x:Int),l[j]? =some x→∃b2 o2,ad=some ⟨b2,o2,none⟩∧W.cell? ⟨b2,o2+j,none⟩=some (.int .i64 x):=by
 generalize hv:Value.pointer (some ⟨b,o,none⟩)=v at h
 cases h with
 | @fptr _ _ b' o' f h1 h2 h3 h4 h5=>
   cases hv
   have k3:=h3 0 _ rfl
   have k4:=h4 0 _ rfl
   rw[Nat.add_zero] at k3
   rw[Nat.add_zero,k3]
   generalize f 0=s at k4
   cases hl:l with
   | nil=>
     subst hl
     cases k4 with
     |slNil=>exact⟨_,_,rfl,Nat.zero_le _,fun j x h=>by simp at h⟩
     |sl a1 a2 a3 a4 a5 a6 a7 a8=>subst a3;exact⟨_,_,rfl,Nat.zero_le _,fun j x h=>by simp at h⟩
   | cons y r=>
     rw[←hl]
     generalize hrows:l.map bu=rows at k4
     have hne:rows≠ []:=by rw[←hrows,hl];simp
     cases k4 with
     |slNil=>exact absurd rfl hne
     | sl a1 a2 a3 a4 a5 a6 a7 a8=>
       subst a3
       have hlen:rows.length=l.length:=by rw[←hrows];simp
       refine⟨_,_,by rw[hlen],by rw[←hlen];exact a4,fun j x hx=>⟨_,_,rfl,?_⟩⟩
       have hr:rows[j]? =some (bu x):=by rw[←hrows,dM,hx];rfl
       have hq:=dn (wd:=1) (fun i r hr=>a5 i r hr) hr (show(cells (bu x))[0]? =some (bu x) from rfl)
       rw[Nat.mul_one,Nat.add_zero] at hq
       have c1:=a6 j _ hq
       have c2:=a7 j _ hq
       have one:∀v,cm Wn μ W (bu x) v→v=.int .i64 x:=by intro v hv;unfold bu at hv;cases hv;rfl
       rw[c1,one _ c2]
theorem Cf (l:List Int)(hl:l.length≤100000):Jb Tryz.prog 193 [.fptr (.sl 1 (l.map bu)) 0] l.length (fun k=>[bu ((l.length:Int)-1-k),bu ((l.reverse[k]?).getD 0)]):=by
 intro vals y J Jx hJ hJm hJxm _ hY Wn w h0
 obtain⟨⟨μ,hr⟩,_⟩:=hJ 0 Wn w h0
 obtain⟨vb,us,rfl,hvb,hus⟩:=bY.oZ hr
 obtain rfl:=bY.Cy hus
 obtain⟨b,o,rfl⟩:∃b o,vb=.pointer (some ⟨b,o,none⟩):=by cases hvb;exact⟨_,_,rfl⟩
 have box:∀k Wn W,J k Wn W→∃ad cap,W.cell? ⟨b,o,none⟩=some (.slice ad l.length cap)∧l.length≤cap∧∀ (j:Nat) (x:Int),l[j]? =some x→∃b2 o2,ad=some ⟨b2,o2,none⟩∧W.cell? ⟨b2,o2+j,none⟩=some (.int .i64 x):=by
  intro k Wn W hJk
  obtain⟨⟨μ,hr⟩,_⟩:=hJ k Wn W hJk
  obtain⟨v1,us,e,hv1,_⟩:=bY.oZ hr
  cases e
  exact G2 hv1
 refine(callsIn_wide (n:=1)).1 ?_
 refine callsIn_of_wp Tryz.func193 rfl trivial ?_ rfl
 simp only[Tryz.ntmps193,List.size_toArray,List.length_cons,List.length_nil,Nat.reduceAdd,Nat.reduceSub,Array.replicate_succ,Array.replicate_zero,List.push_toArray,List.append_toArray,List.nil_append,List.cons_append]
 obtain⟨ad,cap,hbx,hcap,hel⟩:=box 0 Wn w h0
 gi_wp2
 gi_loopw [3] (fun i wr=> ∃k:Nat,k≤l.length∧i=.int .i64 ((l.length:Int)-1-k)∧∃Wn,J k Wn wr) (fun i _=>(intOf i+1).toNat)
 case atStart=>exact⟨0,Nat.zero_le _,by simp,Wn,h0⟩
 case round=>
  obtain⟨k,hk,rfl,Wn',hJk⟩:=hrel
  obtain⟨ad',cap',hbx',hcap',hel'⟩:=box k Wn' wr hJk
  by_cases hlt:k<l.length
  ·have hix:l.length-1-k<l.length:=by omega
   obtain⟨b2,o2,rfl,hcx⟩:=hel' (l.length-1-k) l[l.length-1-k] (bh hix)
   have hrev:(l.reverse[k]?).getD 0=l[l.length-1-k]:=by
    rw[bh (by simpa using hlt)];simp
   obtain⟨fn,tmps,assign,body,hy,hR⟩:=hY k Wn' wr [.int .i64 ((l.length:Int)-1-k),.int .i64 (l[l.length-1-k])] hlt hJk (fun _ _ _=>by rw[hrev];exact .cons .lit (.cons .lit .nil))
   have hz:((l.length:Int)-1-k).toNat=l.length-1-k:=by omega
   gi_wp2
   refine hR.mono ?_
   rintro e W3 (⟨rfl,Wn3,hJ3,_⟩|⟨rfl,hJx3⟩)
   ·gi_wp2
    go_roundw
    case rel=>exact⟨k+1,by omega,by congr 1;omega,Wn3,hJ3⟩
    case measure=>simp[intOf];omega
   ·gi_wp2
    refine bodyPost_ret (results_none rfl _ _ _) rfl ?_
    exact⟨⟨_,rfl⟩,.inr hJx3⟩
  ·obtain rfl:k=l.length:=by omega
   gi_wp2
   go_end0
   exact⟨⟨_,rfl⟩,.inl ⟨_,hJk⟩⟩
end Go.Proofs.Heir
namespace Go.Proofs.Heir
open Go Go.Am Go.RowKit Go.Lib
set_option maxRecDepth 100000
set_option maxHeartbeats 8000000
theorem J5 (f:ForM)(n:Int):an Tryz.prog 192 [] [ay n,.fptr (bF f) 0] [] (aX (!aa f.nodes n)):=by
 obtain⟨l,m⟩:=f
 have hlm:(l.map cj).length=l.length:=bM ..
 refine an.aF (rvs:=[.tmp 3]) G aq Tryz.func192 rfl Tryz.ntmps192 rfl rfl ?_;with_reducible refine wD ?_
 repeat' (first
  |refine pK ?_|refine aE ?_ ?_
  | ((first
   |((with_reducible show aL _ _ _ _);(refine aL.mk (fun hp=>?_) (fun hp=>?_)<;>(try simp only[ak,bH,dG,Bool.not_eq_true',Bool.not_eq_false',Decidable.not_not,Int.not_lt,Int.not_le] at hp))))<;>with_reducible refine wK ?_)
  |apply trivial)
 ·unfold aa;rw[dQ (show ¬0≤n by omega)];rfl
 ·unfold aa;rw[dB hp,hlm,Bool.true_and,←decide_not]
  exact decide_eq_decide.2 Int.not_lt
theorem De (f:ForM)(hs:bO f.nodes)(l:List Int)(hl:l.length≤100000):an Tryz.prog 147 [] [bF f,cN l] [] (aX (aU f&& !decide (0≤dI (fun n=> !aa f.nodes n) l))):=by
 have h48:=ng f hs
 have h106:=Dm 192 OY [.fptr (bF f) 0] rfl (fun n=> !aa f.nodes n) l hl (fun a _=>J5 f a)
 obtain⟨ns,m⟩:=f
 simp only at h48 h106 ⊢
 refine an.aF (rvs:=[.tmp 4]) G aq Tryz.func147 rfl Tryz.ntmps147 rfl rfl ?_;with_reducible refine wD ?_
 refine cL h48 yg ?_;with_reducible refine wK ?_
 cases h0:aU ⟨ns,m⟩ with
 | false=>
   repeat' (first
  |refine gK ?_|refine aE ?_ ?_
  | apply trivial)
   all_goals rfl
 | true=>
   repeat' (first
  |refine gK ?_|refine aE ?_ ?_
  | apply trivial)
   refine ah.lit [20] h106 LI ⟨rfl,⟨rfl,trivial,⟨_,_,_,_,_,rfl,rfl,rfl,rfl,rfl,⟨rfl,rfl,trivial⟩⟩,trivial⟩,trivial⟩ rfl rfl ?_;with_reducible refine wK ?_
   repeat' (first
  |refine gK ?_|refine aE ?_ ?_
  | apply trivial)
   all_goals rfl
theorem Cd (l:List Int):an Tryz.prog 148 [] [cN l] [] (.clo (.func 193) [] [.fptr (cN l) 0]):=by
 refine an.aF (rvs:=[.tmp 2]) G aq Tryz.func148 rfl Tryz.ntmps148 rfl rfl ?_;with_reducible refine wD ?_
 refine⟨⟨rfl,rfl⟩,⟨rfl,trivial,⟨_,_,_,_,_,rfl,rfl,rfl,rfl,rfl,rfl⟩,trivial⟩,?_⟩
 exact trivial
def pT (f:ForM)(n:Int):List Int:=if(aU f&&aa f.nodes n)=true then U.cD f.nodes f.nodes.length n else[]
end Go.Proofs.Heir
namespace Go.Proofs.Heir
open Go Go.Am Go.RowKit Go.Shelf
set_option maxRecDepth 100000
set_option maxHeartbeats 8000000

theorem an.at {P:Program}{f:FuncId}{args:List AV}{vs:List Value}{res:AV}{w:World}{Wn:Nat→Prop}{μ:Mu}(h:an P f [] args [] res)(ha:aV args=true)(hr:bj res=true)(hv:bY Wn μ w args vs)(hlt:∀b,Wn b→b<w.heap.size)(ht:jc P w fun _=>none):
  Calls P f vs.toArray w fun e w'=> ∃v μ',e=.returned v∧kf w w'∧cm Wn μ' w' res v:=by
 have hW:∀b,Wr Wn (fun _=>none) (aD []) b→Wn b:=by
  rintro b (h|⟨t,B,wd,rows,_,h,_⟩)
  ·exact h
  ·cases h
 have hs:bV P 0 w Wn (fun _=>none) (fun _=>none) (bare []) gl w:=by
  refine⟨rfl,.nil,rfl,rfl,rfl,Nat.le_refl _,fun _ _ _ h=>h,fun _ _ _=>rfl,hlt,fun _ _ _ h=>h,fun t=>by simp[bare,aD],fun _=>.any,fun t wd rows ro h=>?_,fun t t' wd rows wd' rows' ro' B B' _ h=>?_,fun t wd rows ro B h=>?_,ht⟩<;>simp[bare,aD] at h
 refine(h w Wn (fun _=>none) vs (fun _ _=>rfl) hs ?_).mono ?_
 ·exact⟨hv.1,fun j c v hc hv'=>(hv.2 j c v hc hv').bj (fun b _ hb=>hW b hb) (cr.1 ha c (bN hc))⟩
 rintro e w' ⟨v,μ',rfl,hs',hv'⟩
 refine⟨v,μ',rfl,⟨hs'.os,hs'.tape,hs'.output,hs'.hsize,fun b hb=>hs'.keep b hb ?_⟩,hv'.bj (fun b _ hb=>.inl hb) hr⟩
 rintro⟨t,B,h,_⟩
 cases h
theorem LP {Wn:Nat→Prop}{μ:Mu}{W:World}{wd:Nat}{rows:List AV}{v:Value}(h:cm Wn μ W (.sl wd rows) v):∃a n c,v=.slice a n c:=by
 cases h<;>exact⟨_,_,_,rfl⟩
end Go.Proofs.Heir
namespace Go.Proofs.Heir
open Go Go.Am Go.RowKit Go.Lib
set_option maxRecDepth 100000
set_option maxHeartbeats 8000000
set_option maxHeartbeats 8000000

end Go.Proofs.Heir
namespace Go.Proofs.Heir
open Go Go.Am Go.RowKit Go.Lib
set_option maxRecDepth 100000
set_option maxHeartbeats 8000000
structure cF where
 name:ByteArray
 locl:ByteArray
 cls:Int
 deriving DecidableEq
structure mH where
 name:ByteArray
 ticket:Int
 deriving DecidableEq
structure bw where
 defs:List cF
 waits:List mH
 next:Int
 busy:Bool
 deriving DecidableEq
def vM (s:ByteArray):Bool:=An ny s
def Ca (x:cF):Bool:=decide (x.locl=x.name)||vM x.locl
def hO (x:cF):Bool:=eL x.name&&Ca x&&decide (0≤x.cls)&&decide (x.cls<12)
def Mz (s:ByteArray)(x:cF):Bool:=decide (x.name=s)
def NR {α:Type}(p:α→Bool)(l:List α):Int:=match l.findIdx? p with
 |some k=>(k:Int)
 |none=> -1
def Bb (l:List cF)(s:ByteArray):Int:=NR (Mz s) l
def okW (l:List cF)(next:Int)(w:mH)(last:Int):Bool:=eL w.name&&decide (Bb l w.name=-1)&&decide (last<w.ticket)&&decide (w.ticket<next)
def oG (l:List cF)(next:Int):Int→List mH→Bool
 |_,[]=>true
 |last,w::r=>okW l next w last&&oG l next w.ticket r
def iL (l:List cF):Bool:=l.all hO&&decide ((l.map cF.name).Nodup)&&decide ((l.map cF.cls).Nodup)
def ig (d:bw):Bool:=iL d.defs&&oG d.defs d.next (-1) d.waits&&decide (0≤d.next)&&decide (d.next≤100000)
theorem EN {α:Type}(p:α→Bool)(l:List α):(NR p l=-1∧∀a∈l,p a=false)∨∃ (k:Nat) (a:α),NR p l=k∧l[k]? =some a∧p a=true∧∀ (j:Nat) (b:α),j<k→l[j]? =some b→p b=false:=by
 unfold NR
 cases h:l.findIdx? p with
 |none=>exact .inl ⟨rfl,by simpa using h⟩
 | some k=>
   rw[List.findIdx?_eq_some_iff_getElem] at h
   obtain⟨hk,h1,h2⟩:=h
   refine .inr ⟨k,l[k],rfl,bh hk,h1,fun j b hj hb=>?_⟩
   obtain⟨hjl,rfl⟩:=br hb
   simpa using h2 j hj
theorem wQ {l:List cF}:iL l=true↔ (∀x∈l,hO x=true)∧(l.map cF.name).Nodup∧(l.map cF.cls).Nodup:=by
 unfold iL;simp[List.all_eq_true,and_assoc]
theorem yZ {x:cF}(h:hO x=true):eL x.name=true∧(x.locl=x.name∨vM x.locl=true)∧0≤x.cls∧x.cls<12:=by
 unfold hO Ca at h;simp only[bJ,Bool.or_eq_true,bH] at h
 exact⟨h.1.1.1,h.1.1.2,h.1.2,h.2⟩
def xk (k:Nat):ByteArray:=⟨#[120,45,UInt8.ofNat (97+k)]⟩
structure CA (d:bw) (i:Nat):Prop where
 right:ig d=true
 busy:d.busy=false
 names:∀w∈d.waits,∃k<6,w.name=xk k
 next:d.next≤i
theorem CA.first:CA ⟨[],[],0,false⟩ 0:=⟨by decide,rfl,fun w h=>by simp at h,by decide⟩
section
variable {K : Type} [DecidableEq K] (key : cF → K)
def fe (i:Nat)(t:List (K×Int)):List cF→List (K×Int)
 |[]=>t
 |x::r=>fe (i+1) (dP (key x) (i:Int) t) r
def o4 (l:List cF):List (K×Int):=fe key 0 [] l
theorem rj (x:cF):∀ (l:List cF) (i:Nat) (t:List (K×Int)),fe key i t (l++ [x])=dP (key x) ((i+l.length:Nat):Int) (fe key i t l)
 |[],i,t=>rfl
 | y::r,i,t=>by
   rw[List.cons_append,fe,rj x r,fe,List.length_cons]
   congr 2
   omega
theorem yU {l:List cF}{k:Nat}{x:cF}(h:l[k]? =some x):o4 key (l.take (k+1))=dP (key x) (k:Int) (o4 key (l.take k)):=by
 have hk:=(br h).1
 rw[List.take_succ_eq_append_getElem hk,(br h).2]
 unfold o4
 rw[rj,gI]
 congr 2
 omega
theorem wg (k:K)(x:Int):∀t:List (K×Int),(dP k x t).length=if(cM k t).isSome then t.length else t.length+1
 |[]=>rfl
 | p::r=>by
   simp only[dP,cM]
   split
   ·simp
   ·rw[List.length_cons,wg k x r];split<;>simp
theorem oB:∀ (l:List cF) (i:Nat) (t:List (K×Int)),(fe key i t l).length≤t.length+l.length∧((fe key i t l).length=t.length+l.length↔ (l.map key).Nodup∧∀a∈l,(cM (key a) t).isSome=false)
 |[],i,t=>by simp[fe]
 | a :: r,i,t=>by
   obtain⟨h1,h2⟩:=oB r (i+1) (dP (key a) (i:Int) t)
   have hl:=wg (key a) (i:Int) t
   show(fe key (i+1) (dP (key a) (i:Int) t) r).length≤_∧((fe key (i+1) (dP (key a) (i:Int) t) r).length=_↔_)
   cases hg:(cM (key a) t).isSome with
   | true=>
     rw[hg,if_pos rfl] at hl
     refine⟨by simp only[List.length_cons];omega,⟨fun h=>?_,fun h=>?_⟩⟩
     ·simp only[List.length_cons] at h;omega
     ·have:=h.2 a (by simp);rw[hg] at this;cases this
   | false=>
     rw[hg,if_neg (by simp)] at hl
     refine⟨by simp only[List.length_cons];omega,?_⟩
     rw[show(fe key (i+1) (dP (key a) (i:Int) t) r).length=t.length+ (a::r).length↔ (fe key (i+1) (dP (key a) (i:Int) t) r).length=(dP (key a) (i:Int) t).length+r.length from by rw[hl,List.length_cons];omega,h2]
     simp only[List.map_cons,List.nodup_cons,dZ,forall_eq_or_imp]
     constructor
     ·rintro⟨k1,k2⟩
      refine⟨⟨fun hm=>?_,k1⟩,hg,fun b hb=>?_⟩
      ·obtain⟨b,hb,he⟩:=List.mem_map.1 hm
       have:=k2 b hb
       rw[eE,he,if_pos rfl] at this;cases this
      ·have:=k2 b hb
       rw[eE] at this
       split at this
       ·cases this
       ·exact this
     ·rintro⟨⟨k1,k2⟩,_,k3⟩
      refine⟨k2,fun b hb=>?_⟩
      rw[eE,if_neg (fun e=>k1 (List.mem_map.2 ⟨b,hb,e.symm⟩))]
      exact k3 b hb
theorem CX (l:List cF):(o4 key l).length=l.length↔ (l.map key).Nodup:=by
 have:=(oB key l 0 []).2
 simp only[List.length_nil,Nat.zero_add] at this
 exact this.trans ⟨fun h=>h.1,fun h=>⟨h,fun _ _=>rfl⟩⟩
theorem Gd (l:List cF):(o4 key l).length≤l.length:=by
 have:=(oB key l 0 []).1
 simp only[List.length_nil,Nat.zero_add] at this
 exact this
theorem my {s:K}:∀ (l:List cF) (i:Nat) (t:List (K×Int)),(∀a∈l,key a≠s)→cM s (fe key i t l)=cM s t
 |[],i,t,_=>rfl
 | a::r,i,t,h=>by
   rw[fe,my r (i+1) _ fun b hb=>h b (gy _ hb),eE,if_neg (h a (jC ..))]
theorem tg {s:K}:∀ (l:List cF) (i:Nat) (t:List (K×Int)) (j:Nat) (a:cF),(l.map key).Nodup→l[j]? =some a→key a=s→cM s (fe key i t l)=some ((i+j:Nat):Int)
 |[],i,t,j,a,_,h,_=>by simp at h
 | x::r,i,t,0,a,hn,h,he=>by
   simp at h;subst h
   simp only[List.map_cons,List.nodup_cons] at hn
   rw[fe,my key r (i+1) _ fun b hb e=>hn.1 (List.mem_map.2 ⟨b,hb,e.trans he.symm⟩),eE,if_pos he]
   rfl
 | x::r,i,t,j+1,a,hn,h,he=>by
   simp only[List.map_cons,List.nodup_cons] at hn
   rw[fe,tg r (i+1) _ j a hn.2 (by simpa using h) he]
   congr 1;omega
theorem F6 {l:List cF}{s:K}(h:∀a∈l,key a≠s):cM s (o4 key l)=none:=my key l 0 [] h
theorem IG {l:List cF}{s:K}{j:Nat}{a:cF}(hn:(l.map key).Nodup)(h:l[j]? =some a)(he:key a=s):cM s (o4 key l)=some (j:Int):=by
 have:=tg key l 0 [] j a hn h he
 simpa[o4] using this
end
def kN (x:cF):ByteArray:=x.name
def kC (x:cF):Int:=x.cls
theorem MC {l:List cF}(h:(l.map cF.name).Nodup)(s:ByteArray):(cM s (o4 kN l)=none∧Bb l s=-1)∨∃ (k:Nat) (x:cF),cM s (o4 kN l)=some (k:Int)∧Bb l s=k∧l[k]? =some x∧x.name=s:=by
 rcases EN (Mz s) l with⟨h1,h2⟩|⟨k,x,h1,h2,h3,_⟩
 ·exact .inl ⟨F6 kN fun a ha=>of_decide_eq_false (h2 a ha),h1⟩
 ·have he:x.name=s:=of_decide_eq_true h3
  exact .inr ⟨k,x,IG kN h h2 he,h1,h2,he⟩
def jU (l:List cF):List cF:=l.take ((l.takeWhile hO).length+1)
theorem EJ {l:List cF}(h:∀x∈l,hO x=true):l.takeWhile hO=l:=by
 induction l with
 |nil=>rfl
 |cons x r ih=>rw[List.takeWhile_cons_of_pos (h x (jC ..)),ih fun y hy=>h y (gy _ hy)]
theorem u6 {l:List cF}(h:∀x∈l,hO x=true):jU l=l:=by
 unfold jU
 rw[EJ h,nU (by omega)]
theorem Ex {l:List cF}{k:Nat}{x:cF}(h:∀ (j:Nat) (y:cF),j<k→l[j]? =some y→hO y=true)(hx:l[k]? =some x)(hb:hO x=false):jU l=l.take (k+1):=by
 unfold jU
 have hk:=(br hx).1
 have e:l=l.take k++x::l.drop (k+1):=by
  rw[←(br hx).2,List.getElem_cons_drop,List.take_append_drop]
 have hg:∀y∈l.take k,hO y=true:=fun y hy=>by
  obtain⟨j,hj⟩:=List.getElem?_of_mem hy
  rw[List.getElem?_take] at hj
  split at hj
  ·rename_i hjk;exact h j y hjk hj
  ·cases hj
 have:(l.takeWhile hO).length=k:=by
  conv=>lhs;rw[e]
  rw[List.takeWhile_append_of_pos hg,List.takeWhile_cons_of_neg (by simp[hb])]
  simp;omega
 rw[this]
@[reducible] def xY (x : cF) : AV := .agg [cw x.name, cw x.locl, ay x.cls]
def Bt (x:cF):AV:=xY x
@[reducible] def Di (l : List cF) : AV := .sl 3 (l.map Bt)
@[reducible] def Dg (w : mH) : AV := .agg [cw w.name, ay w.ticket]
def vh (w:mH):AV:=Dg w
@[reducible] def xU (l : List mH) : AV := .sl 2 (l.map vh)
@[reducible] def gN (d : bw) : AV := .agg [Di d.defs, xU d.waits, ay d.next, aX d.busy]
theorem lN {l:List cF}{k:Nat}{x:cF}(h:l[k]? =some x):(l.map Bt)[k]? =some (xY x):=by rw[dM,h];rfl
theorem zk {l:List mH}{k:Nat}{x:mH}(h:l[k]? =some x):(l.map vh)[k]? =some (Dg x):=by rw[dM,h];rfl
@[reducible] def rN (l : List cF) : MS := .live 2 (dz Value.string bu (o4 kN l)) false
@[reducible] def rC (l : List cF) : MS := .live 2 (dz nZ bu (o4 kC l)) false
theorem aA {K:Type}(kv:K→Value)(t:List (K×Int)):aV (dz kv bu t)=true:=by
 rw[cr];intro x hx
 obtain⟨a,_,rfl⟩:=List.mem_map.1 hx
 rfl
theorem q8:gj Tryz.prog 202 .string (.int .i64 0):=⟨9,3,by kernel_rfl,by kernel_rfl,fun w=>Tryz.zeroValue3 w⟩
theorem Dy:gj Tryz.prog 206 (.int .i64) (.int .i64 0):=⟨3,3,by kernel_rfl,by kernel_rfl,fun w=>Tryz.zeroValue3 w⟩
theorem gp {s:ByteArray}{b:Bool}(h:eL s=b):an Tryz.prog 174 [] [cw s] [] (aX b):=by have:=xe s;rwa [h] at this
theorem qb {s:ByteArray}{b:Bool}(h:vM s=b):an Tryz.prog 215 [] [cw s] [] (aX b):=by have:=IL s;unfold vM at h;rwa [h] at this
theorem JX (d:bw)(hl:d.defs.length≤100000):an Tryz.prog 199 [] [gN d] [rN (jU d.defs),rC (jU d.defs)] (.tup [.agg [.mapr 0,.mapr 1],aX (iL d.defs)]):=by
 obtain⟨l,ws,nx,bz⟩:=d
 have hlm:(l.map Bt).length=l.length:=bM ..
 refine an.aF (rvs:=[.cell 2 208,.tmp 3]) G aq Tryz.func199 rfl Tryz.ntmps199 rfl rfl ?_;with_reducible refine wD ?_
 have hl':l.length≤100000:=hl
 refine bD.use G aq (fun(k:Nat)=>[(1,.ptr 10 0 0),(2,.ptr 20 0 0),(4,.ptr 40 0 0),(12,Di l),(13,ay l.length),(14,ay k)])
  (fun k=>[(10,.live 4 [gN ⟨l,ws,nx,bz⟩] false),(20,.live 2 [.agg [.lit (.map none),.lit (.map none)]] false),(40,.live 2 [.agg [.mapr 81,.mapr 91]] false),(81,rN (l.take k)),(91,rC (l.take k))])
  (fun k=>k≤l.length∧∀ (j:Nat) (y:cF),j<k→l[j]? =some y→hO y=true) (fun k=>l.length-k) 0 ⟨Nat.zero_le _,fun j y h=>by omega⟩
  ⟨⟨rfl,rfl⟩,⟨⟨rfl,rfl⟩,⟨rfl,rfl⟩,⟨rfl,rfl⟩,rfl,by show(l.length:Int)=((l.map Bt).length:Int);rw[hlm],rfl,trivial⟩,⟨⟨rfl,rfl,rfl,rfl,trivial⟩,trivial⟩,⟨⟨⟨rfl,rfl⟩,⟨rfl,rfl⟩,trivial⟩,trivial⟩,⟨⟨trivial,trivial,trivial⟩,trivial⟩,⟨.refl rfl,rfl⟩,⟨.refl rfl,rfl⟩,trivial⟩ ?_
 intro k ⟨hk,hok⟩
 with_reducible refine wK ?_
 refine aL.mk (fun h1=>?_) (fun h1=>?_)<;>(try simp only[ak] at h1)<;>with_reducible refine wK ?_
 ·simp only[bH] at h1
  have hk':k<l.length:=by omega
  obtain⟨⟨n,lo,c⟩,hx⟩:∃a,l[k]? =some a:=⟨_,bh hk'⟩
  refine bn.mk k (xY ⟨n,lo,c⟩) rfl (lN hx) ?_;with_reducible refine wK ?_
  have hle1:(o4 kN (l.take k)).length≤k:=Nat.le_trans (Gd _ _) (by simp;omega)
  have hle2:(o4 kC (l.take k)).length≤k:=Nat.le_trans (Gd _ _) (by simp;omega)
  refine pQ.tab Value.string bu (o4 kN (l.take k)) (k:=n) (k:Int) q8 rfl nN nM (by unfold maxLen;omega) rfl ?_;with_reducible refine wK ?_
  refine pQ.tab nZ bu (o4 kC (l.take k)) (k:=c) (k:Int) Dy rfl jj j3 (by unfold maxLen;omega) rfl ?_;with_reducible refine wK ?_
  have e1:dP n (k:Int) (o4 kN (l.take k))=o4 kN (l.take (k+1)):=(yU kN hx).symm
  have e2:dP c (k:Int) (o4 kC (l.take k))=o4 kC (l.take (k+1)):=(yU kC hx).symm
  rw[e1,e2]
  refine dK ?_;with_reducible refine wK ?_
  cases hg:hO ⟨n,lo,c⟩ with
  | true=>
    obtain⟨g1,g2,g3,g4⟩:=yZ hg
    simp only at g1 g2 g3 g4
    have hnext:∀ (j:Nat) (y:cF),j<k+1→l[j]? =some y→hO y=true:=fun j y hj hy=>by
     by_cases e:j=k
     ·subst e;rw[hx] at hy;cases hy;exact hg
     ·exact hok j y (by omega) hy
    by_cases e:lo=n
    ·(have fct:=And.intro e (And.intro g1 (And.intro g3 (g4)));(repeat' (first
  |refine gF ?_|refine aE ?_ ?_
  | ((first
   |((with_reducible refine kQ 174 ?_);refine cL (gp g1) mZ ?_)
   |((with_reducible show aT _ _);refine aT.mk (k+1) ⟨by omega,hnext⟩ (by omega) ⟨⟨rfl,rfl⟩,⟨⟨rfl,rfl⟩,⟨rfl,rfl⟩,⟨rfl,rfl⟩,rfl,rfl,by show((k+1:Nat):Int)=(k:Int)+1;omega,trivial⟩,⟨⟨rfl,rfl,rfl,rfl,trivial⟩,trivial⟩,⟨⟨⟨rfl,rfl⟩,⟨rfl,rfl⟩,trivial⟩,trivial⟩,⟨⟨trivial,trivial,trivial⟩,trivial⟩,⟨.refl (aA _ _),aA _ _⟩,⟨.refl (aA _ _),aA _ _⟩,trivial⟩))<;>with_reducible refine wK ?_)
  | apply trivial));all_goals clear fct)
    ·have g2':=g2.resolve_left e
     (have fct:=And.intro e (And.intro g1 (And.intro g2' (And.intro g3 (g4))));(repeat' (first
  |refine gF ?_|refine aE ?_ ?_
  | ((first
   |((with_reducible refine kQ 174 ?_);refine cL (gp g1) mZ ?_)
   |((with_reducible refine kQ 215 ?_);refine cL (qb g2') HC ?_)
   |((with_reducible show aT _ _);refine aT.mk (k+1) ⟨by omega,hnext⟩ (by omega) ⟨⟨rfl,rfl⟩,⟨⟨rfl,rfl⟩,⟨rfl,rfl⟩,⟨rfl,rfl⟩,rfl,rfl,by show((k+1:Nat):Int)=(k:Int)+1;omega,trivial⟩,⟨⟨rfl,rfl,rfl,rfl,trivial⟩,trivial⟩,⟨⟨⟨rfl,rfl⟩,⟨rfl,rfl⟩,trivial⟩,trivial⟩,⟨⟨trivial,trivial,trivial⟩,trivial⟩,⟨.refl (aA _ _),aA _ _⟩,⟨.refl (aA _ _),aA _ _⟩,trivial⟩))<;>with_reducible refine wK ?_)
  |apply trivial));all_goals clear fct)
  | false=>
    have hpr:jU l=l.take (k+1):=Ex hok hx hg
    have hdb:iL l=false:=by
     cases h:iL l with
     |false=>rfl
     |true=>rw[(wQ.1 h).1 _ (bN hx)] at hg;cases hg
    have hgood:∀ {p:Prop},(eL n=true∧(lo=n∨vM lo=true)∧0≤c∧c<12)→p:=fun h=>by
     exfalso
     have:hO ⟨n,lo,c⟩=true:=by
      obtain⟨a1,a2,a3,a4⟩:=h
      unfold hO Ca
      simp only[a1,a3,a4,decide_true,Bool.and_true,Bool.true_and]
      rcases a2 with a2|a2
      ·rw[dB a2];rfl
      ·rw[a2];simp
     rw[hg] at this;cases this
    rw[hpr,hdb]
    by_cases e:lo=n
    ·cases hc:eL n with
     |false=>((have fct:=e;(repeat' (first
  |refine gF ?_|refine aE ?_ ?_
  |(((with_reducible refine kQ 174 ?_);refine cL (gp hc) mZ ?_)<;>with_reducible refine wK ?_)
  |apply trivial));all_goals clear fct))<;>first|exact aQ (aA _ _)|exact⟨.refl (aA _ _),aA _ _⟩|rfl
     | true=>
       by_cases h3:c<0
       ·((have fct:=And.intro e (h3);(repeat' (first
  |refine gF ?_|refine aE ?_ ?_
  |(((with_reducible refine kQ 174 ?_);refine cL (gp hc) mZ ?_)<;>with_reducible refine wK ?_)
  |apply trivial));all_goals clear fct))<;>first|exact aQ (aA _ _)|exact⟨.refl (aA _ _),aA _ _⟩|rfl
       ·by_cases h4:c<12
        ·exact hgood ⟨hc,.inl e,by omega,h4⟩
        ·((have fct:=And.intro e (And.intro h3 (h4));(repeat' (first
  |refine gF ?_|refine aE ?_ ?_
  |(((with_reducible refine kQ 174 ?_);refine cL (gp hc) mZ ?_)<;>with_reducible refine wK ?_)
  | apply trivial));all_goals clear fct))<;>first|exact aQ (aA _ _)|exact⟨.refl (aA _ _),aA _ _⟩|rfl
    ·cases hkn:vM lo with
     |false=>cases hc:eL n<;>((have fct:=e;(repeat' (first
  |refine gF ?_|refine aE ?_ ?_
  | ((first
   |((with_reducible refine kQ 174 ?_);refine cL (gp hc) mZ ?_)
   |((with_reducible refine kQ 215 ?_);refine cL (qb hkn) HC ?_))<;>with_reducible refine wK ?_)
  |apply trivial))                          ;all_goals clear fct))<;>first|exact aQ (aA _ _)|exact⟨.refl (aA _ _),aA _ _⟩|rfl
     | true=>
       cases hc:eL n with
       |false=>((have fct:=e;(repeat' (first
  |refine gF ?_|refine aE ?_ ?_
  | ((first
   |((with_reducible refine kQ 174 ?_);refine cL (gp hc) mZ ?_)
   |((with_reducible refine kQ 215 ?_);refine cL (qb hkn) HC ?_))<;>with_reducible refine wK ?_)
  |apply  trivial));all_goals clear fct))<;>first|exact aQ (aA _ _)|exact⟨.refl (aA _ _),aA _ _⟩|rfl
       | true=>
         by_cases h3:c<0
         ·((have fct:=And.intro e (h3);(repeat' (first
  |refine gF ?_|refine aE ?_ ?_
  | ((first
   |((with_reducible refine kQ 174 ?_);refine cL (gp hc) mZ ?_)
   |((with_reducible refine kQ 215 ?_);refine cL (qb hkn) HC ?_))<;>with_reducible refine wK ?_)
  |apply  trivial));all_goals clear fct))<;>first|exact aQ (aA _ _)|exact⟨.refl (aA _ _),aA _ _⟩|rfl
         ·by_cases h4:c<12
          ·exact hgood ⟨hc,.inr hkn,by omega,h4⟩
          ·((have fct:=And.intro e (And.intro h3 (h4));(repeat' (first
  |refine gF ?_|refine aE ?_ ?_
  | ((first
   |((with_reducible refine kQ 174 ?_);refine cL (gp hc) mZ ?_)
   |((with_reducible refine kQ 215 ?_);refine cL (qb hkn) HC ?_))<;>with_reducible refine wK ?_)
  |apply trivial));all_goals clear fct))<;>first|exact aQ (aA _ _)|exact⟨.refl (aA _ _),aA _ _⟩|rfl
 ·have hkl:k=l.length:=by simp only[dG] at h1;omega
  subst hkl
  have hall:∀x∈l,hO x=true:=fun x hx=>by
   obtain⟨j,hj⟩:=List.getElem?_of_mem hx
   exact hok j x (br hj).1 hj
  rw[List.take_length,u6 hall]
  have en:(dz Value.string bu (o4 kN l)).length=(o4 kN l).length:=bM ..
  have ec:(dz nZ bu (o4 kC l)).length=(o4 kC l).length:=bM ..
  have hn:=CX kN l
  have hc:=CX kC l
  have hd:iL l=(decide ((l.map cF.name).Nodup)&&decide ((l.map cF.cls).Nodup)):=by
   unfold iL
   rw[List.all_eq_true.2 hall];rfl
  rw[hd]
  by_cases h2:(l.map cF.name).Nodup
  ·have h2':(o4 kN l).length=l.length:=hn.2 h2
   by_cases h3:(l.map cF.cls).Nodup
   ·have h3':(o4 kC l).length=l.length:=hc.2 h3
    ((have fct:=And.intro en (And.intro ec (And.intro h2' (And.intro h3' (hlm))));(repeat' (first
  |refine gF ?_|refine aE ?_ ?_
  | ((first
   |((with_reducible show eZ _ _ 202 _ _ _ _);refine eZ.mk q8 ⟨_,_,rfl⟩ rfl ?_)
   |((with_reducible show eZ _ _ 206 _ _ _ _);refine eZ.mk Dy ⟨_,_,rfl⟩ rfl ?_))<;>with_reducible refine wK ?_)
  | apply trivial));all_goals clear fct))<;>first|exact aQ (aA _ _)|exact⟨.refl (aA _ _),aA _ _⟩|rfl|(simp[h2,h3,en,ec,h2',h3'];done)|(simp[h2,h3,en,ec,h2'];simp only[ak];omega)|(simp[h2,h3,en,ec,h2'];exact fun hh=>h3' (Int.ofNat.inj hh))
   ·have h3':(o4 kC l).length≠l.length:=fun h=>h3 (hc.1 h)
    ((have fct:=And.intro en (And.intro ec (And.intro h2' (And.intro h3' (hlm))));(repeat' (first
  |refine gF ?_|refine aE ?_ ?_
  | ((first
   |((with_reducible show eZ _ _ 202 _ _ _ _);refine eZ.mk q8 ⟨_,_,rfl⟩ rfl ?_)
   |((with_reducible show eZ _ _ 206 _ _ _ _);refine eZ.mk Dy ⟨_,_,rfl⟩ rfl ?_))<;>with_reducible refine wK ?_)
  |apply trivial));all_goals clear fct))<;>first|exact aQ (aA _ _)|exact⟨.refl (aA _ _),aA _ _⟩|rfl|(simp[h2,h3,en,ec,h2',h3'];done)|(simp[h2,h3,en,ec,h2'];simp only[ak];omega)|(simp[h2,h3,en,ec,h2'];exact fun hh=>h3' (Int.ofNat.inj hh))
  ·have h2':(o4 kN l).length≠l.length:=fun h=>h2 (hn.1 h)
   ((have fct:=And.intro en (And.intro ec (And.intro h2' (hlm)));(repeat' (first
  |refine gF ?_|refine aE ?_ ?_
  | ((first
   |((with_reducible show eZ _ _ 202 _ _ _ _);refine eZ.mk q8 ⟨_,_,rfl⟩ rfl ?_)
   |((with_reducible show eZ _ _ 206 _ _ _ _);refine eZ.mk Dy ⟨_,_,rfl⟩ rfl ?_))<;>with_reducible refine wK ?_)
  |apply trivial));all_goals clear fct))<;>first|exact aQ (aA _ _)|exact⟨.refl (aA _ _),aA _ _⟩|rfl|(simp[h2,en,h2'];done)
theorem vT (l:List cF):ic [rN l,rC l]:=by
 refine⟨bB.ga fun r hr=>?_,aA _ _,bB.ga fun r hr=>?_,aA _ _,trivial⟩
 ·obtain⟨p,_,rfl⟩:=List.mem_map.1 hr
  rfl
 ·obtain⟨p,_,rfl⟩:=List.mem_map.1 hr
  rfl
def uH (d:bw)(i:Nat×Bool×Int):Prop:=i.1≤d.waits.length∧(i.2.1&&oG d.defs d.next i.2.2 (d.waits.drop i.1))=(iL d.defs&&oG d.defs d.next (-1) d.waits)
theorem Bi {d:bw}{k:Nat}{b:Bool}{last:Int}{w:mH}(h:uH d (k,b,last))(hw:d.waits[k]? =some w):uH d (k+1,b&&okW d.defs d.next w last,w.ticket):=by
 obtain⟨h1,h2⟩:=h
 have hk:=(br hw).1
 refine⟨by show k+1≤_;omega,?_⟩
 rw[←h2]
 simp only
 rw[List.drop_eq_getElem_cons hk,(br hw).2,oG,Bool.and_assoc]
theorem Ku {l:List cF}(h:iL l=true)(s:ByteArray):(cM s (o4 kN (jU l))=none∧Bb l s=-1)∨∃ (k:Nat) (x:cF),cM s (o4 kN (jU l))=some (k:Int)∧Bb l s=k∧l[k]? =some x∧x.name=s:=by
 obtain⟨h1,h2,_⟩:=wQ.1 h
 rw[u6 h1];exact MC h2 s
theorem I7 (d:bw)(hl:d.defs.length≤100000)(hw:d.waits.length≤100000):an Tryz.prog 169 [] [gN d] [rN (jU d.defs),rC (jU d.defs)] (.tup [.agg [.mapr 0,.mapr 1],aX (ig d)]):=by
 have hI0:uH d (0,iL d.defs,-1):=⟨Nat.zero_le _,rfl⟩
 have hI1:=@Bi d
 have hI2:∀b last,uH d (d.waits.length,b,last)→b=(iL d.defs&&oG d.defs d.next (-1) d.waits):=fun b last h=>by
  have:=h.2
  simp only[List.drop_length] at this
  rw[←this];simp[oG]
 have hI3:∀k b last,uH d (k,b,last)→b=true→iL d.defs=true∨ig d=false:=fun k b last h hb=>by
  cases hd:iL d.defs with
  |true=>exact .inl rfl
  |false=>right;unfold ig;rw[hd];rfl
 have hr44:=JX d hl
 unfold ig
 obtain⟨l,ws,nx,bz⟩:=d
 have hlm:(ws.map vh).length=ws.length:=bM ..
 refine an.aF (rvs:=[.cell 2 208,.tmp 3]) G aq Tryz.func169 rfl Tryz.ntmps169 rfl rfl ?_;with_reducible refine wD ?_
 refine ah.new 131 [] hr44 OF ⟨⟨rfl,rfl,rfl,rfl,trivial⟩,trivial⟩ rfl rfl rfl (vT _) rfl ?_;with_reducible refine wK ?_
 have hwl:ws.length≤100000:=hw
 refine bD.use G aq (fun(i:Nat×Bool×Int)=>[(1,.ptr 10 0 0),(2,.ptr 20 0 0),(4,.ptr 40 0 0),(5,aX i.2.1),(6,ay i.2.2),(17,xU ws),(18,ay ws.length),(19,ay i.1)])
  (fun _=>[(10,.live 4 [gN ⟨l,ws,nx,bz⟩] false),(20,.live 2 [.agg [.lit (.map none),.lit (.map none)]] false),(40,.live 2 [.agg [.mapr 131,.mapr 132]] false),(131,rN (jU l)),(132,rC (jU l))])
  (fun i=>uH ⟨l,ws,nx,bz⟩ i∧(i.2.1=true→iL l=true)) (fun i=>ws.length-i.1) (0,iL l,-1) ⟨hI0,id⟩
  ⟨⟨rfl,rfl⟩,⟨⟨rfl,rfl⟩,⟨rfl,rfl⟩,⟨rfl,rfl⟩,rfl,rfl,rfl,by show(ws.length:Int)=((ws.map vh).length:Int);rw[hlm],rfl,trivial⟩,⟨⟨rfl,rfl,rfl,rfl,trivial⟩,trivial⟩,⟨⟨⟨rfl,rfl⟩,⟨rfl,rfl⟩,trivial⟩,trivial⟩,⟨⟨trivial,trivial,trivial⟩,trivial⟩,⟨.refl (aA _ _),aA _ _⟩,⟨.refl (aA _ _),aA _ _⟩,trivial⟩ ?_
 rintro⟨k,b,last⟩ ⟨hI,hbd⟩
 have hkw:k≤ws.length:=hI.1
 simp only at hbd
 with_reducible refine wK ?_
 refine aL.mk (fun h1=>?_) (fun h1=>?_)<;>(try simp only[ak] at h1)<;>with_reducible refine wK ?_
 ·simp only[bH] at h1
  have hk':k<ws.length:=by omega
  obtain⟨⟨n,tk⟩,hx⟩:∃a,ws[k]? =some a:=⟨_,bh hk'⟩
  have hst:∀v,(b&&okW l nx ⟨n,tk⟩ last)=v→uH ⟨l,ws,nx,bz⟩ (k+1,v,tk)∧(v=true→iL l=true):=fun v hv=>by
   have:=hI1 hI hx
   refine⟨by rw[←hv];exact this,fun h=>hbd ?_⟩
   rw[h] at hv
   exact(Bool.and_eq_true_iff.1 hv).1
  refine bn.mk k (Dg ⟨n,tk⟩) rfl (zk hx) ?_;with_reducible refine wK ?_
  refine jV.tab Value.string bu (o4 kN (jU l)) (k:=n) (zv:=ay 0) q8 ⟨_,_,rfl⟩ nN nM rfl rfl (fun x hxx=>?_) (fun hxx=>?_)
  ·rw [show bu x=ay x from rfl]
   with_reducible refine wK ?_
   cases b with
   | false=>
     have hs:=hst false rfl
     (have fct:=hlm;(repeat' (first
  |refine gF ?_|refine aE ?_ ?_
  |(((with_reducible show aT _ _);refine aT.mk (k+1,false,tk) hs (by show ws.length- (k+1)<ws.length-k;omega) ⟨⟨rfl,rfl⟩,⟨⟨rfl,rfl⟩,⟨rfl,rfl⟩,⟨rfl,rfl⟩,rfl,rfl,rfl,rfl,by show((k+1:Nat):Int)=(k:Int)+1;omega,trivial⟩,⟨⟨rfl,rfl,rfl,rfl,trivial⟩,trivial⟩,⟨⟨⟨rfl,rfl⟩,⟨rfl,rfl⟩,trivial⟩,trivial⟩,⟨⟨trivial,trivial,trivial⟩,trivial⟩,⟨.refl (aA _ _),aA _ _⟩,⟨.refl (aA _ _),aA _ _⟩,trivial⟩)<;>with_reducible refine wK ?_)
  | apply trivial));all_goals clear fct)
   | true=>
     have hp:¬Bb l n=-1:=by
      rcases Ku (hbd rfl) n with⟨a1,_⟩|⟨j,y,_,a2,_⟩
      ·rw[hxx] at a1;cases a1
      ·omega
     have hs:=hst false (by unfold okW;simp[hp])
     (have fct:=hlm;(repeat' (first
  |refine gF ?_|refine aE ?_ ?_
  |(((with_reducible show aT _ _);refine aT.mk (k+1,false,tk) hs (by show ws.length- (k+1)<ws.length-k;omega) ⟨⟨rfl,rfl⟩,⟨⟨rfl,rfl⟩,⟨rfl,rfl⟩,⟨rfl,rfl⟩,rfl,rfl,rfl,rfl,by show((k+1:Nat):Int)=(k:Int)+1;omega,trivial⟩,⟨⟨rfl,rfl,rfl,rfl,trivial⟩,trivial⟩,⟨⟨⟨rfl,rfl⟩,⟨rfl,rfl⟩,trivial⟩,trivial⟩,⟨⟨trivial,trivial,trivial⟩,trivial⟩,⟨.refl (aA _ _),aA _ _⟩,⟨.refl (aA _ _),aA _ _⟩,trivial⟩)<;>with_reducible refine wK ?_)
  |apply trivial));all_goals clear fct)
  ·with_reducible refine wK ?_
   cases b with
   | false=>
     have hs:=hst false rfl
     (have fct:=hlm;(repeat' (first
  |refine gF ?_|refine aE ?_ ?_
  |(((with_reducible show aT _ _);refine aT.mk (k+1,false,tk) hs (by show ws.length- (k+1)<ws.length-k;omega) ⟨⟨rfl,rfl⟩,⟨⟨rfl,rfl⟩,⟨rfl,rfl⟩,⟨rfl,rfl⟩,rfl,rfl,rfl,rfl,by show((k+1:Nat):Int)=(k:Int)+1;omega,trivial⟩,⟨⟨rfl,rfl,rfl,rfl,trivial⟩,trivial⟩,⟨⟨⟨rfl,rfl⟩,⟨rfl,rfl⟩,trivial⟩,trivial⟩,⟨⟨trivial,trivial,trivial⟩,trivial⟩,⟨.refl (aA _ _),aA _ _⟩,⟨.refl (aA _ _),aA _ _⟩,trivial⟩)<;>with_reducible refine wK ?_)
  | apply trivial));all_goals clear fct)
   | true=>
     have hp:Bb l n=-1:=by
      rcases Ku (hbd rfl) n with⟨_,a1⟩|⟨j,y,a2,_⟩
      ·exact a1
      ·rw[hxx] at a2;cases a2
     cases hc:eL n with
     | false=>
       have hs:=hst false (by unfold okW;simp[hc])
       (have fct:=hlm;(repeat' (first
  |refine gF ?_|refine aE ?_ ?_
  | ((first
   |((with_reducible refine kQ 174 ?_);refine cL (gp hc) mZ ?_)
   |((with_reducible show aT _ _);refine aT.mk (k+1,false,tk) hs (by show ws.length- (k+1)<ws.length-k;omega) ⟨⟨rfl,rfl⟩,⟨⟨rfl,rfl⟩,⟨rfl,rfl⟩,⟨rfl,rfl⟩,rfl,rfl,rfl,rfl,by show((k+1:Nat):Int)=(k:Int)+1;omega,trivial⟩,⟨⟨rfl,rfl,rfl,rfl,trivial⟩,trivial⟩,⟨⟨⟨rfl,rfl⟩,⟨rfl,rfl⟩,trivial⟩,trivial⟩,⟨⟨trivial,trivial,trivial⟩,trivial⟩,⟨.refl (aA _ _),aA _ _⟩,⟨.refl (aA _ _),aA _ _⟩,trivial⟩))<;>with_reducible refine wK ?_)
  |apply trivial));all_goals clear fct)
     | true=>
       by_cases h3:last<tk
       ·have hs:=hst (decide (tk<nx)) (by unfold okW;simp[hc,hp,h3])
        (have fct:=And.intro hlm (h3);(repeat' (first
  |refine gF ?_|refine aE ?_ ?_
  | ((first
   |((with_reducible refine kQ 174 ?_);refine cL (gp hc) mZ ?_)
   |((with_reducible show aT _ _);refine aT.mk (k+1,decide (tk<nx),tk) hs (by show ws.length- (k+1)<ws.length-k;omega) ⟨⟨rfl,rfl⟩,⟨⟨rfl,rfl⟩,⟨rfl,rfl⟩,⟨rfl,rfl⟩,rfl,rfl,rfl,rfl,by show((k+1:Nat):Int)=(k:Int)+1;omega,trivial⟩,⟨⟨rfl,rfl,rfl,rfl,trivial⟩,trivial⟩,⟨⟨⟨rfl,rfl⟩,⟨rfl,rfl⟩,trivial⟩,trivial⟩,⟨⟨trivial,trivial,trivial⟩,trivial⟩,⟨.refl (aA _ _),aA _ _⟩,⟨.refl (aA _ _),aA _ _⟩,trivial⟩))<;>with_reducible refine wK ?_)
  |apply trivial));all_goals clear fct)
       ·have hs:=hst false (by unfold okW;simp[hc,hp,h3])
        (have fct:=And.intro hlm (h3);(repeat' (first
  |refine gF ?_|refine aE ?_ ?_
  | ((first
   |((with_reducible refine kQ 174 ?_);refine cL (gp hc) mZ ?_)
   |((with_reducible show aT _ _);refine aT.mk (k+1,false,tk) hs (by show ws.length- (k+1)<ws.length-k;omega) ⟨⟨rfl,rfl⟩,⟨⟨rfl,rfl⟩,⟨rfl,rfl⟩,⟨rfl,rfl⟩,rfl,rfl,rfl,rfl,by show((k+1:Nat):Int)=(k:Int)+1;omega,trivial⟩,⟨⟨rfl,rfl,rfl,rfl,trivial⟩,trivial⟩,⟨⟨⟨rfl,rfl⟩,⟨rfl,rfl⟩,trivial⟩,trivial⟩,⟨⟨trivial,trivial,trivial⟩,trivial⟩,⟨.refl (aA _ _),aA _ _⟩,⟨.refl (aA _ _),aA _ _⟩,trivial⟩))<;>with_reducible refine wK ?_)
  |apply trivial));all_goals clear fct)
 ·have hkl:k=ws.length:=by simp only[dG] at h1;omega
  subst hkl
  have hb:=hI2 b last hI
  simp only at hb ⊢
  rw[←hb]
  cases b with
  |false=>((have fct:=hlm;(repeat' (first
  |refine gF ?_|refine aE ?_ ?_
  |apply trivial));all_goals clear fct))<;>first|exact aQ (aA _ _)|exact⟨.refl (aA _ _),aA _ _⟩|rfl
  | true=>
    by_cases h4:0≤nx
    ·((have fct:=And.intro hlm (h4);(repeat' (first
  |refine gF ?_|refine aE ?_ ?_
  | apply trivial));all_goals clear fct))<;>first|exact aQ (aA _ _)|exact⟨.refl (aA _ _),aA _ _⟩|simp[h4]
    ·((have fct:=And.intro hlm (h4);(repeat' (first
  |refine gF ?_|refine aE ?_ ?_
  |apply trivial));all_goals clear fct))<;>first|exact aQ (aA _ _)|exact⟨.refl (aA _ _),aA _ _⟩|simp[h4]
structure nw (d:bw):Prop where
 defs:d.defs.length≤100000
 waits:d.waits.length≤100000
theorem CR (d:bw)(h:nw d):an Tryz.prog 110 [] [gN d] [] (aX (ig d)):=by
 have h29:=I7 d h.defs h.waits
 obtain⟨l,ws,nx,bz⟩:=d
 refine an.aF (rvs:=[.tmp 2]) G aq Tryz.func110 rfl Tryz.ntmps110 rfl rfl ?_;with_reducible refine wD ?_
 refine ah.new 71 [] h29 OJ ⟨⟨rfl,rfl,rfl,rfl,trivial⟩,trivial⟩ rfl rfl rfl (vT _) rfl ?_;with_reducible refine wK ?_
 (have fct:=h29;(repeat' (first
  |refine gF ?_|refine aE ?_ ?_
  |apply trivial));all_goals clear fct)
structure Bc (d:bw):Prop where
 defs:d.defs.length≤40
 waits:d.waits.length≤40
 names:∀x∈d.defs,x.name.size≤300∧x.locl.size≤300
 wnames:∀w∈d.waits,w.name.size≤300
theorem Bc.small {d:bw}(h:Bc d):nw d:=⟨Nat.le_trans h.defs (by omega),Nat.le_trans h.waits (by omega)⟩
theorem wP {α:Type}{P:α→Prop}{l:List α}{k:Nat}{a:α}(h:∀ (j:Nat) (b:α),j<k→l[j]? =some b→P b)(ha:l[k]? =some a)(hp:P a):∀ (j:Nat) (b:α),j<k+1→l[j]? =some b→P b:=fun j b hj hb=>by
 by_cases e:j=k
 ·subst e;rw[ha] at hb;cases hb;exact hp
 ·exact h j b (by omega) hb

end Go.Proofs.Heir
namespace Go.Proofs.Heir
open Go Go.Am Go.RowKit Go.Lib
set_option maxRecDepth 100000

end Go.Proofs.Heir
namespace Go.Proofs.Heir
open Go Go.Am Go.RowKit Go.Lib
set_option maxRecDepth 100000
set_option maxHeartbeats 8000000
def mL (x:cF):Bool:=decide (x.name.size≤300)&&decide (x.locl.size≤300)
def ox (w:mH):Bool:=decide (w.name.size≤300)
def oS (d:bw):Bool:=decide (d.defs.length≤40)&&decide (d.waits.length≤40)&&d.defs.all mL&&d.waits.all ox
theorem oQ {d:bw}:oS d=true↔Bc d:=by
 unfold oS mL ox
 simp only[bJ,bH,List.all_eq_true]
 exact⟨fun h=>⟨h.1.1.1,h.1.1.2,h.1.2,h.2⟩,fun h=>⟨⟨⟨h.defs,h.waits⟩,h.names⟩,h.wnames⟩⟩
theorem Aw {α:Type}{p:α→Bool}{l:List α}(h:∀ (j:Nat) (b:α),j<l.length→l[j]? =some b→p b=true):l.all p=true:=by
 rw[List.all_eq_true]
 intro x hx
 obtain⟨j,hj⟩:=List.getElem?_of_mem hx
 exact h j x (br hj).1 hj
theorem vp {α:Type}{p:α→Bool}{l:List α}{x:α}(hx:x∈l)(h:p x=false):l.all p=false:=by
 cases hh:l.all p with
 |false=>rfl
 |true=>rw[List.all_eq_true.1 hh x hx] at h;cases h
theorem Jr (d:bw):an Tryz.prog 108 [] [gN d] [] (aX (oS d)):=by
 obtain⟨r,hr⟩:∃r,oS d=r:=⟨_,rfl⟩
 rw[hr]
 have hsh:=@oQ d
 rw[hr] at hsh
 obtain⟨l,ws,nx,bz⟩:=d
 unfold oS at hr
 simp only at hr
 have hlm:(l.map Bt).length=l.length:=bM ..
 have hwm:(ws.map vh).length=ws.length:=bM ..
 refine an.aF (rvs:=[.tmp 2]) G aq Tryz.func108 rfl Tryz.ntmps108 rfl rfl ?_;with_reducible refine wD ?_
 by_cases g1:l.length≤40
 ·by_cases g2:ws.length≤40
  ·(have fct:=And.intro hlm (And.intro hwm (And.intro g1 (g2)));(repeat' (first
  |refine gF ?_|refine aE ?_ ?_
  | apply trivial));all_goals clear fct)
   refine bD.use G aq (fun(k:Nat)=>[(1,.ptr 10 0 0),(3,ay k)]) (fun _=>[(10,.live 4 [gN ⟨l,ws,nx,bz⟩] false)]) (fun k=>k≤l.length∧∀ (j:Nat) (b:cF),j<k→l[j]? =some b→mL b=true) (fun k=>l.length-k) 0 ⟨Nat.zero_le _,fun j b hj=>by omega⟩
    ⟨⟨rfl,rfl⟩,⟨⟨rfl,rfl⟩,rfl,trivial⟩,⟨⟨rfl,rfl,rfl,rfl,trivial⟩,trivial⟩,trivial⟩ ?_
   intro k ⟨hk,hno⟩
   with_reducible refine wK ?_
   refine aL.mk (fun h1=>?_) (fun h1=>?_)<;>(try simp only[ak] at h1)<;>with_reducible refine wK ?_
   ·simp only[hlm,bH] at h1
    have hk':k<l.length:=by omega
    obtain⟨⟨n,lo,c⟩,hx⟩:∃a,l[k]? =some a:=⟨_,bh hk'⟩
    have hf:mL ⟨n,lo,c⟩=false→r=false:=fun h=>by rw[←hr,vp (bN hx) h];simp
    refine bn.mk k (xY ⟨n,lo,c⟩) rfl (lN hx) ?_;with_reducible refine wK ?_
    by_cases e1:n.size≤300
    ·by_cases e2:lo.size≤300
     ·(have fct:=And.intro e1 (e2);(repeat' (first
  |refine gF ?_|refine aE ?_ ?_
  | ((first
   |((with_reducible show bn _ _ _ _ _);refine bn.mk k (xY ⟨n,lo,c⟩) rfl (lN hx) ?_)
   |((with_reducible show aT _ _);refine aT.mk (k+1) ⟨by omega,wP (P:=fun b=>mL b=true) hno hx (by unfold mL;simp[e1,e2])⟩ (by omega) ⟨⟨rfl,rfl⟩,⟨⟨rfl,rfl⟩,by show((k+1:Nat):Int)=(k:Int)+1;omega,trivial⟩,⟨⟨rfl,rfl,rfl,rfl,trivial⟩,trivial⟩,trivial⟩))<;>with_reducible refine wK ?_)
  |apply trivial));all_goals clear fct)
     ·rw[hf (by unfold mL;simp[e2])]
      (have fct:=And.intro e1 (e2);(repeat' (first
  |refine gF ?_|refine aE ?_ ?_
  |(((with_reducible show bn _ _ _ _ _);refine bn.mk k (xY ⟨n,lo,c⟩) rfl (lN hx) ?_)<;>with_reducible refine wK ?_)
  | apply trivial));all_goals clear fct)
    ·rw[hf (by unfold mL;simp[e1])]
     (have fct:=e1;(repeat' (first
  |refine gF ?_|refine aE ?_ ?_
  | apply trivial));all_goals clear fct)
   ·have hkl:k=l.length:=by simp only[hlm,dG] at h1;omega
    subst hkl
    have hall1:=Aw hno
    (have fct:=hlm;(repeat' (first
  |refine gF ?_|refine aE ?_ ?_
  | apply trivial));all_goals clear fct)
    refine bD.use G aq (fun(k:Nat)=>[(1,.ptr 10 0 0),(4,ay k)]) (fun _=>[(10,.live 4 [gN ⟨l,ws,nx,bz⟩] false)]) (fun k=>k≤ws.length∧∀ (j:Nat) (b:mH),j<k→ws[j]? =some b→ox b=true) (fun k=>ws.length-k) 0 ⟨Nat.zero_le _,fun j b hj=>by omega⟩
     ⟨⟨rfl,rfl⟩,⟨⟨rfl,rfl⟩,rfl,trivial⟩,⟨⟨rfl,rfl,rfl,rfl,trivial⟩,trivial⟩,trivial⟩ ?_
    intro k ⟨hk,hno⟩
    with_reducible refine wK ?_
    refine aL.mk (fun h2=>?_) (fun h2=>?_)<;>(try simp only[ak] at h2)<;>with_reducible refine wK ?_
    ·simp only[hwm,bH] at h2
     have hk':k<ws.length:=by omega
     obtain⟨⟨n,t⟩,hx⟩:∃a,ws[k]? =some a:=⟨_,bh hk'⟩
     have hf:ox ⟨n,t⟩=false→r=false:=fun h=>by rw[←hr,vp (bN hx) h];simp
     refine bn.mk k (Dg ⟨n,t⟩) rfl (zk hx) ?_;with_reducible refine wK ?_
     by_cases e1:n.size≤300
     ·(have fct:=e1;(repeat' (first
  |refine gF ?_|refine aE ?_ ?_
  |(((with_reducible show aT _ _);refine aT.mk (k+1) ⟨by omega,wP (P:=fun b=>ox b=true) hno hx (by unfold ox;simp[e1])⟩ (by omega) ⟨⟨rfl,rfl⟩,⟨⟨rfl,rfl⟩,by show((k+1:Nat):Int)=(k:Int)+1;omega,trivial⟩,⟨⟨rfl,rfl,rfl,rfl,trivial⟩,trivial⟩,trivial⟩)<;>with_reducible refine wK ?_)
  |apply trivial));all_goals clear fct)
     ·rw[hf (by unfold ox;simp[e1])]
      (have fct:=e1;(repeat' (first
  |refine gF ?_|refine aE ?_ ?_
  | apply trivial));all_goals clear fct)
    ·have hkl:k=ws.length:=by simp only[hwm,dG] at h2;omega
     subst hkl
     have hall2:=Aw hno
     rw[show r=true by rw[←hr,hall1,hall2];simp[g1,g2]]
     (have fct:=hwm;(repeat' (first
  |refine gF ?_|refine aE ?_ ?_
  |apply trivial));all_goals clear fct)
  ·rw[show r=false by rw[←hr];simp[g2]]
   (have fct:=And.intro hlm (And.intro hwm (And.intro g1 (g2)));(repeat' (first
  |refine gF ?_|refine aE ?_ ?_
  |apply trivial));all_goals clear fct)
 ·rw[show r=false by rw[←hr];simp[g1]]
  (have fct:=And.intro hlm (g1);(repeat' (first
  |refine gF ?_|refine aE ?_ ?_
  |apply trivial));all_goals clear fct)
end Go.Proofs.Heir
namespace Go.Proofs.Heir
open Go Go.Am Go.RowKit Go.Lib
set_option maxRecDepth 100000

end Go.Proofs.Heir
namespace Go.Proofs.Heir
open Go Go.Am Go.RowKit Go.Lib
set_option maxRecDepth 100000
set_option maxHeartbeats 8000000
theorem A2 {f:ForM}{n:Int}:∀c∈pT f n,aa f.nodes c=true:=by
 intro c hc
 unfold pT at hc
 split at hc
 ·rename_i h
  obtain⟨hr,hn⟩:aU f=true∧aa f.nodes n=true:=by simpa using h
  exact(U.fR (U.dY hr) _ n hn c hc).1
 ·simp at hc






end Go.Proofs.Heir
