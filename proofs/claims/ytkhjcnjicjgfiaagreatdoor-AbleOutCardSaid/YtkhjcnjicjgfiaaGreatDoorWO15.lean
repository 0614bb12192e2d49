/- Models, plain laws and contracts of functions of the given program; conditions as stated in each theorem. By an AI agent. -/
import Derived.Test.YtkhjcnjicjgfiaaGreatDoorWO14
import Derived.Test.YtkhjcnjicjgfiaaGreatDoorWO13
import Derived.RangeFuncNested
import Derived.RangeFuncBound
import Derived.RangeFuncCalls
import Derived.Shelf.Abstract
import Derived.Shelf.RegionOpen
import Derived.WalkKit
import Derived.OwnWalkIn
import Derived.TacticsInMore
import Derived.LoopNIn
import Derived.LoopIn
import Derived.Laws.StructEq
import Derived.Tactics
set_option linter.unusedSimpArgs false
set_option linter.unusedVariables false
namespace Go.Proofs.Heir
open Go Go.Am Go.RowKit Go.Lib
set_option maxRecDepth 100000
set_option maxHeartbeats 8000000
theorem C5 (g:Nat)(cg:ak Tryz.prog g)(caps:List AV)(hcaps:br caps=true)(p:Int→Bool)(l:List Int)(hl:l.length≤100000)(hf:∀a,a∈l→an Tryz.prog g [] (aj a::caps) [] (bB (p a))):
  an Tryz.prog 125 [] [cF l,.clo (.func g) [] caps] [] (aj (eC p l)):=by
 have hlm:(l.map bV).length=l.length:=cj ..
 refine an.aF (rvs:=[.tmp 4]) G au Tryz.func125 rfl Tryz.ntmps125 rfl rfl ?_;with_reducible refine wD ?_
 refine cn.use G au (fun(k:Nat)=>[(0,cF l),(1,.clo (.func g) [] caps),(7,aj l.length),(8,aj k)]) (fun _=>[]) (fun k=>k≤l.length∧∀j x,j<k→l[j]? =some x→p x=false) (fun k=>l.length-k) 0 ⟨Nat.zero_le _,fun j x h=>by omega⟩
  ⟨⟨rfl,rfl⟩,⟨rfl,⟨rfl,trivial,bP hcaps⟩,by show(l.length:Int)=((l.map bV).length:Int);rw[hlm],rfl,trivial⟩,trivial⟩ ?_
 rintro k ⟨hk,hno⟩
 with_reducible refine wK ?_
 refine bk.mk (fun h1=>?_) (fun h1=>?_)<;>(try simp only[ay] at h1)<;>with_reducible refine wK ?_
 ·simp only[bO] at h1
  have hk':k<l.length:=by omega
  obtain⟨a,ha⟩:∃a,l[k]? =some a:=⟨_,bz hk'⟩
  refine aG.mk k (aj a) rfl (bK ha) ?_;with_reducible refine wK ?_
  refine aa.lit [] (hf a (bT ha)) cg ⟨rfl,bP hcaps⟩ rfl rfl ?_;with_reducible refine wK ?_
  refine bk.mk (fun h2=>?_) (fun h2=>?_)<;>(try simp only[ay] at h2)<;>with_reducible refine wK ?_
  ·(refine eK ?_ ?_<;>with_reducible repeat' (first|exact trivial|(show _∧_;refine aK ?_ ?_)))
   exact fO ha h2 hno
  ·refine nK ?_;with_reducible refine wK ?_
   refine cm.mk (k+1) ⟨by omega,fun j x hj hx=>?_⟩ (by omega) ⟨⟨rfl,rfl⟩,⟨rfl,⟨rfl,trivial,bP hcaps⟩,rfl,by show((k+1:Nat):Int)=(k:Int)+1;omega,trivial⟩,trivial⟩
   rcases Nat.lt_or_ge j k with h6|h6
   ·exact hno j x h6 hx
   ·have:j=k:=by omega
    subst this
    rw[ha] at hx;cases hx;exact h2
 ·(refine eK ?_ ?_<;>with_reducible repeat' (first|exact trivial|(show _∧_;refine aK ?_ ?_)))
  have:k=l.length:=by simp only[dh] at h1;omega
  exact jj fun j x hx=>hno j x (by have:=(bg hx).1;omega) hx
theorem Jl (f:ForM)(c:Int)(hc:af f.nodes c=true):an Tryz.prog 126 [] [aj c,.fptr (aY f) 0] [] (bB (mD f.nodes c)):=by
 obtain⟨k,x,rfl,hx,hnd⟩:=aU.1 hc
 obtain⟨l,m⟩:=f
 unfold mD
 simp only at hx hnd ⊢
 rw[hnd]
 obtain⟨a1,a2,a3,a4,a5,a6,a7,a8,a9,a10⟩:=x
 refine an.aF (rvs:=[.tmp 3]) G au Tryz.func126 rfl Tryz.ntmps126 rfl rfl ?_;with_reducible refine wD ?_
 refine aG.mk k (az _) rfl (ah hx) ?_;with_reducible refine wK ?_
 by_cases e1:a1=1
 ·(have fct:=e1;(repeat' (first
  |refine gF ?_|refine aE ?_ ?_
  |((refine aG.mk k (az _) rfl (ah hx) ?_)<;>with_reducible refine wK ?_)
  |apply trivial));all_goals clear fct)
  all_goals simp[e1]
 ·(have fct:=(eq_false e1);(repeat' (first
  |refine gF ?_|refine aE ?_ ?_
  |apply trivial));all_goals clear fct)
  all_goals simp[e1]
theorem FK (f:ForM)(hs:bE f.nodes)(k:Nat)(x:ai)(hx:f.nodes[k]? =some x)(hkids:∀c∈x.kids,af f.nodes c=true):an Tryz.prog 62 [] [aY f,aj k] [] (aj (lJ f.nodes k)):=by
 have h7:=hs.kids x (bT hx)
 have h35:=fun c hc=>Jl f c (hkids c hc)
 obtain⟨l,m⟩:=f
 unfold lJ Cq
 simp only at hx h7 hkids h35 ⊢
 rw[cz hx]
 obtain⟨a1,a2,a3,a4,a5,a6,a7,a8,a9,a10⟩:=x
 simp only at h7 hkids h35 ⊢
 refine an.aF (rvs:=[.tmp 4]) G au Tryz.func62 rfl Tryz.ntmps62 rfl rfl ?_;with_reducible refine wD ?_
 refine aG.mk k (az _) rfl (ah hx) ?_;with_reducible refine wK ?_
 refine aa.lit [20] (C5 126 Nw [.fptr (aY ⟨l,m⟩) 0] rfl (mD l) a7 (by omega) h35) FQ ⟨rfl,⟨rfl,trivial,⟨_,_,_,_,_,rfl,rfl,rfl,rfl,rfl,⟨rfl,rfl,trivial⟩⟩,trivial⟩,trivial⟩ rfl rfl ?_;with_reducible refine wK ?_
 rcases o4 (mD l) a7 with h|⟨i,c,h,hi,_⟩
 ·rw[h]
  (have fct:=h;(repeat' (first
  |refine gF ?_|refine aE ?_ ?_
  |apply trivial));all_goals clear fct)
  all_goals simp
 ·rw[h]
  (have fct:=h;(repeat' (first
  |refine gF ?_|refine aE ?_ ?_
  |((refine aG.mk i (aj c) rfl (bK hi) ?_)<;>with_reducible refine wK ?_)
  |apply trivial));all_goals clear fct)
  all_goals simp[hi]
theorem JM (x:ai)(hx:x.attrs.length≤100000):an Tryz.prog 130 [] [az x] [] (bB (fI x)):=by
 have h14:=qP x.attrs hx jI
 unfold fI
 obtain⟨a1,a2,a3,a4,a5,a6,a7,a8,a9,a10⟩:=x
 simp only at h14 hx ⊢
 refine an.aF (rvs:=[.tmp 2]) G au Tryz.func130 rfl Tryz.ntmps130 rfl rfl ?_;with_reducible refine wD ?_
 refine cL h14 mc ?_;with_reducible refine wK ?_
 by_cases e1:a1=1
 ·(have fct:=e1;(repeat' (first
  |refine gF ?_|refine aE ?_ ?_
  |apply trivial));all_goals clear fct)
  all_goals simp[e1]
 ·(have fct:=(eq_false e1);(repeat' (first
  |refine gF ?_|refine aE ?_ ?_
  |apply trivial));all_goals clear fct)
  all_goals simp[e1]
theorem Dg (g:Nat)(cg:ak Tryz.prog g)(caps:List AV)(hcaps:br caps=true)(p:Int→Bool)(l:List Int)(hl:l.length≤100000)(hf:∀a,a∈l→an Tryz.prog g [] (aj a::caps) [] (bB (p a))):
  an Tryz.prog 127 [] [cF l,.clo (.func g) [] caps] [] (bB (decide (0≤eC p l))):=by
 have h34:=C5 g cg caps hcaps p l hl hf
 refine an.aF (rvs:=[.tmp 4]) G au Tryz.func127 rfl Tryz.ntmps127 rfl rfl ?_;with_reducible refine wD ?_
 refine aa.lit [] h34 FQ ⟨rfl,⟨rfl,trivial,bP hcaps⟩,trivial⟩ rfl rfl ?_;with_reducible refine wK ?_
 (refine eK ?_ ?_<;>with_reducible repeat' (first|exact trivial|(show _∧_;refine aK ?_ ?_)))
 all_goals rfl
end Go.Proofs.Heir
namespace Go.Proofs.Heir
open Go Go.Am Go.RowKit Go.Shelf
set_option maxRecDepth 100000
set_option maxHeartbeats 8000000
theorem GZ {Wn:Nat→Prop}{μ:Mu}{W:World}{l:List Int}{b o:Nat}(h:ct Wn μ W (.fptr (.sl 1 (l.map bV)) 0) (.pointer (some ⟨b,o,none⟩))):
  ∃ad cap,W.cell? ⟨b,o,none⟩=some (.slice ad l.length cap)∧l.length≤cap∧∀ (j:Nat) (x:Int),l[j]? =some x→∃b2 o2,ad=some ⟨b2,o2,none⟩∧W.cell? ⟨b2,o2+j,none⟩=some (.int .i64 x):=by
 generalize hv:Value.pointer (some ⟨b,o,none⟩)=v at h
 cases h with
 | @fptr _ _ b' o' f h1 h2 h3 h4 h5=>
   cases hv
   have k3:=h3 0 _ rfl
   have k4:=h4 0 _ rfl
   rw[Nat.add_zero] at k3
   rw[Nat.add_zero,k3]
   generalize f 0=s at k4
   cases hl:l with
   | nil=>
     subst hl
     cases k4 with
     |slNil=>exact⟨_,_,rfl,Nat.zero_le _,fun j x h=>by simp at h⟩
     |sl a1 a2 a3 a4 a5 a6 a7 a8=>subst a3;exact⟨_,_,rfl,Nat.zero_le _,fun j x h=>by simp at h⟩
   | cons y r=>
     rw[←hl]
     generalize hrows:l.map bV=rows at k4
     have hne:rows≠ []:=by rw[←hrows,hl];simp
     cases k4 with
     |slNil=>exact absurd rfl hne
     | sl a1 a2 a3 a4 a5 a6 a7 a8=>
       subst a3
       have hlen:rows.length=l.length:=by rw[←hrows];simp
       refine⟨_,_,by rw[hlen],by rw[←hlen];exact a4,fun j x hx=>⟨_,_,rfl,?_⟩⟩
       have hr:rows[j]? =some (bV x):=by rw[←hrows,fH,hx];rfl
       have hq:=ep (wd:=1) (fun i r hr=>a5 i r hr) hr (show(cells (bV x))[0]? =some (bV x) from rfl)
       rw[Nat.mul_one,Nat.add_zero] at hq
       have c1:=a6 j _ hq
       have c2:=a7 j _ hq
       have one:∀v,ct Wn μ W (bV x) v→v=.int .i64 x:=by intro v hv;unfold bV at hv;cases hv;rfl
       rw[c1,one _ c2]
theorem JC (l:List Int)(hl:l.length≤100000):KM Tryz.prog 193 [.fptr (.sl 1 (l.map bV)) 0] l.length (fun k=>[bV ((l.length:Int)-1-k),bV ((l.reverse[k]?).getD 0)]):=by
 intro vals y J Jx hJ hJm hJxm _ hY Wn w h0
 obtain⟨⟨μ,hr⟩,_⟩:=hJ 0 Wn w h0
 obtain⟨vb,us,rfl,hvb,hus⟩:=cD.w6 hr
 obtain rfl:=cD.FE hus
 obtain⟨b,o,rfl⟩:∃b o,vb=.pointer (some ⟨b,o,none⟩):=by cases hvb;exact⟨_,_,rfl⟩
 have box:∀k Wn W,J k Wn W→∃ad cap,W.cell? ⟨b,o,none⟩=some (.slice ad l.length cap)∧l.length≤cap∧∀ (j:Nat) (x:Int),l[j]? =some x→∃b2 o2,ad=some ⟨b2,o2,none⟩∧W.cell? ⟨b2,o2+j,none⟩=some (.int .i64 x):=by
  intro k Wn W hJk
  obtain⟨⟨μ,hr⟩,_⟩:=hJ k Wn W hJk
  obtain⟨v1,us,e,hv1,_⟩:=cD.w6 hr
  cases e
  exact GZ hv1
 refine(callsIn_wide (n:=1)).1 ?_
 refine callsIn_of_wp Tryz.func193 rfl trivial ?_ rfl
 simp only[Tryz.ntmps193,List.size_toArray,List.length_cons,List.length_nil,Nat.reduceAdd,Nat.reduceSub,Array.replicate_succ,Array.replicate_zero,List.push_toArray,List.append_toArray,List.nil_append,List.cons_append]
 obtain⟨ad,cap,hbx,hcap,hel⟩:=box 0 Wn w h0
 gi_wp2
 gi_loopw [3] (fun i wr=> ∃k:Nat,k≤l.length∧i=.int .i64 ((l.length:Int)-1-k)∧∃Wn,J k Wn wr) (fun i _=>(intOf i+1).toNat)
 case atStart=>exact⟨0,Nat.zero_le _,by simp,Wn,h0⟩
 case round=>
  obtain⟨k,hk,rfl,Wn',hJk⟩:=hrel
  obtain⟨ad',cap',hbx',hcap',hel'⟩:=box k Wn' wr hJk
  by_cases hlt:k<l.length
  ·have hix:l.length-1-k<l.length:=by omega
   obtain⟨b2,o2,rfl,hcx⟩:=hel' (l.length-1-k) l[l.length-1-k] (bz hix)
   have hrev:(l.reverse[k]?).getD 0=l[l.length-1-k]:=by
    rw[bz (by simpa using hlt)];simp
   obtain⟨fn,tmps,assign,body,hy,hR⟩:=hY k Wn' wr [.int .i64 ((l.length:Int)-1-k),.int .i64 (l[l.length-1-k])] hlt hJk (fun _ _ _=>by rw[hrev];exact .cons .lit (.cons .lit .nil))
   have hz:((l.length:Int)-1-k).toNat=l.length-1-k:=by omega
   gi_wp2
   refine hR.mono ?_
   rintro e W3 (⟨rfl,Wn3,hJ3,_⟩|⟨rfl,hJx3⟩)
   ·gi_wp2
    go_roundw
    case rel=>exact⟨k+1,by omega,by congr 1;omega,Wn3,hJ3⟩
    case measure=>simp[intOf];omega
   ·gi_wp2
    refine bodyPost_ret (results_none rfl _ _ _) rfl ?_
    exact⟨⟨_,rfl⟩,.inr hJx3⟩
  ·obtain rfl:k=l.length:=by omega
   gi_wp2
   go_end0
   exact⟨⟨_,rfl⟩,.inl ⟨_,hJk⟩⟩
end Go.Proofs.Heir
namespace Go.Proofs.Heir
open Go Go.Am Go.RowKit Go.Lib
set_option maxRecDepth 100000
set_option maxHeartbeats 8000000
theorem IJ (f:ForM)(n:Int):an Tryz.prog 192 [] [aj n,.fptr (aY f) 0] [] (bB (!af f.nodes n)):=by
 obtain⟨l,m⟩:=f
 have hlm:(l.map bJ).length=l.length:=cj ..
 refine an.aF (rvs:=[.tmp 3]) G au Tryz.func192 rfl Tryz.ntmps192 rfl rfl ?_;with_reducible refine wD ?_
 repeat' (first
  |refine pK ?_|refine aE ?_ ?_
  | ((first
   |((with_reducible show bk _ _ _ _);(refine bk.mk (fun hp=>?_) (fun hp=>?_)<;>(try simp only[ay,bO,dh,Bool.not_eq_true',Bool.not_eq_false',Decidable.not_not,Int.not_lt,Int.not_le] at hp))))<;>with_reducible refine wK ?_)
  |apply trivial)
 ·unfold af;rw[bY (show ¬0≤n by omega)];rfl
 ·unfold af;rw[dV hp,hlm,Bool.true_and,←decide_not]
  exact decide_eq_decide.2 Int.not_lt
theorem xK (f:ForM)(hs:bE f.nodes)(l:List Int)(hl:l.length≤100000):an Tryz.prog 147 [] [aY f,cF l] [] (bB (aX f&& !decide (0≤eC (fun n=> !af f.nodes n) l))):=by
 have h48:=ng f hs
 have h106:=Dg 192 M7 [.fptr (aY f) 0] rfl (fun n=> !af f.nodes n) l hl (fun a _=>IJ f a)
 obtain⟨ns,m⟩:=f
 simp only at h48 h106 ⊢
 refine an.aF (rvs:=[.tmp 4]) G au Tryz.func147 rfl Tryz.ntmps147 rfl rfl ?_;with_reducible refine wD ?_
 refine cL h48 jX ?_;with_reducible refine wK ?_
 cases h0:aX ⟨ns,m⟩ with
 | false=>
   repeat' (first
  |refine gK ?_|refine aE ?_ ?_
  | apply trivial)
   all_goals rfl
 | true=>
   repeat' (first
  |refine gK ?_|refine aE ?_ ?_
  | apply trivial)
   refine aa.lit [20] h106 KB ⟨rfl,⟨rfl,trivial,⟨_,_,_,_,_,rfl,rfl,rfl,rfl,rfl,⟨rfl,rfl,trivial⟩⟩,trivial⟩,trivial⟩ rfl rfl ?_;with_reducible refine wK ?_
   repeat' (first
  |refine gK ?_|refine aE ?_ ?_
  | apply trivial)
   all_goals rfl
theorem JN (l:List Int):an Tryz.prog 148 [] [cF l] [] (.clo (.func 193) [] [.fptr (cF l) 0]):=by
 refine an.aF (rvs:=[.tmp 2]) G au Tryz.func148 rfl Tryz.ntmps148 rfl rfl ?_;with_reducible refine wD ?_
 refine⟨⟨rfl,rfl⟩,⟨rfl,trivial,⟨_,_,_,_,_,rfl,rfl,rfl,rfl,rfl,rfl⟩,trivial⟩,?_⟩
 exact trivial
def lU (f:ForM)(n:Int):List Int:=if(aX f&&af f.nodes n)=true then U.bX f.nodes f.nodes.length n else[]
end Go.Proofs.Heir
namespace Go.Proofs.Heir
open Go Go.Am Go.RowKit Go.Shelf
set_option maxRecDepth 100000
set_option maxHeartbeats 8000000

theorem an.at {P:Program}{f:FuncId}{args:List AV}{vs:List Value}{res:AV}{w:World}{Wn:Nat→Prop}{μ:Mu}(h:an P f [] args [] res)(ha:br args=true)(hr:bu res=true)(hv:cD Wn μ w args vs)(hlt:∀b,Wn b→b<w.heap.size)(ht:jG P w fun _=>none):
  Calls P f vs.toArray w fun e w'=> ∃v μ',e=.returned v∧jW w w'∧ct Wn μ' w' res v:=by
 have hW:∀b,Wr Wn (fun _=>none) (aH []) b→Wn b:=by
  rintro b (h|⟨t,B,wd,rows,_,h,_⟩)
  ·exact h
  ·cases h
 have hs:ck P 0 w Wn (fun _=>none) (fun _=>none) (bare []) gi w:=by
  refine⟨rfl,.nil,rfl,rfl,rfl,Nat.le_refl _,fun _ _ _ h=>h,fun _ _ _=>rfl,hlt,fun _ _ _ h=>h,fun t=>by simp[bare,aH],fun _=>.any,fun t wd rows ro h=>?_,fun t t' wd rows wd' rows' ro' B B' _ h=>?_,fun t wd rows ro B h=>?_,ht⟩<;>simp[bare,aH] at h
 refine(h w Wn (fun _=>none) vs (fun _ _=>rfl) hs ?_).mono ?_
 ·exact⟨hv.1,fun j c v hc hv'=>(hv.2 j c v hc hv').bu (fun b _ hb=>hW b hb) (cO.1 ha c (bT hc))⟩
 rintro e w' ⟨v,μ',rfl,hs',hv'⟩
 refine⟨v,μ',rfl,⟨hs'.os,hs'.tape,hs'.output,hs'.hsize,fun b hb=>hs'.keep b hb ?_⟩,hv'.bu (fun b _ hb=>.inl hb) hr⟩
 rintro⟨t,B,h,_⟩
 cases h
end Go.Proofs.Heir
section
namespace Go.Proofs.Heir
open Go Go.Am Go.RowKit Go.Lib
set_option maxRecDepth 100000
set_option maxHeartbeats 8000000
theorem DZ {α:Type}{x y:List α}(hl:x.length=y.length)(h:∀j,j<x.length→x[j]? =y[j]?):x=y:=by
 refine List.ext_getElem? fun j=>?_
 rcases Nat.lt_or_ge j x.length with h6|h6
 ·exact h j h6
 ·rw[ni h6,ni (by omega)]
theorem Dq {α:Type}{x y:List α}{k:Nat}(h:∀j,j<k→x[j]? =y[j]?)(hk:x[k]? =y[k]?):∀j,j<k+1→x[j]? =y[j]? :=fun j hj=>by
 by_cases e:j=k
 ·rw[e];exact hk
 ·exact h j (by omega)
set_option maxHeartbeats 8000000
theorem KT (a b:List Int)(ha:a.length≤100000):an Tryz.prog 25 [] [cF a,cF b] [] (bB (decide (a=b))):=by
 have hlm:(a.map bV).length=a.length:=cj ..
 have hlm':(b.map bV).length=b.length:=cj ..
 refine an.aF (rvs:=[.tmp 4]) G au Tryz.func25 rfl Tryz.ntmps25 rfl rfl ?_;with_reducible refine wD ?_
 by_cases g1:a.length=b.length
 ·(have fct:=And.intro hlm (And.intro hlm' (g1));(repeat' (first
  |refine gF ?_|refine aE ?_ ?_
  |apply trivial));all_goals clear fct)
  refine cn.use G au (fun(k:Nat)=>[(0,cF a),(1,cF b),(5,aj k)]) (fun _=>[]) (fun k=>k≤a.length∧∀j,j<k→a[j]? =b[j]?) (fun k=>a.length-k) 0 ⟨Nat.zero_le _,fun j hj=>by omega⟩
   ⟨⟨rfl,rfl⟩,⟨rfl,rfl,rfl,trivial⟩,trivial⟩ ?_
  intro k ⟨hk,hno⟩
  with_reducible refine wK ?_
  refine bk.mk (fun h1=>?_) (fun h1=>?_)<;>(try simp only[ay] at h1)<;>with_reducible refine wK ?_
  ·simp only[hlm,bO] at h1
   have hk':k<a.length:=by omega
   obtain⟨x,hx⟩:∃x,a[k]? =some x:=⟨_,bz hk'⟩
   obtain⟨y,hy⟩:∃y,b[k]? =some y:=⟨_,bz (by omega)⟩
   refine aG.mk k (aj x) rfl (bK hx) ?_;with_reducible refine wK ?_
   refine aG.mk k (aj y) rfl (bK hy) ?_;with_reducible refine wK ?_
   by_cases e:x=y
   ·(have fct:=e;(repeat' (first
  |refine gF ?_|refine aE ?_ ?_
  |(((with_reducible show cm _ _);refine cm.mk (k+1) ⟨by omega,Dq hno (by rw[hx,hy,e])⟩ (by omega) ⟨⟨rfl,rfl⟩,⟨rfl,rfl,by show((k+1:Nat):Int)=(k:Int)+1;omega,trivial⟩,trivial⟩)<;>with_reducible refine wK ?_)
  | apply trivial));all_goals clear fct)
   ·rw[show decide (a=b)=false from bY fun h=>e (by rw[h] at hx;rw[hx] at hy;exact Option.some.inj hy)]
    (have fct:=e;(repeat' (first
  |refine gF ?_|refine aE ?_ ?_
  |apply trivial));all_goals clear fct)
  ·have hkl:k=a.length:=by simp only[hlm,dh] at h1;omega
   subst hkl
   rw[show decide (a=b)=true from dV (DZ g1 hno)]
   (have fct:=hlm;(repeat' (first
  |refine gF ?_|refine aE ?_ ?_
  |apply trivial));all_goals clear fct)
 ·rw[show decide (a=b)=false from bY fun h=>g1 (by rw[h])]
  (have fct:=And.intro hlm (And.intro hlm' (g1));(repeat' (first
  |refine gF ?_|refine aE ?_ ?_
  |apply trivial));all_goals clear fct)
end Go.Proofs.Heir
end
namespace Go.Proofs.Heir
open Go Go.Am Go.RowKit Go.Lib
set_option maxRecDepth 100000
set_option maxHeartbeats 8000000
structure rY where
 name:ByteArray
 locl:ByteArray
 cls:Int
 deriving DecidableEq
structure Ht where
 name:ByteArray
 ticket:Int
 deriving DecidableEq
structure J1 where
 defs:List rY
 waits:List Ht
 next:Int
 busy:Bool
 deriving DecidableEq
def Mb (s:ByteArray):Bool:=DC Mo s
def LL (x:rY):Bool:=decide (x.locl=x.name)||Mb x.locl
def L7 (x:rY):Bool:=jO x.name&&LL x&&decide (0≤x.cls)&&decide (x.cls<12)
def NZ (s:ByteArray)(x:rY):Bool:=decide (x.name=s)
def Ou {α:Type}(p:α→Bool)(l:List α):Int:=match l.findIdx? p with
 |some k=>(k:Int)
 |none=> -1
def NR (l:List rY)(s:ByteArray):Int:=Ou (NZ s) l
def okW (l:List rY)(next:Int)(w:Ht)(last:Int):Bool:=jO w.name&&decide (NR l w.name=-1)&&decide (last<w.ticket)&&decide (w.ticket<next)
def FC (l:List rY)(next:Int):Int→List Ht→Bool
 |_,[]=>true
 |last,w::r=>okW l next w last&&FC l next w.ticket r
def L4 (l:List rY):Bool:=l.all L7&&decide ((l.map rY.name).Nodup)&&decide ((l.map rY.cls).Nodup)
def KH (d:J1):Bool:=L4 d.defs&&FC d.defs d.next (-1) d.waits&&decide (0≤d.next)&&decide (d.next≤100000)

def xk (k:Nat):ByteArray:=⟨#[120,45,UInt8.ofNat (97+k)]⟩
structure Dc (d:J1) (i:Nat):Prop where
 right:KH d=true
 busy:d.busy=false
 names:∀w∈d.waits,∃k<6,w.name=xk k
 next:d.next≤i
theorem Dc.first:Dc ⟨[],[],0,false⟩ 0:=⟨by decide,rfl,fun w h=>by simp at h,by decide⟩
section
variable {K : Type} [DecidableEq K] (key : rY → K)
end
def kC (x:rY):Int:=x.cls





end Go.Proofs.Heir
namespace Go.Proofs.Heir
open Go Go.Am Go.RowKit Go.Lib
set_option maxRecDepth 100000

end Go.Proofs.Heir
namespace Go.Proofs.Heir
open Go Go.Am Go.RowKit Go.Lib
set_option maxRecDepth 100000
set_option maxHeartbeats 8000000

end Go.Proofs.Heir
namespace Go.Proofs.Heir
open Go Go.Am Go.RowKit Go.Lib
set_option maxRecDepth 100000

end Go.Proofs.Heir
namespace Go.Proofs.Heir
open Go Go.Am Go.RowKit Go.Lib
set_option maxRecDepth 100000
set_option maxHeartbeats 8000000
theorem sY {f:ForM}{n:Int}:∀c∈lU f n,af f.nodes c=true:=by
 intro c hc
 unfold lU at hc
 split at hc
 ·rename_i h
  obtain⟨hr,hn⟩:aX f=true∧af f.nodes n=true:=by simpa using h
  exact(U.ef (U.gl hr) _ n hn c hc).1
 ·simp at hc






def nW (l:List ai)(n:Int):Int:=((U.bA l n).getLast?).getD n
theorem B9 {l:List ai}(T:U.Tree l){n:Int}(hn:af l n=true)(hp:c8 (nd l n)=-1):nW l n=n:=by
 unfold nW;rw[U.dR T hn hp];rfl
theorem zS {l:List ai}(T:U.Tree l){n:Int}(hn:af l n=true)(hp:c8 (nd l n)≠-1)(hu:af l (c8 (nd l n))=true):nW l n=nW l (c8 (nd l n)):=by
 obtain⟨r,hr⟩:=U.dP T hu
 unfold nW;rw[U.bW T hn hp,hr,List.getLast?_cons_cons]
 cases h:(c8 (nd l n)::r).getLast? with
 |none=>simp at h
 |some a=>rfl
theorem uE {l:List ai}(T:U.Tree l):∀n,af l n=true→c8 (nd l n)≠-1→af l (c8 (nd l n))=true:=by
 refine U.gZ T (P:=fun n=>c8 (nd l n)≠-1→af l (c8 (nd l n))=true) (fun n hn h0 h=>absurd h0 h) (fun n hn h0 h1 _ _=>h1)
theorem v7 {l:List ai}(T:U.Tree l):∀n,af l n=true→af l (nW l n)=true:=by
 refine U.gZ T (fun n hn h=>?_) (fun n hn h hu ih=>?_)
 ·rw[B9 T hn h];exact hn
 ·rw[zS T hn h hu];exact ih
theorem Da (f:ForM)(k:Nat)(x:ai)(hx:f.nodes[k]? =some x):an Tryz.prog 149 [] [aY f,aj k] [] (aj (c8 x)):=by
 obtain⟨l,m⟩:=f
 obtain⟨a1,a2,a3,a4,a5,a6,a7,a8,a9,a10⟩:=x
 unfold c8
 refine an.aF (rvs:=[.tmp 4]) G au Tryz.func149 rfl Tryz.ntmps149 rfl rfl ?_;with_reducible refine wD ?_
 by_cases e:a6=-1
 ·subst e
  rw[if_pos rfl]
  repeat' (first
  |refine gK ?_|refine aE ?_ ?_
  |(((with_reducible show aG _ _ _ _ _);refine aG.mk k (az _) rfl (ah hx) ?_)<;>with_reducible refine wK ?_)
  |apply trivial)
 ·rw[if_neg e]
  (have fct:=(eq_false e);(repeat' (first
  |refine gF ?_|refine aE ?_ ?_
  |(((with_reducible show aG _ _ _ _ _);refine aG.mk k (az _) rfl (ah hx) ?_)<;>with_reducible refine wK ?_)
  |apply trivial));all_goals clear fct)
def LH (f:ForM)(n:Int):Int:=if(aX f&&af f.nodes n)=true then nW f.nodes n else-1
theorem Lu (f:ForM)(hs:bE f.nodes)(n:Int):an Tryz.prog 84 [] [aY f,aj n] [] (aj (LH f n)):=by
 have h86:=xK f hs [n] (by simp)
 have e1:(aX f&& !decide (0≤eC (fun n=> !af f.nodes n) [n]))=(aX f&&af f.nodes n):=by
  congr 1
  unfold eC
  cases h:af f.nodes n<;>simp[List.findIdx?_cons,h]
 rw[e1] at h86
 have h87:=fun k x hx=>Da f k x hx
 obtain⟨l,m⟩:=f
 unfold LH
 simp only at h86 h87 ⊢
 refine an.aF (rvs:=[.tmp 4]) G au Tryz.func84 rfl Tryz.ntmps84 rfl rfl ?_;with_reducible refine wD ?_
 cases e0:(aX ⟨l,m⟩&&af l n) with
 | false=>
   rw[e0] at h86
   refine aa.lit [71] h86 H7 ⟨⟨rfl,rfl,trivial⟩,dj (l:=[n]) rfl rfl rfl rfl,trivial⟩ rfl rfl ?_;with_reducible refine wK ?_
   repeat' (first
  |refine gK ?_|refine aE ?_ ?_
  | apply trivial)
   all_goals rfl
 | true=>
   rw[e0] at h86
   refine aa.lit [71] h86 H7 ⟨⟨rfl,rfl,trivial⟩,dj (l:=[n]) rfl rfl rfl rfl,trivial⟩ rfl rfl ?_;with_reducible refine wK ?_
   rw[if_pos rfl]
   obtain⟨hr,hn⟩:aX ⟨l,m⟩=true∧af l n=true:=by simpa using e0
   have T:=U.gl hr
   simp only at T
   repeat' (first
  |refine gK ?_|refine aE ?_ ?_
  | apply trivial)
   refine cn.use G au (fun(c:Int)=>[(1,aj c),(2,.ptr 20 0 0)]) (fun c=>[(20,.live 2 [aY ⟨l,m⟩] false)])
    (fun c=>af l c=true∧nW l c=nW l n) (fun c=>(U.bA l c).length) n ⟨hn,rfl⟩
    (by refine⟨⟨rfl,rfl⟩,⟨rfl,⟨rfl,rfl⟩,trivial⟩,⟨⟨rfl,rfl,trivial⟩,trivial⟩,trivial⟩) ?_
   rintro c ⟨hc,htop⟩
   with_reducible refine wK ?_
   obtain⟨i,y,rfl,hy,hny⟩:=aU.1 hc
   have h:=h87 i y hy
   by_cases e:c8 y=-1
   ·rw[e] at h
    rw[B9 T hc (by rw[hny];exact e)] at htop
    repeat' (first
  |refine gK ?_|refine aE ?_ ?_
  |(((with_reducible refine kQ 149 ?_);refine cL h JV ?_)<;>with_reducible refine wK ?_)
  | apply trivial)
    all_goals exact htop.symm
   ·have hu:=uE T _ hc (by rw[hny];exact e)
    have hst:=zS T hc (by rw[hny];exact e) hu
    have hway:=U.bW T hc (by rw[hny];exact e)
    rw[hny] at hu hst hway
    generalize c8 y=u at h e hu hst hway
    (have fct:=(eq_false e);(repeat' (first
  |refine gF ?_|refine aE ?_ ?_
  |(((with_reducible refine kQ 149 ?_);refine cL h JV ?_)<;>with_reducible refine wK ?_)
  | apply trivial));all_goals clear fct)
    refine cm.mk u ⟨hu,by rw[←hst,htop]⟩ (by rw[hway];simp) ⟨⟨rfl,rfl⟩,⟨rfl,⟨rfl,rfl⟩,trivial⟩,⟨⟨rfl,rfl,trivial⟩,trivial⟩,trivial⟩
def DI (f:ForM)(n:Int):Bool:=(aX f&&af f.nodes n)&&decide ((nd f.nodes (nW f.nodes n)).kind=0)
theorem GY (f:ForM)(hs:bE f.nodes)(n:Int):an Tryz.prog 35 [] [aY f,aj n] [] (bB (DI f n)):=by
 have h63:=Lu f hs n
 unfold LH at h63
 unfold DI
 cases e0:(aX f&&af f.nodes n) with
 | false=>
   rw[e0,if_neg (by simp)] at h63
   obtain⟨l,m⟩:=f
   refine an.aF (rvs:=[.tmp 4]) G au Tryz.func35 rfl Tryz.ntmps35 rfl rfl ?_;with_reducible refine wD ?_
   repeat' (first
  |refine gK ?_|refine aE ?_ ?_
  |(((with_reducible refine kQ 84 ?_);refine cL h63 Of ?_)<;>with_reducible refine wK ?_)
  | apply trivial)
   all_goals rfl
 | true=>
   rw[e0,if_pos rfl] at h63
   obtain⟨hr,hn⟩:aX f=true∧af f.nodes n=true:=by simpa using e0
   have ht:=v7 (U.gl hr) n hn
   obtain⟨l,m⟩:=f
   simp only at h63 ht ⊢
   generalize nW l n=t at h63 ht ⊢
   obtain⟨i,y,rfl,hy,hny⟩:=aU.1 ht
   rw[hny]
   obtain⟨a1,a2,a3,a4,a5,a6,a7,a8,a9,a10⟩:=y
   refine an.aF (rvs:=[.tmp 4]) G au Tryz.func35 rfl Tryz.ntmps35 rfl rfl ?_;with_reducible refine wD ?_
   refine cL h63 Of ?_;with_reducible refine wK ?_
   (have fct:=(show ¬ (i:Int)=-1 by omega);(repeat' (first
  |refine gF ?_|refine aE ?_ ?_
  |(((with_reducible show aG _ _ _ _ _);refine aG.mk i (az _) rfl (ah hy) ?_)<;>with_reducible refine wK ?_)
  | apply trivial));all_goals clear fct)
   all_goals simp
end Go.Proofs.Heir
namespace Go.Proofs.Heir
open Go Go.Am Go.RowKit Go.Lib
set_option maxRecDepth 100000
set_option maxHeartbeats 8000000
set_option maxHeartbeats 8000000
structure RF (l:List ai) (m:Int):Prop where
  head:oV ⟨l,m⟩=true
  Hw:∀n,af l n=true→fq (nd l n)=true
  own:∀n,af l n=true→jY l (nd l n).doc 0=true∧((nd l n).kind=0→(nd l n).doc=n)
  par:∀n,af l n=true→(nd l n).parent≠-1→((nd l n).kind=1∨(nd l n).kind=2)∧af l (nd l n).parent=true∧eN (nd l (nd l n).parent).kind=true∧n∈ (nd l (nd l n).parent).kids
  kid:∀n,af l n=true→∀c∈ (nd l n).kids,af l c=true∧(nd l c).parent=n∧(nd l c).doc=(nd l n).doc∧((nd l c).kind=1∨(nd l c).kind=2∧(nd l n).kind≠0)
  dup:∀n,af l n=true→(nd l n).kids.Nodup
  hold:∀n,af l n=true→(nd l n).kids≠ []→eN (nd l n).kind=true
  elems:∀n,af l n=true→(nd l n).kind=0→cZ l (nd l n).kids≤1
  host:∀n,af l n=true→(nd l n).kind=4→jY l (nd l n).host 1=true∧(nd l (nd l n).host).under=n∧(nd l (nd l n).host).doc=(nd l n).doc
  noh:∀n,af l n=true→(nd l n).kind≠4→(nd l n).host=-1
  und:∀n,af l n=true→(nd l n).under≠-1→(nd l n).kind=1∧jY l (nd l n).under 4=true∧(nd l (nd l n).under).host=n
  ends:∀n,af l n=true→fE l l.length n=true
theorem BM {l:List ai}{n:Int}{x:ai}:dx l n x=true↔fq x=true∧(jY l x.doc 0=true∧(x.kind=0→x.doc=n))∧(x.parent≠-1→(x.kind=1∨x.kind=2)∧af l x.parent=true∧eN (nd l x.parent).kind=true∧n∈ (nd l x.parent).kids)∧
    (∀c∈x.kids,af l c=true∧(nd l c).parent=n∧(nd l c).doc=x.doc∧((nd l c).kind=1∨(nd l c).kind=2∧x.kind≠0))∧x.kids.Nodup∧(x.kids≠ []→eN x.kind=true)∧(x.kind=0→cZ l x.kids≤1)∧
    (x.kind=4→jY l x.host 1=true∧(nd l x.host).under=n∧(nd l x.host).doc=x.doc)∧(x.kind≠4→x.host=-1)∧(x.under≠-1→x.kind=1∧jY l x.under 4=true∧(nd l x.under).host=n):=by
  unfold dx uc rG oS jT me
  simp only[bQ,jK,bO]
  rw[kS]
  have hk:∀c,Ak l n x c=true↔af l c=true∧(nd l c).parent=n∧(nd l c).doc=x.doc∧((nd l c).kind=1∨(nd l c).kind=2∧x.kind≠0):=fun c=>by
    unfold Ak
    simp only[bQ,jK,bO]
  simp only[hk]
  by_cases e4:x.kind=4
  · rw [if_pos e4]
    simp only[bQ,bO]
    constructor
    · rintro⟨a,⟨b1,b2⟩,c,⟨⟨d1,d2,_⟩,e1,e2⟩,f,g⟩
      exact⟨a,⟨b1,fun h=>b2.resolve_left (fun q=>q h)⟩,fun h=>let q:=c.resolve_left h;⟨q.1.1.1,q.1.1.2,q.1.2,q.2⟩,d1,d2,fun h=>e1.resolve_right h,fun h=>e2.resolve_left (fun q=>q h),fun _=>⟨f.1.1,f.1.2,f.2⟩,fun h=>absurd e4 h,fun h=>let q:=g.resolve_left h;⟨q.1.1,q.1.2,q.2⟩⟩
    · rintro⟨a,⟨b1,b2⟩,c,d1,d2,e1,e2,f,_,g⟩
      refine⟨a,⟨b1,?_⟩,?_,⟨⟨d1,d2,fun _ _=>by simp⟩,?_,?_⟩,?_,?_⟩
      · by_cases h:x.kind=0
        ·exact .inr (b2 h)
        ·exact .inl h
      · by_cases h:x.parent=-1
        ·exact .inl h
        ·have q:=c h;exact .inr ⟨⟨⟨q.1,q.2.1⟩,q.2.2.1⟩,q.2.2.2⟩
      · by_cases h:x.kids=[]
        ·exact .inr h
        ·exact .inl (e1 h)
      · by_cases h:x.kind=0
        ·exact .inr (e2 h)
        ·exact .inl h
      ·have q:=f e4;exact⟨⟨q.1,q.2.1⟩,q.2.2⟩
      · by_cases h:x.under=-1
        ·exact .inl h
        ·have q:=g h;exact .inr ⟨⟨q.1,q.2.1⟩,q.2.2⟩
  · rw [if_neg e4]
    simp only[bO]
    constructor
    · rintro⟨a,⟨b1,b2⟩,c,⟨⟨d1,d2,_⟩,e1,e2⟩,f,g⟩
      exact⟨a,⟨b1,fun h=>b2.resolve_left (fun q=>q h)⟩,fun h=>let q:=c.resolve_left h;⟨q.1.1.1,q.1.1.2,q.1.2,q.2⟩,d1,d2,fun h=>e1.resolve_right h,fun h=>e2.resolve_left (fun q=>q h),fun h=>absurd h e4,fun _=>f,fun h=>let q:=g.resolve_left h;⟨q.1.1,q.1.2,q.2⟩⟩
    · rintro⟨a,⟨b1,b2⟩,c,d1,d2,e1,e2,_,f,g⟩
      refine⟨a,⟨b1,?_⟩,?_,⟨⟨d1,d2,fun _ _=>by simp⟩,?_,?_⟩,f e4,?_⟩
      · by_cases h:x.kind=0
        ·exact .inr (b2 h)
        ·exact .inl h
      · by_cases h:x.parent=-1
        ·exact .inl h
        ·have q:=c h;exact .inr ⟨⟨⟨q.1,q.2.1⟩,q.2.2.1⟩,q.2.2.2⟩
      · by_cases h:x.kids=[]
        ·exact .inr h
        ·exact .inl (e1 h)
      · by_cases h:x.kind=0
        ·exact .inr (e2 h)
        ·exact .inl h
      · by_cases h:x.under=-1
        ·exact .inl h
        ·have q:=g h;exact .inr ⟨⟨q.1,q.2.1⟩,q.2.2⟩
theorem cC {l:List ai}{m:Int}:aX ⟨l,m⟩=true↔RF l m:=by
  unfold aX
  simp only[bQ]
  rw[wF (fun n x=>dx l n x),wF (fun n _=>fE l l.length n)]
  simp only[BM]
  constructor
  · rintro⟨h1,h2,h3⟩
    exact⟨h1,fun n hn=>(h2 n hn).1,fun n hn=>(h2 n hn).2.1,fun n hn=>(h2 n hn).2.2.1,fun n hn=>(h2 n hn).2.2.2.1,fun n hn=>(h2 n hn).2.2.2.2.1,fun n hn=>(h2 n hn).2.2.2.2.2.1,fun n hn=>(h2 n hn).2.2.2.2.2.2.1,fun n hn=>(h2 n hn).2.2.2.2.2.2.2.1,fun n hn=>(h2 n hn).2.2.2.2.2.2.2.2.1,fun n hn=>(h2 n hn).2.2.2.2.2.2.2.2.2,h3⟩
  · intro R
    exact⟨R.head,fun n hn=>⟨R.Hw n hn,R.own n hn,R.par n hn,R.kid n hn,R.dup n hn,R.hold n hn,R.elems n hn,R.host n hn,R.noh n hn,R.und n hn⟩,R.ends⟩
def nS (l:List ai)(n:Int)(g:ai→ai):List ai:=l.set n.toNat (g (nd l n))
theorem gS (l:List ai)(n:Int)(g:ai→ai):(nS l n g).length=l.length:=List.length_set ..
theorem bf {l l':List ai}(h:l'.length=l.length)(n:Int):af l' n=af l n:=by unfold af;rw[h]
theorem nc {l:List ai}{n x:Int}(g:ai→ai)(hn:af l n=true)(hx:af l x=true):nd (nS l n g) x=if x=n then g (nd l n) else nd l x:=by
  have h1:=aV hn
  have h2:=aV hx
  show((l.set n.toNat (g (nd l n)))[x.toNat]?).getD FW=_
  rw[List.getElem?_set]
  by_cases e:x=n
  · subst e
    rw[if_pos rfl,if_pos (by omega),if_pos rfl];rfl
  ·rw[if_neg (by omega),if_neg e];rfl
structure eZ (x y:ai):Prop where
  kind:x.kind=y.kind
  name:x.name=y.name
  is:x.is=y.is
  data:x.data=y.data
  attrs:x.attrs=y.attrs
  host:x.host=y.host
  under:x.under=y.under
theorem eZ.refl (x:ai):eZ x x:=⟨rfl,rfl,rfl,rfl,rfl,rfl,rfl⟩
theorem eZ.trans {x y z:ai}(h:eZ x y)(k:eZ y z):eZ x z:=⟨h.1.trans k.1,h.2.trans k.2,h.3.trans k.3,h.4.trans k.4,h.5.trans k.5,h.6.trans k.6,h.7.trans k.7⟩
theorem eZ.Hw {x y:ai}(h:eZ x y):fq x=fq y:=by unfold fq;rw[h.kind,h.name,h.is,h.data,h.attrs]
section
variable {l l' : List ai} {m : Int}
theorem CJ (hl:l'.length=l.length)(hs:∀x,af l x=true→eZ (nd l' x) (nd l x))(a k:Int):jY l' a k=jY l a k:=by
  unfold jY
  rw[bf hl]
  cases h:af l a with
  |false=>rfl
  |true=>rw[(hs a h).kind]
theorem qx (hs:∀x,af l x=true→eZ (nd l' x) (nd l x)){cs:List Int}(h:∀c∈cs,af l c=true):cZ l' cs=cZ l cs:=by
  unfold cZ
  exact List.countP_congr fun c hc=>by rw[(hs c (h c hc)).kind]
theorem RF.pos (R:RF l m):af l 0=true:=by
  have:=R.head
  unfold oV at this
  simp only[bQ,bO] at this
  unfold af
  simp;omega
theorem RF.jA (R:RF l m)(hl:l'.length=l.length)(hs:∀x,af l x=true→eZ (nd l' x) (nd l x))
    (own:∀n,af l n=true→jY l (nd l' n).doc 0=true∧((nd l n).kind=0→(nd l' n).doc=n))
    (par:∀n,af l n=true→(nd l' n).parent≠-1→((nd l n).kind=1∨(nd l n).kind=2)∧af l (nd l' n).parent=true∧eN (nd l (nd l' n).parent).kind=true∧n∈ (nd l' (nd l' n).parent).kids)
    (kid:∀n,af l n=true→∀c∈ (nd l' n).kids,af l c=true∧(nd l' c).parent=n∧(nd l' c).doc=(nd l' n).doc∧((nd l c).kind=1∨(nd l c).kind=2∧(nd l n).kind≠0))
    (dup:∀n,af l n=true→(nd l' n).kids.Nodup) (hold:∀n,af l n=true→(nd l' n).kids≠ []→eN (nd l n).kind=true)
    (elems:∀n,af l n=true→(nd l n).kind=0→cZ l (nd l' n).kids≤1)
    (hdoc:∀n,af l n=true→(nd l n).kind=4→(nd l' (nd l n).host).doc=(nd l' n).doc)
    (ends:∀n,af l n=true→fE l' l.length n=true):RF l' m:=by
  have T:=bf hl
  have I:=CJ hl hs
  have isT:∀ {a k:Int},jY l a k=true→af l a=true:=fun h=>by unfold jY at h;rw[bQ] at h;exact h.1
  refine⟨?_,fun n hn=>?_,fun n hn=>?_,fun n hn h=>?_,fun n hn c hc=>?_,fun n hn=>?_,fun n hn h=>?_,fun n hn h=>?_,fun n hn h=>?_,fun n hn h=>?_,fun n hn h=>?_,fun n hn=>?_⟩
  · have:=R.head
    unfold oV at this ⊢
    rw[hl,(hs 0 R.pos).kind];exact this
  all_goals rw[T] at hn
  ·rw[(hs n hn).Hw];exact R.Hw n hn
  ·rw[I,(hs n hn).kind];exact own n hn
  · have q:=par n hn h
    rw[T,(hs n hn).kind,(hs _ q.2.1).kind];exact q
  · have q:=kid n hn c hc
    rw[T,(hs n hn).kind,(hs c q.1).kind];exact q
  ·exact dup n hn
  ·rw[(hs n hn).kind];exact hold n hn h
  · rw[(hs n hn).kind] at h
    rw[qx hs fun c hc=>(kid n hn c hc).1];exact elems n hn h
  · rw[(hs n hn).kind] at h
    have q:=R.host n hn h
    rw[I,(hs n hn).host,(hs _ (isT q.1)).under]
    exact⟨q.1,q.2.1,hdoc n hn h⟩
  · rw[(hs n hn).kind] at h
    rw[(hs n hn).host];exact R.noh n hn h
  · rw[(hs n hn).under] at h
    have q:=R.und n hn h
    rw[I,(hs n hn).kind,(hs n hn).under,(hs _ (isT q.2.1)).host];exact q
  ·rw[hl];exact ends n hn
theorem RF.tree (R:RF l m):U.Tree l:=U.gl (f:=⟨l,m⟩) (cC.2 R)
theorem RF.up (R:RF l m){n:Int}(hn:af l n=true)(h:c8 (nd l n)≠-1):af l (c8 (nd l n))=true:=uE R.tree n hn h
theorem sA {g g':Int→Int}{P:Int→Prop}(hg:∀x,P x→g' x=g x∨g' x=-1)(hP:∀x,P x→g x≠-1→P (g x)):∀ {k:Nat} {x:Int},P x→fD g k x=true→fD g' k x=true
  |0,_,_,h=>by simp[fD] at h
  | k +1,x,hx,h=>by
    unfold fD at h ⊢
    rcases hg x hx with e|e
    · rw[e]
      by_cases c:g x=-1
      ·rw[if_pos c]
      ·rw[if_neg c] at h ⊢;exact sA hg hP (hP x hx c) h
    ·rw[if_pos e]
theorem kr {g g':Int→Int}{P:Int→Prop}{k:Int}(hg:∀x,P x→x≠k→g' x=g x)(hP:∀x,P x→g x≠-1→P (g x)):∀ {j:Nat} {x:Int},P x→fD g j x=true→k∉qA g j x→fD g' j x=true∧qA g' j x=qA g j x
  |0,_,_,h,_=>by simp[fD] at h
  | j +1,x,hx,h,hk=>by
    unfold fD at h ⊢
    unfold qA at hk ⊢
    have hne:x≠k:=fun e=>hk (e▸dJ)
    rw[hg x hx hne]
    by_cases c:g x=-1
    ·rw[if_pos c,if_pos c,if_pos c];exact⟨rfl,rfl⟩
    · rw[if_neg c] at h hk ⊢
      rw[if_neg c,if_neg c]
      have:=kr hg hP (hP x hx c) h (fun q=>hk (c7 _ q))
      exact⟨this.1,by rw[this.2]⟩
theorem BZ {g g':Int→Int}{P:Int→Prop}{k:Int}(hg:∀x,P x→x≠k→g' x=g x)(hP:∀x,P x→g x≠-1→P (g x)){M:Nat}(hk:fD g' M k=true):∀ {j:Nat} {x:Int},P x→fD g j x=true→fD g' (j+M) x=true
  |0,_,_,h=>by simp[fD] at h
  | j +1,x,hx,h=>by
    by_cases e:x=k
    ·subst e;exact(zI hk (by omega)).2
    · unfold fD at h
      rw[show j+1+M=(j+M)+1 by omega]
      unfold fD
      rw[hg x hx e]
      by_cases c:g x=-1
      ·rw[if_pos c]
      ·rw[if_neg c] at h ⊢;exact BZ hg hP hk (hP x hx c) h
theorem MA (l:List ai):∀ (m:Nat) (n:Int),U.r7 l m n=qA (fun n=>c8 (nd l n)) m n
  |0,_=>rfl
  |m+1,n=>by unfold U.r7 qA;rw[MA l m]
theorem vT (l:List ai)(n:Int):U.bA l n=qA (fun n=>c8 (nd l n)) l.length n:=MA l l.length n
theorem Eh {k:Nat}(hup:∀n,af l n=true→c8 (nd l n)≠-1→af l (c8 (nd l n))=true){n:Int}(hn:af l n=true)(h:fE l k n=true):fE l l.length n=true:=by
  rw[iq] at h ⊢
  exact MJ h (qt (Mg h) fun a ha=>aV (M1 (P:=fun n=>af l n=true) (fun n hn hne=>hup n hn hne) hn a ha))
theorem RF.kL (R:RF l m){n:Int}(hn:af l n=true):c8 (nd l n)≠n:=fun e=>by
  have hp:=aV hn
  have h:=U.bW R.tree hn (by rw[e];omega)
  rw[e] at h
  have:=congrArg List.length h
  simp at this
theorem RF.I3 (R:RF l m){n:Int}(hn:af l n=true)(h:(nd l n).kind=1∨(nd l n).kind=2):c8 (nd l n)=(nd l n).parent:=by
  unfold c8
  split
  ·rename_i e;rw[e];exact R.noh n hn (by omega)
  ·rfl
theorem RF.gj (R:RF l m){n:Int}(hn:af l n=true)(h:(nd l n).parent≠-1):c8 (nd l n)=(nd l n).parent:=by
  unfold c8;rw[if_neg h]
def bI (l:List ai)(n:Int):List ai:=if(nd l n).parent=-1 then l else nS (nS l (nd l n).parent fun x=>{x with kids:=x.kids.erase n}) n fun x=>{x with parent:=-1}
theorem dS (l:List ai)(n:Int):(bI l n).length=l.length:=by
  unfold bI;split
  ·rfl
  ·rw[gS,gS]
theorem K2 (R:RF l m){n x:Int}(hn:af l n=true)(hp:(nd l n).parent≠-1)(hx:af l x=true):
    nd (bI l n) x=if x=n then{nd l n with parent:=-1} else if x=(nd l n).parent then{nd l x with kids:=(nd l x).kids.erase n} else nd l x:=by
  have hpt:=(R.par n hn hp).2.1
  have hne:(nd l n).parent≠n:=by have:=R.kL hn;rwa [R.gj hn hp] at this
  unfold bI
  rw[if_neg hp,nc _ (by rw[bf (gS ..)];exact hn) (by rw[bf (gS ..)];exact hx)]
  by_cases e:x=n
  ·rw[if_pos e,if_pos e,nc _ hpt hn,if_neg (fun q=>hne q.symm)]
  · rw[if_neg e,if_neg e,nc _ hpt hx]
    by_cases c:x=(nd l n).parent
    ·rw[if_pos c,if_pos c,←c]
    ·rw[if_neg c,if_neg c]
theorem gN (R:RF l m){n:Int}(hn:af l n=true)(x:Int)(hx:af l x=true):eZ (nd (bI l n) x) (nd l x)∧(nd (bI l n) x).doc=(nd l x).doc∧((nd (bI l n) x).parent=if x=n then-1 else(nd l x).parent)∧((nd (bI l n) x).kids=if x=(nd l n).parent then(nd l x).kids.erase n else(nd l x).kids):=by
  by_cases hp:(nd l n).parent=-1
  · have h0:=aV hx
    unfold bI
    rw[if_pos hp]
    refine⟨.refl _,rfl,?_,?_⟩
    · split
      ·rename_i e;rw[e,hp]
      ·rfl
    ·rw[if_neg (by omega)]
  · have hne:(nd l n).parent≠n:=by have:=R.kL hn;rwa [R.gj hn hp] at this
    rw[K2 R hn hp hx]
    by_cases e:x=n
    · subst e
      rw[if_pos rfl,if_pos rfl,if_neg (fun q=>hne q.symm)]
      exact⟨⟨rfl,rfl,rfl,rfl,rfl,rfl,rfl⟩,rfl,rfl,rfl⟩
    · rw [if_neg e,if_neg e]
      by_cases c:x=(nd l n).parent
      · rw[if_pos c,if_pos c]
        exact⟨⟨rfl,rfl,rfl,rfl,rfl,rfl,rfl⟩,rfl,rfl,rfl⟩
      · rw[if_neg c,if_neg c]
        exact⟨.refl _,rfl,rfl,rfl⟩
theorem GQ (R:RF l m){n:Int}(hn:af l n=true)(hk:(nd l n).kind=1∨(nd l n).kind=2∨(nd l n).parent=-1)(x:Int)(hx:af l x=true):c8 (nd (bI l n) x)=if x=n∧(nd l n).parent≠-1 then-1 else c8 (nd l x):=by
  obtain⟨h1,_,h3,_⟩:=gN R hn x hx
  by_cases e:x=n
  · subst e
    by_cases hp:(nd l x).parent=-1
    · rw[if_neg (fun q=>q.2 hp)]
      unfold c8
      rw[h3,if_pos rfl,if_pos rfl,if_pos hp,h1.host]
    · rw[if_pos ⟨rfl,hp⟩]
      unfold c8
      rw[h3,if_pos rfl,if_pos rfl,h1.host]
      exact R.noh x hx (by have:=(R.par x hx hp).1;omega)
  · rw[if_neg (fun q=>e q.1)]
    unfold c8
    rw[h3,if_neg e,h1.host]
theorem fm (R:RF l m){n:Int}(hn:af l n=true):RF (bI l n) m:=by
  by_cases hp:(nd l n).parent=-1
  · have e:bI l n=l:=by unfold bI;rw[if_pos hp]
    rw[e];exact R
  have L:=gN R hn
  have hpt:=(R.par n hn hp).2.1
  have hkn:=(R.par n hn hp).1
  refine R.jA (dS l n) (fun x hx=>(L x hx).1) (fun x hx=>?_) (fun x hx h=>?_) (fun x hx c hc=>?_) (fun x hx=>?_) (fun x hx h=>?_) (fun x hx h=>?_) (fun x hx h=>?_) (fun x hx=>?_)
  ·rw[(L x hx).2.1];exact R.own x hx
  · rw [(L x hx).2.2.1] at h ⊢
    by_cases e:x=n
    ·rw[if_pos e] at h;exact absurd rfl h
    · rw[if_neg e] at h ⊢
      obtain⟨q1,q2,q3,q4⟩:=R.par x hx h
      refine⟨q1,q2,q3,?_⟩
      rw[(L _ q2).2.2.2]
      split
      ·exact(List.mem_erase_of_ne e).2 q4
      ·exact q4
  · have hc':c∈ (nd l x).kids:=by
      rw[(L x hx).2.2.2] at hc
      split at hc
      ·exact List.mem_of_mem_erase hc
      ·exact hc
    obtain⟨q1,q2,q3,q4⟩:=R.kid x hx c hc'
    have hcn:c≠n:=fun e=>by
      subst e
      rw[(L x hx).2.2.2,if_pos q2.symm] at hc
      exact(List.Nodup.mem_erase_iff (R.dup x hx)).1 hc|>.1 rfl
    rw[(L c q1).2.2.1,if_neg hcn,(L c q1).2.1,(L x hx).2.1]
    exact⟨q1,q2,q3,q4⟩
  · rw[(L x hx).2.2.2]
    split
    ·exact(R.dup x hx).erase _
    ·exact R.dup x hx
  · refine R.hold x hx fun e=>h ?_
    rw[(L x hx).2.2.2,e];simp
  · rw[(L x hx).2.2.2]
    split
    ·exact Nat.le_trans (List.Sublist.countP_le List.erase_sublist) (R.elems x hx h)
    ·exact R.elems x hx h
  · have q:=(R.host x hx h).1
    have ht:af l (nd l x).host=true:=by unfold jY at q;rw[bQ] at q;exact q.1
    rw[(L _ ht).2.1,(L x hx).2.1];exact(R.host x hx h).2.2
  · rw[iq]
    refine sA (g:=fun n=>c8 (nd l n)) (P:=fun x=>af l x=true) (fun y hy=>?_) (fun y hy h=>R.up hy h) hx (by rw[←iq];exact R.ends x hx)
    have:=GQ R hn (by rcases hkn with k|k<;>simp[k]) y hy
    simp only[this]
    split
    ·exact .inr rfl
    ·exact .inl rfl
def oF (cs:List Int)(b k:Int):List Int:=if b=-1 then cs++ [k] else cs.takeWhile (fun c=>decide (c≠b))++k::cs.dropWhile (fun c=>decide (c≠b))
theorem tP (cs:List Int)(b k:Int):(oF cs b k).Perm (k::cs):=by
  unfold oF
  split
  ·exact List.perm_append_singleton k cs
  · refine List.perm_middle.trans ?_
    rw[List.takeWhile_append_dropWhile]
theorem sC {cs:List Int}{b k c:Int}:c∈oF cs b k↔c=k∨c∈cs:=by rw[(tP cs b k).mem_iff,dm]
def gB (l:List ai)(k p b:Int):List ai:=nS (nS l p fun x=>{x with kids:=oF x.kids b k}) k fun x=>{x with parent:=p}
theorem kz (l:List ai)(k p b:Int):(gB l k p b).length=l.length:=by unfold gB;rw[gS,gS]
theorem rB {k p b:Int}(hk:af l k=true)(hp:af l p=true)(hne:k≠p)(x:Int)(hx:af l x=true):eZ (nd (gB l k p b) x) (nd l x)∧(nd (gB l k p b) x).doc=(nd l x).doc∧((nd (gB l k p b) x).parent=if x=k then p else(nd l x).parent)∧((nd (gB l k p b) x).kids=if x=p then oF (nd l x).kids b k else(nd l x).kids):=by
  unfold gB
  rw[nc _ (by rw[bf (gS ..)];exact hk) (by rw[bf (gS ..)];exact hx)]
  by_cases e:x=k
  · subst e
    rw[if_pos rfl,if_pos rfl,nc _ hp hx,if_neg hne,if_neg hne]
    exact⟨⟨rfl,rfl,rfl,rfl,rfl,rfl,rfl⟩,rfl,rfl,rfl⟩
  · rw [if_neg e,if_neg e,nc _ hp hx]
    by_cases c:x=p
    · subst c
      rw[if_pos rfl,if_pos rfl]
      exact⟨⟨rfl,rfl,rfl,rfl,rfl,rfl,rfl⟩,rfl,rfl,rfl⟩
    · rw[if_neg c,if_neg c]
      exact⟨.refl _,rfl,rfl,rfl⟩
theorem Hy (R:RF l m){k p b:Int}(hk:af l k=true)(hp:af l p=true)(hne:k≠p)(x:Int)(hx:af l x=true):c8 (nd (gB l k p b) x)=if x=k then p else c8 (nd l x):=by
  obtain⟨h1,_,h3,_⟩:=rB (b:=b) hk hp hne x hx
  have:=aV hp
  unfold c8
  rw[h3,h1.host]
  by_cases e:x=k
  ·rw[if_pos e,if_pos e,if_neg (by omega)]
  ·rw[if_neg e,if_neg e]
theorem BN (R:RF l m){k p b:Int}(hk:af l k=true)(hp:af l p=true)(h1:(nd l k).parent=-1)(h2:(nd l k).kind=1∨(nd l k).kind=2)(h3:(nd l k).doc=(nd l p).doc)(h4:eN (nd l p).kind=true)
    (h5:(nd l p).kind=0→(nd l k).kind=1∧cZ l (nd l p).kids=0) (h6:k∉U.bA l p):RF (gB l k p b) m:=by
  have hne:k≠p:=fun e=>h6 (by rw[e];exact U.cV R.tree hp)
  have L:=rB (b:=b) hk hp hne
  have hpp:=aV hp
  have hkk:k∉ (nd l p).kids:=fun h=>by have:=(R.kid p hp k h).2.1;omega
  have hupL:∀x,af l x=true→c8 (nd (gB l k p b) x)=if x=k then p else c8 (nd l x):=Hy R hk hp hne
  refine R.jA (kz l k p b) (fun x hx=>(L x hx).1) (fun x hx=>?_) (fun x hx h=>?_) (fun x hx c hc=>?_) (fun x hx=>?_) (fun x hx h=>?_) (fun x hx h=>?_) (fun x hx h=>?_) (fun x hx=>?_)
  ·rw[(L x hx).2.1];exact R.own x hx
  · rw [(L x hx).2.2.1] at h ⊢
    by_cases e:x=k
    · subst e
      rw[if_pos rfl,(L p hp).2.2.2,if_pos rfl]
      exact⟨h2,hp,h4,sC.2 (.inl rfl)⟩
    · rw[if_neg e] at h ⊢
      obtain⟨q1,q2,q3,q4⟩:=R.par x hx h
      refine⟨q1,q2,q3,?_⟩
      rw[(L _ q2).2.2.2]
      split
      ·exact sC.2 (.inr q4)
      ·exact q4
  · rw [(L x hx).2.2.2] at hc
    have hc':(x=p∧c=k)∨c∈ (nd l x).kids:=by
      split at hc
      · rename_i e
        rcases sC.1 hc with q|q
        ·exact .inl ⟨e,q⟩
        ·exact .inr q
      ·exact .inr hc
    rcases hc' with⟨rfl,rfl⟩|hc'
    · rw [(L c hk).2.2.1,if_pos rfl,(L c hk).2.1,(L x hx).2.1]
      refine⟨hk,rfl,h3,?_⟩
      by_cases e:(nd l x).kind=0
      ·exact .inl (h5 e).1
      · rcases h2 with q|q
        ·exact .inl q
        ·exact .inr ⟨q,e⟩
    · obtain⟨q1,q2,q3,q4⟩:=R.kid x hx c hc'
      have hck:c≠k:=fun e=>by subst e;have:=aV hx;omega
      rw[(L c q1).2.2.1,if_neg hck,(L c q1).2.1,(L x hx).2.1]
      exact⟨q1,q2,q3,q4⟩
  · rw [(L x hx).2.2.2]
    split
    · rename_i e
      subst e
      exact((tP _ b k).nodup_iff).2 (List.nodup_cons.2 ⟨hkk,R.dup x hx⟩)
    ·exact R.dup x hx
  · by_cases e:x=p
    ·rw[e];exact h4
    ·rw[(L x hx).2.2.2,if_neg e] at h;exact R.hold x hx h
  · rw [(L x hx).2.2.2]
    split
    · rename_i e
      subst e
      unfold cZ
      rw[(tP _ b k).countP_eq]
      have:=(h5 h).2
      unfold cZ at this
      rw[List.countP_cons,this]
      split<;>omega
    ·exact R.elems x hx h
  · have q:=(R.host x hx h).1
    have ht:af l (nd l x).host=true:=by unfold jY at q;rw[bQ] at q;exact q.1
    rw[(L _ ht).2.1,(L x hx).2.1];exact(R.host x hx h).2.2
  · have hup':∀n,af (gB l k p b) n=true→c8 (nd (gB l k p b) n)≠-1→af (gB l k p b) (c8 (nd (gB l k p b) n))=true:=fun n hn h=>by
      rw[bf (kz ..)] at hn
      rw[hupL n hn] at h ⊢
      rw[bf (kz ..)]
      split
      ·exact hp
      ·rename_i e;rw[if_neg e] at h;exact R.up hn h
    have hg:∀x,af l x=true→x≠k→(fun n=>c8 (nd (gB l k p b) n)) x=(fun n=>c8 (nd l n)) x:=fun x hx e=>by
      show c8 _=c8 _
      rw[hupL x hx,if_neg e]
    have hP:∀x,af l x=true→(fun n=>c8 (nd l n)) x≠-1→af l ((fun n=>c8 (nd l n)) x)=true:=fun x hx h=>R.up hx h
    have hfp:fD (fun n=>c8 (nd (gB l k p b) n)) l.length p=true:=
      (kr (P:=fun x=>af l x=true) (k:=k) hg hP hp (by rw[←iq];exact R.ends p hp) (by rw[←vT];exact h6)).1
    have hfk:fD (fun n=>c8 (nd (gB l k p b) n)) (l.length+1) k=true:=by
      unfold fD
      simp only[hupL k hk,if_true]
      rw[if_neg (by omega)];exact hfp
    have:=BZ (P:=fun x=>af l x=true) (k:=k) hg hP hfk hx (by rw[←iq];exact R.ends x hx)
    rw[←iq] at this
    have:=Eh hup' (by rw[bf (kz ..)];exact hx) this
    rwa [kz] at this
def rA (l:List ai)(s:List Int)(d:Int):List ai:=s.foldl (fun l k=>nS l k fun x=>{x with doc:=d}) l
theorem yf (d:Int):∀ (s:List Int) (l:List ai),(rA l s d).length=l.length
  |[],_=>rfl
  | k::s,l=>by
    show(rA (nS l k fun x=>{x with doc:=d}) s d).length=_
    rw[yf d s,gS]
theorem GF (d:Int):∀ (s:List Int) (l:List ai),(∀k∈s,af l k=true)→∀x,af l x=true→nd (rA l s d) x=if x∈s then{nd l x with doc:=d} else nd l x
  |[],l,_,x,_=>by rw[if_neg (by simp)];rfl
  | k ::s,l,h,x,hx=>by
    have T:=bf (gS l k fun x=>{x with doc:=d})
    have hk:=h k dJ
    show nd (rA (nS l k fun x=>{x with doc:=d}) s d) x=_
    rw[GF d s _ (fun j hj=>by rw[T];exact h j (c7 _ hj)) x (by rw[T];exact hx),nc _ hk hx]
    by_cases e:x=k
    · subst e
      rw[if_pos rfl,if_pos (dJ)]
      split<;>rfl
    · rw[if_neg e]
      by_cases c:x∈s
      ·rw[if_pos c,if_pos (c7 _ c)]
      ·rw[if_neg c,if_neg (fun q=>(dm.1 q).elim e c)]
theorem tH {s:List Int}{d:Int}(h:∀k∈s,af l k=true)(x:Int)(hx:af l x=true):eZ (nd (rA l s d) x) (nd l x)∧((nd (rA l s d) x).doc=if x∈s then d else(nd l x).doc)∧(nd (rA l s d) x).parent=(nd l x).parent∧(nd (rA l s d) x).kids=(nd l x).kids:=by
  rw[GF d s l h x hx]
  by_cases c:x∈s
  ·rw[if_pos c,if_pos c];exact⟨⟨rfl,rfl,rfl,rfl,rfl,rfl,rfl⟩,rfl,rfl,rfl⟩
  ·rw[if_neg c,if_neg c];exact⟨.refl _,rfl,rfl,rfl⟩
theorem RF.KI (R:RF l m){n:Int}(hn:af l n=true)(h:(nd l n).kind=0):c8 (nd l n)=-1:=by
  unfold c8
  by_cases hp:(nd l n).parent=-1
  ·rw[if_pos hp];exact R.noh n hn (by omega)
  ·have:=(R.par n hn hp).1;omega
theorem Im (R:RF l m){n:Int}(hn:af l n=true)(htop:c8 (nd l n)=-1){x:Int}(hx:af l x=true)(hu:c8 (nd l x)≠-1):x∈U.bX l l.length n↔c8 (nd l x)∈U.bX l l.length n:=by
  rw[U.lp R.tree hn hx,U.lp R.tree hn (R.up hx hu),U.bW R.tree hx hu,dm]
  constructor
  · rintro(e|h)
    ·rw[←e] at hu;exact absurd htop hu
    ·exact h
  ·exact .inr
theorem Ec (R:RF l m){n d:Int}(hn:af l n=true)(htop:c8 (nd l n)=-1)(hk:(nd l n).kind≠0)(hd:jY l d 0=true):RF (rA l (U.bX l l.length n) d) m:=by
  have hs:∀k∈U.bX l l.length n,af l k=true:=fun k h=>(U.ef R.tree _ n hn k h).1
  have L:=tH (d:=d) hs
  have I:=fun{x:Int} (hx:af l x=true)=>Im R hn htop (x:=x) hx
  refine R.jA (yf d _ l) (fun x hx=>(L x hx).1) (fun x hx=>?_) (fun x hx h=>?_) (fun x hx c hc=>?_) (fun x hx=>?_) (fun x hx h=>?_) (fun x hx h=>?_) (fun x hx h=>?_) (fun x hx=>?_)
  · rw [(L x hx).2.1]
    split
    · rename_i e
      refine⟨hd,fun h0=>?_⟩
      have:=(U.lp R.tree hn hx).1 e
      rw[U.dR R.tree hx (R.KI hx h0),gg] at this
      rw[←this] at h0;exact absurd h0 hk
    ·exact R.own x hx
  · rw[(L x hx).2.2.1] at h ⊢
    obtain⟨q1,q2,q3,q4⟩:=R.par x hx h
    exact⟨q1,q2,q3,by rw[(L _ q2).2.2.2];exact q4⟩
  · rw[(L x hx).2.2.2] at hc
    obtain⟨q1,q2,q3,q4⟩:=R.kid x hx c hc
    have h0:=aV hx
    have hu:c8 (nd l c)=x:=by rw[R.gj q1 (by omega),q2]
    have hi:=I q1 (by omega)
    rw[hu] at hi
    rw[(L c q1).2.2.1,(L c q1).2.1,(L x hx).2.1]
    refine⟨q1,q2,?_,q4⟩
    by_cases e:x∈U.bX l l.length n
    ·rw[if_pos e,if_pos (hi.2 e)]
    ·rw[if_neg e,if_neg (fun q=>e (hi.1 q))];exact q3
  ·rw[(L x hx).2.2.2];exact R.dup x hx
  ·rw[(L x hx).2.2.2] at h;exact R.hold x hx h
  ·rw[(L x hx).2.2.2];exact R.elems x hx h
  · obtain⟨q1,q2,q3⟩:=R.host x hx h
    have ht:af l (nd l x).host=true:=by unfold jY at q1;rw[bQ] at q1;exact q1.1
    have hp:(nd l x).parent=-1:=Classical.byContradiction fun c=>by have:=(R.par x hx c).1;omega
    have h0:=aV ht
    have hu:c8 (nd l x)=(nd l x).host:=by unfold c8;rw[if_pos hp]
    have hi:=I hx (by omega)
    rw[hu] at hi
    rw[(L _ ht).2.1,(L x hx).2.1]
    by_cases e:x∈U.bX l l.length n
    ·rw[if_pos e,if_pos (hi.1 e)]
    ·rw[if_neg e,if_neg (fun q=>e (hi.2 q))];exact q3
  · rw[iq]
    refine sA (g:=fun n=>c8 (nd l n)) (P:=fun x=>af l x=true) (fun y hy=>.inl ?_) (fun y hy h=>R.up hy h) hx (by rw[←iq];exact R.ends x hx)
    show c8 _=c8 _
    unfold c8
    rw[(L y hy).2.2.1,(L y hy).1.host]
end
end Go.Proofs.Heir
namespace Go.Proofs.Heir
open Go Go.Am Go.RowKit Go.Lib
set_option maxRecDepth 100000
set_option maxHeartbeats 8000000
structure aR where
 kind:Int
 node:Int
 src:Int
 dst:Int
 name:ByteArray
 had:Bool
 has:Bool
 old:ByteArray
 new:ByteArray
 deriving DecidableEq
@[reducible] def Ka (x : aR) : AV := .agg [aj x.kind, aj x.node, aj x.src, aj x.dst, cu x.name, bB x.had, bB x.has, cu x.old, cu x.new]
def gG (x:aR):AV:=Ka x
end Go.Proofs.Heir
