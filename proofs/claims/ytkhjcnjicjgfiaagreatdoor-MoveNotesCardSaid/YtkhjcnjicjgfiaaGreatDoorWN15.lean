/- Models, plain laws and contracts of functions of the given program; conditions as stated in each theorem. By an AI agent. -/
import Derived.Test.YtkhjcnjicjgfiaaGreatDoorWN14
import Derived.Test.YtkhjcnjicjgfiaaGreatDoorWN13
import Derived.Laws.StructEq
import Derived.Tactics
set_option linter.unusedSimpArgs false
set_option linter.unusedVariables false
namespace Go.Proofs.Heir
open Go Go.Am Go.RowKit Go.Lib
set_option maxRecDepth 100000
set_option maxHeartbeats 8000000
theorem G3 (f:ForM)(n:Int):ak Tryz.prog 192 [] [ah n,.fptr (aM f) 0] [] (bC (!ae f.nodes n)):=by
 obtain⟨l,m⟩:=f
 have hlm:(l.map bF).length=l.length:=bW ..
 refine ak.aD (rvs:=[.tmp 3]) G au Tryz.func192 rfl Tryz.ntmps192 rfl rfl ?_;with_reducible refine wD ?_
 repeat' (first
  |refine pK ?_|refine aE ?_ ?_
  | ((first
   |((with_reducible show aX _ _ _ _);(refine aX.mk (fun hp=>?_) (fun hp=>?_)<;>(try simp only[ay,bH,cR,Bool.not_eq_true',Bool.not_eq_false',Decidable.not_not,Int.not_lt,Int.not_le] at hp))))<;>with_reducible refine wK ?_)
  |apply trivial)
 ·unfold ae;rw[dx (show ¬0≤n by omega)];rfl
 ·unfold ae;rw[dJ hp,hlm,Bool.true_and,←decide_not]
  exact decide_eq_decide.2 Int.not_lt
theorem wN (f:ForM)(hs:bw f.nodes)(l:List Int)(hl:l.length≤100000):ak Tryz.prog 147 [] [aM f,cN l] [] (bC (bt f&& !decide (0≤fU (fun n=> !ae f.nodes n) l))):=by
 have h48:=oy f hs
 have h106:=BM 192 LK [.fptr (aM f) 0] rfl (fun n=> !ae f.nodes n) l hl (fun a _=>G3 f a)
 obtain⟨ns,m⟩:=f
 simp only at h48 h106 ⊢
 refine ak.aD (rvs:=[.tmp 4]) G au Tryz.func147 rfl Tryz.ntmps147 rfl rfl ?_;with_reducible refine wD ?_
 refine cL h48 Em ?_;with_reducible refine wK ?_
 cases h0:bt ⟨ns,m⟩ with
 | false=>
   repeat' (first
  |refine gK ?_|refine aE ?_ ?_
  | apply trivial)
   all_goals rfl
 | true=>
   repeat' (first
  |refine gK ?_|refine aE ?_ ?_
  | apply trivial)
   refine af.lit [20] h106 KD ⟨rfl,⟨rfl,trivial,⟨_,_,_,_,_,rfl,rfl,rfl,rfl,rfl,⟨rfl,rfl,trivial⟩⟩,trivial⟩,trivial⟩ rfl rfl ?_;with_reducible refine wK ?_
   repeat' (first
  |refine gK ?_|refine aE ?_ ?_
  | apply trivial)
   all_goals rfl
theorem Gw (l:List Int):ak Tryz.prog 148 [] [cN l] [] (.clo (.func 193) [] [.fptr (cN l) 0]):=by
 refine ak.aD (rvs:=[.tmp 2]) G au Tryz.func148 rfl Tryz.ntmps148 rfl rfl ?_;with_reducible refine wD ?_
 refine⟨⟨rfl,rfl⟩,⟨rfl,trivial,⟨_,_,_,_,_,rfl,rfl,rfl,rfl,rfl,rfl⟩,trivial⟩,?_⟩
 exact trivial
def lX (f:ForM)(n:Int):List Int:=if(bt f&&ae f.nodes n)=true then U.bT f.nodes f.nodes.length n else[]
end Go.Proofs.Heir
namespace Go.Proofs.Heir
open Go Go.Am Go.RowKit Go.Shelf
set_option maxRecDepth 100000
set_option maxHeartbeats 8000000

theorem ak.at {P:Program}{f:FuncId}{args:List AV}{vs:List Value}{res:AV}{w:World}{Wn:Nat→Prop}{μ:Mu}(h:ak P f [] args [] res)(ha:br args=true)(hr:bz res=true)(hv:cH Wn μ w args vs)(hlt:∀b,Wn b→b<w.heap.size)(ht:kg P w fun _=>none):
  Calls P f vs.toArray w fun e w'=> ∃v μ',e=.returned v∧kL w w'∧cE Wn μ' w' res v:=by
 have hW:∀b,Wr Wn (fun _=>none) (aG []) b→Wn b:=by
  rintro b (h|⟨t,B,wd,rows,_,h,_⟩)
  ·exact h
  ·cases h
 have hs:cB P 0 w Wn (fun _=>none) (fun _=>none) (bare []) iH w:=by
  refine⟨rfl,.nil,rfl,rfl,rfl,Nat.le_refl _,fun _ _ _ h=>h,fun _ _ _=>rfl,hlt,fun _ _ _ h=>h,fun t=>by simp[bare,aG],fun _=>.any,fun t wd rows ro h=>?_,fun t t' wd rows wd' rows' ro' B B' _ h=>?_,fun t wd rows ro B h=>?_,ht⟩<;>simp[bare,aG] at h
 refine(h w Wn (fun _=>none) vs (fun _ _=>rfl) hs ?_).mono ?_
 ·exact⟨hv.1,fun j c v hc hv'=>(hv.2 j c v hc hv').bz (fun b _ hb=>hW b hb) (cT.1 ha c (bO hc))⟩
 rintro e w' ⟨v,μ',rfl,hs',hv'⟩
 refine⟨v,μ',rfl,⟨hs'.os,hs'.tape,hs'.output,hs'.hsize,fun b hb=>hs'.keep b hb ?_⟩,hv'.bz (fun b _ hb=>.inl hb) hr⟩
 rintro⟨t,B,h,_⟩
 cases h
end Go.Proofs.Heir
section
namespace Go.Proofs.Heir
open Go Go.Am Go.RowKit Go.Lib
set_option maxRecDepth 100000
set_option maxHeartbeats 8000000
theorem C6 {α:Type}{x y:List α}(hl:x.length=y.length)(h:∀j,j<x.length→x[j]? =y[j]?):x=y:=by
 refine List.ext_getElem? fun j=>?_
 rcases Nat.lt_or_ge j x.length with h6|h6
 ·exact h j h6
 ·rw[mD h6,mD (by omega)]
theorem C4 {α:Type}{x y:List α}{k:Nat}(h:∀j,j<k→x[j]? =y[j]?)(hk:x[k]? =y[k]?):∀j,j<k+1→x[j]? =y[j]? :=fun j hj=>by
 by_cases e:j=k
 ·rw[e];exact hk
 ·exact h j (by omega)
set_option maxHeartbeats 8000000
theorem IK (a b:List Int)(ha:a.length≤100000):ak Tryz.prog 25 [] [cN a,cN b] [] (bC (decide (a=b))):=by
 have hlm:(a.map bU).length=a.length:=bW ..
 have hlm':(b.map bU).length=b.length:=bW ..
 refine ak.aD (rvs:=[.tmp 4]) G au Tryz.func25 rfl Tryz.ntmps25 rfl rfl ?_;with_reducible refine wD ?_
 by_cases g1:a.length=b.length
 ·(have fct:=And.intro hlm (And.intro hlm' (g1));(repeat' (first
  |refine gF ?_|refine aE ?_ ?_
  |apply trivial));all_goals clear fct)
  refine bX.use G au (fun(k:Nat)=>[(0,cN a),(1,cN b),(5,ah k)]) (fun _=>[]) (fun k=>k≤a.length∧∀j,j<k→a[j]? =b[j]?) (fun k=>a.length-k) 0 ⟨Nat.zero_le _,fun j hj=>by omega⟩
   ⟨⟨rfl,rfl⟩,⟨rfl,rfl,rfl,trivial⟩,trivial⟩ ?_
  intro k ⟨hk,hno⟩
  with_reducible refine wK ?_
  refine aX.mk (fun h1=>?_) (fun h1=>?_)<;>(try simp only[ay] at h1)<;>with_reducible refine wK ?_
  ·simp only[hlm,bH] at h1
   have hk':k<a.length:=by omega
   obtain⟨x,hx⟩:∃x,a[k]? =some x:=⟨_,bD hk'⟩
   obtain⟨y,hy⟩:∃y,b[k]? =some y:=⟨_,bD (by omega)⟩
   refine bg.mk k (ah x) rfl (gr hx) ?_;with_reducible refine wK ?_
   refine bg.mk k (ah y) rfl (gr hy) ?_;with_reducible refine wK ?_
   by_cases e:x=y
   ·(have fct:=e;(repeat' (first
  |refine gF ?_|refine aE ?_ ?_
  |(((with_reducible show bR _ _);refine bR.mk (k+1) ⟨by omega,C4 hno (by rw[hx,hy,e])⟩ (by omega) ⟨⟨rfl,rfl⟩,⟨rfl,rfl,by show((k+1:Nat):Int)=(k:Int)+1;omega,trivial⟩,trivial⟩)<;>with_reducible refine wK ?_)
  | apply trivial));all_goals clear fct)
   ·rw[show decide (a=b)=false from dx fun h=>e (by rw[h] at hx;rw[hx] at hy;exact Option.some.inj hy)]
    (have fct:=e;(repeat' (first
  |refine gF ?_|refine aE ?_ ?_
  |apply trivial));all_goals clear fct)
  ·have hkl:k=a.length:=by simp only[hlm,cR] at h1;omega
   subst hkl
   rw[show decide (a=b)=true from dJ (C6 g1 hno)]
   (have fct:=hlm;(repeat' (first
  |refine gF ?_|refine aE ?_ ?_
  |apply trivial));all_goals clear fct)
 ·rw[show decide (a=b)=false from dx fun h=>g1 (by rw[h])]
  (have fct:=And.intro hlm (And.intro hlm' (g1));(repeat' (first
  |refine gF ?_|refine aE ?_ ?_
  |apply trivial));all_goals clear fct)
end Go.Proofs.Heir
end
namespace Go.Proofs.Heir
open Go Go.Am Go.RowKit Go.Lib
set_option maxRecDepth 100000
set_option maxHeartbeats 8000000
structure rZ where
 name:ByteArray
 locl:ByteArray
 cls:Int
 deriving DecidableEq
structure E5 where
 name:ByteArray
 ticket:Int
 deriving DecidableEq
structure IB where
 defs:List rZ
 waits:List E5
 next:Int
 busy:Bool
 deriving DecidableEq
def Kg (s:ByteArray):Bool:=CI Ky s
def I1 (x:rZ):Bool:=decide (x.locl=x.name)||Kg x.locl
def Kf (x:rZ):Bool:=lN x.name&&I1 x&&decide (0≤x.cls)&&decide (x.cls<12)
def Ll (s:ByteArray)(x:rZ):Bool:=decide (x.name=s)
def MB {α:Type}(p:α→Bool)(l:List α):Int:=match l.findIdx? p with
 |some k=>(k:Int)
 |none=> -1
def LP (l:List rZ)(s:ByteArray):Int:=MB (Ll s) l
def okW (l:List rZ)(next:Int)(w:E5)(last:Int):Bool:=lN w.name&&decide (LP l w.name=-1)&&decide (last<w.ticket)&&decide (w.ticket<next)
def EN (l:List rZ)(next:Int):Int→List E5→Bool
 |_,[]=>true
 |last,w::r=>okW l next w last&&EN l next w.ticket r
def Ko (l:List rZ):Bool:=l.all Kf&&decide ((l.map rZ.name).Nodup)&&decide ((l.map rZ.cls).Nodup)
def JX (d:IB):Bool:=Ko d.defs&&EN d.defs d.next (-1) d.waits&&decide (0≤d.next)&&decide (d.next≤100000)

def xk (k:Nat):ByteArray:=⟨#[120,45,UInt8.ofNat (97+k)]⟩
structure B5 (d:IB) (i:Nat):Prop where
 right:JX d=true
 busy:d.busy=false
 names:∀w∈d.waits,∃k<6,w.name=xk k
 next:d.next≤i
theorem B5.first:B5 ⟨[],[],0,false⟩ 0:=⟨by decide,rfl,fun w h=>by simp at h,by decide⟩
section
variable {K : Type} [DecidableEq K] (key : rZ → K)
end
def kC (x:rZ):Int:=x.cls





end Go.Proofs.Heir
namespace Go.Proofs.Heir
open Go Go.Am Go.RowKit Go.Lib
set_option maxRecDepth 100000

end Go.Proofs.Heir
namespace Go.Proofs.Heir
open Go Go.Am Go.RowKit Go.Lib
set_option maxRecDepth 100000
set_option maxHeartbeats 8000000

end Go.Proofs.Heir
namespace Go.Proofs.Heir
open Go Go.Am Go.RowKit Go.Lib
set_option maxRecDepth 100000

end Go.Proofs.Heir
namespace Go.Proofs.Heir
open Go Go.Am Go.RowKit Go.Lib
set_option maxRecDepth 100000
set_option maxHeartbeats 8000000
theorem tg {f:ForM}{n:Int}:∀c∈lX f n,ae f.nodes c=true:=by
 intro c hc
 unfold lX at hc
 split at hc
 ·rename_i h
  obtain⟨hr,hn⟩:bt f=true∧ae f.nodes n=true:=by simpa using h
  exact(U.dM (U.jv hr) _ n hn c hc).1
 ·simp at hc






def lS (l:List ai)(n:Int):Int:=((U.bf l n).getLast?).getD n
theorem wX {l:List ai}(T:U.Tree l){n:Int}(hn:ae l n=true)(hp:cP (nd l n)=-1):lS l n=n:=by
 unfold lS;rw[U.dL T hn hp];rfl
theorem yS {l:List ai}(T:U.Tree l){n:Int}(hn:ae l n=true)(hp:cP (nd l n)≠-1)(hu:ae l (cP (nd l n))=true):lS l n=lS l (cP (nd l n)):=by
 obtain⟨r,hr⟩:=U.dI T hu
 unfold lS;rw[U.bQ T hn hp,hr,List.getLast?_cons_cons]
 cases h:(cP (nd l n)::r).getLast? with
 |none=>simp at h
 |some a=>rfl
theorem tr {l:List ai}(T:U.Tree l):∀n,ae l n=true→cP (nd l n)≠-1→ae l (cP (nd l n))=true:=by
 refine U.gB T (P:=fun n=>cP (nd l n)≠-1→ae l (cP (nd l n))=true) (fun n hn h0 h=>absurd h0 h) (fun n hn h0 h1 _ _=>h1)
theorem uZ {l:List ai}(T:U.Tree l):∀n,ae l n=true→ae l (lS l n)=true:=by
 refine U.gB T (fun n hn h=>?_) (fun n hn h hu ih=>?_)
 ·rw[wX T hn h];exact hn
 ·rw[yS T hn h hu];exact ih
theorem Cj (f:ForM)(k:Nat)(x:ai)(hx:f.nodes[k]? =some x):ak Tryz.prog 149 [] [aM f,ah k] [] (ah (cP x)):=by
 obtain⟨l,m⟩:=f
 obtain⟨a1,a2,a3,a4,a5,a6,a7,a8,a9,a10⟩:=x
 unfold cP
 refine ak.aD (rvs:=[.tmp 4]) G au Tryz.func149 rfl Tryz.ntmps149 rfl rfl ?_;with_reducible refine wD ?_
 by_cases e:a6=-1
 ·subst e
  rw[if_pos rfl]
  repeat' (first
  |refine gK ?_|refine aE ?_ ?_
  |(((with_reducible show bg _ _ _ _ _);refine bg.mk k (aP _) rfl (aB hx) ?_)<;>with_reducible refine wK ?_)
  |apply trivial)
 ·rw[if_neg e]
  (have fct:=(eq_false e);(repeat' (first
  |refine gF ?_|refine aE ?_ ?_
  |(((with_reducible show bg _ _ _ _ _);refine bg.mk k (aP _) rfl (aB hx) ?_)<;>with_reducible refine wK ?_)
  |apply trivial));all_goals clear fct)
def I0 (f:ForM)(n:Int):Int:=if(bt f&&ae f.nodes n)=true then lS f.nodes n else-1
theorem JQ (f:ForM)(hs:bw f.nodes)(n:Int):ak Tryz.prog 84 [] [aM f,ah n] [] (ah (I0 f n)):=by
 have h86:=wN f hs [n] (by simp)
 have e1:(bt f&& !decide (0≤fU (fun n=> !ae f.nodes n) [n]))=(bt f&&ae f.nodes n):=by
  congr 1
  unfold fU
  cases h:ae f.nodes n<;>simp[List.findIdx?_cons,h]
 rw[e1] at h86
 have h87:=fun k x hx=>Cj f k x hx
 obtain⟨l,m⟩:=f
 unfold I0
 simp only at h86 h87 ⊢
 refine ak.aD (rvs:=[.tmp 4]) G au Tryz.func84 rfl Tryz.ntmps84 rfl rfl ?_;with_reducible refine wD ?_
 cases e0:(bt ⟨l,m⟩&&ae l n) with
 | false=>
   rw[e0] at h86
   refine af.lit [71] h86 HH ⟨⟨rfl,rfl,trivial⟩,cq (l:=[n]) rfl rfl rfl rfl,trivial⟩ rfl rfl ?_;with_reducible refine wK ?_
   repeat' (first
  |refine gK ?_|refine aE ?_ ?_
  | apply trivial)
   all_goals rfl
 | true=>
   rw[e0] at h86
   refine af.lit [71] h86 HH ⟨⟨rfl,rfl,trivial⟩,cq (l:=[n]) rfl rfl rfl rfl,trivial⟩ rfl rfl ?_;with_reducible refine wK ?_
   rw[if_pos rfl]
   obtain⟨hr,hn⟩:bt ⟨l,m⟩=true∧ae l n=true:=by simpa using e0
   have T:=U.jv hr
   simp only at T
   repeat' (first
  |refine gK ?_|refine aE ?_ ?_
  | apply trivial)
   refine bX.use G au (fun(c:Int)=>[(1,ah c),(2,.ptr 20 0 0)]) (fun c=>[(20,.live 2 [aM ⟨l,m⟩] false)])
    (fun c=>ae l c=true∧lS l c=lS l n) (fun c=>(U.bf l c).length) n ⟨hn,rfl⟩
    (by refine⟨⟨rfl,rfl⟩,⟨rfl,⟨rfl,rfl⟩,trivial⟩,⟨⟨rfl,rfl,trivial⟩,trivial⟩,trivial⟩) ?_
   rintro c ⟨hc,htop⟩
   with_reducible refine wK ?_
   obtain⟨i,y,rfl,hy,hny⟩:=aU.1 hc
   have h:=h87 i y hy
   by_cases e:cP y=-1
   ·rw[e] at h
    rw[wX T hc (by rw[hny];exact e)] at htop
    repeat' (first
  |refine gK ?_|refine aE ?_ ?_
  |(((with_reducible refine kQ 149 ?_);refine cL h G8 ?_)<;>with_reducible refine wK ?_)
  | apply trivial)
    all_goals exact htop.symm
   ·have hu:=tr T _ hc (by rw[hny];exact e)
    have hst:=yS T hc (by rw[hny];exact e) hu
    have hway:=U.bQ T hc (by rw[hny];exact e)
    rw[hny] at hu hst hway
    generalize cP y=u at h e hu hst hway
    (have fct:=(eq_false e);(repeat' (first
  |refine gF ?_|refine aE ?_ ?_
  |(((with_reducible refine kQ 149 ?_);refine cL h G8 ?_)<;>with_reducible refine wK ?_)
  | apply trivial));all_goals clear fct)
    refine bR.mk u ⟨hu,by rw[←hst,htop]⟩ (by rw[hway];simp) ⟨⟨rfl,rfl⟩,⟨rfl,⟨rfl,rfl⟩,trivial⟩,⟨⟨rfl,rfl,trivial⟩,trivial⟩,trivial⟩
def DJ (f:ForM)(n:Int):Bool:=(bt f&&ae f.nodes n)&&decide ((nd f.nodes (lS f.nodes n)).kind=0)
theorem EV (f:ForM)(hs:bw f.nodes)(n:Int):ak Tryz.prog 35 [] [aM f,ah n] [] (bC (DJ f n)):=by
 have h63:=JQ f hs n
 unfold I0 at h63
 unfold DJ
 cases e0:(bt f&&ae f.nodes n) with
 | false=>
   rw[e0,if_neg (by simp)] at h63
   obtain⟨l,m⟩:=f
   refine ak.aD (rvs:=[.tmp 4]) G au Tryz.func35 rfl Tryz.ntmps35 rfl rfl ?_;with_reducible refine wD ?_
   repeat' (first
  |refine gK ?_|refine aE ?_ ?_
  |(((with_reducible refine kQ 84 ?_);refine cL h63 Mi ?_)<;>with_reducible refine wK ?_)
  | apply trivial)
   all_goals rfl
 | true=>
   rw[e0,if_pos rfl] at h63
   obtain⟨hr,hn⟩:bt f=true∧ae f.nodes n=true:=by simpa using e0
   have ht:=uZ (U.jv hr) n hn
   obtain⟨l,m⟩:=f
   simp only at h63 ht ⊢
   generalize lS l n=t at h63 ht ⊢
   obtain⟨i,y,rfl,hy,hny⟩:=aU.1 ht
   rw[hny]
   obtain⟨a1,a2,a3,a4,a5,a6,a7,a8,a9,a10⟩:=y
   refine ak.aD (rvs:=[.tmp 4]) G au Tryz.func35 rfl Tryz.ntmps35 rfl rfl ?_;with_reducible refine wD ?_
   refine cL h63 Mi ?_;with_reducible refine wK ?_
   (have fct:=(show ¬ (i:Int)=-1 by omega);(repeat' (first
  |refine gF ?_|refine aE ?_ ?_
  |(((with_reducible show bg _ _ _ _ _);refine bg.mk i (aP _) rfl (aB hy) ?_)<;>with_reducible refine wK ?_)
  | apply trivial));all_goals clear fct)
   all_goals simp
end Go.Proofs.Heir
namespace Go.Proofs.Heir
open Go Go.Am Go.RowKit Go.Lib
set_option maxRecDepth 100000
set_option maxHeartbeats 8000000
set_option maxHeartbeats 8000000
structure RF (l:List ai) (m:Int):Prop where
  head:oz ⟨l,m⟩=true
  Gl:∀n,ae l n=true→fo (nd l n)=true
  own:∀n,ae l n=true→j7 l (nd l n).doc 0=true∧((nd l n).kind=0→(nd l n).doc=n)
  par:∀n,ae l n=true→(nd l n).parent≠-1→((nd l n).kind=1∨(nd l n).kind=2)∧ae l (nd l n).parent=true∧eN (nd l (nd l n).parent).kind=true∧n∈ (nd l (nd l n).parent).kids
  kid:∀n,ae l n=true→∀c∈ (nd l n).kids,ae l c=true∧(nd l c).parent=n∧(nd l c).doc=(nd l n).doc∧((nd l c).kind=1∨(nd l c).kind=2∧(nd l n).kind≠0)
  dup:∀n,ae l n=true→(nd l n).kids.Nodup
  hold:∀n,ae l n=true→(nd l n).kids≠ []→eN (nd l n).kind=true
  elems:∀n,ae l n=true→(nd l n).kind=0→cC l (nd l n).kids≤1
  host:∀n,ae l n=true→(nd l n).kind=4→j7 l (nd l n).host 1=true∧(nd l (nd l n).host).under=n∧(nd l (nd l n).host).doc=(nd l n).doc
  noh:∀n,ae l n=true→(nd l n).kind≠4→(nd l n).host=-1
  und:∀n,ae l n=true→(nd l n).under≠-1→(nd l n).kind=1∧j7 l (nd l n).under 4=true∧(nd l (nd l n).under).host=n
  ends:∀n,ae l n=true→fQ l l.length n=true
theorem Aa {l:List ai}{n:Int}{x:ai}:dB l n x=true↔fo x=true∧(j7 l x.doc 0=true∧(x.kind=0→x.doc=n))∧(x.parent≠-1→(x.kind=1∨x.kind=2)∧ae l x.parent=true∧eN (nd l x.parent).kind=true∧n∈ (nd l x.parent).kids)∧
    (∀c∈x.kids,ae l c=true∧(nd l c).parent=n∧(nd l c).doc=x.doc∧((nd l c).kind=1∨(nd l c).kind=2∧x.kind≠0))∧x.kids.Nodup∧(x.kids≠ []→eN x.kind=true)∧(x.kind=0→cC l x.kids≤1)∧
    (x.kind=4→j7 l x.host 1=true∧(nd l x.host).under=n∧(nd l x.host).doc=x.doc)∧(x.kind≠4→x.host=-1)∧(x.under≠-1→x.kind=1∧j7 l x.under 4=true∧(nd l x.under).host=n):=by
  unfold dB sX rK oW kF tu
  simp only[bN,j8,bH]
  rw[mc]
  have hk:∀c,zq l n x c=true↔ae l c=true∧(nd l c).parent=n∧(nd l c).doc=x.doc∧((nd l c).kind=1∨(nd l c).kind=2∧x.kind≠0):=fun c=>by
    unfold zq
    simp only[bN,j8,bH]
  simp only[hk]
  by_cases e4:x.kind=4
  · rw [if_pos e4]
    simp only[bN,bH]
    constructor
    · rintro⟨a,⟨b1,b2⟩,c,⟨⟨d1,d2,_⟩,e1,e2⟩,f,g⟩
      exact⟨a,⟨b1,fun h=>b2.resolve_left (fun q=>q h)⟩,fun h=>let q:=c.resolve_left h;⟨q.1.1.1,q.1.1.2,q.1.2,q.2⟩,d1,d2,fun h=>e1.resolve_right h,fun h=>e2.resolve_left (fun q=>q h),fun _=>⟨f.1.1,f.1.2,f.2⟩,fun h=>absurd e4 h,fun h=>let q:=g.resolve_left h;⟨q.1.1,q.1.2,q.2⟩⟩
    · rintro⟨a,⟨b1,b2⟩,c,d1,d2,e1,e2,f,_,g⟩
      refine⟨a,⟨b1,?_⟩,?_,⟨⟨d1,d2,fun _ _=>by simp⟩,?_,?_⟩,?_,?_⟩
      · by_cases h:x.kind=0
        ·exact .inr (b2 h)
        ·exact .inl h
      · by_cases h:x.parent=-1
        ·exact .inl h
        ·have q:=c h;exact .inr ⟨⟨⟨q.1,q.2.1⟩,q.2.2.1⟩,q.2.2.2⟩
      · by_cases h:x.kids=[]
        ·exact .inr h
        ·exact .inl (e1 h)
      · by_cases h:x.kind=0
        ·exact .inr (e2 h)
        ·exact .inl h
      ·have q:=f e4;exact⟨⟨q.1,q.2.1⟩,q.2.2⟩
      · by_cases h:x.under=-1
        ·exact .inl h
        ·have q:=g h;exact .inr ⟨⟨q.1,q.2.1⟩,q.2.2⟩
  · rw [if_neg e4]
    simp only[bH]
    constructor
    · rintro⟨a,⟨b1,b2⟩,c,⟨⟨d1,d2,_⟩,e1,e2⟩,f,g⟩
      exact⟨a,⟨b1,fun h=>b2.resolve_left (fun q=>q h)⟩,fun h=>let q:=c.resolve_left h;⟨q.1.1.1,q.1.1.2,q.1.2,q.2⟩,d1,d2,fun h=>e1.resolve_right h,fun h=>e2.resolve_left (fun q=>q h),fun h=>absurd h e4,fun _=>f,fun h=>let q:=g.resolve_left h;⟨q.1.1,q.1.2,q.2⟩⟩
    · rintro⟨a,⟨b1,b2⟩,c,d1,d2,e1,e2,_,f,g⟩
      refine⟨a,⟨b1,?_⟩,?_,⟨⟨d1,d2,fun _ _=>by simp⟩,?_,?_⟩,f e4,?_⟩
      · by_cases h:x.kind=0
        ·exact .inr (b2 h)
        ·exact .inl h
      · by_cases h:x.parent=-1
        ·exact .inl h
        ·have q:=c h;exact .inr ⟨⟨⟨q.1,q.2.1⟩,q.2.2.1⟩,q.2.2.2⟩
      · by_cases h:x.kids=[]
        ·exact .inr h
        ·exact .inl (e1 h)
      · by_cases h:x.kind=0
        ·exact .inr (e2 h)
        ·exact .inl h
      · by_cases h:x.under=-1
        ·exact .inl h
        ·have q:=g h;exact .inr ⟨⟨q.1,q.2.1⟩,q.2.2⟩
theorem ck {l:List ai}{m:Int}:bt ⟨l,m⟩=true↔RF l m:=by
  unfold bt
  simp only[bN]
  rw[vn (fun n x=>dB l n x),vn (fun n _=>fQ l l.length n)]
  simp only[Aa]
  constructor
  · rintro⟨h1,h2,h3⟩
    exact⟨h1,fun n hn=>(h2 n hn).1,fun n hn=>(h2 n hn).2.1,fun n hn=>(h2 n hn).2.2.1,fun n hn=>(h2 n hn).2.2.2.1,fun n hn=>(h2 n hn).2.2.2.2.1,fun n hn=>(h2 n hn).2.2.2.2.2.1,fun n hn=>(h2 n hn).2.2.2.2.2.2.1,fun n hn=>(h2 n hn).2.2.2.2.2.2.2.1,fun n hn=>(h2 n hn).2.2.2.2.2.2.2.2.1,fun n hn=>(h2 n hn).2.2.2.2.2.2.2.2.2,h3⟩
  · intro R
    exact⟨R.head,fun n hn=>⟨R.Gl n hn,R.own n hn,R.par n hn,R.kid n hn,R.dup n hn,R.hold n hn,R.elems n hn,R.host n hn,R.noh n hn,R.und n hn⟩,R.ends⟩
def nZ (l:List ai)(n:Int)(g:ai→ai):List ai:=l.set n.toNat (g (nd l n))
theorem hO (l:List ai)(n:Int)(g:ai→ai):(nZ l n g).length=l.length:=List.length_set ..
theorem aV {l l':List ai}(h:l'.length=l.length)(n:Int):ae l' n=ae l n:=by unfold ae;rw[h]
theorem mZ {l:List ai}{n x:Int}(g:ai→ai)(hn:ae l n=true)(hx:ae l x=true):nd (nZ l n g) x=if x=n then g (nd l n) else nd l x:=by
  have h1:=bj hn
  have h2:=bj hx
  show((l.set n.toNat (g (nd l n)))[x.toNat]?).getD Fs=_
  rw[List.getElem?_set]
  by_cases e:x=n
  · subst e
    rw[if_pos rfl,if_pos (by omega),if_pos rfl];rfl
  ·rw[if_neg (by omega),if_neg e];rfl
structure gH (x y:ai):Prop where
  kind:x.kind=y.kind
  name:x.name=y.name
  is:x.is=y.is
  data:x.data=y.data
  attrs:x.attrs=y.attrs
  host:x.host=y.host
  under:x.under=y.under
theorem gH.refl (x:ai):gH x x:=⟨rfl,rfl,rfl,rfl,rfl,rfl,rfl⟩
theorem gH.trans {x y z:ai}(h:gH x y)(k:gH y z):gH x z:=⟨h.1.trans k.1,h.2.trans k.2,h.3.trans k.3,h.4.trans k.4,h.5.trans k.5,h.6.trans k.6,h.7.trans k.7⟩
theorem gH.Gl {x y:ai}(h:gH x y):fo x=fo y:=by unfold fo;rw[h.kind,h.name,h.is,h.data,h.attrs]
section
variable {l l' : List ai} {m : Int}
theorem xz (hl:l'.length=l.length)(hs:∀x,ae l x=true→gH (nd l' x) (nd l x))(a k:Int):j7 l' a k=j7 l a k:=by
  unfold j7
  rw[aV hl]
  cases h:ae l a with
  |false=>rfl
  |true=>rw[(hs a h).kind]
theorem nN (hs:∀x,ae l x=true→gH (nd l' x) (nd l x)){cs:List Int}(h:∀c∈cs,ae l c=true):cC l' cs=cC l cs:=by
  unfold cC
  exact List.countP_congr fun c hc=>by rw[(hs c (h c hc)).kind]
theorem RF.pos (R:RF l m):ae l 0=true:=by
  have:=R.head
  unfold oz at this
  simp only[bN,bH] at this
  unfold ae
  simp;omega
theorem RF.jX (R:RF l m)(hl:l'.length=l.length)(hs:∀x,ae l x=true→gH (nd l' x) (nd l x))
    (own:∀n,ae l n=true→j7 l (nd l' n).doc 0=true∧((nd l n).kind=0→(nd l' n).doc=n))
    (par:∀n,ae l n=true→(nd l' n).parent≠-1→((nd l n).kind=1∨(nd l n).kind=2)∧ae l (nd l' n).parent=true∧eN (nd l (nd l' n).parent).kind=true∧n∈ (nd l' (nd l' n).parent).kids)
    (kid:∀n,ae l n=true→∀c∈ (nd l' n).kids,ae l c=true∧(nd l' c).parent=n∧(nd l' c).doc=(nd l' n).doc∧((nd l c).kind=1∨(nd l c).kind=2∧(nd l n).kind≠0))
    (dup:∀n,ae l n=true→(nd l' n).kids.Nodup) (hold:∀n,ae l n=true→(nd l' n).kids≠ []→eN (nd l n).kind=true)
    (elems:∀n,ae l n=true→(nd l n).kind=0→cC l (nd l' n).kids≤1)
    (hdoc:∀n,ae l n=true→(nd l n).kind=4→(nd l' (nd l n).host).doc=(nd l' n).doc)
    (ends:∀n,ae l n=true→fQ l' l.length n=true):RF l' m:=by
  have T:=aV hl
  have I:=xz hl hs
  have isT:∀ {a k:Int},j7 l a k=true→ae l a=true:=fun h=>by unfold j7 at h;rw[bN] at h;exact h.1
  refine⟨?_,fun n hn=>?_,fun n hn=>?_,fun n hn h=>?_,fun n hn c hc=>?_,fun n hn=>?_,fun n hn h=>?_,fun n hn h=>?_,fun n hn h=>?_,fun n hn h=>?_,fun n hn h=>?_,fun n hn=>?_⟩
  · have:=R.head
    unfold oz at this ⊢
    rw[hl,(hs 0 R.pos).kind];exact this
  all_goals rw[T] at hn
  ·rw[(hs n hn).Gl];exact R.Gl n hn
  ·rw[I,(hs n hn).kind];exact own n hn
  · have q:=par n hn h
    rw[T,(hs n hn).kind,(hs _ q.2.1).kind];exact q
  · have q:=kid n hn c hc
    rw[T,(hs n hn).kind,(hs c q.1).kind];exact q
  ·exact dup n hn
  ·rw[(hs n hn).kind];exact hold n hn h
  · rw[(hs n hn).kind] at h
    rw[nN hs fun c hc=>(kid n hn c hc).1];exact elems n hn h
  · rw[(hs n hn).kind] at h
    have q:=R.host n hn h
    rw[I,(hs n hn).host,(hs _ (isT q.1)).under]
    exact⟨q.1,q.2.1,hdoc n hn h⟩
  · rw[(hs n hn).kind] at h
    rw[(hs n hn).host];exact R.noh n hn h
  · rw[(hs n hn).under] at h
    have q:=R.und n hn h
    rw[I,(hs n hn).kind,(hs n hn).under,(hs _ (isT q.2.1)).host];exact q
  ·rw[hl];exact ends n hn
theorem RF.tree (R:RF l m):U.Tree l:=U.jv (f:=⟨l,m⟩) (ck.2 R)
theorem RF.up (R:RF l m){n:Int}(hn:ae l n=true)(h:cP (nd l n)≠-1):ae l (cP (nd l n))=true:=tr R.tree n hn h
theorem su {g g':Int→Int}{P:Int→Prop}(hg:∀x,P x→g' x=g x∨g' x=-1)(hP:∀x,P x→g x≠-1→P (g x)):∀ {k:Nat} {x:Int},P x→fZ g k x=true→fZ g' k x=true
  |0,_,_,h=>by simp[fZ] at h
  | k +1,x,hx,h=>by
    unfold fZ at h ⊢
    rcases hg x hx with e|e
    · rw[e]
      by_cases c:g x=-1
      ·rw[if_pos c]
      ·rw[if_neg c] at h ⊢;exact su hg hP (hP x hx c) h
    ·rw[if_pos e]
theorem lq {g g':Int→Int}{P:Int→Prop}{k:Int}(hg:∀x,P x→x≠k→g' x=g x)(hP:∀x,P x→g x≠-1→P (g x)):∀ {j:Nat} {x:Int},P x→fZ g j x=true→k∉r5 g j x→fZ g' j x=true∧r5 g' j x=r5 g j x
  |0,_,_,h,_=>by simp[fZ] at h
  | j +1,x,hx,h,hk=>by
    unfold fZ at h ⊢
    unfold r5 at hk ⊢
    have hne:x≠k:=fun e=>hk (e▸gj)
    rw[hg x hx hne]
    by_cases c:g x=-1
    ·rw[if_pos c,if_pos c,if_pos c];exact⟨rfl,rfl⟩
    · rw[if_neg c] at h hk ⊢
      rw[if_neg c,if_neg c]
      have:=lq hg hP (hP x hx c) h (fun q=>hk (eP _ q))
      exact⟨this.1,by rw[this.2]⟩
theorem BF {g g':Int→Int}{P:Int→Prop}{k:Int}(hg:∀x,P x→x≠k→g' x=g x)(hP:∀x,P x→g x≠-1→P (g x)){M:Nat}(hk:fZ g' M k=true):∀ {j:Nat} {x:Int},P x→fZ g j x=true→fZ g' (j+M) x=true
  |0,_,_,h=>by simp[fZ] at h
  | j +1,x,hx,h=>by
    by_cases e:x=k
    ·subst e;exact(zk hk (by omega)).2
    · unfold fZ at h
      rw[show j+1+M=(j+M)+1 by omega]
      unfold fZ
      rw[hg x hx e]
      by_cases c:g x=-1
      ·rw[if_pos c]
      ·rw[if_neg c] at h ⊢;exact BF hg hP hk (hP x hx c) h
theorem KV (l:List ai):∀ (m:Nat) (n:Int),U.uL l m n=r5 (fun n=>cP (nd l n)) m n
  |0,_=>rfl
  |m+1,n=>by unfold U.uL r5;rw[KV l m]
theorem rX (l:List ai)(n:Int):U.bf l n=r5 (fun n=>cP (nd l n)) l.length n:=KV l l.length n
theorem CJ {k:Nat}(hup:∀n,ae l n=true→cP (nd l n)≠-1→ae l (cP (nd l n))=true){n:Int}(hn:ae l n=true)(h:fQ l k n=true):fQ l l.length n=true:=by
  rw[gU] at h ⊢
  exact Ki h (qf (KJ h) fun a ha=>bj (Lb (P:=fun n=>ae l n=true) (fun n hn hne=>hup n hn hne) hn a ha))
theorem RF.jK (R:RF l m){n:Int}(hn:ae l n=true):cP (nd l n)≠n:=fun e=>by
  have hp:=bj hn
  have h:=U.bQ R.tree hn (by rw[e];omega)
  rw[e] at h
  have:=congrArg List.length h
  simp at this
theorem RF.Bx (R:RF l m){n:Int}(hn:ae l n=true)(h:(nd l n).kind=1∨(nd l n).kind=2):cP (nd l n)=(nd l n).parent:=by
  unfold cP
  split
  ·rename_i e;rw[e];exact R.noh n hn (by omega)
  ·rfl
theorem RF.fE (R:RF l m){n:Int}(hn:ae l n=true)(h:(nd l n).parent≠-1):cP (nd l n)=(nd l n).parent:=by
  unfold cP;rw[if_neg h]
def aZ (l:List ai)(n:Int):List ai:=if(nd l n).parent=-1 then l else nZ (nZ l (nd l n).parent fun x=>{x with kids:=x.kids.erase n}) n fun x=>{x with parent:=-1}
theorem cm (l:List ai)(n:Int):(aZ l n).length=l.length:=by
  unfold aZ;split
  ·rfl
  ·rw[hO,hO]
theorem IX (R:RF l m){n x:Int}(hn:ae l n=true)(hp:(nd l n).parent≠-1)(hx:ae l x=true):
    nd (aZ l n) x=if x=n then{nd l n with parent:=-1} else if x=(nd l n).parent then{nd l x with kids:=(nd l x).kids.erase n} else nd l x:=by
  have hpt:=(R.par n hn hp).2.1
  have hne:(nd l n).parent≠n:=by have:=R.jK hn;rwa [R.fE hn hp] at this
  unfold aZ
  rw[if_neg hp,mZ _ (by rw[aV (hO ..)];exact hn) (by rw[aV (hO ..)];exact hx)]
  by_cases e:x=n
  ·rw[if_pos e,if_pos e,mZ _ hpt hn,if_neg (fun q=>hne q.symm)]
  · rw[if_neg e,if_neg e,mZ _ hpt hx]
    by_cases c:x=(nd l n).parent
    ·rw[if_pos c,if_pos c,←c]
    ·rw[if_neg c,if_neg c]
theorem dH (R:RF l m){n:Int}(hn:ae l n=true)(x:Int)(hx:ae l x=true):gH (nd (aZ l n) x) (nd l x)∧(nd (aZ l n) x).doc=(nd l x).doc∧((nd (aZ l n) x).parent=if x=n then-1 else(nd l x).parent)∧((nd (aZ l n) x).kids=if x=(nd l n).parent then(nd l x).kids.erase n else(nd l x).kids):=by
  by_cases hp:(nd l n).parent=-1
  · have h0:=bj hx
    unfold aZ
    rw[if_pos hp]
    refine⟨.refl _,rfl,?_,?_⟩
    · split
      ·rename_i e;rw[e,hp]
      ·rfl
    ·rw[if_neg (by omega)]
  · have hne:(nd l n).parent≠n:=by have:=R.jK hn;rwa [R.fE hn hp] at this
    rw[IX R hn hp hx]
    by_cases e:x=n
    · subst e
      rw[if_pos rfl,if_pos rfl,if_neg (fun q=>hne q.symm)]
      exact⟨⟨rfl,rfl,rfl,rfl,rfl,rfl,rfl⟩,rfl,rfl,rfl⟩
    · rw [if_neg e,if_neg e]
      by_cases c:x=(nd l n).parent
      · rw[if_pos c,if_pos c]
        exact⟨⟨rfl,rfl,rfl,rfl,rfl,rfl,rfl⟩,rfl,rfl,rfl⟩
      · rw[if_neg c,if_neg c]
        exact⟨.refl _,rfl,rfl,rfl⟩
theorem EH (R:RF l m){n:Int}(hn:ae l n=true)(hk:(nd l n).kind=1∨(nd l n).kind=2∨(nd l n).parent=-1)(x:Int)(hx:ae l x=true):cP (nd (aZ l n) x)=if x=n∧(nd l n).parent≠-1 then-1 else cP (nd l x):=by
  obtain⟨h1,_,h3,_⟩:=dH R hn x hx
  by_cases e:x=n
  · subst e
    by_cases hp:(nd l x).parent=-1
    · rw[if_neg (fun q=>q.2 hp)]
      unfold cP
      rw[h3,if_pos rfl,if_pos rfl,if_pos hp,h1.host]
    · rw[if_pos ⟨rfl,hp⟩]
      unfold cP
      rw[h3,if_pos rfl,if_pos rfl,h1.host]
      exact R.noh x hx (by have:=(R.par x hx hp).1;omega)
  · rw[if_neg (fun q=>e q.1)]
    unfold cP
    rw[h3,if_neg e,h1.host]
theorem cZ (R:RF l m){n:Int}(hn:ae l n=true):RF (aZ l n) m:=by
  by_cases hp:(nd l n).parent=-1
  · have e:aZ l n=l:=by unfold aZ;rw[if_pos hp]
    rw[e];exact R
  have L:=dH R hn
  have hpt:=(R.par n hn hp).2.1
  have hkn:=(R.par n hn hp).1
  refine R.jX (cm l n) (fun x hx=>(L x hx).1) (fun x hx=>?_) (fun x hx h=>?_) (fun x hx c hc=>?_) (fun x hx=>?_) (fun x hx h=>?_) (fun x hx h=>?_) (fun x hx h=>?_) (fun x hx=>?_)
  ·rw[(L x hx).2.1];exact R.own x hx
  · rw [(L x hx).2.2.1] at h ⊢
    by_cases e:x=n
    ·rw[if_pos e] at h;exact absurd rfl h
    · rw[if_neg e] at h ⊢
      obtain⟨q1,q2,q3,q4⟩:=R.par x hx h
      refine⟨q1,q2,q3,?_⟩
      rw[(L _ q2).2.2.2]
      split
      ·exact(List.mem_erase_of_ne e).2 q4
      ·exact q4
  · have hc':c∈ (nd l x).kids:=by
      rw[(L x hx).2.2.2] at hc
      split at hc
      ·exact List.mem_of_mem_erase hc
      ·exact hc
    obtain⟨q1,q2,q3,q4⟩:=R.kid x hx c hc'
    have hcn:c≠n:=fun e=>by
      subst e
      rw[(L x hx).2.2.2,if_pos q2.symm] at hc
      exact(List.Nodup.mem_erase_iff (R.dup x hx)).1 hc|>.1 rfl
    rw[(L c q1).2.2.1,if_neg hcn,(L c q1).2.1,(L x hx).2.1]
    exact⟨q1,q2,q3,q4⟩
  · rw[(L x hx).2.2.2]
    split
    ·exact(R.dup x hx).erase _
    ·exact R.dup x hx
  · refine R.hold x hx fun e=>h ?_
    rw[(L x hx).2.2.2,e];simp
  · rw[(L x hx).2.2.2]
    split
    ·exact Nat.le_trans (List.Sublist.countP_le List.erase_sublist) (R.elems x hx h)
    ·exact R.elems x hx h
  · have q:=(R.host x hx h).1
    have ht:ae l (nd l x).host=true:=by unfold j7 at q;rw[bN] at q;exact q.1
    rw[(L _ ht).2.1,(L x hx).2.1];exact(R.host x hx h).2.2
  · rw[gU]
    refine su (g:=fun n=>cP (nd l n)) (P:=fun x=>ae l x=true) (fun y hy=>?_) (fun y hy h=>R.up hy h) hx (by rw[←gU];exact R.ends x hx)
    have:=EH R hn (by rcases hkn with k|k<;>simp[k]) y hy
    simp only[this]
    split
    ·exact .inr rfl
    ·exact .inl rfl
def qO (cs:List Int)(b k:Int):List Int:=if b=-1 then cs++ [k] else cs.takeWhile (fun c=>decide (c≠b))++k::cs.dropWhile (fun c=>decide (c≠b))
theorem ux (cs:List Int)(b k:Int):(qO cs b k).Perm (k::cs):=by
  unfold qO
  split
  ·exact List.perm_append_singleton k cs
  · refine List.perm_middle.trans ?_
    rw[List.takeWhile_append_dropWhile]
theorem sw {cs:List Int}{b k c:Int}:c∈qO cs b k↔c=k∨c∈cs:=by rw[(ux cs b k).mem_iff,dU]
def dP (l:List ai)(k p b:Int):List ai:=nZ (nZ l p fun x=>{x with kids:=qO x.kids b k}) k fun x=>{x with parent:=p}
theorem iO (l:List ai)(k p b:Int):(dP l k p b).length=l.length:=by unfold dP;rw[hO,hO]
theorem nO {k p b:Int}(hk:ae l k=true)(hp:ae l p=true)(hne:k≠p)(x:Int)(hx:ae l x=true):gH (nd (dP l k p b) x) (nd l x)∧(nd (dP l k p b) x).doc=(nd l x).doc∧((nd (dP l k p b) x).parent=if x=k then p else(nd l x).parent)∧((nd (dP l k p b) x).kids=if x=p then qO (nd l x).kids b k else(nd l x).kids):=by
  unfold dP
  rw[mZ _ (by rw[aV (hO ..)];exact hk) (by rw[aV (hO ..)];exact hx)]
  by_cases e:x=k
  · subst e
    rw[if_pos rfl,if_pos rfl,mZ _ hp hx,if_neg hne,if_neg hne]
    exact⟨⟨rfl,rfl,rfl,rfl,rfl,rfl,rfl⟩,rfl,rfl,rfl⟩
  · rw [if_neg e,if_neg e,mZ _ hp hx]
    by_cases c:x=p
    · subst c
      rw[if_pos rfl,if_pos rfl]
      exact⟨⟨rfl,rfl,rfl,rfl,rfl,rfl,rfl⟩,rfl,rfl,rfl⟩
    · rw[if_neg c,if_neg c]
      exact⟨.refl _,rfl,rfl,rfl⟩
theorem GN (R:RF l m){k p b:Int}(hk:ae l k=true)(hp:ae l p=true)(hne:k≠p)(x:Int)(hx:ae l x=true):cP (nd (dP l k p b) x)=if x=k then p else cP (nd l x):=by
  obtain⟨h1,_,h3,_⟩:=nO (b:=b) hk hp hne x hx
  have:=bj hp
  unfold cP
  rw[h3,h1.host]
  by_cases e:x=k
  ·rw[if_pos e,if_pos e,if_neg (by omega)]
  ·rw[if_neg e,if_neg e]
theorem AO (R:RF l m){k p b:Int}(hk:ae l k=true)(hp:ae l p=true)(h1:(nd l k).parent=-1)(h2:(nd l k).kind=1∨(nd l k).kind=2)(h3:(nd l k).doc=(nd l p).doc)(h4:eN (nd l p).kind=true)
    (h5:(nd l p).kind=0→(nd l k).kind=1∧cC l (nd l p).kids=0) (h6:k∉U.bf l p):RF (dP l k p b) m:=by
  have hne:k≠p:=fun e=>h6 (by rw[e];exact U.cj R.tree hp)
  have L:=nO (b:=b) hk hp hne
  have hpp:=bj hp
  have hkk:k∉ (nd l p).kids:=fun h=>by have:=(R.kid p hp k h).2.1;omega
  have hupL:∀x,ae l x=true→cP (nd (dP l k p b) x)=if x=k then p else cP (nd l x):=GN R hk hp hne
  refine R.jX (iO l k p b) (fun x hx=>(L x hx).1) (fun x hx=>?_) (fun x hx h=>?_) (fun x hx c hc=>?_) (fun x hx=>?_) (fun x hx h=>?_) (fun x hx h=>?_) (fun x hx h=>?_) (fun x hx=>?_)
  ·rw[(L x hx).2.1];exact R.own x hx
  · rw [(L x hx).2.2.1] at h ⊢
    by_cases e:x=k
    · subst e
      rw[if_pos rfl,(L p hp).2.2.2,if_pos rfl]
      exact⟨h2,hp,h4,sw.2 (.inl rfl)⟩
    · rw[if_neg e] at h ⊢
      obtain⟨q1,q2,q3,q4⟩:=R.par x hx h
      refine⟨q1,q2,q3,?_⟩
      rw[(L _ q2).2.2.2]
      split
      ·exact sw.2 (.inr q4)
      ·exact q4
  · rw [(L x hx).2.2.2] at hc
    have hc':(x=p∧c=k)∨c∈ (nd l x).kids:=by
      split at hc
      · rename_i e
        rcases sw.1 hc with q|q
        ·exact .inl ⟨e,q⟩
        ·exact .inr q
      ·exact .inr hc
    rcases hc' with⟨rfl,rfl⟩|hc'
    · rw [(L c hk).2.2.1,if_pos rfl,(L c hk).2.1,(L x hx).2.1]
      refine⟨hk,rfl,h3,?_⟩
      by_cases e:(nd l x).kind=0
      ·exact .inl (h5 e).1
      · rcases h2 with q|q
        ·exact .inl q
        ·exact .inr ⟨q,e⟩
    · obtain⟨q1,q2,q3,q4⟩:=R.kid x hx c hc'
      have hck:c≠k:=fun e=>by subst e;have:=bj hx;omega
      rw[(L c q1).2.2.1,if_neg hck,(L c q1).2.1,(L x hx).2.1]
      exact⟨q1,q2,q3,q4⟩
  · rw [(L x hx).2.2.2]
    split
    · rename_i e
      subst e
      exact((ux _ b k).nodup_iff).2 (List.nodup_cons.2 ⟨hkk,R.dup x hx⟩)
    ·exact R.dup x hx
  · by_cases e:x=p
    ·rw[e];exact h4
    ·rw[(L x hx).2.2.2,if_neg e] at h;exact R.hold x hx h
  · rw [(L x hx).2.2.2]
    split
    · rename_i e
      subst e
      unfold cC
      rw[(ux _ b k).countP_eq]
      have:=(h5 h).2
      unfold cC at this
      rw[List.countP_cons,this]
      split<;>omega
    ·exact R.elems x hx h
  · have q:=(R.host x hx h).1
    have ht:ae l (nd l x).host=true:=by unfold j7 at q;rw[bN] at q;exact q.1
    rw[(L _ ht).2.1,(L x hx).2.1];exact(R.host x hx h).2.2
  · have hup':∀n,ae (dP l k p b) n=true→cP (nd (dP l k p b) n)≠-1→ae (dP l k p b) (cP (nd (dP l k p b) n))=true:=fun n hn h=>by
      rw[aV (iO ..)] at hn
      rw[hupL n hn] at h ⊢
      rw[aV (iO ..)]
      split
      ·exact hp
      ·rename_i e;rw[if_neg e] at h;exact R.up hn h
    have hg:∀x,ae l x=true→x≠k→(fun n=>cP (nd (dP l k p b) n)) x=(fun n=>cP (nd l n)) x:=fun x hx e=>by
      show cP _=cP _
      rw[hupL x hx,if_neg e]
    have hP:∀x,ae l x=true→(fun n=>cP (nd l n)) x≠-1→ae l ((fun n=>cP (nd l n)) x)=true:=fun x hx h=>R.up hx h
    have hfp:fZ (fun n=>cP (nd (dP l k p b) n)) l.length p=true:=
      (lq (P:=fun x=>ae l x=true) (k:=k) hg hP hp (by rw[←gU];exact R.ends p hp) (by rw[←rX];exact h6)).1
    have hfk:fZ (fun n=>cP (nd (dP l k p b) n)) (l.length+1) k=true:=by
      unfold fZ
      simp only[hupL k hk,if_true]
      rw[if_neg (by omega)];exact hfp
    have:=BF (P:=fun x=>ae l x=true) (k:=k) hg hP hfk hx (by rw[←gU];exact R.ends x hx)
    rw[←gU] at this
    have:=CJ hup' (by rw[aV (iO ..)];exact hx) this
    rwa [iO] at this
def l5 (l:List ai)(s:List Int)(d:Int):List ai:=s.foldl (fun l k=>nZ l k fun x=>{x with doc:=d}) l
theorem pH (d:Int):∀ (s:List Int) (l:List ai),(l5 l s d).length=l.length
  |[],_=>rfl
  | k::s,l=>by
    show(l5 (nZ l k fun x=>{x with doc:=d}) s d).length=_
    rw[pH d s,hO]
theorem Fy (d:Int):∀ (s:List Int) (l:List ai),(∀k∈s,ae l k=true)→∀x,ae l x=true→nd (l5 l s d) x=if x∈s then{nd l x with doc:=d} else nd l x
  |[],l,_,x,_=>by rw[if_neg (by simp)];rfl
  | k ::s,l,h,x,hx=>by
    have T:=aV (hO l k fun x=>{x with doc:=d})
    have hk:=h k gj
    show nd (l5 (nZ l k fun x=>{x with doc:=d}) s d) x=_
    rw[Fy d s _ (fun j hj=>by rw[T];exact h j (eP _ hj)) x (by rw[T];exact hx),mZ _ hk hx]
    by_cases e:x=k
    · subst e
      rw[if_pos rfl,if_pos (gj)]
      split<;>rfl
    · rw[if_neg e]
      by_cases c:x∈s
      ·rw[if_pos c,if_pos (eP _ c)]
      ·rw[if_neg c,if_neg (fun q=>(dU.1 q).elim e c)]
theorem pz {s:List Int}{d:Int}(h:∀k∈s,ae l k=true)(x:Int)(hx:ae l x=true):gH (nd (l5 l s d) x) (nd l x)∧((nd (l5 l s d) x).doc=if x∈s then d else(nd l x).doc)∧(nd (l5 l s d) x).parent=(nd l x).parent∧(nd (l5 l s d) x).kids=(nd l x).kids:=by
  rw[Fy d s l h x hx]
  by_cases c:x∈s
  ·rw[if_pos c,if_pos c];exact⟨⟨rfl,rfl,rfl,rfl,rfl,rfl,rfl⟩,rfl,rfl,rfl⟩
  ·rw[if_neg c,if_neg c];exact⟨.refl _,rfl,rfl,rfl⟩
theorem RF.IY (R:RF l m){n:Int}(hn:ae l n=true)(h:(nd l n).kind=0):cP (nd l n)=-1:=by
  unfold cP
  by_cases hp:(nd l n).parent=-1
  ·rw[if_pos hp];exact R.noh n hn (by omega)
  ·have:=(R.par n hn hp).1;omega
theorem Gv (R:RF l m){n:Int}(hn:ae l n=true)(htop:cP (nd l n)=-1){x:Int}(hx:ae l x=true)(hu:cP (nd l x)≠-1):x∈U.bT l l.length n↔cP (nd l x)∈U.bT l l.length n:=by
  rw[U.ju R.tree hn hx,U.ju R.tree hn (R.up hx hu),U.bQ R.tree hx hu,dU]
  constructor
  · rintro(e|h)
    ·rw[←e] at hu;exact absurd htop hu
    ·exact h
  ·exact .inr
theorem wg (R:RF l m){n d:Int}(hn:ae l n=true)(htop:cP (nd l n)=-1)(hk:(nd l n).kind≠0)(hd:j7 l d 0=true):RF (l5 l (U.bT l l.length n) d) m:=by
  have hs:∀k∈U.bT l l.length n,ae l k=true:=fun k h=>(U.dM R.tree _ n hn k h).1
  have L:=pz (d:=d) hs
  have I:=fun{x:Int} (hx:ae l x=true)=>Gv R hn htop (x:=x) hx
  refine R.jX (pH d _ l) (fun x hx=>(L x hx).1) (fun x hx=>?_) (fun x hx h=>?_) (fun x hx c hc=>?_) (fun x hx=>?_) (fun x hx h=>?_) (fun x hx h=>?_) (fun x hx h=>?_) (fun x hx=>?_)
  · rw [(L x hx).2.1]
    split
    · rename_i e
      refine⟨hd,fun h0=>?_⟩
      have:=(U.ju R.tree hn hx).1 e
      rw[U.dL R.tree hx (R.IY hx h0),gA] at this
      rw[←this] at h0;exact absurd h0 hk
    ·exact R.own x hx
  · rw[(L x hx).2.2.1] at h ⊢
    obtain⟨q1,q2,q3,q4⟩:=R.par x hx h
    exact⟨q1,q2,q3,by rw[(L _ q2).2.2.2];exact q4⟩
  · rw[(L x hx).2.2.2] at hc
    obtain⟨q1,q2,q3,q4⟩:=R.kid x hx c hc
    have h0:=bj hx
    have hu:cP (nd l c)=x:=by rw[R.fE q1 (by omega),q2]
    have hi:=I q1 (by omega)
    rw[hu] at hi
    rw[(L c q1).2.2.1,(L c q1).2.1,(L x hx).2.1]
    refine⟨q1,q2,?_,q4⟩
    by_cases e:x∈U.bT l l.length n
    ·rw[if_pos e,if_pos (hi.2 e)]
    ·rw[if_neg e,if_neg (fun q=>e (hi.1 q))];exact q3
  ·rw[(L x hx).2.2.2];exact R.dup x hx
  ·rw[(L x hx).2.2.2] at h;exact R.hold x hx h
  ·rw[(L x hx).2.2.2];exact R.elems x hx h
  · obtain⟨q1,q2,q3⟩:=R.host x hx h
    have ht:ae l (nd l x).host=true:=by unfold j7 at q1;rw[bN] at q1;exact q1.1
    have hp:(nd l x).parent=-1:=Classical.byContradiction fun c=>by have:=(R.par x hx c).1;omega
    have h0:=bj ht
    have hu:cP (nd l x)=(nd l x).host:=by unfold cP;rw[if_pos hp]
    have hi:=I hx (by omega)
    rw[hu] at hi
    rw[(L _ ht).2.1,(L x hx).2.1]
    by_cases e:x∈U.bT l l.length n
    ·rw[if_pos e,if_pos (hi.1 e)]
    ·rw[if_neg e,if_neg (fun q=>e (hi.2 q))];exact q3
  · rw[gU]
    refine su (g:=fun n=>cP (nd l n)) (P:=fun x=>ae l x=true) (fun y hy=>.inl ?_) (fun y hy h=>R.up hy h) hx (by rw[←gU];exact R.ends x hx)
    show cP _=cP _
    unfold cP
    rw[(L y hy).2.2.1,(L y hy).1.host]
end
end Go.Proofs.Heir
namespace Go.Proofs.Heir
open Go Go.Am Go.RowKit Go.Lib
set_option maxRecDepth 100000
set_option maxHeartbeats 8000000
structure aJ where
 kind:Int
 node:Int
 src:Int
 dst:Int
 name:ByteArray
 had:Bool
 has:Bool
 old:ByteArray
 new:ByteArray
 deriving DecidableEq
@[reducible] def jl (x : aJ) : AV := .agg [ah x.kind, ah x.node, ah x.src, ah x.dst, bS x.name, bC x.had, bC x.has, bS x.old, bS x.new]
def dY (x:aJ):AV:=jl x
theorem kW {l:List aJ}{k:Nat}{x:aJ}(h:l[k]? =some x):(l.map dY)[k]? =some (jl x):=by rw[fI,h];rfl
end Go.Proofs.Heir
