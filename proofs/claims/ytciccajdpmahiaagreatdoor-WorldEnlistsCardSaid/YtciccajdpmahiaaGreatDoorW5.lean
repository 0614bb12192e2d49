/- Models, plain laws and contracts of functions of the given program; conditions as stated in each theorem. By an AI agent. -/
import Derived.Test.YtciccajdpmahiaaGreatDoorW4
import Derived.Laws.StructEq
import Derived.Tactics
import Derived.Test.YtciccajdpmahiaaGreatDoorW3
set_option linter.unusedSimpArgs false
set_option linter.unusedVariables false
section
namespace Go.Proofs.Heir
open Go Go.Am Go.RowKit Go.Lib
set_option maxRecDepth 100000
set_option maxHeartbeats 8000000
theorem mG {α:Type}{x y:List α}(hl:x.length=y.length)(h:∀j,j<x.length→x[j]? =y[j]?):x=y:=by
 refine List.ext_getElem? fun j=>?_
 rcases Nat.lt_or_ge j x.length with h6|h6
 ·exact h j h6
 ·rw[List.getElem?_eq_none h6,List.getElem?_eq_none (by omega)]
theorem mI {α:Type}{x y:List α}{k:Nat}(h:∀j,j<k→x[j]? =y[j]?)(hk:x[k]? =y[k]?):∀j,j<k+1→x[j]? =y[j]? :=fun j hj=>by
 by_cases e:j=k
 ·rw[e];exact hk
 ·exact h j (by omega)
set_option maxHeartbeats 8000000
def oq (x:bD):Bool:=decide (x.name.size≤300)&&decide (x.locl.size≤300)
def rK (w:nU):Bool:=decide (w.name.size≤300)
def o7 (d:aZ):Bool:=decide (d.defs.length≤40)&&decide (d.waits.length≤40)&&d.defs.all oq&&d.waits.all rK
theorem kT {d:aZ}:o7 d=true↔DQ d:=by
 unfold o7 oq rK
 simp only[Bool.and_eq_true,decide_eq_true_eq,List.all_eq_true]
 exact⟨fun h=>⟨h.1.1.1,h.1.1.2,h.1.2,h.2⟩,fun h=>⟨⟨⟨h.defs,h.waits⟩,h.names⟩,h.wnames⟩⟩
theorem BW {α:Type}{p:α→Bool}{l:List α}(h:∀ (j:Nat) (b:α),j<l.length→l[j]? =some b→p b=true):l.all p=true:=by
 rw[List.all_eq_true]
 intro x hx
 obtain⟨j,hj⟩:=List.getElem?_of_mem hx
 exact h j x (List.getElem?_eq_some_iff.1 hj).1 hj
theorem yU {α:Type}{p:α→Bool}{l:List α}{x:α}(hx:x∈l)(h:p x=false):l.all p=false:=by
 cases hh:l.all p with
 |false=>rfl
 |true=>rw[List.all_eq_true.1 hh x hx] at h;cases h
theorem Nu (d:aZ):ah Tryz.prog 68 [] [gi d] [] (aA (o7 d)):=by
 obtain⟨r,hr⟩:∃r,o7 d=r:=⟨_,rfl⟩
 rw[hr]
 have hsh:=@kT d
 rw[hr] at hsh
 obtain⟨l,ws,nx,bz⟩:=d
 unfold o7 at hr
 simp only at hr
 have hlm:(l.map fH).length=l.length:=List.length_map ..
 have hwm:(ws.map rV).length=ws.length:=List.length_map ..
 refine ah.af (rvs:=[.tmp 2]) G aa Tryz.func68 rfl Tryz.ntmps68 rfl rfl ?_;with_reducible refine wD ?_
 by_cases g1:l.length≤40
 ·by_cases g2:ws.length≤40
  ·(have fct:=And.intro hlm (And.intro hwm (And.intro g1 (g2)));(repeat' (first
  |refine gF ?_|refine aE ?_ ?_
  | apply trivial));all_goals clear fct)
   refine aU.use G aa (fun(k:Nat)=>[(1,.ptr 10 0 0),(3,aq k)]) (fun _=>[(10,.live 4 [gi ⟨l,ws,nx,bz⟩] false)]) (fun k=>k≤l.length∧∀ (j:Nat) (b:bD),j<k→l[j]? =some b→oq b=true) (fun k=>l.length-k) 0 ⟨Nat.zero_le _,fun j b hj=>by omega⟩
    ⟨⟨rfl,rfl⟩,⟨⟨rfl,rfl⟩,rfl,trivial⟩,⟨⟨rfl,rfl,rfl,rfl,trivial⟩,trivial⟩,trivial⟩ ?_
   intro k ⟨hk,hno⟩
   with_reducible refine wK ?_
   refine bq.mk (fun h1=>?_) (fun h1=>?_)<;>(try simp only[aF] at h1)<;>with_reducible refine wK ?_
   ·simp only[hlm,decide_eq_true_eq] at h1
    have hk':k<l.length:=by omega
    obtain⟨⟨n,lo,c⟩,hx⟩:∃a,l[k]? =some a:=⟨_,List.getElem?_eq_getElem hk'⟩
    have hf:oq ⟨n,lo,c⟩=false→r=false:=fun h=>by rw[←hr,yU (List.mem_of_getElem? hx) h];simp
    refine ay.mk k (jH ⟨n,lo,c⟩) rfl (dD hx) ?_;with_reducible refine wK ?_
    by_cases e1:n.size≤300
    ·by_cases e2:lo.size≤300
     ·(have fct:=And.intro e1 (e2);(repeat' (first
  |refine gF ?_|refine aE ?_ ?_
  | ((first
   |((with_reducible show ay _ _ _ _ _);refine ay.mk k (jH ⟨n,lo,c⟩) rfl (dD hx) ?_)
   |((with_reducible show aL _ _);refine aL.mk (k+1) ⟨by omega,zK (P:=fun b=>oq b=true) hno hx (by unfold oq;simp[e1,e2])⟩ (by omega) ⟨⟨rfl,rfl⟩,⟨⟨rfl,rfl⟩,by show((k+1:Nat):Int)=(k:Int)+1;omega,trivial⟩,⟨⟨rfl,rfl,rfl,rfl,trivial⟩,trivial⟩,trivial⟩))<;>with_reducible refine wK ?_)
  |apply trivial));all_goals clear fct)
     ·rw[hf (by unfold oq;simp[e2])]
      (have fct:=And.intro e1 (e2);(repeat' (first
  |refine gF ?_|refine aE ?_ ?_
  |(((with_reducible show ay _ _ _ _ _);refine ay.mk k (jH ⟨n,lo,c⟩) rfl (dD hx) ?_)<;>with_reducible refine wK ?_)
  | apply trivial));all_goals clear fct)
    ·rw[hf (by unfold oq;simp[e1])]
     (have fct:=e1;(repeat' (first
  |refine gF ?_|refine aE ?_ ?_
  | apply trivial));all_goals clear fct)
   ·have hkl:k=l.length:=by simp only[hlm,decide_eq_false_iff_not] at h1;omega
    subst hkl
    have hall1:=BW hno
    (have fct:=hlm;(repeat' (first
  |refine gF ?_|refine aE ?_ ?_
  | apply trivial));all_goals clear fct)
    refine aU.use G aa (fun(k:Nat)=>[(1,.ptr 10 0 0),(4,aq k)]) (fun _=>[(10,.live 4 [gi ⟨l,ws,nx,bz⟩] false)]) (fun k=>k≤ws.length∧∀ (j:Nat) (b:nU),j<k→ws[j]? =some b→rK b=true) (fun k=>ws.length-k) 0 ⟨Nat.zero_le _,fun j b hj=>by omega⟩
     ⟨⟨rfl,rfl⟩,⟨⟨rfl,rfl⟩,rfl,trivial⟩,⟨⟨rfl,rfl,rfl,rfl,trivial⟩,trivial⟩,trivial⟩ ?_
    intro k ⟨hk,hno⟩
    with_reducible refine wK ?_
    refine bq.mk (fun h2=>?_) (fun h2=>?_)<;>(try simp only[aF] at h2)<;>with_reducible refine wK ?_
    ·simp only[hwm,decide_eq_true_eq] at h2
     have hk':k<ws.length:=by omega
     obtain⟨⟨n,t⟩,hx⟩:∃a,ws[k]? =some a:=⟨_,List.getElem?_eq_getElem hk'⟩
     have hf:rK ⟨n,t⟩=false→r=false:=fun h=>by rw[←hr,yU (List.mem_of_getElem? hx) h];simp
     refine ay.mk k (Ci ⟨n,t⟩) rfl (xD hx) ?_;with_reducible refine wK ?_
     by_cases e1:n.size≤300
     ·(have fct:=e1;(repeat' (first
  |refine gF ?_|refine aE ?_ ?_
  |(((with_reducible show aL _ _);refine aL.mk (k+1) ⟨by omega,zK (P:=fun b=>rK b=true) hno hx (by unfold rK;simp[e1])⟩ (by omega) ⟨⟨rfl,rfl⟩,⟨⟨rfl,rfl⟩,by show((k+1:Nat):Int)=(k:Int)+1;omega,trivial⟩,⟨⟨rfl,rfl,rfl,rfl,trivial⟩,trivial⟩,trivial⟩)<;>with_reducible refine wK ?_)
  |apply trivial));all_goals clear fct)
     ·rw[hf (by unfold rK;simp[e1])]
      (have fct:=e1;(repeat' (first
  |refine gF ?_|refine aE ?_ ?_
  | apply trivial));all_goals clear fct)
    ·have hkl:k=ws.length:=by simp only[hwm,decide_eq_false_iff_not] at h2;omega
     subst hkl
     have hall2:=BW hno
     rw[show r=true by rw[←hr,hall1,hall2];simp[g1,g2]]
     (have fct:=hwm;(repeat' (first
  |refine gF ?_|refine aE ?_ ?_
  |apply trivial));all_goals clear fct)
  ·rw[show r=false by rw[←hr];simp[g2]]
   (have fct:=And.intro hlm (And.intro hwm (And.intro g1 (g2)));(repeat' (first
  |refine gF ?_|refine aE ?_ ?_
  |apply trivial));all_goals clear fct)
 ·rw[show r=false by rw[←hr];simp[g1]]
  (have fct:=And.intro hlm (g1);(repeat' (first
  |refine gF ?_|refine aE ?_ ?_
  |apply trivial));all_goals clear fct)
theorem Bf (a b:List Int)(ha:a.length≤100000):ah Tryz.prog 44 [] [bY a,bY b] [] (aA (decide (a=b))):=by
 have hlm:(a.map bF).length=a.length:=List.length_map ..
 have hlm':(b.map bF).length=b.length:=List.length_map ..
 refine ah.af (rvs:=[.tmp 4]) G aa Tryz.func44 rfl Tryz.ntmps44 rfl rfl ?_;with_reducible refine wD ?_
 by_cases g1:a.length=b.length
 ·(have fct:=And.intro hlm (And.intro hlm' (g1));(repeat' (first
  |refine gF ?_|refine aE ?_ ?_
  |apply trivial));all_goals clear fct)
  refine aU.use G aa (fun(k:Nat)=>[(0,bY a),(1,bY b),(5,aq k)]) (fun _=>[]) (fun k=>k≤a.length∧∀j,j<k→a[j]? =b[j]?) (fun k=>a.length-k) 0 ⟨Nat.zero_le _,fun j hj=>by omega⟩
   ⟨⟨rfl,rfl⟩,⟨rfl,rfl,rfl,trivial⟩,trivial⟩ ?_
  intro k ⟨hk,hno⟩
  with_reducible refine wK ?_
  refine bq.mk (fun h1=>?_) (fun h1=>?_)<;>(try simp only[aF] at h1)<;>with_reducible refine wK ?_
  ·simp only[hlm,decide_eq_true_eq] at h1
   have hk':k<a.length:=by omega
   obtain⟨x,hx⟩:∃x,a[k]? =some x:=⟨_,List.getElem?_eq_getElem hk'⟩
   obtain⟨y,hy⟩:∃y,b[k]? =some y:=⟨_,List.getElem?_eq_getElem (by omega)⟩
   refine ay.mk k (aq x) rfl (fZ hx) ?_;with_reducible refine wK ?_
   refine ay.mk k (aq y) rfl (fZ hy) ?_;with_reducible refine wK ?_
   by_cases e:x=y
   ·(have fct:=e;(repeat' (first
  |refine gF ?_|refine aE ?_ ?_
  |(((with_reducible show aL _ _);refine aL.mk (k+1) ⟨by omega,mI hno (by rw[hx,hy,e])⟩ (by omega) ⟨⟨rfl,rfl⟩,⟨rfl,rfl,by show((k+1:Nat):Int)=(k:Int)+1;omega,trivial⟩,trivial⟩)<;>with_reducible refine wK ?_)
  | apply trivial));all_goals clear fct)
   ·rw[show decide (a=b)=false from decide_eq_false fun h=>e (by rw[h] at hx;rw[hx] at hy;exact Option.some.inj hy)]
    (have fct:=e;(repeat' (first
  |refine gF ?_|refine aE ?_ ?_
  |apply trivial));all_goals clear fct)
  ·have hkl:k=a.length:=by simp only[hlm,decide_eq_false_iff_not] at h1;omega
   subst hkl
   rw[show decide (a=b)=true from decide_eq_true (mG g1 hno)]
   (have fct:=hlm;(repeat' (first
  |refine gF ?_|refine aE ?_ ?_
  |apply trivial));all_goals clear fct)
 ·rw[show decide (a=b)=false from decide_eq_false fun h=>g1 (by rw[h])]
  (have fct:=And.intro hlm (And.intro hlm' (g1));(repeat' (first
  |refine gF ?_|refine aE ?_ ?_
  |apply trivial));all_goals clear fct)
end Go.Proofs.Heir
end
namespace Go.Proofs.Heir
open Go Go.Am Go.RowKit Go.Lib
set_option maxRecDepth 100000
def qp (s i:ByteArray):Int:=if(!decide (i=⟨#[]⟩)||cK s)=true then 1 else 0
theorem Kr (s i:ByteArray):ah Tryz.prog 41 [] [cm s,cm i] [] (aq (qp s i)):=by
 have h42:=vB s
 unfold qp
 refine ah.af (rvs:=[.tmp 4]) G aa Tryz.func41 rfl Tryz.ntmps41 rfl rfl ?_;with_reducible refine wD ?_
 cases e:decide (i=⟨#[]⟩) with
 | true=>
   cases hc:cK s<;>rw[hc] at h42<;>(have fct:=e;(repeat' (first
  |refine gF ?_|refine aE ?_ ?_
  |(((with_reducible refine kQ 109 ?_);refine cL h42 kJ ?_)<;>with_reducible refine wK ?_)
  | apply trivial))                            ;all_goals clear fct)
   all_goals rfl
 | false=>
   (have fct:=e;(repeat' (first
  |refine gF ?_|refine aE ?_ ?_
  | apply trivial));all_goals clear fct)
   all_goals rfl
def Cs (x:au)(d:aZ):Int:=if x.kind=1∧x.doc=0 then findD d x.name x.is else-1
theorem Le (x:au)(d:aZ)(h:iS d):ah Tryz.prog 125 [] [aS x,gi d] [] (aq (Cs x d)):=by
 have h78:=Me d h x.name x.is
 obtain⟨a1,a2,a3,a4,a5,a6,a7,a8,a9,a10⟩:=x
 obtain⟨d1,d2,d3,d4⟩:=d
 unfold Cs
 simp only at h78 ⊢
 refine ah.af (rvs:=[.tmp 4]) G aa Tryz.func125 rfl Tryz.ntmps125 rfl rfl ?_;with_reducible refine wD ?_
 by_cases e1:a1=1
 ·subst e1
  by_cases e2:a10=0
  ·subst e2
   rw[if_pos ⟨rfl,rfl⟩]
   repeat' (first
  |refine gK ?_|refine aE ?_ ?_
  |(((with_reducible refine kQ 192 ?_);refine cL h78 Rx ?_)<;>with_reducible refine wK ?_)
  |apply trivial)
  ·rw[if_neg fun h=>e2 h.2]
   (have fct:=e2;(repeat' (first
  |refine gF ?_|refine aE ?_ ?_
  |apply trivial));all_goals clear fct)
 ·rw[if_neg fun h=>e1 h.1]
  (have fct:=e1;(repeat' (first
  |refine gF ?_|refine aE ?_ ?_
  |apply trivial));all_goals clear fct)
def lS (f:ForM)(n:Int)(d:aZ):Int:=if(ak f.nodes n&&aV f)=true then Cs (nd f.nodes n) d else-1
theorem Iz (f:ForM)(hs:bS f.nodes)(n:Int)(d:aZ)(h:iS d):ah Tryz.prog 58 [] [cJ f,aq n,gi d] [] (aq (lS f n d)):=by
 have h48:=j7 f hs
 have h49:=fun x=>Le x d h
 obtain⟨l,m⟩:=f
 obtain⟨d1,d2,d3,d4⟩:=d
 have hlm:(l.map bZ).length=l.length:=List.length_map ..
 unfold lS
 simp only at h48 h49 ⊢
 refine ah.af (rvs:=[.tmp 6]) G aa Tryz.func58 rfl Tryz.ntmps58 rfl rfl ?_;with_reducible refine wD ?_
 by_cases e1:n<0
 ·have e:ak l n=false:=by unfold ak;rw[decide_eq_false (show ¬0≤n by omega)];rfl
  rw[e,Bool.false_and,if_neg (by simp)]
  (have fct:=e1;(repeat' (first
  |refine gF ?_|refine aE ?_ ?_
  |apply trivial));all_goals clear fct)
 by_cases e2:(l.length:Int)≤n
 ·have e:ak l n=false:=by unfold ak;rw[decide_eq_false (show ¬n< (l.length:Int) by omega)];simp
  rw[e,Bool.false_and,if_neg (by simp)]
  (have fct:=And.intro hlm (And.intro (eq_false e1) (e2));(repeat' (first
  |refine gF ?_|refine aE ?_ ?_
  |apply trivial));all_goals clear fct)
 have e:ak l n=true:=by unfold ak;simp;omega
 rw[e,Bool.true_and]
 cases hr:aV ⟨l,m⟩ with
 | false=>
   rw[hr] at h48
   rw[if_neg (by simp)]
   (have fct:=And.intro hlm (And.intro (eq_false e1) ((eq_false e2)));(repeat' (first
  |refine gF ?_|refine aE ?_ ?_
  |(((with_reducible refine kQ 100 ?_);refine cL h48 mT ?_)<;>with_reducible refine wK ?_)
  |apply trivial));all_goals clear fct)
 | true=>
   rw[hr] at h48
   rw[if_pos rfl]
   obtain⟨k,x,rfl,hx,hnx⟩:=bC.1 e
   have h49:=h49 x
   rw[hnx]
   obtain⟨a1,a2,a3,a4,a5,a6,a7,a8,a9,a10⟩:=x
   (have fct:=And.intro hlm (And.intro (eq_false e1) ((eq_false e2)));(repeat' (first
  |refine gF ?_|refine aE ?_ ?_
  | ((first
   |((with_reducible refine kQ 100 ?_);refine cL h48 mT ?_)
   |((with_reducible show ay _ _ _ _ _);refine ay.mk k (aS _) rfl (aG hx) ?_)
   |((with_reducible refine kQ 125 ?_);refine cL h49 RC ?_))<;>with_reducible refine wK ?_)
  |apply trivial));all_goals clear fct)
end Go.Proofs.Heir
namespace Go.Proofs.Heir
open Go Go.Am Go.RowKit Go.Lib
set_option maxRecDepth 100000
set_option maxHeartbeats 8000000







def vi (l:List au)(n:Int):Int:=((U.cO l n).getLast?).getD n
theorem EJ {l:List au}(T:U.Tree l){n:Int}(hn:ak l n=true)(hp:iV (nd l n)=-1):vi l n=n:=by
 unfold vi;rw[U.ig T hn hp];rfl
theorem BH {l:List au}(T:U.Tree l){n:Int}(hn:ak l n=true)(hp:iV (nd l n)≠-1)(hu:ak l (iV (nd l n))=true):vi l n=vi l (iV (nd l n)):=by
 obtain⟨r,hr⟩:=U.fF T hu
 unfold vi;rw[U.cH T hn hp,hr,List.getLast?_cons_cons]
 cases h:(iV (nd l n)::r).getLast? with
 |none=>simp at h
 |some a=>rfl
theorem I2 {l:List au}(T:U.Tree l):∀n,ak l n=true→iV (nd l n)≠-1→ak l (iV (nd l n))=true:=by
 refine U.mc T (P:=fun n=>iV (nd l n)≠-1→ak l (iV (nd l n))=true) (fun n hn h0 h=>absurd h0 h) (fun n hn h0 h1 _ _=>h1)
theorem GI {l:List au}(T:U.Tree l):∀n,ak l n=true→ak l (vi l n)=true:=by
 refine U.mc T (fun n hn h=>?_) (fun n hn h hu ih=>?_)
 ·rw[EJ T hn h];exact hn
 ·rw[BH T hn h hu];exact ih
theorem MA (f:ForM)(k:Nat)(x:au)(hx:f.nodes[k]? =some x):ah Tryz.prog 236 [] [cJ f,aq k] [] (aq (iV x)):=by
 obtain⟨l,m⟩:=f
 obtain⟨a1,a2,a3,a4,a5,a6,a7,a8,a9,a10⟩:=x
 unfold iV
 refine ah.af (rvs:=[.tmp 4]) G aa Tryz.func236 rfl Tryz.ntmps236 rfl rfl ?_;with_reducible refine wD ?_
 by_cases e:a6=-1
 ·subst e
  rw[if_pos rfl]
  repeat' (first
  |refine gK ?_|refine aE ?_ ?_
  |(((with_reducible show ay _ _ _ _ _);refine ay.mk k (aS _) rfl (aG hx) ?_)<;>with_reducible refine wK ?_)
  |apply trivial)
 ·rw[if_neg e]
  (have fct:=(eq_false e);(repeat' (first
  |refine gF ?_|refine aE ?_ ?_
  |(((with_reducible show ay _ _ _ _ _);refine ay.mk k (aS _) rfl (aG hx) ?_)<;>with_reducible refine wK ?_)
  |apply trivial));all_goals clear fct)
def NC (f:ForM)(n:Int):Int:=if(aV f&&ak f.nodes n)=true then vi f.nodes n else-1
theorem L5 (f:ForM)(hs:bS f.nodes)(n:Int):ah Tryz.prog 188 [] [cJ f,aq n] [] (aq (NC f n)):=by
 have h86:=K6 f hs [n] (by simp)
 have e1:(aV f&& !decide (0≤gh (fun n=> !ak f.nodes n) [n]))=(aV f&&ak f.nodes n):=by
  congr 1
  unfold gh
  cases h:ak f.nodes n<;>simp[List.findIdx?_cons,h]
 rw[e1] at h86
 have h87:=fun k x hx=>MA f k x hx
 obtain⟨l,m⟩:=f
 unfold NC
 simp only at h86 h87 ⊢
 refine ah.af (rvs:=[.tmp 4]) G aa Tryz.func188 rfl Tryz.ntmps188 rfl rfl ?_;with_reducible refine wD ?_
 cases e0:(aV ⟨l,m⟩&&ak l n) with
 | false=>
   rw[e0] at h86
   refine aj.lit [71] h86 O7 ⟨⟨rfl,rfl,trivial⟩,eG (l:=[n]) rfl rfl rfl rfl,trivial⟩ rfl rfl ?_;with_reducible refine wK ?_
   repeat' (first
  |refine gK ?_|refine aE ?_ ?_
  | apply trivial)
   all_goals rfl
 | true=>
   rw[e0] at h86
   refine aj.lit [71] h86 O7 ⟨⟨rfl,rfl,trivial⟩,eG (l:=[n]) rfl rfl rfl rfl,trivial⟩ rfl rfl ?_;with_reducible refine wK ?_
   rw[if_pos rfl]
   obtain⟨hr,hn⟩:aV ⟨l,m⟩=true∧ak l n=true:=by simpa using e0
   have T:=U.jt hr
   simp only at T
   repeat' (first
  |refine gK ?_|refine aE ?_ ?_
  | apply trivial)
   refine aU.use G aa (fun(c:Int)=>[(1,aq c),(2,.ptr 20 0 0)]) (fun c=>[(20,.live 2 [cJ ⟨l,m⟩] false)])
    (fun c=>ak l c=true∧vi l c=vi l n) (fun c=>(U.cO l c).length) n ⟨hn,rfl⟩
    (by refine⟨⟨rfl,rfl⟩,⟨rfl,⟨rfl,rfl⟩,trivial⟩,⟨⟨rfl,rfl,trivial⟩,trivial⟩,trivial⟩) ?_
   rintro c ⟨hc,htop⟩
   with_reducible refine wK ?_
   obtain⟨i,y,rfl,hy,hny⟩:=bC.1 hc
   have h:=h87 i y hy
   by_cases e:iV y=-1
   ·rw[e] at h
    rw[EJ T hc (by rw[hny];exact e)] at htop
    repeat' (first
  |refine gK ?_|refine aE ?_ ?_
  |(((with_reducible refine kQ 236 ?_);refine cL h Px ?_)<;>with_reducible refine wK ?_)
  | apply trivial)
    all_goals exact htop.symm
   ·have hu:=I2 T _ hc (by rw[hny];exact e)
    have hst:=BH T hc (by rw[hny];exact e) hu
    have hway:=U.cH T hc (by rw[hny];exact e)
    rw[hny] at hu hst hway
    generalize iV y=u at h e hu hst hway
    (have fct:=(eq_false e);(repeat' (first
  |refine gF ?_|refine aE ?_ ?_
  |(((with_reducible refine kQ 236 ?_);refine cL h Px ?_)<;>with_reducible refine wK ?_)
  | apply trivial));all_goals clear fct)
    refine aL.mk u ⟨hu,by rw[←hst,htop]⟩ (by rw[hway];simp) ⟨⟨rfl,rfl⟩,⟨rfl,⟨rfl,rfl⟩,trivial⟩,⟨⟨rfl,rfl,trivial⟩,trivial⟩,trivial⟩
def DO (f:ForM)(n:Int):Bool:=(aV f&&ak f.nodes n)&&decide ((nd f.nodes (vi f.nodes n)).kind=0)
theorem FR (f:ForM)(hs:bS f.nodes)(n:Int):ah Tryz.prog 120 [] [cJ f,aq n] [] (aA (DO f n)):=by
 have h63:=L5 f hs n
 unfold NC at h63
 unfold DO
 cases e0:(aV f&&ak f.nodes n) with
 | false=>
   rw[e0,if_neg (by simp)] at h63
   obtain⟨l,m⟩:=f
   refine ah.af (rvs:=[.tmp 4]) G aa Tryz.func120 rfl Tryz.ntmps120 rfl rfl ?_;with_reducible refine wD ?_
   repeat' (first
  |refine gK ?_|refine aE ?_ ?_
  |(((with_reducible refine kQ 188 ?_);refine cL h63 OQ ?_)<;>with_reducible refine wK ?_)
  | apply trivial)
   all_goals rfl
 | true=>
   rw[e0,if_pos rfl] at h63
   obtain⟨hr,hn⟩:aV f=true∧ak f.nodes n=true:=by simpa using e0
   have ht:=GI (U.jt hr) n hn
   obtain⟨l,m⟩:=f
   simp only at h63 ht ⊢
   generalize vi l n=t at h63 ht ⊢
   obtain⟨i,y,rfl,hy,hny⟩:=bC.1 ht
   rw[hny]
   obtain⟨a1,a2,a3,a4,a5,a6,a7,a8,a9,a10⟩:=y
   refine ah.af (rvs:=[.tmp 4]) G aa Tryz.func120 rfl Tryz.ntmps120 rfl rfl ?_;with_reducible refine wD ?_
   refine cL h63 OQ ?_;with_reducible refine wK ?_
   (have fct:=(show ¬ (i:Int)=-1 by omega);(repeat' (first
  |refine gF ?_|refine aE ?_ ?_
  |(((with_reducible show ay _ _ _ _ _);refine ay.mk i (aS _) rfl (aG hy) ?_)<;>with_reducible refine wK ?_)
  | apply trivial));all_goals clear fct)
   all_goals simp
end Go.Proofs.Heir
section
namespace Go.Proofs.Heir
open Go Go.Am Go.RowKit Go.Lib
set_option maxRecDepth 100000
set_option maxHeartbeats 8000000
@[reducible] def ox : ByteArray := ⟨⟨[102, 111, 114, 109]⟩⟩
@[reducible] def FD : ByteArray := ⟨⟨[105, 100]⟩⟩
def gR (x:au):Bool:=decide (x.kind=1)&&decide (x.name=ox)
def yp (x:au)(w:ByteArray):Option ByteArray:=if 0≤jW x.attrs w then some (yo x.attrs w) else none
def OX (x:au)(w:ByteArray):Option ByteArray:=if 0≤NV x.attrs w then some (((x.attrs[(NV x.attrs w).toNat]?).map AttrM.value).getD Pj) else none
def gl (l:List au)(q:Int→Bool)(n:Int):Int:=((cO l n).tail.find? q).getD (-1)
def tr (l:List au)(n:Int):Int:=gl l (fun p=>gR (nd l p)) n
def M3 (l:List au)(n:Int):Int:=gl l (fun p=>decide ((nd l p).name=ox)) n
def dY (l:List au)(n:Int):Int:=((cO l n).getLast?).getD n
def jV (l:List au)(t:List (ByteArray×Int))(k:Int):List (ByteArray×Int):=
 match yp (nd l k) FD with
 | some v=>(match cR v t with
  |some _=>t
  |none=>eB v k t)
 |none=>t
def o5 (l:List au)(r:Int):List (ByteArray×Int):=(dJ l l.length r).foldl (jV l) []
def vw (l:List au)(r:Int)(v:ByteArray):Option Int:=(dJ l l.length r).find? fun k=>decide (yp (nd l k) FD=some v)
def N4 (l:List au)(r:Int)(v:ByteArray):Option Int:=(dJ l l.length r).find? fun k=>decide (OX (nd l k) FD=some v)
def D4 (l:List au)(n:Int):Bool:=decide ((nd l (vi l n)).kind=0)
def N3 (l:List au)(n:Int)(v:ByteArray):Int:=
 match vw l (dY l n) v with
 |some k=>if v≠ ⟨#[]⟩∧gR (nd l k)=true then k else-1
 |none=> -1
def lj (l:List au)(n:Int):Int:=
 if(nd l n).kind=1 then
  match yp (nd l n) ox with
  |some v=>if D4 l n=true then N3 l n v else tr l n
  |none=>tr l n
 else-1
def Pr (l:List au)(n:Int)(v:ByteArray):Int:=
 if v=⟨#[]⟩ then-1 else
 match N4 l (dY l n) v with
 |some k=>if(nd l k).name=ox then k else-1
 |none=> -1
def Qo (l:List au)(n:Int):Int:=
 if(nd l n).kind=1 then
  match OX (nd l n) ox with
  |some v=>if D4 l n=true then Pr l n v else M3 l n
  |none=>M3 l n
 else-1
theorem Ak (l:List au)(v:ByteArray):∀ (ks:List Int) (t:List (ByteArray×Int)),cR v (ks.foldl (jV l) t)=match cR v t with
  |some x=>some x
  |none=>ks.find? fun k=>decide (yp (nd l k) FD=some v)
 | [],t=>by
   simp only[List.foldl_nil,List.find?_nil]
   cases cR v t<;>rfl
 | k ::r,t=>by
   rw[List.foldl_cons,Ak l v r]
   rw[List.find?_cons]
   unfold jV
   cases ha:yp (nd l k) FD with
   |none=>simp
   | some u=>
     dsimp only
     by_cases huv:u=v
     ·subst huv
      cases ht:cR u t with
      |some x=>dsimp only;rw[ht]
      |none=>dsimp only;rw[fo,if_pos rfl];simp
     ·have hne:decide (some u=some v)=false:=decide_eq_false fun h=>huv (Option.some.inj h)
      rw[hne]
      cases ht:cR u t with
      |some x=>rfl
      |none=>dsimp only;rw[fo,if_neg huv]
theorem GJ (l:List au)(r:Int)(v:ByteArray):cR v (o5 l r)=vw l r v:=by
 unfold o5;rw[Ak];rfl
theorem Gy (l:List au)(t:List (ByteArray×Int))(k:Int):(jV l t k).length≤t.length+1:=by
 unfold jV
 split
 ·split
  ·omega
  ·rw[oa];split<;>omega
 ·omega
theorem CQ (l:List au):∀ (ks:List Int) (t:List (ByteArray×Int)),(ks.foldl (jV l) t).length≤t.length+ks.length
 |[],t=>Nat.le_refl _
 | k::r,t=>by
   have h1:=CQ l r (jV l t k)
   have h2:=Gy l t k
   rw[List.foldl_cons,List.length_cons];omega
variable {l : List au}
theorem wc (T:Tree l){n:Int}(hn:ak l n=true)(hp:(nd l n).parent=-1):dY l n=n:=by
 unfold dY;rw[ig T hn hp];rfl
theorem uu (T:Tree l){n:Int}(hn:ak l n=true)(hp:(nd l n).parent≠-1):dY l n=dY l (nd l n).parent:=by
 obtain⟨r,hr⟩:=fF T (T.par n hn hp).1
 unfold dY;rw[cH T hn hp,hr,List.getLast?_cons_cons]
 cases h:((nd l n).parent::r).getLast? with
 |none=>simp at h
 |some a=>rfl
theorem rA (T:Tree l):∀n,ak l n=true→ak l (dY l n)=true∧(nd l (dY l n)).parent=-1∧dY l n∈cO l n:=by
 refine mc T (fun n hn h=>?_) (fun n hn h hu ih=>?_)
 ·rw[wc T hn h];exact⟨hn,h,jA T hn⟩
 ·rw[uu T hn h];exact⟨ih.1,ih.2.1,by rw[cH T hn h];exact List.mem_cons_of_mem _ ih.2.2⟩
theorem C4 (T:Tree l):∀n,ak l n=true→∀a∈cO l n,dY l a=dY l n:=by
 refine mc T (fun n hn h a ha=>?_) (fun n hn h hu ih a ha=>?_)
 ·rw[ig T hn h] at ha;rw[List.mem_singleton.1 ha]
 ·rw[cH T hn h] at ha
  rcases List.mem_cons.1 ha with rfl|h'
  ·rfl
  ·rw[uu T hn h];exact ih a h'
theorem vP (T:Tree l){r n:Int}(hr:ak l r=true)(h:n∈dJ l l.length r):ak l n=true∧r∈cO l n∧dY l n=dY l r:=by
 obtain⟨h1,h2⟩:=ia T _ r hr n h
 exact⟨h1,h2,(C4 T n h1 r h2).symm⟩
theorem HP (T:Tree l){n:Int}(hn:ak l n=true):dY l (dY l n)=dY l n:=by
 obtain⟨h1,h2,_⟩:=rA T n hn
 exact wc T h1 h2
theorem zq (T:Tree l)(q:Int→Bool){n:Int}(hn:ak l n=true)(hp:(nd l n).parent≠-1):gl l q n=if q (nd l n).parent=true then(nd l n).parent else gl l q (nd l n).parent:=by
 obtain⟨r,hr⟩:=fF T (T.par n hn hp).1
 unfold gl
 rw[cH T hn hp,List.tail_cons,hr,List.find?_cons,List.tail_cons]
 cases h:q (nd l n).parent<;>simp
theorem Ce (T:Tree l)(q:Int→Bool){n:Int}(hn:ak l n=true)(hp:(nd l n).parent=-1):gl l q n=-1:=by
 unfold gl;rw[ig T hn hp];rfl
theorem GB (T:Tree l)(q:Int→Bool):∀n,ak l n=true→
  (gl l q n=-1∧∀a∈cO l n,a≠n→q a=false)∨
  (gl l q n∈cO l n∧gl l q n≠n∧q (gl l q n)=true∧∀a∈cO l n,a≠n→q a=true→a∈cO l (gl l q n)):=by
 refine mc T (fun n hn h=>?_) (fun n hn h hu ih=>?_)
 ·left
  refine⟨Ce T q hn h,fun a ha hne=>?_⟩
  rw[ig T hn h] at ha
  exact absurd (List.mem_singleton.1 ha) hne
 ·have hne:∀a∈cO l (nd l n).parent,a≠n:=by
   intro a ha e
   subst e
   have h1:=cH T hn h
   obtain⟨t,ht⟩:=jv T _ hu a ha
   rw[ht] at h1
   have:=congrArg List.length h1
   simp at this
   omega
  rw[zq T q hn h]
  have hw:=cH T hn h
  cases hq:q (nd l n).parent with
  | true=>
    rw[if_pos rfl]
    right
    refine⟨by rw[hw];exact List.mem_cons_of_mem _ (jA T hu),hne _ (jA T hu),hq,fun a ha hna _=>?_⟩
    rw[hw] at ha
    exact(List.mem_cons.1 ha).resolve_left hna
  | false=>
    rw[if_neg (by simp)]
    rcases ih with⟨h1,h2⟩|⟨h1,h2,h3,h4⟩
    ·left
     refine⟨h1,fun a ha hna=>?_⟩
     rw[hw] at ha
     have ha':=(List.mem_cons.1 ha).resolve_left hna
     by_cases e:a=(nd l n).parent
     ·rw[e];exact hq
     ·exact h2 a ha' e
    ·right
     refine⟨by rw[hw];exact List.mem_cons_of_mem _ h1,hne _ h1,h3,fun a ha hna hqa=>?_⟩
     rw[hw] at ha
     have ha':=(List.mem_cons.1 ha).resolve_left hna
     refine h4 a ha' (fun e=>?_) hqa
     rw[e,hq] at hqa;cases hqa
theorem wT {r:Int}{v:ByteArray}{k:Int}(h:vw l r v=some k):k∈dJ l l.length r∧yp (nd l k) FD=some v:=
 ⟨List.mem_of_find?_eq_some h,by have:=List.find?_some h;simpa using this⟩
theorem JN (T:Tree l){n:Int}(hn:ak l n=true)(h:lj l n≠-1):ak l (lj l n)=true∧gR (nd l (lj l n))=true∧dY l (lj l n)=dY l n∧(nd l n).kind=1:=by
 have hnear:tr l n≠-1→ak l (tr l n)=true∧gR (nd l (tr l n))=true∧dY l (tr l n)=dY l n:=by
  intro h
  rcases GB T (fun p=>gR (nd l p)) n hn with⟨h1,_⟩|⟨h1,_,h3,_⟩
  ·exact absurd h1 h
  ·exact⟨kA T n hn _ h1,h3,C4 T n hn _ h1⟩
 unfold lj at h ⊢
 by_cases hk:(nd l n).kind=1
 ·rw [if_pos hk] at h ⊢
  cases ha:yp (nd l n) ox with
  | none=>
    rw[ha] at h
    exact⟨(hnear h).1,(hnear h).2.1,(hnear h).2.2,hk⟩
  | some v=>
    rw[ha] at h
    simp only at h ⊢
    by_cases hc:D4 l n=true
    ·rw [if_pos hc] at h ⊢
     unfold N3 at h ⊢
     cases hf:vw l (dY l n) v with
     |none=>rw[hf] at h;exact absurd rfl h
     | some k=>
       rw[hf] at h
       simp only at h ⊢
       by_cases e:v≠ ⟨#[]⟩∧gR (nd l k)=true
       ·rw[if_pos e] at h ⊢
        obtain⟨h1,h2,h3⟩:=vP T (rA T n hn).1 (wT hf).1
        exact⟨h1,e.2,by rw[h3,HP T hn],hk⟩
       ·rw[if_neg e] at h;exact absurd rfl h
    ·rw[if_neg hc] at h ⊢
     exact⟨(hnear h).1,(hnear h).2.1,(hnear h).2.2,hk⟩
 ·rw[if_neg hk] at h;exact absurd rfl h
def s6 (l:List au)(x:Int):List Int:=(dJ l l.length (dY l x)).filter fun k=>decide (Qo l k=x)
end Go.Proofs.Heir
end
section
namespace Go.Proofs.Heir
open Go Go.Am Go.RowKit Go.Lib
set_option maxRecDepth 100000
set_option maxHeartbeats 8000000
variable {l : List au}
end Go.Proofs.Heir
end
namespace Go.Proofs.Heir
open Go Go.Am Go.RowKit Go.Lib
set_option maxRecDepth 100000
set_option maxHeartbeats 8000000
structure CW where
 kind:Int
 a:Int
 b:Int
 c:Int
 s:ByteArray
 t:ByteArray
 must:Bool
 deriving DecidableEq
@[reducible] def Qh (x : CW) : AV := .agg [aq x.kind, aq x.a, aq x.b, aq x.c, cm x.s, cm x.t, aA x.must]
def HQ (x:CW):AV:=Qh x
@[reducible] def yj (l : List CW) : AV := .sl 7 (l.map HQ)
structure dx where
 kind:Int
 prog:List CW
 deriving DecidableEq
@[reducible] def kY (x : dx) : AV := .agg [aq x.kind, yj x.prog]
def jU (x:dx):AV:=kY x
@[reducible] def mL (l : List dx) : AV := .sl 2 (l.map jU)
structure aH where
 form:Bool
 watch:List ByteArray
 peek:List CW
 make:List CW
 hooks:List dx
 deriving DecidableEq
@[reducible] def cN (x : aH) : AV := .agg [aA x.form, qu x.watch, yj x.peek, yj x.make, mL x.hooks]
def dM (x:aH):AV:=cN x
@[reducible] def bJ (l : List aH) : AV := .sl 5 (l.map dM)
structure StateM where
 phase:Int
 df:Int
 owner:Int
 barred:Bool
 deriving DecidableEq
@[reducible] def aX (x : StateM) : AV := .agg [aq x.phase, aq x.df, aq x.owner, aA x.barred]
def bG (x:StateM):AV:=aX x
@[reducible] def fc (l : List StateM) : AV := .sl 4 (l.map bG)
structure dL where
 kind:Int
 node:Int
 src:Int
 dst:Int
 name:ByteArray
 had:Bool
 has:Bool
 old:ByteArray
 new:ByteArray
 deriving DecidableEq
@[reducible] def FK (x : dL) : AV := .agg [aq x.kind, aq x.node, aq x.src, aq x.dst, cm x.name, aA x.had, aA x.has, cm x.old, cm x.new]
def Fc (x:dL):AV:=FK x
@[reducible] def AX (l : List dL) : AV := .sl 9 (l.map Fc)
structure br where
 kind:Int
 df:Int
 name:ByteArray
 had:Bool
 has:Bool
 old:ByteArray
 new:ByteArray
 src:Int
 dst:Int
 on:Bool
 deriving DecidableEq
@[reducible] def iD (x : br) : AV := .agg [aq x.kind, aq x.df, cm x.name, aA x.had, aA x.has, cm x.old, cm x.new, aq x.src, aq x.dst, aA x.on]
def Ek:br:=⟨0,0,⟨#[]⟩,false,false,⟨#[]⟩,⟨#[]⟩,0,0,false⟩
structure bB where
 node:Int
 todo:br
 deriving DecidableEq
@[reducible] def kE (x : bB) : AV := .agg [aq x.node, aq x.todo.kind, aq x.todo.df, cm x.todo.name, aA x.todo.had, aA x.todo.has, cm x.todo.old, cm x.todo.new, aq x.todo.src, aq x.todo.dst, aA x.todo.on]
def gV (x:bB):AV:=kE x
@[reducible] def jM (l : List bB) : AV := .sl 11 (l.map gV)
@[reducible] def dn (l : List bB) : MS := .live 11 (l.map gV) false
theorem aJ (l:List bB):aN (l.map gV)=true:=cj gV (fun _=>rfl) l
theorem jl {m:ML}{fz:Nat→Bool}{ck:List (Nat×Nat)}{n t len:Nat}{ro:Bool}{rows:List AV}{l:List bB}(h1:ej m t=.live 11 rows ro)(h2:fz t=true)(h3:rows=l.map gV)(h4:len=l.length):nq m fz (MF ck fz m n) (jM l) t 0 len:=by
 subst h3;subst h4
 have e:(l.map gV).length=l.length:=List.length_map ..
 exact .cut h1 h2 (by omega) (by rw[List.drop_zero,List.take_of_length_le (by omega)]) (aJ l)
theorem Jt {l:List CW}{k:Nat}{x:CW}(h:l[k]? =some x):(l.map HQ)[k]? =some (Qh x):=by rw[List.getElem?_map,h];rfl
theorem gT {l:List dx}{k:Nat}{x:dx}(h:l[k]? =some x):(l.map jU)[k]? =some (kY x):=by rw[List.getElem?_map,h];rfl
theorem jm {l:List aH}{k:Nat}{x:aH}(h:l[k]? =some x):(l.map dM)[k]? =some (cN x):=by rw[List.getElem?_map,h];rfl
theorem aM {l:List StateM}{k:Nat}{x:StateM}(h:l[k]? =some x):(l.map bG)[k]? =some (aX x):=by rw[List.getElem?_map,h];rfl
theorem JH {l:List dL}{k:Nat}{x:dL}(h:l[k]? =some x):(l.map Fc)[k]? =some (FK x):=by rw[List.getElem?_map,h];rfl
theorem oU {l:List bB}{k:Nat}{x:bB}(h:l[k]? =some x):(l.map gV)[k]? =some (kE x):=by rw[List.getElem?_map,h];rfl
theorem Gv (l:List CW):aN (l.map HQ)=true:=cj HQ (fun _=>rfl) l
theorem Du (x:dx):bj (jU x)=true:=by
 show bj (.agg [aq x.kind,.sl 7 (x.prog.map HQ)])=true
 simp[bj,aN,Gv]
def DH (l:List dx)(k:Int):Option dx:=l.find? fun h=>decide (h.kind=k)
def oQ (l:List dx):List (Int×dx):=l.reverse.foldl (fun t h=>eB h.kind h t) []
theorem wR (k:Int):∀l:List dx,cR k (oQ l)=DH l k
 |[]=>rfl
 | h::r=>by
   have e:oQ (h::r)=eB h.kind h (oQ r):=by unfold oQ;rw[List.reverse_cons,List.foldl_append];rfl
   rw[e,fo,wR k r]
   unfold DH
   rw[List.find?_cons]
   by_cases e:h.kind=k
   ·rw[if_pos e,decide_eq_true e]
   ·rw[if_neg e,decide_eq_false e]
def dc (c:aH)(k:Int):Bool:=(DH c.hooks k).isSome
def kM (c:aH)(s:ByteArray):Bool:=dc c 4&&xE c.watch s
def eP (s:StateM)(d:aZ)(n:Nat):Int:=if 0≤s.df then match d.defs[s.df.toNat]? with
  |some x=>if 0≤x.cls∧x.cls<n then x.cls else-1
  |none=> -1
 else-1
def sA:aH:=⟨false,[],[],[],[]⟩
def cw (s:StateM)(d:aZ)(cs:List aH):aH:=if 0≤eP s d cs.length then(cs[(eP s d cs.length).toNat]?).getD sA else sA
def jr (s:StateM)(d:aZ)(cs:List aH):Bool:=decide (0≤eP s d cs.length)
theorem yy (s:StateM)(d:aZ)(n:Nat):eP s d n=-1∨∃k:Nat,k<n∧eP s d n=k:=by
 unfold eP
 split
 ·split
  ·split
   ·rename_i h;exact .inr ⟨_,by omega,(Int.toNat_of_nonneg h.1).symm⟩
   ·exact .inl rfl
  ·exact .inl rfl
 ·exact .inl rfl
structure M0 where
 f:ForM
 states:List StateM
 desk:aZ
 classes:List aH
@[reducible] def FB (v : M0) : AV := .agg [fk v.f.nodes, aq v.f.most, fc v.states, nY v.desk.defs, oK v.desk.waits, aq v.desk.next, aA v.desk.busy, bJ v.classes]
def elemV (l:List au)(n:Int):Bool:=ak l n&&decide ((nd l n).kind=1)
def Fm (x:dL):br:=⟨x.kind,0,x.name,x.had,x.has,x.old,x.new,x.src,x.dst,false⟩
def mq (f:ForM)(s:StateM)(d:aZ)(cs:List aH)(x:dL):br×Bool:=
 if s.phase=1 then(⟨9,lS f x.node d,⟨#[]⟩,false,false,⟨#[]⟩,⟨#[]⟩,0,0,false⟩,decide (x.kind=1)&& !decide (lS f x.node d=-1))
 else if s.phase=3 then
  if x.kind=4 then(Fm x,(jr s d cs&&kM (cw s d cs) x.name)&&dc (cw s d cs) x.kind)
  else if x.kind=1∨x.kind=2∨x.kind=3 then(Fm x,jr s d cs&&dc (cw s d cs) x.kind)
  else(Ek,false)
 else(Ek,false)
end Go.Proofs.Heir
namespace Go.Proofs.Heir
open Go Go.Am Go.RowKit Go.Shelf
set_option maxRecDepth 100000
set_option maxHeartbeats 8000000
theorem xO {Wn:Nat→Prop}{μ:Mu}{W:World}{wd:Nat}{rows:List AV}{b o:Nat}(h:cq Wn μ W (.fptr (.sl wd rows) 0) (.pointer (some ⟨b,o,none⟩))):
  ∃ad cap,W.cell? ⟨b,o,none⟩=some (.slice ad rows.length cap)∧rows.length≤cap∧∀ (j:Nat) (r:AV),rows[j]? =some r→∃b2 o2 vs,ad=some ⟨b2,o2,none⟩∧List.length vs=wd∧(∀q v,vs[q]? =some v→W.cell? ⟨b2,o2+j*wd+q,none⟩=some v)∧∀ (q:Nat) (c:AV) (v:Value),(cells r)[q]? =some c→vs[q]? =some v→cq Wn μ W c v:=by
 generalize hv:Value.pointer (some ⟨b,o,none⟩)=v at h
 cases h with
 | @fptr _ _ b' o' f h1 h2 h3 h4 h5=>
   cases hv
   have k3:=h3 0 _ rfl
   have k4:=h4 0 _ rfl
   rw[Nat.add_zero] at k3
   rw[Nat.add_zero,k3]
   generalize f 0=s at k4
   by_cases hne:rows=[]
   ·subst hne
    cases k4 with
    |slNil=>exact⟨_,_,rfl,Nat.zero_le _,fun j x h=>by simp at h⟩
    |sl a1 a2 a3 a4 a5 a6 a7 a8=>subst a3;exact⟨_,_,rfl,Nat.zero_le _,fun j x h=>by simp at h⟩
   ·cases k4 with
    |slNil=>exact absurd rfl hne
    | @sl _ _ b2 o2 cap _ fv a1 a2 a3 a4 a5 a6 a7 a8=>
      subst a3
      refine⟨_,_,rfl,a4,fun j r hr=>⟨b2,o2,(List.range wd).map fun q=>fv (j*wd+q),rfl,by simp,fun q v hv=>?_,fun q c v hc hv=>?_⟩⟩
      ·have hqw:q<wd:=by have:=(List.getElem?_eq_some_iff.1 hv).1;simpa using this
       have hcl:(cells r).length=wd:=a5 j _ hr
       obtain⟨c,hc⟩:∃c,(cells r)[q]? =some c:=⟨_,List.getElem?_eq_getElem (by omega)⟩
       have:=a6 _ _ (dP (wd:=wd) (fun i r hr=>a5 i r hr) hr hc)
       rw[Nat.add_assoc,this]
       rw[List.getElem?_map,List.getElem?_range hqw] at hv
       simpa using hv
      ·have hqw:q<wd:=by have:=(List.getElem?_eq_some_iff.1 hv).1;simpa using this
       rw[List.getElem?_map,List.getElem?_range hqw] at hv
       have hv':fv (j*wd+q)=v:=by simpa using hv
       rw[←hv']
       exact a7 _ _ (dP (wd:=wd) (fun i r hr=>a5 i r hr) hr hc)
theorem JF {α:Type}:∀ {l:List α},l.length=2→∃a b,l=[a,b]
 |[a,b],_=>⟨a,b,rfl⟩
theorem Kj (l:List dx)(hl:l.length≤100000):Dd Tryz.prog 258 [.fptr (mL l) 0] l.length (fun k=>[bF ((l.length:Int)-1-k),kY ((l.reverse[k]?).getD ⟨0,[]⟩)]):=by
 intro vals y J Jx hJ hJm hJxm _ hY Wn w h0
 obtain⟨⟨μ,hr⟩,_⟩:=hJ 0 Wn w h0
 obtain⟨vb,us,rfl,hvb,hus⟩:=bT.oe hr
 obtain rfl:=bT.Fw hus
 obtain⟨b,o,rfl⟩:∃b o,vb=.pointer (some ⟨b,o,none⟩):=by cases hvb;exact⟨_,_,rfl⟩
 have box:∀k Wn W,J k Wn W→∃μ ad cap,W.cell? ⟨b,o,none⟩=some (.slice ad l.length cap)∧l.length≤cap∧∀ (j:Nat) (x:dx),l[j]? =some x→∃b2 o2 a n c,ad=some ⟨b2,o2,none⟩∧W.cell? ⟨b2,o2+j*2,none⟩=some (.int .i64 x.kind)∧W.cell? ⟨b2,o2+j*2+1,none⟩=some (.slice a n c)∧cq Wn μ W (yj x.prog) (.slice a n c):=by
  intro k Wn W hJk
  obtain⟨⟨μ,hr⟩,_⟩:=hJ k Wn W hJk
  obtain⟨v1,us,e,hv1,_⟩:=bT.oe hr
  cases e
  obtain⟨ad,cap,h1,h2,h3⟩:=xO hv1
  rw[List.length_map] at h1 h2
  refine⟨μ,ad,cap,h1,h2,fun j x hx=>?_⟩
  obtain⟨b2,o2,vs,e,hlen,hc,hrep⟩:=h3 j _ (gT hx)
  obtain⟨v0,v1,rfl⟩:=JF hlen
  have r0:=hrep 0 _ _ rfl rfl
  have r1:=hrep 1 _ _ rfl rfl
  have c0:=hc 0 _ rfl
  have c1:=hc 1 _ rfl
  obtain⟨a,n,c,rfl⟩:=NK r1
  obtain rfl:=r0.val
  exact⟨b2,o2,a,n,c,e,c0,c1,r1⟩
 refine(callsIn_wide (n:=1)).1 ?_
 refine callsIn_of_wp Tryz.func258 rfl trivial ?_ rfl
 simp only[Tryz.ntmps258,List.size_toArray,List.length_cons,List.length_nil,Nat.reduceAdd,Nat.reduceSub,Array.replicate_succ,Array.replicate_zero,List.push_toArray,List.append_toArray,List.nil_append,List.cons_append]
 obtain⟨μ0,ad,cap,hbx,hcap,hel⟩:=box 0 Wn w h0
 gi_wp2
 gi_loopw [3] (fun i wr=> ∃k:Nat,k≤l.length∧i=.int .i64 ((l.length:Int)-1-k)∧∃Wn,J k Wn wr) (fun i _=>(intOf i+1).toNat)
 case atStart=>exact⟨0,Nat.zero_le _,by simp,Wn,h0⟩
 case round=>
  obtain⟨k,hk,rfl,Wn',hJk⟩:=hrel
  obtain⟨μ',ad',cap',hbx',hcap',hel'⟩:=box k Wn' wr hJk
  by_cases hlt:k<l.length
  ·have hix:l.length-1-k<l.length:=by omega
   obtain⟨⟨x1,x2⟩,hx⟩:∃x,l[l.length-1-k]? =some x:=⟨_,List.getElem?_eq_getElem hix⟩
   obtain⟨b2,o2,pa,pn,pc,rfl,hc0,hc1,hrp⟩:=hel' _ _ hx
   simp only at hc0 hc1 hrp
   have hrev:(l.reverse[k]?).getD ⟨0,[]⟩=⟨x1,x2⟩:=by
    rw[List.getElem?_reverse (by omega),hx];rfl
   obtain⟨fn,tmps,assign,body,hy,hR⟩:=hY k Wn' wr [.int .i64 ((l.length:Int)-1-k),.agg #[.int .i64 x1,.slice pa pn pc]] hlt hJk (fun Wn'' μ'' hrA=>by
    rw[hrev]
    obtain⟨vA,usA,eA,hvA,_⟩:=bT.oe hrA
    cases eA
    obtain⟨adA,capA,hA1,hA2,hA3⟩:=xO hvA
    rw[List.length_map,hbx'] at hA1
    obtain⟨bA,oA,vsA,eA,hlenA,hcA,hrepA⟩:=hA3 _ _ (gT hx)
    cases hA1
    cases eA
    obtain⟨w0,w1,rfl⟩:=JF hlenA
    have c1:=hcA 1 _ rfl
    rw[hc1] at c1
    cases c1
    refine .cons .lit (.cons (cq.agg (vs:=[.int .i64 x1,.slice pa pn pc]) rfl ?_) .nil)
    rintro(_|_|j) c v hc hv
    ·cases hc;cases hv;exact .lit
    ·cases hc;cases hv;exact hrepA 1 _ _ rfl rfl
    ·simp at hv)
   have hz:((l.length:Int)-1-k).toNat=l.length-1-k:=by omega
   gi_wp2
   refine hR.mono ?_
   rintro e W3 (⟨rfl,Wn3,hJ3,_⟩|⟨rfl,hJx3⟩)
   ·gi_wp2
    go_roundw
    case rel=>exact⟨k+1,by omega,by congr 1;omega,Wn3,hJ3⟩
    case measure=>simp[intOf];omega
   ·gi_wp2
    refine bodyPost_ret (results_none rfl _ _ _) rfl ?_
    exact⟨⟨_,rfl⟩,.inr hJx3⟩
  ·obtain rfl:k=l.length:=by omega
   gi_wp2
   go_end0
   exact⟨⟨_,rfl⟩,.inl ⟨_,hJk⟩⟩
end Go.Proofs.Heir
namespace Go.Proofs.Heir
open Go Go.Am Go.RowKit Go.Lib
set_option maxRecDepth 100000
set_option maxHeartbeats 8000000
theorem Lu (l:List dx):ah Tryz.prog 234 [] [mL l] [] (.clo (.func 258) [] [.fptr (mL l) 0]):=by
 refine ah.af (rvs:=[.tmp 2]) G aa Tryz.func234 rfl Tryz.ntmps234 rfl rfl ?_;with_reducible refine wD ?_
 refine⟨⟨rfl,rfl⟩,⟨rfl,trivial,⟨_,_,_,_,_,rfl,rfl,rfl,rfl,rfl,rfl⟩,trivial⟩,?_⟩
 exact trivial
@[reducible] def A6 (t : List (Int × dx)) : MS := .live 2 (dZ oD jU t) false
theorem lJ (t:List (Int×dx)):aN (dZ oD jU t)=true:=by
 rw[bL];intro x hx
 obtain⟨a,_,rfl⟩:=List.mem_map.1 hx
 show bj (.agg [.lit (oD a.1),jU a.2])=true
 simp[bj,aN,Du]
theorem Di (t:List (Int×dx)):fR [A6 t]:=by
 refine⟨bw.eD fun r hr=>?_,lJ _,trivial⟩
 obtain⟨p,_,rfl⟩:=List.mem_map.1 hr
 rfl
theorem Ni:ja Tryz.prog 242 (.int .i64) (.agg #[.int .i64 0,.slice none 0 0]):=⟨3,138,by kernel_rfl,by kernel_rfl,fun w=>Tryz.zeroValue138 w⟩
def kP (l:List dx)(k:Nat):List (Int×dx):=(l.reverse.take k).foldl (fun t h=>eB h.kind h t) []
theorem Dc (l:List dx):kP l l.length=oQ l:=by unfold kP oQ;rw[List.take_of_length_le (by simp)]
theorem uT {l:List dx}{k:Nat}{h:dx}(hh:l.reverse[k]? =some h):kP l (k+1)=eB h.kind h (kP l k):=by
 unfold kP
 rw[List.take_add_one,hh,List.foldl_append];rfl
theorem wU (l:List dx):∀k,(kP l k).length≤k
 |0=>Nat.le_refl _
 | k +1=>by
   have h:=wU l k
   cases e:l.reverse[k]? with
   | none=>
     have:kP l (k+1)=kP l k:=by unfold kP;rw[List.take_add_one,e];simp
     rw[this];omega
   | some x=>
     rw[uT e,oa]
     split<;>omega
theorem MM (c:aH)(hc:c.hooks.length≤100000):ah Tryz.prog 187 [] [cN c] [A6 (oQ c.hooks)] (.mapr 0):=by
 obtain⟨c1,c2,c3,c4,c5⟩:=c
 simp only at hc ⊢
 refine ah.af (rvs:=[.tmp 2]) G aa Tryz.func187 rfl Tryz.ntmps187 rfl rfl ?_;with_reducible refine wD ?_
 refine cV (Lu c5) QD ?_;with_reducible refine wK ?_
 repeat' (first
  |refine gK ?_|refine aE ?_ ?_
  |apply trivial)
 refine aU.range G aa 2 [(1,.ptr 1 0 0),(3,.ptr 0 0 0),(9,.clo (.func 258) [] [.fptr (mL c5) 0])]
  (fun k=>[(0,.live 1 [.mapr 61] false),(1,.live 5 [cN ⟨c1,c2,c3,c4,c5⟩] false),(61,A6 (kP c5 k))])
  (Kj c5 hc) QT ?_ rfl ⟨⟨rfl,rfl⟩,rfl⟩ (fun _ _=>rfl) (fun _ _=>rfl) ⟨⟨rfl,rfl⟩,rfl,rfl⟩ ?_ ?_
 ·(refine fK ?_;(with_reducible repeat' (first|exact trivial|(show _∧_;refine aK ?_ ?_)));(all_goals try rfl))
  ·exact⟨.refl rfl,rfl⟩
  ·exact⟨.refl rfl,rfl⟩
 ·intro k hk
  obtain⟨⟨x1,x2⟩,hx⟩:∃x,c5.reverse[k]? =some x:=⟨_,List.getElem?_eq_getElem (by simpa using hk)⟩
  rw[hx,Option.getD_some]
  have hst:=uT hx
  have hle:=wU c5 k
  with_reducible refine wK ?_
  refine wS.mk rfl ?_;with_reducible refine wK ?_
  repeat' (first
  |refine gK ?_|refine aE ?_ ?_
  |apply trivial)
  refine s7.ck oD jU (kP c5 k) (k:=x1) ⟨x1,x2⟩ Ni rfl ju j4 (by unfold maxLen;omega) rfl ?_;with_reducible refine wK ?_
  simp only at hst
  rw[←hst]
  repeat' (first
  |refine gK ?_|refine aE ?_ ?_
  |apply trivial)
  refine BD.mk ?_
  (refine fK ?_;(with_reducible repeat' (first|exact trivial|(show _∧_;refine aK ?_ ?_)));(all_goals try rfl))
  ·exact⟨.refl rfl,rfl⟩
  ·exact⟨.refl (lJ _),lJ _⟩
 ·with_reducible refine wK ?_
  rw[Dc]
  (refine eK ?_ ?_<;>with_reducible repeat' (first|exact trivial|(show _∧_;refine aK ?_ ?_)))
  exact aD (lJ _)
theorem sZ (c:aH)(hc:c.hooks.length≤100000)(k:Int):ah Tryz.prog 119 [] [cN c,aq k] [] (aA (dc c k)):=by
 have h53:=MM c hc
 have hg:=wR k c.hooks
 unfold dc
 rw[←hg]
 obtain⟨c1,c2,c3,c4,c5⟩:=c
 simp only at h53 ⊢
 refine ah.af (rvs:=[.tmp 4]) G aa Tryz.func119 rfl Tryz.ntmps119 rfl rfl ?_;with_reducible refine wD ?_
 refine aj.new 91 [] h53 Q8 ⟨⟨rfl,rfl,rfl,rfl,rfl,trivial⟩,trivial⟩ rfl rfl rfl (Di _) rfl ?_;with_reducible refine wK ?_
 refine jc.ck oD jU (oQ c5) (k:=k) (zv:=.agg [aq 0,.lit (.slice none 0 0)]) Ni ⟨_,_,rfl⟩ ju j4 rfl rfl (fun x hx=>?_) (fun hx=>?_)
 ·rw[show jU x=kY x from rfl,hx]
  obtain⟨x1,x2⟩:=x
  with_reducible refine wK ?_
  repeat' (first
  |refine gK ?_|refine aE ?_ ?_
  |apply trivial)
  all_goals rfl
 ·rw[hx]
  with_reducible refine wK ?_
  repeat' (first
  |refine gK ?_|refine aE ?_ ?_
  |apply trivial)
  all_goals rfl
theorem Fx (c:aH)(hc:c.hooks.length≤100000)(hw:c.watch.length≤100000)(s:ByteArray):ah Tryz.prog 118 [] [cN c,cm s] [] (aA (kM c s)):=by
 have h25:=sZ c hc 4
 have h55:=AE c.watch hw s
 unfold kM
 obtain⟨c1,c2,c3,c4,c5⟩:=c
 simp only at h25 h55 ⊢
 refine ah.af (rvs:=[.tmp 4]) G aa Tryz.func118 rfl Tryz.ntmps118 rfl rfl ?_;with_reducible refine wD ?_
 cases e1:dc ⟨c1,c2,c3,c4,c5⟩ 4<;>rw[e1] at h25
 ·repeat' (first
  |refine gK ?_|refine aE ?_ ?_
  |(((with_reducible refine kQ 119 ?_);refine cL h25 Ay ?_)<;>with_reducible refine wK ?_)
  |apply trivial)
  all_goals rfl
 ·repeat' (first
  |refine gK ?_|refine aE ?_ ?_
  | ((first
   |((with_reducible refine kQ 119 ?_);refine cL h25 Ay ?_)
   |((with_reducible refine kQ 184 ?_);refine cL h55 PK ?_))<;>with_reducible refine wK ?_)
  |apply trivial)
  all_goals rw[Bool.true_and]
theorem gJ {s:StateM}{d:aZ}{cs:List aH}(h:eP s d cs.length=-1):cw s d cs=sA∧jr s d cs=false:=by
 unfold cw jr
 rw[h];exact⟨rfl,rfl⟩
theorem tW {s:StateM}{d:aZ}{cs:List aH}{k:Nat}{c:aH}(h:eP s d cs.length=k)(hc:cs[k]? =some c):cw s d cs=c∧jr s d cs=true:=by
 unfold cw jr
 rw[h,if_pos (by omega),Int.toNat_natCast,hc]
 exact⟨rfl,decide_eq_true (by omega)⟩
theorem BX (s:StateM)(d:aZ)(cs:List aH):(s.df<0∧eP s d cs.length=-1)∨(¬s.df<0∧(d.defs.length:Int)≤s.df∧eP s d cs.length=-1)∨
  ∃ (n:Nat) (x:bD),s.df=n∧d.defs[n]? =some x∧(((x.cls<0)∧eP s d cs.length=-1)∨(¬x.cls<0∧(cs.length:Int)≤x.cls∧eP s d cs.length=-1)∨∃ (m:Nat) (c:aH),x.cls=m∧cs[m]? =some c∧eP s d cs.length=m):=by
 by_cases h1:s.df<0
 ·exact .inl ⟨h1,by unfold eP;rw[if_neg (by omega)]⟩
 obtain⟨n,hn⟩:∃n:Nat,s.df=n:=⟨_,(Int.toNat_of_nonneg (by omega)).symm⟩
 have e:eP s d cs.length=match d.defs[n]? with
  |some x=>if 0≤x.cls∧x.cls<cs.length then x.cls else-1
  |none=> -1:=by unfold eP;rw[if_pos (by omega),hn,Int.toNat_natCast]<;>(cases d.defs[n]? <;>rfl)
 by_cases h2:(d.defs.length:Int)≤s.df
 ·exact .inr (.inl ⟨h1,h2,by rw[e,List.getElem?_eq_none (by omega)]⟩)
 obtain⟨x,hx⟩:∃x,d.defs[n]? =some x:=⟨_,List.getElem?_eq_getElem (by omega)⟩
 rw[hx] at e
 simp only at e
 refine .inr (.inr ⟨n,x,hn,hx,?_⟩)
 by_cases h3:x.cls<0
 ·exact .inl ⟨h3,by rw[e,if_neg (by omega)]⟩
 by_cases h4:(cs.length:Int)≤x.cls
 ·exact .inr (.inl ⟨h3,h4,by rw[e,if_neg (by omega)]⟩)
 obtain⟨m,hm⟩:∃m:Nat,x.cls=m:=⟨_,(Int.toNat_of_nonneg (by omega)).symm⟩
 exact .inr (.inr ⟨m,_,hm,List.getElem?_eq_getElem (by omega),by rw[e,if_pos (by omega),hm]⟩)
theorem Az (s:StateM)(d:aZ)(cs:List aH):ah Tryz.prog 117 [] [aX s,gi d,bJ cs] [] (.tup [cN (cw s d cs),aA (jr s d cs)]):=by
 have hd:=(show(d.defs.map fH).length=d.defs.length from List.length_map ..)
 have hcs:=(show(cs.map dM).length=cs.length from List.length_map ..)
 rcases BX s d cs with⟨h1,h2⟩|⟨h1,h2,h3⟩|⟨n,⟨x1,x2,x3⟩,hn,hx,⟨h1,h2⟩|⟨h1,h2,h3⟩|⟨m,⟨c1,c2,c3,c4,c5⟩,hm,hc,h1⟩⟩
 ·rw[(gJ h2).1,(gJ h2).2]
  obtain⟨s1,s2,s3,s4⟩:=s
  obtain⟨d1,d2,d3,d4⟩:=d
  simp only at h1
  refine ah.af (rvs:=[.cell 6 53,.tmp 7]) G aa Tryz.func117 rfl Tryz.ntmps117 rfl rfl ?_;with_reducible refine wD ?_
  (have fct:=(eq_true h1);(repeat' (first
  |refine gF ?_|refine aE ?_ ?_
  |apply trivial));all_goals clear fct)
  all_goals first|rfl|exact .inr (.inr ⟨_,rfl⟩)
 ·rw[(gJ h3).1,(gJ h3).2]
  obtain⟨s1,s2,s3,s4⟩:=s
  obtain⟨d1,d2,d3,d4⟩:=d
  simp only at h1 h2 hd
  refine ah.af (rvs:=[.cell 6 53,.tmp 7]) G aa Tryz.func117 rfl Tryz.ntmps117 rfl rfl ?_;with_reducible refine wD ?_
  (have fct:=And.intro (eq_false h1) (And.intro hd ((eq_true h2)));(repeat' (first
  |refine gF ?_|refine aE ?_ ?_
  |apply trivial));all_goals clear fct)
  all_goals first|rfl|exact .inr (.inr ⟨_,rfl⟩)
 ·rw[(gJ h2).1,(gJ h2).2]
  obtain⟨s1,s2,s3,s4⟩:=s
  obtain⟨d1,d2,d3,d4⟩:=d
  simp only at h1 hn hx hd
  subst hn
  have hl:=(List.getElem?_eq_some_iff.1 hx).1
  refine ah.af (rvs:=[.cell 6 53,.tmp 7]) G aa Tryz.func117 rfl Tryz.ntmps117 rfl rfl ?_;with_reducible refine wD ?_
  (have fct:=And.intro hd ((eq_true h1));(repeat' (first
  |refine pF ?_|refine aE ?_ ?_
  | ((first
   |((with_reducible show bq _ _ _ _);(refine bq.mk (fun hp=>?_) (fun hp=>?_)<;>(try simp only[aF,decide_eq_true_eq,decide_eq_false_iff_not,Bool.not_eq_true',Bool.not_eq_false',Decidable.not_not,Int.not_lt,Int.not_le] at hp)))
   |((with_reducible show ay _ _ _ _ _);refine ay.mk n (jH ⟨x1,x2,x3⟩) rfl (dD hx) ?_))<;>with_reducible refine wK ?_)
  |apply trivial));all_goals clear fct)
  all_goals first|rfl|exact .inr (.inr ⟨_,rfl⟩)
 ·rw[(gJ h3).1,(gJ h3).2]
  obtain⟨s1,s2,s3,s4⟩:=s
  obtain⟨d1,d2,d3,d4⟩:=d
  simp only at h1 h2 hn hx hd
  subst hn
  have hl:=(List.getElem?_eq_some_iff.1 hx).1
  refine ah.af (rvs:=[.cell 6 53,.tmp 7]) G aa Tryz.func117 rfl Tryz.ntmps117 rfl rfl ?_;with_reducible refine wD ?_
  (have fct:=And.intro hd (And.intro hcs (And.intro (eq_false h1) ((eq_true h2))));(repeat' (first
  |refine pF ?_|refine aE ?_ ?_
  | ((first
   |((with_reducible show bq _ _ _ _);(refine bq.mk (fun hp=>?_) (fun hp=>?_)<;>(try simp only[aF,decide_eq_true_eq,decide_eq_false_iff_not,Bool.not_eq_true',Bool.not_eq_false',Decidable.not_not,Int.not_lt,Int.not_le] at hp)))
   |((with_reducible show ay _ _ _ _ _);refine ay.mk n (jH ⟨x1,x2,x3⟩) rfl (dD hx) ?_))<;>with_reducible refine wK ?_)
  |apply trivial));all_goals clear fct)
  all_goals first|rfl|exact .inr (.inr ⟨_,rfl⟩)
 ·rw[(tW h1 hc).1,(tW h1 hc).2]
  obtain⟨s1,s2,s3,s4⟩:=s
  obtain⟨d1,d2,d3,d4⟩:=d
  simp only at hm hn hx hd
  subst hn
  subst hm
  have hl:=(List.getElem?_eq_some_iff.1 hx).1
  have hl2:=(List.getElem?_eq_some_iff.1 hc).1
  refine ah.af (rvs:=[.cell 6 53,.tmp 7]) G aa Tryz.func117 rfl Tryz.ntmps117 rfl rfl ?_;with_reducible refine wD ?_
  (have fct:=And.intro hd (hcs);(repeat' (first
  |refine pF ?_|refine aE ?_ ?_
  | ((first
   |((with_reducible show bq _ _ _ _);(refine bq.mk (fun hp=>?_) (fun hp=>?_)<;>(try simp only[aF,decide_eq_true_eq,decide_eq_false_iff_not,Bool.not_eq_true',Bool.not_eq_false',Decidable.not_not,Int.not_lt,Int.not_le] at hp)))
   |((with_reducible show ay _ _ _ _ _);first|refine ay.mk n (jH ⟨x1,x2,(m:Int)⟩) rfl (dD hx) ?_|refine ay.mk m (cN ⟨c1,c2,c3,c4,c5⟩) rfl (jm hc) ?_))<;>with_reducible refine wK ?_)
  |apply trivial));all_goals clear fct)
  all_goals trace_state
def iY (f:ForM)(st:List StateM)(d:aZ):Bool:=(decide (st.length=f.nodes.length)&&aV f)&&eW d
theorem Fo (f:ForM)(hs:bS f.nodes)(st:List StateM)(d:aZ)(hd:iS d)(cs:List aH):ah Tryz.prog 115 [] [cJ f,fc st,gi d,bJ cs] [] (.tup [FB ⟨f,st,d,cs⟩,aA (iY f st d)]):=by
 have h48:=j7 f hs
 have h62:=AZ d hd
 unfold iY
 have hst:=(show(st.map bG).length=st.length from List.length_map ..)
 have hlm:=(show(f.nodes.map bZ).length=f.nodes.length from List.length_map ..)
 obtain⟨l,m⟩:=f
 obtain⟨d1,d2,d3,d4⟩:=d
 simp only at h48 h62 hlm ⊢
 refine ah.af (rvs:=[.cell 8 173,.tmp 9]) G aa Tryz.func115 rfl Tryz.ntmps115 rfl rfl ?_;with_reducible refine wD ?_
 by_cases e1:st.length=l.length
 ·cases e2:aV ⟨l,m⟩<;>rw[e2] at h48
  ·(have fct:=And.intro hst (And.intro hlm ((eq_true e1)));(repeat' (first
  |refine gF ?_|refine aE ?_ ?_
  |(((with_reducible refine kQ 100 ?_);refine cL h48 mT ?_)<;>with_reducible refine wK ?_)
  | apply trivial));all_goals clear fct)
   all_goals simp[e1]
  ·cases e3:eW ⟨d1,d2,d3,d4⟩<;>rw[e3] at h62
   ·(have fct:=And.intro hst (And.intro hlm ((eq_true e1)));(repeat' (first
  |refine gF ?_|refine aE ?_ ?_
  | ((first
   |((with_reducible refine kQ 100 ?_);refine cL h48 mT ?_)
   |((with_reducible refine kQ 144 ?_);refine cL h62 IC ?_))<;>with_reducible refine wK ?_)
  | apply trivial));all_goals clear fct)
    all_goals simp[e1]
   ·(have fct:=And.intro hst (And.intro hlm ((eq_true e1)));(repeat' (first
  |refine gF ?_|refine aE ?_ ?_
  | ((first
   |((with_reducible refine kQ 100 ?_);refine cL h48 mT ?_)
   |((with_reducible refine kQ 144 ?_);refine cL h62 IC ?_))<;>with_reducible refine wK ?_)
  | apply trivial));all_goals clear fct)
    all_goals simp[e1]
 ·(have fct:=And.intro hst (And.intro hlm ((eq_false e1)));(repeat' (first
  |refine gF ?_|refine aE ?_ ?_
  |apply trivial));all_goals clear fct)
  all_goals simp[e1]
theorem EK (v:M0)(n:Int):ah Tryz.prog 116 [] [FB v,aq n] [] (aA (elemV v.f.nodes n)):=by
 obtain⟨⟨l,m⟩,st,⟨d1,d2,d3,d4⟩,cs⟩:=v
 have hlm:=(show(l.map bZ).length=l.length from List.length_map ..)
 unfold elemV
 simp only
 refine ah.af (rvs:=[.tmp 4]) G aa Tryz.func116 rfl Tryz.ntmps116 rfl rfl ?_;with_reducible refine wD ?_
 cases e:ak l n with
 | false=>
   by_cases h0:0≤n
   ·have h1:¬n< (l.length:Int):=fun h=>by unfold ak at e;rw[decide_eq_true h0,decide_eq_true h] at e;cases e
    (have fct:=And.intro hlm (And.intro (eq_true h0) ((eq_false h1)));(repeat' (first
  |refine gF ?_|refine aE ?_ ?_
  | apply trivial));all_goals clear fct)
    all_goals rfl
   ·(have fct:=(eq_false h0);(repeat' (first
  |refine gF ?_|refine aE ?_ ?_
  | apply trivial));all_goals clear fct)
    all_goals rfl
 | true=>
   obtain⟨i,y,rfl,hy,hny⟩:=bC.1 e
   rw[hny]
   have h1:(i:Int)< (l.length:Int):=by have:=(List.getElem?_eq_some_iff.1 hy).1;omega
   obtain⟨a1,a2,a3,a4,a5,a6,a7,a8,a9,a10⟩:=y
   (have fct:=And.intro hlm ((eq_true h1));(repeat' (first
  |refine gF ?_|refine aE ?_ ?_
  |(((with_reducible show ay _ _ _ _ _);refine ay.mk i (aS _) rfl (aG hy) ?_)<;>with_reducible refine wK ?_)
  | apply trivial));all_goals clear fct)
   all_goals simp
structure Bk (c:aH):Prop where
 hooks:c.hooks.length≤100000
 watch:c.watch.length≤100000
 peek:c.peek.length≤100000
 make:c.make.length≤100000
 progs:∀h∈c.hooks,h.prog.length≤100000
def lz (cs:List aH):Prop:=∀c∈cs,Bk c
theorem yB:Bk sA:=⟨by decide,by decide,by decide,by decide,fun h hh=>by simp[sA] at hh⟩
theorem sY {cs:List aH}(h:lz cs)(s:StateM)(d:aZ):Bk (cw s d cs):=by
 rcases yy s d cs.length with e|⟨k,hk,e⟩
 ·rw[(gJ e).1];exact yB
 ·rw[(tW e (List.getElem?_eq_getElem hk)).1];exact h _ (List.getElem_mem hk)
theorem KC (f:ForM)(hs:bS f.nodes)(st:List StateM)(d:aZ)(hd:iS d)(cs:List aH)(hc:lz cs)(x:dL)(i:Nat)(s:StateM)(hi:x.node=i)(hx:st[i]? =some s):ah Tryz.prog 167 [] [FB ⟨f,st,d,cs⟩,FK x] [] (.tup [iD (mq f s d cs x).1,aA (mq f s d cs x).2]):=by
 have h15:=Iz f hs i d hd
 have h32:=Az s d cs
 have hcv:=sY hc s d
 have h27:=fun n=>Fx (cw s d cs) hcv.hooks hcv.watch n
 have h25:=fun k=>sZ (cw s d cs) hcv.hooks k
 obtain⟨x1,x2,x3,x4,x5,x6,x7,x8,x9⟩:=x
 simp only at hi
 subst hi
 unfold mq Fm Ek
 simp only
 generalize lS f i d=at' at h15 ⊢
 generalize jr s d cs=cb at h32 ⊢
 generalize cw s d cs=c at h32 h27 h25 ⊢
 obtain⟨l,m⟩:=f
 obtain⟨d1,d2,d3,d4⟩:=d
 obtain⟨s1,s2,s3,s4⟩:=s
 simp only at h15 h32 ⊢
 refine ah.af (rvs:=[.cell 4 59,.tmp 5]) G aa Tryz.func167 rfl Tryz.ntmps167 rfl rfl ?_;with_reducible refine wD ?_
 refine ay.mk i (aX _) rfl (aM hx) ?_;with_reducible refine wK ?_
 by_cases p1:s1=1
 ·subst p1
  rw[if_pos rfl]
  by_cases k1:x1=1
  ·subst k1
   repeat' (first
  |refine gK ?_|refine aE ?_ ?_
  |(((with_reducible refine kQ 58 ?_);refine cL h15 P2 ?_)<;>with_reducible refine wK ?_)
  | apply trivial)
   all_goals first|rfl|simp
  ·(have fct:=(eq_false k1);(repeat' (first
  |refine gF ?_|refine aE ?_ ?_
  |(((with_reducible refine kQ 58 ?_);refine cL h15 P2 ?_)<;>with_reducible refine wK ?_)
  | apply trivial));all_goals clear fct)
   all_goals first|rfl|simp[k1]
 rw[if_neg p1]
 by_cases p3:s1=3
 ·subst p3
  rw[if_pos rfl]
  obtain⟨c1,c2,c3,c4,c5⟩:=c
  have h27':=h27 x5
  have h25':=h25 x1
  clear h27 h25
  refine bq.no rfl ?_;with_reducible refine wK ?_
  refine bq.yes rfl ?_;with_reducible refine wK ?_
  refine cV h32 K5 ?_;with_reducible refine wK ?_
  by_cases k4:x1=4
  ·subst k4
   rw[if_pos rfl]
   cases cb with
   | false=>
     repeat' (first
  |refine gK ?_|refine aE ?_ ?_
  | apply trivial)
     all_goals first|rfl|simp
   | true=>
     cases e:kM ⟨c1,c2,c3,c4,c5⟩ x5<;>rw[e] at h27'
     ·repeat' (first
  |refine gK ?_|refine aE ?_ ?_
  |(((with_reducible refine kQ 118 ?_);refine cL h27' Nt ?_)<;>with_reducible refine wK ?_)
  |apply trivial)
      all_goals first|rfl|simp
     ·repeat' (first
  |refine gK ?_|refine aE ?_ ?_
  | ((first
   |((with_reducible refine kQ 118 ?_);refine cL h27' Nt ?_)
   |((with_reducible refine kQ 119 ?_);refine cL h25' Ay ?_))<;>with_reducible refine wK ?_)
  |apply trivial)
      all_goals first|rfl|simp
  rw[if_neg k4]
  by_cases k:x1=1∨x1=2∨x1=3
  ·rw[if_pos k]
   rcases k with rfl|rfl|rfl
   ·repeat' (first
  |refine gK ?_|refine aE ?_ ?_
  | apply trivial)
    cases cb
    ·repeat' (first
  |refine gK ?_|refine aE ?_ ?_
  | apply trivial)
     all_goals first|rfl|simp
    ·repeat' (first
  |refine gK ?_|refine aE ?_ ?_
  |(((with_reducible refine kQ 119 ?_);refine cL h25' Ay ?_)<;>with_reducible refine wK ?_)
  | apply trivial)
     all_goals first|rfl|simp
   ·repeat' (first
  |refine gK ?_|refine aE ?_ ?_
  | apply trivial)
    cases cb
    ·repeat' (first
  |refine gK ?_|refine aE ?_ ?_
  | apply trivial)
     all_goals first|rfl|simp
    ·repeat' (first
  |refine gK ?_|refine aE ?_ ?_
  |(((with_reducible refine kQ 119 ?_);refine cL h25' Ay ?_)<;>with_reducible refine wK ?_)
  | apply trivial)
     all_goals first|rfl|simp
   ·repeat' (first
  |refine gK ?_|refine aE ?_ ?_
  | apply trivial)
    cases cb
    ·repeat' (first
  |refine gK ?_|refine aE ?_ ?_
  | apply trivial)
     all_goals first|rfl|simp
    ·repeat' (first
  |refine gK ?_|refine aE ?_ ?_
  |(((with_reducible refine kQ 119 ?_);refine cL h25' Ay ?_)<;>with_reducible refine wK ?_)
  |apply trivial)
     all_goals first|rfl|simp
  ·rw[if_neg k]
   have k1:¬x1=1:=fun h=>k (.inl h)
   have k2:¬x1=2:=fun h=>k (.inr (.inl h))
   have k3:¬x1=3:=fun h=>k (.inr (.inr h))
   (have fct:=And.intro (eq_false k1) (And.intro (eq_false k2) (And.intro (eq_false k3) ((eq_false k4))));(repeat' (first
  |refine gF ?_|refine aE ?_ ?_
  | apply trivial));all_goals clear fct)
   all_goals first|rfl|simp
 ·rw[if_neg p3]
  (have fct:=And.intro (eq_false p1) ((eq_false p3));(repeat' (first
  |refine gF ?_|refine aE ?_ ?_
  |apply trivial));all_goals clear fct)
  all_goals first|rfl|simp
def eI (st:List StateM)(n:Int):StateM:=(st[n.toNat]?).getD ⟨0,0,0,false⟩
def xZ (f:ForM)(st:List StateM)(d:aZ)(cs:List aH)(x:dL):List bB:=
 if elemV f.nodes x.node=true then(if(mq f (eI st x.node) d cs x).2=true then[⟨x.node,(mq f (eI st x.node) d cs x).1⟩] else[]) else[]
def ep (f:ForM)(st:List StateM)(d:aZ)(cs:List aH)(ns:List dL):List bB:=if iY f st d=true then ns.flatMap (xZ f st d cs) else[]
theorem BN (f:ForM)(st:List StateM)(d:aZ)(cs:List aH)(x:dL):(xZ f st d cs x).length≤1:=by
 unfold xZ
 split
 ·split<;>simp
 ·simp
theorem ou {α β:Type}(g:α→List β)(h:∀x,(g x).length≤1):∀l:List α,(l.flatMap g).length≤l.length
 |[]=>Nat.le_refl _
 | a::r=>by
   have:=ou g h r
   have:=h a
   rw[List.flatMap_cons,List.length_append,List.length_cons];omega
theorem zO {α β:Type}(g:α→List β){l:List α}{k:Nat}{x:α}(h:l[k]? =some x):(l.take (k+1)).flatMap g=(l.take k).flatMap g++g x:=by
 rw[ik h,List.flatMap_append]
 congr 1
 rw[List.flatMap_cons];simp
theorem AY {l:List au}{st:List StateM}{n:Int}(h:elemV l n=true)(hl:st.length=l.length):∃ (i:Nat) (s:StateM),n=i∧st[i]? =some s∧eI st n=s:=by
 unfold elemV at h
 rw[Bool.and_eq_true] at h
 obtain⟨i,y,rfl,hy,_⟩:=bC.1 h.1
 have hi:=(List.getElem?_eq_some_iff.1 hy).1
 have hs:st[i]? =some st[i]:=List.getElem?_eq_getElem (by omega)
 exact⟨i,_,rfl,hs,by unfold eI;rw[Int.toNat_natCast,hs];rfl⟩
theorem Mi (f:ForM)(hs:bS f.nodes)(st:List StateM)(d:aZ)(hd:iS d)(cs:List aH)(hc:lz cs)(ns:List dL)(hns:ns.length≤100000):ah Tryz.prog 103 [] [cJ f,fc st,gi d,bJ cs,AX ns] [] (jM (ep f st d cs ns)):=by
 have h57:=Fo f hs st d hd cs
 have h58:=fun n=>EK ⟨f,st,d,cs⟩ n
 have h59:=fun x i s=>KC f hs st d hd cs hc x i s
 have hlm:(ns.map Fc).length=ns.length:=List.length_map ..
 unfold ep
 cases e0:iY f st d with
 | false=>
   rw[e0] at h57
   obtain⟨l,m⟩:=f
   obtain⟨d1,d2,d3,d4⟩:=d
   try simp only at h57
   refine ah.af (rvs:=[.tmp 10]) G aa Tryz.func103 rfl Tryz.ntmps103 rfl rfl ?_;with_reducible refine wD ?_
   repeat' (first
  |refine gK ?_|refine aE ?_ ?_
  |(((with_reducible refine kQ 115 ?_);refine cV h57 GZ ?_)<;>with_reducible refine wK ?_)
  | apply trivial)
   all_goals exact .inr (.inr ⟨_,rfl⟩)
 | true =>
   rw[e0] at h57
   rw[if_pos rfl]
   obtain⟨ks,hks⟩:∃ks:Nat→List bB,ks=fun k=>(ns.take k).flatMap (xZ f st d cs):=⟨_,rfl⟩
   have hkl:∀k,(ks k).length≤k:=fun k=>by
    rw[hks];exact Nat.le_trans (ou _ (BN f st d cs) _) (by rw[List.length_take];omega)
   have hk0:ks 0=[]:=by rw[hks];rfl
   have hke:ks ns.length=ns.flatMap (xZ f st d cs):=by rw[hks];show List.flatMap _ (ns.take ns.length)=_;rw[List.take_length]
   have hstep:∀ (k:Nat) (x:dL),ns[k]? =some x→ks (k+1)=ks k++xZ f st d cs x:=fun k x hx=>by rw[hks];exact zO _ hx
   have hle:st.length=f.nodes.length:=by unfold iY at e0;simp only[Bool.and_eq_true,decide_eq_true_eq] at e0;exact e0.1.1
   rw[←hke]
   unfold xZ at hstep
   clear hks hke
   generalize hf:f.nodes=ls at hle hstep
   have hst:=fun n (h:elemV ls n=true)=>AY (st:=st) h hle
   obtain⟨l,m⟩:=f
   obtain⟨d1,d2,d3,d4⟩:=d
   try simp only at h57 h58 hf
   subst hf
   refine ah.af (rvs:=[.tmp 10]) G aa Tryz.func103 rfl Tryz.ntmps103 rfl rfl ?_;with_reducible refine wD ?_
   refine cV h57 GZ ?_;with_reducible refine wK ?_
   repeat' (first
  |refine gK ?_|refine aE ?_ ?_
  | apply trivial)
   refine aU.ghost 13 131 11 rfl rfl ?_
   refine aU.use G aa (fun(k:Nat)=>[(11,.ptr 110 0 0),(13,.own 131 0 (ks k).length),(28,AX ns),(29,aq ns.length),(30,aq k)])
    (fun k=>[(110,.live 8 [FB ⟨⟨l,m⟩,st,⟨d1,d2,d3,d4⟩,cs⟩] false),(131,dn (ks k))]) (fun k=>k≤ns.length) (fun k=>ns.length-k) 0 (Nat.zero_le _)
    (by rw[hk0];exact⟨⟨rfl,rfl⟩,⟨⟨rfl,rfl⟩,⟨rfl,rfl⟩,rfl,by show(ns.length:Int)=((ns.map Fc).length:Int);rw[hlm],rfl,trivial⟩,⟨⟨rfl,rfl,rfl,rfl,rfl,rfl,rfl,rfl,trivial⟩,trivial⟩,⟨.refl rfl,aJ _⟩,trivial⟩) ?_
   intro k hk
   with_reducible refine wK ?_
   refine bq.mk (fun h1=>?_) (fun h1=>?_)<;>(try simp only[aF] at h1)<;>with_reducible refine wK ?_
   ·have hk':k<ns.length:=by simp only[decide_eq_true_eq] at h1;omega
    obtain⟨⟨x1,x2,x3,x4,x5,x6,x7,x8,x9⟩,hx⟩:∃x,ns[k]? =some x:=⟨_,List.getElem?_eq_getElem hk'⟩
    have hstp:=hstep k _ hx
    have hkk:=hkl k
    have h58':=h58 x2
    have h59':=h59 ⟨x1,x2,x3,x4,x5,x6,x7,x8,x9⟩
    have hst':=hst x2
    try simp only at hstp h58' h59'
    clear hstep h58 h59 hst
    refine ay.mk k (FK _) rfl (JH hx) ?_;with_reducible refine wK ?_
    cases e1:elemV l x2 with
    | false=>
      rw[e1] at h58' hstp
      rw[if_neg (by simp),List.append_nil] at hstp
      repeat' (first
  |refine gK ?_|refine aE ?_ ?_
  |(((with_reducible refine kQ 116 ?_);refine cL h58' GO ?_)<;>with_reducible refine wK ?_)
  | apply trivial)
      refine aL.mk (k+1) (by omega) (by omega) ⟨⟨rfl,rfl⟩,⟨⟨rfl,rfl⟩,⟨rfl,by rw[hstp]⟩,rfl,rfl,by show((k+1:Nat):Int)=(k:Int)+1;omega,trivial⟩,⟨⟨rfl,rfl,rfl,rfl,rfl,rfl,rfl,rfl,trivial⟩,trivial⟩,⟨by rw[hstp];exact .refl (aJ _),aJ _⟩,trivial⟩
    | true=>
      rw[e1] at h58' hstp
      rw[if_pos rfl] at hstp
      obtain⟨i,s,hi,hsi,hso⟩:=hst' e1
      have h59'':=h59' i s hi hsi
      rw[hso] at hstp
      clear h59' hst'
      generalize mq ⟨l,m⟩ s ⟨d1,d2,d3,d4⟩ cs ⟨x1,x2,x3,x4,x5,x6,x7,x8,x9⟩=r at h59'' hstp
      obtain⟨⟨t1,t2,t3,t4,t5,t6,t7,t8,t9,t10⟩,b⟩:=r
      try simp only at h59'' hstp
      cases b with
      | false=>
        rw[if_neg (by simp),List.append_nil] at hstp
        repeat' (first
  |refine gK ?_|refine aE ?_ ?_
  | ((first
   |((with_reducible refine kQ 116 ?_);refine cL h58' GO ?_)
   |((with_reducible refine kQ 167 ?_);refine cV h59'' PI ?_))<;>with_reducible refine wK ?_)
  |apply trivial)
        refine aL.mk (k+1) (by omega) (by omega) ⟨⟨rfl,rfl⟩,⟨⟨rfl,rfl⟩,⟨rfl,by rw[hstp]⟩,rfl,rfl,by show((k+1:Nat):Int)=(k:Int)+1;omega,trivial⟩,⟨⟨rfl,rfl,rfl,rfl,rfl,rfl,rfl,rfl,trivial⟩,trivial⟩,⟨by rw[hstp];exact .refl (aJ _),aJ _⟩,trivial⟩
      | true=>
        rw[if_pos rfl] at hstp
        repeat' (first
  |refine gK ?_|refine aE ?_ ?_
  | ((first
   |((with_reducible refine kQ 116 ?_);refine cL h58' GO ?_)
   |((with_reducible refine kQ 167 ?_);refine cV h59'' PI ?_)
   |((with_reducible show dI _ _ _ _ _ _ _ _ _ _);refine dI.mk ((ks k).map gV) [kE ⟨x2,⟨t1,t2,t3,t4,t5,t6,t7,t8,t9,t10⟩⟩] ⟨rfl,(List.length_map ..).symm,rfl⟩ ⟨rfl,rfl,rfl⟩ rfl (by simp;omega) (by simp;omega) ?_))<;>with_reducible refine wK ?_)
  | apply trivial)
        refine aL.mk (k+1) (by omega) (by omega) ⟨⟨rfl,rfl⟩,⟨⟨rfl,rfl⟩,⟨rfl,by rw[hstp];simp⟩,rfl,rfl,by show((k+1:Nat):Int)=(k:Int)+1;omega,trivial⟩,⟨⟨rfl,rfl,rfl,rfl,rfl,rfl,rfl,rfl,trivial⟩,trivial⟩,⟨by rw[hstp,List.map_append];exact .refl (by rw[←List.map_append];exact aJ _),aJ _⟩,trivial⟩
   ·have hkn:k=ns.length:=by simp only[decide_eq_false_iff_not] at h1;omega
    subst hkn
    (refine eK ?_ ?_<;>with_reducible repeat' (first|exact trivial|(show _∧_;refine aK ?_ ?_)))
    all_goals exact jl rfl rfl rfl rfl
def l6 (c:aH)(n:Int)(a:AttrM):List bB:=if kM c a.name=true then[⟨n,⟨4,0,a.name,false,true,⟨#[]⟩,a.value,0,0,false⟩⟩] else[]
def yH (b:Bool)(n:Int):List bB:=if b=true then[⟨n,⟨1,0,⟨#[]⟩,false,false,⟨#[]⟩,⟨#[]⟩,0,0,false⟩⟩] else[]
theorem vL (c:aH)(n:Int)(a:AttrM):(l6 c n a).length≤1:=by
 unfold l6
 split<;>simp
def wo (f:ForM)(c:aH)(n:Int):List bB:=(nd f.nodes n).attrs.flatMap (l6 c n)++yH (dc c 1&&DO f n) n
def cC (f:ForM)(st:List StateM)(d:aZ)(cs:List aH)(n:Int):List bB:=
 if((iY f st d&&elemV f.nodes n)&&jr (eI st n) d cs)=true then wo f (cw (eI st n) d cs) n else[]
theorem HY (f:ForM)(hs:bS f.nodes)(st:List StateM)(d:aZ)(hd:iS d)(cs:List aH)(hc:lz cs)(n:Int):ah Tryz.prog 49 [] [cJ f,fc st,gi d,bJ cs,aq n] [] (jM (cC f st d cs n)):=by
 have h57:=Fo f hs st d hd cs
 have h58:=EK ⟨f,st,d,cs⟩ n
 have h40:=FR f hs n
 unfold cC
 cases e0:iY f st d with
 | false=>
   rw[e0] at h57
   obtain⟨l,m⟩:=f
   obtain⟨d1,d2,d3,d4⟩:=d
   try simp only at h57
   refine ah.af (rvs:=[.tmp 10]) G aa Tryz.func49 rfl Tryz.ntmps49 rfl rfl ?_;with_reducible refine wD ?_
   repeat' (first
  |refine gK ?_|refine aE ?_ ?_
  |(((with_reducible refine kQ 115 ?_);refine cV h57 GZ ?_)<;>with_reducible refine wK ?_)
  | apply trivial)
   all_goals exact .inr (.inr ⟨_,rfl⟩)
 | true =>
   rw[e0] at h57
   have hle:st.length=f.nodes.length:=by unfold iY at e0;simp only[Bool.and_eq_true,decide_eq_true_eq] at e0;exact e0.1.1
   cases e1:elemV f.nodes n with
   | false=>
     rw[e1] at h58
     obtain⟨l,m⟩:=f
     obtain⟨d1,d2,d3,d4⟩:=d
     try simp only at h57 h58
     refine ah.af (rvs:=[.tmp 10]) G aa Tryz.func49 rfl Tryz.ntmps49 rfl rfl ?_;with_reducible refine wD ?_
     repeat' (first
  |refine gK ?_|refine aE ?_ ?_
  | ((first
   |((with_reducible refine kQ 115 ?_);refine cV h57 GZ ?_)
   |((with_reducible refine kQ 116 ?_);refine cL h58 GO ?_))<;>with_reducible refine wK ?_)
  | apply trivial)
     all_goals exact .inr (.inr ⟨_,rfl⟩)
   | true=>
     rw[e1] at h58
     obtain⟨i,s,rfl,hsi,hso⟩:=AY e1 hle
     rw[hso]
     obtain⟨y,hy,hny⟩:∃y,f.nodes[i]? =some y∧nd f.nodes i=y:=⟨_,List.getElem?_eq_getElem (by have:=(List.getElem?_eq_some_iff.1 hsi).1;omega),cZ (List.getElem?_eq_getElem _)⟩
     have hya:=hs.attrs y (List.mem_of_getElem? hy)
     have h32:=Az s d cs
     have hcv:=sY hc s d
     have h27:=fun n=>Fx (cw s d cs) hcv.hooks hcv.watch n
     have h25:=sZ (cw s d cs) hcv.hooks 1
     unfold wo
     rw[hny]
     generalize cw s d cs=c at h32 h27 h25 ⊢
     cases e2:jr s d cs with
     | false=>
       rw[e2] at h32
       obtain⟨l,m⟩:=f
       obtain⟨d1,d2,d3,d4⟩:=d
       obtain⟨s1,s2,s3,s4⟩:=s
       obtain⟨c1,c2,c3,c4,c5⟩:=c
       try simp only at h57 h58 hy h32
       refine ah.af (rvs:=[.tmp 10]) G aa Tryz.func49 rfl Tryz.ntmps49 rfl rfl ?_;with_reducible refine wD ?_
       repeat' (first
  |refine gK ?_|refine aE ?_ ?_
  | ((first
   |((with_reducible refine kQ 115 ?_);refine cV h57 GZ ?_)
   |((with_reducible refine kQ 116 ?_);refine cL h58 GO ?_)
   |((with_reducible show ay _ _ _ _ _);refine ay.mk i (aX _) rfl (aM hsi) ?_)
   |((with_reducible refine kQ 117 ?_);refine cV h32 K5 ?_))<;>with_reducible refine wK ?_)
  |apply trivial)
       all_goals exact .inr (.inr ⟨_,rfl⟩)
     | true=>
       rw[e2] at h32
       rw[show((true&&true)&&true)=true from rfl,if_pos rfl]
       obtain⟨ks,hks⟩:∃ks:Nat→List bB,ks=fun k=>(y.attrs.take k).flatMap (l6 c i):=⟨_,rfl⟩
       have hkl:∀k,(ks k).length≤k:=fun k=>by
        rw[hks];exact Nat.le_trans (ou _ (vL c i) _) (by rw[List.length_take];omega)
       have hk0:ks 0=[]:=by rw[hks];rfl
       have hke:ks y.attrs.length=y.attrs.flatMap (l6 c i):=by rw[hks];show List.flatMap _ (y.attrs.take y.attrs.length)=_;rw[List.take_length]
       have hstep:∀ (k:Nat) (x:AttrM),y.attrs[k]? =some x→ks (k+1)=ks k++l6 c i x:=fun k x hx=>by rw[hks];exact zO _ hx
       rw[←hke]
       unfold l6 at hstep
       clear hks hke e1
       obtain⟨l,m⟩:=f
       obtain⟨d1,d2,d3,d4⟩:=d
       obtain⟨s1,s2,s3,s4⟩:=s
       obtain⟨a1,a2,a3,a4,a5,a6,a7,a8,a9,a10⟩:=y
       try simp only at h57 h58 hy h32 hkl hstep hya h40 ⊢
       generalize dc c 1=hb at h25 ⊢
       generalize DO ⟨l,m⟩ i=hcn at h40 ⊢
       generalize kM c=wf at h27 hstep
       obtain⟨c1,c2,c3,c4,c5⟩:=c
       have hlm:(a5.map eN).length=a5.length:=List.length_map ..
       refine ah.af (rvs:=[.tmp 10]) G aa Tryz.func49 rfl Tryz.ntmps49 rfl rfl ?_;with_reducible refine wD ?_
       repeat' (first
  |refine gK ?_|refine aE ?_ ?_
  | ((first
   |((with_reducible refine kQ 115 ?_);refine cV h57 GZ ?_)
   |((with_reducible refine kQ 116 ?_);refine cL h58 GO ?_)
   |((with_reducible show ay _ _ _ _ _);first|refine ay.mk i (aX _) rfl (aM hsi) ?_|refine ay.mk i (aS _) rfl (aG hy) ?_)
   |((with_reducible refine kQ 117 ?_);refine cV h32 K5 ?_))<;>with_reducible refine wK ?_)
  |apply  trivial)
       refine aU.ghost 14 141 11 rfl rfl ?_
       refine aU.use G aa (fun(k:Nat)=>[(4,aq i),(5,.ptr 50 0 0),(13,.ptr 130 0 0),(14,.own 141 0 (ks k).length),(50,eU a5),(51,aq a5.length),(52,aq k)])
        (fun k=>[(50,.live 2 [cJ ⟨l,m⟩] false),(130,.live 5 [cN ⟨c1,c2,c3,c4,c5⟩] false),(141,dn (ks k))]) (fun k=>k≤a5.length) (fun k=>a5.length-k) 0 (Nat.zero_le _)
        (by rw[hk0];exact⟨⟨rfl,rfl⟩,⟨rfl,⟨rfl,rfl⟩,⟨rfl,rfl⟩,⟨rfl,rfl⟩,rfl,by show(a5.length:Int)=((a5.map eN).length:Int);rw[hlm],rfl,trivial⟩,⟨⟨rfl,rfl,trivial⟩,trivial⟩,⟨⟨rfl,rfl,rfl,rfl,rfl,trivial⟩,trivial⟩,⟨.refl rfl,aJ _⟩,trivial⟩) ?_
       intro k hk
       with_reducible refine wK ?_
       have hkk:=hkl k
       refine bq.mk (fun h1=>?_) (fun h1=>?_)<;>(try simp only[aF] at h1)<;>with_reducible refine wK ?_
       ·have hk':k<a5.length:=by simp only[decide_eq_true_eq] at h1;omega
        obtain⟨⟨u1,u2⟩,hx⟩:∃x,a5[k]? =some x:=⟨_,List.getElem?_eq_getElem hk'⟩
        have hstp:=hstep k _ hx
        have h27':=h27 u1
        try simp only at hstp
        clear hstep h27
        generalize wf u1=wb at h27' hstp
        refine ay.mk k (pz _) rfl (oH hx) ?_;with_reducible refine wK ?_
        refine cL h27' Nt ?_;with_reducible refine wK ?_
        cases wb with
        | false=>
          rw[if_neg (by simp),List.append_nil] at hstp
          repeat' (first
  |refine gK ?_|refine aE ?_ ?_
  |apply  trivial)
          refine aL.mk (k+1) (by omega) (by omega) ⟨⟨rfl,rfl⟩,⟨rfl,⟨rfl,rfl⟩,⟨rfl,rfl⟩,⟨rfl,by rw[hstp]⟩,rfl,rfl,by show((k+1:Nat):Int)=(k:Int)+1;omega,trivial⟩,⟨⟨rfl,rfl,trivial⟩,trivial⟩,⟨⟨rfl,rfl,rfl,rfl,rfl,trivial⟩,trivial⟩,⟨by rw[hstp];exact .refl (aJ _),aJ _⟩,trivial⟩
        | true=>
          rw[if_pos rfl] at hstp
          repeat' (first
  |refine gK ?_|refine aE ?_ ?_
  |(((with_reducible show dI _ _ _ _ _ _ _ _ _ _);refine dI.mk ((ks k).map gV) [kE ⟨(i:Int),⟨4,0,u1,false,true,⟨#[]⟩,u2,0,0,false⟩⟩] ⟨rfl,(List.length_map ..).symm,rfl⟩ ⟨rfl,rfl,rfl⟩ rfl (by simp;omega) (by simp;omega) ?_)<;>with_reducible refine wK ?_)
  |apply  trivial)
          refine aL.mk (k+1) (by omega) (by omega) ⟨⟨rfl,rfl⟩,⟨rfl,⟨rfl,rfl⟩,⟨rfl,rfl⟩,⟨rfl,by rw[hstp];simp⟩,rfl,rfl,by show((k+1:Nat):Int)=(k:Int)+1;omega,trivial⟩,⟨⟨rfl,rfl,trivial⟩,trivial⟩,⟨⟨rfl,rfl,rfl,rfl,rfl,trivial⟩,trivial⟩,⟨by rw[hstp,List.map_append];exact .refl (by rw[←List.map_append];exact aJ _),aJ _⟩,trivial⟩
       ·have hkn:k=a5.length:=by simp only[decide_eq_false_iff_not] at h1;omega
        subst hkn
        clear hstep h27
        unfold yH
        refine cL h25 Ay ?_;with_reducible refine wK ?_
        cases hb with
        | false=>
          rw[Bool.false_and,if_neg (by simp),List.append_nil]
          repeat' (first
  |refine gK ?_|refine aE ?_ ?_
  |apply  trivial)
          all_goals exact jl rfl rfl rfl rfl
        | true=>
          rw[Bool.true_and]
          repeat' (first
  |refine gK ?_|refine aE ?_ ?_
  |(((with_reducible refine kQ 120 ?_);refine cL h40 Lm ?_)<;>with_reducible refine wK ?_)
  |apply  trivial)
          cases hcn with
          | false=>
            rw[if_neg (by simp),List.append_nil]
            repeat' (first
  |refine gK ?_|refine aE ?_ ?_
  |apply  trivial)
            all_goals exact jl rfl rfl rfl rfl
          | true=>
            rw[if_pos rfl]
            repeat' (first
  |refine gK ?_|refine aE ?_ ?_
  |(((with_reducible show dI _ _ _ _ _ _ _ _ _ _);refine dI.mk ((ks a5.length).map gV) [kE ⟨(i:Int),⟨1,0,⟨#[]⟩,false,false,⟨#[]⟩,⟨#[]⟩,0,0,false⟩⟩] ⟨rfl,(List.length_map ..).symm,rfl⟩ ⟨rfl,rfl,rfl⟩ rfl (by simp;omega) (by simp;omega) ?_)<;>with_reducible refine wK ?_)
  |apply trivial)
            all_goals exact jl rfl rfl (by rw[List.map_append];rfl) (by simp)
theorem bytes_inj {a b:ByteArray}(h:a.toList=b.toList):a=b:=by
 rw[ByteArray.toList_eq,ByteArray.toList_eq] at h
 cases a;cases b
 simp only[ByteArray.mk.injEq]
 exact Array.toList_inj.1 h
@[reducible] def Ow (a : CW) : Value := .agg #[.int .i64 a.kind, .int .i64 a.a, .int .i64 a.b, .int .i64 a.c, .string a.s, .string a.t, .bool a.must]
def NO (t u:CW):Bool:=(t.kind==u.kind)&&((t.a==u.a)&&((t.b==u.b)&&((t.c==u.c)&&((t.s.toList==u.s.toList)&&((t.t.toList==u.t.toList)&&(t.must==u.must))))))
theorem I6 (t u:CW):NO t u=decide (t=u):=by
 rw[Bool.eq_iff_iff,decide_eq_true_eq]
 unfold NO
 simp only[Bool.and_eq_true,beq_iff_eq]
 constructor
 ·rintro⟨a,b,c,d,e,f,g⟩
  cases t;cases u
  simp only at*
  subst a;subst b;subst c;subst d;subst g
  rw[bytes_inj e,bytes_inj f]
 ·rintro rfl;simp
theorem op_eq (t u:CW)(w:World):(Op.equalIn 10000 274 (Ow t) (Ow u)).run Tryz.prog w=.ok (decide (t=u)) w:=by
 have hS:Tryz.prog.underlying 274=some (.struct (Tryz.prog.fieldsOf 274)):=by kernel_rfl
 have hp:Tryz.prog.stoodInHeld 274=false:=by kernel_rfl
 have u3:=Tryz.underlying3
 have a3:=Tryz.isAgg3
 have z3:=Tryz.sizeOf3
 have u4:=Tryz.underlying4
 have a4:=Tryz.isAgg4
 have z4:=Tryz.sizeOf4
 have u9:=Tryz.underlying9
 have a9:=Tryz.isAgg9
 have z9:=Tryz.sizeOf9
 rw[←I6,show(10000:Nat)=9999+1 from rfl,run_equalIn_agg w 9999 274 _ _ hS hp]
 simp only[Program.fieldsOf,Tryz.underlying274]
 go_simp
 clear hS hp u3 a3 z3 u4 a4 z4 u9 a9 z9
 unfold NO
 by_cases h1:t.kind=u.kind<;>by_cases h2:t.a=u.a<;>by_cases h3:t.b=u.b<;>simp[h1,h2,h3]
 by_cases h1:t.c=u.c<;>by_cases h2:t.s.toList=u.s.toList<;>by_cases h3:t.t.toList=u.t.toList<;>simp[h1,h2,h3]
 by_cases h1:t.must=u.must<;>simp[h1]
theorem No (a b:CW)(y z:Operand)(w:World):((do eqGuard .neq 274 y z (Ow a) (Ow b);binOp .neq 274 (Ow a) (Ow b):Sem Value)).run Tryz.prog w=.ok (.bool (!decide (a=b))) w:=by
 rw[Sem.run_bind,run_eqGuard_agg w .neq 274 y z _ _ (by kernel_rfl),Result.andThen_ok,run_neq_struct,op_eq];rfl
theorem Bs (a b:List CW)(ha:a.length≤100000):ah Tryz.prog 179 [] [yj a,yj b] [] (aA (decide (a=b))):=by
 have hlm:(a.map HQ).length=a.length:=List.length_map ..
 have hlm':(b.map HQ).length=b.length:=List.length_map ..
 refine ah.af (rvs:=[.tmp 4]) G aa Tryz.func179 rfl Tryz.ntmps179 rfl rfl ?_;with_reducible refine wD ?_
 by_cases g1:a.length=b.length
 ·(have fct:=And.intro hlm (And.intro hlm' (g1));(repeat' (first
  |refine gF ?_|refine aE ?_ ?_
  |apply trivial));all_goals clear fct)
  refine aU.use G aa (fun(k:Nat)=>[(0,yj a),(1,yj b),(5,aq k)]) (fun _=>[]) (fun k=>k≤a.length∧∀j,j<k→a[j]? =b[j]?) (fun k=>a.length-k) 0 ⟨Nat.zero_le _,fun j hj=>by omega⟩
   ⟨⟨rfl,rfl⟩,⟨rfl,rfl,rfl,trivial⟩,trivial⟩ ?_
  intro k ⟨hk,hno⟩
  with_reducible refine wK ?_
  refine bq.mk (fun h1=>?_) (fun h1=>?_)<;>(try simp only[aF] at h1)<;>with_reducible refine wK ?_
  ·simp only[hlm,decide_eq_true_eq] at h1
   have hk':k<a.length:=by omega
   obtain⟨⟨x1,x2,x3,x4,x5,x6,x7⟩,hx⟩:∃x,a[k]? =some x:=⟨_,List.getElem?_eq_getElem hk'⟩
   obtain⟨⟨y1,y2,y3,y4,y5,y6,y7⟩,hy⟩:∃y,b[k]? =some y:=⟨_,List.getElem?_eq_getElem (by omega)⟩
   refine ay.mk k (Qh ⟨x1,x2,x3,x4,x5,x6,x7⟩) rfl (Jt hx) ?_;with_reducible refine wK ?_
   refine ay.mk k (Qh ⟨y1,y2,y3,y4,y5,y6,y7⟩) rfl (Jt hy) ?_;with_reducible refine wK ?_
   refine tB.mk _ (fun y z w=>No ⟨x1,x2,x3,x4,x5,x6,x7⟩ ⟨y1,y2,y3,y4,y5,y6,y7⟩ y z w) ?_;with_reducible refine wK ?_
   by_cases e:(⟨x1,x2,x3,x4,x5,x6,x7⟩:CW)=⟨y1,y2,y3,y4,y5,y6,y7⟩
   ·have e':=hx.trans ((congrArg some e).trans hy.symm)
    rw[decide_eq_true e]
    repeat' (first
  |refine gK ?_|refine aE ?_ ?_
  |(((with_reducible show aL _ _);refine aL.mk (k+1) ⟨by omega,mI hno e'⟩ (by omega) ⟨⟨rfl,rfl⟩,⟨rfl,rfl,by show((k+1:Nat):Int)=(k:Int)+1;omega,trivial⟩,trivial⟩)<;>with_reducible refine wK ?_)
  | apply trivial)
   ·rw[show decide (a=b)=false from decide_eq_false fun h=>e (by rw[h] at hx;rw[hx] at hy;exact Option.some.inj hy),decide_eq_false e]
    repeat' (first
  |refine gK ?_|refine aE ?_ ?_
  |apply trivial)
  ·have hkl:k=a.length:=by simp only[hlm,decide_eq_false_iff_not] at h1;omega
   subst hkl
   rw[show decide (a=b)=true from decide_eq_true (mG g1 hno)]
   (have fct:=hlm;(repeat' (first
  |refine gF ?_|refine aE ?_ ?_
  |apply trivial));all_goals clear fct)
 ·rw[show decide (a=b)=false from decide_eq_false fun h=>g1 (by rw[h])]
  (have fct:=And.intro hlm (And.intro hlm' (g1));(repeat' (first
  |refine gF ?_|refine aE ?_ ?_
  |apply trivial));all_goals clear fct)
theorem LC (a b:aH)(ha:Bk a):ah Tryz.prog 108 [] [cN a,cN b] [] (aA (decide (a=b))):=by
 have h29p:=Bs a.peek b.peek ha.peek
 have h29m:=Bs a.make b.make ha.make
 have hpr:=ha.progs
 have hal:=ha.watch
 have hah:=ha.hooks
 have hne:∀ {p:Prop},p→(p→a≠b)→decide (a=b)=false:=fun h g=>decide_eq_false (g h)
 obtain⟨a1,a2,a3,a4,a5⟩:=a
 obtain⟨b1,b2,b3,b4,b5⟩:=b
 simp only at h29p h29m hpr hal hah
 have n2:(a2.map kU).length=a2.length:=List.length_map ..
 have m2:(b2.map kU).length=b2.length:=List.length_map ..
 have n5:(a5.map jU).length=a5.length:=List.length_map ..
 have m5:(b5.map jU).length=b5.length:=List.length_map ..
 refine ah.af (rvs:=[.tmp 4]) G aa Tryz.func108 rfl Tryz.ntmps108 rfl rfl ?_;with_reducible refine wD ?_
 by_cases g1:a1=b1
 case neg=>
  rw[hne g1 fun g e=>g (congrArg aH.form e)]
  (have fct:=(eq_false g1);(repeat' (first
  |refine gF ?_|refine aE ?_ ?_
  |apply trivial));all_goals clear fct)
 subst g1
 by_cases g2:a2.length=b2.length
 case neg=>
  rw[hne g2 fun g e=>g (congrArg (fun c=>c.watch.length) e)]
  (have fct:=And.intro n2 (And.intro m2 ((eq_false g2)));(repeat' (first
  |refine gF ?_|refine aE ?_ ?_
  |apply trivial));all_goals clear fct)
 by_cases g3:a3=b3
 case neg=>
  rw[hne g3 fun g e=>g (congrArg aH.peek e)]
  rw[decide_eq_false g3] at h29p
  (have fct:=And.intro n2 (And.intro m2 (g2));(repeat' (first
  |refine gF ?_|refine aE ?_ ?_
  |(((with_reducible refine kQ 179 ?_);refine cL h29p Bp ?_)<;>with_reducible refine wK ?_)
  |apply trivial));all_goals clear fct)
 rw[decide_eq_true g3] at h29p
 by_cases g4:a4=b4
 case neg=>
  rw[hne g4 fun g e=>g (congrArg aH.make e)]
  rw[decide_eq_false g4] at h29m
  (have fct:=And.intro n2 (And.intro m2 (g2));(repeat' (first
  |refine gF ?_|refine aE ?_ ?_
  |(((with_reducible refine kQ 179 ?_);first|refine cL h29p Bp ?_|refine cL h29m Bp ?_)<;>with_reducible refine wK ?_)
  |apply trivial));all_goals clear fct)
 rw[decide_eq_true g4] at h29m
 by_cases g5:a5.length=b5.length
 case neg=>
  rw[hne g5 fun g e=>g (congrArg (fun c=>c.hooks.length) e)]
  (have fct:=And.intro n2 (And.intro m2 (And.intro g2 (And.intro n5 (And.intro m5 ((eq_false g5))))));(repeat' (first
  |refine gF ?_|refine aE ?_ ?_
  |(((with_reducible refine kQ 179 ?_);first|refine cL h29p Bp ?_|refine cL h29m Bp ?_)<;>with_reducible refine wK ?_)
  |apply trivial));all_goals clear fct)
 (have fct:=And.intro n2 (And.intro m2 (And.intro g2 (And.intro n5 (And.intro m5 (g5)))));(repeat' (first
  |refine gF ?_|refine aE ?_ ?_
  |(((with_reducible refine kQ 179 ?_);first|refine cL h29p Bp ?_|refine cL h29m Bp ?_)<;>with_reducible refine wK ?_)
  |apply trivial));all_goals clear fct)
 refine aU.use G aa (fun(k:Nat)=>[(2,.ptr 20 0 0),(3,.ptr 30 0 0),(5,aq k)]) (fun _=>[(20,.live 5 [cN ⟨a1,a2,a3,a4,a5⟩] false),(30,.live 5 [cN ⟨a1,b2,b3,b4,b5⟩] false)]) (fun k=>k≤a2.length∧∀j,j<k→a2[j]? =b2[j]?) (fun k=>a2.length-k) 0 ⟨Nat.zero_le _,fun j hj=>by omega⟩
  ⟨⟨rfl,rfl⟩,⟨⟨rfl,rfl⟩,⟨rfl,rfl⟩,rfl,trivial⟩,⟨⟨rfl,rfl,rfl,rfl,rfl,trivial⟩,trivial⟩,⟨⟨rfl,rfl,rfl,rfl,rfl,trivial⟩,trivial⟩,trivial⟩ ?_
 intro k ⟨hk,hno⟩
 with_reducible refine wK ?_
 refine bq.mk (fun h1=>?_) (fun h1=>?_)<;>(try simp only[aF] at h1)<;>with_reducible refine wK ?_
 ·simp only[n2,decide_eq_true_eq] at h1
  obtain⟨x,hx⟩:∃x,a2[k]? =some x:=⟨_,List.getElem?_eq_getElem (by omega)⟩
  obtain⟨y,hy⟩:∃y,b2[k]? =some y:=⟨_,List.getElem?_eq_getElem (by omega)⟩
  refine ay.mk k (cm x) rfl (mA hx) ?_;with_reducible refine wK ?_
  refine ay.mk k (cm y) rfl (mA hy) ?_;with_reducible refine wK ?_
  by_cases e:x=y
  ·have e':=hx.trans ((congrArg some e).trans hy.symm)
   (have fct:=e;(repeat' (first
  |refine gF ?_|refine aE ?_ ?_
  |(((with_reducible show aL _ _);refine aL.mk (k+1) ⟨by omega,mI hno e'⟩ (by omega) ⟨⟨rfl,rfl⟩,⟨⟨rfl,rfl⟩,⟨rfl,rfl⟩,by show((k+1:Nat):Int)=(k:Int)+1;omega,trivial⟩,⟨⟨rfl,rfl,rfl,rfl,rfl,trivial⟩,trivial⟩,⟨⟨rfl,rfl,rfl,rfl,rfl,trivial⟩,trivial⟩,trivial⟩)<;>with_reducible refine wK ?_)
  |apply trivial));all_goals clear fct)
  ·rw[hne e fun g h=>g (by have h2:=congrArg aH.watch h;simp only at h2;rw[h2,hy] at hx;exact(Option.some.inj hx).symm)]
   (have fct:=(eq_false e);(repeat' (first
  |refine gF ?_|refine aE ?_ ?_
  |apply trivial));all_goals clear fct)
 ·have hkl:k=a2.length:=by simp only[n2,decide_eq_false_iff_not] at h1;omega
  subst hkl
  have e2:=mG g2 hno
  refine aU.use G aa (fun(k:Nat)=>[(2,.ptr 20 0 0),(3,.ptr 30 0 0),(6,aq k)]) (fun _=>[(20,.live 5 [cN ⟨a1,a2,a3,a4,a5⟩] false),(30,.live 5 [cN ⟨a1,b2,b3,b4,b5⟩] false)]) (fun k=>k≤a5.length∧∀j,j<k→a5[j]? =b5[j]?) (fun k=>a5.length-k) 0 ⟨Nat.zero_le _,fun j hj=>by omega⟩
   ⟨⟨rfl,rfl⟩,⟨⟨rfl,rfl⟩,⟨rfl,rfl⟩,rfl,trivial⟩,⟨⟨rfl,rfl,rfl,rfl,rfl,trivial⟩,trivial⟩,⟨⟨rfl,rfl,rfl,rfl,rfl,trivial⟩,trivial⟩,trivial⟩ ?_
  intro k ⟨hk,hno⟩
  with_reducible refine wK ?_
  refine bq.mk (fun h1=>?_) (fun h1=>?_)<;>(try simp only[aF] at h1)<;>with_reducible refine wK ?_
  ·simp only[n5,decide_eq_true_eq] at h1
   obtain⟨⟨x1,x2⟩,hx⟩:∃x,a5[k]? =some x:=⟨_,List.getElem?_eq_getElem (by omega)⟩
   obtain⟨⟨y1,y2⟩,hy⟩:∃y,b5[k]? =some y:=⟨_,List.getElem?_eq_getElem (by omega)⟩
   have h29:=Bs x2 y2 (hpr _ (List.mem_of_getElem? hx))
   have hb:¬ ((⟨x1,x2⟩:dx)=⟨y1,y2⟩)→decide ((⟨a1,a2,a3,a4,a5⟩:aH)=⟨a1,b2,b3,b4,b5⟩)=false:=fun e=>hne e fun g h=>g (by have h2:=congrArg aH.hooks h;simp only at h2;rw[h2,hy] at hx;exact(Option.some.inj hx).symm)
   refine ay.mk k (kY ⟨x1,x2⟩) rfl (gT hx) ?_;with_reducible refine wK ?_
   refine ay.mk k (kY ⟨y1,y2⟩) rfl (gT hy) ?_;with_reducible refine wK ?_
   by_cases e:x1=y1
   ·by_cases e3:x2=y2
    ·have e':=hx.trans ((congrArg some (show(⟨x1,x2⟩:dx)=⟨y1,y2⟩ by rw[e,e3])).trans hy.symm)
     rw[decide_eq_true e3] at h29
     (have fct:=e;(repeat' (first
  |refine gF ?_|refine aE ?_ ?_
  | ((first
   |((with_reducible show ay _ _ _ _ _);first|refine ay.mk k (kY ⟨x1,x2⟩) rfl (gT hx) ?_|refine ay.mk k (kY ⟨y1,y2⟩) rfl (gT hy) ?_)
   |((with_reducible refine kQ 179 ?_);refine cL h29 Bp ?_)
   |((with_reducible show aL _ _);refine aL.mk (k+1) ⟨by omega,mI hno e'⟩ (by omega) ⟨⟨rfl,rfl⟩,⟨⟨rfl,rfl⟩,⟨rfl,rfl⟩,by show((k+1:Nat):Int)=(k:Int)+1;omega,trivial⟩,⟨⟨rfl,rfl,rfl,rfl,rfl,trivial⟩,trivial⟩,⟨⟨rfl,rfl,rfl,rfl,rfl,trivial⟩,trivial⟩,trivial⟩))<;>with_reducible refine wK ?_)
  | apply trivial));all_goals clear fct)
    ·rw[hb fun h=>e3 (congrArg dx.prog h)]
     rw[decide_eq_false e3] at h29
     (have fct:=e;(repeat' (first
  |refine gF ?_|refine aE ?_ ?_
  | ((first
   |((with_reducible show ay _ _ _ _ _);first|refine ay.mk k (kY ⟨x1,x2⟩) rfl (gT hx) ?_|refine ay.mk k (kY ⟨y1,y2⟩) rfl (gT hy) ?_)
   |((with_reducible refine kQ 179 ?_);refine cL h29 Bp ?_))<;>with_reducible refine wK ?_)
  | apply trivial));all_goals clear fct)
   ·rw[hb fun h=>e (congrArg dx.kind h)]
    (have fct:=(eq_false e);(repeat' (first
  |refine gF ?_|refine aE ?_ ?_
  |apply trivial));all_goals clear fct)
  ·have hkl:k=a5.length:=by simp only[n5,decide_eq_false_iff_not] at h1;omega
   subst hkl
   rw[show decide ((⟨a1,a2,a3,a4,a5⟩:aH)=⟨a1,b2,b3,b4,b5⟩)=true from decide_eq_true (by rw[e2,g3,g4,mG g5 hno])]
   repeat' (first
  |refine gK ?_|refine aE ?_ ?_
  |apply trivial)
def wk (h:dx):Bool:=decide (h.prog.length≤80)
def o9 (c:aH):Bool:=(((decide (c.watch.length≤20)&&decide (c.hooks.length≤20))&&decide (c.peek.length≤80))&&decide (c.make.length≤80))&&c.hooks.all wk
def l9 (cs:List aH):Bool:=decide (cs.length≤14)&&cs.all o9
theorem n7 {cs:List aH}(h:l9 cs=true):lz cs:=by
 intro c hc
 unfold l9 at h
 rw[Bool.and_eq_true,List.all_eq_true] at h
 have h2:=h.2 c hc
 unfold o9 at h2
 simp only[Bool.and_eq_true,decide_eq_true_eq,List.all_eq_true] at h2
 obtain⟨⟨⟨⟨h3,h4⟩,h5⟩,h6⟩,h7⟩:=h2
 exact⟨by omega,by omega,by omega,by omega,fun x hx=>by have:=h7 x hx;unfold wk at this;simp only[decide_eq_true_eq] at this;omega⟩
theorem Np (cs:List aH):ah Tryz.prog 70 [] [bJ cs] [] (aA (l9 cs)):=by
 unfold l9
 have hlm:(cs.map dM).length=cs.length:=List.length_map ..
 refine ah.af (rvs:=[.tmp 2]) G aa Tryz.func70 rfl Tryz.ntmps70 rfl rfl ?_;with_reducible refine wD ?_
 by_cases e0:(14:Int)< (cs.length:Int)
 ·rw[decide_eq_false (show ¬cs.length≤14 by omega)]
  (have fct:=And.intro hlm (e0);(repeat' (first
  |refine gF ?_|refine aE ?_ ?_
  |apply trivial));all_goals clear fct)
  all_goals rfl
 rw[decide_eq_true (show cs.length≤14 by omega),Bool.true_and]
 (have fct:=And.intro hlm ((eq_false e0));(repeat' (first
  |refine gF ?_|refine aE ?_ ?_
  |apply trivial));all_goals clear fct)
 refine aU.use G aa (fun(k:Nat)=>[(0,bJ cs),(3,aq k)]) (fun _=>[])
  (fun k=>k≤cs.length∧∀ (j:Nat) (y:aH),j<k→cs[j]? =some y→o9 y=true) (fun k=>cs.length-k) 0 ⟨Nat.zero_le _,fun j y h=>by omega⟩
  ⟨⟨rfl,rfl⟩,⟨rfl,rfl,trivial⟩,trivial⟩ ?_
 rintro k ⟨hk,hok⟩
 with_reducible refine wK ?_
 refine bq.mk (fun h1=>?_) (fun h1=>?_)<;>(try simp only[aF] at h1)<;>with_reducible refine wK ?_
 ·have hk':k<cs.length:=by simp only[decide_eq_true_eq] at h1;omega
  obtain⟨x,hx⟩:∃x,cs[k]? =some x:=⟨_,List.getElem?_eq_getElem hk'⟩
  have bad:o9 x=false→cs.all o9=false:=fun h=>qY hx h
  have good:o9 x=true→∀ (j:Nat) (y:aH),j<k+1→cs[j]? =some y→o9 y=true:=fun h j y hj hy=>by
   rcases Nat.lt_or_ge j k with h6|h6
   ·exact hok j y h6 hy
   ·have:j=k:=by omega
    subst this
    rw[hx] at hy;cases hy;exact h
  obtain⟨c1,c2,c3,c4,c5⟩:=x
  have n2:(c2.map kU).length=c2.length:=List.length_map ..
  have n3:(c3.map HQ).length=c3.length:=List.length_map ..
  have n4:(c4.map HQ).length=c4.length:=List.length_map ..
  have n5:(c5.map jU).length=c5.length:=List.length_map ..
  have sk:o9 ⟨c1,c2,c3,c4,c5⟩=((((decide (c2.length≤20)&&decide (c5.length≤20))&&decide (c3.length≤80))&&decide (c4.length≤80))&&c5.all wk):=rfl
  rw[sk] at bad good
  refine ay.mk k (cN ⟨c1,c2,c3,c4,c5⟩) rfl (jm hx) ?_;with_reducible refine wK ?_
  by_cases e1:(20:Int)< (c2.length:Int)
  ·rw[bad (by rw[decide_eq_false (show ¬c2.length≤20 by omega)];rfl)]
   (have fct:=And.intro n2 (e1);(repeat' (first
  |refine gF ?_|refine aE ?_ ?_
  |apply trivial));all_goals clear fct)
  by_cases e2:(20:Int)< (c5.length:Int)
  ·rw[bad (by rw[decide_eq_false (show ¬c5.length≤20 by omega),Bool.and_false];rfl)]
   (have fct:=And.intro n2 (And.intro n5 (And.intro (eq_false e1) (e2)));(repeat' (first
  |refine gF ?_|refine aE ?_ ?_
  |apply trivial));all_goals clear fct)
  by_cases e3:(80:Int)< (c3.length:Int)
  ·rw[bad (by rw[decide_eq_false (show ¬c3.length≤80 by omega),Bool.and_false];rfl)]
   (have fct:=And.intro n2 (And.intro n5 (And.intro n3 (And.intro (eq_false e1) (And.intro (eq_false e2) (e3)))));(repeat' (first
  |refine gF ?_|refine aE ?_ ?_
  |apply trivial));all_goals clear fct)
  by_cases e4:(80:Int)< (c4.length:Int)
  ·rw[bad (by rw[decide_eq_false (show ¬c4.length≤80 by omega),Bool.and_false];rfl)]
   (have fct:=And.intro n2 (And.intro n5 (And.intro n3 (And.intro n4 (And.intro (eq_false e1) (And.intro (eq_false e2) (And.intro (eq_false e3) (e4)))))));(repeat' (first
  |refine gF ?_|refine aE ?_ ?_
  |apply trivial));all_goals clear fct)
  rw[decide_eq_true (show c2.length≤20 by omega),decide_eq_true (show c5.length≤20 by omega),decide_eq_true (show c3.length≤80 by omega),decide_eq_true (show c4.length≤80 by omega)] at bad good
  simp only[Bool.true_and] at bad good
  (have fct:=And.intro n2 (And.intro n5 (And.intro n3 (And.intro n4 (And.intro (eq_false e1) (And.intro (eq_false e2) (And.intro (eq_false e3) ((eq_false e4))))))));(repeat' (first
  |refine gF ?_|refine aE ?_ ?_
  |apply trivial));all_goals clear fct)
  refine aU.use G aa (fun(j:Nat)=>[(0,bJ cs),(3,aq k),(4,.ptr 40 0 0),(5,aq j)]) (fun _=>[(40,.live 5 [cN ⟨c1,c2,c3,c4,c5⟩] false)])
   (fun j=>j≤c5.length∧∀ (i:Nat) (y:dx),i<j→c5[i]? =some y→wk y=true) (fun j=>c5.length-j) 0 ⟨Nat.zero_le _,fun j y h=>by omega⟩
   ⟨⟨rfl,rfl⟩,⟨rfl,rfl,⟨rfl,rfl⟩,rfl,trivial⟩,⟨⟨rfl,rfl,rfl,rfl,rfl,trivial⟩,trivial⟩,trivial⟩ ?_
  rintro j ⟨hj,hoj⟩
  with_reducible refine wK ?_
  refine bq.mk (fun h2=>?_) (fun h2=>?_)<;>(try simp only[aF] at h2)<;>with_reducible refine wK ?_
  ·have hj':j<c5.length:=by simp only[decide_eq_true_eq] at h2;omega
   obtain⟨⟨u1,u2⟩,hu⟩:∃x,c5[j]? =some x:=⟨_,List.getElem?_eq_getElem hj'⟩
   have nu:(u2.map HQ).length=u2.length:=List.length_map ..
   refine ay.mk j (kY ⟨u1,u2⟩) rfl (gT hu) ?_;with_reducible refine wK ?_
   by_cases e:(80:Int)< (u2.length:Int)
   ·rw[bad (qY hu (decide_eq_false (show ¬u2.length≤80 by omega)))]
    (have fct:=And.intro nu (e);(repeat' (first
  |refine gF ?_|refine aE ?_ ?_
  | apply trivial));all_goals clear fct)
   ·have hnx:∀ (i:Nat) (y:dx),i<j+1→c5[i]? =some y→wk y=true:=fun i y hi hy=>by
     rcases Nat.lt_or_ge i j with h6|h6
     ·exact hoj i y h6 hy
     ·have:i=j:=by omega
      subst this
      rw[hu] at hy;cases hy;exact decide_eq_true (show u2.length≤80 by omega)
    (have fct:=And.intro nu ((eq_false e));(repeat' (first
  |refine gF ?_|refine aE ?_ ?_
  |(((with_reducible show aL _ _);refine aL.mk (j+1) ⟨by omega,hnx⟩ (by omega) ⟨⟨rfl,rfl⟩,⟨rfl,rfl,⟨rfl,rfl⟩,by show((j+1:Nat):Int)=(j:Int)+1;omega,trivial⟩,⟨⟨rfl,rfl,rfl,rfl,rfl,trivial⟩,trivial⟩,trivial⟩)<;>with_reducible refine wK ?_)
  |apply trivial));all_goals clear fct)
  ·have hjl:j=c5.length:=by simp only[decide_eq_false_iff_not] at h2;omega
   have hnx:=good (mV fun i y hy=>hoj i y (by have:=(List.getElem?_eq_some_iff.1 hy).1;omega) hy)
   repeat' (first
  |refine gK ?_|refine aE ?_ ?_
  |(((with_reducible show aL _ _);refine aL.mk (k+1) ⟨by omega,hnx⟩ (by omega) ⟨⟨rfl,rfl⟩,⟨rfl,by show((k+1:Nat):Int)=(k:Int)+1;omega,trivial⟩,trivial⟩)<;>with_reducible refine wK ?_)
  |apply trivial)
 ·have hkl:k=cs.length:=by simp only[decide_eq_false_iff_not] at h1;omega
  rw[mV fun j y hy=>hok j y (by have:=(List.getElem?_eq_some_iff.1 hy).1;omega) hy]
  (refine eK ?_ ?_<;>with_reducible repeat' (first|exact trivial|(show _∧_;refine aK ?_ ?_)))

theorem Kc (f:ForM)(st:List StateM)(d:aZ)(cs:List aH)(ns:List dL):(ep f st d cs ns).length≤ns.length:=by
 unfold ep
 split
 ·exact ou _ (BN f st d cs) _
 ·simp
def MH:StateM:=⟨0,0,0,false⟩
def yX (st:List StateM)(n:Nat):StateM:=(st[n]?).getD MH
theorem DN {st:List StateM}{n:Nat}{s:StateM}(h:st[n]? =some s):yX st n=s:=by unfold yX;rw[h];rfl
def si (f:ForM)(d:aZ)(cs:List aH)(n:Int)(s:StateM):Bool:=((jr s d cs&&(cw s d cs).form)&&decide (s.phase=3))&&decide ((nd f.nodes n).kind=1)
def kR (was now:Int):br:=⟨5,0,⟨#[]⟩,false,false,⟨#[]⟩,⟨#[]⟩,was,now,false⟩
def dw (on:Bool):br:=⟨6,0,⟨#[]⟩,false,false,⟨#[]⟩,⟨#[]⟩,0,0,on⟩
def lI (c:aH)(n:Int)(t:br):List bB:=if dc c t.kind=true then[⟨n,t⟩] else[]
def nW (f:ForM)(d:aZ)(cs:List aH)(n:Int)(s:StateM):StateM:=if si f d cs n s=true then⟨s.phase,s.df,lj f.nodes n,sB f.nodes n⟩ else s
def yL (f:ForM)(d:aZ)(cs:List aH)(n:Int)(s:StateM):List bB:=
 if si f d cs n s=true then
  (if s.owner=lj f.nodes n then[] else lI (cw s d cs) n (kR s.owner (lj f.nodes n)))++ (if s.barred=sB f.nodes n then[] else lI (cw s d cs) n (dw (sB f.nodes n)))
 else[]
def Dk (f:ForM)(d:aZ)(cs:List aH)(st:List StateM)(k:Nat):List StateM:=(List.range st.length).map fun n:Nat=>if n<k then nW f d cs (n:Int) (yX st n) else yX st n
def M9 (f:ForM)(d:aZ)(cs:List aH)(st:List StateM)(k:Nat):List bB:=(List.range k).flatMap fun n:Nat=>yL f d cs (n:Int) (yX st n)
theorem nv (f:ForM)(d:aZ)(cs:List aH)(st:List StateM)(k:Nat):(Dk f d cs st k).length=st.length:=by unfold Dk;simp
theorem qc {f:ForM}{d:aZ}{cs:List aH}{st:List StateM}{k n:Nat}(h:n<st.length):(Dk f d cs st k)[n]? =some (if n<k then nW f d cs (n:Int) (yX st n) else yX st n):=by
 unfold Dk
 rw[List.getElem?_map,List.getElem?_range h];rfl
theorem Jv (f:ForM)(d:aZ)(cs:List aH)(st:List StateM):Dk f d cs st 0=st:=by
 apply List.ext_getElem?
 intro n
 by_cases h:n<st.length
 ·rw[qc h,if_neg (by omega)]
  unfold yX
  rw[List.getElem?_eq_getElem h];rfl
 ·rw[List.getElem?_eq_none (l:=Dk f d cs st 0) (by rw[nv];omega),List.getElem?_eq_none (l:=st) (by omega)]
theorem BK (f:ForM)(d:aZ)(cs:List aH)(st:List StateM){k:Nat}(h:k<st.length):Dk f d cs st (k+1)=(Dk f d cs st k).set k (nW f d cs (k:Int) (yX st k)):=by
 apply List.ext_getElem?
 intro n
 rw[List.getElem?_set]
 by_cases hn:n<st.length
 ·rw[qc hn]
  by_cases e:k=n
  ·subst e;rw[if_pos rfl,if_pos (by omega),if_pos (by rw[nv];exact h)]
  ·rw[if_neg e,qc hn]
   by_cases e2:n<k
   ·rw[if_pos (by omega),if_pos e2]
   ·rw[if_neg (by omega),if_neg e2]
 ·rw[List.getElem?_eq_none (l:=Dk f d cs st (k+1)) (by rw[nv];omega),if_neg (by omega),List.getElem?_eq_none (l:=Dk f d cs st k) (by rw[nv];omega)]
theorem Je (f:ForM)(d:aZ)(cs:List aH)(st:List StateM){k:Nat}(h:k<st.length)(hs:nW f d cs (k:Int) (yX st k)=yX st k):Dk f d cs st (k+1)=Dk f d cs st k:=by
 rw[BK f d cs st h,hs]
 apply List.ext_getElem?
 intro n
 rw[List.getElem?_set]
 by_cases e:k=n
 ·subst e;rw[if_pos rfl,if_pos (by rw[nv];exact h),qc h,if_neg (by omega)]
 ·rw[if_neg e]
theorem CM (f:ForM)(d:aZ)(cs:List aH)(st:List StateM)(k:Nat):M9 f d cs st (k+1)=M9 f d cs st k++yL f d cs (k:Int) (yX st k):=by
 unfold M9;rw[List.range_succ,List.flatMap_append];simp
theorem yK (c:aH)(n:Int)(t:br):(lI c n t).length≤1:=by unfold lI;split<;>simp
theorem GC (f:ForM)(d:aZ)(cs:List aH)(n:Int)(s:StateM):(yL f d cs n s).length≤2:=by
 unfold yL
 split
 ·rw[List.length_append]
  have h1:=yK (cw s d cs) n (kR s.owner (lj f.nodes n))
  have h2:=yK (cw s d cs) n (dw (sB f.nodes n))
  have h3:∀ (p:Prop) [Decidable p] (l:List bB),(if p then[] else l).length≤l.length:=fun p _ l=>by split<;>simp
  have h4:=h3 (s.owner=lj f.nodes n) (lI (cw s d cs) n (kR s.owner (lj f.nodes n)))
  have h5:=h3 (s.barred=sB f.nodes n) (lI (cw s d cs) n (dw (sB f.nodes n)))
  omega
 ·simp
theorem A5 (f:ForM)(d:aZ)(cs:List aH)(st:List StateM):∀k,(M9 f d cs st k).length≤2*k
 |0=>Nat.le_refl _
 | k+1=>by
   rw[CM,List.length_append]
   have:=A5 f d cs st k
   have:=GC f d cs (k:Int) (yX st k)
   omega
def dS (f:ForM)(st:List StateM)(d:aZ)(cs:List aH):List StateM:=if iY f st d=true then Dk f d cs st st.length else st
def ir (f:ForM)(st:List StateM)(d:aZ)(cs:List aH):List bB:=if iY f st d=true then M9 f d cs st st.length else[]

theorem EI (x:au):ah Tryz.prog 252 [] [aS x] [] (aA (gR x)):=by
 obtain⟨a1,a2,a3,a4,a5,a6,a7,a8,a9,a10⟩:=x
 unfold gR
 refine ah.af (rvs:=[.tmp 2]) G aa Tryz.func252 rfl Tryz.ntmps252 rfl rfl ?_;with_reducible refine wD ?_
 by_cases e:a1=1
 ·(have fct:=(eq_true e);(repeat' (first
  |refine gF ?_|refine aE ?_ ?_
  |apply trivial));all_goals clear fct)
  all_goals simp[e]
 ·(have fct:=(eq_false e);(repeat' (first
  |refine gF ?_|refine aE ?_ ?_
  |apply trivial));all_goals clear fct)
  all_goals simp[e]
theorem MN (f:ForM)(T:Tree f.nodes)(n:Int)(hn:ak f.nodes n=true):ah Tryz.prog 267 [] [cJ f,aq n] [] (aq (dY f.nodes n)):=by
 have hstep:=fun n h1 h2=>uu T (n:=n) h1 h2
 have htop:=fun n h1 h2=>wc T (n:=n) h1 h2
 have hwst:=fun n h1 h2=>cH T (n:=n) h1 h2
 have hpar:∀n,ak f.nodes n=true→(nd f.nodes n).parent=-1∨ak f.nodes (nd f.nodes n).parent=true:=fun n hn=>by
  by_cases h:(nd f.nodes n).parent=-1
  ·exact .inl h
  ·exact .inr (T.par n hn h).1
 obtain⟨l,m⟩:=f
 simp only at hn hstep htop hpar hwst ⊢
 refine ah.af (rvs:=[.tmp 4]) G aa Tryz.func267 rfl Tryz.ntmps267 rfl rfl ?_;with_reducible refine wD ?_
 refine aU.use G aa (fun(c:Int)=>[(1,aq c),(2,.ptr 20 0 0)]) (fun _=>[(20,.live 2 [cJ ⟨l,m⟩] false)])
  (fun c=>ak l c=true∧dY l c=dY l n) (fun c=>(cO l c).length) n ⟨hn,rfl⟩
  ⟨⟨rfl,rfl⟩,⟨rfl,⟨rfl,rfl⟩,trivial⟩,⟨⟨rfl,rfl,trivial⟩,trivial⟩,trivial⟩ ?_
 rintro c ⟨hc,hr⟩
 with_reducible refine wK ?_
 obtain⟨i,y,e,hy,hny⟩:=bC.1 hc
 have hpc:=hpar c hc
 have hst:=hstep c hc
 have htp:=htop c hc
 have hws:=hwst c hc
 rw[hny] at hpc hst htp hws
 obtain⟨b1,b2,b3,b4,b5,b6,b7,b8,b9,b10⟩:=y
 simp only at hpc hst htp hws
 by_cases e6:b6=-1
 ·rw[←hr,htp e6]
  (have fct:=(eq_true e6);(repeat' (first
  |refine gF ?_|refine aE ?_ ?_
  |((refine ay.mk i (aS _) e (aG hy) ?_)<;>with_reducible refine wK ?_)
  |apply trivial));all_goals clear fct)
  all_goals rfl
 ·(have fct:=(eq_false e6);(repeat' (first
  |refine gF ?_|refine aE ?_ ?_
  | ((first
   |(refine ay.mk i (aS _) e (aG hy) ?_)
   |((with_reducible show aL _ _);refine aL.mk b6 ⟨hpc.resolve_left e6,by rw[←hst e6,hr]⟩ (by rw[hws e6];simp) ⟨⟨rfl,rfl⟩,⟨rfl,⟨rfl,rfl⟩,trivial⟩,⟨⟨rfl,rfl,trivial⟩,trivial⟩,trivial⟩))<;>with_reducible refine wK ?_)
  |apply trivial));all_goals clear fct)
theorem uz (f:ForM)(n:Int):(aV f&& !decide (0≤gh (fun n=> !ak f.nodes n) [n]))=(aV f&&ak f.nodes n):=by
 congr 1
 unfold gh
 cases h:ak f.nodes n<;>simp[List.findIdx?_cons,h]
theorem Lc (f:ForM)(hs:bS f.nodes)(hr:aV f=true)(n:Int)(hn:ak f.nodes n=true):ah Tryz.prog 251 [] [cJ f,aq n] [] (aq (dY f.nodes n)):=by
 have h76:=Ba f hs [n] (by simp)
 rw[uz,hr,hn] at h76
 have h77:=MN f (jt hr) n hn
 obtain⟨l,m⟩:=f
 refine ah.af (rvs:=[.tmp 4]) G aa Tryz.func251 rfl Tryz.ntmps251 rfl rfl ?_;with_reducible refine wD ?_
 refine aj.lit [71] h76 NS ⟨⟨rfl,rfl,trivial⟩,eG (l:=[n]) rfl rfl rfl rfl,trivial⟩ rfl rfl ?_;with_reducible refine wK ?_
 repeat' (first
  |refine gK ?_|refine aE ?_ ?_
  |(((with_reducible refine kQ 267 ?_);refine cL h77 Q3 ?_)<;>with_reducible refine wK ?_)
  |apply trivial)
 all_goals rfl
end Go.Proofs.Heir
section
namespace Go.Proofs.Heir
open Go Go.Am Go.RowKit Go.Lib
set_option maxRecDepth 100000
set_option maxHeartbeats 8000000
namespace V
variable {l : List au}
theorem o3 (T:Tree l):∀ (m:Nat) (n:Int),ak l n=true→l.length+1≤m+ (cO l n).length→dJ l (m+1) n=dJ l m n
 |0,n,_,h=>by have:=A1 (l:=l) n;omega
 | m+1,n,hn,h=>by
   rw[dJ,dJ]
   congr 1
   refine gD fun k hk=>?_
   refine o3 T m k (T.kid n hn k hk).1 ?_
   rw[gM T hn hk];simp;omega
theorem ord_eq (T:Tree l){n:Int}(hn:ak l n=true):dJ l l.length n=n::(nd l n).kids.flatMap (dJ l l.length):=by
 have h0:=eF hn
 obtain⟨m,hm⟩:∃m,l.length=m+1:=⟨l.length-1,by omega⟩
 have h1:∀k∈ (nd l n).kids,dJ l l.length k=dJ l m k:=fun k hk=>by
  rw[hm]
  refine o3 T m k (T.kid n hn k hk).1 ?_
  obtain⟨r,hr⟩:=fF T hn
  rw[gM T hn hk,hr];simp;omega
 conv=>lhs;rw[hm,dJ]
 congr 1
 exact gD fun k hk=>(h1 k hk).symm
def rest (l:List au)(st:List Int):List Int:=st.reverse.flatMap (dJ l l.length)
theorem BV (T:Tree l){st:List Int}{t:Int}(ht:ak l t=true):rest l (st++ [t])=t::rest l (st++ (nd l t).kids.reverse):=by
 unfold rest
 rw[List.reverse_append,List.reverse_append,List.reverse_reverse]
 simp only[List.reverse_cons,List.reverse_nil,List.nil_append,List.cons_append,List.flatMap_cons,List.flatMap_append]
 rw[ord_eq T ht];rfl
theorem Cp (T:Tree l):∀ {st:List Int},(∀c∈st,ak l c=true)→st.length≤ (rest l st).length:=by
 intro st h
 unfold rest
 have:∀s:List Int,(∀c∈s,ak l c=true)→s.length≤ (s.flatMap (dJ l l.length)).length:=by
  intro s
  induction s with
  |nil=>intro _;exact Nat.le_refl _
  | cons a r ih=>
    intro h
    have h1:=ih fun c hc=>h c (List.mem_cons_of_mem _ hc)
    rw[List.flatMap_cons,List.length_append,ord_eq T (h a List.mem_cons_self),List.length_cons,List.length_cons]
    omega
 have:=this st.reverse fun c hc=>h c (by simpa using hc)
 simpa using this
end V
def JG (f:ForM)(n:Int):List Int:=if(aV f&&ak f.nodes n)=true then dJ f.nodes f.nodes.length n else[]
end Go.Proofs.Heir
end
namespace Go.Proofs.Heir
open Go Go.Am Go.RowKit Go.Lib
set_option maxRecDepth 100000
set_option maxHeartbeats 8000000
theorem J2 (f:ForM)(hs:bS f.nodes)(n:Int)(e0:(aV f&&ak f.nodes n)=true):ah Tryz.prog 265 [] [cJ f,aq n] [gX (dJ f.nodes f.nodes.length n)] (.own 0 0 (dJ f.nodes f.nodes.length n).length):=by
 have h76:=Ba f hs [n] (by simp)
 rw[uz] at h76
 obtain⟨l,m⟩:=f
 simp only at h76 e0 ⊢
 have hlm:(l.map bZ).length=l.length:=List.length_map ..
 refine ah.af (rvs:=[.tmp 4]) G aa Tryz.func265 rfl Tryz.ntmps265 rfl rfl ?_;delta List.toArray;(with_reducible ((conv=>whnf);(conv=>congr<;>reduce);repeat((first|refine hK ?_|refine sK ?_);(conv=>whnf);(conv=>congr<;>reduce))))
 rw[e0] at h76
 refine aj.lit [131] h76 NS ⟨⟨rfl,rfl,trivial⟩,eG (l:=[n]) rfl rfl rfl rfl,trivial⟩ rfl rfl ?_;(with_reducible ((conv=>whnf);(conv=>congr<;>reduce);repeat((first|refine hK ?_|refine sK ?_);(conv=>whnf);(conv=>congr<;>reduce))))
 obtain⟨hr,hn⟩:aV ⟨l,m⟩=true∧ak l n=true:=by simpa using e0
 have T:=jt hr
 have hol:=Bj T l.length hn
 simp only at T hol
 repeat' (first
  |(first
  |((with_reducible show bq _ _ _ _);first|refine bq.ff ?_|refine bq.tt ?_|refine bq.no (by first|exact qA|((try simp only[aF]);first|(simp[];done)|(simp[];omega))) ?_|refine bq.yes (by first|exact qA|((try simp only[aF]);first|(simp[];done)|(simp[];omega))) ?_)
  |((with_reducible show eY _ _ _ _);refine nK ?_)
  |((with_reducible show bI _ _ _ _);refine dK ?_))<;>(with_reducible ((conv=>whnf);(conv=>congr<;>reduce);repeat((first|refine hK ?_|refine sK ?_);(conv=>whnf);(conv=>congr<;>reduce))))
  |((with_reducible show(_∧_)∧_∧_);refine⟨⟨rfl,rfl⟩,?_,?_⟩<;>with_reducible ((conv=>whnf)<;>repeat' (first|exact trivial|(refine And.intro ?_ ?_<;>(conv=>whnf))))))
 refine aU.ghost 5 51 1 rfl rfl ?_
 refine aU.use G aa (fun(i:List Int×List Int×List Int)=>[(2,.ptr 20 0 0),(5,.own 51 0 i.1.length),(6,.ptr 60 0 0)])
  (fun i=>[(20,.live 2 [cJ ⟨l,m⟩] false),(51,gX i.1),(60,.live 1 [.own 171 0 i.2.1.length] false),(171,gX (i.2.1++i.2.2))])
  (fun i=>dJ l l.length n=i.1++V.rest l i.2.1∧∀c∈i.2.1,ak l c=true) (fun i=>l.length-i.1.length) ([],[n],[]) ⟨by simp[V.rest],fun c hc=>by rw[List.mem_singleton] at hc;subst hc;exact hn⟩
  (by refine⟨⟨rfl,rfl⟩,⟨⟨rfl,rfl⟩,⟨rfl,rfl⟩,⟨rfl,rfl⟩,trivial⟩,⟨⟨rfl,rfl,trivial⟩,trivial⟩,⟨.refl rfl,aQ _⟩,⟨⟨rfl,rfl⟩,trivial⟩,⟨.refl rfl,aQ _⟩,trivial⟩) ?_
 rintro⟨out,st,sp⟩ ⟨ho,hst⟩
 simp only at ho hst
 (with_reducible ((conv=>whnf);(conv=>congr<;>reduce);repeat((first|refine hK ?_|refine sK ?_);(conv=>whnf);(conv=>congr<;>reduce))))
 have hoL:=congrArg List.length ho
 rw[List.length_append] at hoL
 have hol':out.length=(out.map bF).length:=(List.length_map ..).symm
 have hrl:=V.Cp T hst
 have hl60:=hs.len
 simp only at hl60
 obtain h|⟨st',t,h⟩:=List.eq_nil_or_concat st<;>(try rw[List.concat_eq_append] at h)<;>subst h
 ·repeat' (first
  |(first
  |((with_reducible show bq _ _ _ _);first|refine bq.ff ?_|refine bq.tt ?_|refine bq.no (by first|exact qA|((try simp only[aF]);first|(simp[];done)|(simp[];omega))) ?_|refine bq.yes (by first|exact qA|((try simp only[aF]);first|(simp[];done)|(simp[];omega))) ?_)
  |((with_reducible show eY _ _ _ _);refine nK ?_)
  |((with_reducible show bI _ _ _ _);refine dK ?_))<;>(with_reducible ((conv=>whnf);(conv=>congr<;>reduce);repeat((first|refine hK ?_|refine sK ?_);(conv=>whnf);(conv=>congr<;>reduce))))
  |((with_reducible show(_∧_)∧_∧_);refine⟨⟨rfl,rfl⟩,?_,?_⟩<;>with_reducible ((conv=>whnf)<;>repeat' (first|exact trivial|(refine And.intro ?_ ?_<;>(conv=>whnf))))))
  all_goals have ho':dJ l l.length n=out:=by rw[ho];simp[V.rest]
  all_goals clear ho hoL
  all_goals subst ho'
  all_goals first
   |rfl
   |exact aD (aQ _)
 ·have ht:=hst t (by simp)
  have hlen:(st'++ [t]).length=st'.length+1:=by simp
  obtain⟨k,x,rfl,hx,hnx⟩:=bC.1 ht
  rw[hlen]
  rw[hlen] at hrl
  repeat' (first
  |(first
  |((with_reducible show bq _ _ _ _);first|refine bq.ff ?_|refine bq.tt ?_|refine bq.no (by first|exact qA|((try simp only[aF]);first|(simp[];done)|(simp[];omega))) ?_|refine bq.yes (by first|exact qA|((try simp only[aF]);first|(simp[];done)|(simp[];omega))) ?_)
  |((with_reducible show eY _ _ _ _);refine nK ?_)
  |((with_reducible show bI _ _ _ _);refine dK ?_))<;>(with_reducible ((conv=>whnf);(conv=>congr<;>reduce);repeat((first|refine hK ?_|refine sK ?_);(conv=>whnf);(conv=>congr<;>reduce))))
  |((with_reducible show(_∧_)∧_∧_);refine⟨⟨rfl,rfl⟩,?_,?_⟩<;>with_reducible ((conv=>whnf)<;>repeat' (first|exact trivial|(refine And.intro ?_ ?_<;>(conv=>whnf))))))
  refine nZ.mk st'.length (by(try simp only[aF]);omega) (by omega) ?_;(with_reducible ((conv=>whnf);(conv=>congr<;>reduce);repeat((first|refine hK ?_|refine sK ?_);(conv=>whnf);(conv=>congr<;>reduce))))
  refine cB.mk (aq (k:Int)) (by rw[Nat.zero_add,List.getElem?_map,List.append_assoc,List.getElem?_append_right (Nat.le_refl _),Nat.sub_self];rfl) ?_;(with_reducible ((conv=>whnf);(conv=>congr<;>reduce);repeat((first|refine hK ?_|refine sK ?_);(conv=>whnf);(conv=>congr<;>reduce))))
  repeat' (first
  |(first
  |((with_reducible show bq _ _ _ _);first|refine bq.ff ?_|refine bq.tt ?_|refine bq.no (by first|exact qA|((try simp only[aF]);first|(simp[];done)|(simp[];omega))) ?_|refine bq.yes (by first|exact qA|((try simp only[aF]);first|(simp[];done)|(simp[];omega))) ?_)
  |((with_reducible show eY _ _ _ _);refine nK ?_)
  |((with_reducible show bI _ _ _ _);refine dK ?_))<;>(with_reducible ((conv=>whnf);(conv=>congr<;>reduce);repeat((first|refine hK ?_|refine sK ?_);(conv=>whnf);(conv=>congr<;>reduce))))
  |((with_reducible show(_∧_)∧_∧_);refine⟨⟨rfl,rfl⟩,?_,?_⟩<;>with_reducible ((conv=>whnf)<;>repeat' (first|exact trivial|(refine And.intro ?_ ?_<;>(conv=>whnf))))))
  refine J4.mk 0 st'.length rfl (by(try simp only[aF]);omega) (by omega) ?_;(with_reducible ((conv=>whnf);(conv=>congr<;>reduce);repeat((first|refine hK ?_|refine sK ?_);(conv=>whnf);(conv=>congr<;>reduce))))
  repeat' (first
  |(first
  |((with_reducible show bq _ _ _ _);first|refine bq.ff ?_|refine bq.tt ?_|refine bq.no (by first|exact qA|((try simp only[aF]);first|(simp[];done)|(simp[];omega))) ?_|refine bq.yes (by first|exact qA|((try simp only[aF]);first|(simp[];done)|(simp[];omega))) ?_)
  |((with_reducible show eY _ _ _ _);refine nK ?_)
  |((with_reducible show bI _ _ _ _);refine dK ?_))<;>(with_reducible ((conv=>whnf);(conv=>congr<;>reduce);repeat((first|refine hK ?_|refine sK ?_);(conv=>whnf);(conv=>congr<;>reduce))))
  |((with_reducible show(_∧_)∧_∧_);refine⟨⟨rfl,rfl⟩,?_,?_⟩<;>with_reducible ((conv=>whnf)<;>repeat' (first|exact trivial|(refine And.intro ?_ ?_<;>(conv=>whnf))))))
  refine dI.mk (out.map bF) [aq (k:Int)] ⟨rfl,hol',rfl⟩ ⟨rfl,rfl,rfl⟩ rfl (by simp;omega) (by simp;omega) ?_;(with_reducible ((conv=>whnf);(conv=>congr<;>reduce);repeat((first|refine hK ?_|refine sK ?_);(conv=>whnf);(conv=>congr<;>reduce))))
  repeat' (first
  |(first
  |((with_reducible show bq _ _ _ _);first|refine bq.ff ?_|refine bq.tt ?_|refine bq.no (by first|exact qA|((try simp only[aF]);first|(simp[];done)|(simp[];omega))) ?_|refine bq.yes (by first|exact qA|((try simp only[aF]);first|(simp[];done)|(simp[];omega))) ?_)
  |((with_reducible show eY _ _ _ _);refine nK ?_)
  |((with_reducible show bI _ _ _ _);refine dK ?_))<;>(with_reducible ((conv=>whnf);(conv=>congr<;>reduce);repeat((first|refine hK ?_|refine sK ?_);(conv=>whnf);(conv=>congr<;>reduce))))
  |((with_reducible show(_∧_)∧_∧_);refine⟨⟨rfl,rfl⟩,?_,?_⟩<;>with_reducible ((conv=>whnf)<;>repeat' (first|exact trivial|(refine And.intro ?_ ?_<;>(conv=>whnf))))))
  obtain⟨a1,a2,a3,a4,a5,a6,a7,a8,a9,a10⟩:=x
  refine ay.mk k (aS _) rfl (aG hx) ?_;(with_reducible ((conv=>whnf);(conv=>congr<;>reduce);repeat((first|refine hK ?_|refine sK ?_);(conv=>whnf);(conv=>congr<;>reduce))))
  repeat' (first
  |(first
  |((with_reducible show bq _ _ _ _);first|refine bq.ff ?_|refine bq.tt ?_|refine bq.no (by first|exact qA|((try simp only[aF]);first|(simp[];done)|(simp[];omega))) ?_|refine bq.yes (by first|exact qA|((try simp only[aF]);first|(simp[];done)|(simp[];omega))) ?_)
  |((with_reducible show eY _ _ _ _);refine nK ?_)
  |((with_reducible show bI _ _ _ _);refine dK ?_))<;>(with_reducible ((conv=>whnf);(conv=>congr<;>reduce);repeat((first|refine hK ?_|refine sK ?_);(conv=>whnf);(conv=>congr<;>reduce))))
  |((with_reducible show(_∧_)∧_∧_);refine⟨⟨rfl,rfl⟩,?_,?_⟩<;>with_reducible ((conv=>whnf)<;>repeat' (first|exact trivial|(refine And.intro ?_ ?_<;>(conv=>whnf))))))
  refine cV (MP a7) Qu ?_;(with_reducible ((conv=>whnf);(conv=>congr<;>reduce);repeat((first|refine hK ?_|refine sK ?_);(conv=>whnf);(conv=>congr<;>reduce))))
  repeat' (first
  |(first
  |((with_reducible show bq _ _ _ _);first|refine bq.ff ?_|refine bq.tt ?_|refine bq.no (by first|exact qA|((try simp only[aF]);first|(simp[];done)|(simp[];omega))) ?_|refine bq.yes (by first|exact qA|((try simp only[aF]);first|(simp[];done)|(simp[];omega))) ?_)
  |((with_reducible show eY _ _ _ _);refine nK ?_)
  |((with_reducible show bI _ _ _ _);refine dK ?_))<;>(with_reducible ((conv=>whnf);(conv=>congr<;>reduce);repeat((first|refine hK ?_|refine sK ?_);(conv=>whnf);(conv=>congr<;>reduce))))
  |((with_reducible show(_∧_)∧_∧_);refine⟨⟨rfl,rfl⟩,?_,?_⟩<;>with_reducible ((conv=>whnf)<;>repeat' (first|exact trivial|(refine And.intro ?_ ?_<;>(conv=>whnf))))))
  obtain⟨spF,hs0,hs1⟩:∃spF:Nat→List Int,spF 0=(k:Int)::sp∧∀j,spF (j+1)=[]:=⟨fun j=>match j with|0=>(k:Int)::sp|_+1=>[],rfl,fun _=>rfl⟩
  have hk7:=hs.kids _ (List.mem_of_getElem? hx)
  simp only at hk7
  refine aU.range G aa 3 [(2,.ptr 1 0 0),(5,.own 2 0 (out.length+1)),(6,.ptr 0 0 0),(41,.clo (.func 283) [] [.fptr (bY a7) 0])]
   (fun j=>[(0,.live 1 [.own 171 0 (st'.length+j)] false),(1,.live 2 [cJ ⟨l,m⟩] false),(2,gX (out++ [(k:Int)])),(171,gX (st'++a7.reverse.take j++spF j))])
   (Lp a7 (by omega)) RB ?_ rfl ⟨⟨rfl,rfl⟩,rfl⟩ (fun _ _=>rfl) (fun _ _=>rfl) ⟨⟨rfl,rfl⟩,rfl,rfl⟩ ?_ ?_
  ·refine⟨⟨rfl,rfl⟩,?_⟩
   (with_reducible conv=>whnf)
   repeat' (first|(with_reducible exact trivial)|(with_reducible refine And.intro ?_ ?_<;>with_reducible conv=>whnf))
   all_goals try rfl
   ·simp
   ·exact⟨.refl rfl,rfl⟩
   ·refine⟨?_,aQ _⟩
    rw[←show(out++ [(k:Int)]).map bF=out.map bF++ [AV.lit (.int .i64 k)] by simp;rfl]
    exact .refl (aQ _)
   ·refine⟨?_,aQ _⟩
    rw[hs0,List.take_zero,List.append_nil,show st'++ [(k:Int)]++sp=st'++ (k:Int)::sp by simp];exact .refl (aQ _)
  ·intro j hj
   (with_reducible ((conv=>whnf);(conv=>congr<;>reduce);repeat((first|refine hK ?_|refine sK ?_);(conv=>whnf);(conv=>congr<;>reduce))))
   refine wS.mk rfl ?_;(with_reducible ((conv=>whnf);(conv=>congr<;>reduce);repeat((first|refine hK ?_|refine sK ?_);(conv=>whnf);(conv=>congr<;>reduce))))
   repeat' (first
  |(first
  |((with_reducible show bq _ _ _ _);first|refine bq.ff ?_|refine bq.tt ?_|refine bq.no (by first|exact qA|((try simp only[aF]);first|(simp[];done)|(simp[];omega))) ?_|refine bq.yes (by first|exact qA|((try simp only[aF]);first|(simp[];done)|(simp[];omega))) ?_)
  |((with_reducible show eY _ _ _ _);refine nK ?_)
  |((with_reducible show bI _ _ _ _);refine dK ?_))<;>(with_reducible ((conv=>whnf);(conv=>congr<;>reduce);repeat((first|refine hK ?_|refine sK ?_);(conv=>whnf);(conv=>congr<;>reduce))))
  | ((with_reducible show(_∧_)∧_∧_);refine⟨⟨rfl,rfl⟩,?_,?_⟩<;>with_reducible ((conv=>whnf)<;>repeat' (first|exact trivial|(refine And.intro ?_ ?_<;>(conv=>whnf))))))
   refine dI.take ((st'++a7.reverse.take j).map bF) [bF ((a7.reverse[j]?).getD 0)] ⟨rfl,by simp;omega,by rw[List.map_append (l₂:=spF j),List.take_left' (by simp;omega)]⟩ ⟨rfl,rfl,rfl⟩ rfl (by simp;omega) (by simp;omega) ?_
   (with_reducible ((conv=>whnf);(conv=>congr<;>reduce);repeat((first|refine hK ?_|refine sK ?_);(conv=>whnf);(conv=>congr<;>reduce))))
   repeat' (first
  |(first
  |((with_reducible show bq _ _ _ _);first|refine bq.ff ?_|refine bq.tt ?_|refine bq.no (by first|exact qA|((try simp only[aF]);first|(simp[];done)|(simp[];omega))) ?_|refine bq.yes (by first|exact qA|((try simp only[aF]);first|(simp[];done)|(simp[];omega))) ?_)
  |((with_reducible show eY _ _ _ _);refine nK ?_)
  |((with_reducible show bI _ _ _ _);refine dK ?_))<;>(with_reducible ((conv=>whnf);(conv=>congr<;>reduce);repeat((first|refine hK ?_|refine sK ?_);(conv=>whnf);(conv=>congr<;>reduce))))
  | ((with_reducible show(_∧_)∧_∧_);refine⟨⟨rfl,rfl⟩,?_,?_⟩<;>with_reducible ((conv=>whnf)<;>repeat' (first|exact trivial|(refine And.intro ?_ ?_<;>(conv=>whnf))))))
   refine BD.mk ?_
   obtain⟨c,hc⟩:∃c,a7.reverse[j]? =some c:=⟨_,List.getElem?_eq_getElem (by simpa using hj)⟩
   have htk:a7.reverse.take (j+1)=a7.reverse.take j++ [c]:=by rw[List.take_add_one,hc];rfl
   rw[hc,Option.getD_some]
   refine⟨⟨rfl,rfl⟩,?_⟩
   (with_reducible conv=>whnf)
   repeat' (first|(with_reducible exact trivial)|(with_reducible refine And.intro ?_ ?_<;>with_reducible conv=>whnf))
   all_goals try rfl
   ·simp;omega
   ·exact⟨.refl rfl,rfl⟩
   ·exact⟨.refl (aQ _),aQ _⟩
   ·refine⟨?_,aQ _⟩
    rw[hs1,htk,List.append_nil,←List.append_assoc,List.map_append (l₂:=[c])];exact .refl (by rw[←List.map_append];exact aQ _)
  ·(with_reducible ((conv=>whnf);(conv=>congr<;>reduce);repeat((first|refine hK ?_|refine sK ?_);(conv=>whnf);(conv=>congr<;>reduce))))
   have hT:nd l k=⟨a1,a2,a3,a4,a5,a6,a7,a8,a9,a10⟩:=hnx
   have hch:(nd l k).kids=a7:=by rw[hT]
   have hpop:=V.BV T (st:=st') ht
   rw[hch] at hpop
   have hkid:∀c∈a7,ak l c=true:=fun c hc=>(T.kid k ht c (by rw[hch];exact hc)).1
   have hta:a7.reverse.take a7.length=a7.reverse:=List.take_of_length_le (by simp)
   refine aL.mk (out++ [(k:Int)],st'++a7.reverse,spF a7.length) ⟨?_,?_⟩ ?_ ?_
   ·rw[ho,hpop];simp
   ·intro c hc
    rcases List.mem_append.1 hc with h|h
    ·exact hst c (by simp[h])
    ·exact hkid c (by simpa using h)
   ·simp only[List.length_append,List.length_singleton];omega
   ·refine⟨⟨rfl,rfl⟩,?_⟩
    (with_reducible conv=>whnf)
    repeat' (first|(with_reducible exact trivial)|(with_reducible refine And.intro ?_ ?_<;>with_reducible conv=>whnf))
    all_goals try rfl
    ·simp
    ·exact⟨.refl (aQ _),aQ _⟩
    ·simp
    ·refine⟨?_,aQ _⟩
     rw[hta];exact .refl (aQ _)
theorem Hi (l:List Int):FQ [(0,gX l)]=true:=by
 have:JL 1 (l.map bF)=true:=List.all_eq_true.2 fun x hx=>by
  obtain⟨n,_,rfl⟩:=List.mem_map.1 hx;rfl
 show(JL 1 (l.map bF)&&true)=true
 rw[this];rfl
theorem LZ (f:ForM)(hs:bS f.nodes)(n:Int):ah Tryz.prog 265 [] [cJ f,aq n] [] (bY (JG f n)):=by
 cases e0:(aV f&&ak f.nodes n) with
 | true=>
   unfold JG
   rw[if_pos e0]
   refine ah.frozen [(0,gX (dJ f.nodes f.nodes.length n))] ?_ (Hi _) (J2 f hs n e0) (eG rfl rfl rfl rfl)
   funext t
   match t with
   |0=>rfl
   |n+1=>rfl
 | false=>
   have h76:=Ba f hs [n] (by simp)
   rw[uz,e0] at h76
   unfold JG
   rw[e0]
   obtain⟨l,m⟩:=f
   refine ah.af (rvs:=[.tmp 4]) G aa Tryz.func265 rfl Tryz.ntmps265 rfl rfl ?_;delta List.toArray;(with_reducible ((conv=>whnf);(conv=>congr<;>reduce);repeat((first|refine hK ?_|refine sK ?_);(conv=>whnf);(conv=>congr<;>reduce))))
   refine aj.lit [131] h76 NS ⟨⟨rfl,rfl,trivial⟩,eG (l:=[n]) rfl rfl rfl rfl,trivial⟩ rfl rfl ?_;(with_reducible ((conv=>whnf);(conv=>congr<;>reduce);repeat((first|refine hK ?_|refine sK ?_);(conv=>whnf);(conv=>congr<;>reduce))))
   repeat' (first
  |(first
  |((with_reducible show bq _ _ _ _);first|refine bq.ff ?_|refine bq.tt ?_|refine bq.no (by first|exact qA|((try simp only[aF]);first|(simp[];done)|(simp[];omega))) ?_|refine bq.yes (by first|exact qA|((try simp only[aF]);first|(simp[];done)|(simp[];omega))) ?_)
  |((with_reducible show eY _ _ _ _);refine nK ?_)
  |((with_reducible show bI _ _ _ _);refine dK ?_))<;>(with_reducible ((conv=>whnf);(conv=>congr<;>reduce);repeat((first|refine hK ?_|refine sK ?_);(conv=>whnf);(conv=>congr<;>reduce))))
  | ((with_reducible show(_∧_)∧_∧_);refine⟨⟨rfl,rfl⟩,?_,?_⟩<;>with_reducible ((conv=>whnf)<;>repeat' (first|exact trivial|(refine And.intro ?_ ?_<;>(conv=>whnf))))))
   all_goals exact .inr (.inr ⟨1,rfl⟩)
@[reducible] def F0 (t : List (ByteArray × Int)) : AV := .fmap (dZ Value.string bF t)
def Oh (t:List (ByteArray×Int)):AV:=F0 t
@[reducible] def l5 (c : List (Int × List (ByteArray × Int))) : List AV := dZ oD Oh c
@[reducible] def vS (c : List (Int × List (ByteArray × Int))) : MS := .live 2 (l5 c) false
theorem Nl:ja Tryz.prog 263 (.int .i64) (.map none):=⟨3,183,by kernel_rfl,by kernel_rfl,fun w=>Tryz.zeroValue183 w⟩
theorem uO {K α:Type}(kv:K→Value)(e:α→AV)(h:∀a,bj (e a)=true)(l:List (K×α)):aN (dZ kv e l)=true:=by
 rw[bL];intro x hx
 obtain⟨p,_,rfl⟩:=List.mem_map.1 hx
 simp[entry,bj,aN,h]
theorem cA (c:List (Int×List (ByteArray×Int))):aN (l5 c)=true:=uO _ _ (fun _=>rfl) c
theorem ku (t:List (ByteArray×Int)):aN (dZ Value.string bF t)=true:=uO _ _ (fun _=>rfl) t
structure EL (l:List au) (c:List (Int×List (ByteArray×Int))):Prop where
 is:∀r t,cR r c=some t→t=o5 l r
 len:c.length≤1000
def sH (l:List au)(c:List (Int×List (ByteArray×Int)))(r:Int):List (Int×List (ByteArray×Int)):=match cR r c with
 |some _=>c
 |none=>c++ [(r,o5 l r)]
def sG (l:List au)(c:List (Int×List (ByteArray×Int)))(n:Int):List (Int×List (ByteArray×Int)):=
 if(nd l n).kind=1 then
  match yp (nd l n) ox with
  |some _=>if D4 l n=true then sH l c (dY l n) else c
  |none=>c
 else c
theorem Kk {l:List au}{c:List (Int×List (ByteArray×Int))}(h:∀r t,cR r c=some t→t=o5 l r)(r:Int):∀q t,cR q (sH l c r)=some t→t=o5 l q:=by
 intro q t
 unfold sH
 cases hg:cR r c with
 |some x=>exact h q t
 | none=>
   rw[←sL hg,fo]
   by_cases e:r=q
   ·rw[if_pos e];intro ht;cases ht;rw[e]
   ·rw[if_neg e];exact h q t
theorem F4 (l:List au)(c:List (Int×List (ByteArray×Int)))(r:Int):(sH l c r).length≤c.length+1:=by
 unfold sH;split<;>simp
theorem Jc {l:List au}{c:List (Int×List (ByteArray×Int))}(h:∀r t,cR r c=some t→t=o5 l r)(n:Int):∀q t,cR q (sG l c n)=some t→t=o5 l q:=by
 unfold sG
 split
 ·split
  ·split
   ·exact Kk h _
   ·exact h
  ·exact h
 ·exact h
theorem Gn (l:List au)(c:List (Int×List (ByteArray×Int)))(n:Int):(sG l c n).length≤c.length+1:=by
 unfold sG
 split
 ·split
  ·split
   ·exact F4 _ _ _
   ·omega
  ·omega
 ·omega
theorem KM (l:List au)(m:Int)(c:List (Int×List (ByteArray×Int)))(T:Tree l)(n:Int)(hn:ak l n=true):
  ah Tryz.prog 249 [] [.agg [fk l,aq m,.fmap (l5 c)],aq n] [] (aq (tr l n)):=by
 have hstep:=fun n h1 h2=>zq T (fun p=>gR (nd l p)) (n:=n) h1 h2
 have htop:=fun n h1 h2=>Ce T (fun p=>gR (nd l p)) (n:=n) h1 h2
 have hwst:=fun n h1 h2=>cH T (n:=n) h1 h2
 have hpar:∀n,ak l n=true→(nd l n).parent=-1∨ak l (nd l n).parent=true:=fun n hn=>by
  by_cases h:(nd l n).parent=-1
  ·exact .inl h
  ·exact .inr (T.par n hn h).1
 unfold tr
 obtain⟨q,hq⟩:∃q:Int→Bool,(fun p=>gR (nd l p))=q:=⟨_,rfl⟩
 rw[hq] at hstep htop ⊢
 have hqe:∀p,q p=gR (nd l p):=fun p=>by rw[←hq]
 have step:∀p y,ak l p=true→nd l p=y→(y.parent=-1∧gl l q p=-1)∨(ak l y.parent=true∧y.parent≠-1∧(gl l q p=if gR (nd l y.parent)=true then y.parent else gl l q y.parent)∧(cO l y.parent).length< (cO l p).length):=by
  rintro p y hp rfl
  by_cases e:(nd l p).parent=-1
  ·exact .inl ⟨e,htop p hp e⟩
  ·exact .inr ⟨(hpar p hp).resolve_left e,e,(hstep p hp e).trans (by first|rfl|rw[hqe]),by rw[hwst p hp e];simp⟩
 clear hstep htop hwst hpar
 refine ah.af (rvs:=[.tmp 4]) G aa Tryz.func249 rfl Tryz.ntmps249 rfl rfl ?_;with_reducible refine wD ?_
 obtain⟨i,y,e,hy,hny⟩:=bC.1 hn
 have hst:=step n y hn hny
 obtain⟨b1,b2,b3,b4,b5,b6,b7,b8,b9,b10⟩:=y
 simp only at hst
 refine ay.mk i (aS _) e (aG hy) ?_;with_reducible refine wK ?_
 refine aU.use G aa (fun(p:Int)=>[(1,aq p),(2,.ptr 20 0 0)]) (fun _=>[(20,.live 3 [.agg [fk l,aq m,.fmap (l5 c)]] false)])
  (fun p=>(p=-1∧gl l q n=-1)∨(ak l p=true∧p≠-1∧gl l q n=if gR (nd l p)=true then p else gl l q p)) (fun p=>if p=-1 then 0 else(cO l p).length) b6
  (by rcases hst with h|⟨h1,h2,h3,_⟩;exact .inl h;exact .inr ⟨h1,h2,h3⟩) (by(refine fK ?_;(with_reducible repeat' (first|exact trivial|(show _∧_;refine aK ?_ ?_)));(all_goals try rfl))) ?_
 intro p hp
 with_reducible refine wK ?_
 rcases hp with⟨rfl,h1⟩|⟨h1,h2,h3⟩
 ·rw[h1]
  repeat' (first
  |refine gK ?_|refine aE ?_ ?_
  |apply trivial)
  all_goals rfl
 ·obtain⟨j,z,e',hz,hnz⟩:=bC.1 h1
  have hst:=step p z h1 hnz
  rw[hnz] at h3
  have h81:=EI z
  obtain⟨c1,c2,c3,c4,c5,c6,c7,c8,c9,P3⟩:=z
  simp only at hst
  cases hf:gR ⟨c1,c2,c3,c4,c5,c6,c7,c8,c9,P3⟩ with
  | true=>
    rw[hf] at h81 h3
    rw[h3,if_pos rfl]
    (have fct:=(eq_false h2);(repeat' (first
  |refine gF ?_|refine aE ?_ ?_
  | ((first
   |((with_reducible refine kQ 252 ?_);refine cL h81 Kz ?_)
   |(refine ay.mk j (aS ⟨c1,c2,c3,c4,c5,c6,c7,c8,c9,P3⟩) e' (aG hz) ?_))<;>with_reducible refine wK ?_)
  | apply trivial));all_goals clear fct)
    all_goals rfl
  | false=>
    rw[hf] at h81 h3
    rw[if_neg (by simp)] at h3
    (have fct:=(eq_false h2);(repeat' (first
  |refine gF ?_|refine aE ?_ ?_
  | ((first
   |((with_reducible refine kQ 252 ?_);refine cL h81 Kz ?_)
   |(refine ay.mk j (aS ⟨c1,c2,c3,c4,c5,c6,c7,c8,c9,P3⟩) e' (aG hz) ?_))<;>with_reducible refine wK ?_)
  | apply trivial));all_goals clear fct)
    refine aL.mk c6 ?_ ?_ ?_
    ·rw[h3]
     rcases hst with h|⟨g1,g2,g3,_⟩
     ·exact .inl h
     ·exact .inr ⟨g1,g2,g3⟩
    ·rw[if_neg h2]
     rcases hst with⟨h,_⟩|⟨_,g2,_,g4⟩
     ·rw[if_pos h]
      obtain⟨r,hr⟩:=fF T h1
      rw[hr];simp
     ·rw[if_neg g2];exact g4
    ·(refine fK ?_;(with_reducible repeat' (first|exact trivial|(show _∧_;refine aK ?_ ?_)));(all_goals try rfl))
theorem L0 (f:ForM):ah Tryz.prog 219 [] [cJ f] [vS []] (.agg [fk f.nodes,aq f.most,.mapr 0]):=by
 obtain⟨l,m⟩:=f
 refine ah.af (rvs:=[.cell 2 265]) G aa Tryz.func219 rfl Tryz.ntmps219 rfl rfl ?_;with_reducible refine wD ?_
 repeat' (first
  |refine gK ?_|refine aE ?_ ?_
  |apply trivial)
 all_goals first|rfl|trivial
theorem HL {R:AV→AV→Prop}{a b:List AV}{x y:AV}(h:kS R a b)(k:R x y):kS R (a++ [x]) (b++ [y]):=by
 refine⟨by simp[h.1],fun i u v hu hv=>?_⟩
 rw[List.getElem?_append] at hu hv
 rw[h.1] at hu
 by_cases hi:i<b.length
 ·rw[if_pos hi] at hu hv;exact h.2 i u v hu hv
 ·rw[if_neg hi] at hu hv
  rw[List.getElem?_singleton] at hu hv
  split at hu
  ·rename_i h0;rw[if_pos h0] at hv;cases hu;cases hv;exact k
  ·cases hu
theorem JM {R:AV→AV→Prop}:∀ {a b:List AV},kS R a b→EC R a b
 |[],[],_=>trivial
 |x::xs,y::ys,h=>⟨h.2 0 x y rfl rfl,JM ⟨by have:=h.1;simpa using this,fun i u v hu hv=>h.2 (i+1) u v (by simpa using hu) (by simpa using hv)⟩⟩
 |[],_::_,h=>by have:=h.1;simp at this
 |_::_,[],h=>by have:=h.1;simp at this
theorem JU (c:List (Int×List (ByteArray×Int)))(r:Int)(t:List (ByteArray×Int)):l5 (c++ [(r,t)])=l5 c++ [entry (oD r) (F0 t)]:=by
 unfold l5 dZ;rw[List.map_append];rfl
theorem Fg {m:ML}{fz:Nat→Bool}{k:Nat}{ro:Bool}{rows:List AV}{t:List (ByteArray×Int)}(h1:ej m k=.live 2 rows ro)(h2:fz k=true)(h3:rows=dZ Value.string bF t):Ik m fz (F0 t) k:=by
 subst h3
 refine⟨2,_,ro,h1,h2,rfl,fun x hx=>?_⟩
 obtain⟨p,_,rfl⟩:=List.mem_map.1 hx
 exact⟨_,_,rfl,rfl⟩
theorem LM (l:List au)(m:Int)(hs:bS l)(hrt:aV ⟨l,m⟩=true)(c:List (Int×List (ByteArray×Int)))(hc:EL l c)(r:Int)(hr:ak l r=true):
  ah Tryz.prog 250 [vS c] [.agg [fk l,aq m,.mapr 0],aq r] [vS (sH l c r)] (F0 (o5 l r)):=by
 have T:Tree l:=jt hrt
 have h78:=LZ ⟨l,m⟩ hs r
 have e78:JG ⟨l,m⟩ r=dJ l l.length r:=by unfold JG;rw[if_pos (by rw[hrt,hr];rfl)]
 rw[e78] at h78
 have hol:=Bj T l.length hr
 have h60:=hs.len
 have hot:∀k∈dJ l l.length r,ak l k=true:=fun k hk=>(vP T hr hk).1
 have hci:=hc.is r
 have hcl:=hc.len
 obtain⟨kt,hkt⟩:∃kt,sH l c r=kt:=⟨_,rfl⟩
 rw[hkt]
 unfold sH at hkt
 unfold o5 at hkt hci ⊢
 have hci:=hci
 generalize dJ l l.length r=ks at h78 hol hot hci hkt ⊢
 have hkm:(ks.map bF).length=ks.length:=List.length_map ..
 refine ah.af (rvs:=[.tmp 4]) G aa Tryz.func250 rfl Tryz.ntmps250 rfl rfl ?_;with_reducible refine wD ?_
 refine jc.ck oD Oh c (k:=r) (zv:=.lit (.map none)) Nl ⟨_,_,rfl⟩ ju j4 rfl rfl (fun x hx=>?_) (fun hx=>?_)
 ·rw[hx] at hkt
  dsimp only at hkt
  subst hkt
  rw[show Oh x=F0 x from rfl]
  have hxe:=hci x hx
  with_reducible refine wK ?_
  repeat' (first
  |refine gK ?_|refine aE ?_ ?_
  |apply trivial)
  all_goals first
   |exact aD (cA c)
   |rfl
   |exact(congrArg F0 hxe).symm
   |skip
 ·rw [hx] at hkt
  dsimp only at hkt
  subst hkt
  with_reducible refine wK ?_
  repeat' (first
  |refine gK ?_|refine aE ?_ ?_
  |(((with_reducible refine kQ 265 ?_);refine cV h78 Rl ?_)<;>with_reducible refine wK ?_)
  |apply trivial)
  refine aU.use G aa (fun(j:Nat)=>[(1,aq r),(2,.ptr 20 0 0),(7,.mapr 71),(27,bY ks),(28,aq ks.length),(29,aq j)])
   (fun j=>[(0,vS c),(20,.live 3 [.agg [fk l,aq m,.mapr 0]] false),(71,.live 2 (dZ Value.string bF ((ks.take j).foldl (jV l) [])) false)])
   (fun j=>j≤ks.length) (fun j=>ks.length-j) 0 (Nat.zero_le _) ?_ ?_
  ·(refine fK ?_;(with_reducible repeat' (first|exact trivial|(show _∧_;refine aK ?_ ?_)));(all_goals try rfl))
   all_goals first
    |exact aD (cA c)
    |exact hkm
    |(show(ks.length:Int)=_;rw[hkm])
    |(show K3 _ [] [];exact⟨.refl rfl,rfl⟩)
    |skip
  intro j hj
  with_reducible refine wK ?_
  refine bq.mk (fun h1=>?_) (fun h1=>?_)<;>(try simp only[aF] at h1)<;>with_reducible refine wK ?_
  ·have hj':j<ks.length:=by simp only[decide_eq_true_eq] at h1;omega
   obtain⟨k,hk⟩:∃k,ks[j]? =some k:=⟨_,List.getElem?_eq_getElem hj'⟩
   obtain⟨i,y,e,hy,hny⟩:=bC.1 (hot k (List.mem_of_getElem? hk))
   have h47:=AJ y.attrs (by have:=hs.attrs y (List.mem_of_getElem? hy);omega) FD
   have hst:(ks.take (j+1)).foldl (jV l) []=jV l ((ks.take j).foldl (jV l) []) k:=by
    rw[List.take_add_one,hk,List.foldl_append];rfl
   have hfl:=CQ l (ks.take j) []
   rw[List.length_nil,List.length_take] at hfl
   generalize(ks.take j).foldl (jV l) []=t at hst hfl ⊢
   have ha:jV l t k=if 0≤jW y.attrs FD∧cR (yo y.attrs FD) t=none then eB (yo y.attrs FD) k t else t:=by
    unfold jV yp
    rw[hny]
    by_cases e1:0≤jW y.attrs FD
    ·rw[if_pos e1]
     simp only
     cases e2:cR (yo y.attrs FD) t with
     |none=>rw[if_pos ⟨e1,rfl⟩]
     |some z=>rw[if_neg (fun h=>by cases h.2)]
    ·rw[if_neg e1,if_neg (fun h=>e1 h.1)]
   rw[ha] at hst
   generalize hg:yo y.attrs FD=gs at h47 hst
   obtain⟨ok,hok⟩:∃ok,decide (0≤jW y.attrs FD)=ok:=⟨_,rfl⟩
   rw[hok] at h47
   have hst':(ks.take (j+1)).foldl (jV l) []=if ok=true∧cR gs t=none then eB gs k t else t:=by rw[hst];simp only[←hok,decide_eq_true_eq]
   clear ha hst hg hok
   obtain⟨b1,b2,b3,b4,b5,b6,b7,b8,b9,b10⟩:=y
   simp only at h47
   refine ay.mk j (aq k) rfl (fZ hk) ?_;with_reducible refine wK ?_
   refine ay.mk i (aS _) e (aG hy) ?_;with_reducible refine wK ?_
   refine cL h47 Ju ?_;with_reducible refine wK ?_
   refine jc.ck Value.string bF t (k:=gs) (zv:=aq 0) oc ⟨_,_,rfl⟩ j3 j5 rfl rfl (fun x hx2=>?_) (fun hx2=>?_)
   ·rw[hx2,if_neg (fun h=>by cases h.2)] at hst'
    rw[show bF x=aq x from rfl]
    with_reducible refine wK ?_
    cases ok<;>(
     repeat' (first
  |refine gK ?_|refine aE ?_ ?_
  | apply trivial)
     refine aL.mk (j+1) (by omega) (by omega) ?_
     rw[hst']
     (refine fK ?_;(with_reducible repeat' (first|exact trivial|(show _∧_;refine aK ?_ ?_)));(all_goals try rfl))
     all_goals first
      |exact aD (cA c)
      |exact⟨.refl (ku t),ku t⟩
      |skip)
   ·rw [hx2] at hst'
    with_reducible refine wK ?_
    cases ok with
    | false=>
      rw[if_neg (fun h=>by cases h.1)] at hst'
      repeat' (first
  |refine gK ?_|refine aE ?_ ?_
  | apply trivial)
      refine aL.mk (j+1) (by omega) (by omega) ?_
      rw[hst']
      (refine fK ?_;(with_reducible repeat' (first|exact trivial|(show _∧_;refine aK ?_ ?_)));(all_goals try rfl))
      all_goals first
       |exact aD (cA c)
       |exact⟨.refl (ku t),ku t⟩
       |skip
    | true=>
      rw[if_pos ⟨rfl,rfl⟩] at hst'
      repeat' (first
  |refine gK ?_|refine aE ?_ ?_
  |apply trivial)
      refine s7.ck Value.string bF t k oc rfl j3 j5 (by unfold maxLen;omega) rfl ?_;with_reducible refine wK ?_
      repeat' (first
  |refine gK ?_|refine aE ?_ ?_
  |apply trivial)
      refine aL.mk (j+1) (by omega) (by omega) ?_
      rw[hst']
      (refine fK ?_;(with_reducible repeat' (first|exact trivial|(show _∧_;refine aK ?_ ?_)));(all_goals try rfl))
      all_goals first
       |exact aD (cA c)
       |exact⟨.refl (ku _),ku _⟩
       |skip
  ·have hjl:j=ks.length:=by simp only[decide_eq_false_iff_not] at h1;omega
   subst hjl
   rw[List.take_length]
   generalize hT:ks.foldl (jV l) []=t
   repeat' (first
  |refine gK ?_|refine aE ?_ ?_
  | apply trivial)
   refine s7.new Nl rfl (ju r) (lB ju) (wO j4 hx) (by simp[l5,dZ,maxLen];omega) rfl rfl ?_;with_reducible refine wK ?_
   repeat' (first
  |refine gK ?_|refine aE ?_ ?_
  | apply trivial)
   all_goals first
    |exact Fg rfl rfl rfl
    |skip
   rw[JU]
   refine JM (HL (.refl (cA c)) ?_)
   exact⟨rfl,⟨Fg rfl rfl rfl,trivial⟩,trivial⟩
theorem FO {m:ML}{fz:Nat→Bool}{k:Nat}{ro:Bool}{rows:List AV}{c:List (Int×List (ByteArray×Int))}(h1:ej m k=.live 2 rows ro)(h2:fz k=true)(h3:rows=l5 c):Ik m fz (.fmap (l5 c)) k:=by
 subst h3
 refine⟨2,_,ro,h1,h2,rfl,fun x hx=>?_⟩
 obtain⟨p,_,rfl⟩:=List.mem_map.1 hx
 exact⟨_,_,rfl,rfl⟩
theorem LR {x:au}{w:ByteArray}:yp x w=if 0≤jW x.attrs w then some (yo x.attrs w) else none:=rfl
theorem Lx {l:List au}{m:Int}(hr:aV ⟨l,m⟩=true){n:Int}(hn:ak l n=true):DO ⟨l,m⟩ n=D4 l n:=by
 unfold DO D4;rw[hr,show ak (ForM.mk l m).nodes n=true from hn];rfl
theorem LB (l:List au)(m:Int)(hs:bS l)(hrt:aV ⟨l,m⟩=true)(c:List (Int×List (ByteArray×Int)))(hc:EL l c)(n:Int)(hn:ak l n=true):
  ah Tryz.prog 220 [vS c] [.agg [fk l,aq m,.mapr 0],aq n] [vS (sG l c n)] (aq (lj l n)):=by
 have T:Tree l:=jt hrt
 have h21:=FR ⟨l,m⟩ hs n
 rw[Lx hrt hn] at h21
 have h116:=KM l m c T n hn
 have h48:=Lc ⟨l,m⟩ hs hrt n hn
 have hrth:=(rA T n hn).1
 have h117:=LM l m hs hrt c hc (dY l n) hrth
 have hfst:=fun v k=> @wT l (dY l n) v k
 have hord:=fun k hk=>(vP T hrth (n:=k) hk).1
 obtain⟨i,x,e,hx,hnx⟩:=bC.1 hn
 have h47:=AJ x.attrs (by have:=hs.attrs x (List.mem_of_getElem? hx);omega) ox
 unfold lj sG N3
 rw[hnx,LR]
 simp only at h48
 have hig:=fun v=>GJ l (dY l n) v
 generalize dY l n=r at h48 h117 hfst hord hig ⊢
 generalize tr l n=nr at h116 ⊢
 generalize D4 l n=cn at h21 ⊢
 generalize hgs:yo x.attrs ox=v at h47 ⊢
 obtain⟨ok,hok⟩:∃ok,decide (0≤jW x.attrs ox)=ok:=⟨_,rfl⟩
 rw[hok] at h47
 have hok':(0≤jW x.attrs ox)=(ok=true):=by rw[←hok];simp
 simp only[hok']
 clear hok hok' hgs
 obtain⟨a1,a2,a3,a4,a5,a6,a7,a8,a9,a10⟩:=x
 simp only at h47 ⊢
 refine ah.af (rvs:=[.tmp 4]) G aa Tryz.func220 rfl Tryz.ntmps220 rfl rfl ?_;with_reducible refine wD ?_
 refine ay.mk i (aS _) e (aG hx) ?_;with_reducible refine wK ?_
 by_cases e1:a1=1
 ·rw [if_pos e1,if_pos e1]
  refine bq.no (by rw[e1];rfl) ?_;with_reducible refine wK ?_
  cases ok with
  | false=>
    rw[if_neg (by simp)]
    repeat' (first
  |refine gK ?_|refine aE ?_ ?_
  | ((first
   |((with_reducible refine kQ 248 ?_);refine cL h47 Ju ?_)
   |((with_reducible refine kQ 120 ?_);refine cL h21 Lm ?_)
   |((with_reducible refine kQ 249 ?_);refine aj.lit [0] h116 Pe ⟨⟨rfl,rfl,FO rfl rfl rfl,trivial⟩,rfl,trivial⟩ rfl rfl ?_))<;>with_reducible refine wK ?_)
  | apply trivial)
    all_goals first|rfl|exact aD (cA c)
  | true=>
    rw[if_pos rfl]
    simp only
    cases cn with
    | false=>
      rw[if_neg (by simp),if_neg (by simp)]
      repeat' (first
  |refine gK ?_|refine aE ?_ ?_
  | ((first
   |((with_reducible refine kQ 248 ?_);refine cL h47 Ju ?_)
   |((with_reducible refine kQ 120 ?_);refine cL h21 Lm ?_)
   |((with_reducible refine kQ 249 ?_);refine aj.lit [0] h116 Pe ⟨⟨rfl,rfl,FO rfl rfl rfl,trivial⟩,rfl,trivial⟩ rfl rfl ?_))<;>with_reducible refine wK ?_)
  | apply trivial)
      all_goals first|rfl|exact aD (cA c)
    | true=>
      rw[if_pos rfl,if_pos rfl]
      repeat' (first
  |refine gK ?_|refine aE ?_ ?_
  | ((first
   |((with_reducible refine kQ 248 ?_);refine cL h47 Ju ?_)
   |((with_reducible refine kQ 120 ?_);refine cL h21 Lm ?_)
   |((with_reducible refine kQ 251 ?_);refine cL h48 Re ?_))<;>with_reducible refine wK ?_)
  |apply trivial)
      refine aj.gd (news:=[vS (sH l c r)]) [0] [] h117 Rt ⟨⟨rfl,rfl,trivial,trivial⟩,rfl,trivial⟩ ⟨⟨rfl,.inl ⟨rfl,cA c⟩⟩,trivial⟩ rfl ⟨⟨rfl,rfl⟩,rfl⟩ rfl ⟨⟨rfl,.inl ⟨rfl,cA _⟩⟩,trivial⟩ rfl rfl ?_
      with_reducible refine wK ?_
      refine jc.ck Value.string bF (o5 l r) (k:=v) (zv:=aq 0) oc rfl j3 j5 rfl rfl (fun k hk=>?_) (fun hk=>?_)
      ·rw[hig] at hk
       rw[hk,show bF k=aq k from rfl]
       simp only
       obtain⟨j,y,e',hy,hny⟩:=bC.1 (hord k (hfst v k hk).1)
       rw[hny]
       have h81:=EI y
       obtain⟨b1,b2,b3,b4,b5,b6,b7,b8,b9,b10⟩:=y
       obtain⟨fm,hfm⟩:∃fm,gR ⟨b1,b2,b3,b4,b5,b6,b7,b8,b9,b10⟩=fm:=⟨_,rfl⟩
       rw[hfm] at h81 ⊢
       with_reducible refine wK ?_
       by_cases ev:v=⟨#[]⟩
       ·rw[if_neg (fun h=>h.1 ev)]
        have ev':v=⟨⟨[]⟩⟩:=ev
        (have fct:=ev';(repeat' (first
  |refine gF ?_|refine aE ?_ ?_
  |(((with_reducible show bI _ _ _ _);refine dK ?_)<;>with_reducible refine wK ?_)
  |apply  trivial));all_goals clear fct)
        all_goals first|rfl|exact aD (cA _)
       ·have ev':¬v=⟨⟨[]⟩⟩:=ev
        cases fm with
        | true=>
          rw[if_pos ⟨ev,rfl⟩]
          (have fct:=ev';(repeat' (first
  |refine gF ?_|refine aE ?_ ?_
  | ((first
   |((with_reducible show bI _ _ _ _);refine dK ?_)
   |(refine ay.mk j (aS ⟨b1,b2,b3,b4,b5,b6,b7,b8,b9,b10⟩) e' (aG hy) ?_)
   |((with_reducible refine kQ 252 ?_);refine cL h81 Kz ?_))<;>with_reducible refine wK ?_)
  |apply  trivial));all_goals clear fct)
          all_goals first|rfl|exact aD (cA _)
        | false=>
          rw[if_neg (fun h=>by cases h.2)]
          (have fct:=ev';(repeat' (first
  |refine gF ?_|refine aE ?_ ?_
  | ((first
   |((with_reducible show bI _ _ _ _);refine dK ?_)
   |(refine ay.mk j (aS ⟨b1,b2,b3,b4,b5,b6,b7,b8,b9,b10⟩) e' (aG hy) ?_)
   |((with_reducible refine kQ 252 ?_);refine cL h81 Kz ?_))<;>with_reducible refine wK ?_)
  |apply  trivial));all_goals clear fct)
          all_goals first|rfl|exact aD (cA _)
      ·rw[hig] at hk
       rw[hk]
       with_reducible refine wK ?_
       repeat' (first
  |refine gK ?_|refine aE ?_ ?_
  |(((with_reducible show bI _ _ _ _);refine dK ?_)<;>with_reducible refine wK ?_)
  |apply trivial)
       all_goals first|rfl|exact aD (cA _)
 ·rw[if_neg e1,if_neg e1]
  (have fct:=(eq_false e1);(repeat' (first
  |refine gF ?_|refine aE ?_ ?_
  |apply trivial));all_goals clear fct)
  all_goals first|rfl|exact aD (cA c)
theorem Hl (l:List au):EL l []:=⟨fun r t h=>(by cases h),(by simp)⟩
def my (l:List au)(k:Nat):List Int:=(List.range k).map fun n:Nat=>lj l (n:Int)
def lC (l:List au):Nat→List (Int×List (ByteArray×Int))
 |0=>[]
 |k+1=>sG l (lC l k) (k:Int)
theorem zD (l:List au):∀k,k≤64→EL l (lC l k)∧(lC l k).length≤k
 |0,_=>⟨Hl l,Nat.le_refl _⟩
 | k+1,h=>by
   obtain⟨h1,h2⟩:=zD l k (by omega)
   have h3:=Gn l (lC l k) (k:Int)
   exact⟨⟨Jc h1.is _,by show(sG l (lC l k) (k:Int)).length≤_;omega⟩,by show(sG l (lC l k) (k:Int)).length≤_;omega⟩
theorem D6 (l:List au)(k:Nat):my l (k+1)=my l k++ [lj l (k:Int)]:=by unfold my;rw[List.range_succ,List.map_append];rfl
theorem yW (l:List au)(k:Nat):(my l k).length=k:=by unfold my;simp
def LI (f:ForM):List Int:=if aV f=true then my f.nodes f.nodes.length else[]
theorem LU (f:ForM)(hs:bS f.nodes):ah Tryz.prog 169 [] [cJ f] [] (bY (LI f)):=by
 have h15:=j7 f hs
 have h73:=L0 f
 have h60:=hs.len
 obtain⟨l,m⟩:=f
 unfold LI
 simp only at h73 h60 ⊢
 have hlm:(l.map bZ).length=l.length:=List.length_map ..
 obtain⟨o,ho⟩:∃o,(if aV ⟨l,m⟩=true then my l l.length else[])=o:=⟨_,rfl⟩
 rw[ho]
 refine ah.af (rvs:=[.tmp 2]) G aa Tryz.func169 rfl Tryz.ntmps169 rfl rfl ?_;with_reducible refine wD ?_
 cases hr:aV ⟨l,m⟩ with
 | false=>
   rw[hr] at h15
   rw[hr,if_neg (by simp)] at ho
   subst ho
   repeat' (first
  |refine gK ?_|refine aE ?_ ?_
  |(((with_reducible refine kQ 100 ?_);refine cL h15 mT ?_)<;>with_reducible refine wK ?_)
  | apply trivial)
   all_goals exact .inr (.inr ⟨1,rfl⟩)
 | true=>
   rw[hr] at h15
   rw[hr,if_pos rfl] at ho
   subst ho
   have hstep:=fun k=>D6 l k
   have hlen:=fun k=>yW l k
   have hcall:∀k,k<l.length→ah Tryz.prog 220 [vS (lC l k)] [.agg [fk l,aq m,.mapr 0],aq (k:Int)] [vS (lC l (k+1))] (aq (lj l (k:Int))):=fun k hk=>
    LB l m hs hr (lC l k) (zD l k (by omega)).1 k (dj (List.getElem?_eq_getElem hk))
   have hk0:lC l 0=[]:=rfl
   have ho0:my l 0=[]:=rfl
   generalize lC l=kt at hcall hk0
   generalize my l=ot at hstep hlen ho0 ⊢
   repeat' (first
  |refine gK ?_|refine aE ?_ ?_
  | ((first
   |((with_reducible refine kQ 100 ?_);refine cL h15 mT ?_)
   |((with_reducible refine kQ 219 ?_);refine aj.new 101 [] h73 RI ⟨⟨rfl,rfl,trivial⟩,trivial⟩ rfl rfl rfl ⟨.nil _,rfl,trivial⟩ rfl ?_))<;>with_reducible refine wK ?_)
  | apply trivial)
   refine aU.ghost 3 31 1 rfl rfl ?_
   refine aU.use G aa (fun(k:Nat)=>[(1,.ptr 10 0 0),(3,.own 31 0 k),(4,.ptr 40 0 0),(13,aq l.length),(14,aq k)])
    (fun k=>[(10,.live 2 [cJ ⟨l,m⟩] false),(31,gX (ot k)),(40,.live 3 [.agg [fk l,aq m,.mapr 101]] false),(101,vS (kt k))])
    (fun k=>k≤l.length) (fun k=>l.length-k) 0 (Nat.zero_le _) ?_ ?_
   ·(refine fK ?_;(with_reducible repeat' (first|exact trivial|(show _∧_;refine aK ?_ ?_)));(all_goals try rfl))
    all_goals first
     |(show(l.length:Int)=_;rw[hlm])
     |(rw[ho0];exact⟨.refl rfl,rfl⟩)
     |(rw[hk0];exact⟨.refl rfl,rfl⟩)
     |skip
   intro k hk
   have hkl:=hlen k
   have hkm:((ot k).map bF).length=k:=by rw[List.length_map,hkl]
   with_reducible refine wK ?_
   refine bq.mk (fun h1=>?_) (fun h1=>?_)<;>(try simp only[aF] at h1)<;>with_reducible refine wK ?_
   ·have hk':k<l.length:=by simp only[decide_eq_true_eq] at h1;omega
    have h74:=hcall k hk'
    have hst:=hstep k
    generalize lj l (k:Int)=o at h74 hst
    repeat' (first
  |refine gK ?_|refine aE ?_ ?_
  | ((first
   |((with_reducible refine kQ 220 ?_);refine aj.gd (news:=[vS (kt (k+1))]) [101] [] h74 Qr ⟨⟨rfl,rfl,trivial,trivial⟩,rfl,trivial⟩ ⟨⟨rfl,.inl ⟨rfl,cA _⟩⟩,trivial⟩ rfl ⟨⟨rfl,rfl⟩,rfl⟩ rfl ⟨⟨rfl,.inl ⟨rfl,cA _⟩⟩,trivial⟩ rfl rfl ?_)
   |((with_reducible show dI _ _ _ _ _ _ _ _ _ _);refine dI.mk ((ot k).map bF) [aq o] ⟨rfl,hkm.symm,rfl⟩ ⟨rfl,rfl,rfl⟩ rfl (by simp;omega) (by simp;omega) ?_)
   |((with_reducible show bI _ _ _ _);refine dK ?_))<;>with_reducible refine wK ?_)
  | apply trivial)
    refine aL.mk (k+1) (by omega) (by omega) ?_
    rw[hst]
    (refine fK ?_;(with_reducible repeat' (first|exact trivial|(show _∧_;refine aK ?_ ?_)));(all_goals try rfl))
    all_goals first
     |(simp[hkl];done)
     |(refine⟨?_,aQ _⟩;rw[List.map_append];exact .refl (by rw[←List.map_append];exact aQ _))
     |exact⟨.refl (cA _),cA _⟩
     |skip
   ·have hjl:k=l.length:=by simp only[decide_eq_false_iff_not] at h1;omega
    subst hjl
    repeat' (first
  |refine gK ?_|refine aE ?_ ?_
  | apply trivial)
    all_goals exact eG rfl rfl rfl hkl.symm
theorem JC {l:List au}{m:Nat}{n:Int}:js l (m+1) n=if(nd l n).parent=-1 then true else js l m (nd l n).parent:=rfl
theorem HH {l:List au}{m:Nat}{b:Int}:qy l (m+1) b=if(nd l b).parent=-1 then false else(Kl l (nd l b).parent b||qy l m (nd l b).parent):=rfl
theorem La (f:ForM)(hs:bS f.nodes)(T:Tree f.nodes)(k:Nat)(x:au)(hx:f.nodes[k]? =some x):ah Tryz.prog 221 [] [cJ f,aq k] [] (aA (sB f.nodes k)):=by
 have h28:∀x∈f.nodes,ah Tryz.prog 253 [] [aS x] [] (aA (qJ x)):=fun x hx=>Mq x (by have:=hs.attrs x hx;omega)
 have h20:∀ (k:Nat) (x:au),f.nodes[k]? =some x→ah Tryz.prog 254 [] [cJ f,aq k] [] (aq (Dl f.nodes k)):=fun k x hx=>KQ f hs k x hx fun c hc=>by
  have:=T.kid k (dj hx) c
  rw[cZ hx] at this
  exact(this hc).1
 have hfin:=T.fin k (dj hx)
 have hpar:=T.par
 have hk:=(List.getElem?_eq_some_iff.1 hx).1
 obtain⟨l,m⟩:=f
 unfold sB
 simp only at h28 h20 hx hfin hpar hk ⊢
 rw[cZ hx]
 have hx':=hx
 have h28x:=h28 x (List.mem_of_getElem? hx)
 have hw:qJ x=false→x.kind=1→∀b:Bool,qy l l.length k=b→(qJ x||(decide (x.kind=1)&&qy l l.length k))=b:=fun h1 h2 b h=>by rw[h1,h2,h];simp
 have hwn:qJ x=false→x.kind≠1→(qJ x||(decide (x.kind=1)&&qy l l.length k))=false:=fun h1 h2=>by rw[h1,decide_eq_false h2];rfl
 have hwy:qJ x=true→(qJ x||(decide (x.kind=1)&&qy l l.length k))=true:=fun h1=>by rw[h1];rfl
 have hdk:=@Ki x
 obtain⟨a1,a2,a3,a4,a5,a6,a7,a8,a9,a10⟩:=x
 have hxp:(nd l k).parent=a6:=by rw[cZ hx]
 simp only at hw hwn hwy hdk ⊢
 refine ah.af (rvs:=[.tmp 4]) G aa Tryz.func221 rfl Tryz.ntmps221 rfl rfl ?_;with_reducible refine wD ?_
 refine ay.mk k (aS _) rfl (aG hx) ?_;with_reducible refine wK ?_
 refine cL h28x KP ?_;with_reducible refine wK ?_
 cases d0:qJ ⟨a1,a2,a3,a4,a5,a6,a7,a8,a9,a10⟩ with
 | true=>
   have e1:=hdk d0
   rw[Bool.true_or]
   (have fct:=And.intro d0 (e1);(repeat' (first
  |refine gF ?_|refine aE ?_ ?_
  |((refine ay.mk k (aS _) rfl (aG hx) ?_)<;>with_reducible refine wK ?_)
  | apply trivial));all_goals clear fct)
   all_goals simp[e1]
 | false =>
   by_cases e1:¬a1=1
   ·rw[decide_eq_false e1]
    (have fct:=And.intro d0 ((eq_false e1));(repeat' (first
  |refine gF ?_|refine aE ?_ ?_
  |((refine ay.mk k (aS _) rfl (aG hx) ?_)<;>with_reducible refine wK ?_)
  | apply trivial));all_goals clear fct)
    all_goals simp
   have e1:=Decidable.not_not.1 e1
   rw[decide_eq_true e1,Bool.false_or,Bool.true_and]
   (have fct:=And.intro d0 (e1);(repeat' (first
  |refine gF ?_|refine aE ?_ ?_
  |((refine ay.mk k (aS _) rfl (aG hx) ?_)<;>with_reducible refine wK ?_)
  | apply trivial));all_goals clear fct)
   refine aU.use G aa (fun(i:Nat×Nat)=>[(2,.ptr 20 0 0),(5,aq i.2),(6,aq (nd l i.2).parent)]) (fun _=>[(20,.live 2 [cJ ⟨l,m⟩] false)])
    (fun i=>i.2<l.length∧js l i.1 i.2=true∧qy l l.length k=qy l i.1 i.2) (fun i=>i.1) (l.length,k) ⟨hk,hfin,rfl⟩
    ⟨⟨rfl,rfl⟩,⟨⟨rfl,rfl⟩,rfl,hxp,trivial⟩,⟨⟨rfl,rfl,trivial⟩,trivial⟩,trivial⟩ ?_
   rintro⟨n,b⟩ ⟨hb,hf,hwk⟩
   simp only at hb hf hwk
   obtain⟨y,hy⟩:∃y,l[b]? =some y:=⟨_,List.getElem?_eq_getElem hb⟩
   have hpb:=hpar b (dj hy)
   cases n with
   |zero=>simp[js] at hf
   |succ n=>
   rw[JC] at hf
   rw[HH] at hwk
   rw[cZ hy] at hf hwk hpb
   with_reducible refine wK ?_
   simp only[cZ hy]
   obtain⟨b1,b2,b3,b4,b5,b6,b7,b8,b9,b10⟩:=y
   simp only at hf hwk hpb ⊢
   by_cases p1:b6=-1
   ·rw[if_pos p1] at hwk
    rw[hwk]
    (have fct:=p1;(repeat' (first
  |refine gF ?_|refine aE ?_ ?_
  | apply trivial));all_goals clear fct)
   ·rw [if_neg p1] at hf hwk
    obtain⟨i,z,rfl,hz,hnz⟩:=bC.1 (hpb p1).1
    have h28z:=h28 z (List.mem_of_getElem? hz)
    have h20z:=h20 i z hz
    have hi:=(List.getElem?_eq_some_iff.1 hz).1
    have hzp:(nd l i).parent=z.parent:=by rw[hnz]
    unfold Kl at hwk
    rw[hnz] at hwk
    obtain⟨z1,z2,z3,z4,z5,z6,z7,z8,z9,z10⟩:=z
    simp only at hwk hzp
    have hne:¬ ((i:Int)=-1):=p1
    refine bq.yes (by simp[hne]) ?_;with_reducible refine wK ?_
    refine ay.mk i (aS ⟨z1,z2,z3,z4,z5,z6,z7,z8,z9,z10⟩) rfl (aG hz) ?_;with_reducible refine wK ?_
    by_cases f1:z2=PL
    ·cases d1:qJ ⟨z1,z2,z3,z4,z5,z6,z7,z8,z9,z10⟩ with
     | true=>
       by_cases g1:Dl l i=b
       ·rw[d1,decide_eq_false (fun h:Dl l i≠b=>h g1),Bool.and_false,Bool.and_false,Bool.false_or] at hwk
        (have fct:=And.intro f1 (And.intro d1 (g1));(repeat' (first
  |refine gF ?_|refine aE ?_ ?_
  | ((first
   |((with_reducible refine kQ 253 ?_);refine cL h28z KP ?_)
   |((with_reducible refine kQ 254 ?_);refine cL h20z Pg ?_)
   |(refine ay.mk i (aS ⟨z1,z2,z3,z4,z5,z6,z7,z8,z9,z10⟩) rfl (aG hz) ?_)
   |((with_reducible show aL _ _);refine aL.mk (n,i) ⟨hi,hf,hwk⟩ (Nat.lt_succ_self n) ⟨⟨rfl,rfl⟩,⟨⟨rfl,rfl⟩,rfl,hzp,trivial⟩,⟨⟨rfl,rfl,trivial⟩,trivial⟩,trivial⟩))<;>with_reducible refine wK ?_)
  |apply trivial));all_goals clear fct)
       ·rw[d1,decide_eq_true f1,decide_eq_true (show Dl l i≠b from g1)] at hwk
        rw[hwk]
        (have fct:=And.intro f1 (And.intro d1 ((eq_false g1)));(repeat' (first
  |refine gF ?_|refine aE ?_ ?_
  | ((first
   |((with_reducible refine kQ 253 ?_);refine cL h28z KP ?_)
   |((with_reducible refine kQ 254 ?_);refine cL h20z Pg ?_))<;>with_reducible refine wK ?_)
  |apply trivial));all_goals clear fct)
        all_goals simp
     | false=>
       rw[d1,Bool.false_and,Bool.and_false,Bool.false_or] at hwk
       (have fct:=And.intro f1 (d1);(repeat' (first
  |refine gF ?_|refine aE ?_ ?_
  | ((first
   |((with_reducible refine kQ 253 ?_);refine cL h28z KP ?_)
   |(refine ay.mk i (aS ⟨z1,z2,z3,z4,z5,z6,z7,z8,z9,z10⟩) rfl (aG hz) ?_)
   |((with_reducible show aL _ _);refine aL.mk (n,i) ⟨hi,hf,hwk⟩ (Nat.lt_succ_self n) ⟨⟨rfl,rfl⟩,⟨⟨rfl,rfl⟩,rfl,hzp,trivial⟩,⟨⟨rfl,rfl,trivial⟩,trivial⟩,trivial⟩))<;>with_reducible refine wK ?_)
  | apply trivial));all_goals clear fct)
    ·rw[decide_eq_false f1,Bool.false_and,Bool.false_or] at hwk
     (have fct:=(eq_false f1);(repeat' (first
  |refine gF ?_|refine aE ?_ ?_
  | ((first
   |(refine ay.mk i (aS ⟨z1,z2,z3,z4,z5,z6,z7,z8,z9,z10⟩) rfl (aG hz) ?_)
   |((with_reducible show aL _ _);refine aL.mk (n,i) ⟨hi,hf,hwk⟩ (Nat.lt_succ_self n) ⟨⟨rfl,rfl⟩,⟨⟨rfl,rfl⟩,rfl,hzp,trivial⟩,⟨⟨rfl,rfl,trivial⟩,trivial⟩,trivial⟩))<;>with_reducible refine wK ?_)
  |apply trivial));all_goals clear fct)
theorem My (f:ForM)(hs:bS f.nodes)(n:Int):ah Tryz.prog 172 [] [cJ f,aq n] [] (aA (ak f.nodes n&&(aV f&&sB f.nodes n))):=by
 have h13:=j7 f hs
 have h18:aV f=true→∀ (k:Nat) (x:au),f.nodes[k]? =some x→ah Tryz.prog 221 [] [cJ f,aq k] [] (aA (sB f.nodes k)):=fun hr k x hx=>La f hs (jt hr) k x hx
 obtain⟨l,m⟩:=f
 simp only at h13 h18 ⊢
 have hlm:(l.map bZ).length=l.length:=List.length_map ..
 refine ah.af (rvs:=[.tmp 4]) G aa Tryz.func172 rfl Tryz.ntmps172 rfl rfl ?_;with_reducible refine wD ?_
 by_cases e0:¬0≤n
 ·have ht:ak l n=false:=by unfold ak;simp[e0]
  rw[ht]
  (have fct:=(eq_false e0);(repeat' (first
  |refine gF ?_|refine aE ?_ ?_
  |apply trivial));all_goals clear fct)
  all_goals simp
 have e0:=Decidable.not_not.1 e0
 by_cases e1:¬n< (l.length:Int)
 ·have ht:ak l n=false:=by unfold ak;simp[e1]
  rw[ht]
  (have fct:=And.intro e0 (And.intro hlm ((eq_false e1)));(repeat' (first
  |refine gF ?_|refine aE ?_ ?_
  |apply trivial));all_goals clear fct)
  all_goals simp
 have e1:=Decidable.not_not.1 e1
 have ht:ak l n=true:=by unfold ak;simp[e0,e1]
 obtain⟨k,x,rfl,hx,_⟩:=bC.1 ht
 rw[ht]
 cases hr:aV ⟨l,m⟩ with
 | false=>
   (have fct:=And.intro hlm (And.intro e0 (And.intro e1 (hr)));(repeat' (first
  |refine gF ?_|refine aE ?_ ?_
  |(((with_reducible refine kQ 100 ?_);refine cL h13 mT ?_)<;>with_reducible refine wK ?_)
  | apply trivial));all_goals clear fct)
   all_goals simp
 | true=>
   have h18':=h18 hr k x hx
   (have fct:=And.intro hlm (And.intro e0 (And.intro e1 (hr)));(repeat' (first
  |refine gF ?_|refine aE ?_ ?_
  | ((first
   |((with_reducible refine kQ 100 ?_);refine cL h13 mT ?_)
   |((with_reducible refine kQ 221 ?_);refine cL h18' Rw ?_))<;>with_reducible refine wK ?_)
  | apply trivial));all_goals clear fct)
   all_goals simp
@[reducible] def bQ (l : List StateM) : MS := .live 4 (l.map bG) false
theorem aC (l:List StateM):aN (l.map bG)=true:=cj bG (fun _=>rfl) l
theorem DL (l:List StateM):lF (flat (l.map bG))=true:=gj bG (fun _=>rfl) l
theorem oZ (l:List StateM):fR [bQ l]:=⟨bw.eD fun r hr=>by
 obtain⟨a,_,rfl⟩:=List.mem_map.1 hr
 rfl,aC l,trivial⟩
theorem iv {m:ML}{fz:Nat→Bool}{ck:List (Nat×Nat)}{n t len:Nat}{ro:Bool}{rows:List AV}{l:List StateM}(h1:ej m t=.live 4 rows ro)(h2:fz t=true)(h3:rows=l.map bG)(h4:len=l.length):nq m fz (MF ck fz m n) (fc l) t 0 len:=by
 subst h3;subst h4
 have e:(l.map bG).length=l.length:=List.length_map ..
 exact .cut h1 h2 (by omega) (by rw[List.drop_zero,List.take_of_length_le (by omega)]) (aC l)
theorem A0 (l:List StateM)(hl:l.length≤100000):ah Tryz.prog 102 [] [fc l] [bQ l] (.own 0 0 l.length):=by
 have hlm:(l.map bG).length=l.length:=List.length_map ..
 refine ah.af (rvs:=[.tmp 2]) G aa Tryz.func102 rfl Tryz.ntmps102 rfl rfl ?_;with_reducible refine wD ?_
 refine ji.mk (fun h=>?_) (fun _=>?_)<;>with_reducible refine wK ?_
 ·obtain rfl:l=[]:=by simpa using h
  (refine eK ?_ ?_<;>with_reducible repeat' (first|exact trivial|(show _∧_;refine aK ?_ ?_)))
  all_goals first|rfl|trivial
 ·refine dI.mk [] (l.map bG) ⟨rfl,rfl,rfl⟩ ⟨rfl,rfl,rfl⟩ (DL l) (by simp;omega) (by simp;omega) ?_;with_reducible refine wK ?_
  (refine eK ?_ ?_<;>with_reducible repeat' (first|exact trivial|(show _∧_;refine aK ?_ ?_)))
  ·exact hlm.symm
  ·exact aD (aC l)
theorem Dg (l:List bB)(x:bB):l.map gV++ [kE x]=(l++ [x]).map gV:=by rw[List.map_append];rfl
@[reducible] def J9 (f : ForM) (x : AV) (d : aZ) (cs : List aH) (y : AV) : AV := .agg [fk f.nodes, aq f.most, x, nY d.defs, oK d.waits, aq d.next, aA d.busy, bJ cs, y]
@[reducible] def eJ (f : ForM) (x : AV) (d : aZ) (cs : List aH) (y : AV) : MS := .live 9 [J9 f x d cs y] false
@[reducible] def K0 : AV := .lit (.slice none 0 0)
theorem KK (f:ForM)(hs:bS f.nodes)(st:List StateM)(hst:st.length≤100000)(d:aZ)(hd:iS d)(cs:List aH):
  ah Tryz.prog 168 [] [cJ f,fc st,gi d,bJ cs] [eJ f (.own 1 0 st.length) d cs K0,bQ st] (.tup [.ptr 0 0 0,aA (iY f st d)]):=by
 have h15:=j7 f hs
 have h71:=AZ d hd
 have h108:=A0 st hst
 have hsm:(st.map bG).length=st.length:=List.length_map ..
 have hlm:=(show(f.nodes.map bZ).length=f.nodes.length from List.length_map ..)
 unfold iY
 obtain⟨l,m⟩:=f
 obtain⟨d1,d2,d3,d4⟩:=d
 simp only at h15 h71 hlm ⊢
 refine ah.af (rvs:=[.tmp 8,.tmp 9]) G aa Tryz.func168 rfl Tryz.ntmps168 rfl rfl ?_;with_reducible refine wD ?_
 refine aj.new 131 [] h108 N6 ⟨rfl,trivial⟩ rfl rfl rfl (oZ st) rfl ?_;with_reducible refine wK ?_
 by_cases e1:st.length=l.length
 ·cases e2:aV ⟨l,m⟩<;>rw[e2] at h15
  ·(have fct:=And.intro hsm (And.intro hlm ((eq_true e1)));(repeat' (first
  |refine gF ?_|refine aE ?_ ?_
  | ((first
   |((with_reducible refine kQ 100 ?_);refine cL h15 mT ?_)
   |((with_reducible show bI _ _ _ _);refine dK ?_))<;>with_reducible refine wK ?_)
  | apply trivial));all_goals clear fct)
   all_goals first|(simp[e1];done)|exact⟨.refl (aC st),aC st⟩|exact .inl rfl|rfl
  ·cases e3:eW ⟨d1,d2,d3,d4⟩<;>rw[e3] at h71
   all_goals ((have fct:=And.intro hsm (And.intro hlm ((eq_true e1)));(repeat' (first
  |refine gF ?_|refine aE ?_ ?_
  | ((first
   |((with_reducible refine kQ 100 ?_);refine cL h15 mT ?_)
   |((with_reducible refine kQ 144 ?_);refine cL h71 IC ?_)
   |((with_reducible show bI _ _ _ _);refine dK ?_))<;>with_reducible refine wK ?_)
  | apply trivial));all_goals clear fct))
   all_goals first|(simp[e1];done)|exact⟨.refl (aC st),aC st⟩|exact .inl rfl|rfl
 ·(have fct:=And.intro hsm (And.intro hlm ((eq_false e1)));(repeat' (first
  |refine gF ?_|refine aE ?_ ?_
  |(((with_reducible show bI _ _ _ _);refine dK ?_)<;>with_reducible refine wK ?_)
  |apply trivial));all_goals clear fct)
  all_goals first|(simp[e1];done)|exact⟨.refl (aC st),aC st⟩|exact .inl rfl|rfl
theorem I5 (f:ForM)(st:List StateM)(d:aZ)(cs:List aH)(due:List bB)(hdl:due.length≤100000)(c:aH)(hc:c.hooks.length≤100000)(n:Int)(t:br)(hh:dc c t.kind=true):
  ah Tryz.prog 171 [eJ f (.own 1 0 st.length) d cs (.own 2 0 due.length),bQ st,dn due] [.ptr 0 0 0,cN c,aq n,iD t]
   [eJ f (.own 1 0 st.length) d cs (.own 3 0 (due.length+1)),bQ st,.dead,dn (due++ [⟨n,t⟩])] (.tup []):=by
 have h37:=sZ c hc t.kind
 rw[hh] at h37
 have hdm:(due.map gV).length=due.length:=List.length_map ..
 obtain⟨l,m⟩:=f
 obtain⟨d1,d2,d3,d4⟩:=d
 obtain⟨c1,c2,c3,c4,c5⟩:=c
 obtain⟨t1,t2,t3,t4,t5,t6,t7,t8,t9,t10⟩:=t
 simp only at h37
 refine ah.NA (rvs:=[]) G aa Tryz.func171 rfl Tryz.ntmps171 rfl rfl ?_;with_reducible refine wD ?_
 repeat' (first
  |refine gK ?_|refine aE ?_ ?_
  | ((first
   |((with_reducible refine kQ 119 ?_);refine cL h37 Ay ?_)
   |((with_reducible show dI _ _ _ _ _ _ _ _ _ _);refine dI.mk (due.map gV) [kE ⟨n,⟨t1,t2,t3,t4,t5,t6,t7,t8,t9,t10⟩⟩] ⟨rfl,hdm.symm,rfl⟩ ⟨rfl,rfl,rfl⟩ rfl (by simp;omega) (by simp;omega) ?_)
   |((with_reducible show bI _ _ _ _);refine dK ?_))<;>with_reducible refine wK ?_)
  |apply trivial)
 all_goals first
  |(simp;done)
  |exact⟨.refl (aC st),aC st⟩
  |(show K3 _ ((due++ ([⟨n,⟨t1,t2,t3,t4,t5,t6,t7,t8,t9,t10⟩⟩]:List bB)).map gV) (due.map gV++ [kE ⟨n,⟨t1,t2,t3,t4,t5,t6,t7,t8,t9,t10⟩⟩]);rw[Dg];exact⟨.refl (aJ _),aJ _⟩)
theorem Mm (f:ForM)(st:List StateM)(d:aZ)(cs:List aH)(due:List bB)(c:aH)(hc:c.hooks.length≤100000)(n:Int)(t:br)(hh:dc c t.kind=false):
  ah Tryz.prog 171 [eJ f (.own 1 0 st.length) d cs (.own 2 0 due.length),bQ st,dn due] [.ptr 0 0 0,cN c,aq n,iD t]
   [eJ f (.own 1 0 st.length) d cs (.own 2 0 due.length),bQ st,dn due] (.tup []):=by
 have h37:=sZ c hc t.kind
 rw[hh] at h37
 obtain⟨l,m⟩:=f
 obtain⟨d1,d2,d3,d4⟩:=d
 obtain⟨c1,c2,c3,c4,c5⟩:=c
 obtain⟨t1,t2,t3,t4,t5,t6,t7,t8,t9,t10⟩:=t
 simp only at h37
 refine ah.af (rvs:=[]) G aa Tryz.func171 rfl Tryz.ntmps171 rfl rfl ?_;with_reducible refine wD ?_
 repeat' (first
  |refine gK ?_|refine aE ?_ ?_
  |(((with_reducible refine kQ 119 ?_);refine cL h37 Ay ?_)<;>with_reducible refine wK ?_)
  |apply trivial)
 all_goals first
  |exact⟨.refl (aC st),aC st⟩
  |exact⟨.refl (aJ due),aJ due⟩
section
variable {m : ML} {b s e : Nat} {f : ForM} {st st' : List StateM} {d : aZ} {cs : List aH} {due due' : List bB} {k k' n n' : Nat}
theorem iR (hb:ej m b=eJ f (.own s 0 n) d cs (.own e 0 k))(hs:ej m s=bQ st)(he:ej m e=dn due){r:List Nat}:DW (tD 3 0 (b::s::e::r)) [] m [eJ f (.own 1 0 n) d cs (.own 2 0 k),bQ st,dn due] (b::s::e::r):=by
 simp only[DW,hb,hs,he]
 refine⟨⟨trivial,.inr ⟨⟨⟨rfl,rfl,?_,rfl,rfl,rfl,rfl,rfl,?_,trivial⟩,trivial⟩,rfl⟩⟩,⟨trivial,.inl ⟨rfl,aC _⟩⟩,⟨trivial,.inl ⟨rfl,aJ _⟩⟩,trivial⟩
 all_goals (simp[MF,tD,ve,Nat.beq_refl])
theorem mz:qm [b,s,e] [eJ f (.own 1 0 n) d cs (.own 2 0 k),bQ st,dn due] [eJ f (.own s 0 n) d cs (.own e 0 k),bQ st,dn due]:=
 ⟨⟨rfl,.inr ⟨rfl,rfl,rfl⟩⟩,⟨rfl,.inl ⟨rfl,aC _⟩⟩,⟨rfl,.inl ⟨rfl,aJ _⟩⟩,trivial⟩
theorem qk {q:Nat}:qm [b,s,e,q] [eJ f (.own 1 0 n) d cs (.own 3 0 k),bQ st,.dead,dn due] [eJ f (.own s 0 n) d cs (.own q 0 k),bQ st,.dead,dn due]:=
 ⟨⟨rfl,.inr ⟨rfl,rfl,rfl⟩⟩,⟨rfl,.inl ⟨rfl,aC _⟩⟩,⟨rfl,.inl ⟨rfl,aJ _⟩⟩,trivial⟩
end
theorem AM (l:List StateM)(k:Nat)(y:StateM):(l.map bG).set (0+k) (aX y)=(l.set k y).map bG:=by rw[Nat.zero_add,List.map_set];rfl
theorem IQ (f:ForM)(st:List StateM)(ns:Nat)(hns:st.length=ns)(d:aZ)(cs:List aH)(due:List bB)(k:Nat)(s:StateM)(hk:st[k]? =some s)(ht:ak f.nodes (k:Int)=true):
  ah Tryz.prog 170 [eJ f (.own 1 0 ns) d cs (.own 2 0 due.length),bQ st,dn due] [.ptr 0 0 0,aq k] [eJ f (.own 1 0 ns) d cs (.own 2 0 due.length),bQ st,dn due] (.tup [cN (cw s d cs),aA (si f d cs k s)]):=by
 have hkl:=(List.getElem?_eq_some_iff.1 hk).1
 have h36:=Az s d cs
 unfold si
 obtain⟨i,x,e,hx,hnx⟩:=bC.1 ht
 rw[hnx]
 obtain⟨l,m⟩:=f
 obtain⟨d1,d2,d3,d4⟩:=d
 obtain⟨cv,hcv⟩:∃cv,cw s ⟨d1,d2,d3,d4⟩ cs=cv:=⟨_,rfl⟩
 obtain⟨cb,hcb⟩:∃cb,jr s ⟨d1,d2,d3,d4⟩ cs=cb:=⟨_,rfl⟩
 rw[hcv,hcb] at h36 ⊢
 obtain⟨s1,s2,s3,s4⟩:=s
 obtain⟨c1,c2,c3,c4,c5⟩:=cv
 obtain⟨a1,a2,a3,a4,a5,a6,a7,a8,a9,a10⟩:=x
 simp only at hx
 clear hcv hcb
 refine ah.af (rvs:=[.cell 4 53,.tmp 5]) G aa Tryz.func170 rfl Tryz.ntmps170 rfl rfl ?_;with_reducible refine wD ?_
 repeat' (first
  |refine gK ?_|refine aE ?_ ?_
  | ((first
   |(refine ay.mk i (aS _) e (aG hx) ?_)
   |((with_reducible show nZ _ _ _ _ _);refine nZ.mk k rfl (by omega) ?_)
   |((with_reducible show cB _ _ _ _ _);refine cB.mk (aX ⟨s1,s2,s3,s4⟩) (by rw[Nat.zero_add];exact aM hk) ?_)
   |((with_reducible refine kQ 117 ?_);refine cV h36 K5 ?_)
   |((with_reducible show bI _ _ _ _);refine dK ?_))<;>with_reducible refine wK ?_)
  |apply trivial)
 cases cb with
 | false=>
   repeat' (first
  |refine gK ?_|refine aE ?_ ?_
  |(((with_reducible show bI _ _ _ _);refine dK ?_)<;>with_reducible refine wK ?_)
  | apply trivial)
   all_goals first
    |rfl
    |exact⟨.refl (aC st),aC st⟩
    |exact⟨.refl (aJ due),aJ due⟩
    |(simp[*];done)
 | true =>
   cases c1 with
   | false=>
     repeat' (first
  |refine gK ?_|refine aE ?_ ?_
  |(((with_reducible show bI _ _ _ _);refine dK ?_)<;>with_reducible refine wK ?_)
  | apply trivial)
     all_goals first
      |rfl
      |exact⟨.refl (aC st),aC st⟩
      |exact⟨.refl (aJ due),aJ due⟩
      |(simp[*];done)
   | true=>
     by_cases e1:s1=3
     ·(have fct:=(eq_true e1);(repeat' (first
  |refine gF ?_|refine aE ?_ ?_
  | ((first
   |(refine ay.mk i (aS _) e (aG hx) ?_)
   |((with_reducible show bI _ _ _ _);refine dK ?_))<;>with_reducible refine wK ?_)
  |apply trivial));all_goals clear fct)
      all_goals first
       |rfl
       |exact⟨.refl (aC st),aC st⟩
       |exact⟨.refl (aJ due),aJ due⟩
       |(simp[*];done)
     ·(have fct:=(eq_false e1);(repeat' (first
  |refine gF ?_|refine aE ?_ ?_
  |(((with_reducible show bI _ _ _ _);refine dK ?_)<;>with_reducible refine wK ?_)
  |apply trivial));all_goals clear fct)
      all_goals first
       |rfl
       |exact⟨.refl (aC st),aC st⟩
       |exact⟨.refl (aJ due),aJ due⟩
       |(simp[*];done)
theorem pY {c:aH}{n:Int}{t:br}(h:dc c t.kind=true):lI c n t=[⟨n,t⟩]:=by unfold lI;rw[if_pos h]
theorem tg {c:aH}{n:Int}{t:br}(h:dc c t.kind=false):lI c n t=[]:=by unfold lI;rw[if_neg (by simp[h])]
theorem Bu {cs:List aH}(h:∀c∈cs,c.hooks.length≤100000)(s:StateM)(d:aZ):(cw s d cs).hooks.length≤100000:=by
 unfold cw
 split
 ·cases hg:cs[(eP s d cs.length).toNat]? with
  |none=>show(0:Nat)≤_;omega
  |some c=>exact h c (List.mem_of_getElem? hg)
 ·show(0:Nat)≤_;omega
theorem MC (f:ForM)(hs:bS f.nodes)(st:List StateM)(hst:st.length≤1000)(d:aZ)(hd:iS d)(cs:List aH)(hcs:∀c∈cs,c.hooks.length≤100000):
  ah Tryz.prog 104 [] [cJ f,fc st,gi d,bJ cs] [] (.tup [fc (dS f st d cs),jM (ir f st d cs)]):=by
 have h64:=KK f hs st (by omega) d hd cs
 obtain⟨os',hos'⟩:∃x,dS f st d cs=x:=⟨_,rfl⟩
 obtain⟨od,hod⟩:∃x,ir f st d cs=x:=⟨_,rfl⟩
 rw[hos',hod]
 unfold dS at hos'
 unfold ir at hod
 obtain⟨lv,hlv⟩:∃lv,iY f st d=lv:=⟨_,rfl⟩
 rw[hlv] at h64 hos' hod
 cases lv with
 | false=>
   rw[if_neg (by simp)] at hos' hod
   subst hos'
   subst hod
   obtain⟨l,m⟩:=f
   obtain⟨d1,d2,d3,d4⟩:=d
   refine ah.af (rvs:=[.tmp 8,.tmp 9]) G aa Tryz.func104 rfl Tryz.ntmps104 rfl rfl ?_;with_reducible refine wD ?_
   refine aj.gd (news:=[eJ ⟨l,m⟩ (.own 241 0 st.length) ⟨d1,d2,d3,d4⟩ cs K0,bQ st]) [240,241] [] h64 OS ⟨⟨rfl,rfl,trivial⟩,rfl,⟨rfl,rfl,rfl,rfl,trivial⟩,rfl,trivial⟩ trivial rfl ⟨⟨rfl,rfl⟩,rfl⟩ rfl ⟨⟨rfl,.inr ⟨rfl,rfl,rfl⟩⟩,⟨rfl,.inl ⟨rfl,aC _⟩⟩,trivial⟩ rfl rfl ?_
   with_reducible refine wK ?_
   repeat' (first
  |refine gK ?_|refine aE ?_ ?_
  | apply trivial)
   all_goals first|exact iv rfl rfl rfl rfl|exact .inr (.inr ⟨_,rfl⟩)
 | true =>
   rw[if_pos rfl] at hos' hod
   have hlv':=hlv
   unfold iY at hlv'
   obtain⟨⟨hlen,hr⟩,hrd⟩:(st.length=f.nodes.length∧aV f=true)∧eW d=true:=by simpa using hlv'
   have h42:=LU f hs
   have e42:LI f=my f.nodes f.nodes.length:=by unfold LI;rw[if_pos hr]
   rw[e42] at h42
   have h39:=fun n=>My f hs n
   have hhk:=fun s=>Bu hcs s d
   have h60:=hs.len
   have hos:∀k,k<st.length→(my f.nodes f.nodes.length)[k]? =some (lj f.nodes (k:Int)):=fun k hk=>by
    unfold my;rw[List.getElem?_map,List.getElem?_range (by omega)];rfl
   have hol:=yW f.nodes f.nodes.length
   have hth:∀k,k<st.length→ak f.nodes (k:Int)=true:=fun k hk=>dj (List.getElem?_eq_getElem (by omega))
   have htl:=fun k=>nv f d cs st k
   have htg:∀k,k<st.length→(Dk f d cs st k)[k]? =some (yX st k):=fun k hk=>by rw[qc hk,if_neg (by omega)]
   have hts:=fun k hk=>BK f d cs st (k:=k) hk
   have htm:=fun k hk=>Je f d cs st (k:=k) hk
   have htd:=fun k=>CM f d cs st k
   have htdl:=fun k=>A5 f d cs st k
   have ht0:=Jv f d cs st
   have hd0:M9 f d cs st 0=[]:=rfl
   have hSd:∀k s,nW f d cs k s=if si f d cs k s=true then⟨s.phase,s.df,lj f.nodes k,sB f.nodes k⟩ else s:=fun k s=>rfl
   have hDd:∀k s,yL f d cs k s=if si f d cs k s=true then
    (if s.owner=lj f.nodes k then[] else lI (cw s d cs) k (kR s.owner (lj f.nodes k)))++ (if s.barred=sB f.nodes k then[] else lI (cw s d cs) k (dw (sB f.nodes k))) else[]:=fun k s=>rfl
   have h65:=fun(st':List StateM) (due:List bB) (k:Nat) (s:StateM) (h1:st'.length=st.length) (h2:st'[k]? =some s) (h3:ak f.nodes (k:Int)=true)=>IQ f st' st.length h1 d cs due k s h2 h3
   generalize Dk f d cs st=ts at hos' htl htg hts htm ht0
   generalize M9 f d cs st=td at hod htd htdl hd0
   subst hos'
   subst hod
   generalize my f.nodes f.nodes.length=ol at h42 hos hol
   have hom:(ol.map bF).length=ol.length:=List.length_map ..
   obtain⟨l,m⟩:=f
   obtain⟨d1,d2,d3,d4⟩:=d
   simp only at hlen h60 hol
   refine ah.af (rvs:=[.tmp 8,.tmp 9]) G aa Tryz.func104 rfl Tryz.ntmps104 rfl rfl ?_;with_reducible refine wD ?_
   refine aj.gd (news:=[eJ ⟨l,m⟩ (.own 241 0 st.length) ⟨d1,d2,d3,d4⟩ cs K0,bQ st]) [240,241] [] h64 OS ⟨⟨rfl,rfl,trivial⟩,rfl,⟨rfl,rfl,rfl,rfl,trivial⟩,rfl,trivial⟩ trivial rfl ⟨⟨rfl,rfl⟩,rfl⟩ rfl ⟨⟨rfl,.inr ⟨rfl,rfl,rfl⟩⟩,⟨rfl,.inl ⟨rfl,aC _⟩⟩,trivial⟩ rfl rfl ?_
   with_reducible refine wK ?_
   repeat' (first
  |refine gK ?_|refine aE ?_ ?_
  |(((with_reducible refine kQ 169 ?_);refine cV h42 QZ ?_)<;>with_reducible refine wK ?_)
  | apply trivial)
   refine aU.lg 10 240 248 11 0 8 (J9 ⟨l,m⟩ (.own 241 0 st.length) ⟨d1,d2,d3,d4⟩ cs K0) (J9 ⟨l,m⟩ (.own 241 0 st.length) ⟨d1,d2,d3,d4⟩ cs (.own 248 0 0)) rfl rfl rfl rfl rfl rfl ?_
   refine aU.use G aa (fun(k:Nat)=>[(4,.ptr 40 0 0),(10,.ptr 240 0 0),(34,bY ol),(35,aq ol.length),(36,aq k)])
    (fun k=>[(40,.live 2 [cJ ⟨l,m⟩] false),(240,eJ ⟨l,m⟩ (.own 241 0 st.length) ⟨d1,d2,d3,d4⟩ cs (.own 248 0 (td k).length)),(241,bQ (ts k)),(248,dn (td k))])
    (fun k=>k≤st.length) (fun k=>st.length-k) 0 (Nat.zero_le _) ?_ ?_
   ·rw[ht0,hd0]
    (refine fK ?_;(with_reducible repeat' (first|exact trivial|(show _∧_;refine aK ?_ ?_)));(all_goals try rfl))
    all_goals first
     |(show(ol.length:Int)=_;rw[hom])
     |exact⟨⟨rfl,rfl,⟨rfl,rfl⟩,rfl,rfl,rfl,rfl,rfl,⟨rfl,rfl⟩,trivial⟩,trivial⟩
     |exact⟨.refl (aC st),aC st⟩
     |(show K3 _ [] [];exact⟨.refl rfl,rfl⟩)
   intro k hk
   have hdl:=htdl k
   have htk:=htl k
   with_reducible refine wK ?_
   refine bq.mk (fun h1=>?_) (fun h1=>?_)<;>(try simp only[aF] at h1)<;>with_reducible refine wK ?_
   ·have hk':k<st.length:=by simp only[decide_eq_true_eq] at h1;omega
    have hok:=hos k hk'
    have hgk:=htg k hk'
    have h65:=h65 (ts k) (td k) k (yX st k) htk hgk (hth k hk')
    have h39:=h39 (k:Int)
    rw[hth k hk',hr,Bool.true_and,Bool.true_and] at h39
    have hts:=hts k hk'
    have htm:=htm k hk'
    have htd:=htd k
    have hhk:=hhk (yX st k)
    have hSd:=hSd k (yX st k)
    have hDd:=hDd k (yX st k)
    have htl1:=htl (k+1)
    clear hos htl htg htdl h64 h42 hth
    generalize yX st k=s at*
    obtain⟨dy,hdy⟩:∃dy,si ⟨l,m⟩ ⟨d1,d2,d3,d4⟩ cs (k:Int) s=dy:=⟨_,rfl⟩
    rw[hdy] at h65 hSd hDd
    generalize hcv:cw s ⟨d1,d2,d3,d4⟩ cs=cv at*
    generalize lj l (k:Int)=o at*
    generalize sB l (k:Int)=b at*
    generalize ts k=X at*
    generalize td k=D at*
    obtain⟨s1,s2,s3,s4⟩:=s
    obtain⟨c1,c2,c3,c4,c5⟩:=cv
    refine ay.mk k (aq o) rfl (fZ hok) ?_;with_reducible refine wK ?_
    refine aj.gd (news:=[eJ ⟨l,m⟩ (.own 241 0 st.length) ⟨d1,d2,d3,d4⟩ cs (.own 248 0 D.length),bQ X,dn D]) [240,241,248] [] h65 Rk ⟨⟨rfl,rfl⟩,rfl,trivial⟩ (iR rfl rfl rfl) rfl ⟨⟨rfl,rfl⟩,rfl⟩ rfl mz rfl rfl ?_
    with_reducible refine wK ?_
    cases dy with
    | false=>
      rw[if_neg (by simp)] at hSd hDd
      rw[hSd] at htm
      rw[hDd,List.append_nil] at htd
      repeat' (first
  |refine gK ?_|refine aE ?_ ?_
  | apply trivial)
      refine aL.mk (k+1) (by omega) (by omega) ?_
      rw[htd,htm rfl]
      (refine fK ?_;(with_reducible repeat' (first|exact trivial|(show _∧_;refine aK ?_ ?_)));(all_goals try rfl))
      all_goals first
       |exact⟨.refl (aC _),aC _⟩
       |exact⟨.refl (aJ _),aJ _⟩
       |(simp;done)
    | true=>
      rw[if_pos rfl] at hSd hDd
      simp only at hSd hDd
      rw[hSd] at hts htm
      rw[hDd] at htd
      have hXk:X[k]? =some ⟨s1,s2,s3,s4⟩:=hgk
      have h66y:∀ (Z:List StateM) (E:List bB) (t:br),Z.length=st.length→E.length≤1000→dc ⟨c1,c2,c3,c4,c5⟩ t.kind=true→
        ah Tryz.prog 171 [eJ ⟨l,m⟩ (.own 1 0 st.length) ⟨d1,d2,d3,d4⟩ cs (.own 2 0 E.length),bQ Z,dn E] [.ptr 0 0 0,cN ⟨c1,c2,c3,c4,c5⟩,aq (k:Int),iD t]
         [eJ ⟨l,m⟩ (.own 1 0 st.length) ⟨d1,d2,d3,d4⟩ cs (.own 3 0 (E.length+1)),bQ Z,.dead,dn (E++ [⟨(k:Int),t⟩])] (.tup []):=fun Z E t hz he hh=>by
       have:=I5 ⟨l,m⟩ Z ⟨d1,d2,d3,d4⟩ cs E (by omega) ⟨c1,c2,c3,c4,c5⟩ hhk (k:Int) t hh
       rwa [hz] at this
      have h66n:∀ (Z:List StateM) (E:List bB) (t:br),Z.length=st.length→dc ⟨c1,c2,c3,c4,c5⟩ t.kind=false→
        ah Tryz.prog 171 [eJ ⟨l,m⟩ (.own 1 0 st.length) ⟨d1,d2,d3,d4⟩ cs (.own 2 0 E.length),bQ Z,dn E] [.ptr 0 0 0,cN ⟨c1,c2,c3,c4,c5⟩,aq (k:Int),iD t]
         [eJ ⟨l,m⟩ (.own 1 0 st.length) ⟨d1,d2,d3,d4⟩ cs (.own 2 0 E.length),bQ Z,dn E] (.tup []):=fun Z E t hz hh=>by
       have:=Mm ⟨l,m⟩ Z ⟨d1,d2,d3,d4⟩ cs E ⟨c1,c2,c3,c4,c5⟩ hhk (k:Int) t hh
       rwa [hz] at this
      have hDl:D.length≤500:=by omega
      clear h65 hSd hDd hhk
      by_cases e1:s3=o
      ·obtain rfl:=e1.symm
       rw[if_pos rfl,List.nil_append] at htd
       by_cases e2:s4=b
       ·obtain rfl:=e2.symm
        rw[if_pos rfl,List.append_nil] at htd
        repeat' (first
  |refine gK ?_|refine aE ?_ ?_
  | ((first
   |((with_reducible show nZ _ _ _ _ _);refine nZ.mk k rfl (by omega) ?_)
   |((with_reducible show cB _ _ _ _ _);refine cB.mk (aX ⟨s1,s2,o,b⟩) (by rw[Nat.zero_add];exact aM hXk) ?_)
   |((with_reducible refine kQ 172 ?_);refine cL h39 HM ?_))<;>with_reducible refine wK ?_)
  |apply  trivial)
        refine aL.mk (k+1) (by omega) (by omega) ?_
        rw[htd,htm rfl]
        (refine fK ?_;(with_reducible repeat' (first|exact trivial|(show _∧_;refine aK ?_ ?_)));(all_goals try rfl))
        all_goals first
         |exact⟨.refl (aC _),aC _⟩
         |exact⟨.refl (aJ _),aJ _⟩
         |(simp;done)
       ·rw[if_neg e2] at htd
        have e2':(b==s4)=false:=by cases b<;>cases s4<;>simp at e2 ⊢
        (have fct:=e2';(repeat' (first
  |refine gF ?_|refine aE ?_ ?_
  | ((first
   |((with_reducible show nZ _ _ _ _ _);refine nZ.mk k rfl (by omega) ?_)
   |((with_reducible show cB _ _ _ _ _);refine cB.mk (aX ⟨s1,s2,o,s4⟩) (by rw[Nat.zero_add];exact aM hXk) ?_)
   |((with_reducible refine kQ 172 ?_);refine cL h39 HM ?_))<;>with_reducible refine wK ?_)
  |apply  trivial));all_goals clear fct)
        have htk2:(X.set k ⟨s1,s2,o,b⟩).length=st.length:=by simp[htk]
        rw[AM X k ⟨s1,s2,o,b⟩]
        cases hw2:dc ⟨c1,c2,c3,c4,c5⟩ 6 with
        | true=>
          rw[pY (show dc _ (dw b).kind=true from hw2)] at htd
          have hFl:(D++ ([⟨(k:Int),dw b⟩]:List bB)).length=D.length+1:=by simp
          refine aj.gd (news:=[eJ ⟨l,m⟩ (.own 241 0 st.length) ⟨d1,d2,d3,d4⟩ cs (.own 911 0 (D.length+1)),bQ (X.set k ⟨s1,s2,o,b⟩),.dead,dn (D++ [⟨(k:Int),dw b⟩])]) [240,241,248,911] [] (h66y (X.set k ⟨s1,s2,o,b⟩) D (dw b) (by simp;omega) (by omega) hw2) Cc ⟨⟨rfl,rfl⟩,⟨rfl,rfl,rfl,rfl,rfl,trivial⟩,rfl,⟨rfl,rfl,rfl,rfl,rfl,rfl,rfl,rfl,rfl,rfl,trivial⟩,trivial⟩ (iR rfl rfl rfl) rfl ⟨⟨rfl,rfl⟩,rfl⟩ rfl qk rfl rfl ?_
          with_reducible refine wK ?_
          repeat' (first
  |refine gK ?_|refine aE ?_ ?_
  |apply  trivial)
          refine aL.mk (k+1) (by omega) (by omega) ?_
          rw[htd,hts]
          (refine fK ?_;(with_reducible repeat' (first|exact trivial|(show _∧_;refine aK ?_ ?_)));(all_goals try rfl))
          all_goals first
           |exact⟨.refl (aC _),aC _⟩
           |exact⟨.refl (aJ _),aJ _⟩
           |(simp;done)
        | false=>
          rw[tg (show dc _ (dw b).kind=false from hw2),List.append_nil] at htd
          refine aj.gd (news:=[eJ ⟨l,m⟩ (.own 241 0 st.length) ⟨d1,d2,d3,d4⟩ cs (.own 248 0 D.length),bQ (X.set k ⟨s1,s2,o,b⟩),dn D]) [240,241,248] [] (h66n (X.set k ⟨s1,s2,o,b⟩) D (dw b) (by simp;omega) hw2) Cc ⟨⟨rfl,rfl⟩,⟨rfl,rfl,rfl,rfl,rfl,trivial⟩,rfl,⟨rfl,rfl,rfl,rfl,rfl,rfl,rfl,rfl,rfl,rfl,trivial⟩,trivial⟩ (iR rfl rfl rfl) rfl ⟨⟨rfl,rfl⟩,rfl⟩ rfl mz rfl rfl ?_
          with_reducible refine wK ?_
          repeat' (first
  |refine gK ?_|refine aE ?_ ?_
  |apply  trivial)
          refine aL.mk (k+1) (by omega) (by omega) ?_
          rw[htd,hts]
          (refine fK ?_;(with_reducible repeat' (first|exact trivial|(show _∧_;refine aK ?_ ?_)));(all_goals try rfl))
          all_goals first
           |exact⟨.refl (aC _),aC _⟩
           |exact⟨.refl (aJ _),aJ _⟩
           |(simp;done)
      ·rw[if_neg e1] at htd
       have hYk:(X.set k ⟨s1,s2,o,s4⟩)[k]? =some ⟨s1,s2,o,s4⟩:=by rw[List.getElem?_set_self (by omega)]
       have hYl:(X.set k ⟨s1,s2,o,s4⟩).length=st.length:=by simp[htk]
       have hset:(X.set k ⟨s1,s2,o,s4⟩).set k ⟨s1,s2,o,b⟩=X.set k ⟨s1,s2,o,b⟩:=List.set_set ..
       rw[←hset] at hts
       (have fct:=(eq_false e1);(repeat' (first
  |refine gF ?_|refine aE ?_ ?_
  | ((first
   |((with_reducible show nZ _ _ _ _ _);refine nZ.mk k rfl (by omega) ?_)
   |((with_reducible show cB _ _ _ _ _);refine cB.mk (aX ⟨s1,s2,s3,s4⟩) (by rw[Nat.zero_add];exact aM hXk) ?_))<;>with_reducible refine wK ?_)
  |apply  trivial));all_goals clear fct)
       rw[AM X k ⟨s1,s2,o,s4⟩]
       generalize X.set k ⟨s1,s2,o,s4⟩=Y at*
       cases hw:dc ⟨c1,c2,c3,c4,c5⟩ 5 with
       | true=>
         rw[pY (show dc _ (kR s3 o).kind=true from hw),←List.append_assoc] at htd
         have hEl:(D++ ([⟨(k:Int),kR s3 o⟩]:List bB)).length=D.length+1:=by simp
         refine aj.gd (news:=[eJ ⟨l,m⟩ (.own 241 0 st.length) ⟨d1,d2,d3,d4⟩ cs (.own 721 0 (D.length+1)),bQ Y,.dead,dn (D++ [⟨(k:Int),kR s3 o⟩])]) [240,241,248,721] [] (h66y Y D (kR s3 o) hYl (by omega) hw) Cc ⟨⟨rfl,rfl⟩,⟨rfl,rfl,rfl,rfl,rfl,trivial⟩,rfl,⟨rfl,rfl,rfl,rfl,rfl,rfl,rfl,rfl,rfl,rfl,trivial⟩,trivial⟩ (iR rfl rfl rfl) rfl ⟨⟨rfl,rfl⟩,rfl⟩ rfl qk rfl rfl ?_
         rw[←hEl]
         generalize D++ ([⟨(k:Int),kR s3 o⟩]:List bB)=E at*
         have hEl':E.length≤501:=by omega
         with_reducible refine wK ?_
         by_cases e2:s4=b
         ·obtain rfl:=e2.symm
          rw[if_pos rfl,List.append_nil] at htd
          have hYs:Y.set k ⟨s1,s2,o,b⟩=Y:=by
           apply List.ext_getElem?
           intro n
           rw[List.getElem?_set]
           by_cases e:k=n
           ·subst e;rw[if_pos rfl,if_pos (by omega),hYk]
           ·rw[if_neg e]
          rw[hYs] at hts
          repeat' (first
  |refine gK ?_|refine aE ?_ ?_
  | ((first
   |((with_reducible show nZ _ _ _ _ _);refine nZ.mk k rfl (by omega) ?_)
   |((with_reducible show cB _ _ _ _ _);refine cB.mk (aX ⟨s1,s2,o,b⟩) (by rw[Nat.zero_add];exact aM hYk) ?_)
   |((with_reducible refine kQ 172 ?_);refine cL h39 HM ?_))<;>with_reducible refine wK ?_)
  |apply  trivial)
          refine aL.mk (k+1) (by omega) (by omega) ?_
          rw[htd,hts]
          (refine fK ?_;(with_reducible repeat' (first|exact trivial|(show _∧_;refine aK ?_ ?_)));(all_goals try rfl))
          all_goals first
           |exact⟨.refl (aC _),aC _⟩
           |exact⟨.refl (aJ _),aJ _⟩
           |(simp;done)
         ·rw[if_neg e2] at htd
          have e2':(b==s4)=false:=by cases b<;>cases s4<;>simp at e2 ⊢
          (have fct:=e2';(repeat' (first
  |refine gF ?_|refine aE ?_ ?_
  | ((first
   |((with_reducible show nZ _ _ _ _ _);refine nZ.mk k rfl (by omega) ?_)
   |((with_reducible show cB _ _ _ _ _);refine cB.mk (aX ⟨s1,s2,o,s4⟩) (by rw[Nat.zero_add];exact aM hYk) ?_)
   |((with_reducible refine kQ 172 ?_);refine cL h39 HM ?_))<;>with_reducible refine wK ?_)
  |apply  trivial));all_goals clear fct)
          rw[AM Y k ⟨s1,s2,o,b⟩]
          cases hw2:dc ⟨c1,c2,c3,c4,c5⟩ 6 with
          | true=>
            rw[pY (show dc _ (dw b).kind=true from hw2)] at htd
            have hFl:(E++ ([⟨(k:Int),dw b⟩]:List bB)).length=E.length+1:=by simp
            refine aj.gd (news:=[eJ ⟨l,m⟩ (.own 241 0 st.length) ⟨d1,d2,d3,d4⟩ cs (.own 911 0 (E.length+1)),bQ (Y.set k ⟨s1,s2,o,b⟩),.dead,dn (E++ [⟨(k:Int),dw b⟩])]) [240,241,721,911] [] (h66y (Y.set k ⟨s1,s2,o,b⟩) E (dw b) (by simp;omega) (by omega) hw2) Cc ⟨⟨rfl,rfl⟩,⟨rfl,rfl,rfl,rfl,rfl,trivial⟩,rfl,⟨rfl,rfl,rfl,rfl,rfl,rfl,rfl,rfl,rfl,rfl,trivial⟩,trivial⟩ (iR rfl rfl rfl) rfl ⟨⟨rfl,rfl⟩,rfl⟩ rfl qk rfl rfl ?_
            with_reducible refine wK ?_
            repeat' (first
  |refine gK ?_|refine aE ?_ ?_
  |apply  trivial)
            refine aL.mk (k+1) (by omega) (by omega) ?_
            rw[htd,hts]
            (refine fK ?_;(with_reducible repeat' (first|exact trivial|(show _∧_;refine aK ?_ ?_)));(all_goals try rfl))
            all_goals first
             |exact⟨.refl (aC _),aC _⟩
             |exact⟨.refl (aJ _),aJ _⟩
             |(simp;done)
          | false=>
            rw[tg (show dc _ (dw b).kind=false from hw2),List.append_nil] at htd
            refine aj.gd (news:=[eJ ⟨l,m⟩ (.own 241 0 st.length) ⟨d1,d2,d3,d4⟩ cs (.own 721 0 E.length),bQ (Y.set k ⟨s1,s2,o,b⟩),dn E]) [240,241,721] [] (h66n (Y.set k ⟨s1,s2,o,b⟩) E (dw b) (by simp;omega) hw2) Cc ⟨⟨rfl,rfl⟩,⟨rfl,rfl,rfl,rfl,rfl,trivial⟩,rfl,⟨rfl,rfl,rfl,rfl,rfl,rfl,rfl,rfl,rfl,rfl,trivial⟩,trivial⟩ (iR rfl rfl rfl) rfl ⟨⟨rfl,rfl⟩,rfl⟩ rfl mz rfl rfl ?_
            with_reducible refine wK ?_
            repeat' (first
  |refine gK ?_|refine aE ?_ ?_
  |apply  trivial)
            refine aL.mk (k+1) (by omega) (by omega) ?_
            rw[htd,hts]
            (refine fK ?_;(with_reducible repeat' (first|exact trivial|(show _∧_;refine aK ?_ ?_)));(all_goals try rfl))
            all_goals first
             |exact⟨.refl (aC _),aC _⟩
             |exact⟨.refl (aJ _),aJ _⟩
             |(simp;done)
       | false=>
         rw[tg (show dc _ (kR s3 o).kind=false from hw),List.nil_append] at htd
         refine aj.gd (news:=[eJ ⟨l,m⟩ (.own 241 0 st.length) ⟨d1,d2,d3,d4⟩ cs (.own 248 0 D.length),bQ Y,dn D]) [240,241,248] [] (h66n Y D (kR s3 o) hYl hw) Cc ⟨⟨rfl,rfl⟩,⟨rfl,rfl,rfl,rfl,rfl,trivial⟩,rfl,⟨rfl,rfl,rfl,rfl,rfl,rfl,rfl,rfl,rfl,rfl,trivial⟩,trivial⟩ (iR rfl rfl rfl) rfl ⟨⟨rfl,rfl⟩,rfl⟩ rfl mz rfl rfl ?_
         with_reducible refine wK ?_
         by_cases e2:s4=b
         ·obtain rfl:=e2.symm
          rw[if_pos rfl,List.append_nil] at htd
          have hYs:Y.set k ⟨s1,s2,o,b⟩=Y:=by
           apply List.ext_getElem?
           intro n
           rw[List.getElem?_set]
           by_cases e:k=n
           ·subst e;rw[if_pos rfl,if_pos (by omega),hYk]
           ·rw[if_neg e]
          rw[hYs] at hts
          repeat' (first
  |refine gK ?_|refine aE ?_ ?_
  | ((first
   |((with_reducible show nZ _ _ _ _ _);refine nZ.mk k rfl (by omega) ?_)
   |((with_reducible show cB _ _ _ _ _);refine cB.mk (aX ⟨s1,s2,o,b⟩) (by rw[Nat.zero_add];exact aM hYk) ?_)
   |((with_reducible refine kQ 172 ?_);refine cL h39 HM ?_))<;>with_reducible refine wK ?_)
  |apply  trivial)
          refine aL.mk (k+1) (by omega) (by omega) ?_
          rw[htd,hts]
          (refine fK ?_;(with_reducible repeat' (first|exact trivial|(show _∧_;refine aK ?_ ?_)));(all_goals try rfl))
          all_goals first
           |exact⟨.refl (aC _),aC _⟩
           |exact⟨.refl (aJ _),aJ _⟩
           |(simp;done)
         ·rw[if_neg e2] at htd
          have e2':(b==s4)=false:=by cases b<;>cases s4<;>simp at e2 ⊢
          (have fct:=e2';(repeat' (first
  |refine gF ?_|refine aE ?_ ?_
  | ((first
   |((with_reducible show nZ _ _ _ _ _);refine nZ.mk k rfl (by omega) ?_)
   |((with_reducible show cB _ _ _ _ _);refine cB.mk (aX ⟨s1,s2,o,s4⟩) (by rw[Nat.zero_add];exact aM hYk) ?_)
   |((with_reducible refine kQ 172 ?_);refine cL h39 HM ?_))<;>with_reducible refine wK ?_)
  |apply  trivial));all_goals clear fct)
          rw[AM Y k ⟨s1,s2,o,b⟩]
          cases hw2:dc ⟨c1,c2,c3,c4,c5⟩ 6 with
          | true=>
            rw[pY (show dc _ (dw b).kind=true from hw2)] at htd
            have hFl:(D++ ([⟨(k:Int),dw b⟩]:List bB)).length=D.length+1:=by simp
            refine aj.gd (news:=[eJ ⟨l,m⟩ (.own 241 0 st.length) ⟨d1,d2,d3,d4⟩ cs (.own 911 0 (D.length+1)),bQ (Y.set k ⟨s1,s2,o,b⟩),.dead,dn (D++ [⟨(k:Int),dw b⟩])]) [240,241,248,911] [] (h66y (Y.set k ⟨s1,s2,o,b⟩) D (dw b) (by simp;omega) (by omega) hw2) Cc ⟨⟨rfl,rfl⟩,⟨rfl,rfl,rfl,rfl,rfl,trivial⟩,rfl,⟨rfl,rfl,rfl,rfl,rfl,rfl,rfl,rfl,rfl,rfl,trivial⟩,trivial⟩ (iR rfl rfl rfl) rfl ⟨⟨rfl,rfl⟩,rfl⟩ rfl qk rfl rfl ?_
            with_reducible refine wK ?_
            repeat' (first
  |refine gK ?_|refine aE ?_ ?_
  |apply  trivial)
            refine aL.mk (k+1) (by omega) (by omega) ?_
            rw[htd,hts]
            (refine fK ?_;(with_reducible repeat' (first|exact trivial|(show _∧_;refine aK ?_ ?_)));(all_goals try rfl))
            all_goals first
             |exact⟨.refl (aC _),aC _⟩
             |exact⟨.refl (aJ _),aJ _⟩
             |(simp;done)
          | false=>
            rw[tg (show dc _ (dw b).kind=false from hw2),List.append_nil] at htd
            refine aj.gd (news:=[eJ ⟨l,m⟩ (.own 241 0 st.length) ⟨d1,d2,d3,d4⟩ cs (.own 248 0 D.length),bQ (Y.set k ⟨s1,s2,o,b⟩),dn D]) [240,241,248] [] (h66n (Y.set k ⟨s1,s2,o,b⟩) D (dw b) (by simp;omega) hw2) Cc ⟨⟨rfl,rfl⟩,⟨rfl,rfl,rfl,rfl,rfl,trivial⟩,rfl,⟨rfl,rfl,rfl,rfl,rfl,rfl,rfl,rfl,rfl,rfl,trivial⟩,trivial⟩ (iR rfl rfl rfl) rfl ⟨⟨rfl,rfl⟩,rfl⟩ rfl mz rfl rfl ?_
            with_reducible refine wK ?_
            repeat' (first
  |refine gK ?_|refine aE ?_ ?_
  | apply trivial)
            refine aL.mk (k+1) (by omega) (by omega) ?_
            rw[htd,hts]
            (refine fK ?_;(with_reducible repeat' (first|exact trivial|(show _∧_;refine aK ?_ ?_)));(all_goals try rfl))
            all_goals first
             |exact⟨.refl (aC _),aC _⟩
             |exact⟨.refl (aJ _),aJ _⟩
             |(simp;done)
   ·have hjl:k=st.length:=by simp only[decide_eq_false_iff_not] at h1;omega
    subst hjl
    repeat' (first
  |refine gK ?_|refine aE ?_ ?_
  |(((with_reducible show bI _ _ _ _);refine dK ?_)<;>with_reducible refine wK ?_)
  | apply trivial)
    all_goals first|exact iv rfl rfl rfl htk.symm|exact jl rfl rfl rfl rfl
end Go.Proofs.Heir
namespace Go.Proofs.Heir
open Go Go.Am Go.RowKit Go.Lib
set_option maxRecDepth 100000
set_option maxHeartbeats 8000000
set_option maxHeartbeats 8000000
def eM (x:br):AV:=iD x
@[reducible] def cF (l : List br) : AV := .sl 10 (l.map eM)
def cI (l:List br):AV:=cF l
@[reducible] def iP (l : List (List br)) : AV := .sl 1 (l.map cI)
def gg (l:List Int):AV:=bY l
@[reducible] def nC (l : List (List Int)) : AV := .sl 1 (l.map gg)
structure bK where
 todos:List (List br)
 stack:List (List Int)
 back:List Int
 busy:Bool
structure gw where
 kind:Int
 ticket:Int
 df:Int
 deriving DecidableEq
structure aY where
 df:Int
 node:Int
 deriving DecidableEq
structure ai where
 f:ForM
 states:List StateM
 desk:aZ
 line:bK
 tasks:List gw
 builds:List aY
 classes:List aH
@[reducible] def gU (l : bK) : AV := .agg [iP l.todos, nC l.stack, bY l.back, aA l.busy]
@[reducible] def qB (x : gw) : AV := .agg [aq x.kind, aq x.ticket, aq x.df]
def gx (x:gw):AV:=qB x
@[reducible] def oL (l : List gw) : AV := .sl 3 (l.map gx)
@[reducible] def fA (x : aY) : AV := .agg [aq x.df, aq x.node]
def bM (x:aY):AV:=fA x
@[reducible] def gL (l : List aY) : AV := .sl 2 (l.map bM)
@[reducible] def aT (w : ai) : AV := .agg [fk w.f.nodes, aq w.f.most, fc w.states, nY w.desk.defs, oK w.desk.waits, aq w.desk.next, aA w.desk.busy, iP w.line.todos, nC w.line.stack, bY w.line.back, aA w.line.busy, oL w.tasks, gL w.builds, bJ w.classes]
theorem vT {l:List br}{k:Nat}{x:br}(h:l[k]? =some x):(l.map eM)[k]? =some (iD x):=by rw[List.getElem?_map,h];rfl
theorem cz {l:List (List br)}{k:Nat}{x:List br}(h:l[k]? =some x):(l.map cI)[k]? =some (cF x):=by rw[List.getElem?_map,h];rfl
theorem lD {l:List (List Int)}{k:Nat}{x:List Int}(h:l[k]? =some x):(l.map gg)[k]? =some (bY x):=by rw[List.getElem?_map,h];rfl
theorem C6 {l:List gw}{k:Nat}{x:gw}(h:l[k]? =some x):(l.map gx)[k]? =some (qB x):=by rw[List.getElem?_map,h];rfl
theorem ef {l:List aY}{k:Nat}{x:aY}(h:l[k]? =some x):(l.map bM)[k]? =some (fA x):=by rw[List.getElem?_map,h];rfl
theorem dV (l:List br):aN (l.map eM)=true:=cj eM (fun _=>rfl) l
theorem ct (l:List (List br)):aN (l.map cI)=true:=cj cI (fun x=>by simp only[cI,bj,dV]) l
theorem ee (l:List (List Int)):aN (l.map gg)=true:=cj gg (fun x=>by simp only[gg,bj,cj aq (fun _=>rfl) x]) l
theorem dX (l:List gw):aN (l.map gx)=true:=cj gx (fun _=>rfl) l
theorem j9 (l:List aY):aN (l.map bM)=true:=cj bM (fun _=>rfl) l
theorem jz (l:List aH):aN (l.map dM)=true:=cj dM (fun _=>rfl) l
def dG (l:bK)(n:Int):Bool:=decide (0≤n)&&decide (n< (l.todos.length:Int))
def vo (l:bK):Bool:=l.stack.all (fun s=>s.all (dG l))&&l.back.all (dG l)
def lY (l:bK)(n:Int):List br:=(l.todos[n.toNat]?).getD []
def A2 (l:bK):Bool:=((!l.busy&&decide (l.stack.length=0))&&decide (l.back.length=0))&& !(l.todos.any fun t=>decide (0<t.length))
def qP (l:bK):bK:=⟨l.todos++ [[]],l.stack,l.back,l.busy⟩
def kD (l:bK):List Int:=(l.stack[l.stack.length-1]?).getD []
def dz (l:bK)(n:Int)(t:br):bK:=
 if l.stack=[] then⟨l.todos.set n.toNat (lY l n++ [t]),l.stack,l.back++ [n],true⟩
 else⟨l.todos.set n.toNat (lY l n++ [t]),l.stack.set (l.stack.length-1) (kD l++ [n]),l.back,l.busy⟩
def fV (l:bK):Bool:=decide (l.stack=[])&& !l.busy
def jJ (l:bK)(n:Int):bK:=⟨l.todos.set n.toNat [],l.stack,l.back,l.busy⟩
structure kV (B:Nat) (l:bK):Prop where
 todos:l.todos.length≤B
 todo:∀t∈l.todos,t.length≤B
 stack:l.stack.length≤B
 list:∀t∈l.stack,t.length≤B
 back:l.back.length≤B
theorem kV.mono {B C:Nat}{l:bK}(h:kV B l)(hc:B≤C):kV C l:=
 ⟨Nat.le_trans h.1 hc,fun t ht=>Nat.le_trans (h.2 t ht) hc,Nat.le_trans h.3 hc,fun t ht=>Nat.le_trans (h.4 t ht) hc,Nat.le_trans h.5 hc⟩
theorem kG {l:bK}{n:Int}{k:Nat}{t:List br}(hn:n=k)(h:l.todos[k]? =some t):lY l n=t:=by unfold lY;rw[hn,Int.toNat_natCast,h];rfl
theorem wh {l:bK}{n:Int}(h:dG l n=true):∃ (k:Nat) (t:List br),n=k∧k<l.todos.length∧l.todos[k]? =some t∧lY l n=t:=by
 unfold dG at h
 simp only[Bool.and_eq_true,decide_eq_true_eq] at h
 have hk:n.toNat<l.todos.length:=by omega
 exact⟨n.toNat,l.todos[n.toNat],by omega,hk,List.getElem?_eq_getElem hk,by unfold lY;rw[List.getElem?_eq_getElem hk];rfl⟩
theorem mF {α:Type}{l:List α}{k:Nat}{x y:α}(h:y∈l.set k x):y∈l∨y=x:=List.mem_or_eq_of_mem_set h
theorem Jw {B:Nat}{l:bK}(h:kV B l)(n:Int):(lY l n).length≤B:=by
 unfold lY
 cases e:l.todos[n.toNat]? with
 |none=>exact Nat.zero_le _
 |some t=>exact h.todo t (List.mem_of_getElem? e)
theorem Ho {B:Nat}{l:bK}(h:kV B l):(kD l).length≤B:=by
 unfold kD
 cases e:l.stack[l.stack.length-1]? with
 |none=>exact Nat.zero_le _
 |some t=>exact h.list t (List.mem_of_getElem? e)
theorem fQ (l:bK)(n:Int)(t:br):(dz l n t).todos=l.todos.set n.toNat (lY l n++ [t]):=by unfold dz;split<;>rfl
theorem iF (l:bK)(n:Int)(t:br):(dz l n t).stack=l.stack.set (l.stack.length-1) (kD l++ [n]):=by
 unfold dz;split
 ·rename_i h;rw[h];rfl
 ·rfl
theorem rj (l:bK)(n:Int)(t:br):(dz l n t).back=if l.stack=[] then l.back++ [n] else l.back:=by unfold dz;split<;>rfl
theorem xL (l:bK)(n:Int)(t:br):(dz l n t).busy=(decide (l.stack=[])||l.busy):=by
 unfold dz;split
 ·rename_i h;rw[decide_eq_true h];rfl
 ·rename_i h;rw[decide_eq_false h];rfl
theorem JW {B:Nat}{l:bK}(h:kV B l)(n:Int)(t:br):kV (B+1) (dz l n t):=by
 refine⟨?_,?_,?_,?_,?_⟩
 ·rw[fQ,List.length_set];exact Nat.le_succ_of_le h.1
 ·intro x hx
  rw[fQ] at hx
  rcases mF hx with e|e
  ·exact Nat.le_succ_of_le (h.todo x e)
  ·subst e;have:=Jw h n;rw[List.length_append,List.length_singleton];omega
 ·rw[iF,List.length_set];exact Nat.le_succ_of_le h.3
 ·intro x hx
  rw[iF] at hx
  rcases mF hx with e|e
  ·exact Nat.le_succ_of_le (h.list x e)
  ·subst e;have:=Ho h;rw[List.length_append,List.length_singleton];omega
 ·rw[rj]
  have:=h.back
  split
  ·rw[List.length_append,List.length_singleton];omega
  ·omega
def iN (c:aH):Bool:=
 ((((decide (c.watch.length≤12)&& !(c.watch.any fun s=> !(bO s&&decide (ek s=s))))&&decide (c.hooks.length≤12))&& !(c.hooks.any fun h=>decide (h.kind<1)||decide (8<h.kind)||decide (60<h.prog.length)))&&decide (c.peek.length≤60))&&decide (c.make.length≤60)
def dO (w:ai)(n:Int):Bool:=decide (0≤n)&&decide (n< (w.desk.defs.length:Int))
def lq (w:ai)(t:br):Bool:=(decide (1≤t.kind)&&decide (t.kind<9))||(decide (t.kind=9)&&dO w t.df)
def gy (w:ai)(x:au)(s:StateM):Bool:=
 if x.kind=1 then
  (decide (s.owner=-1)||ak w.f.nodes s.owner)&&(if s.phase=2∨s.phase=3 then dO w s.df else(decide (s.phase=0)||decide (s.phase=1)||decide (s.phase=4))&&(decide (s.df=-1)||dO w s.df))
 else decide (s=⟨0,-1,-1,false⟩)
def xR (w:ai)(n:Int):Bool:=gy w (nd w.f.nodes n) (eI w.states n)
def uJ (w:ai)(t:gw):Bool:=if t.kind=1 then decide (t.ticket=0)&&decide (t.df=0) else if t.kind=2 then decide (0≤t.ticket)&&dO w t.df else false
def gS (w:ai)(b:aY):Bool:=dO w b.df&&(decide (b.node=-4)||elemV w.f.nodes b.node)
def k8 (w:ai):Bool:=(decide (w.classes.length≤12)&& !(w.classes.any fun c=> !iN c))&& !(w.desk.defs.any fun d=>decide ((w.classes.length:Int)≤d.cls))
def qH (w:ai)(n:Int):Bool:=xR w n&& !((lY w.line n).any fun t=> !lq w t)
def Ah (w:ai):Bool:=(((((decide (w.states.length=w.f.nodes.length)&&decide (w.line.todos.length=w.f.nodes.length))&&k8 w)&&aV w.f)&&eW w.desk)&&vo w.line)
def E7 (w:ai):Bool:=!(w.tasks.any fun t=> !uJ w t)&& !(w.builds.any fun b=> !gS w b)
def cf (w:ai):Bool:=Ah w&&((List.range w.line.todos.length).all (fun n:Nat=>qH w n)&&E7 w)
def iy (x:au):StateM:=⟨if x.kind=1 then qp x.name x.is else 0,-1,-1,false⟩
def mY:gw:=⟨1,0,0⟩
def Cf (w:ai)(d:bB):ai:={w with line:=dz w.line d.node d.todo,tasks:=if fV w.line=true then w.tasks++ [mY] else w.tasks}
def bN (w:ai)(due:List bB):ai:=due.foldl Cf w
def dW (w:ai)(d:bB):Bool:=ak w.f.nodes d.node&&lq w d.todo
def cW (w:ai)(due:List bB):Bool:=cf w&& !(due.any fun d=> !dW w d)
def bV (w:ai)(due:List bB):ai×Int:=if cW w due=true then(bN w due,0) else(w,1)
def dQ (w:ai)(f:ForM):Bool:=(decide (f.most=w.f.most)&&decide (w.f.nodes.length≤f.nodes.length))&&(List.range w.f.nodes.length).all fun n:Nat=>decide ((nd f.nodes n).kind=(nd w.f.nodes n).kind)
def fg (w:ai)(f:ForM)(k:Nat):ai:={w with states:=w.states++ ((f.nodes.drop w.f.nodes.length).take k).map iy,line:=⟨w.line.todos++List.replicate k [],w.line.stack,w.line.back,w.line.busy⟩}
def bp (w:ai)(f:ForM):ai:={fg w f (f.nodes.length-w.f.nodes.length) with f:=f}
def dR (w:ai)(f:ForM)(ns:List dL):ai:=
 let x:=bp w f
 let y:=bN x (ep f x.states x.desk x.classes ns)
 bN {y with states:=dS f x.states x.desk x.classes} (ir f x.states x.desk x.classes)
def jP (w:ai)(f:ForM):Bool:=(cf w&&aV f)&&dQ w f
def jG (w:ai)(f:ForM)(ns:List dL):ai×Int:=if jP w f=true then(dR w f ns,0) else(w,1)
def Fq (w:ai):Bool:=((A2 w.line&&decide (w.tasks.length=0))&&decide (w.builds.length=0))&& !w.desk.busy
def Er (w:ai):ai:={w with line:=⟨List.replicate w.line.todos.length [],[],[],false⟩,tasks:=[],builds:=[],desk:=⟨w.desk.defs,w.desk.waits,w.desk.next,false⟩}
def oo (l:bK):Bool:=(((decide (l.todos.length≤60)&&decide (l.stack.length≤30))&&decide (l.back.length≤60))&&l.todos.all fun t=>decide (t.length≤60))&&l.stack.all fun t=>decide (t.length≤60)
def rG (cs:List aH):Bool:=cs.all fun c=>c.watch.all fun s=>decide (s.size≤300)
def nj (w:ai):Bool:=((((((pq w.f&&decide (w.states.length≤60))&&o7 w.desk)&&oo w.line)&&decide (w.tasks.length≤60))&&decide (w.builds.length≤60))&&l9 w.classes)&&rG w.classes
end Go.Proofs.Heir
namespace Go.Proofs.Heir
open Go Go.Am Go.RowKit Go.Lib
set_option maxRecDepth 100000
set_option maxHeartbeats 8000000
theorem Ej {f:ForM}{s:StateM}{d:aZ}{cs:List aH}{x:dL}(h:(mq f s d cs x).2=true):
  (s.phase=1∧x.kind=1∧lS f x.node d≠-1∧(mq f s d cs x).1=⟨9,lS f x.node d,⟨#[]⟩,false,false,⟨#[]⟩,⟨#[]⟩,0,0,false⟩)∨
  (s.phase=3∧(mq f s d cs x).1=Fm x∧jr s d cs=true∧dc (cw s d cs) x.kind=true∧(x.kind=4→kM (cw s d cs) x.name=true)∧1≤x.kind∧x.kind≤4):=by
 unfold mq at h ⊢
 by_cases h1:s.phase=1
 ·rw[if_pos h1] at h ⊢
  simp only[Bool.and_eq_true,decide_eq_true_eq,Bool.not_eq_true',decide_eq_false_iff_not] at h
  exact .inl ⟨h1,h.1,h.2,rfl⟩
 rw[if_neg h1] at h ⊢
 by_cases h3:s.phase=3
 ·rw [if_pos h3] at h ⊢
  by_cases k4:x.kind=4
  ·rw[if_pos k4] at h ⊢
   simp only[Bool.and_eq_true] at h
   exact .inr ⟨h3,rfl,h.1.1,h.2,fun _=>h.1.2,by omega,by omega⟩
  ·rw[if_neg k4] at h ⊢
   by_cases k:x.kind=1∨x.kind=2∨x.kind=3
   ·rw[if_pos k] at h ⊢
    simp only[Bool.and_eq_true] at h
    exact .inr ⟨h3,rfl,h.1,h.2,fun e=>absurd e k4,by omega,by omega⟩
   ·rw[if_neg k] at h;cases h
 ·rw[if_neg h3] at h;cases h
theorem Hr {f:ForM}{st:List StateM}{d:aZ}{cs:List aH}(hl:st.length=f.nodes.length)(x:dL):xZ f st d cs x=[]∨∃ (i:Nat) (s:StateM) (y:au),x.node=i∧st[i]? =some s∧f.nodes[i]? =some y∧y.kind=1∧xZ f st d cs x=[⟨x.node,(mq f s d cs x).1⟩]∧(mq f s d cs x).2=true:=by
 unfold xZ
 by_cases he:elemV f.nodes x.node=true
 ·rw[if_pos he]
  obtain⟨i,s,hi,hs,hso⟩:=AY he hl
  rw[hso]
  by_cases ha:(mq f s d cs x).2=true
  ·rw[if_pos ha]
   have hil:=(List.getElem?_eq_some_iff.1 hs).1
   have hy:f.nodes[i]? =some f.nodes[i]:=List.getElem?_eq_getElem (by omega)
   refine .inr ⟨i,s,_,hi,hs,hy,?_,rfl,ha⟩
   unfold elemV at he
   rw[hi,cZ hy] at he
   simp only[Bool.and_eq_true,decide_eq_true_eq] at he
   exact he.2
  ·rw[if_neg ha];exact .inl rfl
 ·rw[if_neg he];exact .inl rfl
end Go.Proofs.Heir
namespace Go.Proofs.Heir
open Go Go.Am Go.RowKit Go.Lib
set_option maxRecDepth 100000
set_option maxHeartbeats 8000000
set_option maxHeartbeats 8000000
theorem wX {f:ForM}{st:List StateM}{d:aZ}{cs:List aH}(h:iY f st d=true){n:Nat}(hn:n<st.length):(dS f st d cs)[n]? =some (nW f d cs (n:Int) (yX st n)):=by
 unfold dS
 rw[if_pos h,qc hn,if_pos hn]
theorem wM {f:ForM}{st:List StateM}{d:aZ}{cs:List aH}:(dS f st d cs).length=st.length:=by
 unfold dS
 split
 ·exact nv ..
 ·rfl
theorem vC (w:ai):bN w []=w:=rfl
theorem eu (w:ai)(d:bB)(r:List bB):bN w (d::r)=bN (Cf w d) r:=rfl
theorem EV (w:ai)(a b:List bB):bN w (a++b)=bN (bN w a) b:=List.foldl_append
theorem Cz {w:ai}{due:List bB}{k:Nat}{x:bB}(h:due[k]? =some x):bN w (due.take (k+1))=Cf (bN w (due.take k)) x:=by rw[ik h,EV];rfl
theorem nT (due:List bB):∀w,(bN w due).f=w.f:=by induction due with
 |nil=>intro w;rfl
 |cons d r ih=>intro w;rw[eu,ih];rfl
theorem gI (due:List bB):∀w,(bN w due).states=w.states:=by induction due with
 |nil=>intro w;rfl
 |cons d r ih=>intro w;rw[eu,ih];rfl
theorem gH (due:List bB):∀w,(bN w due).desk=w.desk:=by induction due with
 |nil=>intro w;rfl
 |cons d r ih=>intro w;rw[eu,ih];rfl
theorem gE (due:List bB):∀w,(bN w due).builds=w.builds:=by induction due with
 |nil=>intro w;rfl
 |cons d r ih=>intro w;rw[eu,ih];rfl
theorem dF (due:List bB):∀w,(bN w due).classes=w.classes:=by induction due with
 |nil=>intro w;rfl
 |cons d r ih=>intro w;rw[eu,ih];rfl
theorem Ks (due:List bB):∀w,(bN w due).line.todos.length=w.line.todos.length:=by induction due with
 |nil=>intro w;rfl
 |cons d r ih=>intro w;rw[eu,ih];show(dz w.line d.node d.todo).todos.length=_;rw[fQ,List.length_set]
theorem Io (due:List bB):∀w,(bN w due).line.stack.length=w.line.stack.length:=by induction due with
 |nil=>intro w;rfl
 |cons d r ih=>intro w;rw[eu,ih];show(dz w.line d.node d.todo).stack.length=_;rw[iF,List.length_set]
theorem ko {l:bK}{n:Int}{t:br}:(dz l n t).stack=[]↔l.stack=[]:=by rw[iF,←List.length_eq_zero_iff,List.length_set,List.length_eq_zero_iff]
theorem xu (l:bK)(n:Int)(t:br):fV (dz l n t)=false:=by
 unfold fV
 rw[xL]
 by_cases h:l.stack=[]
 ·rw[decide_eq_true h];simp
 ·rw[decide_eq_false (fun e=>h (ko.1 e))];rfl
theorem qb (due:List bB):∀w,(bN w due).tasks=w.tasks++ (if due≠ []∧fV w.line=true then[mY] else[]):=by
 induction due with
 |nil=>intro w;rw[if_neg (fun h=>h.1 rfl),List.append_nil];rfl
 | cons d r ih=>
  intro w
  rw[eu,ih]
  rw[if_neg (fun h=>by have:=h.2;rw[show(Cf w d).line=dz w.line d.node d.todo from rfl,xu] at this;cases this),List.append_nil]
  show(if fV w.line=true then w.tasks++ [mY] else w.tasks)=_
  by_cases h:fV w.line=true
  ·rw[if_pos h,if_pos ⟨List.cons_ne_nil _ _,h⟩]
  ·rw[if_neg h,if_neg (fun e=>h e.2),List.append_nil]
theorem IK (due:List bB):∀w,due≠ []→fV (bN w due).line=false:=by
 induction due with
 |nil=>intro w h;exact absurd rfl h
 | cons d r ih=>
  intro w _
  rw[eu]
  by_cases h:r=[]
  ·subst h;exact xu ..
  ·exact ih _ h
theorem H9 (due:List bB):∀w,(bN w due).line.back=if w.line.stack=[] then w.line.back++due.map bB.node else w.line.back:=by
 induction due with
 |nil=>intro w;simp[vC]
 | cons d r ih=>
  intro w
  rw[eu,ih]
  show(if(dz w.line d.node d.todo).stack=[] then(dz w.line d.node d.todo).back++_ else(dz w.line d.node d.todo).back)=_
  rw[rj]
  by_cases h:w.line.stack=[]
  ·rw[if_pos (ko.2 h),if_pos h,if_pos h];simp
  ·rw[if_neg (fun e=>h (ko.1 e)),if_neg h,if_neg h]
theorem IY (due:List bB):∀w,(bN w due).line.busy=if w.line.stack=[] then w.line.busy||decide (due≠ []) else w.line.busy:=by
 induction due with
 |nil=>intro w;simp[vC]
 | cons d r ih=>
  intro w
  rw[eu,ih]
  show(if(dz w.line d.node d.todo).stack=[] then(dz w.line d.node d.todo).busy||_ else(dz w.line d.node d.todo).busy)=_
  rw[xL]
  by_cases h:w.line.stack=[]
  ·rw[if_pos (ko.2 h),if_pos h];simp[h]
  ·rw[if_neg (fun e=>h (ko.1 e)),if_neg h];simp[h]
theorem Ge {l:bK}(h:l.stack≠ [])(n:Int)(t:br):kD (dz l n t)=kD l++ [n]:=by
 have hp:0<l.stack.length:=List.length_pos_iff.2 h
 have e:(dz l n t).stack[(dz l n t).stack.length-1]? =some (kD l++ [n]):=by
  rw[iF,List.length_set,List.getElem?_set,if_pos rfl,if_pos (by omega)]
 unfold kD at e ⊢;rw[e];rfl
theorem Mr (due:List bB):∀w,w.line.stack≠ []→kD (bN w due).line=kD w.line++due.map bB.node:=by
 induction due with
 |nil=>intro w _;simp[vC]
 | cons d r ih=>
  intro w h
  rw[eu,ih _ (fun e=>h (ko.1 e))]
  show kD (dz w.line d.node d.todo)++_=_
  rw[Ge h];simp
theorem Ko {l:bK}{m n:Int}(t:br)(hm:dG l m=true)(hn:dG l n=true):lY (dz l m t) n=lY l n++if m=n then[t] else[]:=by
 obtain⟨i,a,rfl,hi,ha,_⟩:=wh hm
 obtain⟨j,b,rfl,hj,hb,_⟩:=wh hn
 unfold lY
 rw[fQ,List.getElem?_set]
 simp only[Int.toNat_natCast]
 by_cases e:i=j
 ·subst e;rw[if_pos rfl,if_pos hi,if_pos rfl];rfl
 ·rw[if_neg e,if_neg (by omega),List.append_nil]
theorem Ib {w:ai}{d:bB}{n:Int}:dG (Cf w d).line n=dG w.line n:=by
 unfold dG
 show(_&&decide (n< ((dz w.line d.node d.todo).todos.length:Int)))=_
 rw[fQ,List.length_set]
theorem I0 (due:List bB):∀ (w:ai) (n:Int),(∀d∈due,dG w.line d.node=true)→dG w.line n=true→lY (bN w due).line n=lY w.line n++ (due.filter fun d=>decide (d.node=n)).map bB.todo:=by
 induction due with
 |nil=>intro w n _ _;simp[vC]
 | cons d r ih=>
  intro w n hd hn
  rw[eu,ih _ n (fun e he=>by rw[Ib];exact hd e (List.mem_cons_of_mem _ he)) (by rw[Ib];exact hn)]
  show lY (dz w.line d.node d.todo) n++_=_
  rw[Ko _ (hd d List.mem_cons_self) hn,List.filter_cons]
  by_cases e:d.node=n
  ·rw[if_pos e,if_pos (decide_eq_true e)];simp
  ·rw[if_neg e,if_neg (by simp[e])];simp
theorem xT (due:List bB):∀ (w:ai) (B:Nat),kV B w.line→kV (B+due.length) (bN w due).line:=by
 induction due with
 |nil=>intro w B h;exact h
 | cons d r ih=>
  intro w B h
  rw[eu]
  have:=ih (Cf w d) (B+1) (JW h _ _)
  rw[List.length_cons]
  exact this.mono (by omega)
structure aP (w:ai):Prop where
 sl:w.states.length=w.f.nodes.length
 tl:w.line.todos.length=w.f.nodes.length
 cl:k8 w=true
 rf:aV w.f=true
 rd:eW w.desk=true
 ln:vo w.line=true
 st:∀ (n:Nat) (x:au) (s:StateM),w.f.nodes[n]? =some x→w.states[n]? =some s→gy w x s=true
 td:∀l∈w.line.todos,∀t∈l,lq w t=true
 ta:∀t∈w.tasks,uJ w t=true
 bu:∀b∈w.builds,gS w b=true
theorem bX {st:List StateM}{n:Nat}{s:StateM}(h:st[n]? =some s):eI st (n:Int)=s:=by unfold eI;rw[Int.toNat_natCast,h];rfl
theorem sE {α:Type}{p:α→Bool}{l:List α}:(!(l.any fun t=> !p t))=true↔ ∀t∈l,p t=true:=by
 rw[Bool.not_eq_true',List.any_eq_false]
 constructor
 ·intro h t ht
  have:=h t ht
  simpa using this
 ·intro h t ht
  rw[h t ht];simp
theorem bH {w:ai}:cf w=true↔aP w:=by
 unfold cf Ah E7
 rw[Bool.and_eq_true,Bool.and_eq_true,Bool.and_eq_true,Bool.and_eq_true,Bool.and_eq_true,Bool.and_eq_true,Bool.and_eq_true,Bool.and_eq_true,sE,sE,decide_eq_true_eq,decide_eq_true_eq,List.all_eq_true]
 constructor
 ·rintro⟨⟨⟨⟨⟨⟨h1,h2⟩,h3⟩,h4⟩,h5⟩,h6⟩,h7,h8,h9⟩
  have key:∀n:Nat,n<w.f.nodes.length→xR w n=true∧∀t∈lY w.line n,lq w t=true:=fun n hn=>by
   have h:=h7 n (List.mem_range.2 (by omega))
   unfold qH at h
   rw[Bool.and_eq_true,sE] at h
   exact h
  refine⟨h1,h2,h3,h4,h5,h6,?_,?_,h8,h9⟩
  ·intro n x s hx hs
   have hn:=(List.getElem?_eq_some_iff.1 hx).1
   have h:=(key n hn).1
   unfold xR at h
   rwa [cZ hx,bX hs] at h
  ·intro l hl t ht
   obtain⟨n,hn⟩:=List.getElem?_of_mem hl
   have hn':=(List.getElem?_eq_some_iff.1 hn).1
   refine(key n (by omega)).2 t ?_
   rw[kG rfl hn];exact ht
 ·rintro⟨h1,h2,h3,h4,h5,h6,h7,h8,h9,h10⟩
  refine⟨⟨⟨⟨⟨⟨h1,h2⟩,h3⟩,h4⟩,h5⟩,h6⟩,?_,h9,h10⟩
  intro n hn
  rw[List.mem_range] at hn
  unfold qH
  rw[Bool.and_eq_true,sE]
  have hx:w.f.nodes[n]? =some w.f.nodes[n]:=List.getElem?_eq_getElem (by omega)
  have hs:w.states[n]? =some w.states[n]:=List.getElem?_eq_getElem (by omega)
  have ht:w.line.todos[n]? =some w.line.todos[n]:=List.getElem?_eq_getElem (by omega)
  refine⟨?_,?_⟩
  ·unfold xR;rw[cZ hx,bX hs];exact h7 n _ _ hx hs
  ·rw[kG rfl ht];exact h8 _ (List.getElem_mem _)
theorem vE {w:ai}(R:aP w)(n:Int):dG w.line n=ak w.f.nodes n:=by unfold dG ak;rw[R.tl]
theorem HD {l:bK}(h:l.stack≠ []):kD l∈l.stack:=by
 have hp:0<l.stack.length:=List.length_pos_iff.2 h
 unfold kD
 rw[List.getElem?_eq_getElem (by omega)]
 exact List.getElem_mem _
theorem LL {l:bK}{n:Int}{t:br}(h:vo l=true)(hn:dG l n=true):vo (dz l n t)=true:=by
 unfold vo at h ⊢
 rw[Bool.and_eq_true,List.all_eq_true,List.all_eq_true] at h ⊢
 have hi:∀m,dG (dz l n t) m=dG l m:=fun m=>by unfold dG;rw[fQ,List.length_set]
 refine⟨fun s hs=>?_,fun m hm=>?_⟩
 ·rw[List.all_eq_true]
  intro m hm
  rw[hi]
  rw[iF] at hs
  by_cases hz:l.stack=[]
  ·rw[hz] at hs;cases hs
  rcases mF hs with e|e
  ·exact(List.all_eq_true.1 (h.1 s e)) m hm
  ·subst e
   rcases List.mem_append.1 hm with e|e
   ·exact(List.all_eq_true.1 (h.1 _ (HD hz))) m e
   ·rw[List.mem_singleton.1 e];exact hn
 ·rw[hi]
  rw[rj] at hm
  split at hm
  ·rcases List.mem_append.1 hm with e|e
   ·exact h.2 m e
   ·rw[List.mem_singleton.1 e];exact hn
  ·exact h.2 m hm
theorem DX {w:ai}{d:bB}(R:aP w)(h:dW w d=true):aP (Cf w d):=by
 unfold dW at h
 rw[Bool.and_eq_true] at h
 have hi:dG w.line d.node=true:=by rw[vE R];exact h.1
 refine⟨R.sl,?_,R.cl,R.rf,R.rd,LL R.ln hi,R.st,?_,?_,R.bu⟩
 ·show(dz w.line d.node d.todo).todos.length=_
  rw[fQ,List.length_set];exact R.tl
 ·intro l hl t ht
  have hl:l∈ (dz w.line d.node d.todo).todos:=hl
  rw[fQ] at hl
  rcases mF hl with e|e
  ·exact R.td l e t ht
  ·subst e
   rcases List.mem_append.1 ht with e|e
   ·obtain⟨k,b,hk,_,hb,e2⟩:=wh hi
    rw[e2] at e
    exact R.td b (List.mem_of_getElem? hb) t e
   ·rw[List.mem_singleton.1 e];exact h.2
 ·intro t ht
  have ht:t∈ (if fV w.line=true then w.tasks++ [mY] else w.tasks):=ht
  split at ht
  ·rcases List.mem_append.1 ht with e|e
   ·exact R.ta t e
   ·rw[List.mem_singleton.1 e];rfl
  ·exact R.ta t ht
theorem HG (w:ai)(d e:bB):dW (Cf w d) e=dW w e:=rfl
theorem jj (due:List bB):∀w,aP w→(∀d∈due,dW w d=true)→aP (bN w due):=by
 induction due with
 |nil=>intro w R _;exact R
 | cons d r ih=>
  intro w R h
  rw[eu]
  exact ih _ (DX R (h d List.mem_cons_self)) (fun e he=>by rw[HG];exact h e (List.mem_cons_of_mem _ he))
theorem wG (w:ai)(due:List bB)(e:bB):dW (bN w due) e=dW w e:=by
 unfold dW lq dO;rw[nT,gH]
theorem dB {w:ai}{due:List bB}:cW w due=true↔aP w∧∀d∈due,dW w d=true:=by
 unfold cW;rw[Bool.and_eq_true,sE,bH]
theorem HJ (w:ai)(due:List bB)(k:Nat):(cW w due=true→cW w (due.take k)=true∧cW (bN w (due.take k)) (due.drop k)=true∧bN (bN w (due.take k)) (due.drop k)=bN w due)∧(aP w→cW w due=false→cW w (due.take k)=true→cW (bN w (due.take k)) (due.drop k)=false):=by
 constructor
 ·intro h
  rw[dB] at h
  have h1:∀d∈due.take k,dW w d=true:=fun d hd=>h.2 d (List.mem_of_mem_take hd)
  refine⟨dB.2 ⟨h.1,h1⟩,dB.2 ⟨jj _ w h.1 h1,fun d hd=>?_⟩,?_⟩
  ·rw[wG];exact h.2 d (List.mem_of_mem_drop hd)
  ·rw[←EV,List.take_append_drop]
 ·intro R h h1
  rw[Bool.eq_false_iff] at h ⊢
  intro h2
  refine h (dB.2 ⟨R,fun d hd=>?_⟩)
  rw[←List.take_append_drop k due] at hd
  rcases List.mem_append.1 hd with e|e
  ·exact(dB.1 h1).2 d e
  ·have:=(dB.1 h2).2 d e
   rwa [wG] at this
theorem eH {w:ai}{f:ForM}:dQ w f=true↔f.most=w.f.most∧w.f.nodes.length≤f.nodes.length∧∀ (n:Nat) (x y:au),w.f.nodes[n]? =some x→f.nodes[n]? =some y→y.kind=x.kind:=by
 unfold dQ
 rw[Bool.and_eq_true,Bool.and_eq_true,decide_eq_true_eq,decide_eq_true_eq,List.all_eq_true]
 constructor
 ·rintro⟨⟨h1,h2⟩,h3⟩
  refine⟨h1,h2,fun n x y hx hy=>?_⟩
  have:=h3 n (List.mem_range.2 (List.getElem?_eq_some_iff.1 hx).1)
  rwa [decide_eq_true_eq,cZ hx,cZ hy] at this
 ·rintro⟨h1,h2,h3⟩
  refine⟨⟨h1,h2⟩,fun n hn=>?_⟩
  rw[List.mem_range] at hn
  have hx:w.f.nodes[n]? =some w.f.nodes[n]:=List.getElem?_eq_getElem hn
  have hy:f.nodes[n]? =some f.nodes[n]:=List.getElem?_eq_getElem (by omega)
  rw[decide_eq_true_eq,cZ hx,cZ hy];exact h3 n _ _ hx hy
theorem D8 (w:ai)(f:ForM):(bp w f).states=w.states++ (f.nodes.drop w.f.nodes.length).map iy:=by
 show w.states++ ((f.nodes.drop w.f.nodes.length).take _).map iy=_
 rw[List.take_of_length_le (by rw[List.length_drop];exact Nat.le_refl _)]
theorem E5 {w:ai}{f:ForM}{n:Nat}(h:n<w.states.length):(bp w f).states[n]? =w.states[n]? :=by rw[D8,List.getElem?_append_left h]
theorem Fv {w:ai}{f:ForM}(hl:w.states.length=w.f.nodes.length){n:Nat}{x:au}(h:w.states.length≤n)(hx:f.nodes[n]? =some x):(bp w f).states[n]? =some (iy x):=by
 rw[D8,List.getElem?_append_right h,List.getElem?_map,List.getElem?_drop,hl,show w.f.nodes.length+ (n-w.f.nodes.length)=n from by omega,hx];rfl
theorem At {w:ai}{f:ForM}(hl:w.states.length=w.f.nodes.length)(hf:w.f.nodes.length≤f.nodes.length):(bp w f).states.length=f.nodes.length:=by
 rw[D8,List.length_append,List.length_map,List.length_drop];omega
theorem xK (s i:ByteArray):qp s i=0∨qp s i=1:=by unfold qp;split<;>simp
theorem pB {w:ai}{f:ForM}(R:aP w)(hf:aV f=true)(hw:dQ w f=true):aP (bp w f):=by
 obtain⟨h1,h2,h3⟩:=eH.1 hw
 have sl:=R.sl
 have tl:=R.tl
 have tm:∀m,ak w.f.nodes m=true→ak f.nodes m=true:=fun m hm=>by
  unfold ak at hm ⊢
  simp only[Bool.and_eq_true,decide_eq_true_eq] at hm ⊢
  omega
 refine⟨?_,?_,R.cl,hf,R.rd,?_,?_,?_,R.ta,?_⟩
 ·exact At sl h2
 ·show(w.line.todos++List.replicate _ []).length=f.nodes.length
  rw[List.length_append,List.length_replicate];omega
 ·have hn:=R.ln
  unfold vo at hn ⊢
  rw[Bool.and_eq_true,List.all_eq_true,List.all_eq_true] at hn ⊢
  have im:∀m,dG w.line m=true→dG (bp w f).line m=true:=fun m hm=>by
   unfold dG at hm ⊢
   show(_&&decide (m< ((w.line.todos++List.replicate _ []).length:Int)))=true
   rw[List.length_append]
   simp only[Bool.and_eq_true,decide_eq_true_eq] at hm ⊢
   omega
  refine⟨fun s hs=>?_,fun m hm=>im m (hn.2 m hm)⟩
  rw[List.all_eq_true]
  exact fun m hm=>im m ((List.all_eq_true.1 (hn.1 s hs)) m hm)
 ·intro n x s hx hs
  have hx:f.nodes[n]? =some x:=hx
  by_cases hn:n<w.states.length
  ·rw[E5 hn] at hs
   have hy:w.f.nodes[n]? =some w.f.nodes[n]:=List.getElem?_eq_getElem (by omega)
   have h:=R.st n _ s hy hs
   have hk:=h3 n _ x hy hx
   unfold gy at h ⊢
   rw[hk]
   split at h
   ·rename_i e
    rw[if_pos e]
    rw[Bool.and_eq_true,Bool.or_eq_true] at h ⊢
    exact⟨h.1.imp id (tm _),h.2⟩
   ·rename_i e
    rw[if_neg e];exact h
  ·rw[Fv sl (by omega) hx] at hs
   have e:=Option.some.inj hs
   subst e
   unfold gy iy
   by_cases e:x.kind=1
   ·rw[if_pos e,if_pos e]
    rcases xK x.name x.is with q|q<;>rw[q]<;>simp
   ·rw[if_neg e,if_neg e];rfl
 ·intro l hl t ht
  have hl:l∈w.line.todos++List.replicate _ []:=hl
  rcases List.mem_append.1 hl with e|e
  ·exact R.td l e t ht
  ·rw[(List.mem_replicate.1 e).2] at ht;cases ht
 ·intro b hb
  have h:=R.bu b hb
  unfold gS at h ⊢
  rw[Bool.and_eq_true,Bool.or_eq_true] at h ⊢
  refine⟨h.1,h.2.imp id fun q=>?_⟩
  unfold elemV at q ⊢
  rw[Bool.and_eq_true] at q ⊢
  obtain⟨i,x,hi,hx,hxe⟩:=bC.1 q.1
  have hil:=(List.getElem?_eq_some_iff.1 hx).1
  have hy:f.nodes[i]? =some f.nodes[i]:=List.getElem?_eq_getElem (by omega)
  refine⟨tm _ q.1,?_⟩
  rw[hi]
  show decide ((nd f.nodes (i:Int)).kind=1)=true
  rw[cZ hy,h3 i x _ hx hy,←hxe];exact q.2
theorem KE {f:ForM}{n:Int}{d:aZ}(h:lS f n d≠-1):0≤lS f n d∧lS f n d< (d.defs.length:Int):=by
 unfold lS at h ⊢
 split at h
 ·rename_i e
  rw[if_pos e]
  unfold Cs at h ⊢
  split at h
  ·rename_i e2
   rw[if_pos e2]
   unfold findD at h ⊢
   split at h
   ·rename_i e3
    rw[if_pos e3]
    rcases oF d.defs (nd f.nodes n).name (nd f.nodes n).is with q|⟨k,x,q,hk,_⟩
    ·exact absurd q.1 h
    ·have:=(List.getElem?_eq_some_iff.1 hk).1
     omega
   ·exact absurd rfl h
  ·exact absurd rfl h
 ·exact absurd rfl h
theorem FU {w:ai}(R:aP w)(ns:List dL):∀d∈ep w.f w.states w.desk w.classes ns,dW w d=true:=by
 intro d hd
 unfold ep at hd
 split at hd
 ·obtain⟨x,_,hx⟩:=List.mem_flatMap.1 hd
  rcases Hr R.sl x (d:=w.desk) (cs:=w.classes) with e|⟨i,s,y,hi,hs,hy,hk,e,ha⟩
  ·rw[e] at hx;cases hx
  ·rw[e] at hx
   rw[List.mem_singleton.1 hx]
   unfold dW lq dO
   rw[Bool.and_eq_true,Bool.or_eq_true,Bool.and_eq_true,Bool.and_eq_true,Bool.and_eq_true]
   simp only[decide_eq_true_eq]
   refine⟨by rw[hi];exact dj hy,?_⟩
   rcases Ej ha with⟨_,_,h3,h4⟩|⟨_,h2,_,_,_,h5,h6⟩
   ·rw[h4];exact .inr ⟨rfl,KE h3⟩
   ·rw[h2];exact .inl ⟨h5,by show x.kind<9;omega⟩
 ·cases hd
theorem C3 {w:ai}{c:aH}{n:Int}{t:br}(hn:ak w.f.nodes n=true)(ht:lq w t=true):∀d∈lI c n t,dW w d=true:=by
 intro d hd
 unfold lI at hd
 split at hd
 ·rw[List.mem_singleton.1 hd];unfold dW;rw[hn,ht];rfl
 ·cases hd
theorem yT {w:ai}(R:aP w):∀d∈ir w.f w.states w.desk w.classes,dW w d=true:=by
 intro d hd
 unfold ir at hd
 split at hd
 ·unfold M9 at hd
  obtain⟨n,hn,hd⟩:=List.mem_flatMap.1 hd
  rw[List.mem_range] at hn
  have ht:ak w.f.nodes (n:Int)=true:=by have:=R.sl;unfold ak;simp;omega
  unfold yL at hd
  split at hd
  ·rcases List.mem_append.1 hd with e|e
   ·split at e
    ·cases e
    ·exact C3 ht (by rfl) d e
   ·split at e
    ·cases e
    ·exact C3 ht (by rfl) d e
  ·cases hd
 ·cases hd
theorem Fb {w:ai}(R:aP w):iY w.f w.states w.desk=true:=by unfold iY;rw[decide_eq_true R.sl,R.rf,R.rd];rfl
theorem wq {w:ai}(R:aP w):aP {w with states:=dS w.f w.states w.desk w.classes}:=by
 refine⟨by rw[←R.sl];exact wM,R.tl,R.cl,R.rf,R.rd,R.ln,?_,R.td,R.ta,R.bu⟩
 intro n x s hx hs
 have hx:w.f.nodes[n]? =some x:=hx
 have hs:(dS w.f w.states w.desk w.classes)[n]? =some s:=hs
 have hn:n<w.states.length:=by have:=(List.getElem?_eq_some_iff.1 hx).1;have:=R.sl;omega
 rw[wX (Fb R) hn] at hs
 have e:=Option.some.inj hs
 subst e
 have hg:w.states[n]? =some w.states[n]:=List.getElem?_eq_getElem hn
 have h:=R.st n x _ hx hg
 rw[DN hg]
 unfold nW
 split
 ·rename_i hd
  unfold si at hd
  simp only[Bool.and_eq_true,decide_eq_true_eq] at hd
  have hk:x.kind=1:=by have:=hd.2;rwa [cZ hx] at this
  unfold gy at h ⊢
  rw[if_pos hk] at h ⊢
  rw[Bool.and_eq_true] at h ⊢
  refine⟨?_,h.2⟩
  rw[Bool.or_eq_true,decide_eq_true_eq]
  by_cases q:lj w.f.nodes (n:Int)=-1
  ·exact .inl q
  ·exact .inr (JN (jt R.rf) (dj hx) q).1
 ·exact h
theorem Kg {x:ai}{due:List bB}(N:aP x)(h:∀d∈due,dW x d=true):aP (bN {bN x due with states:=dS x.f x.states x.desk x.classes} (ir x.f x.states x.desk x.classes)):=by
 have e:=jj due x N h
 have hf:=nT due x
 have hs:=gI due x
 have hd:=gH due x
 have hc:=dF due x
 generalize bN x due=y at*
 rw[←hf,←hs,←hd,←hc]
 exact jj _ _ (wq e) (fun d hd=>yT e d hd)
theorem xI {w:ai}{f:ForM}(R:aP w)(hf:aV f=true)(hw:dQ w f=true)(ns:List dL):aP (dR w f ns):=Kg (pB R hf hw) (FU (pB R hf hw) ns)
theorem xW {w:ai}{f:ForM}:jP w f=true↔aP w∧aV f=true∧dQ w f=true:=by
 unfold jP;rw[Bool.and_eq_true,Bool.and_eq_true,bH,and_assoc]
theorem DD (w:ai)(f:ForM)(ns:List dL):(dR w f ns).f=f:=by unfold dR;rw[nT];exact nT ..
theorem Ab (w:ai)(f:ForM)(ns:List dL):(dR w f ns).desk=w.desk:=by unfold dR;rw[gH];exact gH ..
theorem u5 (w:ai)(f:ForM)(ns:List dL):(dR w f ns).builds=w.builds:=by unfold dR;rw[gE];exact gE ..
theorem Au (w:ai)(f:ForM)(ns:List dL):(dR w f ns).classes=w.classes:=by unfold dR;rw[dF];exact dF ..
theorem uC (w:ai)(f:ForM)(ns:List dL):(dR w f ns).states=dS f (bp w f).states w.desk w.classes:=by unfold dR;rw[gI];rfl
theorem Ea (w:ai)(f:ForM)(ns:List dL):∃r,(dR w f ns).tasks=w.tasks++r∧r.length≤1:=by
 unfold dR
 rw[qb]
 show ∃r,(bN (bp w f) (ep f (bp w f).states w.desk w.classes ns)).tasks++_=w.tasks++r∧_
 rw[qb]
 show ∃r,w.tasks++_++_=w.tasks++r∧_
 rw[List.append_assoc]
 refine⟨_,rfl,?_⟩
 by_cases h:ep f (bp w f).states w.desk w.classes ns=[]
 ·rw[if_neg (fun q=>q.1 h),List.nil_append];split<;>simp
 ·have:=IK _ (bp w f) h
  rw[List.length_append]
  have l1:∀ (p:Prop) [Decidable p],(if p then[mY] else[]).length≤1:=fun p _=>by split<;>simp
  have l2:∀ (p:Prop) [Decidable p],¬p→(if p then[mY] else[]).length=0:=fun p _ hp=>by rw[if_neg hp];rfl
  refine Nat.le_trans (Nat.add_le_add (l1 _) (Nat.le_of_eq (l2 _ ?_))) (by decide)
  intro q
  have q2:fV (bN (bp w f) (ep f (bp w f).states w.desk w.classes ns)).line=true:=q.2
  rw[this] at q2;cases q2
theorem DK (f:ForM)(d:aZ)(cs:List aH)(n:Int)(s:StateM):(nW f d cs n s).phase=s.phase∧(nW f d cs n s).df=s.df:=by unfold nW;split<;>exact⟨rfl,rfl⟩
theorem Ep (f:ForM)(d:aZ)(cs:List aH)(n:Int)(x:au):nW f d cs n (iy x)=iy x:=by
 unfold nW
 rw[if_neg]
 unfold si iy
 intro h
 simp only[Bool.and_eq_true,decide_eq_true_eq] at h
 have:=h.1.2
 split at this
 ·rcases xK x.name x.is with q|q<;>rw[q] at this<;>cases this
 ·cases this
theorem BS {w:ai}{f:ForM}(R:aP w)(hf:aV f=true)(hw:dQ w f=true):iY f (bp w f).states w.desk=true:=Fb (pB R hf hw)
theorem wP {w:ai}{f:ForM}(R:aP w)(hf:aV f=true)(hw:dQ w f=true)(ns:List dL){n:Nat}{s:StateM}(hs:w.states[n]? =some s):∃t,(dR w f ns).states[n]? =some t∧t.phase=s.phase∧t.df=s.df:=by
 have hn:=(List.getElem?_eq_some_iff.1 hs).1
 have hl:=At R.sl (eH.1 hw).2.1
 have h2:=(eH.1 hw).2.1
 have sl:=R.sl
 rw[uC,wX (BS R hf hw) (by omega)]
 refine⟨_,rfl,?_⟩
 rw[DN ((E5 hn).trans hs)]
 exact DK ..
theorem Jh {w:ai}{f:ForM}(R:aP w)(hf:aV f=true)(hw:dQ w f=true)(ns:List dL){n:Nat}{x:au}(h:w.states.length≤n)(hx:f.nodes[n]? =some x):(dR w f ns).states[n]? =some (iy x):=by
 have hn:=(List.getElem?_eq_some_iff.1 hx).1
 have hl:=At R.sl (eH.1 hw).2.1
 rw[uC,wX (BS R hf hw) (by omega),DN (Fv R.sl h hx),Ep]
def IG (s:StateM)(ph df:Int):StateM:=⟨ph,df,s.owner,s.barred⟩
def bE (w:ai)(n:Int)(ph df:Int):ai:={w with states:=w.states.set n.toNat (IG (eI w.states n) ph df)}
def di (w:ai)(n:Int):ai:={bE w n 4 (-1) with line:=jJ w.line n}
def eC (w:ai)(n:Int):ai:=(jG (bE w n 3 (eI w.states n).df) w.f []).1
def jd (w:ai)(n:Int):Bool:=cf w&&elemV w.f.nodes n
def cD (w:ai)(n df:Int):Bool:=(jd w n&&dO w df)&&decide ((eI w.states n).phase=1)
def bg (w:ai)(n df:Int):ai:=
 let x:=bE w n 2 df
 let y:=(bV x (cC x.f x.states x.desk x.classes n)).1
 {y with builds:=y.builds++ [⟨df,n⟩]}
def gm (w:ai)(n df:Int):ai×Bool:=if cD w n df=true then(bg w n df,true) else(w,false)
def je (l:List aY)(df:Int):Int:=match(l.reverse.findIdx? fun b=>decide (b.df=df)) with
 |some i=>(l.length:Int)-1-i
 |none=> -1
def gG (w:ai)(n:Int):Bool:=(jd w n&&decide ((eI w.states n).phase=2))&&(decide (0<w.builds.length)&&decide ((w.builds.getLast?.map aY.df)=some (eI w.states n).df))
def Bt (w:ai):ai:={w with builds:=w.builds.dropLast}
def iJ (w:ai)(n answer e:Int):ai×Int:=
 if gG w n=true then
  (if e≠0 then(di (Bt w) n,e) else if answer≠n then(di (Bt w) n,7) else(eC (Bt w) n,0))
 else(w,1)
def gN (w:ai)(n:Int)(good:Bool):ai×Int:=
 if(jd w n&&decide ((eI w.states n).phase=2))=true then(if good=true then(eC w n,0) else(di w n,0)) else(w,1)
def Js (x:au)(s:ByteArray)(doc:Int):Bool:=((((decide (x.kind=1)&&decide (x.name=s))&&decide (x.doc=doc))&&decide (x.attrs.length=0))&&decide (x.kids.length=0))&&decide (x.parent=-1)
def rU (w:ai)(n:Int)(s:ByteArray)(doc:Int):Int:=if(cf w&&ak w.f.nodes n)=true then(if Js (nd w.f.nodes n) s doc=true then 0 else 5) else 1
def zV (k d:Int):au:=⟨k,⟨#[]⟩,⟨#[]⟩,⟨#[]⟩,[],-1,[],-1,-1,d⟩
def cU (f:ForM)(x:au):au:=⟨x.kind,x.name,x.is,x.data,x.attrs,-1,[],-1,-1,if x.kind=0 then(f.nodes.length:Int) else x.doc⟩
def nH (f:ForM)(x:au):Bool:=(aV f&&kF (cU f x))&&(!decide (x.kind=4)&&(decide (x.kind=0)||uo f.nodes x.doc 0))
def eX (f:ForM)(x:au):ForM×Int×Int:=
 if nH f x=true then(if(f.nodes.length:Int)=f.most then(f,-1,8) else(⟨f.nodes++ [cU f x],f.most⟩,f.nodes.length,0)) else(f,-1,1)
theorem oC {l:List au}{y:au}{n:Int}(h:ak l n=true):nd (l++ [y]) n=nd l n:=by
 obtain⟨k,x,rfl,hx,_⟩:=bC.1 h
 rw[cZ hx,cZ (by rw[List.getElem?_append_left (List.getElem?_eq_some_iff.1 hx).1];exact hx)]
theorem tP {l:List au}{y:au}{n:Int}(h:ak l n=true):ak (l++ [y]) n=true:=by
 unfold ak at h ⊢
 rw[List.length_append,List.length_singleton]
 simp only[Bool.and_eq_true,decide_eq_true_eq] at h ⊢
 omega
theorem AL {l:List au}{y:au}{n k:Int}(h:uo l n k=true):uo (l++ [y]) n k=true:=by
 unfold uo at h ⊢
 rw[Bool.and_eq_true] at h ⊢
 exact⟨tP h.1,by rw[oC h.1];exact h.2⟩
theorem Gp {l:List au}{y:au}{n:Int}{x:au}{pre:List Int}{c:Int}(h:rW l n x pre c=true):rW (l++ [y]) n x pre c=true:=by
 unfold rW at h ⊢
 simp only[Bool.and_eq_true] at h ⊢
 obtain⟨⟨⟨⟨h1,h2⟩,h3⟩,h4⟩,h5⟩:=h
 rw[oC h1]
 exact⟨⟨⟨⟨tP h1,h2⟩,h3⟩,h4⟩,h5⟩
theorem wB {l:List au}{y:au}{n:Int}{x:au}:∀ (cs pre:List Int),jk l n x pre cs=true→jk (l++ [y]) n x pre cs=true∧∀c∈cs,ak l c=true
 |[],_,_=>⟨rfl,fun c hc=>by cases hc⟩
 | c ::r,pre,h=>by
   unfold jk at h ⊢
   rw[Bool.and_eq_true] at h ⊢
   have ih:=wB (y:=y) r _ h.2
   refine⟨⟨Gp h.1,ih.1⟩,fun d hd=>?_⟩
   rcases List.mem_cons.1 hd with e|e
   ·subst e
    have:=h.1
    unfold rW at this
    simp only[Bool.and_eq_true] at this
    exact this.1.1.1.1
   ·exact ih.2 d e
theorem Em {l:List au}{y:au}{cs:List Int}(h:∀c∈cs,ak l c=true):iQ (l++ [y]) cs=iQ l cs:=by
 unfold iQ
 refine List.countP_congr fun c hc=>?_
 rw[oC (h c hc)]
theorem Dj {l:List au}{y:au}{n:Int}{x:au}(h:cQ l n x=true):cQ (l++ [y]) n x=true:=by
 unfold cQ at h ⊢
 simp only[Bool.and_eq_true] at h ⊢
 obtain⟨h1,h2,h3,h4,h5⟩:=h
 refine⟨h1,?_,?_,?_,?_⟩
 ·unfold uj at h2 ⊢
  rw[Bool.and_eq_true] at h2 ⊢
  exact⟨AL h2.1,h2.2⟩
 ·unfold qx at h3 ⊢
  rw[Bool.or_eq_true] at h3 ⊢
  refine h3.imp id fun q=>?_
  simp only[Bool.and_eq_true] at q ⊢
  rw[oC q.1.1.2]
  exact⟨⟨⟨q.1.1.1,tP q.1.1.2⟩,q.1.2⟩,q.2⟩
 ·unfold oN at h4 ⊢
  simp only[Bool.and_eq_true] at h4 ⊢
  have k:=wB (y:=y) x.kids [] h4.1
  rw[Em k.2]
  exact⟨k.1,h4.2⟩
 ·unfold jx at h5 ⊢
  rw[Bool.and_eq_true] at h5 ⊢
  refine⟨?_,?_⟩
  ·have:=h5.1
   split
   ·rename_i e
    rw[if_pos e] at this
    simp only[Bool.and_eq_true] at this ⊢
    have t:ak l x.host=true:=by have:=this.1.1;unfold uo at this;rw[Bool.and_eq_true] at this;exact this.1
    rw[oC t]
    exact⟨⟨AL this.1.1,this.1.2⟩,this.2⟩
   ·rename_i e
    rw[if_neg e] at this;exact this
  ·rw[Bool.or_eq_true] at h5 ⊢
   refine h5.2.imp id fun q=>?_
   simp only[Bool.and_eq_true] at q ⊢
   have t:ak l x.under=true:=by have:=q.1.2;unfold uo at this;rw[Bool.and_eq_true] at this;exact this.1
   rw[oC t]
   exact⟨⟨q.1.1,AL q.1.2⟩,q.2⟩
theorem Aw {l:List au}{n:Int}{x:au}(h:cQ l n x=true):iV x=-1∨ak l (iV x)=true:=by
 unfold cQ at h
 simp only[Bool.and_eq_true] at h
 obtain⟨_,_,h3,_,h5⟩:=h
 unfold iV
 by_cases e:x.parent=-1
 ·rw[if_pos e]
  unfold jx at h5
  rw[Bool.and_eq_true] at h5
  have:=h5.1
  split at this
  ·simp only[Bool.and_eq_true] at this
   have t:=this.1.1
   unfold uo at t
   rw[Bool.and_eq_true] at t
   exact .inr t.1
  ·rw[decide_eq_true_eq] at this;exact .inl this
 ·rw[if_neg e]
  unfold qx at h3
  simp only[Bool.or_eq_true,Bool.and_eq_true,decide_eq_true_eq] at h3
  rcases h3 with q|q
  ·exact absurd q e
  ·exact .inr q.1.1.2
theorem zh {l:List au}:∀ (m:Nat) (n:Int),hG l m n=true→hG l (m+1) n=true
 |0,_,h=>by cases h
 | m +1,n,h=>by
   rw[mQ] at h ⊢
   split
   ·rfl
   ·rename_i e
    rw[if_neg e] at h
    exact zh m _ h
theorem BA {l:List au}{y:au}(hup:∀n,ak l n=true→iV (nd l n)=-1∨ak l (iV (nd l n))=true):∀ (m:Nat) (n:Int),ak l n=true→hG l m n=true→hG (l++ [y]) m n=true
 |0,_,_,h=>by cases h
 | m +1,n,hn,h=>by
   rw[mQ] at h ⊢
   rw[oC hn]
   split
   ·rfl
   ·rename_i e
    rw[if_neg e] at h
    rcases hup n hn with q|q
    ·exact absurd q e
    ·exact BA hup m _ q h
theorem qN {f:ForM}{x:au}(h:nH f x=true)(hm:(f.nodes.length:Int)≠f.most):aV ⟨f.nodes++ [cU f x],f.most⟩=true:=by
 unfold nH at h
 simp only[Bool.and_eq_true] at h
 obtain⟨⟨hr,hn⟩,hk,hd⟩:=h
 unfold aV at hr ⊢
 simp only[Bool.and_eq_true] at hr ⊢
 obtain⟨h1,h2,h3⟩:=hr
 unfold wV at h1 ⊢
 simp only[Bool.and_eq_true,decide_eq_true_eq] at h1 ⊢
 obtain⟨⟨⟨⟨a,b⟩,c⟩,d⟩,e⟩:=h1
 have t0:ak f.nodes 0=true:=by unfold ak;simp;omega
 rw[List.length_append,List.length_singleton,oC t0]
 rw[iz] at h2 h3
 have hup:∀n,ak f.nodes n=true→iV (nd f.nodes n)=-1∨ak f.nodes (iV (nd f.nodes n))=true:=fun n hn=>by
  obtain⟨k,z,rfl,hz,hze⟩:=bC.1 hn
  have:=h2 k z hz
  rw[Nat.zero_add] at this
  rw[hze];exact Aw this
 have new:nd (f.nodes++ [cU f x]) (f.nodes.length:Int)=cU f x:=cZ (by rw[List.getElem?_append_right (Nat.le_refl _),Nat.sub_self];rfl)
 have tnew:ak (f.nodes++ [cU f x]) (f.nodes.length:Int)=true:=by unfold ak;rw[List.length_append,List.length_singleton];simp;omega
 refine⟨⟨⟨⟨⟨a,b⟩,by omega⟩,by omega⟩,e⟩,?_,?_⟩
 ·rw [iz]
  intro k z hz
  rw[Nat.zero_add]
  by_cases hkl:k<f.nodes.length
  ·rw[List.getElem?_append_left hkl] at hz
   have:=h2 k z hz
   rw[Nat.zero_add] at this
   exact Dj this
  ·rw [List.getElem?_append_right (by omega)] at hz
   have hk0:k=f.nodes.length:=by
    have:=(List.getElem?_eq_some_iff.1 hz).1
    rw[List.length_singleton] at this;omega
   subst hk0
   rw[Nat.sub_self] at hz
   have hz:cU f x=z:=Option.some.inj hz
   subst hz
   unfold cQ
   simp only[Bool.and_eq_true]
   rw[Bool.not_eq_true',decide_eq_false_iff_not] at hk
   refine⟨hn,?_,?_,?_,?_⟩
   ·unfold uj
    rw[Bool.and_eq_true]
    rw[Bool.or_eq_true,decide_eq_true_eq] at hd
    by_cases k0:x.kind=0
    ·have ed:(cU f x).doc=f.nodes.length:=if_pos k0
     rw[ed]
     refine⟨?_,by rw[decide_eq_true (rfl:(f.nodes.length:Int)=f.nodes.length),Bool.or_true]⟩
     unfold uo
     rw[tnew,new,Bool.true_and,decide_eq_true_eq];exact k0
    ·have ed:(cU f x).doc=x.doc:=if_neg k0
     rw[ed]
     refine⟨AL (hd.resolve_left k0),?_⟩
     rw[Bool.or_eq_true];exact .inl (decide_eq_true k0)
   ·unfold qx;rfl
   ·unfold oN
    show(true&&((_||decide (([]:List Int)=[]))&&(_||decide (0≤1))))=true
    simp
   ·unfold jx
    rw[if_neg (show(cU f x).kind≠4 from hk)]
    rfl
 ·rw [iz]
  intro k z hz
  rw[Nat.zero_add]
  by_cases hkl:k<f.nodes.length
  ·rw[List.getElem?_append_left hkl] at hz
   have:=h3 k z hz
   rw[Nat.zero_add] at this
   exact zh _ _ (BA hup _ _ (dj hz) this)
  ·have hk0:k=f.nodes.length:=by
    have:=(List.getElem?_eq_some_iff.1 hz).1
    rw[List.length_append,List.length_singleton] at this;omega
   subst hk0
   rw[mQ,new];rfl
end Go.Proofs.Heir
