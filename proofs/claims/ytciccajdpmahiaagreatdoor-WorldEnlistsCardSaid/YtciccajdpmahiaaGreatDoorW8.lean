/- Models, plain laws and contracts of functions of the given program; conditions as stated in each theorem. By an AI agent. -/
import Derived.Test.YtciccajdpmahiaaGreatDoorW6
import Derived.Test.YtciccajdpmahiaaGreatDoorW5
import Derived.Test.YtciccajdpmahiaaGreatDoorW7
import Derived.Test.YtciccajdpmahiaaGreatDoorW4
set_option linter.unusedSimpArgs false
set_option linter.unusedVariables false
namespace Go.Proofs.Heir
open Go Go.Am Go.RowKit Go.Lib
set_option maxRecDepth 100000
set_option maxHeartbeats 8000000
theorem wH (w:ai)(h1:w.line.todos.length≤100000):ah Tryz.prog 20 [] [aT w] [] (aA (Fq w)):=by
 have hi:=G1 w.line h1
 unfold Fq
 generalize A2 w.line=g at*
 obtain⟨⟨l,m⟩,st,⟨d1,d2,d3,d4⟩,⟨a,b,c,d⟩,ta,bu,cs⟩:=w
 simp only at hi ⊢
 have n1:(ta.map gx).length=ta.length:=List.length_map ..
 have n2:(bu.map bM).length=bu.length:=List.length_map ..
 by_cases e1:(ta.length:Int)=0
 ·rw [decide_eq_true (show ta.length=0 by omega)]
  have g1:decide (((ta.map gx).length:Int)=0)=true:=decide_eq_true (by omega)
  by_cases e2:(bu.length:Int)=0
  ·rw[decide_eq_true (show bu.length=0 by omega)]
   have g2:decide (((bu.map bM).length:Int)=0)=true:=decide_eq_true (by omega)
   cases g<;>cases d4<;>
   ·refine ah.af (rvs:=[.tmp 2]) G aa Tryz.func20 rfl Tryz.ntmps20 rfl rfl ?_;with_reducible refine wD ?_
    repeat' (first
  |refine gK ?_|refine aE ?_ ?_
  |(((with_reducible refine kQ 45 ?_);refine cL hi QO ?_)<;>with_reducible refine wK ?_)
  | apply trivial)
    all_goals first|rfl|(simp;done)
  ·rw[decide_eq_false (show ¬bu.length=0 by omega)]
   have g2:decide (((bu.map bM).length:Int)=0)=false:=decide_eq_false (by omega)
   cases g<;>
   ·refine ah.af (rvs:=[.tmp 2]) G aa Tryz.func20 rfl Tryz.ntmps20 rfl rfl ?_;with_reducible refine wD ?_
    repeat' (first
  |refine gK ?_|refine aE ?_ ?_
  |(((with_reducible refine kQ 45 ?_);refine cL hi QO ?_)<;>with_reducible refine wK ?_)
  | apply trivial)
    all_goals first|rfl|(simp;done)
 ·rw[decide_eq_false (show ¬ta.length=0 by omega)]
  have g1:decide (((ta.map gx).length:Int)=0)=false:=decide_eq_false (by omega)
  cases g<;>
  ·refine ah.af (rvs:=[.tmp 2]) G aa Tryz.func20 rfl Tryz.ntmps20 rfl rfl ?_;with_reducible refine wD ?_
   repeat' (first
  |refine gK ?_|refine aE ?_ ?_
  |(((with_reducible refine kQ 45 ?_);refine cL hi QO ?_)<;>with_reducible refine wK ?_)
  | apply trivial)
   all_goals first|rfl|(simp;done)
theorem Jb {m:ML}{fz:Nat→Bool}{ck:List (Nat×Nat)}{n t L k:Nat}{ro:Bool}{rows:List AV}(h1:ej m t=.live 1 rows ro)(h2:fz t=true)(h3:rows=List.replicate k (.lit (.slice none 0 0)))(h4:L=k):nq m fz (MF ck fz m (n+1)) (iP (List.replicate k [])) t 0 L:=by
 subst h3;subst h4
 refine⟨1,_,ro,(List.replicate L []).map cI,h1,h2,rfl,by simp,ct _,?_,?_⟩
 ·simp
 ·intro i x y hx hy
  rw[List.map_replicate,List.getElem?_replicate] at hx
  rw[List.drop_zero,List.take_of_length_le (by simp),List.getElem?_replicate] at hy
  split at hx
  ·rename_i hi
   rw[if_pos hi] at hy
   cases hx;cases hy
   exact(show DT _ from .inr (.inr ⟨10,rfl⟩))
  ·cases hx
theorem GV (w:ai)(h1:w.line.todos.length≤100000):ah Tryz.prog 24 [] [aT w] [] (aT (Er w)):=by
 unfold Er
 obtain⟨⟨l,m⟩,st,⟨d1,d2,d3,d4⟩,⟨a,b,c,d⟩,ta,bu,cs⟩:=w
 simp only at h1 ⊢
 have ham:(a.map cI).length=a.length:=List.length_map ..
 refine ah.af (rvs:=[.cell 2 39]) G aa Tryz.func24 rfl Tryz.ntmps24 rfl rfl ?_;with_reducible refine wD ?_
 refine aW.Eo aa (e:=77) (e2:=59) (wd2:=10) (b2:=96) (bytes:=24) a.length 71 rfl rfl rfl (by show AV.lit (.int .i64 ((a.map cI).length:Int))=_;rw[ham]) (by show AV.lit (.int .i64 ((a.map cI).length:Int))=_;rw[ham]) h1 (by omega) rfl (fun d hd=>by cases hd;decide) ?_
 with_reducible refine wK ?_
 repeat' (first
  |refine gK ?_|refine aE ?_ ?_
  |apply trivial)
 all_goals first
  |exact Jb rfl rfl rfl rfl
  |exact .inr (.inr ⟨_,rfl⟩)
structure uw (w:ai):Prop where
 f:pq w.f=true
 st:w.states.length≤60
 d:o7 w.desk=true
 l:oo w.line=true
 ta:w.tasks.length≤60
 bu:w.builds.length≤60
 c:l9 w.classes=true
 n:rG w.classes=true
theorem jg {w:ai}:nj w=true↔uw w:=by
 unfold nj
 simp only[Bool.and_eq_true,decide_eq_true_eq]
 exact⟨fun⟨⟨⟨⟨⟨⟨⟨a,b⟩,c⟩,d⟩,e⟩,f⟩,g⟩,h⟩=>⟨a,b,c,d,e,f,g,h⟩,fun h=>⟨⟨⟨⟨⟨⟨⟨h.f,h.st⟩,h.d⟩,h.l⟩,h.ta⟩,h.bu⟩,h.c⟩,h.n⟩⟩
theorem mP {l:bK}(h:oo l=true):kV 60 l:=by
 unfold oo at h
 simp only[Bool.and_eq_true,decide_eq_true_eq,List.all_eq_true] at h
 obtain⟨⟨⟨⟨h1,h2⟩,h3⟩,h4⟩,h5⟩:=h
 exact⟨h1,h4,by omega,h5,h3⟩
theorem uw.small {w:ai}(h:uw w):bh w:=by
 have hc:=h.c
 unfold l9 at hc
 simp only[Bool.and_eq_true,decide_eq_true_eq] at hc
 have hn:=h.n
 unfold rG at hn
 simp only[List.all_eq_true,decide_eq_true_eq] at hn
 have h1:=h.st
 have h2:=h.ta
 have h3:=h.bu
 exact⟨r7 h.f,by omega,(kT.1 h.d).small,(mP h.l).mono (by omega),by omega,by omega,by omega,n7 h.c,hn⟩
theorem Ee (l:bK):ah Tryz.prog 69 [] [gU l] [] (aA (oo l)):=by
 unfold oo
 obtain⟨a,b,c,d⟩:=l
 simp only
 have ham:(a.map cI).length=a.length:=List.length_map ..
 have hbm:(b.map gg).length=b.length:=List.length_map ..
 have hcm:(c.map bF).length=c.length:=List.length_map ..
 refine ah.af (rvs:=[.tmp 2]) G aa Tryz.func69 rfl Tryz.ntmps69 rfl rfl ?_;with_reducible refine wD ?_
 by_cases e1:(60:Int)< (a.length:Int)
 ·rw[decide_eq_false (show ¬a.length≤60 by omega)]
  (have fct:=And.intro ham (e1);(repeat' (first
  |refine gF ?_|refine aE ?_ ?_
  |apply trivial));all_goals clear fct)
  all_goals first|rfl|(simp;done)
 by_cases e2:(30:Int)< (b.length:Int)
 ·rw[decide_eq_false (show ¬b.length≤30 by omega),Bool.and_false]
  (have fct:=And.intro ham (And.intro hbm (And.intro (eq_false e1) (e2)));(repeat' (first
  |refine gF ?_|refine aE ?_ ?_
  |apply trivial));all_goals clear fct)
  all_goals first|rfl|(simp;done)
 by_cases e3:(60:Int)< (c.length:Int)
 ·rw[decide_eq_false (show ¬c.length≤60 by omega),Bool.and_false]
  (have fct:=And.intro ham (And.intro hbm (And.intro hcm (And.intro (eq_false e1) (And.intro (eq_false e2) (e3)))));(repeat' (first
  |refine gF ?_|refine aE ?_ ?_
  |apply trivial));all_goals clear fct)
  all_goals first|rfl|(simp;done)
 rw[decide_eq_true (show a.length≤60 by omega),decide_eq_true (show b.length≤30 by omega),decide_eq_true (show c.length≤60 by omega)]
 simp only[Bool.true_and]
 (have fct:=And.intro ham (And.intro hbm (And.intro hcm (And.intro (eq_false e1) (And.intro (eq_false e2) ((eq_false e3))))));(repeat' (first
  |refine gF ?_|refine aE ?_ ?_
  |apply trivial));all_goals clear fct)
 refine aU.use G aa (fun(k:Nat)=>[(1,.ptr 10 0 0),(3,aq k)]) (fun _=>[(10,Ql ⟨a,b,c,d⟩)]) (fun k=>k≤a.length∧∀ (j:Nat) x,j<k→a[j]? =some x→decide (x.length≤60)=true) (fun k=>a.length-k) 0 ⟨Nat.zero_le _,fun j x h=>by omega⟩
  ⟨⟨rfl,rfl⟩,⟨⟨rfl,rfl⟩,rfl,trivial⟩,⟨⟨rfl,rfl,rfl,rfl,trivial⟩,trivial⟩,trivial⟩ ?_
 rintro k ⟨hk,hok⟩
 with_reducible refine wK ?_
 refine bq.mk (fun h2=>?_) (fun h2=>?_)<;>(try simp only[aF] at h2)<;>with_reducible refine wK ?_
 ·have hk':k<a.length:=by simp only[decide_eq_true_eq] at h2;omega
  obtain⟨x,hx⟩:∃x,a[k]? =some x:=⟨_,List.getElem?_eq_getElem hk'⟩
  have hxm:(x.map eM).length=x.length:=List.length_map ..
  clear h2
  by_cases e:(60:Int)< (x.length:Int)
  ·rw[qY hx (decide_eq_false (show ¬x.length≤60 by omega)),Bool.false_and]
   (have fct:=And.intro hxm (e);(repeat' (first
  |refine gF ?_|refine aE ?_ ?_
  |(((with_reducible show ay _ _ _ _ _);refine ay.mk k (cF x) rfl (cz hx) ?_)<;>with_reducible refine wK ?_)
  |apply trivial));all_goals clear fct)
  ·(have fct:=And.intro hxm ((eq_false e));(repeat' (first
  |refine gF ?_|refine aE ?_ ?_
  |(((with_reducible show ay _ _ _ _ _);refine ay.mk k (cF x) rfl (cz hx) ?_)<;>with_reducible refine wK ?_)
  | apply trivial));all_goals clear fct)
   refine aL.mk (k+1) ⟨by omega,fun j y hj hy=>?_⟩ (by omega) ⟨⟨rfl,rfl⟩,⟨⟨rfl,rfl⟩,by show((k+1:Nat):Int)=(k:Int)+1;omega,trivial⟩,⟨⟨rfl,rfl,rfl,rfl,trivial⟩,trivial⟩,trivial⟩
   rcases Nat.lt_or_ge j k with h6|h6
   ·exact hok j y h6 hy
   ·have:j=k:=by omega
    subst this
    rw[hx] at hy;cases hy;exact decide_eq_true (by omega)
 ·rw [mV fun j y hy=>hok j y (by have:=(List.getElem?_eq_some_iff.1 hy).1;simp only[decide_eq_false_iff_not] at h2;omega) hy,Bool.true_and]
  clear h2
  repeat' (first
  |refine gK ?_|refine aE ?_ ?_
  |apply trivial)
  refine aU.use G aa (fun(k:Nat)=>[(1,.ptr 10 0 0),(4,aq k)]) (fun _=>[(10,Ql ⟨a,b,c,d⟩)]) (fun k=>k≤b.length∧∀ (j:Nat) x,j<k→b[j]? =some x→decide (x.length≤60)=true) (fun k=>b.length-k) 0 ⟨Nat.zero_le _,fun j x h=>by omega⟩
   ⟨⟨rfl,rfl⟩,⟨⟨rfl,rfl⟩,rfl,trivial⟩,⟨⟨rfl,rfl,rfl,rfl,trivial⟩,trivial⟩,trivial⟩ ?_
  rintro q ⟨hq,hoq⟩
  with_reducible refine wK ?_
  refine bq.mk (fun h2=>?_) (fun h2=>?_)<;>(try simp only[aF] at h2)<;>with_reducible refine wK ?_
  ·have hk':q<b.length:=by simp only[decide_eq_true_eq] at h2;omega
   obtain⟨x,hx⟩:∃x,b[q]? =some x:=⟨_,List.getElem?_eq_getElem hk'⟩
   have hxm:(x.map bF).length=x.length:=List.length_map ..
   clear h2
   by_cases e:(60:Int)< (x.length:Int)
   ·rw[qY hx (decide_eq_false (show ¬x.length≤60 by omega))]
    (have fct:=And.intro hxm (e);(repeat' (first
  |refine gF ?_|refine aE ?_ ?_
  |(((with_reducible show ay _ _ _ _ _);refine ay.mk q (bY x) rfl (lD hx) ?_)<;>with_reducible refine wK ?_)
  | apply trivial));all_goals clear fct)
   ·(have fct:=And.intro hxm ((eq_false e));(repeat' (first
  |refine gF ?_|refine aE ?_ ?_
  |(((with_reducible show ay _ _ _ _ _);refine ay.mk q (bY x) rfl (lD hx) ?_)<;>with_reducible refine wK ?_)
  | apply trivial));all_goals clear fct)
    refine aL.mk (q+1) ⟨by omega,fun j y hj hy=>?_⟩ (by omega) ⟨⟨rfl,rfl⟩,⟨⟨rfl,rfl⟩,by show((q+1:Nat):Int)=(q:Int)+1;omega,trivial⟩,⟨⟨rfl,rfl,rfl,rfl,trivial⟩,trivial⟩,trivial⟩
    rcases Nat.lt_or_ge j q with h6|h6
    ·exact hoq j y h6 hy
    ·have:j=q:=by omega
     subst this
     rw[hx] at hy;cases hy;exact decide_eq_true (by omega)
  ·rw[mV fun j y hy=>hoq j y (by have:=(List.getElem?_eq_some_iff.1 hy).1;simp only[decide_eq_false_iff_not] at h2;omega) hy]
   clear h2
   repeat' (first
  |refine gK ?_|refine aE ?_ ?_
  |apply trivial)
theorem Hz (cs:List aH)(h1:cs.length≤100000)(h2:∀c∈cs,c.watch.length≤100000):ah Tryz.prog 71 [] [bJ cs] [] (aA (rG cs)):=by
 unfold rG
 have hcl:=h1
 clear h1
 have hlm:(cs.map dM).length=cs.length:=List.length_map ..
 refine ah.af (rvs:=[.tmp 2]) G aa Tryz.func71 rfl Tryz.ntmps71 rfl rfl ?_;with_reducible refine wD ?_
 refine aU.use G aa (fun(k:Nat)=>[(0,bJ cs),(3,aq k)]) (fun _=>[])
  (fun k=>k≤cs.length∧∀ (j:Nat) (y:aH),j<k→cs[j]? =some y→(y.watch.all fun s=>decide (s.size≤300))=true) (fun k=>cs.length-k) 0 ⟨Nat.zero_le _,fun j y h=>by omega⟩
  ⟨⟨rfl,rfl⟩,⟨rfl,rfl,trivial⟩,trivial⟩ ?_
 rintro k ⟨hk,hok⟩
 with_reducible refine wK ?_
 refine bq.mk (fun h1=>?_) (fun h1=>?_)<;>(try simp only[aF] at h1)<;>with_reducible refine wK ?_
 ·have hk':k<cs.length:=by simp only[decide_eq_true_eq] at h1;omega
  obtain⟨x,hx⟩:∃x,cs[k]? =some x:=⟨_,List.getElem?_eq_getElem hk'⟩
  have hwl:=h2 x (List.mem_of_getElem? hx)
  have bad:(x.watch.all fun s=>decide (s.size≤300))=false→(cs.all fun c=>c.watch.all fun s=>decide (s.size≤300))=false:=fun h=>qY hx h
  have good:(x.watch.all fun s=>decide (s.size≤300))=true→∀ (j:Nat) (y:aH),j<k+1→cs[j]? =some y→(y.watch.all fun s=>decide (s.size≤300))=true:=fun h j y hj hy=>by
   rcases Nat.lt_or_ge j k with h6|h6
   ·exact hok j y h6 hy
   ·have:j=k:=by omega
    subst this
    rw[hx] at hy;cases hy;exact h
  clear h1
  obtain⟨c1,c2,c3,c4,c5⟩:=x
  have n2:(c2.map kU).length=c2.length:=List.length_map ..
  simp only at bad good hwl
  repeat' (first
  |refine gK ?_|refine aE ?_ ?_
  |apply trivial)
  refine aU.use G aa (fun(j:Nat)=>[(0,bJ cs),(3,aq k),(4,aq j)]) (fun _=>[])
   (fun j=>j≤c2.length∧∀ (i:Nat) (y:ByteArray),i<j→c2[i]? =some y→decide (y.size≤300)=true) (fun j=>c2.length-j) 0 ⟨Nat.zero_le _,fun j y h=>by omega⟩
   ⟨⟨rfl,rfl⟩,⟨rfl,rfl,rfl,trivial⟩,trivial⟩ ?_
  rintro j ⟨hj,hoj⟩
  with_reducible refine wK ?_
  repeat' (first
  |refine gK ?_|refine aE ?_ ?_
  |(((with_reducible show ay _ _ _ _ _);refine ay.mk k (cN ⟨c1,c2,c3,c4,c5⟩) rfl (jm hx) ?_)<;>with_reducible refine wK ?_)
  |apply trivial)
  refine bq.mk (fun h2=>?_) (fun h2=>?_)<;>(try simp only[aF] at h2)<;>with_reducible refine wK ?_
  ·have hj':j<c2.length:=by simp only[decide_eq_true_eq] at h2;omega
   obtain⟨s,hs⟩:∃x,c2[j]? =some x:=⟨_,List.getElem?_eq_getElem hj'⟩
   clear h2
   by_cases e:(300:Int)< (s.size:Int)
   ·rw[bad (qY hs (decide_eq_false (show ¬s.size≤300 by omega)))]
    (have fct:=e;(repeat' (first
  |refine gF ?_|refine aE ?_ ?_
  |(((with_reducible show ay _ _ _ _ _);first|refine ay.mk k (cN ⟨c1,c2,c3,c4,c5⟩) rfl (jm hx) ?_|refine ay.mk j (cm s) rfl (mA hs) ?_)<;>with_reducible refine wK ?_)
  | apply trivial));all_goals clear fct)
   ·(have fct:=(eq_false e);(repeat' (first
  |refine gF ?_|refine aE ?_ ?_
  |(((with_reducible show ay _ _ _ _ _);first|refine ay.mk k (cN ⟨c1,c2,c3,c4,c5⟩) rfl (jm hx) ?_|refine ay.mk j (cm s) rfl (mA hs) ?_)<;>with_reducible refine wK ?_)
  | apply trivial));all_goals clear fct)
    refine aL.mk (j+1) ⟨by omega,fun i y hi hy=>?_⟩ (by omega) ⟨⟨rfl,rfl⟩,⟨rfl,rfl,by show((j+1:Nat):Int)=(j:Int)+1;omega,trivial⟩,trivial⟩
    rcases Nat.lt_or_ge i j with h6|h6
    ·exact hoj i y h6 hy
    ·have:i=j:=by omega
     subst this
     rw[hs] at hy;cases hy;exact decide_eq_true (by omega)
  ·have hnx:=good (mV fun i y hy=>hoj i y (by have:=(List.getElem?_eq_some_iff.1 hy).1;simp only[decide_eq_false_iff_not] at h2;omega) hy)
   clear h2
   repeat' (first
  |refine gK ?_|refine aE ?_ ?_
  | apply trivial)
   refine aL.mk (k+1) ⟨by omega,hnx⟩ (by omega) ⟨⟨rfl,rfl⟩,⟨rfl,by show((k+1:Nat):Int)=(k:Int)+1;omega,trivial⟩,trivial⟩
 ·rw[mV fun j y hy=>hok j y (by have:=(List.getElem?_eq_some_iff.1 hy).1;simp only[decide_eq_false_iff_not] at h1;omega) hy]
  clear h1
  repeat' (first
  |refine gK ?_|refine aE ?_ ?_
  |apply trivial)
theorem kp (w:ai):ah Tryz.prog 16 [] [aT w] [] (aA (nj w)):=by
 have h17:=Og w.f
 have h68:=Nu w.desk
 have h69:=Ee w.line
 have h70:=Np w.classes
 have h71:l9 w.classes=true→ah Tryz.prog 71 [] [bJ w.classes] [] (aA (rG w.classes)):=fun h=>by
  have hc:=n7 h
  unfold l9 at h
  simp only[Bool.and_eq_true,decide_eq_true_eq] at h
  exact Hz w.classes (by omega) fun c hc'=>(hc c hc').watch
 unfold nj
 generalize pq w.f=g1 at*
 generalize o7 w.desk=g2 at*
 generalize oo w.line=g3 at*
 generalize l9 w.classes=g4 at*
 generalize rG w.classes=g5 at*
 obtain⟨⟨l,m⟩,st,⟨d1,d2,d3,d4⟩,⟨a,b,c,d⟩,ta,bu,cs⟩:=w
 simp only at h17 h68 h69 h70 h71 ⊢
 have n1:(st.map bG).length=st.length:=List.length_map ..
 have n2:(ta.map gx).length=ta.length:=List.length_map ..
 have n3:(bu.map bM).length=bu.length:=List.length_map ..
 obtain⟨p1,q1⟩:∃p,decide (st.length≤60)=p:=⟨_,rfl⟩
 obtain⟨p2,q2⟩:∃p,decide (ta.length≤60)=p:=⟨_,rfl⟩
 obtain⟨p3,q3⟩:∃p,decide (bu.length≤60)=p:=⟨_,rfl⟩
 have r1:decide (((st.map bG).length:Int)≤60)=p1:=by rw[←q1,decide_eq_decide];omega
 have r2:decide (((ta.map gx).length:Int)≤60)=p2:=by rw[←q2,decide_eq_decide];omega
 have r3:decide (((bu.map bM).length:Int)≤60)=p3:=by rw[←q3,decide_eq_decide];omega
 rw[q1,q2,q3]
 clear q1 q2 q3
 refine ah.af (rvs:=[.tmp 2]) G aa Tryz.func16 rfl Tryz.ntmps16 rfl rfl ?_;with_reducible refine wD ?_
 cases g1
 ·repeat' (first
  |refine gK ?_|refine aE ?_ ?_
  |(((with_reducible refine kQ 17 ?_);refine cL h17 Qg ?_)<;>with_reducible refine wK ?_)
  |apply trivial)
  all_goals first|rfl|(simp;done)
 cases p1
 ·repeat' (first
  |refine gK ?_|refine aE ?_ ?_
  |(((with_reducible refine kQ 17 ?_);refine cL h17 Qg ?_)<;>with_reducible refine wK ?_)
  |apply trivial)
  all_goals first|rfl|(simp;done)|(simp[r1];done)
 cases g4
 case true=>
  have h71:=h71 rfl
  cases g2<;>cases g3<;>cases p2<;>cases p3
  all_goals
   repeat' (first
  |refine gK ?_|refine aE ?_ ?_
  | ((first
   |((with_reducible refine kQ 17 ?_);refine cL h17 Qg ?_)
   |((with_reducible refine kQ 68 ?_);refine cL h68 Sc ?_)
   |((with_reducible refine kQ 69 ?_);refine cL h69 RX ?_)
   |((with_reducible refine kQ 70 ?_);refine cL h70 R5 ?_)
   |((with_reducible refine kQ 71 ?_);refine cL h71 Ss ?_))<;>with_reducible refine wK ?_)
  | apply trivial)
   all_goals first|rfl|(simp;done)|(simp[r2];done)|(simp[r3];done)
 cases g2<;>cases g3<;>cases p2<;>cases p3
 all_goals
  repeat' (first
  |refine gK ?_|refine aE ?_ ?_
  | ((first
   |((with_reducible refine kQ 17 ?_);refine cL h17 Qg ?_)
   |((with_reducible refine kQ 68 ?_);refine cL h68 Sc ?_)
   |((with_reducible refine kQ 69 ?_);refine cL h69 RX ?_)
   |((with_reducible refine kQ 70 ?_);refine cL h70 R5 ?_))<;>with_reducible refine wK ?_)
  |apply trivial)
  all_goals first|rfl|(simp;done)|(simp[r2];done)|(simp[r3];done)
theorem B6 (x:au):bj (bZ x)=true:=by
 show bj (.agg [aq x.kind,cm x.name,cm x.is,cm x.data,eU x.attrs,aq x.parent,bY x.kids,aq x.host,aq x.under,aq x.doc])=true
 have h1:aN (x.attrs.map eN)=true:=cj eN (fun _=>rfl) _
 have h2:aN (x.kids.map bF)=true:=cj bF (fun _=>rfl) _
 simp[bj,aN,h1,h2]
theorem jE (l:List au):aN (l.map bZ)=true:=cj bZ B6 l
@[reducible] def IA (l : List au) : MS := .live 10 (l.map bZ) false
theorem Dt (l:List au):fR [IA l]:=⟨bw.eD fun x hx=>by
 obtain⟨a,_,rfl⟩:=List.mem_map.1 hx;rfl,jE l,trivial⟩
theorem G5 (l:List au):lF (flat (l.map bZ))=true:=gj bZ (fun _=>rfl) l
theorem ue {m:ML}{fz:Nat→Bool}{ck:List (Nat×Nat)}{n t len:Nat}{ro:Bool}{rows:List AV}{l:List au}(h1:ej m t=.live 10 rows ro)(h2:fz t=true)(h3:rows=l.map bZ)(h4:len=l.length):nq m fz (MF ck fz m n) (fk l) t 0 len:=by
 subst h3;subst h4
 have e:(l.map bZ).length=l.length:=List.length_map ..
 exact .cut h1 h2 (by omega) (by rw[List.drop_zero,List.take_of_length_le (by omega)]) (jE l)
theorem CX (k d:Int):ah Tryz.prog 135 [] [aq k,aq d] [] (aS (zV k d)):=by
 refine ah.af (rvs:=[.cell 4 80]) G aa Tryz.func135 rfl Tryz.ntmps135 rfl rfl ?_;with_reducible refine wD ?_
 repeat' (first
  |refine gK ?_|refine aE ?_ ?_
  |apply trivial)
 all_goals first|rfl|exact .inr (.inr ⟨_,rfl⟩)
@[reducible] def kf (most : Int) : ForM := ⟨[zV 0 0], most⟩
@[reducible] def zN : au := ⟨0, ⟨#[]⟩, ⟨#[]⟩, ⟨#[]⟩, [], 0, [], 0, 0, 0⟩
@[reducible] def rH (cs : List aH) (most : Int) : ai := ⟨kf most, [iy zN], ⟨[], [], 0, false⟩, qP ⟨[], [], [], false⟩, [], [], cs⟩
@[reducible] def Ot : ai := ⟨⟨[], 0⟩, [], ⟨[], [], 0, false⟩, ⟨[], [], [], false⟩, [], [], []⟩
theorem Jk (most:Int):bS (kf most).nodes:=⟨by show 1≤64;decide,fun x hx=>by rw[List.mem_singleton.1 hx];decide,fun x hx=>by rw[List.mem_singleton.1 hx];decide,fun x hx=>by rw[List.mem_singleton.1 hx];decide⟩
theorem LJ:kV 60 (qP ⟨[],[],[],false⟩):=⟨by decide,by decide,by decide,by decide,by decide⟩
theorem AG {cs:List aH}(most:Int)(hc:cs.length≤1000)(hcs:lz cs)(hnm:∀c∈cs,∀s∈c.watch,s.size≤300):bh (rH cs most):=⟨Jk most,by show 1≤1000;decide,⟨Nat.zero_le _,Nat.zero_le _⟩,LJ.mono (by decide),Nat.zero_le _,Nat.zero_le _,hc,hcs,hnm⟩
theorem MQ (most:Int):ah Tryz.prog 88 [] [aq most] [] (.tup [cJ (if aV (kf most)=true then kf most else⟨[],0⟩),aq (if aV (kf most)=true then 0 else 1)]):=by
 have hb:=CX 0 0
 have hr:=j7 (kf most) (Jk most)
 cases e:aV (kf most) with
 | true=>
   rw[e] at hr
   rw[if_pos rfl,if_pos rfl]
   refine ah.af (rvs:=[.cell 2 24,.tmp 3]) G aa Tryz.func88 rfl Tryz.ntmps88 rfl rfl ?_;with_reducible refine wD ?_
   repeat' (first
  |refine gK ?_|refine aE ?_ ?_
  | ((first
   |((with_reducible refine kQ 135 ?_);refine cV hb Hj ?_)
   |((with_reducible refine kQ 100 ?_);refine aj.lit [61] hr mT ⟨⟨ue (l:=[zV 0 0]) rfl rfl rfl rfl,rfl,trivial⟩,trivial⟩ rfl rfl ?_))<;>with_reducible refine wK ?_)
  | apply trivial)
   all_goals first|rfl|exact ue (l:=[zV 0 0]) rfl rfl rfl rfl
 | false=>
   rw[e] at hr
   rw[if_neg (by simp),if_neg (by simp)]
   refine ah.af (rvs:=[.cell 2 24,.tmp 3]) G aa Tryz.func88 rfl Tryz.ntmps88 rfl rfl ?_;with_reducible refine wD ?_
   repeat' (first
  |refine gK ?_|refine aE ?_ ?_
  | ((first
   |((with_reducible refine kQ 135 ?_);refine cV hb Hj ?_)
   |((with_reducible refine kQ 100 ?_);refine aj.lit [61] hr mT ⟨⟨ue (l:=[zV 0 0]) rfl rfl rfl rfl,rfl,trivial⟩,trivial⟩ rfl rfl ?_))<;>with_reducible refine wK ?_)
  | apply trivial)
   all_goals first|rfl|exact .inr (.inr ⟨_,rfl⟩)
def II (cs:List aH)(most:Int):ai×Int:=if cf (rH cs most)=true then(rH cs most,0) else(Ot,1)
theorem FI (cs:List aH)(most:Int)(hc:cs.length≤1000)(hcs:lz cs)(hnm:∀c∈cs,∀s∈c.watch,s.size≤300):ah Tryz.prog 28 [] [bJ cs,aq most] [] (.tup [aT (II cs most).1,aq (II cs most).2]):=by
 have hsw:=AG most hc hcs hnm
 have hf:=MQ most
 have hb:=BL zN
 have hg:=yV ⟨[],[],[],false⟩ ⟨by decide,by decide,by decide,by decide,by decide⟩
 have hcl:=AD cs (by omega)
 have hR:=cr (rH cs most) hsw
 have hRF:cf (rH cs most)=true→aV (kf most)=true:=fun h=>(bH.1 h).rf
 unfold II
 generalize hr:cf (rH cs most)=r at*
 unfold rH at hR ⊢
 generalize hl:qP ⟨[],[],[],false⟩=L at*
 obtain⟨la,lb,lc,ld⟩:=L
 generalize hs:iy zN=s at*
 obtain⟨s1,s2,s3,s4⟩:=s
 clear hsw hr hl hs
 cases e:aV (kf most) with
 | false=>
   cases r with
   |true=>rw[hRF rfl] at e;cases e
   | false=>
     rw[e] at hf
     rw[if_neg (by simp),if_neg (by simp)] at hf
     rw[if_neg (by simp)]
     refine ah.af (rvs:=[.cell 4 39,.tmp 5]) G aa Tryz.func28 rfl Tryz.ntmps28 rfl rfl ?_;with_reducible refine wD ?_
     repeat' (first
  |refine gK ?_|refine aE ?_ ?_
  | ((first
   |((with_reducible refine kQ 88 ?_);refine cV hf Sf ?_)
   |((with_reducible refine kQ 89 ?_);refine aj.lit [] hb RG ⟨⟨rfl,rfl,rfl,rfl,.inr (.inr ⟨_,rfl⟩),rfl,.inr (.inr ⟨_,rfl⟩),rfl,rfl,rfl,trivial⟩,trivial⟩ rfl rfl ?_)
   |((with_reducible refine kQ 90 ?_);refine aj.val [] hg Qs ⟨⟨.inr (.inr ⟨_,rfl⟩),.inr (.inr ⟨_,rfl⟩),.inr (.inr ⟨_,rfl⟩),rfl,trivial⟩,trivial⟩ rfl rfl rfl ?_)
   |((with_reducible refine kQ 91 ?_);refine aj.new 211 [] hcl R9 ⟨rfl,trivial⟩ rfl rfl rfl (tw _) rfl ?_))<;>with_reducible refine wK ?_)
  |apply trivial)
     all_goals first|rfl|exact .inr (.inr ⟨_,rfl⟩)
 | true=>
   rw[e] at hf
   rw[if_pos rfl,if_pos rfl] at hf
   cases r
   all_goals
    refine ah.af (rvs:=[.cell 4 39,.tmp 5]) G aa Tryz.func28 rfl Tryz.ntmps28 rfl rfl ?_;with_reducible refine wD ?_
    repeat' (first
  |refine gK ?_|refine aE ?_ ?_
  | ((first
   |((with_reducible refine kQ 88 ?_);refine cV hf Sf ?_)
   |((with_reducible refine kQ 89 ?_);refine aj.lit [] hb RG ⟨⟨rfl,rfl,rfl,rfl,.inr (.inr ⟨_,rfl⟩),rfl,.inr (.inr ⟨_,rfl⟩),rfl,rfl,rfl,trivial⟩,trivial⟩ rfl rfl ?_)
   |((with_reducible refine kQ 90 ?_);refine aj.val [] hg Qs ⟨⟨.inr (.inr ⟨_,rfl⟩),.inr (.inr ⟨_,rfl⟩),.inr (.inr ⟨_,rfl⟩),rfl,trivial⟩,trivial⟩ rfl rfl rfl ?_)
   |((with_reducible refine kQ 91 ?_);refine aj.new 211 [] hcl R9 ⟨rfl,trivial⟩ rfl rfl rfl (tw _) rfl ?_)
   |((with_reducible refine kQ 19 ?_);refine aj.lit [171,211] hR gZ ⟨⟨rfl,rfl,iv (l:=[⟨s1,s2,s3,s4⟩]) rfl rfl rfl rfl,.inr (.inr ⟨_,rfl⟩),.inr (.inr ⟨_,rfl⟩),rfl,rfl,rfl,rfl,rfl,rfl,.inr (.inr ⟨_,rfl⟩),.inr (.inr ⟨_,rfl⟩),uK rfl rfl rfl rfl,trivial⟩,trivial⟩ rfl rfl ?_))<;>with_reducible refine wK ?_)
  | apply trivial)
    all_goals first
     |rfl
     |exact iv (l:=[⟨s1,s2,s3,s4⟩]) rfl rfl rfl rfl
     |exact uK rfl rfl rfl rfl
     |exact .inr (.inr ⟨_,rfl⟩)
theorem Ez (l:List AttrM)(hl:l.length≤100000):ah Tryz.prog 136 [] [eU l] [] (eU l):=by
 have hlm:(l.map eN).length=l.length:=List.length_map ..
 refine ah.af (rvs:=[.tmp 2]) G aa Tryz.func136 rfl Tryz.ntmps136 rfl rfl ?_;with_reducible refine wD ?_
 refine ji.mk (fun h=>?_) (fun _=>?_)<;>with_reducible refine wK ?_
 ·obtain rfl:l=[]:=by simpa using h
  (refine eK ?_ ?_<;>with_reducible repeat' (first|exact trivial|(show _∧_;refine aK ?_ ?_)))
  all_goals first|rfl|exact .inr (.inr ⟨2,rfl⟩)
 ·refine dI.mk [] (l.map eN) ⟨rfl,rfl,rfl⟩ ⟨rfl,rfl,rfl⟩ (gj eN (fun _=>rfl) l) (by simp;omega) (by simp;omega) ?_;with_reducible refine wK ?_
  (refine eK ?_ ?_<;>with_reducible repeat' (first|exact trivial|(show _∧_;refine aK ?_ ?_)))
  all_goals first|exact zy rfl rfl rfl rfl|(refine zy rfl rfl ?_ ?_<;>simp)
theorem DU (l:List au)(hl:l.length≤100000):ah Tryz.prog 140 [] [fk l] [IA l] (.own 0 0 l.length):=by
 have hlm:(l.map bZ).length=l.length:=List.length_map ..
 refine ah.af (rvs:=[.tmp 2]) G aa Tryz.func140 rfl Tryz.ntmps140 rfl rfl ?_;with_reducible refine wD ?_
 refine ji.mk (fun h=>?_) (fun _=>?_)<;>with_reducible refine wK ?_
 ·obtain rfl:l=[]:=by simpa using h
  (refine eK ?_ ?_<;>with_reducible repeat' (first|exact trivial|(show _∧_;refine aK ?_ ?_)))
  all_goals first|rfl|trivial
 ·refine dI.mk [] (l.map bZ) ⟨rfl,rfl,rfl⟩ ⟨rfl,rfl,rfl⟩ (G5 l) (by simp;omega) (by simp;omega) ?_;with_reducible refine wK ?_
  (refine eK ?_ ?_<;>with_reducible repeat' (first|exact trivial|(show _∧_;refine aK ?_ ?_)))
  ·exact hlm.symm
  ·exact aD (jE l)
theorem IT {f:ForM}{x:au}(h:nH f x=false):eX f x=(f,-1,1):=by unfold eX;rw[h];rfl
theorem w7 {f:ForM}{x:au}(h:nH f x=true)(h2:(f.nodes.length:Int)=f.most):eX f x=(f,-1,8):=by unfold eX;rw[if_pos h,if_pos h2]
theorem GW {f:ForM}{x:au}(h:nH f x=true)(h2:¬ (f.nodes.length:Int)=f.most):eX f x=(⟨f.nodes++ [cU f x],f.most⟩,(f.nodes.length:Int),0):=by unfold eX;rw[if_pos h,if_neg h2]
theorem CU (f:ForM)(hs:bS f.nodes)(x:au)(hx:x.attrs.length≤100000)(hk:x.kind=1):ah Tryz.prog 67 [] [cJ f,aS x] [] (.tup [cJ (eX f x).1,aq (eX f x).2.1,aq (eX f x).2.2]):=by
 have hb:=CX x.kind x.doc
 have hcl:=Ez x.attrs hx
 have hr:=Bh f hs
 have hn:=ES (cU f x) hx
 have hi:=vH f x.doc 0
 have hcn:=DU f.nodes (by have:=hs.len;omega)
 have hlen:=hs.len
 have hno:=IT (f:=f) (x:=x)
 have hfu:=w7 (f:=f) (x:=x)
 have hye:=GW (f:=f) (x:=x)
 have hok:nH f x=((aV f&&kF (cU f x))&&(!decide (x.kind=4)&&(decide (x.kind=0)||uo f.nodes x.doc 0))):=rfl
 rw[hok] at hno hfu hye
 clear hok
 unfold cU at hn hno hfu hye
 obtain⟨l,m⟩:=f
 obtain⟨x0,x1,x2,x3,x4,x5,x6,x7,x8,x9⟩:=x
 simp only at hb hcl hr hn hi hcn hlen hno hfu hye hk
 subst hk
 unfold zV at hb
 rw[if_neg (by decide)] at hn hno hfu hye
 have hlm:(l.map bZ).length=l.length:=List.length_map ..
 generalize kF ⟨1,x1,x2,x3,x4,-1,[],-1,-1,x9⟩=g2 at*
 generalize aV ⟨l,m⟩=g1 at*
 generalize uo l x9 0=g3 at*
 by_cases e:(l.length:Int)=m
 ·have hfu:=fun h=>hfu h e
  clear hye
  cases g1<;>cases g2<;>cases g3
  case true.true.true=>
   rw[hfu rfl]
   refine ah.af (rvs:=[.cell 4 24,.tmp 5,.tmp 6]) G aa Tryz.func67 rfl Tryz.ntmps67 rfl rfl ?_;with_reducible refine wD ?_
   (have fct:=And.intro hlm ((eq_true e));(repeat' (first
  |refine gF ?_|refine aE ?_ ?_
  | ((first
   |((with_reducible refine kQ 135 ?_);refine cV hb Hj ?_)
   |((with_reducible refine kQ 136 ?_);refine cV hcl K4 ?_)
   |((with_reducible refine kQ 137 ?_);refine cL hr GH ?_)
   |((with_reducible refine kQ 138 ?_);refine cL hn yC ?_)
   |((with_reducible refine kQ 139 ?_);refine cL hi oI ?_))<;>with_reducible refine wK ?_)
  | apply trivial));all_goals clear fct)
   all_goals trace_state
  all_goals
   rw[hno rfl]
   refine ah.af (rvs:=[.cell 4 24,.tmp 5,.tmp 6]) G aa Tryz.func67 rfl Tryz.ntmps67 rfl rfl ?_;with_reducible refine wD ?_
   (have fct:=hlm;(repeat' (first
  |refine gF ?_|refine aE ?_ ?_
  | ((first
   |((with_reducible refine kQ 135 ?_);refine cV hb Hj ?_)
   |((with_reducible refine kQ 136 ?_);refine cV hcl K4 ?_)
   |((with_reducible refine kQ 137 ?_);refine cL hr GH ?_)
   |((with_reducible refine kQ 138 ?_);refine cL hn yC ?_)
   |((with_reducible refine kQ 139 ?_);refine cL hi oI ?_))<;>with_reducible refine wK ?_)
  | apply trivial));all_goals clear fct)
   all_goals trace_state
 ·have hye:=fun h=>hye h e
  clear hfu
  cases g1<;>cases g2<;>cases g3
  case true.true.true=>
   rw[hye rfl]
   refine ah.af (rvs:=[.cell 4 24,.tmp 5,.tmp 6]) G aa Tryz.func67 rfl Tryz.ntmps67 rfl rfl ?_;with_reducible refine wD ?_
   (have fct:=And.intro hlm ((eq_false e));(repeat' (first
  |refine gF ?_|refine aE ?_ ?_
  | ((first
   |((with_reducible refine kQ 135 ?_);refine cV hb Hj ?_)
   |((with_reducible refine kQ 136 ?_);refine cV hcl K4 ?_)
   |((with_reducible refine kQ 137 ?_);refine cL hr GH ?_)
   |((with_reducible refine kQ 138 ?_);refine cL hn yC ?_)
   |((with_reducible refine kQ 139 ?_);refine cL hi oI ?_)
   |((with_reducible refine kQ 140 ?_);refine aj.new 731 [] hcn RD ⟨rfl,trivial⟩ rfl rfl rfl (Dt _) rfl ?_)
   |((with_reducible show dI _ _ _ _ _ _ _ _ _ _);refine dI.mk (l.map bZ) [.agg [aq 1,cm x1,cm x2,cm x3,eU x4,aq (-1),bY [],aq (-1),aq (-1),aq x9]] ⟨rfl,by simp,rfl⟩ ⟨rfl,rfl,rfl⟩ rfl (by simp;omega) (by simp;omega) ?_))<;>with_reducible refine wK ?_)
  | apply trivial));all_goals clear fct)
   all_goals first
    |exact C5 bZ (y:=⟨1,x1,x2,x3,x4,-1,[],-1,-1,x9⟩) rfl rfl rfl (by simp) jE ⟨rfl,rfl,rfl,rfl,rfl,rfl,rfl,rfl,rfl,rfl,trivial⟩
    |(show(l.length:Int)=_;rw[hlm])
  all_goals
   rw[hno rfl]
   refine ah.af (rvs:=[.cell 4 24,.tmp 5,.tmp 6]) G aa Tryz.func67 rfl Tryz.ntmps67 rfl rfl ?_;with_reducible refine wD ?_
   (have fct:=hlm;(repeat' (first
  |refine gF ?_|refine aE ?_ ?_
  | ((first
   |((with_reducible refine kQ 135 ?_);refine cV hb Hj ?_)
   |((with_reducible refine kQ 136 ?_);refine cV hcl K4 ?_)
   |((with_reducible refine kQ 137 ?_);refine cL hr GH ?_)
   |((with_reducible refine kQ 138 ?_);refine cL hn yC ?_)
   |((with_reducible refine kQ 139 ?_);refine cL hi oI ?_))<;>with_reducible refine wK ?_)
  | apply trivial));all_goals clear fct)
   all_goals trace_state
@[reducible] def RZ : ByteArray := ⟨#[97]⟩
@[reducible] def Oi : ByteArray := ⟨#[120, 45, 97]⟩
@[reducible] def qE : ByteArray := ⟨#[]⟩
@[reducible] def qC : aH := ⟨false, [RZ], [], [], []⟩
@[reducible] def OO : aH := ⟨false, [⟨#[65]⟩], [], [], []⟩
@[reducible] def Qb : au := ⟨0, qE, qE, qE, [], -1, [], -1, -1, 0⟩
@[reducible] def SC : au := ⟨1, Oi, qE, qE, [], -1, [], -1, -1, 0⟩
@[reducible] def qM : au := ⟨1, Oi, qE, qE, [], 0, [], 0, 0, 0⟩
@[reducible] def Pa : ForM := ⟨[Qb], 5⟩
@[reducible] def Ox : ForM := ⟨[Qb, SC], 5⟩
@[reducible] def qD : aZ := ⟨[], [], 0, false⟩
@[reducible] def HR : StateM := ⟨0, -1, -1, false⟩
@[reducible] def Pq : StateM := ⟨1, -1, -1, false⟩
@[reducible] def qT : br := ⟨1, 0, qE, false, false, qE, qE, 0, 0, false⟩
@[reducible] def qW : ai := ⟨Pa, [HR], qD, ⟨[[]], [], [], false⟩, [], [], [qC]⟩
@[reducible] def qV : ai := ⟨Ox, [HR, Pq], qD, ⟨[[], []], [], [], false⟩, [], [], [qC]⟩
@[reducible] def qX : ai := ⟨Ox, [HR, Pq], qD, ⟨[[], [qT]], [], [1], true⟩, [⟨1, 0, 0⟩], [], [qC]⟩
@[reducible] def qZ : ai := ⟨Ox, [HR, Pq], qD, ⟨[[], []], [], [], false⟩, [], [], [qC]⟩
theorem q1:II [qC] 5=(qW,0):=by kernel_rfl
theorem q2:eX Pa qM=(Ox,1,0):=by kernel_rfl
theorem q3:jG qW Ox []=(qV,0):=by kernel_rfl
theorem q4:bV qV [⟨1,qT⟩]=(qX,0):=by kernel_rfl
theorem q5:bV qV [⟨2,qT⟩]=(qV,1):=by kernel_rfl
theorem q6:Fq qV=true:=by kernel_rfl
theorem q7:Fq qX=false:=by kernel_rfl
theorem q8:Er qX=qZ:=by kernel_rfl
theorem q9:cf qX=true:=by kernel_rfl
theorem SA:iN OO=false:=by kernel_rfl
theorem OB {l:List au}(h:(decide (l.length≤60)&&l.all fun x=>decide (x.kids.length≤60)&&decide (x.attrs.length≤60)&&decide (x.name.size≤300))=true):bS l:=r7 (f:=⟨l,0⟩) h
theorem P9:lz [qC]:=fun c hc=>by rw[List.mem_singleton.1 hc];exact⟨by decide,by decide,by decide,by decide,by decide⟩
theorem Qf:∀c∈ [qC],∀s∈c.watch,s.size≤300:=fun c hc s hs=>by rw[List.mem_singleton.1 hc] at hs;rw[List.mem_singleton.1 hs];decide
theorem Sl:bh qW:=⟨OB (by kernel_rfl),by decide,⟨by decide,by decide⟩,⟨by decide,by decide,by decide,by decide,by decide⟩,by decide,by decide,by decide,P9,Qf⟩
theorem R3:bh qV:=⟨OB (by kernel_rfl),by decide,⟨by decide,by decide⟩,⟨by decide,by decide,by decide,by decide,by decide⟩,by decide,by decide,by decide,P9,Qf⟩
theorem Sz:bh qX:=⟨OB (by kernel_rfl),by decide,⟨by decide,by decide⟩,⟨by decide,by decide,by decide,by decide,by decide⟩,by decide,by decide,by decide,P9,Qf⟩
theorem HO:ah Tryz.prog 15 [] [] [] (aA true):=by
 have a1:=FI [qC] 5 (by decide) P9 Qf
 rw[q1] at a1
 have a2:=CU Pa (OB (by kernel_rfl)) qM (by decide) rfl
 rw[q2] at a2
 have a3:=wQ qW Sl ⟨by decide,by decide,by decide,by decide,by decide⟩ (by decide) Ox (OB (by kernel_rfl)) [] (by decide)
 rw[q3] at a3
 have a4:=nI qV R3 [⟨1,qT⟩] (by decide)
 rw[q4] at a4
 have a5:=nI qV R3 [⟨2,qT⟩] (by decide)
 rw[q5] at a5
 have a6:=wH qV (by decide)
 rw[q6] at a6
 have a7:=wH qX (by decide)
 rw[q7] at a7
 have a8:=GV qX (by decide)
 rw[q8] at a8
 have a9:=cr qX Sz
 rw[q9] at a9
 have a10:=u0 OO (by decide) (by decide) (fun s hs=>by rw[List.mem_singleton.1 hs];decide)
 rw[SA] at a10
 refine ah.af (rvs:=[.tmp 0]) G aa Tryz.func15 rfl Tryz.ntmps15 rfl rfl ?_;with_reducible refine wD ?_
 refine aj.val [131,151] a1 RU ⟨?_,rfl,trivial⟩ rfl rfl rfl ?_
 ·refine⟨5,_,_,[dM qC],rfl,rfl,rfl,by decide,rfl,kS.of ⟨?_,trivial⟩⟩
  exact⟨rfl,⟨1,_,_,[kU RZ],rfl,rfl,rfl,by decide,rfl,kS.of ⟨rfl,trivial⟩⟩,.inr (.inr ⟨_,rfl⟩),.inr (.inr ⟨_,rfl⟩),.inr (.inr ⟨_,rfl⟩),trivial⟩
 with_reducible refine wK ?_
 repeat' (first
  |refine gK ?_|refine aE ?_ ?_
  | ((first
   |((with_reducible refine kQ 67 ?_);refine aj.val [] a2 Pw ⟨⟨rfl,rfl,trivial⟩,⟨rfl,rfl,rfl,rfl,.inr (.inr ⟨_,rfl⟩),rfl,.inr (.inr ⟨_,rfl⟩),rfl,rfl,rfl,trivial⟩,trivial⟩ rfl rfl rfl ?_)
   |((with_reducible refine kQ 33 ?_);refine aj.val [] a3 P5 ⟨
   ⟨rfl,rfl,rfl,rfl,rfl,rfl,rfl,rfl,rfl,rfl,rfl,rfl,rfl,rfl,trivial⟩
   ,⟨rfl,rfl,trivial⟩,.inr (.inr ⟨_,rfl⟩),trivial⟩ rfl rfl rfl ?_)
   |((with_reducible refine kQ 31 ?_);first
   | refine aj.val [381] a4 P4 ⟨
    ⟨rfl,rfl,rfl,rfl,rfl,rfl,rfl,rfl,rfl,rfl,rfl,rfl,rfl,rfl,trivial⟩
    ,jl (l:=[⟨1,qT⟩]) rfl rfl rfl rfl,trivial⟩ rfl rfl rfl ?_
   | refine aj.val [461] a5 P4 ⟨
    ⟨rfl,rfl,rfl,rfl,rfl,rfl,rfl,rfl,rfl,rfl,rfl,rfl,rfl,rfl,trivial⟩
    ,jl (l:=[⟨2,qT⟩]) rfl rfl rfl rfl,trivial⟩ rfl rfl rfl ?_))<;>with_reducible refine wK ?_)
  |apply trivial)
 dsimp only[List.append];with_reducible refine wK ?_
 repeat' (first
  |refine gK ?_|refine aE ?_ ?_
  | ((first
   |((with_reducible show ay _ _ _ _ _);refine ay.mk 1 (aX Pq) rfl rfl ?_)
   |((with_reducible refine kQ 20 ?_);first
   | refine aj.lit [] a6 RT ⟨
    ⟨rfl,rfl,rfl,rfl,rfl,rfl,rfl,rfl,rfl,rfl,rfl,rfl,rfl,rfl,trivial⟩
    ,trivial⟩ rfl rfl ?_
   | refine aj.lit [] a7 RT ⟨
    ⟨rfl,rfl,rfl,rfl,rfl,rfl,rfl,rfl,rfl,rfl,rfl,rfl,rfl,rfl,trivial⟩
    ,trivial⟩ rfl rfl ?_)
   | ((with_reducible refine kQ 24 ?_);refine aj.val [] a8 Sv ⟨
    ⟨rfl,rfl,rfl,rfl,rfl,rfl,rfl,rfl,rfl,rfl,rfl,rfl,rfl,rfl,trivial⟩
    ,trivial⟩ rfl rfl rfl ?_)
   | ((with_reducible refine kQ 19 ?_);refine aj.lit [] a9 gZ ⟨
    ⟨rfl,rfl,rfl,rfl,rfl,rfl,rfl,rfl,rfl,rfl,rfl,rfl,rfl,rfl,trivial⟩
    ,trivial⟩ rfl rfl ?_)
   |((with_reducible refine kQ 26 ?_);refine aj.lit [1071] a10 R4 ⟨⟨rfl,⟨1,_,_,[kU ⟨#[65]⟩],rfl,rfl,rfl,by decide,rfl,kS.of ⟨rfl,trivial⟩⟩,.inr (.inr ⟨_,rfl⟩),.inr (.inr ⟨_,rfl⟩),.inr (.inr ⟨_,rfl⟩),trivial⟩,trivial⟩ rfl rfl ?_))<;>with_reducible refine wK ?_)
  |apply trivial)
 all_goals rfl
theorem uP {w:ai}(hs:bh w){B:Nat}(hl:kV B w.line)(hB:B≤70000)(hta:w.tasks.length≤70000){f:ForM}(hf:bS f.nodes){ns:List dL}(hn:ns.length≤1000)(R:aP w)(e2:aV f=true)(e3:dQ w f=true):bh (dR w f ns)∧kV (B+1300) (dR w f ns).line∧(dR w f ns).tasks.length≤w.tasks.length+1:=by
 have TF:=Nb R e2 e3 ns
 have hfl:=hf.len
 have hX:=zE hs (hl.mono (by omega)) hf R
 have hXl:kV (B+64) (bp w f).line:=(jZ f hl).mono (by omega)
 have hY0:bh (bN (bp w f) (ep f (bp w f).states w.desk w.classes ns)):=kB hX hXl (by show w.tasks.length≤_;omega) _ (by have:=TF.l1;omega)
 have hYl:=xT (ep f (bp w f).states w.desk w.classes ns) (bp w f) _ hXl
 have hY:bh {bN (bp w f) (ep f (bp w f).states w.desk w.classes ns) with states:=dS f (bp w f).states w.desk w.classes}:=⟨hY0.f,by show(dS f (bp w f).states w.desk w.classes).length≤_;rw[wM];exact hX.st,hY0.d,hY0.l,hY0.ta,hY0.bu,hY0.cl,hY0.cs,hY0.nm⟩
 have ht:=qa (bp w f) (ep f (bp w f).states w.desk w.classes ns)
 have h1:=TF.l1
 have h2:=TF.l2
 obtain⟨r,q1,q2⟩:=Ea w f ns
 have q0:(bp w f).tasks.length=w.tasks.length:=rfl
 have q3:{bN (bp w f) (ep f (bp w f).states w.desk w.classes ns) with states:=dS f (bp w f).states w.desk w.classes:ai}.tasks.length=(bN (bp w f) (ep f (bp w f).states w.desk w.classes ns)).tasks.length:=rfl
 refine⟨kB hY (B:=B+64+ (ep f (bp w f).states w.desk w.classes ns).length) hYl (by rw[q3];omega) (ir f (bp w f).states w.desk w.classes) (by omega),?_,by rw[q1,List.length_append];omega⟩
 exact(xT (ir f (bp w f).states w.desk w.classes) {bN (bp w f) (ep f (bp w f).states w.desk w.classes ns) with states:=dS f (bp w f).states w.desk w.classes} _ hYl).mono (by omega)
end Go.Proofs.Heir
namespace Go.Proofs.Heir
open Go Go.Am Go.RowKit Go.Lib
set_option maxRecDepth 100000
set_option maxHeartbeats 8000000
set_option maxHeartbeats 8000000
theorem kr {w:ai}(hs:bh w)(n ph df:Int):bh (bE w n ph df):=⟨hs.f,by show(w.states.set _ _).length≤_;rw[List.length_set];exact hs.st,hs.d,hs.l,hs.ta,hs.bu,hs.cl,hs.cs,hs.nm⟩
theorem FG {B:Nat}{l:bK}(h:kV B l)(n:Int):kV B (jJ l n):=⟨by show(l.todos.set _ _).length≤_;rw[List.length_set];exact h.1,fun t ht=>by
 have ht:t∈l.todos.set n.toNat []:=ht
 rcases mF ht with e|e
 ·exact h.todo t e
 ·subst e;exact Nat.zero_le _,h.3,h.list,h.back⟩
theorem uF {w:ai}(hs:bh w)(n:Int):bh (di w n):=⟨hs.f,(kr hs n 4 (-1)).st,hs.d,FG hs.l n,hs.ta,hs.bu,hs.cl,hs.cs,hs.nm⟩
theorem fW {w:ai}(hs:bh w){l:List aY}(h:l.length≤90000):bh {w with builds:=l}:=⟨hs.f,hs.st,hs.d,hs.l,hs.ta,h,hs.cl,hs.cs,hs.nm⟩
theorem Af {w:ai}{k:Nat}{s:StateM}(hs:w.states[k]? =some s)(hl:k<w.line.todos.length)(m:Nat):(di w k).states[m]? =(if k=m then some (IG s 4 (-1)) else w.states[m]?)∧(di w k).line.todos[m]? =(if k=m then some [] else w.line.todos[m]?):=by
 refine⟨pX hs 4 (-1) m,?_⟩
 show(w.line.todos.set (k:Int).toNat [])[m]? =_
 rw[Int.toNat_natCast,List.getElem?_set]
 by_cases e:k=m
 ·rw[if_pos e,if_pos e,if_pos hl]
 ·rw[if_neg e,if_neg e]
theorem JZ {l:List au}(h:bS l)(n:Int):(nd l n).attrs.length≤60:=by
 unfold nd
 cases e:l[n.toNat]? with
 |none=>exact Nat.zero_le _
 |some x=>exact h.attrs x (List.mem_of_getElem? e)
theorem tR {f:ForM}(hf:bS f.nodes)(st:List StateM)(d:aZ)(cs:List aH)(n:Int):(cC f st d cs n).length≤61:=by
 unfold cC
 split
 ·unfold wo
  rw[List.length_append]
  have h1:=ou (l6 (cw (eI st n) d cs) n) (vL _ n) (nd f.nodes n).attrs
  have h2:=JZ hf n
  have h3:(yH (dc (cw (eI st n) d cs) 1&&DO f n) n).length≤1:=by unfold yH;split<;>simp
  omega
 ·exact Nat.zero_le _
theorem lO {w:ai}{n df:Int}(h:cD w n df=true)(hs:bh w){B:Nat}(hl:kV B w.line)(hB:B≤80000)(ht:w.tasks.length≤80000)(hb:w.builds.length≤80000):bh (bg w n df)∧kV (B+61) (bg w n df).line∧(bg w n df).tasks.length≤w.tasks.length+1∧(bg w n df).builds.length=w.builds.length+1:=by
 obtain⟨P,e,R⟩:=start_eq h
 have e:bg w n df={bN (bE w n 2 df) (cC w.f (bE w n 2 df).states w.desk w.classes n) with builds:=w.builds++ [⟨df,n⟩]}:=e
 have h1:=tR hs.f (bE w n 2 df).states w.desk w.classes n
 have h2:=kB (kr hs n 2 df) (B:=B) hl (by show w.tasks.length≤_;omega) (cC w.f (bE w n 2 df).states w.desk w.classes n) (by omega)
 have h3:=xT (cC w.f (bE w n 2 df).states w.desk w.classes n) (bE w n 2 df) B hl
 have h4:=qa (bE w n 2 df) (cC w.f (bE w n 2 df).states w.desk w.classes n)
 rw[e]
 refine⟨fW h2 (by rw[List.length_append,List.length_singleton];omega),h3.mono (by omega),h4,?_⟩
 show(w.builds++ [_]).length=_
 rw[List.length_append,List.length_singleton]
theorem rE {w:ai}(R:aP w){n:Int}(he:elemV w.f.nodes n=true)(hp:(eI w.states n).phase=2∨(eI w.states n).phase=3)(hs:bh w){B:Nat}(hl:kV B w.line)(hB:B≤70000)(ht:w.tasks.length≤70000):bh (eC w n)∧kV (B+1300) (eC w n).line∧(eC w n).tasks.length≤w.tasks.length+1:=by
 have P:=kn R he (tE R he hp)
 rw[(done_eq R he hp).1]
 exact uP (kr hs n 3 _) hl hB ht hs.f (ns:=[]) (by decide) P R.rf jD
theorem xA {w:ai}(R:aP w){k:Nat}{s:StateM}(he:elemV w.f.nodes k=true)(hs:w.states[k]? =some s)(hp:s.phase=2∨s.phase=3):aP (eC w k)∧((eC w k).f=w.f∧(eC w k).desk=w.desk∧(eC w k).builds=w.builds∧(eC w k).classes=w.classes)∧∀ (m:Nat) (t:StateM),w.states[m]? =some t→∃u,(eC w k).states[m]? =some u∧u.phase=(if k=m then 3 else t.phase)∧u.df=t.df:=by
 have hp':(eI w.states k).phase=2∨(eI w.states k).phase=3:=by rw[bX hs];exact hp
 have P:=kn R he (tE R he hp')
 obtain⟨e,V⟩:=done_eq R he hp'
 rw[bX hs] at P e
 refine⟨V,?_,?_⟩
 ·rw[e]
  exact⟨DD ..,Ab ..,u5 ..,Au ..⟩
 ·intro m t hm
  rw[e]
  have hq:=pX hs 3 s.df m
  by_cases c:k=m
  ·subst c
   rw[if_pos rfl] at hq ⊢
   obtain⟨u,h1,h2,h3⟩:=wP P R.rf jD [] hq
   rw[hs] at hm;cases hm
   exact⟨u,h1,h2,h3⟩
  ·rw[if_neg c] at hq ⊢
   obtain⟨u,h1,h2,h3⟩:=wP P R.rf jD [] (hq.trans hm)
   exact⟨u,h1,h2,h3⟩
theorem vV {l:List au}(h:bS l)(hl:l.length≤63){y:au}(h1:y.kids.length≤60)(h2:y.attrs.length≤60)(h3:y.name.size≤300):bS (l++ [y]):=⟨by rw[List.length_append,List.length_singleton];omega,fun x hx=>by
 rcases List.mem_append.1 hx with e|e
 ·exact h.kids x e
 ·rw[List.mem_singleton.1 e];exact h1,fun x hx=>by
 rcases List.mem_append.1 hx with e|e
 ·exact h.attrs x e
 ·rw[List.mem_singleton.1 e];exact h2,fun x hx=>by
 rcases List.mem_append.1 hx with e|e
 ·exact h.name x e
 ·rw[List.mem_singleton.1 e];exact h3⟩
theorem xV {w:ai}{n df:Int}(h:(eI w.states n).phase≠1):gm w n df=(w,false):=by
 unfold gm cD
 rw[decide_eq_false h,Bool.and_false,if_neg (by simp)]
theorem eO {w:ai}{n df:Int}:cD w n df=true↔ (aP w∧elemV w.f.nodes n=true)∧dO w df=true∧(eI w.states n).phase=1:=by
 unfold cD jd
 simp only[Bool.and_eq_true,decide_eq_true_eq,bH,and_assoc]
theorem Cb (w:ai):bj (aT w)=true:=by
 have h1:=jE w.f.nodes
 have h2:aN (w.states.map bG)=true:=aC w.states
 have h3:aN (w.desk.defs.map fH)=true:=cj fH (fun _=>rfl) _
 have h4:aN (w.desk.waits.map rV)=true:=cj rV (fun _=>rfl) _
 have h5:=ct w.line.todos
 have h6:=ee w.line.stack
 have h7:aN (w.line.back.map bF)=true:=cj bF (fun _=>rfl) _
 have h8:=dX w.tasks
 have h9:=j9 w.builds
 have h10:=jz w.classes
 simp[bj,aN,h1,h2,h3,h4,h5,h6,h7,h8,h9,h10]
theorem gB (w:ai):fR [mW w]:=⟨bw.eD fun x hx=>by rw[List.mem_singleton.1 hx];rfl,by simp[aN,Cb],trivial⟩
theorem sI (w:ai)(hs:bh w)(n:Int):ah Tryz.prog 112 [] [aT w,aq n] [mW w] (.tup [.ptr 0 0 0,aA (jd w n)]):=by
 have hR:=cr w hs
 have hlm:(w.f.nodes.map bZ).length=w.f.nodes.length:=List.length_map ..
 obtain⟨g,hg⟩:∃g,jd w n=g:=⟨_,rfl⟩
 rw[hg]
 unfold jd elemV ak at hg
 cases e:cf w with
 | false=>
   rw[e] at hR hg
   obtain rfl:false=g:=hg
   obtain⟨⟨l,m⟩,st,⟨d1,d2,d3,d4⟩,⟨a,b,c,d⟩,ta,bu,cs⟩:=w
   refine ah.af (rvs:=[.tmp 4,.tmp 5]) G aa Tryz.func112 rfl Tryz.ntmps112 rfl rfl ?_;with_reducible refine wD ?_
   repeat' (first
  |refine gK ?_|refine aE ?_ ?_
  | (((with_reducible refine kQ 19 ?_);refine aj.lit [] hR gZ ⟨
   ⟨rfl,rfl,rfl,rfl,rfl,rfl,rfl,rfl,rfl,rfl,rfl,rfl,rfl,rfl,trivial⟩
   ,trivial⟩ rfl rfl ?_)<;>with_reducible refine wK ?_)
  | apply trivial)
   all_goals first|rfl|trivial
 | true=>
   rw[e] at hR hg
   by_cases e1:0≤n
   ·by_cases e2:n< (w.f.nodes.length:Int)
    ·rw[decide_eq_true e1,decide_eq_true e2] at hg
     obtain⟨k,rfl⟩:∃k:Nat,n=k:=⟨n.toNat,by omega⟩
     obtain⟨x,hx⟩:∃x,w.f.nodes[k]? =some x:=⟨_,List.getElem?_eq_getElem (by omega)⟩
     rw[cZ hx] at hg
     obtain⟨x0,x1,x2,x3,x4,x5,x6,x7,x8,x9⟩:=x
     obtain rfl:decide (x0=1)=g:=by simpa using hg
     clear hg
     obtain⟨⟨l,m⟩,st,⟨d1,d2,d3,d4⟩,⟨a,b,c,d⟩,ta,bu,cs⟩:=w
     simp only at hx hlm e2
     refine ah.af (rvs:=[.tmp 4,.tmp 5]) G aa Tryz.func112 rfl Tryz.ntmps112 rfl rfl ?_;with_reducible refine wD ?_
     (have fct:=And.intro hlm (And.intro (eq_true e1) ((eq_true e2)));(repeat' (first
  |refine gF ?_|refine aE ?_ ?_
  | ((first
   | ((with_reducible refine kQ 19 ?_);refine aj.lit [] hR gZ ⟨
     ⟨rfl,rfl,rfl,rfl,rfl,rfl,rfl,rfl,rfl,rfl,rfl,rfl,rfl,rfl,trivial⟩
     ,trivial⟩ rfl rfl ?_)
   |((with_reducible show ay _ _ _ _ _);refine ay.mk k (aS ⟨x0,x1,x2,x3,x4,x5,x6,x7,x8,x9⟩) rfl (aG hx) ?_))<;>with_reducible refine wK ?_)
  | apply trivial));all_goals clear fct)
     all_goals first|rfl|trivial
    ·rw[decide_eq_true e1,decide_eq_false e2] at hg
     obtain rfl:false=g:=hg
     obtain⟨⟨l,m⟩,st,⟨d1,d2,d3,d4⟩,⟨a,b,c,d⟩,ta,bu,cs⟩:=w
     simp only at hlm e2
     refine ah.af (rvs:=[.tmp 4,.tmp 5]) G aa Tryz.func112 rfl Tryz.ntmps112 rfl rfl ?_;with_reducible refine wD ?_
     (have fct:=And.intro hlm (And.intro (eq_true e1) ((eq_false e2)));(repeat' (first
  |refine gF ?_|refine aE ?_ ?_
  | (((with_reducible refine kQ 19 ?_);refine aj.lit [] hR gZ ⟨
     ⟨rfl,rfl,rfl,rfl,rfl,rfl,rfl,rfl,rfl,rfl,rfl,rfl,rfl,rfl,trivial⟩
     ,trivial⟩ rfl rfl ?_)<;>with_reducible refine wK ?_)
  | apply trivial));all_goals clear fct)
     all_goals first|rfl|trivial
   ·rw[decide_eq_false e1] at hg
    obtain rfl:false=g:=hg
    obtain⟨⟨l,m⟩,st,⟨d1,d2,d3,d4⟩,⟨a,b,c,d⟩,ta,bu,cs⟩:=w
    refine ah.af (rvs:=[.tmp 4,.tmp 5]) G aa Tryz.func112 rfl Tryz.ntmps112 rfl rfl ?_;with_reducible refine wD ?_
    (have fct:=(eq_false e1);(repeat' (first
  |refine gF ?_|refine aE ?_ ?_
  | (((with_reducible refine kQ 19 ?_);refine aj.lit [] hR gZ ⟨
    ⟨rfl,rfl,rfl,rfl,rfl,rfl,rfl,rfl,rfl,rfl,rfl,rfl,rfl,rfl,trivial⟩
    ,trivial⟩ rfl rfl ?_)<;>with_reducible refine wK ?_)
  | apply trivial));all_goals clear fct)
    all_goals first|rfl|trivial
end Go.Proofs.Heir
namespace Go.Proofs.Heir
open Go Go.Am Go.RowKit Go.Lib
set_option maxRecDepth 100000
set_option maxHeartbeats 8000000
set_option maxHeartbeats 16000000
theorem vq (w:ai)(hst:w.states.length≤100000)(k:Nat)(ph df:Int)(hk:k<w.states.length):ah Tryz.prog 113 [mW w] [.ptr 0 0 0,aq k,aq ph,aq df] [mW (bE w k ph df)] (.tup []):=by
 have hcl:=A0 w.states hst
 obtain⟨⟨s1,s2,s3,s4⟩,hs⟩:∃x,w.states[k]? =some x:=⟨_,List.getElem?_eq_getElem hk⟩
 have hq:bE w k ph df={w with states:=w.states.set k ⟨ph,df,s3,s4⟩}:=by
  unfold bE;rw[bX hs,Int.toNat_natCast];rfl
 rw[hq]
 clear hq
 obtain⟨⟨l,m⟩,st,⟨d1,d2,d3,d4⟩,⟨a,b,c,d⟩,ta,bu,cs⟩:=w
 simp only at hcl hs hk ⊢
 have hlm:(st.map bG).length=st.length:=List.length_map ..
 refine ah.af (rvs:=[]) G aa Tryz.func113 rfl Tryz.ntmps113 rfl rfl ?_;with_reducible refine wD ?_
 (have fct:=hlm;(repeat' (first
  |refine gF ?_|refine aE ?_ ?_
  | ((first
   |((with_reducible refine kQ 102 ?_);refine aj.new 141 [] hcl N6 ⟨rfl,trivial⟩ rfl rfl rfl (oZ _) rfl ?_)
   |((with_reducible show nZ _ _ _ _ _);refine nZ.mk k rfl (by omega) ?_)
   |((with_reducible show cB _ _ _ _ _);first|refine cB.mk (aX ⟨s1,s2,s3,s4⟩) (by rw[Nat.zero_add];exact aM hs) ?_|refine cB.mk (aX ⟨ph,s2,s3,s4⟩) (by rw[Nat.zero_add,List.getElem?_set_self (by omega)]) ?_))<;>with_reducible refine wK ?_)
  |apply trivial));all_goals clear fct)
 all_goals first
  |rfl
  | (refine iv rfl rfl ?_ ?_
     ·simp only[Nat.zero_add,List.set_set,List.map_set];rfl
     ·simp)
theorem uq (w:ai)(hs:bh w)(R:aP w)(k:Nat)(hk:k<w.states.length):ah Tryz.prog 123 [mW w] [.ptr 0 0 0,aq k] [mW (di w k)] (.tup []):=by
 have hq:=vq w (by have:=hs.st;omega) k 4 (-1) hk
 have hd:=GD w.line (hs.l.mono (by omega)) k
 have hi:dG w.line k=true:=by
  have h1:=R.tl
  have h2:=R.sl
  unfold dG;simp;omega
 rw[zj (by rw[R.ln,hi];rfl)] at hd
 have e:di w k={w with states:=(bE w k 4 (-1)).states,line:=jJ w.line k}:=rfl
 have e2:bE w k 4 (-1)={w with states:=(bE w k 4 (-1)).states}:=rfl
 rw[e2] at hq
 rw[e]
 clear e e2 R hs hi
 generalize(bE w k 4 (-1)).states=st' at*
 generalize jJ w.line k=v at*
 obtain⟨a',b',c',d'⟩:=v
 obtain⟨⟨l,m⟩,st,⟨d1,d2,d3,d4⟩,⟨a,b,c,d⟩,ta,bu,cs⟩:=w
 simp only at hq hd ⊢
 refine ah.af (rvs:=[]) G aa Tryz.func123 rfl Tryz.ntmps123 rfl rfl ?_;with_reducible refine wD ?_
 repeat' (first
  |refine gK ?_|refine aE ?_ ?_
  | ((first
   | ((with_reducible refine kQ 113 ?_);refine aj.gd (news:=[mW ⟨⟨l,m⟩,st',⟨d1,d2,d3,d4⟩,⟨a,b,c,d⟩,ta,bu,cs⟩]) [0] [] hq Iv ⟨⟨rfl,rfl⟩,rfl,rfl,rfl,trivial⟩ ⟨⟨rfl,.inr ⟨⟨
    ⟨rfl,rfl,rfl,rfl,rfl,rfl,rfl,rfl,rfl,rfl,rfl,rfl,rfl,rfl,trivial⟩
    ,trivial⟩,rfl⟩⟩,trivial⟩ rfl ⟨⟨rfl,rfl⟩,rfl⟩ rfl ⟨⟨rfl,.inr ⟨rfl,rfl,rfl⟩⟩,trivial⟩ rfl rfl ?_)
   |((with_reducible refine kQ 191 ?_);refine cV hd Rm ?_))<;>with_reducible refine wK ?_)
  |apply trivial)
 all_goals first|rfl|trivial
theorem B8 (w:ai)(hs:bh w)(hl:kV 80000 w.line)(ht:w.tasks.length≤80000)(k:Nat)(hk:k<w.states.length):ah Tryz.prog 124 [mW w] [.ptr 0 0 0,aq k] [mW (eC w k)] (.tup []):=by
 have hq:=vq w (by have:=hs.st;omega) k 3 (eI w.states k).df hk
 have hT:=wQ (bE w k 3 (eI w.states k).df) (kr hs k 3 _) hl ht w.f hs.f [] (by decide)
 have e:eC w k=(jG (bE w k 3 (eI w.states k).df) w.f []).1:=rfl
 rw[e]
 clear e
 generalize jG (bE w k 3 (eI w.states k).df) w.f []=T at*
 obtain⟨v,er⟩:=T
 simp only at hT ⊢
 have e2:bE w k 3 (eI w.states k).df={w with states:=(bE w k 3 (eI w.states k).df).states}:=rfl
 rw[e2] at hq hT
 clear e2 hs hl ht
 obtain⟨⟨s1,s2,s3,s4⟩,hg⟩:∃x,w.states[k]? =some x:=⟨_,List.getElem?_eq_getElem hk⟩
 rw[bX hg] at hq hT
 simp only at hq hT
 generalize(bE w k 3 s2).states=sx at*
 obtain⟨⟨l',m'⟩,st',⟨d1',d2',d3',d4'⟩,⟨a',b',c',d'⟩,ta',bu',cs'⟩:=v
 obtain⟨⟨l,m⟩,st,⟨d1,d2,d3,d4⟩,⟨a,b,c,d⟩,ta,bu,cs⟩:=w
 simp only at hq hT hg hk ⊢
 refine ah.af (rvs:=[]) G aa Tryz.func124 rfl Tryz.ntmps124 rfl rfl ?_;with_reducible refine wD ?_
 repeat' (first
  |refine gK ?_|refine aE ?_ ?_
  | ((first
   |((with_reducible show ay _ _ _ _ _);refine ay.mk k (aX ⟨s1,s2,s3,s4⟩) rfl (aM hg) ?_)
   | ((with_reducible refine kQ 113 ?_);refine aj.gd (news:=[mW ⟨⟨l,m⟩,sx,⟨d1,d2,d3,d4⟩,⟨a,b,c,d⟩,ta,bu,cs⟩]) [0] [] hq Iv ⟨⟨rfl,rfl⟩,rfl,rfl,rfl,trivial⟩ ⟨⟨rfl,.inr ⟨⟨
    ⟨rfl,rfl,rfl,rfl,rfl,rfl,rfl,rfl,rfl,rfl,rfl,rfl,rfl,rfl,trivial⟩
    ,trivial⟩,rfl⟩⟩,trivial⟩ rfl ⟨⟨rfl,rfl⟩,rfl⟩ rfl ⟨⟨rfl,.inr ⟨rfl,rfl,rfl⟩⟩,trivial⟩ rfl rfl ?_)
   |((with_reducible refine kQ 33 ?_);refine aj.val [] hT P5 ⟨
   ⟨rfl,rfl,rfl,rfl,rfl,rfl,rfl,rfl,rfl,rfl,rfl,rfl,rfl,rfl,trivial⟩
   ,⟨rfl,rfl,trivial⟩,.inr (.inr ⟨_,rfl⟩),trivial⟩ rfl rfl rfl ?_))<;>with_reducible refine wK ?_)
  |apply trivial)
 all_goals first|rfl|trivial
theorem iB {w:ai}{n:Int}:jd w n=true↔aP w∧elemV w.f.nodes n=true:=by
 unfold jd;rw[Bool.and_eq_true,bH]
theorem sN {w:ai}(R:aP w){n:Int}(h:elemV w.f.nodes n=true):∃ (k:Nat) (x:au) (s:StateM),n=k∧w.f.nodes[k]? =some x∧x.kind=1∧w.states[k]? =some s∧k<w.states.length∧eI w.states n=s:=by
 obtain⟨k,x,rfl,hx,_,hk⟩:=r8 h
 have h1:=(List.getElem?_eq_some_iff.1 hx).1
 have h2:=R.sl
 have hs:w.states[k]? =some w.states[k]:=List.getElem?_eq_getElem (by omega)
 exact⟨k,x,_,rfl,hx,hk,hs,by omega,bX hs⟩
theorem xS (w:ai)(hs:bh w)(hl:kV 80000 w.line)(ht:w.tasks.length≤80000)(n:Int)(good:Bool):ah Tryz.prog 57 [] [aT w,aq n,aA good] [] (.tup [aT (gN w n good).1,aq (gN w n good).2]):=by
 have ho:=sI w hs n
 cases e:jd w n with
 | false=>
   rw[e] at ho
   have hb:gN w n good=(w,1):=by unfold gN;rw[e];rfl
   rw[hb]
   clear hs hb e hl ht
   obtain⟨⟨l,m⟩,st,⟨d1,d2,d3,d4⟩,⟨a,b,c,d⟩,ta,bu,cs⟩:=w
   refine ah.af (rvs:=[.cell 6 39,.tmp 7]) G aa Tryz.func57 rfl Tryz.ntmps57 rfl rfl ?_;with_reducible refine wD ?_
   repeat' (first
  |refine gK ?_|refine aE ?_ ?_
  | (((with_reducible refine kQ 112 ?_);refine aj.new 130 [] ho oW ⟨
   ⟨rfl,rfl,rfl,rfl,rfl,rfl,rfl,rfl,rfl,rfl,rfl,rfl,rfl,rfl,trivial⟩
   ,rfl,trivial⟩ rfl rfl rfl (gB _) rfl ?_)<;>with_reducible refine wK ?_)
  | apply trivial)
   all_goals first|rfl|trivial
 | true=>
   rw[e] at ho
   obtain⟨R,he⟩:=iB.1 e
   obtain⟨k,x,⟨s1,s2,s3,s4⟩,rfl,_,_,hg,hk,hst⟩:=sN R he
   by_cases e3:s1=2
   ·have hb:gN w k good=if good=true then(eC w k,0) else(di w k,0):=by unfold gN;rw[e,hst,decide_eq_true (show(StateM.mk s1 s2 s3 s4).phase=2 from e3)];rfl
    cases good with
    | false=>
      have hq:=uq w hs R k hk
      rw[hb,if_neg (by simp)]
      clear hs hb e R he hst hl ht
      generalize di w k=v at*
      obtain⟨⟨l',m'⟩,st',⟨d1',d2',d3',d4'⟩,⟨a',b',c',d'⟩,ta',bu',cs'⟩:=v
      obtain⟨⟨l,m⟩,st,⟨d1,d2,d3,d4⟩,⟨a,b,c,d⟩,ta,bu,cs⟩:=w
      simp only at hg
      refine ah.af (rvs:=[.cell 6 39,.tmp 7]) G aa Tryz.func57 rfl Tryz.ntmps57 rfl rfl ?_;with_reducible refine wD ?_
      (have fct:=e3;(repeat' (first
  |refine gF ?_|refine aE ?_ ?_
  | ((first
   | ((with_reducible refine kQ 112 ?_);refine aj.new 130 [] ho oW ⟨
     ⟨rfl,rfl,rfl,rfl,rfl,rfl,rfl,rfl,rfl,rfl,rfl,rfl,rfl,rfl,trivial⟩
     ,rfl,trivial⟩ rfl rfl rfl (gB _) rfl ?_)
   |((with_reducible show ay _ _ _ _ _);refine ay.mk k (aX ⟨s1,s2,s3,s4⟩) rfl (aM hg) ?_)
   | ((with_reducible refine kQ 123 ?_);refine aj.gd (news:=[mW ⟨⟨l',m'⟩,st',⟨d1',d2',d3',d4'⟩,⟨a',b',c',d'⟩,ta',bu',cs'⟩]) [130] [] hq Ok ⟨⟨rfl,rfl⟩,rfl,trivial⟩ ⟨⟨rfl,.inr ⟨⟨
      ⟨rfl,rfl,rfl,rfl,rfl,rfl,rfl,rfl,rfl,rfl,rfl,rfl,rfl,rfl,trivial⟩
      ,trivial⟩,rfl⟩⟩,trivial⟩ rfl ⟨⟨rfl,rfl⟩,rfl⟩ rfl ⟨⟨rfl,.inr ⟨rfl,rfl,rfl⟩⟩,trivial⟩ rfl rfl ?_))<;>with_reducible refine wK ?_)
  | apply trivial));all_goals clear fct)
      all_goals first|rfl|trivial
    | true=>
      have hq:=B8 w hs hl ht k hk
      rw[hb,if_pos rfl]
      clear hs hb e R he hst hl ht
      generalize eC w k=v at*
      obtain⟨⟨l',m'⟩,st',⟨d1',d2',d3',d4'⟩,⟨a',b',c',d'⟩,ta',bu',cs'⟩:=v
      obtain⟨⟨l,m⟩,st,⟨d1,d2,d3,d4⟩,⟨a,b,c,d⟩,ta,bu,cs⟩:=w
      simp only at hg
      refine ah.af (rvs:=[.cell 6 39,.tmp 7]) G aa Tryz.func57 rfl Tryz.ntmps57 rfl rfl ?_;with_reducible refine wD ?_
      (have fct:=e3;(repeat' (first
  |refine gF ?_|refine aE ?_ ?_
  | ((first
   | ((with_reducible refine kQ 112 ?_);refine aj.new 130 [] ho oW ⟨
     ⟨rfl,rfl,rfl,rfl,rfl,rfl,rfl,rfl,rfl,rfl,rfl,rfl,rfl,rfl,trivial⟩
     ,rfl,trivial⟩ rfl rfl rfl (gB _) rfl ?_)
   |((with_reducible show ay _ _ _ _ _);refine ay.mk k (aX ⟨s1,s2,s3,s4⟩) rfl (aM hg) ?_)
   | ((with_reducible refine kQ 124 ?_);refine aj.gd (news:=[mW ⟨⟨l',m'⟩,st',⟨d1',d2',d3',d4'⟩,⟨a',b',c',d'⟩,ta',bu',cs'⟩]) [130] [] hq PJ ⟨⟨rfl,rfl⟩,rfl,trivial⟩ ⟨⟨rfl,.inr ⟨⟨
      ⟨rfl,rfl,rfl,rfl,rfl,rfl,rfl,rfl,rfl,rfl,rfl,rfl,rfl,rfl,trivial⟩
      ,trivial⟩,rfl⟩⟩,trivial⟩ rfl ⟨⟨rfl,rfl⟩,rfl⟩ rfl ⟨⟨rfl,.inr ⟨rfl,rfl,rfl⟩⟩,trivial⟩ rfl rfl ?_))<;>with_reducible refine wK ?_)
  | apply trivial));all_goals clear fct)
      all_goals first|rfl|trivial
   ·have hb:gN w k good=(w,1):=by unfold gN;rw[e,hst,decide_eq_false (show ¬ (StateM.mk s1 s2 s3 s4).phase=2 from e3)];rfl
    rw[hb]
    clear hs hb e R he hst hl ht
    obtain⟨⟨l,m⟩,st,⟨d1,d2,d3,d4⟩,⟨a,b,c,d⟩,ta,bu,cs⟩:=w
    simp only at hg
    refine ah.af (rvs:=[.cell 6 39,.tmp 7]) G aa Tryz.func57 rfl Tryz.ntmps57 rfl rfl ?_;with_reducible refine wD ?_
    (have fct:=(eq_false e3);(repeat' (first
  |refine gF ?_|refine aE ?_ ?_
  | ((first
   | ((with_reducible refine kQ 112 ?_);refine aj.new 130 [] ho oW ⟨
    ⟨rfl,rfl,rfl,rfl,rfl,rfl,rfl,rfl,rfl,rfl,rfl,rfl,rfl,rfl,trivial⟩
    ,rfl,trivial⟩ rfl rfl rfl (gB _) rfl ?_)
   |((with_reducible show ay _ _ _ _ _);refine ay.mk k (aX ⟨s1,s2,s3,s4⟩) rfl (aM hg) ?_))<;>with_reducible refine wK ?_)
  | apply trivial));all_goals clear fct)
    all_goals first|rfl|trivial
end Go.Proofs.Heir
namespace Go.Proofs.Heir
open Go Go.Am Go.RowKit Go.Lib
set_option maxRecDepth 100000
set_option maxHeartbeats 8000000
set_option maxHeartbeats 32000000
theorem jo {w:ai}{n df:Int}(h:cD w n df=false):gm w n df=(w,false):=by unfold gm;rw[h];rfl
theorem ye (w:ai)(due:List bB):(bV w due).1.builds=w.builds:=by
 unfold bV
 split
 ·exact gE ..
 ·rfl
theorem iG (w:ai)(hs:bh w)(n df:Int):ah Tryz.prog 47 [] [aT w,aq n,aq df] [] (.tup [aT (gm w n df).1,aA (gm w n df).2]):=by
 have ho:=sI w hs n
 have hdm:(w.desk.defs.map fH).length=w.desk.defs.length:=List.length_map ..
 cases e:jd w n with
 | false=>
   rw[e] at ho
   rw[jo (by unfold cD;rw[e];rfl)]
   clear hs e
   obtain⟨⟨l,m⟩,st,⟨d1,d2,d3,d4⟩,⟨a,b,c,d⟩,ta,bu,cs⟩:=w
   refine ah.af (rvs:=[.cell 6 39,.tmp 7]) G aa Tryz.func47 rfl Tryz.ntmps47 rfl rfl ?_;with_reducible refine wD ?_
   repeat' (first
  |refine gK ?_|refine aE ?_ ?_
  | (((with_reducible refine kQ 112 ?_);refine aj.new 130 [] ho oW ⟨
      ⟨rfl,rfl,rfl,rfl,rfl,rfl,rfl,rfl,rfl,rfl,rfl,rfl,rfl,rfl,trivial⟩
      ,rfl,trivial⟩ rfl rfl rfl (gB _) rfl ?_)<;>with_reducible refine wK ?_)
  | apply trivial)
   all_goals first|rfl|trivial
 | true =>
   rw[e] at ho
   obtain⟨R,he⟩:=iB.1 e
   obtain⟨k,x,⟨s1,s2,s3,s4⟩,rfl,_,_,hg,hk,hst⟩:=sN R he
   by_cases e1:0≤df
   ·by_cases e2:df< (w.desk.defs.length:Int)
    ·by_cases e3:s1=1
     ·have hok:cD w k df=true:=eO.2 ⟨⟨R,he⟩,by unfold dO;rw[decide_eq_true e1,decide_eq_true e2];rfl,by rw[hst];exact e3⟩
      have hw:gm w k df=(bg w k df,true):=by unfold gm;rw[if_pos hok]
      rw[hw]
      have e9:bg w k df={ (bV (bE w k 2 df) (cC w.f (bE w k 2 df).states w.desk w.classes k)).1 with builds:=(bV (bE w k 2 df) (cC w.f (bE w k 2 df).states w.desk w.classes k)).1.builds++ [⟨df,k⟩]}:=rfl
      rw[e9]
      have hq:=vq w (by have:=hs.st;omega) k 2 df hk
      have hF:=HY w.f hs.f (bE w k 2 df).states w.desk hs.d w.classes hs.cs k
      have hE:=nI (bE w k 2 df) (kr hs k 2 df) (cC w.f (bE w k 2 df).states w.desk w.classes k) (by have:=tR hs.f (bE w k 2 df).states w.desk w.classes k;omega)
      have hB:=ye (bE w k 2 df) (cC w.f (bE w k 2 df).states w.desk w.classes k)
      have hbl:(bE w k 2 df).builds.length≤90000:=hs.bu
      rw[←hB] at hbl
      have e8:bE w k 2 df={w with states:=(bE w k 2 df).states}:=rfl
      generalize bV (bE w k 2 df) (cC w.f (bE w k 2 df).states w.desk w.classes k)=E at*
      generalize cC w.f (bE w k 2 df).states w.desk w.classes k=D at*
      rw[e8] at hq hE
      clear hs e R he hst hok hw e9 e8 hB
      generalize(bE w k 2 df).states=sx at*
      obtain⟨v,er⟩:=E
      simp only at hE hbl
      have hcl:=uQ v.builds (by omega)
      obtain⟨⟨l',m'⟩,st',⟨d1',d2',d3',d4'⟩,⟨a',b',c',d'⟩,ta',bu',cs'⟩:=v
      obtain⟨⟨l,m⟩,st,⟨d1,d2,d3,d4⟩,⟨a,b,c,d⟩,ta,bu,cs⟩:=w
      simp only at hdm hg e2 hq hF hE hcl hbl ⊢
      have hbm:(bu'.map bM).length=bu'.length:=List.length_map ..
      refine ah.af (rvs:=[.cell 6 39,.tmp 7]) G aa Tryz.func47 rfl Tryz.ntmps47 rfl rfl ?_;with_reducible refine wD ?_
      (have fct:=And.intro hdm (And.intro (eq_true e1) (And.intro (eq_true e2) (e3)));(repeat' (first
  |refine gF ?_|refine aE ?_ ?_
  | ((first
   |((with_reducible refine kQ 112 ?_);refine aj.new 130 [] ho oW ⟨
         ⟨rfl,rfl,rfl,rfl,rfl,rfl,rfl,rfl,rfl,rfl,rfl,rfl,rfl,rfl,trivial⟩
         ,rfl,trivial⟩ rfl rfl rfl (gB _) rfl ?_)
   |((with_reducible show ay _ _ _ _ _);refine ay.mk k (aX ⟨s1,s2,s3,s4⟩) rfl (aM hg) ?_)
   |((with_reducible refine kQ 113 ?_);refine aj.gd (news:=[mW ⟨⟨l,m⟩,sx,⟨d1,d2,d3,d4⟩,⟨a,b,c,d⟩,ta,bu,cs⟩]) [130] [] hq Iv ⟨⟨rfl,rfl⟩,rfl,rfl,rfl,trivial⟩
           ⟨⟨rfl,.inr ⟨⟨
                ⟨rfl,rfl,rfl,rfl,rfl,rfl,rfl,rfl,rfl,rfl,rfl,rfl,rfl,rfl,trivial⟩
                ,trivial⟩,rfl⟩⟩,trivial⟩ rfl ⟨⟨rfl,rfl⟩,rfl⟩ rfl ⟨⟨rfl,.inr ⟨rfl,rfl,rfl⟩⟩,trivial⟩ rfl rfl ?_))<;>with_reducible refine wK ?_)
  |apply trivial));all_goals clear fct)
      repeat' (first
  |refine gK ?_|refine aE ?_ ?_
  | ((first
   |((with_reducible refine kQ 49 ?_);refine cV hF RV ?_)
   | ((with_reducible refine kQ 31 ?_);refine aj.val [] hE P4 ⟨
       ⟨rfl,rfl,rfl,rfl,rfl,rfl,rfl,rfl,rfl,rfl,rfl,rfl,rfl,rfl,trivial⟩
       ,rfl,trivial⟩ rfl rfl rfl ?_)
   |((with_reducible refine kQ 114 ?_);refine aj.new 831 [] hcl Ps ⟨rfl,trivial⟩ rfl rfl rfl (uZ _) rfl ?_)
   |((with_reducible show dI _ _ _ _ _ _ _ _ _ _);refine dI.mk (bu'.map bM) [fA ⟨df,k⟩] ⟨rfl,hbm.symm,rfl⟩ ⟨rfl,rfl,rfl⟩ rfl (by simp;omega) (by simp;omega) ?_))<;>with_reducible refine wK ?_)
  |apply  trivial)
      all_goals first
       |rfl
       | (refine vU rfl rfl ?_ ?_
          ·rw[List.map_append];rfl
          ·simp)
       |trivial
     ·rw[jo (by rw[Bool.eq_false_iff];intro h;have:=(eO.1 h).2.2;rw[hst] at this;exact e3 this)]
      clear hs e R he hst
      obtain⟨⟨l,m⟩,st,⟨d1,d2,d3,d4⟩,⟨a,b,c,d⟩,ta,bu,cs⟩:=w
      simp only at hdm hg e2
      refine ah.af (rvs:=[.cell 6 39,.tmp 7]) G aa Tryz.func47 rfl Tryz.ntmps47 rfl rfl ?_;with_reducible refine wD ?_
      (have fct:=And.intro hdm (And.intro (eq_true e1) (And.intro (eq_true e2) ((eq_false e3))));(repeat' (first
  |refine gF ?_|refine aE ?_ ?_
  | ((first
   |((with_reducible refine kQ 112 ?_);refine aj.new 130 [] ho oW ⟨
         ⟨rfl,rfl,rfl,rfl,rfl,rfl,rfl,rfl,rfl,rfl,rfl,rfl,rfl,rfl,trivial⟩
         ,rfl,trivial⟩ rfl rfl rfl (gB _) rfl ?_)
   |((with_reducible show ay _ _ _ _ _);refine ay.mk k (aX ⟨s1,s2,s3,s4⟩) rfl (aM hg) ?_))<;>with_reducible refine wK ?_)
  | apply trivial));all_goals clear fct)
      all_goals first|rfl|trivial
    ·rw[jo (by rw[Bool.eq_false_iff];intro h;have:=(eO.1 h).2.1;unfold dO at this;simp at this;omega)]
     clear hs e R he hst
     obtain⟨⟨l,m⟩,st,⟨d1,d2,d3,d4⟩,⟨a,b,c,d⟩,ta,bu,cs⟩:=w
     simp only at hdm e2
     refine ah.af (rvs:=[.cell 6 39,.tmp 7]) G aa Tryz.func47 rfl Tryz.ntmps47 rfl rfl ?_;with_reducible refine wD ?_
     (have fct:=And.intro hdm (And.intro (eq_true e1) ((eq_false e2)));(repeat' (first
  |refine gF ?_|refine aE ?_ ?_
  |(((with_reducible refine kQ 112 ?_);refine aj.new 130 [] ho oW ⟨
        ⟨rfl,rfl,rfl,rfl,rfl,rfl,rfl,rfl,rfl,rfl,rfl,rfl,rfl,rfl,trivial⟩
        ,rfl,trivial⟩ rfl rfl rfl (gB _) rfl ?_)<;>with_reducible refine wK ?_)
  | apply trivial));all_goals clear fct)
     all_goals first|rfl|trivial
   ·rw[jo (by rw[Bool.eq_false_iff];intro h;have:=(eO.1 h).2.1;unfold dO at this;simp at this;omega)]
    clear hs e R he hst
    obtain⟨⟨l,m⟩,st,⟨d1,d2,d3,d4⟩,⟨a,b,c,d⟩,ta,bu,cs⟩:=w
    refine ah.af (rvs:=[.cell 6 39,.tmp 7]) G aa Tryz.func47 rfl Tryz.ntmps47 rfl rfl ?_;with_reducible refine wD ?_
    (have fct:=(eq_false e1);(repeat' (first
  |refine gF ?_|refine aE ?_ ?_
  | (((with_reducible refine kQ 112 ?_);refine aj.new 130 [] ho oW ⟨
       ⟨rfl,rfl,rfl,rfl,rfl,rfl,rfl,rfl,rfl,rfl,rfl,rfl,rfl,rfl,trivial⟩
       ,rfl,trivial⟩ rfl rfl rfl (gB _) rfl ?_)<;>with_reducible refine wK ?_)
  | apply trivial));all_goals clear fct)
    all_goals first|rfl|trivial
theorem Ir {w:ai}{n:Int}{s:ByteArray}{doc:Int}{k:Nat}{x:au}(hr:cf w=true)(hn:n=k)(hx:w.f.nodes[k]? =some x):rU w n s doc=if Js x s doc=true then 0 else 5:=by
 subst hn
 unfold rU
 rw[hr,dj hx,cZ hx];rfl
theorem Br (w:ai)(hs:bh w)(n:Int)(s:ByteArray)(doc:Int):ah Tryz.prog 56 [] [aT w,aq n,cm s,aq doc] [] (aq (rU w n s doc)):=by
 have hR:=cr w hs
 have hlm:(w.f.nodes.map bZ).length=w.f.nodes.length:=List.length_map ..
 cases e:cf w with
 | false=>
   rw[e] at hR
   have hf:rU w n s doc=1:=by unfold rU;rw[e];rfl
   rw[hf]
   clear hs e hf
   obtain⟨⟨l,m⟩,st,⟨d1,d2,d3,d4⟩,⟨a,b,c,d⟩,ta,bu,cs⟩:=w
   refine ah.af (rvs:=[.tmp 8]) G aa Tryz.func56 rfl Tryz.ntmps56 rfl rfl ?_;with_reducible refine wD ?_
   repeat' (first
  |refine gK ?_|refine aE ?_ ?_
  | (((with_reducible refine kQ 19 ?_);refine aj.lit [] hR gZ ⟨
   ⟨rfl,rfl,rfl,rfl,rfl,rfl,rfl,rfl,rfl,rfl,rfl,rfl,rfl,rfl,trivial⟩
   ,trivial⟩ rfl rfl ?_)<;>with_reducible refine wK ?_)
  |apply trivial)
 | true =>
   rw[e] at hR
   by_cases e1:0≤n
   ·by_cases e2:n< (w.f.nodes.length:Int)
    ·obtain⟨k,rfl⟩:∃k:Nat,n=k:=⟨n.toNat,by omega⟩
     obtain⟨x,hx⟩:∃x,w.f.nodes[k]? =some x:=⟨_,List.getElem?_eq_getElem (by omega)⟩
     rw[Ir e rfl hx]
     obtain⟨g,hg⟩:∃g,Js x s doc=g:=⟨_,rfl⟩
     rw[hg]
     unfold Js at hg
     obtain⟨x0,x1,x2,x3,x4,x5,x6,x7,x8,x9⟩:=x
     simp only at hg
     have h4:(x4.map eN).length=x4.length:=List.length_map ..
     have h6:(x6.map bF).length=x6.length:=List.length_map ..
     have k4:decide (x4.length=0)=!decide ((0:Int)< (x4.length:Int)):=by
      by_cases q:x4.length=0
      ·rw[decide_eq_true q,decide_eq_false (by omega)];rfl
      ·rw[decide_eq_false q,decide_eq_true (by omega)];rfl
     have k6:decide (x6.length=0)=!decide ((0:Int)< (x6.length:Int)):=by
      by_cases q:x6.length=0
      ·rw[decide_eq_true q,decide_eq_false (by omega)];rfl
      ·rw[decide_eq_false q,decide_eq_true (by omega)];rfl
     rw[k4,k6] at hg
     clear hs e k4 k6
     obtain⟨⟨l,m⟩,st,⟨d1,d2,d3,d4⟩,⟨a,b,c,d⟩,ta,bu,cs⟩:=w
     simp only at hx hlm e2
     refine ah.af (rvs:=[.tmp 8]) G aa Tryz.func56 rfl Tryz.ntmps56 rfl rfl ?_;with_reducible refine wD ?_
     (have fct:=And.intro hlm (And.intro h4 (And.intro h6 (And.intro (eq_true e1) ((eq_true e2)))));(repeat' (first
  |refine gF ?_|refine aE ?_ ?_
  | ((first
   | ((with_reducible refine kQ 19 ?_);refine aj.lit [] hR gZ ⟨
     ⟨rfl,rfl,rfl,rfl,rfl,rfl,rfl,rfl,rfl,rfl,rfl,rfl,rfl,rfl,trivial⟩
     ,trivial⟩ rfl rfl ?_)
   |((with_reducible show ay _ _ _ _ _);refine ay.mk k (aS ⟨x0,x1,x2,x3,x4,x5,x6,x7,x8,x9⟩) rfl (aG hx) ?_))<;>with_reducible refine wK ?_)
  |apply  trivial));all_goals clear fct)
     by_cases c1:x0=1
     ·by_cases c2:x1=s
      ·by_cases c3:x9=doc
       ·by_cases c4:(0:Int)< (x4.length:Int)
        ·obtain rfl:false=g:=by rw[←hg,decide_eq_true c4];simp
         have g4:decide ((0:Int)< ((x4.map eN).length:Int))=true:=decide_eq_true (by omega)
         (have fct:=And.intro h4 (And.intro h6 (And.intro (eq_true c1) (And.intro (eq_true c2) (And.intro (eq_true c3) ((eq_true c4))))));(repeat' (first
  |refine gF ?_|refine aE ?_ ?_
  |apply  trivial));all_goals clear fct)
         all_goals first|rfl|(simp;done)
        ·have g4:decide ((0:Int)< ((x4.map eN).length:Int))=false:=decide_eq_false (by omega)
         by_cases c5:(0:Int)< (x6.length:Int)
         ·have g5:decide ((0:Int)< ((x6.map bF).length:Int))=true:=decide_eq_true (by omega)
          obtain rfl:false=g:=by rw[←hg,decide_eq_true c5];simp
          (have fct:=And.intro h4 (And.intro h6 (And.intro (eq_true c1) (And.intro (eq_true c2) (And.intro (eq_true c3) (And.intro (eq_false c4) ((eq_true c5)))))));(repeat' (first
  |refine gF ?_|refine aE ?_ ?_
  |apply  trivial));all_goals clear fct)
          all_goals first|rfl|(simp;done)
         ·have g5:decide ((0:Int)< ((x6.map bF).length:Int))=false:=decide_eq_false (by omega)
          by_cases c6:x5=-1
          ·obtain rfl:true=g:=by rw[←hg,decide_eq_true c1,decide_eq_true c2,decide_eq_true c3,decide_eq_false c4,decide_eq_false c5,decide_eq_true c6];rfl
           (have fct:=And.intro h4 (And.intro h6 (And.intro (eq_true c1) (And.intro (eq_true c2) (And.intro (eq_true c3) (And.intro (eq_false c4) (And.intro (eq_false c5) ((eq_true c6))))))));(repeat' (first
  |refine gF ?_|refine aE ?_ ?_
  |apply  trivial));all_goals clear fct)
           all_goals first|rfl|(simp;done)
          ·obtain rfl:false=g:=by rw[←hg,decide_eq_false c6];simp
           (have fct:=And.intro h4 (And.intro h6 (And.intro (eq_true c1) (And.intro (eq_true c2) (And.intro (eq_true c3) (And.intro (eq_false c4) (And.intro (eq_false c5) ((eq_false c6))))))));(repeat' (first
  |refine gF ?_|refine aE ?_ ?_
  |apply trivial));all_goals clear fct)
           all_goals first|rfl|(simp;done)
       ·obtain rfl:false=g:=by rw[←hg,decide_eq_false c3];simp
        (have fct:=And.intro (eq_true c1) (And.intro (eq_true c2) ((eq_false c3)));(repeat' (first
  |refine gF ?_|refine aE ?_ ?_
  |apply trivial));all_goals clear fct)
        all_goals first|rfl|(simp;done)
      ·obtain rfl:false=g:=by rw[←hg,decide_eq_false c2];simp
       (have fct:=And.intro (eq_true c1) ((eq_false c2));(repeat' (first
  |refine gF ?_|refine aE ?_ ?_
  |apply trivial));all_goals clear fct)
       all_goals first|rfl|(simp;done)
     ·obtain rfl:false=g:=by rw[←hg,decide_eq_false c1];simp
      (have fct:=(eq_false c1);(repeat' (first
  |refine gF ?_|refine aE ?_ ?_
  | apply trivial));all_goals clear fct)
      all_goals first|rfl|(simp;done)
    ·have hf:rU w n s doc=1:=by unfold rU ak;rw[decide_eq_false e2,Bool.and_false,Bool.and_false];rfl
     rw[hf]
     clear hs e hf
     obtain⟨⟨l,m⟩,st,⟨d1,d2,d3,d4⟩,⟨a,b,c,d⟩,ta,bu,cs⟩:=w
     simp only at hlm e2
     refine ah.af (rvs:=[.tmp 8]) G aa Tryz.func56 rfl Tryz.ntmps56 rfl rfl ?_;with_reducible refine wD ?_
     (have fct:=And.intro hlm (And.intro (eq_true e1) ((eq_false e2)));(repeat' (first
  |refine gF ?_|refine aE ?_ ?_
  | (((with_reducible refine kQ 19 ?_);refine aj.lit [] hR gZ ⟨
     ⟨rfl,rfl,rfl,rfl,rfl,rfl,rfl,rfl,rfl,rfl,rfl,rfl,rfl,rfl,trivial⟩
     ,trivial⟩ rfl rfl ?_)<;>with_reducible refine wK ?_)
  | apply trivial));all_goals clear fct)
   ·have hf:rU w n s doc=1:=by unfold rU ak;rw[decide_eq_false e1,Bool.false_and,Bool.and_false];rfl
    rw[hf]
    clear hs e hf
    obtain⟨⟨l,m⟩,st,⟨d1,d2,d3,d4⟩,⟨a,b,c,d⟩,ta,bu,cs⟩:=w
    refine ah.af (rvs:=[.tmp 8]) G aa Tryz.func56 rfl Tryz.ntmps56 rfl rfl ?_;with_reducible refine wD ?_
    (have fct:=(eq_false e1);(repeat' (first
  |refine gF ?_|refine aE ?_ ?_
  | (((with_reducible refine kQ 19 ?_);refine aj.lit [] hR gZ ⟨
    ⟨rfl,rfl,rfl,rfl,rfl,rfl,rfl,rfl,rfl,rfl,rfl,rfl,rfl,rfl,trivial⟩
    ,trivial⟩ rfl rfl ?_)<;>with_reducible refine wK ?_)
  |apply trivial));all_goals clear fct)
theorem DM {f:ForM}(h:bS f.nodes)(hl:f.nodes.length≤63){s is:ByteArray}{doc:Int}(hz:(ek s).size≤300):bS (eX f (cE s is doc)).1.nodes:=by
 unfold eX
 split
 ·split
  ·exact h
  ·exact vV h hl (y:=cU f (cE s is doc)) (Nat.zero_le _) (Nat.zero_le _) hz
 ·exact h
theorem Co (w:ai)(hs:bh w)(h63:w.f.nodes.length≤63)(hl:kV 80000 w.line)(ht:w.tasks.length≤80000)(s is:ByteArray)(hz:(ek s).size≤300)(doc:Int):
  ah Tryz.prog 55 [] [aT w,cm s,cm is,aq doc] [] (.tup [aT (gb w s is doc).1,aq (gb w s is doc).2.1,aq (gb w s is doc).2.2]):=by
 have hR:=cr w hs
 have h81:=wN s
 have h41:=Kr ⟨#[]⟩ is
 have h109:=vB is
 have hlm:(w.f.nodes.map bZ).length=w.f.nodes.length:=List.length_map ..
 cases e:cf w with
 | false=>
   rw[e] at hR
   have hb:gb w s is doc=(w,-1,1):=by unfold gb;rw[e];rfl
   rw[hb]
   clear hs e hb hl ht h63
   obtain⟨⟨l,m⟩,st,⟨d1,d2,d3,d4⟩,⟨a,b,c,d⟩,ta,bu,cs⟩:=w
   refine ah.af (rvs:=[.cell 8 39,.tmp 9,.tmp 10]) G aa Tryz.func55 rfl Tryz.ntmps55 rfl rfl ?_;with_reducible refine wD ?_
   repeat' (first
  |refine gK ?_|refine aE ?_ ?_
  | ((first
   |((with_reducible refine kQ 81 ?_);refine cV h81 zo ?_)
   | ((with_reducible refine kQ 19 ?_);refine aj.lit [] hR gZ ⟨
       ⟨rfl,rfl,rfl,rfl,rfl,rfl,rfl,rfl,rfl,rfl,rfl,rfl,rfl,rfl,trivial⟩
       ,trivial⟩ rfl rfl ?_))<;>with_reducible refine wK ?_)
  | apply trivial)
   all_goals first|rfl|trivial
 | true =>
   rw[e] at hR
   by_cases e1:0≤doc
   ·by_cases e2:doc< (w.f.nodes.length:Int)
    ·obtain⟨k,rfl⟩:∃k:Nat,doc=k:=⟨doc.toNat,by omega⟩
     obtain⟨x,hx⟩:∃x,w.f.nodes[k]? =some x:=⟨_,List.getElem?_eq_getElem (by omega)⟩
     have hb0:gb w s is k=if x.kind=0 then(if kZ s is=true then(if(eX w.f (cE s is k)).2.2=0 then((jG w (eX w.f (cE s is k)).1 []).1,(eX w.f (cE s is k)).2.1,(jG w (eX w.f (cE s is k)).1 []).2) else(w,-1,(eX w.f (cE s is k)).2.2)) else(w,-1,4)) else(w,-1,5):=by
      unfold gb;rw[e,dj hx,cZ hx];rfl
     rw[hb0]
     clear hb0
     obtain⟨x0,x1,x2,x3,x4,x5,x6,x7,x8,x9⟩:=x
     simp only
     by_cases e3:x0=0
     ·rw [if_pos e3]
      obtain⟨bo,hbo⟩:∃bo,qp ⟨#[]⟩ is=bo:=⟨_,rfl⟩
      obtain⟨cu,hcu⟩:∃cu,cK is=cu:=⟨_,rfl⟩
      obtain⟨rs,hrs⟩:∃rs,bO s=rs:=⟨_,rfl⟩
      have hbo0:kZ s is=(rs&& !(decide (bo=1)&& !cu)):=by unfold kZ;rw[hbo,hcu,hrs]
      rw[hbo] at h41
      rw[hcu] at h109
      rw[hrs] at h81
      have hM:=CU w.f hs.f (cE s is k) (Nat.zero_le _) rfl
      have hMs:=DM hs.f h63 (is:=is) (doc:=k) hz
      have hT:=wQ w hs hl ht (eX w.f (cE s is k)).1 hMs [] (by decide)
      clear hMs hbo hcu hrs
      unfold cE at hM
      cases rs with
      | false=>
        rw[if_neg (by rw[hbo0];simp)]
        clear hs e hl ht h63 hM hT hbo0
        obtain⟨⟨l,m⟩,st,⟨d1,d2,d3,d4⟩,⟨a,b,c,d⟩,ta,bu,cs⟩:=w
        simp only at hx hlm e2
        refine ah.af (rvs:=[.cell 8 39,.tmp 9,.tmp 10]) G aa Tryz.func55 rfl Tryz.ntmps55 rfl rfl ?_;with_reducible refine wD ?_
        (have fct:=And.intro hlm (And.intro (eq_true e1) (And.intro (eq_true e2) (e3)));(repeat' (first
  |refine gF ?_|refine aE ?_ ?_
  | ((first
   |((with_reducible refine kQ 81 ?_);refine cV h81 zo ?_)
   |((with_reducible refine kQ 19 ?_);refine aj.lit [] hR gZ ⟨
           ⟨rfl,rfl,rfl,rfl,rfl,rfl,rfl,rfl,rfl,rfl,rfl,rfl,rfl,rfl,trivial⟩
           ,trivial⟩ rfl rfl ?_)
   |((with_reducible show ay _ _ _ _ _);refine ay.mk k (aS ⟨x0,x1,x2,x3,x4,x5,x6,x7,x8,x9⟩) rfl (aG hx) ?_)
   |((with_reducible refine kQ 41 ?_);refine cL h41 M5 ?_)
   |((with_reducible refine kQ 109 ?_);refine cL h109 kJ ?_))<;>with_reducible refine wK ?_)
  |apply  trivial));all_goals clear fct)
        all_goals first|rfl|trivial
      | true=>
        by_cases hok:(decide (bo=1)&& !cu)=true
        ·rw[if_neg (by rw[hbo0,hok];simp)]
         obtain⟨hk1,hk2⟩:bo=1∧cu=false:=by simpa using hok
         subst hk2
         clear hs e hl ht h63 hM hT hbo0 hok
         obtain⟨⟨l,m⟩,st,⟨d1,d2,d3,d4⟩,⟨a,b,c,d⟩,ta,bu,cs⟩:=w
         simp only at hx hlm e2
         refine ah.af (rvs:=[.cell 8 39,.tmp 9,.tmp 10]) G aa Tryz.func55 rfl Tryz.ntmps55 rfl rfl ?_;with_reducible refine wD ?_
         (have fct:=And.intro hlm (And.intro (eq_true e1) (And.intro (eq_true e2) (And.intro e3 (hk1))));(repeat' (first
  |refine gF ?_|refine aE ?_ ?_
  | ((first
   |((with_reducible refine kQ 81 ?_);refine cV h81 zo ?_)
   |((with_reducible refine kQ 19 ?_);refine aj.lit [] hR gZ ⟨
            ⟨rfl,rfl,rfl,rfl,rfl,rfl,rfl,rfl,rfl,rfl,rfl,rfl,rfl,rfl,trivial⟩
            ,trivial⟩ rfl rfl ?_)
   |((with_reducible show ay _ _ _ _ _);refine ay.mk k (aS ⟨x0,x1,x2,x3,x4,x5,x6,x7,x8,x9⟩) rfl (aG hx) ?_)
   |((with_reducible refine kQ 41 ?_);refine cL h41 M5 ?_)
   |((with_reducible refine kQ 109 ?_);refine cL h109 kJ ?_))<;>with_reducible refine wK ?_)
  |apply  trivial));all_goals clear fct)
         all_goals first|rfl|trivial
        ·rw [if_pos (by rw[hbo0,Bool.eq_false_iff.2 hok];rfl)]
         have hkk:¬bo=1∨bo=1∧cu=true:=by
          by_cases q:bo=1
          ·cases cu with
           |true=>exact .inr ⟨q,rfl⟩
           |false=>exact absurd (by rw[q];rfl) hok
          ·exact .inl q
         clear hs e hl ht h63 hbo0 hok
         generalize hGM:eX w.f ⟨1,ek s,is,⟨#[]⟩,[],0,[],0,0,(k:Int)⟩=M at*
         have hGM2:eX w.f (cE s is k)=M:=hGM
         rw[hGM2] at hT ⊢
         clear hGM hGM2
         generalize jG w M.1 []=T at*
         obtain⟨⟨fl,fm⟩,mn,me⟩:=M
         obtain⟨v,te⟩:=T
         simp only at hM hT ⊢
         by_cases e5:me=0
         ·rw[if_pos e5]
          obtain⟨⟨l',m'⟩,st',⟨d1',d2',d3',d4'⟩,⟨a',b',c',d'⟩,ta',bu',cs'⟩:=v
          obtain⟨⟨l,m⟩,st,⟨d1,d2,d3,d4⟩,⟨a,b,c,d⟩,ta,bu,cs⟩:=w
          simp only at hx hlm e2 hM hT
          rcases hkk with q|⟨q,rfl⟩
          ·refine ah.af (rvs:=[.cell 8 39,.tmp 9,.tmp 10]) G aa Tryz.func55 rfl Tryz.ntmps55 rfl rfl ?_;with_reducible refine wD ?_
           (have fct:=And.intro hlm (And.intro (eq_true e1) (And.intro (eq_true e2) (And.intro e3 (And.intro (eq_false q) (e5)))));(repeat' (first
  |refine gF ?_|refine aE ?_ ?_
  | ((first
   |((with_reducible refine kQ 81 ?_);refine cV h81 zo ?_)
   |((with_reducible refine kQ 19 ?_);refine aj.lit [] hR gZ ⟨
              ⟨rfl,rfl,rfl,rfl,rfl,rfl,rfl,rfl,rfl,rfl,rfl,rfl,rfl,rfl,trivial⟩
              ,trivial⟩ rfl rfl ?_)
   |((with_reducible show ay _ _ _ _ _);refine ay.mk k (aS ⟨x0,x1,x2,x3,x4,x5,x6,x7,x8,x9⟩) rfl (aG hx) ?_)
   |((with_reducible refine kQ 41 ?_);refine cL h41 M5 ?_)
   |((with_reducible refine kQ 109 ?_);refine cL h109 kJ ?_)
   |((with_reducible refine kQ 67 ?_);refine aj.val [] hM Pw ⟨⟨rfl,rfl,trivial⟩,⟨rfl,rfl,rfl,rfl,.inr (.inr ⟨_,rfl⟩),rfl,.inr (.inr ⟨_,rfl⟩),rfl,rfl,rfl,trivial⟩,trivial⟩ rfl rfl rfl ?_)
   |((with_reducible refine kQ 33 ?_);refine aj.val [] hT P5 ⟨
           ⟨rfl,rfl,rfl,rfl,rfl,rfl,rfl,rfl,rfl,rfl,rfl,rfl,rfl,rfl,trivial⟩
           ,⟨rfl,rfl,trivial⟩,.inr (.inr ⟨_,rfl⟩),trivial⟩ rfl rfl rfl ?_))<;>with_reducible refine wK ?_)
  |apply  trivial));all_goals clear fct)
           all_goals first|rfl|trivial
          ·refine ah.af (rvs:=[.cell 8 39,.tmp 9,.tmp 10]) G aa Tryz.func55 rfl Tryz.ntmps55 rfl rfl ?_;with_reducible refine wD ?_
           (have fct:=And.intro hlm (And.intro (eq_true e1) (And.intro (eq_true e2) (And.intro e3 (And.intro q (e5)))));(repeat' (first
  |refine gF ?_|refine aE ?_ ?_
  | ((first
   |((with_reducible refine kQ 81 ?_);refine cV h81 zo ?_)
   |((with_reducible refine kQ 19 ?_);refine aj.lit [] hR gZ ⟨
              ⟨rfl,rfl,rfl,rfl,rfl,rfl,rfl,rfl,rfl,rfl,rfl,rfl,rfl,rfl,trivial⟩
              ,trivial⟩ rfl rfl ?_)
   |((with_reducible show ay _ _ _ _ _);refine ay.mk k (aS ⟨x0,x1,x2,x3,x4,x5,x6,x7,x8,x9⟩) rfl (aG hx) ?_)
   |((with_reducible refine kQ 41 ?_);refine cL h41 M5 ?_)
   |((with_reducible refine kQ 109 ?_);refine cL h109 kJ ?_)
   |((with_reducible refine kQ 67 ?_);refine aj.val [] hM Pw ⟨⟨rfl,rfl,trivial⟩,⟨rfl,rfl,rfl,rfl,.inr (.inr ⟨_,rfl⟩),rfl,.inr (.inr ⟨_,rfl⟩),rfl,rfl,rfl,trivial⟩,trivial⟩ rfl rfl rfl ?_)
   |((with_reducible refine kQ 33 ?_);refine aj.val [] hT P5 ⟨
           ⟨rfl,rfl,rfl,rfl,rfl,rfl,rfl,rfl,rfl,rfl,rfl,rfl,rfl,rfl,trivial⟩
           ,⟨rfl,rfl,trivial⟩,.inr (.inr ⟨_,rfl⟩),trivial⟩ rfl rfl rfl ?_))<;>with_reducible refine wK ?_)
  |apply  trivial));all_goals clear fct)
           all_goals first|rfl|trivial
         ·rw[if_neg e5]
          clear hT
          obtain⟨⟨l,m⟩,st,⟨d1,d2,d3,d4⟩,⟨a,b,c,d⟩,ta,bu,cs⟩:=w
          simp only at hx hlm e2 hM
          rcases hkk with q|⟨q,rfl⟩
          ·refine ah.af (rvs:=[.cell 8 39,.tmp 9,.tmp 10]) G aa Tryz.func55 rfl Tryz.ntmps55 rfl rfl ?_;with_reducible refine wD ?_
           (have fct:=And.intro hlm (And.intro (eq_true e1) (And.intro (eq_true e2) (And.intro e3 (And.intro (eq_false q) ((eq_false e5))))));(repeat' (first
  |refine gF ?_|refine aE ?_ ?_
  | ((first
   |((with_reducible refine kQ 81 ?_);refine cV h81 zo ?_)
   |((with_reducible refine kQ 19 ?_);refine aj.lit [] hR gZ ⟨
              ⟨rfl,rfl,rfl,rfl,rfl,rfl,rfl,rfl,rfl,rfl,rfl,rfl,rfl,rfl,trivial⟩
              ,trivial⟩ rfl rfl ?_)
   |((with_reducible show ay _ _ _ _ _);refine ay.mk k (aS ⟨x0,x1,x2,x3,x4,x5,x6,x7,x8,x9⟩) rfl (aG hx) ?_)
   |((with_reducible refine kQ 41 ?_);refine cL h41 M5 ?_)
   |((with_reducible refine kQ 109 ?_);refine cL h109 kJ ?_)
   |((with_reducible refine kQ 67 ?_);refine aj.val [] hM Pw ⟨⟨rfl,rfl,trivial⟩,⟨rfl,rfl,rfl,rfl,.inr (.inr ⟨_,rfl⟩),rfl,.inr (.inr ⟨_,rfl⟩),rfl,rfl,rfl,trivial⟩,trivial⟩ rfl rfl rfl ?_))<;>with_reducible refine wK ?_)
  |apply  trivial));all_goals clear fct)
           all_goals first|rfl|trivial
          ·refine ah.af (rvs:=[.cell 8 39,.tmp 9,.tmp 10]) G aa Tryz.func55 rfl Tryz.ntmps55 rfl rfl ?_;with_reducible refine wD ?_
           (have fct:=And.intro hlm (And.intro (eq_true e1) (And.intro (eq_true e2) (And.intro e3 (And.intro q ((eq_false e5))))));(repeat' (first
  |refine gF ?_|refine aE ?_ ?_
  | ((first
   |((with_reducible refine kQ 81 ?_);refine cV h81 zo ?_)
   |((with_reducible refine kQ 19 ?_);refine aj.lit [] hR gZ ⟨
              ⟨rfl,rfl,rfl,rfl,rfl,rfl,rfl,rfl,rfl,rfl,rfl,rfl,rfl,rfl,trivial⟩
              ,trivial⟩ rfl rfl ?_)
   |((with_reducible show ay _ _ _ _ _);refine ay.mk k (aS ⟨x0,x1,x2,x3,x4,x5,x6,x7,x8,x9⟩) rfl (aG hx) ?_)
   |((with_reducible refine kQ 41 ?_);refine cL h41 M5 ?_)
   |((with_reducible refine kQ 109 ?_);refine cL h109 kJ ?_)
   |((with_reducible refine kQ 67 ?_);refine aj.val [] hM Pw ⟨⟨rfl,rfl,trivial⟩,⟨rfl,rfl,rfl,rfl,.inr (.inr ⟨_,rfl⟩),rfl,.inr (.inr ⟨_,rfl⟩),rfl,rfl,rfl,trivial⟩,trivial⟩ rfl rfl rfl ?_))<;>with_reducible refine wK ?_)
  |apply trivial));all_goals clear fct)
           all_goals first|rfl|trivial
     ·rw[if_neg e3]
      clear hs e hl ht h63
      obtain⟨⟨l,m⟩,st,⟨d1,d2,d3,d4⟩,⟨a,b,c,d⟩,ta,bu,cs⟩:=w
      simp only at hx hlm e2
      refine ah.af (rvs:=[.cell 8 39,.tmp 9,.tmp 10]) G aa Tryz.func55 rfl Tryz.ntmps55 rfl rfl ?_;with_reducible refine wD ?_
      (have fct:=And.intro hlm (And.intro (eq_true e1) (And.intro (eq_true e2) ((eq_false e3))));(repeat' (first
  |refine gF ?_|refine aE ?_ ?_
  | ((first
   |((with_reducible refine kQ 81 ?_);refine cV h81 zo ?_)
   |((with_reducible refine kQ 19 ?_);refine aj.lit [] hR gZ ⟨
          ⟨rfl,rfl,rfl,rfl,rfl,rfl,rfl,rfl,rfl,rfl,rfl,rfl,rfl,rfl,trivial⟩
          ,trivial⟩ rfl rfl ?_)
   |((with_reducible show ay _ _ _ _ _);refine ay.mk k (aS ⟨x0,x1,x2,x3,x4,x5,x6,x7,x8,x9⟩) rfl (aG hx) ?_)
   |((with_reducible refine kQ 41 ?_);refine cL h41 M5 ?_)
   |((with_reducible refine kQ 109 ?_);refine cL h109 kJ ?_))<;>with_reducible refine wK ?_)
  | apply trivial));all_goals clear fct)
      all_goals first|rfl|trivial
    ·have hb:gb w s is doc=(w,-1,1):=by unfold gb ak;rw[decide_eq_false e2,Bool.and_false,Bool.and_false];rfl
     rw[hb]
     clear hs e hb hl ht h63
     obtain⟨⟨l,m⟩,st,⟨d1,d2,d3,d4⟩,⟨a,b,c,d⟩,ta,bu,cs⟩:=w
     simp only at hlm e2
     refine ah.af (rvs:=[.cell 8 39,.tmp 9,.tmp 10]) G aa Tryz.func55 rfl Tryz.ntmps55 rfl rfl ?_;with_reducible refine wD ?_
     (have fct:=And.intro hlm (And.intro (eq_true e1) ((eq_false e2)));(repeat' (first
  |refine gF ?_|refine aE ?_ ?_
  | ((first
   |((with_reducible refine kQ 81 ?_);refine cV h81 zo ?_)
   |((with_reducible refine kQ 19 ?_);refine aj.lit [] hR gZ ⟨
         ⟨rfl,rfl,rfl,rfl,rfl,rfl,rfl,rfl,rfl,rfl,rfl,rfl,rfl,rfl,trivial⟩
         ,trivial⟩ rfl rfl ?_))<;>with_reducible refine wK ?_)
  | apply trivial));all_goals clear fct)
     all_goals first|rfl|trivial
   ·have hb:gb w s is doc=(w,-1,1):=by unfold gb ak;rw[decide_eq_false e1,Bool.false_and,Bool.and_false];rfl
    rw[hb]
    clear hs e hb hl ht h63
    obtain⟨⟨l,m⟩,st,⟨d1,d2,d3,d4⟩,⟨a,b,c,d⟩,ta,bu,cs⟩:=w
    refine ah.af (rvs:=[.cell 8 39,.tmp 9,.tmp 10]) G aa Tryz.func55 rfl Tryz.ntmps55 rfl rfl ?_;with_reducible refine wD ?_
    (have fct:=(eq_false e1);(repeat' (first
  |refine gF ?_|refine aE ?_ ?_
  | ((first
   |((with_reducible refine kQ 81 ?_);refine cV h81 zo ?_)
   |((with_reducible refine kQ 19 ?_);refine aj.lit [] hR gZ ⟨
        ⟨rfl,rfl,rfl,rfl,rfl,rfl,rfl,rfl,rfl,rfl,rfl,rfl,rfl,rfl,trivial⟩
        ,trivial⟩ rfl rfl ?_))<;>with_reducible refine wK ?_)
  | apply trivial));all_goals clear fct)
    all_goals first|rfl|trivial
end Go.Proofs.Heir
namespace Go.Proofs.Heir
open Go Go.Am Go.RowKit Go.Shelf
set_option maxRecDepth 100000
set_option maxHeartbeats 8000000
theorem Ig (l:List aY)(hl:l.length≤100000):Dd Tryz.prog 237 [.fptr (gL l) 0] l.length (fun k=>[bF ((l.length:Int)-1-k),fA ((l.reverse[k]?).getD ⟨0,0⟩)]):=by
 intro vals y J Jx hJ hJm hJxm _ hY Wn w h0
 obtain⟨⟨μ,hr⟩,_⟩:=hJ 0 Wn w h0
 obtain⟨vb,us,rfl,hvb,hus⟩:=bT.oe hr
 obtain rfl:=bT.Fw hus
 obtain⟨b,o,rfl⟩:∃b o,vb=.pointer (some ⟨b,o,none⟩):=by cases hvb;exact⟨_,_,rfl⟩
 have box:∀k Wn W,J k Wn W→∃ad cap,W.cell? ⟨b,o,none⟩=some (.slice ad l.length cap)∧l.length≤cap∧∀ (j:Nat) (x:aY),l[j]? =some x→∃b2 o2,ad=some ⟨b2,o2,none⟩∧W.cell? ⟨b2,o2+j*2,none⟩=some (.int .i64 x.df)∧W.cell? ⟨b2,o2+j*2+1,none⟩=some (.int .i64 x.node):=by
  intro k Wn W hJk
  obtain⟨⟨μ,hr⟩,_⟩:=hJ k Wn W hJk
  obtain⟨v1,us,e,hv1,_⟩:=bT.oe hr
  cases e
  obtain⟨ad,cap,h1,h2,h3⟩:=xO hv1
  rw[List.length_map] at h1 h2
  refine⟨ad,cap,h1,h2,fun j x hx=>?_⟩
  obtain⟨b2,o2,vs,e,hlen,hc,hrep⟩:=h3 j _ (ef hx)
  obtain⟨v0,v1,rfl⟩:=JF hlen
  have r0:=hrep 0 _ _ rfl rfl
  have r1:=hrep 1 _ _ rfl rfl
  have c0:=hc 0 _ rfl
  have c1:=hc 1 _ rfl
  obtain rfl:=r0.val
  obtain rfl:=r1.val
  exact⟨b2,o2,e,c0,c1⟩
 refine(callsIn_wide (n:=1)).1 ?_
 refine callsIn_of_wp Tryz.func237 rfl trivial ?_ rfl
 simp only[Tryz.ntmps237,List.size_toArray,List.length_cons,List.length_nil,Nat.reduceAdd,Nat.reduceSub,Array.replicate_succ,Array.replicate_zero,List.push_toArray,List.append_toArray,List.nil_append,List.cons_append]
 obtain⟨ad,cap,hbx,hcap,hel⟩:=box 0 Wn w h0
 gi_wp2
 gi_loopw [3] (fun i wr=> ∃k:Nat,k≤l.length∧i=.int .i64 ((l.length:Int)-1-k)∧∃Wn,J k Wn wr) (fun i _=>(intOf i+1).toNat)
 case atStart=>exact⟨0,Nat.zero_le _,by simp,Wn,h0⟩
 case round=>
  obtain⟨k,hk,rfl,Wn',hJk⟩:=hrel
  obtain⟨ad',cap',hbx',hcap',hel'⟩:=box k Wn' wr hJk
  by_cases hlt:k<l.length
  ·have hix:l.length-1-k<l.length:=by omega
   obtain⟨⟨x1,x2⟩,hx⟩:∃x,l[l.length-1-k]? =some x:=⟨_,List.getElem?_eq_getElem hix⟩
   obtain⟨b2,o2,rfl,hc0,hc1⟩:=hel' _ _ hx
   simp only at hc0 hc1
   have hrev:(l.reverse[k]?).getD ⟨0,0⟩=⟨x1,x2⟩:=by
    rw[List.getElem?_reverse (by omega),hx];rfl
   obtain⟨fn,tmps,assign,body,hy,hR⟩:=hY k Wn' wr [.int .i64 ((l.length:Int)-1-k),.agg #[.int .i64 x1,.int .i64 x2]] hlt hJk (fun Wn'' μ'' hrA=>by
    rw[hrev]
    refine .cons .lit (.cons (cq.agg (vs:=[.int .i64 x1,.int .i64 x2]) rfl ?_) .nil)
    rintro(_|_|j) c v hc hv
    ·cases hc;cases hv;exact .lit
    ·cases hc;cases hv;exact .lit
    ·simp at hv)
   have hz:((l.length:Int)-1-k).toNat=l.length-1-k:=by omega
   gi_wp2
   refine hR.mono ?_
   rintro e W3 (⟨rfl,Wn3,hJ3,_⟩|⟨rfl,hJx3⟩)
   ·gi_wp2
    go_roundw
    case rel=>exact⟨k+1,by omega,by congr 1;omega,Wn3,hJ3⟩
    case measure=>simp[intOf];omega
   ·gi_wp2
    refine bodyPost_ret (results_none rfl _ _ _) rfl ?_
    exact⟨⟨_,rfl⟩,.inr hJx3⟩
  ·obtain rfl:k=l.length:=by omega
   gi_wp2
   go_end0
   exact⟨⟨_,rfl⟩,.inl ⟨_,hJk⟩⟩
theorem JJ (l:List aY):ah Tryz.prog 189 [] [gL l] [] (.clo (.func 237) [] [.fptr (gL l) 0]):=by
 refine ah.af (rvs:=[.tmp 2]) G aa Tryz.func189 rfl Tryz.ntmps189 rfl rfl ?_;with_reducible refine wD ?_
 refine⟨⟨rfl,rfl⟩,⟨rfl,trivial,⟨_,_,_,_,_,rfl,rfl,rfl,rfl,rfl,rfl⟩,trivial⟩,?_⟩
 exact trivial
end Go.Proofs.Heir
