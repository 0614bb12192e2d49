/- Models, plain laws and contracts of functions of the given program; conditions as stated in each theorem. By an AI agent. -/
import Derived.Test.YtciccajdpmahiaaGreatDoorW7
import Derived.Test.YtciccajdpmahiaaGreatDoorW8
import Derived.Test.YtciccajdpmahiaaGreatDoorW4
import Derived.Test.YtciccajdpmahiaaGreatDoorW5
import Derived.Test.YtciccajdpmahiaaGreatDoorW2
import Derived.Test.YtciccajdpmahiaaGreatDoorRows
import Derived.ProofKit
import Derived.LaidMore
import Derived.OpenShut
import Derived.Stop.Joined
import Derived.Lib.LaidTab
import Derived.MakeChecks
import Derived.Test.YtciccajdpmahiaaGreatDoorW6
set_option linter.unusedSimpArgs false
set_option linter.unusedVariables false
namespace Go.Proofs.Heir
open Go Go.Am Go.RowKit Go.Lib
set_option maxRecDepth 100000
set_option maxHeartbeats 8000000
theorem qR (w:aH)(h1:w.line.todos.length≤100000):af Tryz.prog 20 [] [bk w] [] (aA (qp w)):=by
 have hi:=GL w.line h1
 unfold qp
 generalize nn w.line=g at*
 obtain⟨⟨l,m⟩,st,⟨d1,d2,d3,d4⟩,⟨a,b,c,d⟩,ta,bu,cs⟩:=w
 simp only at hi ⊢
 have n1:(ta.map dO).length=ta.length:=aM ..
 have n2:(bu.map iz).length=bu.length:=aM ..
 by_cases e1:(ta.length:Int)=0
 ·rw [aV (show ta.length=0 by omega)]
  have g1:decide (((ta.map dO).length:Int)=0)=true:=aV (by omega)
  by_cases e2:(bu.length:Int)=0
  ·rw[aV (show bu.length=0 by omega)]
   have g2:decide (((bu.map iz).length:Int)=0)=true:=aV (by omega)
   cases g<;>cases d4<;>
   ·refine af.ah (rvs:=[.tmp 2]) G aa Tryz.func20 rfl Tryz.ntmps20 rfl rfl ?_;with_reducible refine wD ?_
    repeat' (first
  |refine gK ?_|refine aE ?_ ?_
  |(((with_reducible refine kQ 45 ?_);refine cL hi Rq ?_)<;>with_reducible refine wK ?_)
  | apply trivial)
    all_goals first|rfl|(simp;done)
  ·rw[aS (show ¬bu.length=0 by omega)]
   have g2:decide (((bu.map iz).length:Int)=0)=false:=aS (by omega)
   cases g<;>
   ·refine af.ah (rvs:=[.tmp 2]) G aa Tryz.func20 rfl Tryz.ntmps20 rfl rfl ?_;with_reducible refine wD ?_
    repeat' (first
  |refine gK ?_|refine aE ?_ ?_
  |(((with_reducible refine kQ 45 ?_);refine cL hi Rq ?_)<;>with_reducible refine wK ?_)
  | apply trivial)
    all_goals first|rfl|(simp;done)
 ·rw[aS (show ¬ta.length=0 by omega)]
  have g1:decide (((ta.map dO).length:Int)=0)=false:=aS (by omega)
  cases g<;>
  ·refine af.ah (rvs:=[.tmp 2]) G aa Tryz.func20 rfl Tryz.ntmps20 rfl rfl ?_;with_reducible refine wD ?_
   repeat' (first
  |refine gK ?_|refine aE ?_ ?_
  |(((with_reducible refine kQ 45 ?_);refine cL hi Rq ?_)<;>with_reducible refine wK ?_)
  | apply trivial)
   all_goals first|rfl|(simp;done)
theorem Gb (l:cq)(h1:l.todos.length≤100000):af Tryz.prog 76 [] [eT l] [] (aA (nn l)):=by
 have e0:nn l=(l.todos.all (fun t=>decide (t.length=0))&&((decide (l.stack.length=0)&&decide (l.back.length=0))&& !l.busy)):=by
  unfold nn
  have:(!(l.todos.any fun t=>decide (0<t.length)))=l.todos.all (fun t=>decide (t.length=0)):=by
   rw[List.not_any_eq_all_not]
   congr 1
   funext t
   rw[←decide_not,decide_eq_decide];omega
  rw[this]
  cases l.busy<;>cases decide (l.stack.length=0)<;>cases decide (l.back.length=0)<;>simp
 rw[e0]
 obtain⟨a,b,c,d⟩:=l
 simp only at h1 ⊢
 have ham:(a.map bO).length=a.length:=aM ..
 have hbm:(b.map dJ).length=b.length:=aM ..
 have hcm:(c.map bB).length=c.length:=aM ..
 refine af.ah (rvs:=[.tmp 2]) G aa Tryz.func76 rfl Tryz.ntmps76 rfl rfl ?_;with_reducible refine wD ?_
 refine aR.use G aa (fun(k:Nat)=>[(1,.ptr 10 0 0),(3,aj k)]) (fun _=>[(10,Ol ⟨a,b,c,d⟩)]) (fun k=>k≤a.length∧∀ (j:Nat) x,j<k→a[j]? =some x→decide (x.length=0)=true) (fun k=>a.length-k) 0 ⟨Nat.zero_le _,fun j x h=>by omega⟩
  ⟨⟨rfl,rfl⟩,⟨⟨rfl,rfl⟩,rfl,trivial⟩,⟨⟨rfl,rfl,rfl,rfl,trivial⟩,trivial⟩,trivial⟩ ?_
 rintro k ⟨hk,hok⟩
 with_reducible refine wK ?_
 refine aQ.mk (fun h2=>?_) (fun h2=>?_)<;>(try simp only[aq] at h2)<;>with_reducible refine wK ?_
 ·have hk':k<a.length:=by simp only[aL] at h2;omega
  obtain⟨x,hx⟩:∃x,a[k]? =some x:=⟨_,aP hk'⟩
  have hxm:(x.map ef).length=x.length:=aM ..
  clear h2
  by_cases e:(x.length:Int)=0
  ·have g1:(!decide (((x.map ef).length:Int)=0))=false:=by rw[aV (by omega)];rfl
   repeat' (first
  |refine gK ?_|refine aE ?_ ?_
  |(((with_reducible show ak _ _ _ _ _);refine ak.mk k (cJ x) rfl (cM hx) ?_)<;>with_reducible refine wK ?_)
  | apply trivial)
   refine ay.mk (k+1) ⟨by omega,fun j y hj hy=>?_⟩ (by omega) ⟨⟨rfl,rfl⟩,⟨⟨rfl,rfl⟩,by show((k+1:Nat):Int)=(k:Int)+1;omega,trivial⟩,⟨⟨rfl,rfl,rfl,rfl,trivial⟩,trivial⟩,trivial⟩
   rcases Nat.lt_or_ge j k with h6|h6
   ·exact hok j y h6 hy
   ·have:j=k:=by omega
    subst this
    rw[hx] at hy;cases hy;exact aV (by omega)
  ·have g1:(!decide (((x.map ef).length:Int)=0))=true:=by rw[aS (by omega)];rfl
   rw[jS hx (aS (show ¬x.length=0 by omega)),Bool.false_and]
   repeat' (first
  |refine gK ?_|refine aE ?_ ?_
  |(((with_reducible show ak _ _ _ _ _);refine ak.mk k (cJ x) rfl (cM hx) ?_)<;>with_reducible refine wK ?_)
  |apply trivial)
 ·have hkl:k=a.length:=by simp only[bh] at h2;omega
  rw[ja fun j y hy=>hok j y (by have:=(aZ hy).1;omega) hy,Bool.true_and]
  clear h2
  by_cases e1:(b.length:Int)=0
  ·rw[aV (show b.length=0 by omega)]
   have g1:decide (((b.map dJ).length:Int)=0)=true:=aV (by omega)
   by_cases e2:(c.length:Int)=0
   ·rw[aV (show c.length=0 by omega)]
    have g2:decide (((c.map bB).length:Int)=0)=true:=aV (by omega)
    cases d<;>
    ·repeat' (first
  |refine gK ?_|refine aE ?_ ?_
  | apply trivial)
     all_goals first|rfl|(simp;done)
   ·rw[aS (show ¬c.length=0 by omega)]
    have g2:decide (((c.map bB).length:Int)=0)=false:=aS (by omega)
    repeat' (first
  |refine gK ?_|refine aE ?_ ?_
  | apply trivial)
    all_goals first|rfl|(simp;done)
  ·rw[aS (show ¬b.length=0 by omega)]
   have g1:decide (((b.map dJ).length:Int)=0)=false:=aS (by omega)
   repeat' (first
  |refine gK ?_|refine aE ?_ ?_
  | apply trivial)
   all_goals first|rfl|(simp;done)
theorem C5 (w:aH)(h1:w.line.todos.length≤100000):af Tryz.prog 21 [] [bk w] [] (aA (qp w)):=by
 have hi:=Gb w.line h1
 unfold qp
 generalize nn w.line=g at*
 obtain⟨⟨l,m⟩,st,⟨d1,d2,d3,d4⟩,⟨a,b,c,d⟩,ta,bu,cs⟩:=w
 simp only at hi ⊢
 have n1:(ta.map dO).length=ta.length:=aM ..
 have n2:(bu.map iz).length=bu.length:=aM ..
 by_cases e1:(ta.length:Int)=0
 ·rw [aV (show ta.length=0 by omega)]
  have g1:decide (((ta.map dO).length:Int)=0)=true:=aV (by omega)
  by_cases e2:(bu.length:Int)=0
  ·rw[aV (show bu.length=0 by omega)]
   have g2:decide (((bu.map iz).length:Int)=0)=true:=aV (by omega)
   cases g<;>cases d4<;>
   ·refine af.ah (rvs:=[.tmp 2]) G aa Tryz.func21 rfl Tryz.ntmps21 rfl rfl ?_;with_reducible refine wD ?_
    repeat' (first
  |refine gK ?_|refine aE ?_ ?_
  |(((with_reducible refine kQ 76 ?_);refine cL hi TE ?_)<;>with_reducible refine wK ?_)
  | apply trivial)
    all_goals first|rfl|(simp;done)
  ·rw[aS (show ¬bu.length=0 by omega)]
   have g2:decide (((bu.map iz).length:Int)=0)=false:=aS (by omega)
   refine af.ah (rvs:=[.tmp 2]) G aa Tryz.func21 rfl Tryz.ntmps21 rfl rfl ?_;with_reducible refine wD ?_
   repeat' (first
  |refine gK ?_|refine aE ?_ ?_
  | apply trivial)
   all_goals first|rfl|(simp;done)
 ·rw[aS (show ¬ta.length=0 by omega)]
  have g1:decide (((ta.map dO).length:Int)=0)=false:=aS (by omega)
  refine af.ah (rvs:=[.tmp 2]) G aa Tryz.func21 rfl Tryz.ntmps21 rfl rfl ?_;with_reducible refine wD ?_
  repeat' (first
  |refine gK ?_|refine aE ?_ ?_
  |apply trivial)
  all_goals first|rfl|(simp;done)
theorem Da {w:aH}(h:qp w=true):sV w.line=true:=by
 unfold qp nn at h
 simp only[aT,aL] at h
 have h1:w.line.stack=[]:=List.eq_nil_of_length_eq_zero h.1.1.1.1.1.2
 have h2:w.line.back=[]:=List.eq_nil_of_length_eq_zero h.1.1.1.1.2
 unfold sV
 rw[h1,h2];rfl
theorem Iu {m:ML}{fz:Nat→Bool}{cI:List (Nat×Nat)}{n t L k:Nat}{ro:Bool}{rows:List AV}(h1:eC m t=.live 1 rows ro)(h2:fz t=true)(h3:rows=List.replicate k (.lit (.slice none 0 0)))(h4:L=k):o6 m fz (MF cI fz m (n+1)) (ic (List.replicate k [])) t 0 L:=by
 subst h3;subst h4
 refine⟨1,_,ro,(List.replicate L []).map bO,h1,h2,rfl,by simp,cE _,?_,?_⟩
 ·simp
 ·intro i x y hx hy
  rw[List.map_replicate,List.getElem?_replicate] at hx
  rw[List.drop_zero,jH (by simp),List.getElem?_replicate] at hy
  split at hx
  ·rename_i hi
   rw[if_pos hi] at hy
   cases hx;cases hy
   exact(show FZ _ from .inr (.inr ⟨10,rfl⟩))
  ·cases hx
theorem yE (w:aH)(h1:w.line.todos.length≤100000):af Tryz.prog 24 [] [bk w] [] (bk (oJ w)):=by
 unfold oJ
 obtain⟨⟨l,m⟩,st,⟨d1,d2,d3,d4⟩,⟨a,b,c,d⟩,ta,bu,cs⟩:=w
 simp only at h1 ⊢
 have ham:(a.map bO).length=a.length:=aM ..
 refine af.ah (rvs:=[.cell 2 39]) G aa Tryz.func24 rfl Tryz.ntmps24 rfl rfl ?_;with_reducible refine wD ?_
 refine bV.Dn aa (e:=77) (e2:=59) (wd2:=10) (b2:=96) (bytes:=24) a.length 71 rfl rfl rfl (by show AV.lit (.int .i64 ((a.map bO).length:Int))=_;rw[ham]) (by show AV.lit (.int .i64 ((a.map bO).length:Int))=_;rw[ham]) h1 (by omega) rfl (fun d hd=>by cases hd;decide) ?_
 with_reducible refine wK ?_
 repeat' (first
  |refine gK ?_|refine aE ?_ ?_
  |apply trivial)
 all_goals first
  |exact Iu rfl rfl rfl rfl
  |exact .inr (.inr ⟨_,rfl⟩)
theorem Fq (w:aH)(h1:w.line.todos.length≤99000):af Tryz.prog 25 [] [bk w] [] (bk (oJ w)):=by
 have hgr:=fun k (hk:k≤99000)=>s5 ⟨List.replicate k [],[],[],false⟩ (by rw[List.length_replicate];omega)
 have hg2:∀k,jN ⟨List.replicate k [],[],[],false⟩=⟨List.replicate (k+1) [],[],[],false⟩:=fun k=>by
  unfold jN;rw[List.replicate_succ']
 simp only[hg2] at hgr
 clear hg2
 unfold oJ
 obtain⟨⟨l,m⟩,st,⟨d1,d2,d3,d4⟩,⟨a,b,c,d⟩,ta,bu,cs⟩:=w
 simp only at h1 ⊢
 have ham:(a.map bO).length=a.length:=aM ..
 refine af.ah (rvs:=[.cell 2 39]) G aa Tryz.func25 rfl Tryz.ntmps25 rfl rfl ?_;with_reducible refine wD ?_
 refine aR.use G aa (fun(k:Nat)=>[(1,.ptr 10 0 0),(2,.ptr 20 0 0),(3,.ptr 30 0 0),(4,aj k)]) (fun k=>[(10,mW ⟨⟨l,m⟩,st,⟨d1,d2,d3,d4⟩,⟨a,b,c,d⟩,ta,bu,cs⟩),(20,mZ),(30,Ol ⟨List.replicate k [],[],[],false⟩)]) (fun k=>k≤a.length) (fun k=>a.length-k) 0 (Nat.zero_le _) ?_ ?_
 ·(refine fK ?_;(with_reducible repeat' (first|exact trivial|(show _∧_;refine aK ?_ ?_)));(all_goals try rfl))
  all_goals first
   |exact .inl rfl
   |exact .inr (.inr ⟨1,rfl⟩)
 intro k hk
 have hgr:=hgr k (by omega)
 by_cases hk':k<a.length
 ·generalize hR:(List.replicate (k+1) ([]:List bw))=R2 at*
  with_reducible refine wK ?_
  (have fct:=ham;(repeat' (first
  |refine gF ?_|refine aE ?_ ?_
  |(((with_reducible refine kQ 79 ?_);refine cV hgr RV ?_)<;>with_reducible refine wK ?_)
  |apply trivial));all_goals clear fct)
  refine ay.mk (k+1) (by omega) (by omega) ?_
  rw[hR]
  (refine fK ?_;(with_reducible repeat' (first|exact trivial|(show _∧_;refine aK ?_ ?_)));(all_goals try rfl))
  all_goals first
   |exact .inl rfl
   |(simp;done)
 ·obtain rfl:k=a.length:=by omega
  with_reducible refine wK ?_
  (have fct:=ham;(repeat' (first
  |refine gF ?_|refine aE ?_ ?_
  |apply trivial));all_goals clear fct)
  all_goals first
   |exact .inr (.inr ⟨_,rfl⟩)
structure Ae (w:aH):Prop where
 f:oe w.f=true
 st:w.states.length≤60
 d:oW w.desk=true
 l:rj w.line=true
 ta:w.tasks.length≤60
 bu:w.builds.length≤60
 c:lP w.classes=true
 n:qJ w.classes=true
theorem CS {w:aH}:wN w=true↔Ae w:=by
 unfold wN
 simp only[aT,aL]
 exact⟨fun⟨⟨⟨⟨⟨⟨⟨a,b⟩,c⟩,d⟩,e⟩,f⟩,g⟩,h⟩=>⟨a,b,c,d,e,f,g,h⟩,fun h=>⟨⟨⟨⟨⟨⟨⟨h.f,h.st⟩,h.d⟩,h.l⟩,h.ta⟩,h.bu⟩,h.c⟩,h.n⟩⟩
theorem Ck {l:cq}(h:rj l=true):rF 60 l:=by
 unfold rj at h
 simp only[aT,aL,List.all_eq_true] at h
 obtain⟨⟨⟨⟨h1,h2⟩,h3⟩,h4⟩,h5⟩:=h
 exact⟨h1,h4,by omega,h5,h3⟩
theorem Ae.small {w:aH}(h:Ae w):cW w:=by
 have hc:=h.c
 unfold lP at hc
 simp only[aT,aL] at hc
 have hn:=h.n
 unfold qJ at hn
 simp only[List.all_eq_true,aL] at hn
 have h1:=h.st
 have h2:=h.ta
 have h3:=h.bu
 exact⟨mM h.f,by omega,(qF.1 h.d).small,(Ck h.l).mono (by omega),by omega,by omega,by omega,nP h.c,hn⟩
theorem Cq (l:cq):af Tryz.prog 69 [] [eT l] [] (aA (rj l)):=by
 unfold rj
 obtain⟨a,b,c,d⟩:=l
 simp only
 have ham:(a.map bO).length=a.length:=aM ..
 have hbm:(b.map dJ).length=b.length:=aM ..
 have hcm:(c.map bB).length=c.length:=aM ..
 refine af.ah (rvs:=[.tmp 2]) G aa Tryz.func69 rfl Tryz.ntmps69 rfl rfl ?_;with_reducible refine wD ?_
 by_cases e1:(60:Int)< (a.length:Int)
 ·rw[aS (show ¬a.length≤60 by omega)]
  (have fct:=And.intro ham (e1);(repeat' (first
  |refine gF ?_|refine aE ?_ ?_
  |apply trivial));all_goals clear fct)
  all_goals first|rfl|(simp;done)
 by_cases e2:(30:Int)< (b.length:Int)
 ·rw[aS (show ¬b.length≤30 by omega),Bool.and_false]
  (have fct:=And.intro ham (And.intro hbm (And.intro (eq_false e1) (e2)));(repeat' (first
  |refine gF ?_|refine aE ?_ ?_
  |apply trivial));all_goals clear fct)
  all_goals first|rfl|(simp;done)
 by_cases e3:(60:Int)< (c.length:Int)
 ·rw[aS (show ¬c.length≤60 by omega),Bool.and_false]
  (have fct:=And.intro ham (And.intro hbm (And.intro hcm (And.intro (eq_false e1) (And.intro (eq_false e2) (e3)))));(repeat' (first
  |refine gF ?_|refine aE ?_ ?_
  |apply trivial));all_goals clear fct)
  all_goals first|rfl|(simp;done)
 rw[aV (show a.length≤60 by omega),aV (show b.length≤30 by omega),aV (show c.length≤60 by omega)]
 simp only[Bool.true_and]
 (have fct:=And.intro ham (And.intro hbm (And.intro hcm (And.intro (eq_false e1) (And.intro (eq_false e2) ((eq_false e3))))));(repeat' (first
  |refine gF ?_|refine aE ?_ ?_
  |apply trivial));all_goals clear fct)
 refine aR.use G aa (fun(k:Nat)=>[(1,.ptr 10 0 0),(3,aj k)]) (fun _=>[(10,Ol ⟨a,b,c,d⟩)]) (fun k=>k≤a.length∧∀ (j:Nat) x,j<k→a[j]? =some x→decide (x.length≤60)=true) (fun k=>a.length-k) 0 ⟨Nat.zero_le _,fun j x h=>by omega⟩
  ⟨⟨rfl,rfl⟩,⟨⟨rfl,rfl⟩,rfl,trivial⟩,⟨⟨rfl,rfl,rfl,rfl,trivial⟩,trivial⟩,trivial⟩ ?_
 rintro k ⟨hk,hok⟩
 with_reducible refine wK ?_
 refine aQ.mk (fun h2=>?_) (fun h2=>?_)<;>(try simp only[aq] at h2)<;>with_reducible refine wK ?_
 ·have hk':k<a.length:=by simp only[aL] at h2;omega
  obtain⟨x,hx⟩:∃x,a[k]? =some x:=⟨_,aP hk'⟩
  have hxm:(x.map ef).length=x.length:=aM ..
  clear h2
  by_cases e:(60:Int)< (x.length:Int)
  ·rw[jS hx (aS (show ¬x.length≤60 by omega)),Bool.false_and]
   (have fct:=And.intro hxm (e);(repeat' (first
  |refine gF ?_|refine aE ?_ ?_
  |(((with_reducible show ak _ _ _ _ _);refine ak.mk k (cJ x) rfl (cM hx) ?_)<;>with_reducible refine wK ?_)
  |apply trivial));all_goals clear fct)
  ·(have fct:=And.intro hxm ((eq_false e));(repeat' (first
  |refine gF ?_|refine aE ?_ ?_
  |(((with_reducible show ak _ _ _ _ _);refine ak.mk k (cJ x) rfl (cM hx) ?_)<;>with_reducible refine wK ?_)
  | apply trivial));all_goals clear fct)
   refine ay.mk (k+1) ⟨by omega,fun j y hj hy=>?_⟩ (by omega) ⟨⟨rfl,rfl⟩,⟨⟨rfl,rfl⟩,by show((k+1:Nat):Int)=(k:Int)+1;omega,trivial⟩,⟨⟨rfl,rfl,rfl,rfl,trivial⟩,trivial⟩,trivial⟩
   rcases Nat.lt_or_ge j k with h6|h6
   ·exact hok j y h6 hy
   ·have:j=k:=by omega
    subst this
    rw[hx] at hy;cases hy;exact aV (by omega)
 ·rw [ja fun j y hy=>hok j y (by have:=(aZ hy).1;simp only[bh] at h2;omega) hy,Bool.true_and]
  clear h2
  repeat' (first
  |refine gK ?_|refine aE ?_ ?_
  |apply trivial)
  refine aR.use G aa (fun(k:Nat)=>[(1,.ptr 10 0 0),(4,aj k)]) (fun _=>[(10,Ol ⟨a,b,c,d⟩)]) (fun k=>k≤b.length∧∀ (j:Nat) x,j<k→b[j]? =some x→decide (x.length≤60)=true) (fun k=>b.length-k) 0 ⟨Nat.zero_le _,fun j x h=>by omega⟩
   ⟨⟨rfl,rfl⟩,⟨⟨rfl,rfl⟩,rfl,trivial⟩,⟨⟨rfl,rfl,rfl,rfl,trivial⟩,trivial⟩,trivial⟩ ?_
  rintro q ⟨hq,hoq⟩
  with_reducible refine wK ?_
  refine aQ.mk (fun h2=>?_) (fun h2=>?_)<;>(try simp only[aq] at h2)<;>with_reducible refine wK ?_
  ·have hk':q<b.length:=by simp only[aL] at h2;omega
   obtain⟨x,hx⟩:∃x,b[q]? =some x:=⟨_,aP hk'⟩
   have hxm:(x.map bB).length=x.length:=aM ..
   clear h2
   by_cases e:(60:Int)< (x.length:Int)
   ·rw[jS hx (aS (show ¬x.length≤60 by omega))]
    (have fct:=And.intro hxm (e);(repeat' (first
  |refine gF ?_|refine aE ?_ ?_
  |(((with_reducible show ak _ _ _ _ _);refine ak.mk q (bQ x) rfl (gM hx) ?_)<;>with_reducible refine wK ?_)
  | apply trivial));all_goals clear fct)
   ·(have fct:=And.intro hxm ((eq_false e));(repeat' (first
  |refine gF ?_|refine aE ?_ ?_
  |(((with_reducible show ak _ _ _ _ _);refine ak.mk q (bQ x) rfl (gM hx) ?_)<;>with_reducible refine wK ?_)
  | apply trivial));all_goals clear fct)
    refine ay.mk (q+1) ⟨by omega,fun j y hj hy=>?_⟩ (by omega) ⟨⟨rfl,rfl⟩,⟨⟨rfl,rfl⟩,by show((q+1:Nat):Int)=(q:Int)+1;omega,trivial⟩,⟨⟨rfl,rfl,rfl,rfl,trivial⟩,trivial⟩,trivial⟩
    rcases Nat.lt_or_ge j q with h6|h6
    ·exact hoq j y h6 hy
    ·have:j=q:=by omega
     subst this
     rw[hx] at hy;cases hy;exact aV (by omega)
  ·rw[ja fun j y hy=>hoq j y (by have:=(aZ hy).1;simp only[bh] at h2;omega) hy]
   clear h2
   repeat' (first
  |refine gK ?_|refine aE ?_ ?_
  |apply trivial)
theorem F8 (cs:List aI)(h1:cs.length≤100000)(h2:∀c∈cs,c.watch.length≤100000):af Tryz.prog 71 [] [bF cs] [] (aA (qJ cs)):=by
 unfold qJ
 have hcl:=h1
 clear h1
 have hlm:(cs.map cZ).length=cs.length:=aM ..
 refine af.ah (rvs:=[.tmp 2]) G aa Tryz.func71 rfl Tryz.ntmps71 rfl rfl ?_;with_reducible refine wD ?_
 refine aR.use G aa (fun(k:Nat)=>[(0,bF cs),(3,aj k)]) (fun _=>[])
  (fun k=>k≤cs.length∧∀ (j:Nat) (y:aI),j<k→cs[j]? =some y→(y.watch.all fun s=>decide (s.size≤300))=true) (fun k=>cs.length-k) 0 ⟨Nat.zero_le _,fun j y h=>by omega⟩
  ⟨⟨rfl,rfl⟩,⟨rfl,rfl,trivial⟩,trivial⟩ ?_
 rintro k ⟨hk,hok⟩
 with_reducible refine wK ?_
 refine aQ.mk (fun h1=>?_) (fun h1=>?_)<;>(try simp only[aq] at h1)<;>with_reducible refine wK ?_
 ·have hk':k<cs.length:=by simp only[aL] at h1;omega
  obtain⟨x,hx⟩:∃x,cs[k]? =some x:=⟨_,aP hk'⟩
  have hwl:=h2 x (bn hx)
  have bad:(x.watch.all fun s=>decide (s.size≤300))=false→(cs.all fun c=>c.watch.all fun s=>decide (s.size≤300))=false:=fun h=>jS hx h
  have good:(x.watch.all fun s=>decide (s.size≤300))=true→∀ (j:Nat) (y:aI),j<k+1→cs[j]? =some y→(y.watch.all fun s=>decide (s.size≤300))=true:=fun h j y hj hy=>by
   rcases Nat.lt_or_ge j k with h6|h6
   ·exact hok j y h6 hy
   ·have:j=k:=by omega
    subst this
    rw[hx] at hy;cases hy;exact h
  clear h1
  obtain⟨c1,c2,c3,c4,c5⟩:=x
  have n2:(c2.map jO).length=c2.length:=aM ..
  simp only at bad good hwl
  repeat' (first
  |refine gK ?_|refine aE ?_ ?_
  |apply trivial)
  refine aR.use G aa (fun(j:Nat)=>[(0,bF cs),(3,aj k),(4,aj j)]) (fun _=>[])
   (fun j=>j≤c2.length∧∀ (i:Nat) (y:ByteArray),i<j→c2[i]? =some y→decide (y.size≤300)=true) (fun j=>c2.length-j) 0 ⟨Nat.zero_le _,fun j y h=>by omega⟩
   ⟨⟨rfl,rfl⟩,⟨rfl,rfl,rfl,trivial⟩,trivial⟩ ?_
  rintro j ⟨hj,hoj⟩
  with_reducible refine wK ?_
  repeat' (first
  |refine gK ?_|refine aE ?_ ?_
  |(((with_reducible show ak _ _ _ _ _);refine ak.mk k (bK ⟨c1,c2,c3,c4,c5⟩) rfl (cU hx) ?_)<;>with_reducible refine wK ?_)
  |apply trivial)
  refine aQ.mk (fun h2=>?_) (fun h2=>?_)<;>(try simp only[aq] at h2)<;>with_reducible refine wK ?_
  ·have hj':j<c2.length:=by simp only[aL] at h2;omega
   obtain⟨s,hs⟩:∃x,c2[j]? =some x:=⟨_,aP hj'⟩
   clear h2
   by_cases e:(300:Int)< (s.size:Int)
   ·rw[bad (jS hs (aS (show ¬s.size≤300 by omega)))]
    (have fct:=e;(repeat' (first
  |refine gF ?_|refine aE ?_ ?_
  |(((with_reducible show ak _ _ _ _ _);first|refine ak.mk k (bK ⟨c1,c2,c3,c4,c5⟩) rfl (cU hx) ?_|refine ak.mk j (bG s) rfl (gZ hs) ?_)<;>with_reducible refine wK ?_)
  | apply trivial));all_goals clear fct)
   ·(have fct:=(eq_false e);(repeat' (first
  |refine gF ?_|refine aE ?_ ?_
  |(((with_reducible show ak _ _ _ _ _);first|refine ak.mk k (bK ⟨c1,c2,c3,c4,c5⟩) rfl (cU hx) ?_|refine ak.mk j (bG s) rfl (gZ hs) ?_)<;>with_reducible refine wK ?_)
  | apply trivial));all_goals clear fct)
    refine ay.mk (j+1) ⟨by omega,fun i y hi hy=>?_⟩ (by omega) ⟨⟨rfl,rfl⟩,⟨rfl,rfl,by show((j+1:Nat):Int)=(j:Int)+1;omega,trivial⟩,trivial⟩
    rcases Nat.lt_or_ge i j with h6|h6
    ·exact hoj i y h6 hy
    ·have:i=j:=by omega
     subst this
     rw[hs] at hy;cases hy;exact aV (by omega)
  ·have hnx:=good (ja fun i y hy=>hoj i y (by have:=(aZ hy).1;simp only[bh] at h2;omega) hy)
   clear h2
   repeat' (first
  |refine gK ?_|refine aE ?_ ?_
  | apply trivial)
   refine ay.mk (k+1) ⟨by omega,hnx⟩ (by omega) ⟨⟨rfl,rfl⟩,⟨rfl,by show((k+1:Nat):Int)=(k:Int)+1;omega,trivial⟩,trivial⟩
 ·rw[ja fun j y hy=>hok j y (by have:=(aZ hy).1;simp only[bh] at h1;omega) hy]
  clear h1
  repeat' (first
  |refine gK ?_|refine aE ?_ ?_
  |apply trivial)
theorem F7 (w:aH):af Tryz.prog 16 [] [bk w] [] (aA (wN w)):=by
 have h17:=Jb w.f
 have h68:=NR w.desk
 have h69:=Cq w.line
 have h70:=OB w.classes
 have h71:lP w.classes=true→af Tryz.prog 71 [] [bF w.classes] [] (aA (qJ w.classes)):=fun h=>by
  have hc:=nP h
  unfold lP at h
  simp only[aT,aL] at h
  exact F8 w.classes (by omega) fun c hc'=>(hc c hc').watch
 unfold wN
 generalize oe w.f=g1 at*
 generalize oW w.desk=g2 at*
 generalize rj w.line=g3 at*
 generalize lP w.classes=g4 at*
 generalize qJ w.classes=g5 at*
 obtain⟨⟨l,m⟩,st,⟨d1,d2,d3,d4⟩,⟨a,b,c,d⟩,ta,bu,cs⟩:=w
 simp only at h17 h68 h69 h70 h71 ⊢
 have n1:(st.map cr).length=st.length:=aM ..
 have n2:(ta.map dO).length=ta.length:=aM ..
 have n3:(bu.map iz).length=bu.length:=aM ..
 obtain⟨p1,q1⟩:∃p,decide (st.length≤60)=p:=⟨_,rfl⟩
 obtain⟨p2,q2⟩:∃p,decide (ta.length≤60)=p:=⟨_,rfl⟩
 obtain⟨p3,q3⟩:∃p,decide (bu.length≤60)=p:=⟨_,rfl⟩
 have r1:decide (((st.map cr).length:Int)≤60)=p1:=by rw[←q1,decide_eq_decide];omega
 have r2:decide (((ta.map dO).length:Int)≤60)=p2:=by rw[←q2,decide_eq_decide];omega
 have r3:decide (((bu.map iz).length:Int)≤60)=p3:=by rw[←q3,decide_eq_decide];omega
 rw[q1,q2,q3]
 clear q1 q2 q3
 refine af.ah (rvs:=[.tmp 2]) G aa Tryz.func16 rfl Tryz.ntmps16 rfl rfl ?_;with_reducible refine wD ?_
 cases g1
 ·repeat' (first
  |refine gK ?_|refine aE ?_ ?_
  |(((with_reducible refine kQ 17 ?_);refine cL h17 Lp ?_)<;>with_reducible refine wK ?_)
  |apply trivial)
  all_goals first|rfl|(simp;done)
 cases p1
 ·repeat' (first
  |refine gK ?_|refine aE ?_ ?_
  |(((with_reducible refine kQ 17 ?_);refine cL h17 Lp ?_)<;>with_reducible refine wK ?_)
  |apply trivial)
  all_goals first|rfl|(simp;done)|(simp[r1];done)
 cases g4
 case true=>
  have h71:=h71 rfl
  cases g2<;>cases g3<;>cases p2<;>cases p3
  all_goals
   repeat' (first
  |refine gK ?_|refine aE ?_ ?_
  | ((first
   |((with_reducible refine kQ 17 ?_);refine cL h17 Lp ?_)
   |((with_reducible refine kQ 68 ?_);refine cL h68 S5 ?_)
   |((with_reducible refine kQ 69 ?_);refine cL h69 SP ?_)
   |((with_reducible refine kQ 70 ?_);refine cL h70 SV ?_)
   |((with_reducible refine kQ 71 ?_);refine cL h71 To ?_))<;>with_reducible refine wK ?_)
  | apply trivial)
   all_goals first|rfl|(simp;done)|(simp[r2];done)|(simp[r3];done)
 cases g2<;>cases g3<;>cases p2<;>cases p3
 all_goals
  repeat' (first
  |refine gK ?_|refine aE ?_ ?_
  | ((first
   |((with_reducible refine kQ 17 ?_);refine cL h17 Lp ?_)
   |((with_reducible refine kQ 68 ?_);refine cL h68 S5 ?_)
   |((with_reducible refine kQ 69 ?_);refine cL h69 SP ?_)
   |((with_reducible refine kQ 70 ?_);refine cL h70 SV ?_))<;>with_reducible refine wK ?_)
  |apply trivial)
  all_goals first|rfl|(simp;done)|(simp[r2];done)|(simp[r3];done)
theorem BU (x:az):bt (bP x)=true:=by
 show bt (.agg [aj x.kind,bG x.name,bG x.is,bG x.data,dY x.attrs,aj x.parent,bQ x.kids,aj x.host,aj x.under,aj x.doc])=true
 have h1:aU (x.attrs.map fu)=true:=dS fu (fun _=>rfl) _
 have h2:aU (x.kids.map bB)=true:=dS bB (fun _=>rfl) _
 simp[bt,aU,h1,h2]
theorem lF (l:List az):aU (l.map bP)=true:=dS bP BU l
@[reducible] def Jd (l : List az) : MS := .live 10 (l.map bP) false
theorem Dq (l:List az):gJ [Jd l]:=⟨bI.fM fun x hx=>by
 obtain⟨a,_,rfl⟩:=List.mem_map.1 hx;rfl,lF l,trivial⟩
theorem Gn (l:List az):lg (flat (l.map bP))=true:=dA bP (fun _=>rfl) l
theorem pV {m:ML}{fz:Nat→Bool}{cI:List (Nat×Nat)}{n t len:Nat}{ro:Bool}{rows:List AV}{l:List az}(h1:eC m t=.live 10 rows ro)(h2:fz t=true)(h3:rows=l.map bP)(h4:len=l.length):o6 m fz (MF cI fz m n) (fE l) t 0 len:=by
 subst h3;subst h4
 have e:(l.map bP).length=l.length:=aM ..
 exact .cut h1 h2 (by omega) (by rw[List.drop_zero,jH (by omega)]) (lF l)
theorem BH (k d:Int):af Tryz.prog 135 [] [aj k,aj d] [] (aO (nN k d)):=by
 refine af.ah (rvs:=[.cell 4 80]) G aa Tryz.func135 rfl Tryz.ntmps135 rfl rfl ?_;with_reducible refine wD ?_
 repeat' (first
  |refine gK ?_|refine aE ?_ ?_
  |apply trivial)
 all_goals first|rfl|exact .inr (.inr ⟨_,rfl⟩)
theorem HE (k d:Int):af Tryz.prog 160 [] [aj k,aj d] [] (aO (nN k d)):=by
 refine af.ah (rvs:=[.cell 4 80]) G aa Tryz.func160 rfl Tryz.ntmps160 rfl rfl ?_;with_reducible refine wD ?_
 repeat' (first
  |refine gK ?_|refine aE ?_ ?_
  |apply trivial)
 all_goals first|rfl|exact .inr (.inr ⟨_,rfl⟩)
@[reducible] def fk (most : Int) : ForM := ⟨[nN 0 0], most⟩
@[reducible] def zN : az := ⟨0, ⟨#[]⟩, ⟨#[]⟩, ⟨#[]⟩, [], 0, [], 0, 0, 0⟩
@[reducible] def gi (cs : List aI) (most : Int) : aH := ⟨fk most, [gY zN], ⟨[], [], 0, false⟩, jN ⟨[], [], [], false⟩, [], [], cs⟩
@[reducible] def vO : aH := ⟨⟨[], 0⟩, [], ⟨[], [], 0, false⟩, ⟨[], [], [], false⟩, [], [], []⟩
theorem JJ (most:Int):bR (fk most).nodes:=⟨by show 1≤64;decide,fun x hx=>by rw[iw.1 hx];decide,fun x hx=>by rw[iw.1 hx];decide,fun x hx=>by rw[iw.1 hx];decide⟩
theorem KJ:rF 60 (jN ⟨[],[],[],false⟩):=⟨by decide,by decide,by decide,by decide,by decide⟩
theorem rM {cs:List aI}(most:Int)(hc:cs.length≤1000)(hcs:kH cs)(hnm:∀c∈cs,∀s∈c.watch,s.size≤300):cW (gi cs most):=⟨JJ most,by show 1≤1000;decide,⟨Nat.zero_le _,Nat.zero_le _⟩,KJ.mono (by decide),Nat.zero_le _,Nat.zero_le _,hc,hcs,hnm⟩
theorem JR (most:Int):af Tryz.prog 88 [] [aj most] [] (.tup [bD (if bf (fk most)=true then fk most else⟨[],0⟩),aj (if bf (fk most)=true then 0 else 1)]):=by
 have hb:=BH 0 0
 have hr:=kf (fk most) (JJ most)
 cases e:bf (fk most) with
 | true=>
   rw[e] at hr
   rw[if_pos rfl,if_pos rfl]
   refine af.ah (rvs:=[.cell 2 24,.tmp 3]) G aa Tryz.func88 rfl Tryz.ntmps88 rfl rfl ?_;with_reducible refine wD ?_
   repeat' (first
  |refine gK ?_|refine aE ?_ ?_
  | ((first
   |((with_reducible refine kQ 135 ?_);refine cV hb F9 ?_)
   |((with_reducible refine kQ 100 ?_);refine aD.lit [61] hr mQ ⟨⟨pV (l:=[nN 0 0]) rfl rfl rfl rfl,rfl,trivial⟩,trivial⟩ rfl rfl ?_))<;>with_reducible refine wK ?_)
  | apply trivial)
   all_goals first|rfl|exact pV (l:=[nN 0 0]) rfl rfl rfl rfl
 | false=>
   rw[e] at hr
   rw[if_neg (by simp),if_neg (by simp)]
   refine af.ah (rvs:=[.cell 2 24,.tmp 3]) G aa Tryz.func88 rfl Tryz.ntmps88 rfl rfl ?_;with_reducible refine wD ?_
   repeat' (first
  |refine gK ?_|refine aE ?_ ?_
  | ((first
   |((with_reducible refine kQ 135 ?_);refine cV hb F9 ?_)
   |((with_reducible refine kQ 100 ?_);refine aD.lit [61] hr mQ ⟨⟨pV (l:=[nN 0 0]) rfl rfl rfl rfl,rfl,trivial⟩,trivial⟩ rfl rfl ?_))<;>with_reducible refine wK ?_)
  | apply trivial)
   all_goals first|rfl|exact .inr (.inr ⟨_,rfl⟩)
theorem HH (most:Int):af Tryz.prog 92 [] [aj most] [] (bD (fk most)):=by
 have hb:=HE 0 0
 refine af.ah (rvs:=[.cell 2 24]) G aa Tryz.func92 rfl Tryz.ntmps92 rfl rfl ?_;with_reducible refine wD ?_
 repeat' (first
  |refine gK ?_|refine aE ?_ ?_
  |(((with_reducible refine kQ 160 ?_);refine cV hb Sy ?_)<;>with_reducible refine wK ?_)
  |apply trivial)
 all_goals first|rfl|exact pV (l:=[nN 0 0]) rfl rfl rfl rfl
theorem LN (cs:List aI)(most:Int):af Tryz.prog 29 [] [bF cs,aj most] [] (bk (gi cs most)):=by
 have hf:=HH most
 have hb:=AZ zN
 have hg:=s5 ⟨[],[],[],false⟩ (by decide)
 generalize hl:jN ⟨[],[],[],false⟩=L at*
 obtain⟨la,lb,lc,ld⟩:=L
 generalize hs:gY zN=s at*
 obtain⟨s1,s2,s3,s4⟩:=s
 unfold gi
 rw[hl,hs]
 refine af.ah (rvs:=[.cell 4 39]) G aa Tryz.func29 rfl Tryz.ntmps29 rfl rfl ?_;with_reducible refine wD ?_
 repeat' (first
  |refine gK ?_|refine aE ?_ ?_
  | ((first
   |((with_reducible refine kQ 92 ?_);refine cV hf Tt ?_)
   |((with_reducible refine kQ 93 ?_);refine aD.lit [] hb S4 ⟨⟨rfl,rfl,rfl,rfl,.inr (.inr ⟨_,rfl⟩),rfl,.inr (.inr ⟨_,rfl⟩),rfl,rfl,rfl,trivial⟩,trivial⟩ rfl rfl ?_)
   |((with_reducible refine kQ 79 ?_);refine aD.val [] hg RV ⟨⟨.inr (.inr ⟨_,rfl⟩),.inr (.inr ⟨_,rfl⟩),.inr (.inr ⟨_,rfl⟩),rfl,trivial⟩,trivial⟩ rfl rfl rfl ?_))<;>with_reducible refine wK ?_)
  |apply trivial)
 all_goals first
  |rfl
  |exact ek (l:=[⟨s1,s2,s3,s4⟩]) rfl rfl rfl rfl
  |exact .inr (.inr ⟨_,rfl⟩)
def xm (cs:List aI)(most:Int):aH×Int:=if cF (gi cs most)=true then(gi cs most,0) else(vO,1)
theorem DZ (cs:List aI)(most:Int)(hc:cs.length≤1000)(hcs:kH cs)(hnm:∀c∈cs,∀s∈c.watch,s.size≤300):af Tryz.prog 28 [] [bF cs,aj most] [] (.tup [bk (xm cs most).1,aj (xm cs most).2]):=by
 have hsw:=rM most hc hcs hnm
 have hf:=JR most
 have hb:=BY zN
 have hg:=zi ⟨[],[],[],false⟩ ⟨by decide,by decide,by decide,by decide,by decide⟩
 have hcl:=zS cs (by omega)
 have hR:=s9 (gi cs most) hsw
 have hRF:cF (gi cs most)=true→bf (fk most)=true:=fun h=>(ir.1 h).rf
 unfold xm
 generalize hr:cF (gi cs most)=r at*
 unfold gi at hR ⊢
 generalize hl:jN ⟨[],[],[],false⟩=L at*
 obtain⟨la,lb,lc,ld⟩:=L
 generalize hs:gY zN=s at*
 obtain⟨s1,s2,s3,s4⟩:=s
 clear hsw hr hl hs
 cases e:bf (fk most) with
 | false=>
   cases r with
   |true=>rw[hRF rfl] at e;cases e
   | false=>
     rw[e] at hf
     rw[if_neg (by simp),if_neg (by simp)] at hf
     rw[if_neg (by simp)]
     refine af.ah (rvs:=[.cell 4 39,.tmp 5]) G aa Tryz.func28 rfl Tryz.ntmps28 rfl rfl ?_;with_reducible refine wD ?_
     repeat' (first
  |refine gK ?_|refine aE ?_ ?_
  | ((first
   |((with_reducible refine kQ 88 ?_);refine cV hf SS ?_)
   |((with_reducible refine kQ 89 ?_);refine aD.lit [] hb Sz ⟨⟨rfl,rfl,rfl,rfl,.inr (.inr ⟨_,rfl⟩),rfl,.inr (.inr ⟨_,rfl⟩),rfl,rfl,rfl,trivial⟩,trivial⟩ rfl rfl ?_)
   |((with_reducible refine kQ 90 ?_);refine aD.val [] hg Sh ⟨⟨.inr (.inr ⟨_,rfl⟩),.inr (.inr ⟨_,rfl⟩),.inr (.inr ⟨_,rfl⟩),rfl,trivial⟩,trivial⟩ rfl rfl rfl ?_)
   |((with_reducible refine kQ 91 ?_);refine aD.new 211 [] hcl S1 ⟨rfl,trivial⟩ rfl rfl rfl (rO _) rfl ?_))<;>with_reducible refine wK ?_)
  |apply trivial)
     all_goals first|rfl|exact .inr (.inr ⟨_,rfl⟩)
 | true=>
   rw[e] at hf
   rw[if_pos rfl,if_pos rfl] at hf
   cases r
   all_goals
    refine af.ah (rvs:=[.cell 4 39,.tmp 5]) G aa Tryz.func28 rfl Tryz.ntmps28 rfl rfl ?_;with_reducible refine wD ?_
    repeat' (first
  |refine gK ?_|refine aE ?_ ?_
  | ((first
   |((with_reducible refine kQ 88 ?_);refine cV hf SS ?_)
   |((with_reducible refine kQ 89 ?_);refine aD.lit [] hb Sz ⟨⟨rfl,rfl,rfl,rfl,.inr (.inr ⟨_,rfl⟩),rfl,.inr (.inr ⟨_,rfl⟩),rfl,rfl,rfl,trivial⟩,trivial⟩ rfl rfl ?_)
   |((with_reducible refine kQ 90 ?_);refine aD.val [] hg Sh ⟨⟨.inr (.inr ⟨_,rfl⟩),.inr (.inr ⟨_,rfl⟩),.inr (.inr ⟨_,rfl⟩),rfl,trivial⟩,trivial⟩ rfl rfl rfl ?_)
   |((with_reducible refine kQ 91 ?_);refine aD.new 211 [] hcl S1 ⟨rfl,trivial⟩ rfl rfl rfl (rO _) rfl ?_)
   |((with_reducible refine kQ 19 ?_);refine aD.lit [171,211] hR QD ⟨⟨rfl,rfl,ek (l:=[⟨s1,s2,s3,s4⟩]) rfl rfl rfl rfl,.inr (.inr ⟨_,rfl⟩),.inr (.inr ⟨_,rfl⟩),rfl,rfl,rfl,rfl,rfl,rfl,.inr (.inr ⟨_,rfl⟩),.inr (.inr ⟨_,rfl⟩),ud rfl rfl rfl rfl,trivial⟩,trivial⟩ rfl rfl ?_))<;>with_reducible refine wK ?_)
  | apply trivial)
    all_goals first
     |rfl
     |exact ek (l:=[⟨s1,s2,s3,s4⟩]) rfl rfl rfl rfl
     |exact ud rfl rfl rfl rfl
     |exact .inr (.inr ⟨_,rfl⟩)
theorem CC (l:List AttrM)(hl:l.length≤100000):af Tryz.prog 136 [] [dY l] [] (dY l):=by
 have hlm:(l.map fu).length=l.length:=aM ..
 refine af.ah (rvs:=[.tmp 2]) G aa Tryz.func136 rfl Tryz.ntmps136 rfl rfl ?_;with_reducible refine wD ?_
 refine jL.mk (fun h=>?_) (fun _=>?_)<;>with_reducible refine wK ?_
 ·obtain rfl:l=[]:=by simpa using h
  (refine eK ?_ ?_<;>with_reducible repeat' (first|exact trivial|(show _∧_;refine aK ?_ ?_)))
  all_goals first|rfl|exact .inr (.inr ⟨2,rfl⟩)
 ·refine cC.mk [] (l.map fu) ⟨rfl,rfl,rfl⟩ ⟨rfl,rfl,rfl⟩ (dA fu (fun _=>rfl) l) (by simp;omega) (by simp;omega) ?_;with_reducible refine wK ?_
  (refine eK ?_ ?_<;>with_reducible repeat' (first|exact trivial|(show _∧_;refine aK ?_ ?_)))
  all_goals first|exact xS rfl rfl rfl rfl|(refine xS rfl rfl ?_ ?_<;>simp)
theorem DC (l:List az)(hl:l.length≤100000):af Tryz.prog 140 [] [fE l] [Jd l] (.own 0 0 l.length):=by
 have hlm:(l.map bP).length=l.length:=aM ..
 refine af.ah (rvs:=[.tmp 2]) G aa Tryz.func140 rfl Tryz.ntmps140 rfl rfl ?_;with_reducible refine wD ?_
 refine jL.mk (fun h=>?_) (fun _=>?_)<;>with_reducible refine wK ?_
 ·obtain rfl:l=[]:=by simpa using h
  (refine eK ?_ ?_<;>with_reducible repeat' (first|exact trivial|(show _∧_;refine aK ?_ ?_)))
  all_goals first|rfl|trivial
 ·refine cC.mk [] (l.map bP) ⟨rfl,rfl,rfl⟩ ⟨rfl,rfl,rfl⟩ (Gn l) (by simp;omega) (by simp;omega) ?_;with_reducible refine wK ?_
  (refine eK ?_ ?_<;>with_reducible repeat' (first|exact trivial|(show _∧_;refine aK ?_ ?_)))
  ·exact hlm.symm
  ·exact aJ (lF l)
theorem JB {f:ForM}{x:az}(h:u7 f x=false):qu f x=(f,-1,1):=by unfold qu;rw[h];rfl
theorem Dc {f:ForM}{x:az}(h:u7 f x=true)(h2:(f.nodes.length:Int)=f.most):qu f x=(f,-1,8):=by unfold qu;rw[if_pos h,if_pos h2]
theorem Fh {f:ForM}{x:az}(h:u7 f x=true)(h2:¬ (f.nodes.length:Int)=f.most):qu f x=(⟨f.nodes++ [yK f x],f.most⟩,(f.nodes.length:Int),0):=by unfold qu;rw[if_pos h,if_neg h2]
theorem HO (f:ForM)(hs:bR f.nodes)(x:az)(hx:x.attrs.length≤100000)(hk:x.kind=1):af Tryz.prog 67 [] [bD f,aO x] [] (.tup [bD (qu f x).1,aj (qu f x).2.1,aj (qu f x).2.2]):=by
 have hb:=BH x.kind x.doc
 have hcl:=CC x.attrs hx
 have hr:=Ah f hs
 have hn:=ES (yK f x) hx
 have hi:=uY f x.doc 0
 have hcn:=DC f.nodes (by have:=hs.len;omega)
 have hlen:=hs.len
 have hno:=JB (f:=f) (x:=x)
 have hfu:=Dc (f:=f) (x:=x)
 have hye:=Fh (f:=f) (x:=x)
 have hok:u7 f x=((bf f&&iS (yK f x))&&(!decide (x.kind=4)&&(decide (x.kind=0)||oN f.nodes x.doc 0))):=rfl
 rw[hok] at hno hfu hye
 clear hok
 unfold yK at hn hno hfu hye
 obtain⟨l,m⟩:=f
 obtain⟨x0,x1,x2,x3,x4,x5,x6,x7,x8,x9⟩:=x
 simp only at hb hcl hr hn hi hcn hlen hno hfu hye hk
 subst hk
 unfold nN at hb
 rw[if_neg (by decide)] at hn hno hfu hye
 have hlm:(l.map bP).length=l.length:=aM ..
 generalize iS ⟨1,x1,x2,x3,x4,-1,[],-1,-1,x9⟩=g2 at*
 generalize bf ⟨l,m⟩=g1 at*
 generalize oN l x9 0=g3 at*
 by_cases e:(l.length:Int)=m
 ·have hfu:=fun h=>hfu h e
  clear hye
  cases g1<;>cases g2<;>cases g3
  case true.true.true=>
   rw[hfu rfl]
   refine af.ah (rvs:=[.cell 4 24,.tmp 5,.tmp 6]) G aa Tryz.func67 rfl Tryz.ntmps67 rfl rfl ?_;with_reducible refine wD ?_
   (have fct:=And.intro hlm ((eq_true e));(repeat' (first
  |refine gF ?_|refine aE ?_ ?_
  | ((first
   |((with_reducible refine kQ 135 ?_);refine cV hb F9 ?_)
   |((with_reducible refine kQ 136 ?_);refine cV hcl Lh ?_)
   |((with_reducible refine kQ 137 ?_);refine cL hr Gj ?_)
   |((with_reducible refine kQ 138 ?_);refine cL hn xI ?_)
   |((with_reducible refine kQ 139 ?_);refine cL hi o4 ?_))<;>with_reducible refine wK ?_)
  | apply trivial));all_goals clear fct)
   all_goals trace_state
  all_goals
   rw[hno rfl]
   refine af.ah (rvs:=[.cell 4 24,.tmp 5,.tmp 6]) G aa Tryz.func67 rfl Tryz.ntmps67 rfl rfl ?_;with_reducible refine wD ?_
   (have fct:=hlm;(repeat' (first
  |refine gF ?_|refine aE ?_ ?_
  | ((first
   |((with_reducible refine kQ 135 ?_);refine cV hb F9 ?_)
   |((with_reducible refine kQ 136 ?_);refine cV hcl Lh ?_)
   |((with_reducible refine kQ 137 ?_);refine cL hr Gj ?_)
   |((with_reducible refine kQ 138 ?_);refine cL hn xI ?_)
   |((with_reducible refine kQ 139 ?_);refine cL hi o4 ?_))<;>with_reducible refine wK ?_)
  | apply trivial));all_goals clear fct)
   all_goals trace_state
 ·have hye:=fun h=>hye h e
  clear hfu
  cases g1<;>cases g2<;>cases g3
  case true.true.true=>
   rw[hye rfl]
   refine af.ah (rvs:=[.cell 4 24,.tmp 5,.tmp 6]) G aa Tryz.func67 rfl Tryz.ntmps67 rfl rfl ?_;with_reducible refine wD ?_
   (have fct:=And.intro hlm ((eq_false e));(repeat' (first
  |refine gF ?_|refine aE ?_ ?_
  | ((first
   |((with_reducible refine kQ 135 ?_);refine cV hb F9 ?_)
   |((with_reducible refine kQ 136 ?_);refine cV hcl Lh ?_)
   |((with_reducible refine kQ 137 ?_);refine cL hr Gj ?_)
   |((with_reducible refine kQ 138 ?_);refine cL hn xI ?_)
   |((with_reducible refine kQ 139 ?_);refine cL hi o4 ?_)
   |((with_reducible refine kQ 140 ?_);refine aD.new 731 [] hcn Su ⟨rfl,trivial⟩ rfl rfl rfl (Dq _) rfl ?_)
   |((with_reducible show cC _ _ _ _ _ _ _ _ _ _);refine cC.mk (l.map bP) [.agg [aj 1,bG x1,bG x2,bG x3,dY x4,aj (-1),bQ [],aj (-1),aj (-1),aj x9]] ⟨rfl,by simp,rfl⟩ ⟨rfl,rfl,rfl⟩ rfl (by simp;omega) (by simp;omega) ?_))<;>with_reducible refine wK ?_)
  | apply trivial));all_goals clear fct)
   all_goals first
    |exact xb bP (y:=⟨1,x1,x2,x3,x4,-1,[],-1,-1,x9⟩) rfl rfl rfl (by simp) lF ⟨rfl,rfl,rfl,rfl,rfl,rfl,rfl,rfl,rfl,rfl,trivial⟩
    |(show(l.length:Int)=_;rw[hlm])
  all_goals
   rw[hno rfl]
   refine af.ah (rvs:=[.cell 4 24,.tmp 5,.tmp 6]) G aa Tryz.func67 rfl Tryz.ntmps67 rfl rfl ?_;with_reducible refine wD ?_
   (have fct:=hlm;(repeat' (first
  |refine gF ?_|refine aE ?_ ?_
  | ((first
   |((with_reducible refine kQ 135 ?_);refine cV hb F9 ?_)
   |((with_reducible refine kQ 136 ?_);refine cV hcl Lh ?_)
   |((with_reducible refine kQ 137 ?_);refine cL hr Gj ?_)
   |((with_reducible refine kQ 138 ?_);refine cL hn xI ?_)
   |((with_reducible refine kQ 139 ?_);refine cL hi o4 ?_))<;>with_reducible refine wK ?_)
  | apply trivial));all_goals clear fct)
   all_goals trace_state
@[reducible] def SZ : ByteArray := ⟨#[97]⟩
@[reducible] def SU : ByteArray := ⟨#[120, 45, 97]⟩
@[reducible] def qE : ByteArray := ⟨#[]⟩
@[reducible] def qC : aI := ⟨false, [SZ], [], [], []⟩
@[reducible] def Qk : aI := ⟨false, [⟨#[65]⟩], [], [], []⟩
@[reducible] def SX : az := ⟨0, qE, qE, qE, [], -1, [], -1, -1, 0⟩
@[reducible] def TD : az := ⟨1, SU, qE, qE, [], -1, [], -1, -1, 0⟩
@[reducible] def qM : az := ⟨1, SU, qE, qE, [], 0, [], 0, 0, 0⟩
@[reducible] def RR : ForM := ⟨[SX], 5⟩
@[reducible] def O7 : ForM := ⟨[SX, TD], 5⟩
@[reducible] def qD : bj := ⟨[], [], 0, false⟩
@[reducible] def Qy : StateM := ⟨0, -1, -1, false⟩
@[reducible] def QC : StateM := ⟨1, -1, -1, false⟩
@[reducible] def qT : bw := ⟨1, 0, qE, false, false, qE, qE, 0, 0, false⟩
@[reducible] def qW : aH := ⟨RR, [Qy], qD, ⟨[[]], [], [], false⟩, [], [], [qC]⟩
@[reducible] def qV : aH := ⟨O7, [Qy, QC], qD, ⟨[[], []], [], [], false⟩, [], [], [qC]⟩
@[reducible] def qX : aH := ⟨O7, [Qy, QC], qD, ⟨[[], [qT]], [], [1], true⟩, [⟨1, 0, 0⟩], [], [qC]⟩
@[reducible] def qZ : aH := ⟨O7, [Qy, QC], qD, ⟨[[], []], [], [], false⟩, [], [], [qC]⟩
theorem q1:xm [qC] 5=(qW,0):=by kernel_rfl
theorem q2:qu RR qM=(O7,1,0):=by kernel_rfl
theorem q3:vh qW O7 []=(qV,0):=by kernel_rfl
theorem q4:lu qV [⟨1,qT⟩]=(qX,0):=by kernel_rfl
theorem q5:lu qV [⟨2,qT⟩]=(qV,1):=by kernel_rfl
theorem q6:qp qV=true:=by kernel_rfl
theorem q7:qp qX=false:=by kernel_rfl
theorem q8:oJ qX=qZ:=by kernel_rfl
theorem q9:cF qX=true:=by kernel_rfl
theorem Ts:bq Qk=false:=by kernel_rfl
theorem PF {l:List az}(h:(decide (l.length≤60)&&l.all fun x=>decide (x.kids.length≤60)&&decide (x.attrs.length≤60)&&decide (x.name.size≤300))=true):bR l:=mM (f:=⟨l,0⟩) h
theorem QE:kH [qC]:=fun c hc=>by rw[iw.1 hc];exact⟨by decide,by decide,by decide,by decide,by decide⟩
theorem Qx:∀c∈ [qC],∀s∈c.watch,s.size≤300:=fun c hc s hs=>by rw[iw.1 hc] at hs;rw[iw.1 hs];decide
theorem S8:cW qW:=⟨PF (by kernel_rfl),by decide,⟨by decide,by decide⟩,⟨by decide,by decide,by decide,by decide,by decide⟩,by decide,by decide,by decide,QE,Qx⟩
theorem S3:cW qV:=⟨PF (by kernel_rfl),by decide,⟨by decide,by decide⟩,⟨by decide,by decide,by decide,by decide,by decide⟩,by decide,by decide,by decide,QE,Qx⟩
theorem Tf:cW qX:=⟨PF (by kernel_rfl),by decide,⟨by decide,by decide⟩,⟨by decide,by decide,by decide,by decide,by decide⟩,by decide,by decide,by decide,QE,Qx⟩
theorem Ge:af Tryz.prog 15 [] [] [] (aA true):=by
 have a1:=DZ [qC] 5 (by decide) QE Qx
 rw[q1] at a1
 have a2:=HO RR (PF (by kernel_rfl)) qM (by decide) rfl
 rw[q2] at a2
 have a3:=vg qW S8 ⟨by decide,by decide,by decide,by decide,by decide⟩ (by decide) O7 (PF (by kernel_rfl)) [] (by decide)
 rw[q3] at a3
 have a4:=nh qV S3 [⟨1,qT⟩] (by decide)
 rw[q4] at a4
 have a5:=nh qV S3 [⟨2,qT⟩] (by decide)
 rw[q5] at a5
 have a6:=qR qV (by decide)
 rw[q6] at a6
 have a7:=qR qX (by decide)
 rw[q7] at a7
 have a8:=yE qX (by decide)
 rw[q8] at a8
 have a9:=s9 qX Tf
 rw[q9] at a9
 have a10:=oS Qk (by decide) (by decide) (fun s hs=>by rw[iw.1 hs];decide)
 rw[Ts] at a10
 refine af.ah (rvs:=[.tmp 0]) G aa Tryz.func15 rfl Tryz.ntmps15 rfl rfl ?_;with_reducible refine wD ?_
 refine aD.val [131,151] a1 PD ⟨?_,rfl,trivial⟩ rfl rfl rfl ?_
 ·refine⟨5,_,_,[cZ qC],rfl,rfl,rfl,by decide,rfl,mG.of ⟨?_,trivial⟩⟩
  exact⟨rfl,⟨1,_,_,[jO SZ],rfl,rfl,rfl,by decide,rfl,mG.of ⟨rfl,trivial⟩⟩,.inr (.inr ⟨_,rfl⟩),.inr (.inr ⟨_,rfl⟩),.inr (.inr ⟨_,rfl⟩),trivial⟩
 with_reducible refine wK ?_
 repeat' (first
  |refine gK ?_|refine aE ?_ ?_
  | ((first
   |((with_reducible refine kQ 67 ?_);refine aD.val [] a2 Te ⟨⟨rfl,rfl,trivial⟩,⟨rfl,rfl,rfl,rfl,.inr (.inr ⟨_,rfl⟩),rfl,.inr (.inr ⟨_,rfl⟩),rfl,rfl,rfl,trivial⟩,trivial⟩ rfl rfl rfl ?_)
   |((with_reducible refine kQ 33 ?_);refine aD.val [] a3 Nh ⟨
   ⟨rfl,rfl,rfl,rfl,rfl,rfl,rfl,rfl,rfl,rfl,rfl,rfl,rfl,rfl,trivial⟩
   ,⟨rfl,rfl,trivial⟩,.inr (.inr ⟨_,rfl⟩),trivial⟩ rfl rfl rfl ?_)
   |((with_reducible refine kQ 31 ?_);first
   | refine aD.val [381] a4 J0 ⟨
    ⟨rfl,rfl,rfl,rfl,rfl,rfl,rfl,rfl,rfl,rfl,rfl,rfl,rfl,rfl,trivial⟩
    ,kB (l:=[⟨1,qT⟩]) rfl rfl rfl rfl,trivial⟩ rfl rfl rfl ?_
   | refine aD.val [461] a5 J0 ⟨
    ⟨rfl,rfl,rfl,rfl,rfl,rfl,rfl,rfl,rfl,rfl,rfl,rfl,rfl,rfl,trivial⟩
    ,kB (l:=[⟨2,qT⟩]) rfl rfl rfl rfl,trivial⟩ rfl rfl rfl ?_))<;>with_reducible refine wK ?_)
  |apply trivial)
 dsimp only[List.append];with_reducible refine wK ?_
 repeat' (first
  |refine gK ?_|refine aE ?_ ?_
  | ((first
   |((with_reducible show ak _ _ _ _ _);refine ak.mk 1 (cf QC) rfl rfl ?_)
   |((with_reducible refine kQ 20 ?_);first
   | refine aD.lit [] a6 QB ⟨
    ⟨rfl,rfl,rfl,rfl,rfl,rfl,rfl,rfl,rfl,rfl,rfl,rfl,rfl,rfl,trivial⟩
    ,trivial⟩ rfl rfl ?_
   | refine aD.lit [] a7 QB ⟨
    ⟨rfl,rfl,rfl,rfl,rfl,rfl,rfl,rfl,rfl,rfl,rfl,rfl,rfl,rfl,trivial⟩
    ,trivial⟩ rfl rfl ?_)
   | ((with_reducible refine kQ 24 ?_);refine aD.val [] a8 Sv ⟨
    ⟨rfl,rfl,rfl,rfl,rfl,rfl,rfl,rfl,rfl,rfl,rfl,rfl,rfl,rfl,trivial⟩
    ,trivial⟩ rfl rfl rfl ?_)
   | ((with_reducible refine kQ 19 ?_);refine aD.lit [] a9 QD ⟨
    ⟨rfl,rfl,rfl,rfl,rfl,rfl,rfl,rfl,rfl,rfl,rfl,rfl,rfl,rfl,trivial⟩
    ,trivial⟩ rfl rfl ?_)
   |((with_reducible refine kQ 26 ?_);refine aD.lit [1071] a10 Sg ⟨⟨rfl,⟨1,_,_,[jO ⟨#[65]⟩],rfl,rfl,rfl,by decide,rfl,mG.of ⟨rfl,trivial⟩⟩,.inr (.inr ⟨_,rfl⟩),.inr (.inr ⟨_,rfl⟩),.inr (.inr ⟨_,rfl⟩),trivial⟩,trivial⟩ rfl rfl ?_))<;>with_reducible refine wK ?_)
  |apply trivial)
 all_goals rfl
theorem BS {w:aH}(hs:cW w):cW (oJ w):=⟨hs.f,hs.st,⟨hs.d.defs,hs.d.waits⟩,⟨by show(List.replicate _ _).length≤_;rw[List.length_replicate];exact hs.l.todos,fun t ht=>by
 have ht:t∈List.replicate w.line.todos.length []:=ht
 rw[(List.mem_replicate.1 ht).2];exact Nat.zero_le _,Nat.zero_le _,(fun t ht=>by cases ht),Nat.zero_le _⟩,Nat.zero_le _,Nat.zero_le _,hs.cl,hs.cs,hs.nm⟩
theorem AU {w:aH}(hs:cW w){B:Nat}(hl:rF B w.line)(hB:B≤70000)(hta:w.tasks.length≤70000){f:ForM}(hf:bR f.nodes){ns:List dP}(hn:ns.length≤1000)(R:cN w)(e2:bf f=true)(e3:dH w f=true):cW (kK w f ns)∧rF (B+1300) (kK w f ns).line∧(kK w f ns).tasks.length≤w.tasks.length+1:=by
 have TF:=IT R e2 e3 ns
 have hfl:=hf.len
 have hX:=tK hs (hl.mono (by omega)) hf R
 have hXl:rF (B+64) (aY w f).line:=(gN f hl).mono (by omega)
 have hY0:cW (cj (aY w f) (cO f (aY w f).states w.desk w.classes ns)):=mL hX hXl (by show w.tasks.length≤_;omega) _ (by have:=TF.l1;omega)
 have hYl:=wZ (cO f (aY w f).states w.desk w.classes ns) (aY w f) _ hXl
 have hY:cW {cj (aY w f) (cO f (aY w f).states w.desk w.classes ns) with states:=dg f (aY w f).states w.desk w.classes}:=⟨hY0.f,by show(dg f (aY w f).states w.desk w.classes).length≤_;rw[rT];exact hX.st,hY0.d,hY0.l,hY0.ta,hY0.bu,hY0.cl,hY0.cs,hY0.nm⟩
 have ht:=pH (aY w f) (cO f (aY w f).states w.desk w.classes ns)
 have h1:=TF.l1
 have h2:=TF.l2
 obtain⟨r,q1,q2⟩:=CE w f ns
 have q0:(aY w f).tasks.length=w.tasks.length:=rfl
 have q3:{cj (aY w f) (cO f (aY w f).states w.desk w.classes ns) with states:=dg f (aY w f).states w.desk w.classes:aH}.tasks.length=(cj (aY w f) (cO f (aY w f).states w.desk w.classes ns)).tasks.length:=rfl
 refine⟨mL hY (B:=B+64+ (cO f (aY w f).states w.desk w.classes ns).length) hYl (by rw[q3];omega) (fJ f (aY w f).states w.desk w.classes) (by omega),?_,by rw[q1,jg];omega⟩
 exact(wZ (fJ f (aY w f).states w.desk w.classes) {cj (aY w f) (cO f (aY w f).states w.desk w.classes ns) with states:=dg f (aY w f).states w.desk w.classes} _ hYl).mono (by omega)

theorem FG {w:aH}(S:Ae w)(due:List ck)(h:due.length≤1000):cW (cj w due):=mL S.small (Ck S.l) (by have:=S.ta;omega) due (by omega)
theorem DV (most:Int):bf (fk most)=(decide (1≤most)&&decide (most≤400)):=by
 have h:(jX (fun k x=>cQ (fk most).nodes k x) 0 (fk most).nodes&&jX (fun k _=>eF (fk most).nodes (fk most).nodes.length k) 0 (fk most).nodes)=true:=by
  show(jX (fun k x=>cQ [nN 0 0] k x) 0 [nN 0 0]&&jX (fun k _=>eF [nN 0 0] 1 k) 0 [nN 0 0])=true
  decide+kernel
 unfold bf
 rw[h,Bool.and_true]
 show((decide (1≤most)&&decide (most≤400))&&decide (1≤1)&&decide ((1:Int)≤most)&&decide ((0:Int)=0))=_
 by_cases e1:1≤most
 ·rw[aV e1];simp
 ·rw[aS e1];simp
theorem Gg (cs:List aI)(most:Int):cF (gi cs most)=((decide (cs.length≤12)&&cs.all bq)&&(decide (1≤most)&&decide (most≤400))):=by
 have h1:=DV most
 have h2:B8 (gi cs most)=true:=rfl
 have h3:((List.range (gi cs most).line.todos.length).all (fun n:Nat=>ow (gi cs most) n))=true:=rfl
 have h4:dU (gi cs most).desk=true:=rfl
 have h5:sV (gi cs most).line=true:=rfl
 have h6:ia (gi cs most)=(decide (cs.length≤12)&&cs.all bq):=by
  unfold ia
  show((decide (cs.length≤12)&& !(cs.any fun c=> !bq c))&&true)=_
  rw[Bool.and_true]
  congr 1
  rw[Bool.eq_iff_iff,mY,List.all_eq_true]
 unfold cF wg
 rw[h2,h3,h4,h5,h6,h1]
 show((((((true&&true)&&_)&&_)&&true)&&true)&&(true&&true))=_
 simp
theorem Gi (cs:List aI)(most:Int):((decide (cs.length≤12)&&cs.all bq)=true∧1≤most∧most≤400∧xm cs most=(gi cs most,0))∨
  ((decide (cs.length≤12)&&cs.all bq)=true∧1≤most∧¬most≤400∧xm cs most=(vO,1))∨
  ((decide (cs.length≤12)&&cs.all bq)=true∧¬1≤most∧xm cs most=(vO,1))∨
  ((decide (cs.length≤12)&&cs.all bq)=false∧xm cs most=(vO,1)):=by
 have h:=Gg cs most
 unfold xm
 cases e:(decide (cs.length≤12)&&cs.all bq) with
 |false=>rw[e] at h;right;right;right;rw[h];exact⟨rfl,rfl⟩
 | true=>
   rw[e] at h
   by_cases e1:1≤most
   ·by_cases e2:most≤400
    ·left;rw[h,aV e1,aV e2];exact⟨rfl,e1,e2,rfl⟩
    ·right;left;rw[h,aV e1,aS e2];exact⟨rfl,e1,e2,rfl⟩
   ·right;right;left;rw[h,aS e1];exact⟨rfl,e1,rfl⟩
def n8 (r:Bool)(p:ck→Bool)(due:List ck)(k:Nat):Bool:=r&&(due.take k).all p
theorem Hi (w:aH)(due:List ck)(k:Nat)(h:due.length≤k):n8 (cF w) (fW w) due k=eV w due:=by
 unfold n8 eV
 rw[jH h]
 congr 1
 rw[Bool.eq_iff_iff,mY,List.all_eq_true]
structure Pq (A:Prop):Prop where
 get:A
theorem Nf {A B:Prop}(h:Pq A→B)(a:A):B∧True:=⟨h ⟨a⟩,trivial⟩
theorem pG (r:Bool)(p:ck→Bool)(due:List ck):n8 r p due 0=r:=by unfold n8;simp
theorem GP (r:Bool)(p:ck→Bool)(due:List ck)(k:Nat)(x:ck)(h:due[k]? =some x):n8 r p due (k+1)=(n8 r p due k&&p x):=by
 unfold n8
 rw[List.take_add_one,h,List.all_append,Bool.and_assoc];simp
theorem Pm (w:aH)(f:ForM)(ns:List dP)(due:List ck)(most:Int):af Tryz.prog 3 [] [bk w,bD f,fZ ns,dX due,aj most] [] (aA true):=by
 have h15:=Ge
 have h16:=F7 w
 have h17:=Jb f
 have hnm:(ns.map wY).length=ns.length:=aM ..
 have hdm:(due.map fU).length=due.length:=aM ..
 cases e1:wN w with
 | false=>
   rw[e1] at h16
   obtain⟨⟨l,m⟩,st,⟨d1,d2,d3,d4⟩,⟨a,b,c,d⟩,ta,bu,cs⟩:=w
   obtain⟨l',m'⟩:=f
   refine af.ah (rvs:=[.tmp 10]) G aa Tryz.func3 rfl Tryz.ntmps3 rfl rfl ?_;with_reducible refine wD ?_
   repeat' (first
  |refine gK ?_|refine aE ?_ ?_
  | ((first
   |((with_reducible refine kQ 15 ?_);refine cL h15 Pa ?_)
   | ((with_reducible refine kQ 16 ?_);refine aD.lit [] h16 O8 ⟨
    ⟨rfl,rfl,rfl,rfl,rfl,rfl,rfl,rfl,rfl,rfl,rfl,rfl,rfl,rfl,trivial⟩
    ,trivial⟩ rfl rfl ?_))<;>with_reducible refine wK ?_)
  |apply trivial)
 |true=>
 rw[e1] at h16
 have S:=CS.1 e1
 cases e4:oe f with
 | false=>
   rw[e4] at h17
   clear S
   obtain⟨⟨l,m⟩,st,⟨d1,d2,d3,d4⟩,⟨a,b,c,d⟩,ta,bu,cs⟩:=w
   obtain⟨l',m'⟩:=f
   refine af.ah (rvs:=[.tmp 10]) G aa Tryz.func3 rfl Tryz.ntmps3 rfl rfl ?_;with_reducible refine wD ?_
   repeat' (first
  |refine gK ?_|refine aE ?_ ?_
  | ((first
   |((with_reducible refine kQ 15 ?_);refine cL h15 Pa ?_)
   |((with_reducible refine kQ 17 ?_);refine cL h17 Lp ?_)
   | ((with_reducible refine kQ 16 ?_);refine aD.lit [] h16 O8 ⟨
    ⟨rfl,rfl,rfl,rfl,rfl,rfl,rfl,rfl,rfl,rfl,rfl,rfl,rfl,rfl,trivial⟩
    ,trivial⟩ rfl rfl ?_))<;>with_reducible refine wK ?_)
  |apply trivial)
 |true=>
 rw[e4] at h17
 have SF:=mM e4
 by_cases e2:(80:Int)< (ns.length:Int)
 ·--
  clear S SF
  obtain⟨⟨l,m⟩,st,⟨d1,d2,d3,d4⟩,⟨a,b,c,d⟩,ta,bu,cs⟩:=w
  obtain⟨l',m'⟩:=f
  refine af.ah (rvs:=[.tmp 10]) G aa Tryz.func3 rfl Tryz.ntmps3 rfl rfl ?_;with_reducible refine wD ?_
  (have fct:=And.intro hnm (e2);(repeat' (first
  |refine gF ?_|refine aE ?_ ?_
  | ((first
   |((with_reducible refine kQ 15 ?_);refine cL h15 Pa ?_)
   |((with_reducible refine kQ 17 ?_);refine cL h17 Lp ?_)
   | ((with_reducible refine kQ 16 ?_);refine aD.lit [] h16 O8 ⟨
    ⟨rfl,rfl,rfl,rfl,rfl,rfl,rfl,rfl,rfl,rfl,rfl,rfl,rfl,rfl,trivial⟩
    ,trivial⟩ rfl rfl ?_))<;>with_reducible refine wK ?_)
  |apply trivial));all_goals clear fct)
 by_cases e5:(80:Int)< (due.length:Int)
 ·--
  clear S SF
  obtain⟨⟨l,m⟩,st,⟨d1,d2,d3,d4⟩,⟨a,b,c,d⟩,ta,bu,cs⟩:=w
  obtain⟨l',m'⟩:=f
  refine af.ah (rvs:=[.tmp 10]) G aa Tryz.func3 rfl Tryz.ntmps3 rfl rfl ?_;with_reducible refine wD ?_
  (have fct:=And.intro hnm (And.intro hdm (And.intro (eq_false e2) (e5)));(repeat' (first
  |refine gF ?_|refine aE ?_ ?_
  | ((first
   |((with_reducible refine kQ 15 ?_);refine cL h15 Pa ?_)
   |((with_reducible refine kQ 17 ?_);refine cL h17 Lp ?_)
   | ((with_reducible refine kQ 16 ?_);refine aD.lit [] h16 O8 ⟨
    ⟨rfl,rfl,rfl,rfl,rfl,rfl,rfl,rfl,rfl,rfl,rfl,rfl,rfl,rfl,trivial⟩
    ,trivial⟩ rfl rfl ?_))<;>with_reducible refine wK ?_)
  |apply trivial));all_goals clear fct)
 have hsm:=S.small
 have hl60:=Ck S.l
 have htd:=hl60.todos
 have hta:=S.ta
 have hcl:=hsm.cl
 have b1:=GW w hsm (qF.1 S.d)
 have b2:=s9 w hsm
 have b3:=qR w (by omega)
 have b4:=C5 w (by omega)
 have b5:=vE w.line (hl60.mono (by omega))
 have b6:=yE w (by omega)
 have b7:=Fq w (by omega)
 have b8:=jr (oJ w) (BS hsm)
 have b9:=jr w hsm
 have hrl:qp w=true→sV w.line=true:=Da
 have hal:∀x∈w.classes,af Tryz.prog 26 [] [bK x] [] (aA (bq x)):=fun x hx=>oS x (hsm.cs x hx).watch (hsm.cs x hx).hooks (hsm.nm x hx)
 have har:∀x∈w.classes,af Tryz.prog 27 [] [bK x] [] (aA (bq x)):=fun x hx=>uj x (hsm.nm x hx)
 have hbb:(!(cF w==cF w))=false:=by cases cF w<;>rfl
 have hR:cF w=true→(w.states.length=w.f.nodes.length):=fun h=>(ir.1 h).sl
 have hN:=Gi w.classes most
 have n1:=DZ w.classes most hsm.cl hsm.cs hsm.nm
 have n2:=LN w.classes most
 have n3:=jr (gi w.classes most) (rM most hsm.cl hsm.cs hsm.nm)
 have n4:=jr vO ⟨⟨by decide,by simp,by simp,by simp⟩,by decide,⟨by decide,by decide⟩,⟨by decide,by simp,by decide,by decide,by simp⟩,by decide,by decide,by decide,fun x hx=>by simp at hx,fun x hx=>by simp at hx⟩
 have hto:=BT w
 have hdue:∀x,fW w x=(ai w.f.nodes x.node&&gU w x.todo):=fun x=>rfl
 have hend:=Hi w due
 have q0:eV w due=false→af Tryz.prog 31 [] [bk w,dX due] [] (.tup [bk w,aj 1]):=fun h=>by
  have:=nh w hsm due (by omega)
  rwa [qN h] at this
 have q1:eV w due=true→af Tryz.prog 31 [] [bk w,dX due] [] (.tup [bk (cj w due),aj 0])∧af Tryz.prog 32 [] [bk w,dX due] [] (bk (cj w due))∧af Tryz.prog 23 [] [bk (cj w due),bk (cj w due)] [] (aA true):=fun h=>by
  have:=nh w hsm due (by omega)
  rw[tZ h] at this
  exact⟨this,ru w hsm due (by omega) (j6.1 h).1 (j6.1 h).2,jr _ (FG S due (by omega))⟩
 have t0:((cF w&&bf f)&&dH w f)=false→af Tryz.prog 33 [] [bk w,bD f,fZ ns] [] (.tup [bk w,aj 1]):=fun h=>by
  have:=vg w hsm (hl60.mono (by omega)) (by omega) f SF ns (by omega)
  rwa [r8 (show kV w f=false from h)] at this
 have t1:((cF w&&bf f)&&dH w f)=true→af Tryz.prog 33 [] [bk w,bD f,fZ ns] [] (.tup [bk (kK w f ns),aj 0])∧af Tryz.prog 36 [] [bk w,bD f,fZ ns] [] (bk (kK w f ns))∧af Tryz.prog 23 [] [bk (kK w f ns),bk (kK w f ns)] [] (aA true):=fun h=>by
  have:=vg w hsm (hl60.mono (by omega)) (by omega) f SF ns (by omega)
  have h':kV w f=true:=h
  rw[yO h'] at this
  obtain⟨R,r2,r3⟩:=Dk.1 h'
  exact⟨this,H9 w hsm (hl60.mono (by omega)) (by omega) f SF ns (by omega) R r2 r3,jr _ (AU hsm hl60 (by omega) (by omega) SF (ns:=ns) (by omega) R r2 r3).1⟩
 have hrf:=HM f SF
 rw[right_eq] at hrf
 have hfo:=Bw w (by have:=hsm.f.len;omega) f
 generalize oJ w=C at*
 generalize qp w=q at*
 generalize cF w=r at*
 generalize sV w.line=z at*
 generalize bf f=rf at*
 generalize dH w f=fo at*
 generalize xm w.classes most=N at*
 generalize gi w.classes most=N0 at*
 generalize cj w due=E at*
 generalize kK w f ns=T at*
 generalize eV w due=eo at*
 generalize fW w=p at*
 generalize gU w=tg at*
 clear S SF hsm hl60 e1 e4
 obtain⟨⟨Cl,Cm⟩,Cst,⟨Cd1,Cd2,Cd3,Cd4⟩,⟨Ca,Cb,Cc,Cd⟩,Cta,Cbu,Ccs⟩:=C
 obtain⟨⟨Nl,Nm⟩,Nst,⟨Nd1,Nd2,Nd3,Nd4⟩,⟨Na,Nb,Nc,Nd⟩,Nta,Nbu,Ncs⟩:=N0
 obtain⟨⟨El,Em⟩,Est,⟨Ed1,Ed2,Ed3,Ed4⟩,⟨Ea,Eb,Ec,Ed⟩,Eta,Ebu,Ecs⟩:=E
 obtain⟨⟨Tl,Tm⟩,Tst,⟨Td1,Td2,Td3,Td4⟩,⟨Ta,Tb,Tc,Td⟩,Tta,Tbu,Tcs⟩:=T
 obtain⟨⟨l,m⟩,st,⟨d1,d2,d3,d4⟩,⟨a,b,c,d⟩,ta,bu,cs⟩:=w
 obtain⟨l',m'⟩:=f
 simp only at hal har hR hN hdue hcl
 have n5:(st.map cr).length=st.length:=aM ..
 have n6:(cs.map cZ).length=cs.length:=aM ..
 have h120:(decide (cs.length≤12)&&(List.take 0 cs).all bq)=decide (((cs.map cZ).length:Int)≤12):=by
  rw[List.take_zero,List.all_nil,Bool.and_true,decide_eq_decide,n6];omega
 refine And.left (b:=True) ?_
 apply Nf
 ·intro tail
  cases q with
  | false=>
    refine af.ah (rvs:=[.tmp 10]) G aa Tryz.func3 rfl Tryz.ntmps3 rfl rfl ?_;with_reducible refine wD ?_
    (have fct:=And.intro hnm (And.intro hdm (And.intro (eq_false e2) (And.intro (eq_false e5) (hbb))));(repeat' (first
  |refine gF ?_|refine aE ?_ ?_
  | ((first
   |((with_reducible refine kQ 15 ?_);refine cL h15 Pa ?_)
   |((with_reducible refine kQ 17 ?_);refine cL h17 Lp ?_)
   | ((with_reducible refine kQ 16 ?_);refine aD.lit [] h16 O8 ⟨
     ⟨rfl,rfl,rfl,rfl,rfl,rfl,rfl,rfl,rfl,rfl,rfl,rfl,rfl,rfl,trivial⟩
     ,trivial⟩ rfl rfl ?_)
   | ((with_reducible refine kQ 18 ?_);refine aD.lit [] b1 S0 ⟨
     ⟨rfl,rfl,rfl,rfl,rfl,rfl,rfl,rfl,rfl,rfl,rfl,rfl,rfl,rfl,trivial⟩
     ,trivial⟩ rfl rfl ?_)
   | ((with_reducible refine kQ 19 ?_);refine aD.lit [] b2 QD ⟨
     ⟨rfl,rfl,rfl,rfl,rfl,rfl,rfl,rfl,rfl,rfl,rfl,rfl,rfl,rfl,trivial⟩
     ,trivial⟩ rfl rfl ?_)
   | ((with_reducible refine kQ 20 ?_);refine aD.lit [] b3 QB ⟨
     ⟨rfl,rfl,rfl,rfl,rfl,rfl,rfl,rfl,rfl,rfl,rfl,rfl,rfl,rfl,trivial⟩
     ,trivial⟩ rfl rfl ?_)
   | ((with_reducible refine kQ 21 ?_);refine aD.lit [] b4 SH ⟨
     ⟨rfl,rfl,rfl,rfl,rfl,rfl,rfl,rfl,rfl,rfl,rfl,rfl,rfl,rfl,trivial⟩
     ,trivial⟩ rfl rfl ?_)
   |((with_reducible refine kQ 22 ?_);refine cL b5 O6 ?_)
   | ((with_reducible refine kQ 24 ?_);refine aD.val [] b6 Sv ⟨
     ⟨rfl,rfl,rfl,rfl,rfl,rfl,rfl,rfl,rfl,rfl,rfl,rfl,rfl,rfl,trivial⟩
     ,trivial⟩ rfl rfl rfl ?_)
   | ((with_reducible refine kQ 25 ?_);refine aD.val [] b7 SQ ⟨
     ⟨rfl,rfl,rfl,rfl,rfl,rfl,rfl,rfl,rfl,rfl,rfl,rfl,rfl,rfl,trivial⟩
     ,trivial⟩ rfl rfl rfl ?_)
   | ((with_reducible refine kQ 23 ?_);refine aD.lit [] b8 Bc ⟨
     ⟨rfl,rfl,rfl,rfl,rfl,rfl,rfl,rfl,rfl,rfl,rfl,rfl,rfl,rfl,trivial⟩
     ,
     ⟨rfl,rfl,rfl,rfl,rfl,rfl,rfl,rfl,rfl,rfl,rfl,rfl,rfl,rfl,trivial⟩
     ,trivial⟩ rfl rfl ?_))<;>with_reducible refine wK ?_)
  | apply trivial));all_goals clear fct)
    refine aR.use G aa (fun(k:Nat)=>[(2,fZ ns),(3,dX due),(4,aj most),(5,.ptr 50 0 0),(6,.ptr 60 0 0),(11,aA r),(12,aA (decide (cs.length≤12)&&(cs.take k).all bq)),(13,aj k)]) (fun _=>[(50,mW ⟨⟨l,m⟩,st,⟨d1,d2,d3,d4⟩,⟨a,b,c,d⟩,ta,bu,cs⟩),(60,.live 2 [bD ⟨l',m'⟩] false)])
     (fun k=>k≤cs.length) (fun k=>cs.length-k) 0 (Nat.zero_le _) ?_ ?_
    ·(refine fK ?_;(with_reducible repeat' (first|exact trivial|(show _∧_;refine aK ?_ ?_)));(all_goals try rfl))
     all_goals first|rfl|exact h120|(simp;done)
    ·exact tail.get
  | true=>
    obtain rfl:=hrl rfl
    refine af.ah (rvs:=[.tmp 10]) G aa Tryz.func3 rfl Tryz.ntmps3 rfl rfl ?_;with_reducible refine wD ?_
    (have fct:=And.intro hnm (And.intro hdm (And.intro (eq_false e2) (And.intro (eq_false e5) (hbb))));(repeat' (first
  |refine gF ?_|refine aE ?_ ?_
  | ((first
   |((with_reducible refine kQ 15 ?_);refine cL h15 Pa ?_)
   |((with_reducible refine kQ 17 ?_);refine cL h17 Lp ?_)
   | ((with_reducible refine kQ 16 ?_);refine aD.lit [] h16 O8 ⟨
     ⟨rfl,rfl,rfl,rfl,rfl,rfl,rfl,rfl,rfl,rfl,rfl,rfl,rfl,rfl,trivial⟩
     ,trivial⟩ rfl rfl ?_)
   | ((with_reducible refine kQ 18 ?_);refine aD.lit [] b1 S0 ⟨
     ⟨rfl,rfl,rfl,rfl,rfl,rfl,rfl,rfl,rfl,rfl,rfl,rfl,rfl,rfl,trivial⟩
     ,trivial⟩ rfl rfl ?_)
   | ((with_reducible refine kQ 19 ?_);refine aD.lit [] b2 QD ⟨
     ⟨rfl,rfl,rfl,rfl,rfl,rfl,rfl,rfl,rfl,rfl,rfl,rfl,rfl,rfl,trivial⟩
     ,trivial⟩ rfl rfl ?_)
   | ((with_reducible refine kQ 20 ?_);refine aD.lit [] b3 QB ⟨
     ⟨rfl,rfl,rfl,rfl,rfl,rfl,rfl,rfl,rfl,rfl,rfl,rfl,rfl,rfl,trivial⟩
     ,trivial⟩ rfl rfl ?_)
   | ((with_reducible refine kQ 21 ?_);refine aD.lit [] b4 SH ⟨
     ⟨rfl,rfl,rfl,rfl,rfl,rfl,rfl,rfl,rfl,rfl,rfl,rfl,rfl,rfl,trivial⟩
     ,trivial⟩ rfl rfl ?_)
   |((with_reducible refine kQ 22 ?_);refine cL b5 O6 ?_)
   | ((with_reducible refine kQ 24 ?_);refine aD.val [] b6 Sv ⟨
     ⟨rfl,rfl,rfl,rfl,rfl,rfl,rfl,rfl,rfl,rfl,rfl,rfl,rfl,rfl,trivial⟩
     ,trivial⟩ rfl rfl rfl ?_)
   | ((with_reducible refine kQ 25 ?_);refine aD.val [] b7 SQ ⟨
     ⟨rfl,rfl,rfl,rfl,rfl,rfl,rfl,rfl,rfl,rfl,rfl,rfl,rfl,rfl,trivial⟩
     ,trivial⟩ rfl rfl rfl ?_)
   | ((with_reducible refine kQ 23 ?_);refine aD.lit [] b8 Bc ⟨
     ⟨rfl,rfl,rfl,rfl,rfl,rfl,rfl,rfl,rfl,rfl,rfl,rfl,rfl,rfl,trivial⟩
     ,
     ⟨rfl,rfl,rfl,rfl,rfl,rfl,rfl,rfl,rfl,rfl,rfl,rfl,rfl,rfl,trivial⟩
     ,trivial⟩ rfl rfl ?_))<;>with_reducible refine wK ?_)
  | apply trivial));all_goals clear fct)
    refine aR.use G aa (fun(k:Nat)=>[(2,fZ ns),(3,dX due),(4,aj most),(5,.ptr 50 0 0),(6,.ptr 60 0 0),(11,aA r),(12,aA (decide (cs.length≤12)&&(cs.take k).all bq)),(13,aj k)]) (fun _=>[(50,mW ⟨⟨l,m⟩,st,⟨d1,d2,d3,d4⟩,⟨a,b,c,d⟩,ta,bu,cs⟩),(60,.live 2 [bD ⟨l',m'⟩] false)])
     (fun k=>k≤cs.length) (fun k=>cs.length-k) 0 (Nat.zero_le _) ?_ ?_
    ·(refine fK ?_;(with_reducible repeat' (first|exact trivial|(show _∧_;refine aK ?_ ?_)));(all_goals try rfl))
     all_goals first|rfl|exact h120|(simp;done)
    ·exact tail.get
 intro k hk
 have hs1:=fun x (hx:cs[k]? =some x)=>show(decide (cs.length≤12)&&(cs.take (k+1)).all bq)=((decide (cs.length≤12)&&(cs.take k).all bq)&&bq x) by rw[List.take_add_one,hx,List.all_append,Bool.and_assoc];simp
 generalize hv:(decide (cs.length≤12)&&(cs.take k).all bq)=v at*
 with_reducible refine wK ?_
 refine aQ.mk (fun h1=>?_) (fun h1=>?_)<;>(try simp only[aq] at h1)<;>with_reducible refine wK ?_
 ·have hk':k<cs.length:=by simp only[aL] at h1;omega
  obtain⟨⟨c1,c2,c3,c4,c5⟩,hx⟩:∃x,cs[k]? =some x:=⟨_,aP hk'⟩
  have hm:=bn hx
  have ha:=hal _ hm
  have hr':=har _ hm
  have hs1:=hs1 _ hx
  generalize bq ⟨c1,c2,c3,c4,c5⟩=u at*
  clear h1 hv hal har
  cases u<;>cases v
  all_goals
   repeat' (first
  |refine gK ?_|refine aE ?_ ?_
  | ((first
   |((with_reducible show ak _ _ _ _ _);refine ak.mk k (bK ⟨c1,c2,c3,c4,c5⟩) rfl (cU hx) ?_)
   |((with_reducible refine kQ 26 ?_);refine cL ha Sg ?_)
   |((with_reducible refine kQ 27 ?_);refine cL hr' RP ?_))<;>with_reducible refine wK ?_)
  | apply trivial)
   refine ay.mk (k+1) (by omega) (by omega) ?_
   (refine fK ?_;(with_reducible repeat' (first|exact trivial|(show _∧_;refine aK ?_ ?_)));(all_goals try rfl))
   all_goals first|rfl|(rw[hs1];rfl)|(simp;done)
 have hk':cs.length≤k:=by simp only[bh] at h1;omega
 rw[jH hk'] at hv
 clear hs1 hal har b1 b2 b3 b4 b6 b7 b8 hrl hbb h120 hk
 refine And.left (b:=True) ?_
 apply Nf
 ·intro tail
  rcases hN with⟨hA,g1,g2,rfl⟩|⟨hA,g1,g2,rfl⟩|⟨hA,g1,rfl⟩|⟨hA,rfl⟩
  all_goals
   rw[hv] at hA
   subst hA
   dsimp only at n1
  ·(have fct:=And.intro (eq_true g1) ((eq_true g2));(repeat' (first
  |refine gF ?_|refine aE ?_ ?_
  | ((first
   |((with_reducible refine kQ 28 ?_);refine cV n1 PD ?_)
   |((with_reducible refine kQ 29 ?_);refine cV n2 Tg ?_)
   | ((with_reducible refine kQ 23 ?_);refine aD.lit [] n3 Bc ⟨
     ⟨rfl,rfl,rfl,rfl,rfl,rfl,rfl,rfl,rfl,rfl,rfl,rfl,rfl,rfl,trivial⟩
     ,
     ⟨rfl,rfl,rfl,rfl,rfl,rfl,rfl,rfl,rfl,rfl,rfl,rfl,rfl,rfl,trivial⟩
     ,trivial⟩ rfl rfl ?_))<;>with_reducible refine wK ?_)
  | apply trivial));all_goals clear fct)
   refine aR.use G aa (fun(k:Nat)=>[(2,fZ ns),(3,dX due),(5,.ptr 50 0 0),(6,.ptr 60 0 0),(11,aA r),(16,aA (n8 r p due k)),(17,aj k)]) (fun _=>[(50,mW ⟨⟨l,m⟩,st,⟨d1,d2,d3,d4⟩,⟨a,b,c,d⟩,ta,bu,cs⟩),(60,.live 2 [bD ⟨l',m'⟩] false)])
    (fun k=>k≤due.length) (fun k=>due.length-k) 0 (Nat.zero_le _) ?_ ?_
   ·(refine fK ?_;(with_reducible repeat' (first|exact trivial|(show _∧_;refine aK ?_ ?_)));(all_goals try rfl))
    all_goals first|rfl|(rw[pG];done)|(simp[n8];done)
   ·exact tail.get
  ·(have fct:=And.intro (eq_true g1) ((eq_false g2));(repeat' (first
  |refine gF ?_|refine aE ?_ ?_
  | ((first
   |((with_reducible refine kQ 28 ?_);refine cV n1 PD ?_)
   | ((with_reducible refine kQ 23 ?_);refine aD.lit [] n4 Bc ⟨
     ⟨rfl,rfl,rfl,rfl,rfl,rfl,rfl,rfl,rfl,rfl,rfl,rfl,rfl,rfl,trivial⟩
     ,
     ⟨.inr (.inr ⟨_,rfl⟩),rfl,.inr (.inr ⟨_,rfl⟩),.inr (.inr ⟨_,rfl⟩),.inr (.inr ⟨_,rfl⟩),rfl,rfl,.inr (.inr ⟨_,rfl⟩),.inr (.inr ⟨_,rfl⟩),.inr (.inr ⟨_,rfl⟩),rfl,.inr (.inr ⟨_,rfl⟩),.inr (.inr ⟨_,rfl⟩),.inr (.inr ⟨_,rfl⟩),trivial⟩
     ,trivial⟩ rfl rfl ?_))<;>with_reducible refine wK ?_)
  | apply trivial));all_goals clear fct)
   refine aR.use G aa (fun(k:Nat)=>[(2,fZ ns),(3,dX due),(5,.ptr 50 0 0),(6,.ptr 60 0 0),(11,aA r),(16,aA (n8 r p due k)),(17,aj k)]) (fun _=>[(50,mW ⟨⟨l,m⟩,st,⟨d1,d2,d3,d4⟩,⟨a,b,c,d⟩,ta,bu,cs⟩),(60,.live 2 [bD ⟨l',m'⟩] false)])
    (fun k=>k≤due.length) (fun k=>due.length-k) 0 (Nat.zero_le _) ?_ ?_
   ·(refine fK ?_;(with_reducible repeat' (first|exact trivial|(show _∧_;refine aK ?_ ?_)));(all_goals try rfl))
    all_goals first|rfl|(rw[pG];done)|(simp[n8];done)
   ·exact tail.get
  ·(have fct:=(eq_false g1);(repeat' (first
  |refine gF ?_|refine aE ?_ ?_
  | ((first
   |((with_reducible refine kQ 28 ?_);refine cV n1 PD ?_)
   | ((with_reducible refine kQ 23 ?_);refine aD.lit [] n4 Bc ⟨
     ⟨rfl,rfl,rfl,rfl,rfl,rfl,rfl,rfl,rfl,rfl,rfl,rfl,rfl,rfl,trivial⟩
     ,
     ⟨.inr (.inr ⟨_,rfl⟩),rfl,.inr (.inr ⟨_,rfl⟩),.inr (.inr ⟨_,rfl⟩),.inr (.inr ⟨_,rfl⟩),rfl,rfl,.inr (.inr ⟨_,rfl⟩),.inr (.inr ⟨_,rfl⟩),.inr (.inr ⟨_,rfl⟩),rfl,.inr (.inr ⟨_,rfl⟩),.inr (.inr ⟨_,rfl⟩),.inr (.inr ⟨_,rfl⟩),trivial⟩
     ,trivial⟩ rfl rfl ?_))<;>with_reducible refine wK ?_)
  | apply trivial));all_goals clear fct)
   refine aR.use G aa (fun(k:Nat)=>[(2,fZ ns),(3,dX due),(5,.ptr 50 0 0),(6,.ptr 60 0 0),(11,aA r),(16,aA (n8 r p due k)),(17,aj k)]) (fun _=>[(50,mW ⟨⟨l,m⟩,st,⟨d1,d2,d3,d4⟩,⟨a,b,c,d⟩,ta,bu,cs⟩),(60,.live 2 [bD ⟨l',m'⟩] false)])
    (fun k=>k≤due.length) (fun k=>due.length-k) 0 (Nat.zero_le _) ?_ ?_
   ·(refine fK ?_;(with_reducible repeat' (first|exact trivial|(show _∧_;refine aK ?_ ?_)));(all_goals try rfl))
    all_goals first|rfl|(rw[pG];done)|(simp[n8];done)
   ·exact tail.get
  ·repeat' (first
  |refine gK ?_|refine aE ?_ ?_
  | ((first
   |((with_reducible refine kQ 28 ?_);refine cV n1 PD ?_)
   | ((with_reducible refine kQ 23 ?_);refine aD.lit [] n4 Bc ⟨
     ⟨rfl,rfl,rfl,rfl,rfl,rfl,rfl,rfl,rfl,rfl,rfl,rfl,rfl,rfl,trivial⟩
     ,
     ⟨.inr (.inr ⟨_,rfl⟩),rfl,.inr (.inr ⟨_,rfl⟩),.inr (.inr ⟨_,rfl⟩),.inr (.inr ⟨_,rfl⟩),rfl,rfl,.inr (.inr ⟨_,rfl⟩),.inr (.inr ⟨_,rfl⟩),.inr (.inr ⟨_,rfl⟩),rfl,.inr (.inr ⟨_,rfl⟩),.inr (.inr ⟨_,rfl⟩),.inr (.inr ⟨_,rfl⟩),trivial⟩
     ,trivial⟩ rfl rfl ?_))<;>with_reducible refine wK ?_)
  | apply trivial)
   refine aR.use G aa (fun(k:Nat)=>[(2,fZ ns),(3,dX due),(5,.ptr 50 0 0),(6,.ptr 60 0 0),(11,aA r),(16,aA (n8 r p due k)),(17,aj k)]) (fun _=>[(50,mW ⟨⟨l,m⟩,st,⟨d1,d2,d3,d4⟩,⟨a,b,c,d⟩,ta,bu,cs⟩),(60,.live 2 [bD ⟨l',m'⟩] false)])
    (fun k=>k≤due.length) (fun k=>due.length-k) 0 (Nat.zero_le _) ?_ ?_
   ·(refine fK ?_;(with_reducible repeat' (first|exact trivial|(show _∧_;refine aK ?_ ?_)));(all_goals try rfl))
    all_goals first|rfl|(rw[pG];done)|(simp[n8];done)
   ·exact tail.get
 clear hv n1 n2 n3 n4 hcl
 intro k hk
 have hs1:=fun x (hx:due[k]? =some x)=>GP r p due k x hx
 have hmr:n8 r p due k=true→r=true:=fun h=>by unfold n8 at h;rw[aT] at h;exact h.1
 generalize hv:n8 r p due k=v at*
 with_reducible refine wK ?_
 refine aQ.mk (fun h1=>?_) (fun h1=>?_)<;>(try simp only[aq] at h1)<;>with_reducible refine wK ?_
 ·have hk':k<due.length:=by simp only[aL] at h1;omega
  obtain⟨⟨x0,⟨y1,y2,y3,y4,y5,y6,y7,y8,y9,y10⟩⟩,hx⟩:∃x,due[k]? =some x:=⟨_,aP hk'⟩
  have hs1:=hs1 _ hx
  have hto:=hto ⟨y1,y2,y3,y4,y5,y6,y7,y8,y9,y10⟩
  have hge:(due.map fU)[k]? =some (gL ⟨x0,⟨y1,y2,y3,y4,y5,y6,y7,y8,y9,y10⟩⟩):=by rw[dM,hx];rfl
  rw[hdue] at hs1
  simp only at hs1
  generalize tg ⟨y1,y2,y3,y4,y5,y6,y7,y8,y9,y10⟩=u at*
  clear h1 hv hend q0 q1 t0 t1
  cases v with
  | false=>
    repeat' (first
  |refine gK ?_|refine aE ?_ ?_
  | apply trivial)
    refine ay.mk (k+1) (by omega) (by omega) ?_
    (refine fK ?_;(with_reducible repeat' (first|exact trivial|(show _∧_;refine aK ?_ ?_)));(all_goals try rfl))
    all_goals first|rfl|(rw[hs1];rfl)|(simp;done)
  | true=>
    obtain rfl:=hmr rfl
    have hR:=hR rfl
    by_cases g1:0≤x0
    ·by_cases g2:x0< (st.length:Int)
     ·have hth:ai l x0=true:=by unfold ai;rw[aV g1,aV (by omega)];rfl
      rw[hth] at hs1
      (have fct:=And.intro n5 (And.intro (eq_true g1) ((eq_true g2)));(repeat' (first
  |refine gF ?_|refine aE ?_ ?_
  | ((first
   |((with_reducible show ak _ _ _ _ _);refine ak.mk k (gL ⟨x0,⟨y1,y2,y3,y4,y5,y6,y7,y8,y9,y10⟩⟩) rfl hge ?_)
   | ((with_reducible refine kQ 30 ?_);refine aD.lit [] hto Rb ⟨
       ⟨rfl,rfl,rfl,rfl,rfl,rfl,rfl,rfl,rfl,rfl,rfl,rfl,rfl,rfl,trivial⟩
       ,⟨rfl,rfl,rfl,rfl,rfl,rfl,rfl,rfl,rfl,rfl,trivial⟩,trivial⟩ rfl rfl ?_))<;>with_reducible refine wK ?_)
  |apply trivial));all_goals clear fct)
      refine ay.mk (k+1) (by omega) (by omega) ?_
      (refine fK ?_;(with_reducible repeat' (first|exact trivial|(show _∧_;refine aK ?_ ?_)));(all_goals try rfl))
      all_goals first|rfl|(rw[hs1];rfl)|(rw[hs1];simp;done)|(simp;done)
     ·have hth:ai l x0=false:=by unfold ai;rw[aS (show ¬x0< (l.length:Int) by omega),Bool.and_false]
      rw[hth] at hs1
      (have fct:=And.intro n5 (And.intro (eq_true g1) ((eq_false g2)));(repeat' (first
  |refine gF ?_|refine aE ?_ ?_
  |(((with_reducible show ak _ _ _ _ _);refine ak.mk k (gL ⟨x0,⟨y1,y2,y3,y4,y5,y6,y7,y8,y9,y10⟩⟩) rfl hge ?_)<;>with_reducible refine wK ?_)
  | apply trivial));all_goals clear fct)
      refine ay.mk (k+1) (by omega) (by omega) ?_
      (refine fK ?_;(with_reducible repeat' (first|exact trivial|(show _∧_;refine aK ?_ ?_)));(all_goals try rfl))
      all_goals first|rfl|(rw[hs1];rfl)|(rw[hs1];simp;done)|(simp;done)
    ·have hth:ai l x0=false:=by unfold ai;rw[aS g1,Bool.false_and]
     rw[hth] at hs1
     (have fct:=(eq_false g1);(repeat' (first
  |refine gF ?_|refine aE ?_ ?_
  |(((with_reducible show ak _ _ _ _ _);refine ak.mk k (gL ⟨x0,⟨y1,y2,y3,y4,y5,y6,y7,y8,y9,y10⟩⟩) rfl hge ?_)<;>with_reducible refine wK ?_)
  |apply trivial));all_goals clear fct)
     refine ay.mk (k+1) (by omega) (by omega) ?_
     (refine fK ?_;(with_reducible repeat' (first|exact trivial|(show _∧_;refine aK ?_ ?_)));(all_goals try rfl))
     all_goals first|rfl|(rw[hs1];rfl)|(rw[hs1];simp;done)|(simp;done)
 have hk':due.length≤k:=by simp only[bh] at h1;omega
 have hend:=hend k hk'
 rw[hv] at hend
 subst hend
 cases v with
 | false =>
   have q0:=q0 rfl
   cases r with
   | false=>
     have t0:=t0 rfl
     repeat' (first
  |refine gK ?_|refine aE ?_ ?_
  | ((first
   | ((with_reducible refine kQ 31 ?_);refine aD.val [] q0 J0 ⟨
     ⟨rfl,rfl,rfl,rfl,rfl,rfl,rfl,rfl,rfl,rfl,rfl,rfl,rfl,rfl,trivial⟩
     ,rfl,trivial⟩ rfl rfl rfl ?_)
   | ((with_reducible refine kQ 23 ?_);first
     | refine aD.lit [] b9 Bc ⟨
      ⟨rfl,rfl,rfl,rfl,rfl,rfl,rfl,rfl,rfl,rfl,rfl,rfl,rfl,rfl,trivial⟩
      ,
      ⟨rfl,rfl,rfl,rfl,rfl,rfl,rfl,rfl,rfl,rfl,rfl,rfl,rfl,rfl,trivial⟩
      ,trivial⟩ rfl rfl ?_)
   | ((with_reducible refine kQ 33 ?_);refine aD.val [] t0 Nh ⟨
     ⟨rfl,rfl,rfl,rfl,rfl,rfl,rfl,rfl,rfl,rfl,rfl,rfl,rfl,rfl,trivial⟩
     ,⟨rfl,rfl,trivial⟩,rfl,trivial⟩ rfl rfl rfl ?_)
   |((with_reducible refine kQ 34 ?_);refine cL hrf GZ ?_)
   | ((with_reducible refine kQ 35 ?_);refine aD.lit [] hfo O3 ⟨
     ⟨rfl,rfl,rfl,rfl,rfl,rfl,rfl,rfl,rfl,rfl,rfl,rfl,rfl,rfl,trivial⟩
     ,⟨rfl,rfl,trivial⟩,trivial⟩ rfl rfl ?_))<;>with_reducible refine wK ?_)
  | apply trivial)
   | true=>
     cases rf with
     | false=>
       have t0:=t0 rfl
       repeat' (first
  |refine gK ?_|refine aE ?_ ?_
  | ((first
   | ((with_reducible refine kQ 31 ?_);refine aD.val [] q0 J0 ⟨
      ⟨rfl,rfl,rfl,rfl,rfl,rfl,rfl,rfl,rfl,rfl,rfl,rfl,rfl,rfl,trivial⟩
      ,rfl,trivial⟩ rfl rfl rfl ?_)
   | ((with_reducible refine kQ 23 ?_);first
      | refine aD.lit [] b9 Bc ⟨
       ⟨rfl,rfl,rfl,rfl,rfl,rfl,rfl,rfl,rfl,rfl,rfl,rfl,rfl,rfl,trivial⟩
       ,
       ⟨rfl,rfl,rfl,rfl,rfl,rfl,rfl,rfl,rfl,rfl,rfl,rfl,rfl,rfl,trivial⟩
       ,trivial⟩ rfl rfl ?_)
   | ((with_reducible refine kQ 33 ?_);refine aD.val [] t0 Nh ⟨
      ⟨rfl,rfl,rfl,rfl,rfl,rfl,rfl,rfl,rfl,rfl,rfl,rfl,rfl,rfl,trivial⟩
      ,⟨rfl,rfl,trivial⟩,rfl,trivial⟩ rfl rfl rfl ?_)
   |((with_reducible refine kQ 34 ?_);refine cL hrf GZ ?_)
   | ((with_reducible refine kQ 35 ?_);refine aD.lit [] hfo O3 ⟨
      ⟨rfl,rfl,rfl,rfl,rfl,rfl,rfl,rfl,rfl,rfl,rfl,rfl,rfl,rfl,trivial⟩
      ,⟨rfl,rfl,trivial⟩,trivial⟩ rfl rfl ?_))<;>with_reducible refine wK ?_)
  |apply  trivial)
     | true=>
       cases fo with
       | false=>
         have t0:=t0 rfl
         repeat' (first
  |refine gK ?_|refine aE ?_ ?_
  | ((first
   | ((with_reducible refine kQ 31 ?_);refine aD.val [] q0 J0 ⟨
       ⟨rfl,rfl,rfl,rfl,rfl,rfl,rfl,rfl,rfl,rfl,rfl,rfl,rfl,rfl,trivial⟩
       ,rfl,trivial⟩ rfl rfl rfl ?_)
   | ((with_reducible refine kQ 23 ?_);first
       | refine aD.lit [] b9 Bc ⟨
        ⟨rfl,rfl,rfl,rfl,rfl,rfl,rfl,rfl,rfl,rfl,rfl,rfl,rfl,rfl,trivial⟩
        ,
        ⟨rfl,rfl,rfl,rfl,rfl,rfl,rfl,rfl,rfl,rfl,rfl,rfl,rfl,rfl,trivial⟩
        ,trivial⟩ rfl rfl ?_)
   | ((with_reducible refine kQ 33 ?_);refine aD.val [] t0 Nh ⟨
       ⟨rfl,rfl,rfl,rfl,rfl,rfl,rfl,rfl,rfl,rfl,rfl,rfl,rfl,rfl,trivial⟩
       ,⟨rfl,rfl,trivial⟩,rfl,trivial⟩ rfl rfl rfl ?_)
   |((with_reducible refine kQ 34 ?_);refine cL hrf GZ ?_)
   | ((with_reducible refine kQ 35 ?_);refine aD.lit [] hfo O3 ⟨
       ⟨rfl,rfl,rfl,rfl,rfl,rfl,rfl,rfl,rfl,rfl,rfl,rfl,rfl,rfl,trivial⟩
       ,⟨rfl,rfl,trivial⟩,trivial⟩ rfl rfl ?_))<;>with_reducible refine wK ?_)
  |apply  trivial)
       | true=>
         obtain⟨u1,u2,u3⟩:=t1 rfl
         repeat' (first
  |refine gK ?_|refine aE ?_ ?_
  | ((first
   | ((with_reducible refine kQ 31 ?_);refine aD.val [] q0 J0 ⟨
       ⟨rfl,rfl,rfl,rfl,rfl,rfl,rfl,rfl,rfl,rfl,rfl,rfl,rfl,rfl,trivial⟩
       ,rfl,trivial⟩ rfl rfl rfl ?_)
   | ((with_reducible refine kQ 23 ?_);first
       | refine aD.lit [] b9 Bc ⟨
        ⟨rfl,rfl,rfl,rfl,rfl,rfl,rfl,rfl,rfl,rfl,rfl,rfl,rfl,rfl,trivial⟩
        ,
        ⟨rfl,rfl,rfl,rfl,rfl,rfl,rfl,rfl,rfl,rfl,rfl,rfl,rfl,rfl,trivial⟩
        ,trivial⟩ rfl rfl ?_
       | refine aD.lit [] u3 Bc ⟨
        ⟨rfl,rfl,rfl,rfl,rfl,rfl,rfl,rfl,rfl,rfl,rfl,rfl,rfl,rfl,trivial⟩
        ,
        ⟨rfl,rfl,rfl,rfl,rfl,rfl,rfl,rfl,rfl,rfl,rfl,rfl,rfl,rfl,trivial⟩
        ,trivial⟩ rfl rfl ?_)
   | ((with_reducible refine kQ 33 ?_);refine aD.val [] u1 Nh ⟨
       ⟨rfl,rfl,rfl,rfl,rfl,rfl,rfl,rfl,rfl,rfl,rfl,rfl,rfl,rfl,trivial⟩
       ,⟨rfl,rfl,trivial⟩,rfl,trivial⟩ rfl rfl rfl ?_)
   |((with_reducible refine kQ 34 ?_);refine cL hrf GZ ?_)
   | ((with_reducible refine kQ 35 ?_);refine aD.lit [] hfo O3 ⟨
       ⟨rfl,rfl,rfl,rfl,rfl,rfl,rfl,rfl,rfl,rfl,rfl,rfl,rfl,rfl,trivial⟩
       ,⟨rfl,rfl,trivial⟩,trivial⟩ rfl rfl ?_)
   | ((with_reducible refine kQ 36 ?_);refine aD.val [] u2 S6 ⟨
       ⟨rfl,rfl,rfl,rfl,rfl,rfl,rfl,rfl,rfl,rfl,rfl,rfl,rfl,rfl,trivial⟩
       ,⟨rfl,rfl,trivial⟩,rfl,trivial⟩ rfl rfl rfl ?_))<;>with_reducible refine wK ?_)
  |apply trivial)
 | true =>
   obtain⟨p1,p2,p3⟩:=q1 rfl
   obtain rfl:=hmr rfl
   cases rf with
   | false=>
     have t0:=t0 rfl
     repeat' (first
  |refine gK ?_|refine aE ?_ ?_
  | ((first
   | ((with_reducible refine kQ 31 ?_);refine aD.val [] p1 J0 ⟨
     ⟨rfl,rfl,rfl,rfl,rfl,rfl,rfl,rfl,rfl,rfl,rfl,rfl,rfl,rfl,trivial⟩
     ,rfl,trivial⟩ rfl rfl rfl ?_)
   | ((with_reducible refine kQ 32 ?_);refine aD.val [] p2 Pe ⟨
     ⟨rfl,rfl,rfl,rfl,rfl,rfl,rfl,rfl,rfl,rfl,rfl,rfl,rfl,rfl,trivial⟩
     ,rfl,trivial⟩ rfl rfl rfl ?_)
   | ((with_reducible refine kQ 23 ?_);first
     | refine aD.lit [] p3 Bc ⟨
      ⟨rfl,rfl,rfl,rfl,rfl,rfl,rfl,rfl,rfl,rfl,rfl,rfl,rfl,rfl,trivial⟩
      ,
      ⟨rfl,rfl,rfl,rfl,rfl,rfl,rfl,rfl,rfl,rfl,rfl,rfl,rfl,rfl,trivial⟩
      ,trivial⟩ rfl rfl ?_
     | refine aD.lit [] b9 Bc ⟨
      ⟨rfl,rfl,rfl,rfl,rfl,rfl,rfl,rfl,rfl,rfl,rfl,rfl,rfl,rfl,trivial⟩
      ,
      ⟨rfl,rfl,rfl,rfl,rfl,rfl,rfl,rfl,rfl,rfl,rfl,rfl,rfl,rfl,trivial⟩
      ,trivial⟩ rfl rfl ?_)
   | ((with_reducible refine kQ 33 ?_);refine aD.val [] t0 Nh ⟨
     ⟨rfl,rfl,rfl,rfl,rfl,rfl,rfl,rfl,rfl,rfl,rfl,rfl,rfl,rfl,trivial⟩
     ,⟨rfl,rfl,trivial⟩,rfl,trivial⟩ rfl rfl rfl ?_)
   |((with_reducible refine kQ 34 ?_);refine cL hrf GZ ?_)
   | ((with_reducible refine kQ 35 ?_);refine aD.lit [] hfo O3 ⟨
     ⟨rfl,rfl,rfl,rfl,rfl,rfl,rfl,rfl,rfl,rfl,rfl,rfl,rfl,rfl,trivial⟩
     ,⟨rfl,rfl,trivial⟩,trivial⟩ rfl rfl ?_))<;>with_reducible refine wK ?_)
  | apply trivial)
   | true=>
     cases fo with
     | false=>
       have t0:=t0 rfl
       repeat' (first
  |refine gK ?_|refine aE ?_ ?_
  | ((first
   | ((with_reducible refine kQ 31 ?_);refine aD.val [] p1 J0 ⟨
      ⟨rfl,rfl,rfl,rfl,rfl,rfl,rfl,rfl,rfl,rfl,rfl,rfl,rfl,rfl,trivial⟩
      ,rfl,trivial⟩ rfl rfl rfl ?_)
   | ((with_reducible refine kQ 32 ?_);refine aD.val [] p2 Pe ⟨
      ⟨rfl,rfl,rfl,rfl,rfl,rfl,rfl,rfl,rfl,rfl,rfl,rfl,rfl,rfl,trivial⟩
      ,rfl,trivial⟩ rfl rfl rfl ?_)
   | ((with_reducible refine kQ 23 ?_);first
      | refine aD.lit [] p3 Bc ⟨
       ⟨rfl,rfl,rfl,rfl,rfl,rfl,rfl,rfl,rfl,rfl,rfl,rfl,rfl,rfl,trivial⟩
       ,
       ⟨rfl,rfl,rfl,rfl,rfl,rfl,rfl,rfl,rfl,rfl,rfl,rfl,rfl,rfl,trivial⟩
       ,trivial⟩ rfl rfl ?_
      | refine aD.lit [] b9 Bc ⟨
       ⟨rfl,rfl,rfl,rfl,rfl,rfl,rfl,rfl,rfl,rfl,rfl,rfl,rfl,rfl,trivial⟩
       ,
       ⟨rfl,rfl,rfl,rfl,rfl,rfl,rfl,rfl,rfl,rfl,rfl,rfl,rfl,rfl,trivial⟩
       ,trivial⟩ rfl rfl ?_)
   | ((with_reducible refine kQ 33 ?_);refine aD.val [] t0 Nh ⟨
      ⟨rfl,rfl,rfl,rfl,rfl,rfl,rfl,rfl,rfl,rfl,rfl,rfl,rfl,rfl,trivial⟩
      ,⟨rfl,rfl,trivial⟩,rfl,trivial⟩ rfl rfl rfl ?_)
   |((with_reducible refine kQ 34 ?_);refine cL hrf GZ ?_)
   | ((with_reducible refine kQ 35 ?_);refine aD.lit [] hfo O3 ⟨
      ⟨rfl,rfl,rfl,rfl,rfl,rfl,rfl,rfl,rfl,rfl,rfl,rfl,rfl,rfl,trivial⟩
      ,⟨rfl,rfl,trivial⟩,trivial⟩ rfl rfl ?_))<;>with_reducible refine wK ?_)
  |apply trivial)
     | true=>
       obtain⟨u1,u2,u3⟩:=t1 rfl
       repeat' (first
  |refine gK ?_|refine aE ?_ ?_
  | ((first
   | ((with_reducible refine kQ 31 ?_);refine aD.val [] p1 J0 ⟨
      ⟨rfl,rfl,rfl,rfl,rfl,rfl,rfl,rfl,rfl,rfl,rfl,rfl,rfl,rfl,trivial⟩
      ,rfl,trivial⟩ rfl rfl rfl ?_)
   | ((with_reducible refine kQ 32 ?_);refine aD.val [] p2 Pe ⟨
      ⟨rfl,rfl,rfl,rfl,rfl,rfl,rfl,rfl,rfl,rfl,rfl,rfl,rfl,rfl,trivial⟩
      ,rfl,trivial⟩ rfl rfl rfl ?_)
   | ((with_reducible refine kQ 23 ?_);first
      | refine aD.lit [] p3 Bc ⟨
       ⟨rfl,rfl,rfl,rfl,rfl,rfl,rfl,rfl,rfl,rfl,rfl,rfl,rfl,rfl,trivial⟩
       ,
       ⟨rfl,rfl,rfl,rfl,rfl,rfl,rfl,rfl,rfl,rfl,rfl,rfl,rfl,rfl,trivial⟩
       ,trivial⟩ rfl rfl ?_
      | refine aD.lit [] u3 Bc ⟨
       ⟨rfl,rfl,rfl,rfl,rfl,rfl,rfl,rfl,rfl,rfl,rfl,rfl,rfl,rfl,trivial⟩
       ,
       ⟨rfl,rfl,rfl,rfl,rfl,rfl,rfl,rfl,rfl,rfl,rfl,rfl,rfl,rfl,trivial⟩
       ,trivial⟩ rfl rfl ?_)
   | ((with_reducible refine kQ 33 ?_);refine aD.val [] u1 Nh ⟨
      ⟨rfl,rfl,rfl,rfl,rfl,rfl,rfl,rfl,rfl,rfl,rfl,rfl,rfl,rfl,trivial⟩
      ,⟨rfl,rfl,trivial⟩,rfl,trivial⟩ rfl rfl rfl ?_)
   |((with_reducible refine kQ 34 ?_);refine cL hrf GZ ?_)
   | ((with_reducible refine kQ 35 ?_);refine aD.lit [] hfo O3 ⟨
      ⟨rfl,rfl,rfl,rfl,rfl,rfl,rfl,rfl,rfl,rfl,rfl,rfl,rfl,rfl,trivial⟩
      ,⟨rfl,rfl,trivial⟩,trivial⟩ rfl rfl ?_)
   | ((with_reducible refine kQ 36 ?_);refine aD.val [] u2 S6 ⟨
      ⟨rfl,rfl,rfl,rfl,rfl,rfl,rfl,rfl,rfl,rfl,rfl,rfl,rfl,rfl,trivial⟩
      ,⟨rfl,rfl,trivial⟩,rfl,trivial⟩ rfl rfl rfl ?_))<;>with_reducible refine wK ?_)
  |apply trivial)
theorem oq:Reads Tryz.prog 9 1 bG (fun s=>s.size≤maxLen):=Reads.str Tryz.underlying9 (by kernel_rfl)
theorem hG:Reads Tryz.prog 3 1 bB (fun _=>True):=(Reads.int Tryz.underlying3 (by kernel_rfl)).conv id id (fun _=>rfl) (fun _=>rfl) (fun _ _=>trivial)
theorem qt:Reads Tryz.prog 4 1 (fun b:Bool=>.lit (.bool b)) (fun _=>True):=Reads.bool Tryz.underlying4 (by kernel_rfl)
theorem RX:Reads Tryz.prog 95 3 j5 (fun _=>True):=
 (Reads.struct (l:=[(0,9),(1,9),(2,3)]) Tryz.underlying95 (by kernel_rfl) rfl (.cons oq (.cons oq (.cons hG .nil)))).conv
  (fun(a,b,c,_)=>⟨a,b,c⟩) (fun t=>(t.name,t.locl,t.cls,())) (fun _=>rfl) (fun _=>rfl) (fun _ _=>trivial)
theorem Qf:Reads Tryz.prog 162 2 uq (fun _=>True):=
 (Reads.struct (l:=[(0,9),(1,3)]) Tryz.underlying162 (by kernel_rfl) rfl (.cons oq (.cons hG .nil))).conv
  (fun(a,b,_)=>⟨a,b⟩) (fun t=>(t.name,t.ticket,())) (fun _=>rfl) (fun _=>rfl) (fun _ _=>trivial)
theorem ND:Reads Tryz.prog 26 1 o9 (fun _=>True):=(Reads.slice Tryz.underlying26 (by kernel_rfl) RX (by omega)).conv id id (fun _=>rfl) (fun _=>rfl) (fun _ _=>trivial)
theorem Kr:Reads Tryz.prog 27 1 pC (fun _=>True):=(Reads.slice Tryz.underlying27 (by kernel_rfl) Qf (by omega)).conv id id (fun _=>rfl) (fun _=>rfl) (fun _ _=>trivial)
theorem Qn:Reads Tryz.prog 29 4 cP (fun _=>True):=
 (Reads.struct (l:=[(0,26),(1,27),(2,3),(3,4)]) Tryz.underlying29 (by kernel_rfl) rfl (.cons ND (.cons Kr (.cons hG (.cons qt .nil))))).conv
  (fun(a,b,c,e,_)=>⟨a,b,c,e⟩) (fun t=>(t.defs,t.waits,t.next,t.busy,())) (fun _=>rfl) (fun _=>rfl) (fun _ _=>trivial)
theorem P2:Reads Tryz.prog 179 2 fu (fun _=>True):=
 (Reads.struct (l:=[(0,9),(1,9)]) Tryz.underlying179 (by kernel_rfl) rfl (.cons oq (.cons oq .nil))).conv
  (fun(a,b,_)=>⟨a,b⟩) (fun t=>(t.name,t.value,())) (fun _=>rfl) (fun _=>rfl) (fun _ _=>trivial)
theorem JX:Reads Tryz.prog 78 1 dY (fun _=>True):=(Reads.slice Tryz.underlying78 (by kernel_rfl) P2 (by omega)).conv id id (fun _=>rfl) (fun _=>rfl) (fun _ _=>trivial)
theorem DN:Reads Tryz.prog 32 1 bQ (fun _=>True):=(Reads.slice Tryz.underlying32 (by kernel_rfl) hG (by omega)).conv id id (fun _=>rfl) (fun _=>rfl) (fun _ _=>trivial)
theorem Ph:Reads Tryz.prog 80 10 bP (fun _=>True):=
 (Reads.struct (l:=[(0,3),(1,9),(2,9),(3,9),(4,78),(5,3),(6,32),(7,3),(8,3),(9,3)]) Tryz.underlying80 (by kernel_rfl) rfl
  (.cons hG (.cons oq (.cons oq (.cons oq (.cons JX (.cons hG (.cons DN (.cons hG (.cons hG (.cons hG .nil))))))))))).conv
  (fun(a,b,c,d,e,f,g,h,i,j,_)=>⟨a,b,c,d,e,f,g,h,i,j⟩)
  (fun t=>(t.kind,t.name,t.is,t.data,t.attrs,t.parent,t.kids,t.host,t.under,t.doc,())) (fun _=>rfl) (fun _=>rfl) (fun _ _=>trivial)
theorem Mh:Reads Tryz.prog 22 1 fE (fun _=>True):=(Reads.slice Tryz.underlying22 (by kernel_rfl) Ph (by omega)).conv id id (fun _=>rfl) (fun _=>rfl) (fun _ _=>trivial)
theorem PJ:Reads Tryz.prog 24 2 bD (fun _=>True):=
 (Reads.struct (l:=[(0,22),(1,3)]) Tryz.underlying24 (by kernel_rfl) rfl (.cons Mh (.cons hG .nil))).conv
  (fun(a,b,_)=>⟨a,b⟩) (fun t=>(t.nodes,t.most,())) (fun _=>rfl) (fun _=>rfl) (fun _ _=>trivial)
theorem laid:Go.laidOutB Tryz.prog=true:=by kernel_rfl
abbrev oc:List (String×DataW Unit):=[("unicode.White_Space",Go.Proofs.YtciccajdpmahiaaGreatDoor.Rows.laid_unicode_White_Space),("strings.asciiSpace",Go.Proofs.YtciccajdpmahiaaGreatDoor.Rows.laid_strings_asciiSpace)]
theorem OU:(Go.Proofs.YtciccajdpmahiaaGreatDoor.Rows.laid_strings_asciiSpace:DataW Unit)=Lib.tabData .u8 Lib.asciiSpaceTab:=by kernel_rfl
theorem Hs (os:Os)(args:Array Value):laidMetH Tryz.prog oc ((World.doorLaid Tryz.prog 33 os).forCall (fun _ _=>0) ⟨#[],args,[]⟩).memory:=
 laidMetH_of_parts3 (fuel:=8) (laidMet_of_run' 8 (by kernel_rfl) (by kernel_rfl)) (by kernel_rfl) (by kernel_rfl)
theorem Tq:Tryz.prog.globalNamed "strings.asciiSpace" =some 1:=by kernel_rfl
theorem QI:(Tryz.prog.globals[1]?).map (·.type)=some 307:=by kernel_rfl
theorem zQ {W:World}(h:laidMetH Tryz.prog oc W):k8 Tryz.prog W fun _=>none:=by
 rw[MakeChecks.laidMetH_plain _ _ _ (by kernel_rfl)] at h
 obtain⟨ps,⟨g0,t0,cs0,f0,p0,q0,hg0,ht0,hv0,hd0,⟨g1,t1,cs1,f1,p1,q1,hg1,ht1,hv1,hd1,_,_⟩,_⟩,_⟩:=h
 intro g hg
 obtain rfl:=Option.some.inj (hg.symm.trans hg1)
 have e:g=1:=Option.some.inj (hg.symm.trans Tq)
 have ht:(Tryz.prog.globals[g]?).map (·.type)=some 307:=by rw[e];exact QI
 obtain rfl:=Option.some.inj (ht.symm.trans ht1)
 rw[OU] at hd1
 have hc:=Lib.cells_of_tab Tryz.underlying307 Tryz.underlying5 (by kernel_rfl) (by kernel_rfl) hd1
 have htab:Lib.TabIs Tryz.prog W "strings.asciiSpace" .u8 Lib.asciiSpaceTab:=by
  unfold Lib.TabIs
  rw[hv1,←hc]
 have hcell:∀c:Nat,c<256→W.cell? ⟨g,c,none⟩=some (.int .u8 (if Lib.isSp (UInt8.ofNat c) then 1 else 0)):=fun c hc=>by
  rw[htab.cell hg c (by rw[Lib.asciiSpaceTab_length];exact hc),Lib.asciiSpaceTab_at c hc]
 refine⟨(by rintro⟨_,_,h,_⟩;cases h),World.block_lt_of_cell? _ _ (hcell 0 (by omega)),hcell⟩
theorem Tw:Reads Tryz.prog 274 7 C6 (fun _=>True):=
 (Reads.struct (l:=[(0,3),(1,3),(2,3),(3,3),(4,9),(5,9),(6,4)]) Tryz.underlying274 (by kernel_rfl) rfl (.cons hG (.cons hG (.cons hG (.cons hG (.cons oq (.cons oq (.cons qt .nil)))))))).conv
  (fun(a,b,c,d,e,f,g,_)=>⟨a,b,c,d,e,f,g⟩) (fun t=>(t.kind,t.a,t.b,t.c,t.s,t.t,t.must,())) (fun _=>rfl) (fun _=>rfl) (fun _ _=>trivial)
theorem JF:Reads Tryz.prog 50 1 xl (fun _=>True):=(Reads.slice Tryz.underlying50 (by kernel_rfl) Tw (by omega)).conv id id (fun _=>rfl) (fun _=>rfl) (fun _ _=>trivial)
theorem Qh:Reads Tryz.prog 138 2 jk (fun _=>True):=
 (Reads.struct (l:=[(0,3),(1,50)]) Tryz.underlying138 (by kernel_rfl) rfl (.cons hG (.cons JF .nil))).conv
  (fun(a,b,_)=>⟨a,b⟩) (fun t=>(t.kind,t.prog,())) (fun _=>rfl) (fun _=>rfl) (fun _ _=>trivial)
theorem KG:Reads Tryz.prog 51 1 ni (fun _=>True):=(Reads.slice Tryz.underlying51 (by kernel_rfl) Qh (by omega)).conv id id (fun _=>rfl) (fun _=>rfl) (fun _ _=>trivial)
theorem Ql:Reads Tryz.prog 9 1 jO (fun s=>s.size≤maxLen):=oq.conv id id (fun _=>rfl) (fun _=>rfl) (fun _ h=>h)
theorem NA:Reads Tryz.prog 49 1 qi (fun _=>True):=(Reads.slice Tryz.underlying49 (by kernel_rfl) Ql (by omega)).conv id id (fun _=>rfl) (fun _=>rfl) (fun _ _=>trivial)
theorem OE:Reads Tryz.prog 53 5 cZ (fun _=>True):=
 (Reads.struct (l:=[(0,4),(1,49),(2,50),(3,50),(4,51)]) Tryz.underlying53 (by kernel_rfl) rfl (.cons qt (.cons NA (.cons JF (.cons JF (.cons KG .nil)))))).conv
  (fun(a,b,c,d,e,_)=>⟨a,b,c,d,e⟩) (fun t=>(t.form,t.watch,t.peek,t.make,t.hooks,())) (fun _=>rfl) (fun _=>rfl) (fun _ _=>trivial)
theorem Ja:Reads Tryz.prog 37 1 bF (fun _=>True):=(Reads.slice Tryz.underlying37 (by kernel_rfl) OE (by omega)).conv id id (fun _=>rfl) (fun _=>rfl) (fun _ _=>trivial)
theorem Od:Reads Tryz.prog 75 4 cr (fun _=>True):=
 (Reads.struct (l:=[(0,3),(1,3),(2,3),(3,4)]) Tryz.underlying75 (by kernel_rfl) rfl (.cons hG (.cons hG (.cons hG (.cons qt .nil))))).conv
  (fun(a,b,c,d,_)=>⟨a,b,c,d⟩) (fun t=>(t.phase,t.df,t.owner,t.barred,())) (fun _=>rfl) (fun _=>rfl) (fun _ _=>trivial)
theorem KC:Reads Tryz.prog 25 1 dF (fun _=>True):=(Reads.slice Tryz.underlying25 (by kernel_rfl) Od (by omega)).conv id id (fun _=>rfl) (fun _=>rfl) (fun _ _=>trivial)
theorem M9:Reads Tryz.prog 59 10 ef (fun _=>True):=
 (Reads.struct (l:=[(0,3),(1,3),(2,9),(3,4),(4,4),(5,9),(6,9),(7,3),(8,3),(9,4)]) Tryz.underlying59 (by kernel_rfl) rfl
  (.cons hG (.cons hG (.cons oq (.cons qt (.cons qt (.cons oq (.cons oq (.cons hG (.cons hG (.cons qt .nil))))))))))).conv
  (fun(a,b,c,d,e,f,g,h,i,j,_)=>⟨a,b,c,d,e,f,g,h,i,j⟩)
  (fun t=>(t.kind,t.df,t.name,t.had,t.has,t.old,t.new,t.src,t.dst,t.on,())) (fun _=>rfl) (fun _=>rfl) (fun _ _=>trivial)
theorem K4:Reads Tryz.prog 77 1 bO (fun _=>True):=(Reads.slice Tryz.underlying77 (by kernel_rfl) M9 (by omega)).conv id id (fun _=>rfl) (fun _=>rfl) (fun _ _=>trivial)
theorem ID:Reads Tryz.prog 30 1 ic (fun _=>True):=(Reads.slice Tryz.underlying30 (by kernel_rfl) K4 (by omega)).conv id id (fun _=>rfl) (fun _=>rfl) (fun _ _=>trivial)
theorem Ou:Reads Tryz.prog 32 1 dJ (fun _=>True):=DN.conv id id (fun _=>rfl) (fun _=>rfl) (fun _ h=>h)
theorem Mk:Reads Tryz.prog 31 1 mO (fun _=>True):=(Reads.slice Tryz.underlying31 (by kernel_rfl) Ou (by omega)).conv id id (fun _=>rfl) (fun _=>rfl) (fun _ _=>trivial)
theorem PE:Reads Tryz.prog 34 4 eT (fun _=>True):=
 (Reads.struct (l:=[(0,30),(1,31),(2,32),(3,4)]) Tryz.underlying34 (by kernel_rfl) rfl (.cons ID (.cons Mk (.cons DN (.cons qt .nil))))).conv
  (fun(a,b,c,d,_)=>⟨a,b,c,d⟩) (fun t=>(t.todos,t.stack,t.back,t.busy,())) (fun _=>rfl) (fun _=>rfl) (fun _ _=>trivial)
theorem Qc:Reads Tryz.prog 73 3 dO (fun _=>True):=
 (Reads.struct (l:=[(0,3),(1,3),(2,3)]) Tryz.underlying73 (by kernel_rfl) rfl (.cons hG (.cons hG (.cons hG .nil)))).conv
  (fun(a,b,c,_)=>⟨a,b,c⟩) (fun t=>(t.kind,t.ticket,t.df,())) (fun _=>rfl) (fun _=>rfl) (fun _ _=>trivial)
theorem Lj:Reads Tryz.prog 35 1 oh (fun _=>True):=(Reads.slice Tryz.underlying35 (by kernel_rfl) Qc (by omega)).conv id id (fun _=>rfl) (fun _=>rfl) (fun _ _=>trivial)
theorem O0:Reads Tryz.prog 92 2 iz (fun _=>True):=
 (Reads.struct (l:=[(0,3),(1,3)]) Tryz.underlying92 (by kernel_rfl) rfl (.cons hG (.cons hG .nil))).conv
  (fun(a,b,_)=>⟨a,b⟩) (fun t=>(t.df,t.node,())) (fun _=>rfl) (fun _=>rfl) (fun _ _=>trivial)
theorem I9:Reads Tryz.prog 36 1 nB (fun _=>True):=(Reads.slice Tryz.underlying36 (by kernel_rfl) O0 (by omega)).conv id id (fun _=>rfl) (fun _=>rfl) (fun _ _=>trivial)
theorem Ru:Reads Tryz.prog 61 11 fU (fun _=>True):=
 (Reads.struct (l:=[(0,3),(1,59)]) Tryz.underlying61 (by kernel_rfl) rfl (.cons hG (.cons M9 .nil))).conv
  (fun(a,b,_)=>⟨a,b⟩) (fun t=>(t.node,t.todo,())) (fun _=>rfl) (fun _=>rfl) (fun _ _=>trivial)
theorem OG:Reads Tryz.prog 41 1 dX (fun _=>True):=(Reads.slice Tryz.underlying41 (by kernel_rfl) Ru (by omega)).conv id id (fun _=>rfl) (fun _=>rfl) (fun _ _=>trivial)
theorem Oy:Reads Tryz.prog 39 14 bk (fun _=>True):=
 (Reads.struct (l:=[(0,24),(2,25),(3,29),(7,34),(11,35),(12,36),(13,37)]) Tryz.underlying39 (by kernel_rfl) rfl
  (.cons PJ (.cons KC (.cons Qn (.cons PE (.cons Lj (.cons I9 (.cons Ja .nil)))))))).conv
  (fun(a,b,c,d,e,f,g,_)=>⟨a,b,c,d,e,f,g⟩) (fun t=>(t.f,t.states,t.desk,t.line,t.tasks,t.builds,t.classes,())) (fun _=>rfl) (fun _=>rfl) (fun _ _=>trivial)
theorem Ps:Reads Tryz.prog 218 9 wY (fun _=>True):=
 (Reads.struct (l:=[(0,3),(1,3),(2,3),(3,3),(4,9),(5,4),(6,4),(7,9),(8,9)]) Tryz.underlying218 (by kernel_rfl) rfl
  (.cons hG (.cons hG (.cons hG (.cons hG (.cons oq (.cons qt (.cons qt (.cons oq (.cons oq .nil)))))))))).conv
  (fun(a,b,c,d,e,f,g,h,i,_)=>⟨a,b,c,d,e,f,g,h,i⟩) (fun t=>(t.kind,t.node,t.src,t.dst,t.name,t.had,t.has,t.old,t.new,())) (fun _=>rfl) (fun _=>rfl) (fun _ _=>trivial)
theorem OS:Reads Tryz.prog 40 1 fZ (fun _=>True):=(Reads.slice Tryz.underlying40 (by kernel_rfl) Ps (by omega)).conv id id (fun _=>rfl) (fun _=>rfl) (fun _ _=>trivial)
end Go.Proofs.Heir
