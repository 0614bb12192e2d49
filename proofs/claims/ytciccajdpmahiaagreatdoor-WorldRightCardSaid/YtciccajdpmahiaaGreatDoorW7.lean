/- Models, plain laws and contracts of functions of the given program; conditions as stated in each theorem. By an AI agent. -/
import Derived.Test.YtciccajdpmahiaaGreatDoorW6
import Derived.Test.YtciccajdpmahiaaGreatDoorW5
set_option linter.unusedSimpArgs false
set_option linter.unusedVariables false
namespace Go.Proofs.Heir
open Go Go.Am Go.RowKit Go.Lib
set_option maxRecDepth 100000
set_option maxHeartbeats 8000000
@[reducible] def mW (w : aH) : MS := .live 14 [bk w] false
theorem Fz (c:aI)(h1:c.watch.length≤100000)(h2:c.hooks.length≤100000)(h3:∀s∈c.watch,s.size≤300):af Tryz.prog 205 [] [bK c] [] (aA (!bq c)):=by
 have ha:=oS c h1 h2 h3
 obtain⟨c1,c2,c3,c4,c5⟩:=c
 refine af.ah (rvs:=[.tmp 2]) G aa Tryz.func205 rfl Tryz.ntmps205 rfl rfl ?_;with_reducible refine wD ?_
 repeat' (first
  |refine gK ?_|refine aE ?_ ?_
  |(((with_reducible refine kQ 26 ?_);refine cL ha Sg ?_)<;>with_reducible refine wK ?_)
  |apply trivial)
 all_goals rfl
theorem JC (w:aH)(x:bH):af Tryz.prog 206 [] [iA x,.fptr (bk w) 0] [] (aA (decide ((w.classes.length:Int)≤x.cls))):=by
 obtain⟨⟨l,m⟩,st,⟨d1,d2,d3,d4⟩,⟨a,b,c,d⟩,ta,bu,cs⟩:=w
 have hlm:(cs.map cZ).length=cs.length:=aM ..
 obtain⟨x1,x2,x3⟩:=x
 refine af.ah (rvs:=[.tmp 3]) G aa Tryz.func206 rfl Tryz.ntmps206 rfl rfl ?_;with_reducible refine wD ?_
 (have fct:=hlm;(repeat' (first
  |refine gF ?_|refine aE ?_ ?_
  |apply trivial));all_goals clear fct)
 all_goals first|(simp;done)
theorem AD (w:aH)(hs:cW w):af Tryz.prog 143 [] [bk w] [] (aA (ia w)):=by
 have a1:=af.PK (L7 205 RA [] rfl (fun c=> !bq c) w.classes (by have:=hs.cl;omega) (fun c hc=>Fz c (hs.cs c hc).watch (hs.cs c hc).hooks (hs.nm c hc)))
 have hnr:aU [AV.fptr (bk w) 0]=true:=rfl
 have a2:=Kz 206 RB [.fptr (bk w) 0] hnr (fun x=>decide ((w.classes.length:Int)≤x.cls)) w.desk.defs (by have:=hs.d.defs;omega) (fun x _=>JC w x)
 unfold ia
 obtain⟨⟨l,m⟩,st,⟨d1,d2,d3,d4⟩,⟨a,b,c,d⟩,ta,bu,cs⟩:=w
 simp only at a1 a2 ⊢
 have hlm:(cs.map cZ).length=cs.length:=aM ..
 generalize(cs.any fun c=> !bq c)=p1 at*
 generalize(d1.any fun x=>decide ((cs.length:Int)≤x.cls))=p2 at*
 by_cases e1:(cs.length:Int)≤12
 ·rw[aV (show cs.length≤12 by omega)]
  have g1:decide (((cs.map cZ).length:Int)≤12)=true:=aV (by rw[hlm];exact e1)
  cases p1<;>cases p2<;>
  ·refine af.ah (rvs:=[.tmp 2]) G aa Tryz.func143 rfl Tryz.ntmps143 rfl rfl ?_;with_reducible refine wD ?_
   repeat' (first
  |refine gK ?_|refine aE ?_ ?_
  | ((first
   |((with_reducible refine kQ 207 ?_);refine cL a1 QX ?_)
   |((with_reducible refine kQ 208 ?_);refine aD.lit [10] a2 R9 ⟨rfl,⟨rfl,trivial,⟨_,_,_,_,_,rfl,rfl,rfl,rfl,rfl,⟨rfl,rfl,rfl,rfl,rfl,rfl,rfl,rfl,rfl,rfl,rfl,rfl,rfl,rfl,trivial⟩⟩,trivial⟩,trivial⟩ rfl rfl ?_))<;>with_reducible refine wK ?_)
  | apply trivial)
   all_goals first|rfl|(simp;done)
 ·rw[aS (show ¬cs.length≤12 by omega)]
  have g1:decide (((cs.map cZ).length:Int)≤12)=false:=aS (by rw[hlm];exact e1)
  refine af.ah (rvs:=[.tmp 2]) G aa Tryz.func143 rfl Tryz.ntmps143 rfl rfl ?_;with_reducible refine wD ?_
  repeat' (first
  |refine gK ?_|refine aE ?_ ?_
  |apply trivial)
  all_goals first|rfl|(simp;done)
theorem GN (w:aH)(t:bw):af Tryz.prog 148 [] [fR t,.fptr (bk w) 0] [] (aA (!gU w t)):=by
 have h:=yj w t
 generalize gU w t=g at*
 obtain⟨⟨l,m⟩,st,⟨d1,d2,d3,d4⟩,⟨a,b,c,d⟩,ta,bu,cs⟩:=w
 obtain⟨x0,x1,x2,x3,x4,x5,x6,x7,x8,x9⟩:=t
 refine af.ah (rvs:=[.tmp 3]) G aa Tryz.func148 rfl Tryz.ntmps148 rfl rfl ?_;with_reducible refine wD ?_
 repeat' (first
  |refine gK ?_|refine aE ?_ ?_
  |(((with_reducible refine kQ 96 ?_);refine cL h SM ?_)<;>with_reducible refine wK ?_)
  |apply trivial)
 all_goals rfl
theorem Fk (w:aH)(t:gT):af Tryz.prog 150 [] [j0 t,.fptr (bk w) 0] [] (aA (!nR w t)):=by
 have h:=Fx w t
 generalize nR w t=g at*
 obtain⟨⟨l,m⟩,st,⟨d1,d2,d3,d4⟩,⟨a,b,c,d⟩,ta,bu,cs⟩:=w
 obtain⟨x0,x1,x2⟩:=t
 refine af.ah (rvs:=[.tmp 3]) G aa Tryz.func150 rfl Tryz.ntmps150 rfl rfl ?_;with_reducible refine wD ?_
 repeat' (first
  |refine gK ?_|refine aE ?_ ?_
  |(((with_reducible refine kQ 151 ?_);refine cL h RL ?_)<;>with_reducible refine wK ?_)
  |apply trivial)
 all_goals rfl
theorem GF (w:aH)(t:iX):af Tryz.prog 153 [] [iV t,.fptr (bk w) 0] [] (aA (!jo w t)):=by
 have h:=CK w t
 generalize jo w t=g at*
 obtain⟨⟨l,m⟩,st,⟨d1,d2,d3,d4⟩,⟨a,b,c,d⟩,ta,bu,cs⟩:=w
 obtain⟨x0,x1⟩:=t
 refine af.ah (rvs:=[.tmp 3]) G aa Tryz.func153 rfl Tryz.ntmps153 rfl rfl ?_;with_reducible refine wD ?_
 repeat' (first
  |refine gK ?_|refine aE ?_ ?_
  |(((with_reducible refine kQ 154 ?_);refine cL h QJ ?_)<;>with_reducible refine wK ?_)
  |apply trivial)
 all_goals rfl
theorem Fy {w:aH}(h:wg w=false):cF w=false:=by unfold cF;rw[h];rfl
theorem Bn {w:aH}{k:Nat}(hk:k<w.line.todos.length)(h:ow w k=false):cF w=false:=by
 unfold cF
 have:(List.range w.line.todos.length).all (fun n:Nat=>ow w n)=false:=by
  rw[List.all_eq_false]
  exact⟨k,List.mem_range.2 hk,by rw[h];simp⟩
 rw[this];simp
theorem DH {w:aH}(h:wg w=true)(h2:∀k:Nat,k<w.line.todos.length→ow w k=true):cF w=B8 w:=by
 unfold cF
 have:(List.range w.line.todos.length).all (fun n:Nat=>ow w n)=true:=by
  rw[List.all_eq_true]
  exact fun n hn=>h2 n (List.mem_range.1 hn)
 rw[this,h];simp
theorem qP (w:aH)(hs:cW w):af Tryz.prog 75 [] [bk w] [] (aA (cF w)):=by
 have h143:=AD w hs
 have h100:=kf w.f hs.f
 have h144:=Ad w.desk hs.d
 have h145:=vT w.line (hs.l.mono (by omega))
 have hnode:=fun k=>Bn (w:=w) (k:=k)
 have hyes:=DH (w:=w)
 have hno:=Fy (w:=w)
 obtain⟨hg,hhg⟩:∃g,wg w=g:=⟨_,rfl⟩
 rw[hhg] at hyes hno
 have hh:=hhg
 unfold wg at hh
 cases hg with
 | false =>
   rw[hno rfl]
   clear hno hyes hnode hhg
   generalize ia w=g1 at*
   generalize bf w.f=g2 at*
   generalize dU w.desk=g3 at*
   generalize sV w.line=g4 at*
   obtain⟨⟨l,m⟩,st,⟨d1,d2,d3,d4⟩,⟨a,b,c,d⟩,ta,bu,cs⟩:=w
   simp only at h100 h144 h145 hh
   have n1:(l.map bP).length=l.length:=aM ..
   have n2:(st.map cr).length=st.length:=aM ..
   have n3:(a.map bO).length=a.length:=aM ..
   by_cases e1:(st.length:Int)=(l.length:Int)
   ·by_cases e2:(a.length:Int)=(l.length:Int)
    ·rw [aV (show st.length=l.length by omega),aV (show a.length=l.length by omega)] at hh
     cases g1<;>cases g2<;>cases g3<;>cases g4<;>first
      |(exfalso;revert hh;decide)
      | (refine af.ah (rvs:=[.tmp 2]) G aa Tryz.func75 rfl Tryz.ntmps75 rfl rfl ?_;with_reducible refine wD ?_
         (have fct:=And.intro n1 (And.intro n2 (And.intro n3 (And.intro (eq_true e1) ((eq_true e2)))));(repeat' (first
  |refine gF ?_|refine aE ?_ ?_
  | ((first
   |((with_reducible refine kQ 143 ?_);refine cL h143 PS ?_)
   |((with_reducible refine kQ 100 ?_);refine cL h100 mQ ?_)
   |((with_reducible refine kQ 144 ?_);refine cL h144 HR ?_)
   |((with_reducible refine kQ 145 ?_);refine cL h145 Fl ?_))<;>with_reducible refine wK ?_)
  | apply trivial));all_goals clear fct))
    ·refine af.ah (rvs:=[.tmp 2]) G aa Tryz.func75 rfl Tryz.ntmps75 rfl rfl ?_;with_reducible refine wD ?_
     (have fct:=And.intro n1 (And.intro n2 (And.intro n3 (And.intro (eq_true e1) ((eq_false e2)))));(repeat' (first
  |refine gF ?_|refine aE ?_ ?_
  | apply trivial));all_goals clear fct)
   ·refine af.ah (rvs:=[.tmp 2]) G aa Tryz.func75 rfl Tryz.ntmps75 rfl rfl ?_;with_reducible refine wD ?_
    (have fct:=And.intro n1 (And.intro n2 ((eq_false e1)));(repeat' (first
  |refine gF ?_|refine aE ?_ ?_
  |apply trivial));all_goals clear fct)
 | true =>
   have hyes:=hyes rfl
   clear hno hhg
   simp only[aT,aL] at hh
   obtain⟨⟨⟨⟨⟨q1,q2⟩,q3⟩,q4⟩,q5⟩,q6⟩:=hh
   rw[q3] at h143
   rw[q4] at h100
   rw[q5] at h144
   rw[q6] at h145
   have hst:=fun k x s=>Dx w k x s
   have hnr:aU [AV.fptr (bk w) 0]=true:=rfl
   have hcf:=fun y (hy:y∈w.line.todos)=>MA 148 Q0 [.fptr (bk w) 0] hnr (fun t=> !gU w t) y (by have:=hs.l.todo y hy;omega) (fun t _=>GN w t)
   have htk:=M3 150 QM [.fptr (bk w) 0] hnr (fun t=> !nR w t) w.tasks (by have:=hs.ta;omega) (fun t _=>Fk w t)
   have hbk:=LC 153 Sq [.fptr (bk w) 0] hnr (fun t=> !jo w t) w.builds (by have:=hs.bu;omega) (fun t _=>GF w t)
   have hnG:∀ (k:Nat) x s y,w.f.nodes[k]? =some x→w.states[k]? =some s→w.line.todos[k]? =some y→ow w k=(gy w x s&& !(y.any fun t=> !gU w t)):=fun k x s y hx hs hy=>by
    unfold ow wj;rw[dw hx,vR hs,wJ rfl hy]
   unfold B8 at hyes
   generalize cF w=res at*
   have hlen:=hs.f.len
   generalize(w.tasks.any fun t=> !nR w t)=p1 at*
   generalize(w.builds.any fun t=> !jo w t)=p2 at*
   generalize hN:ow w=N at*
   clear hN
   obtain⟨⟨l,m⟩,st,⟨d1,d2,d3,d4⟩,⟨a,b,c,d⟩,ta,bu,cs⟩:=w
   simp only at h100 h144 h145 q1 q2 hst hcf htk hbk hnG hlen hyes hnode
   have n1:(l.map bP).length=l.length:=aM ..
   have n2:(st.map cr).length=st.length:=aM ..
   have n3:(a.map bO).length=a.length:=aM ..
   have e1:(st.length:Int)=(l.length:Int):=by omega
   have e2:(a.length:Int)=(l.length:Int):=by omega
   refine af.ah (rvs:=[.tmp 2]) G aa Tryz.func75 rfl Tryz.ntmps75 rfl rfl ?_;with_reducible refine wD ?_
   (have fct:=And.intro n1 (And.intro n2 (And.intro n3 (And.intro (eq_true e1) ((eq_true e2)))));(repeat' (first
  |refine gF ?_|refine aE ?_ ?_
  | ((first
   |((with_reducible refine kQ 143 ?_);refine cL h143 PS ?_)
   |((with_reducible refine kQ 100 ?_);refine cL h100 mQ ?_)
   |((with_reducible refine kQ 144 ?_);refine cL h144 HR ?_)
   |((with_reducible refine kQ 145 ?_);refine cL h145 Fl ?_))<;>with_reducible refine wK ?_)
  | apply trivial));all_goals clear fct)
   refine aR.use G aa (fun(k:Nat)=>[(1,.ptr 10 0 0),(55,ic a),(56,aj a.length),(57,aj k)]) (fun _=>[(10,mW ⟨⟨l,m⟩,st,⟨d1,d2,d3,d4⟩,⟨a,b,c,d⟩,ta,bu,cs⟩)])
    (fun k=>k≤a.length∧∀j:Nat,j<k→N j=true) (fun k=>a.length-k) 0 ⟨Nat.zero_le _,fun j h=>by omega⟩ ?_ ?_
   ·(refine fK ?_;(with_reducible repeat' (first|exact trivial|(show _∧_;refine aK ?_ ?_)));(all_goals try rfl))
    all_goals first|(show(a.length:Int)=_;rw[n3])
   rintro k ⟨hk,hok⟩
   with_reducible refine wK ?_
   refine aQ.mk (fun h1=>?_) (fun h1=>?_)<;>(try simp only[aq] at h1)<;>with_reducible refine wK ?_
   ·have hk':k<a.length:=by simp only[aL] at h1;omega
    obtain⟨x,hx⟩:∃x,l[k]? =some x:=⟨_,aP (by omega)⟩
    obtain⟨s,hsx⟩:∃x,st[k]? =some x:=⟨_,aP (by omega)⟩
    obtain⟨y,hy⟩:∃x,a[k]? =some x:=⟨_,aP hk'⟩
    have hstk:=hst k x s hx hsx
    have hcfk:=hcf y (bn hy)
    have hnk:=hnG k x s y hx hsx hy
    generalize gy ⟨⟨l,m⟩,st,⟨d1,d2,d3,d4⟩,⟨a,b,c,d⟩,ta,bu,cs⟩ x s=v1 at*
    generalize(y.any fun t=> !gU ⟨⟨l,m⟩,st,⟨d1,d2,d3,d4⟩,⟨a,b,c,d⟩,ta,bu,cs⟩ t)=v2 at*
    have hbadk:=fun h=>hnode k hk' (hnk.trans h)
    clear h1
    cases v1<;>cases v2
    case true.false=>
     repeat' (first
  |refine gK ?_|refine aE ?_ ?_
  | ((first
   |((with_reducible refine kQ 146 ?_);refine cL hstk Pt ?_)
   |((with_reducible show ak _ _ _ _ _);refine ak.mk k (cJ y) rfl (cM hy) ?_)
   | ((with_reducible refine kQ 147 ?_);refine aD.lit [10] hcfk Pr
       ⟨rfl,⟨rfl,trivial,⟨_,_,_,_,_,rfl,rfl,rfl,rfl,rfl,⟨rfl,rfl,rfl,rfl,rfl,rfl,rfl,rfl,rfl,rfl,rfl,rfl,rfl,rfl,trivial⟩⟩,trivial⟩,trivial⟩
       rfl rfl ?_))<;>with_reducible refine wK ?_)
  | apply trivial)
     refine ay.mk (k+1) ⟨by omega,fun j hj=>?_⟩ (by omega) ?_
     ·rcases Nat.lt_or_ge j k with h6|h6
      ·exact hok j h6
      ·have:j=k:=by omega
       subst this
       exact hnk
     (refine fK ?_;(with_reducible repeat' (first|exact trivial|(show _∧_;refine aK ?_ ?_)));(all_goals try rfl))
     all_goals first|(simp;done)
    all_goals
     have hr:=hbadk rfl
     repeat' (first
  |refine gK ?_|refine aE ?_ ?_
  | ((first
   |((with_reducible refine kQ 146 ?_);refine cL hstk Pt ?_)
   |((with_reducible show ak _ _ _ _ _);refine ak.mk k (cJ y) rfl (cM hy) ?_)
   | ((with_reducible refine kQ 147 ?_);refine aD.lit [10] hcfk Pr
       ⟨rfl,⟨rfl,trivial,⟨_,_,_,_,_,rfl,rfl,rfl,rfl,rfl,⟨rfl,rfl,rfl,rfl,rfl,rfl,rfl,rfl,rfl,rfl,rfl,rfl,rfl,rfl,trivial⟩⟩,trivial⟩,trivial⟩
       rfl rfl ?_))<;>with_reducible refine wK ?_)
  | apply trivial)
     all_goals first|exact hr|exact hr.symm
   ·have hkl:k=a.length:=by simp only[bh] at h1;omega
    have hr:=hyes fun j hj=>hok j (by omega)
    clear h1
    rw[hr]
    cases p1<;>cases p2
    all_goals
     repeat' (first
  |refine gK ?_|refine aE ?_ ?_
  | ((first
   | ((with_reducible refine kQ 149 ?_);refine aD.lit [10] htk Sd
       ⟨rfl,⟨rfl,trivial,⟨_,_,_,_,_,rfl,rfl,rfl,rfl,rfl,⟨rfl,rfl,rfl,rfl,rfl,rfl,rfl,rfl,rfl,rfl,rfl,rfl,rfl,rfl,trivial⟩⟩,trivial⟩,trivial⟩
       rfl rfl ?_)
   | ((with_reducible refine kQ 152 ?_);refine aD.lit [10] hbk QK
       ⟨rfl,⟨rfl,trivial,⟨_,_,_,_,_,rfl,rfl,rfl,rfl,rfl,⟨rfl,rfl,rfl,rfl,rfl,rfl,rfl,rfl,rfl,rfl,rfl,rfl,rfl,rfl,trivial⟩⟩,trivial⟩,trivial⟩
       rfl rfl ?_))<;>with_reducible refine wK ?_)
  |apply trivial)
     all_goals first|rfl|(simp;done)
theorem s9 (w:aH)(hs:cW w):af Tryz.prog 19 [] [bk w] [] (aA (cF w)):=by
 have h:=qP w hs
 generalize cF w=g at*
 obtain⟨⟨l,m⟩,st,⟨d1,d2,d3,d4⟩,⟨a,b,c,d⟩,ta,bu,cs⟩:=w
 refine af.ah (rvs:=[.tmp 2]) G aa Tryz.func19 rfl Tryz.ntmps19 rfl rfl ?_;with_reducible refine wD ?_
 repeat' (first
  |refine gK ?_|refine aE ?_ ?_
  |(((with_reducible refine kQ 75 ?_);refine cL h Nt ?_)<;>with_reducible refine wK ?_)
  |apply trivial)
 all_goals rfl
def oF (s:List Int)(n:Nat):Bool:=s.all fun x=>decide (0≤x)&&decide (x< (n:Int))
theorem yA (s:List Int)(hs:s.length≤100000)(n:Nat):af Tryz.prog 77 [] [bQ s,aj n] [] (aA (oF s n)):=by
 have hlm:(s.map bB).length=s.length:=aM ..
 unfold oF
 refine af.ah (rvs:=[.tmp 4]) G aa Tryz.func77 rfl Tryz.ntmps77 rfl rfl ?_;with_reducible refine wD ?_
 refine aR.use G aa (fun(k:Nat)=>[(0,bQ s),(1,aj n),(5,aj k)]) (fun _=>[]) (fun k=>k≤s.length∧∀ (j:Nat) x,j<k→s[j]? =some x→(decide (0≤x)&&decide (x< (n:Int)))=true) (fun k=>s.length-k) 0 ⟨Nat.zero_le _,fun j x h=>by omega⟩
  ⟨⟨rfl,rfl⟩,⟨rfl,rfl,rfl,trivial⟩,trivial⟩ ?_
 rintro k ⟨hk,hok⟩
 with_reducible refine wK ?_
 refine aQ.mk (fun h1=>?_) (fun h1=>?_)<;>(try simp only[aq] at h1)<;>with_reducible refine wK ?_
 ·have hk':k<s.length:=by simp only[aL] at h1;omega
  obtain⟨x,hx⟩:∃x,s[k]? =some x:=⟨_,aP hk'⟩
  refine ak.mk k (aj x) rfl (dG hx) ?_;with_reducible refine wK ?_
  clear h1
  by_cases e1:x<0
  ·rw[jS hx (by rw[aS (by omega)];rfl)]
   (have fct:=e1;(repeat' (first
  |refine gF ?_|refine aE ?_ ?_
  |apply trivial));all_goals clear fct)
  by_cases e2:(n:Int)≤x
  ·rw[jS hx (by rw[aS (show ¬x< (n:Int) by omega),Bool.and_false])]
   (have fct:=And.intro (eq_false e1) ((eq_true e2));(repeat' (first
  |refine gF ?_|refine aE ?_ ?_
  |(((with_reducible show ak _ _ _ _ _);refine ak.mk k (aj x) rfl (dG hx) ?_)<;>with_reducible refine wK ?_)
  |apply trivial));all_goals clear fct)
  (have fct:=And.intro (eq_false e1) ((eq_false e2));(repeat' (first
  |refine gF ?_|refine aE ?_ ?_
  |(((with_reducible show ak _ _ _ _ _);refine ak.mk k (aj x) rfl (dG hx) ?_)<;>with_reducible refine wK ?_)
  |apply trivial));all_goals clear fct)
  refine ay.mk (k+1) ⟨by omega,fun j y hj hy=>?_⟩ (by omega) ⟨⟨rfl,rfl⟩,⟨rfl,rfl,by show((k+1:Nat):Int)=(k:Int)+1;omega,trivial⟩,trivial⟩
  rcases Nat.lt_or_ge j k with h6|h6
  ·exact hok j y h6 hy
  ·have:j=k:=by omega
   subst this
   rw[hx] at hy;cases hy
   rw[aV (show 0≤x by omega),aV (show x< (n:Int) by omega)];rfl
 ·have hkl:k=s.length:=by simp only[bh] at h1;omega
  rw[ja fun j y hy=>hok j y (by have:=(aZ hy).1;omega) hy]
  repeat' (first
  |refine gK ?_|refine aE ?_ ?_
  |apply trivial)
theorem vE (l:cq)(hs:rF 99000 l):af Tryz.prog 22 [] [eT l] [] (aA (sV l)):=by
 have hb:=yA l.back (by have:=hs.back;omega) l.todos.length
 have hst:∀s∈l.stack,af Tryz.prog 77 [] [bQ s,aj l.todos.length] [] (aA (oF s l.todos.length)):=fun s h=>yA s (by have:=hs.list s h;omega) _
 have e0:sV l=(l.stack.all (fun s=>oF s l.todos.length)&&oF l.back l.todos.length):=rfl
 rw[e0]
 have hl:=hs.stack
 have hl2:=hs.todos
 obtain⟨a,b,c,d⟩:=l
 simp only at hb hst hl hl2 ⊢
 have ham:(a.map bO).length=a.length:=aM ..
 have hbm:(b.map dJ).length=b.length:=aM ..
 have hb2:af Tryz.prog 77 [] [bQ c,aj ((a.map bO).length:Nat)] [] (aA (oF c a.length)):=by rw[ham];exact hb
 refine af.ah (rvs:=[.tmp 2]) G aa Tryz.func22 rfl Tryz.ntmps22 rfl rfl ?_;with_reducible refine wD ?_
 refine aR.use G aa (fun(k:Nat)=>[(1,.ptr 10 0 0),(3,aj k)]) (fun _=>[(10,Ol ⟨a,b,c,d⟩)]) (fun k=>k≤b.length∧∀ (j:Nat) x,j<k→b[j]? =some x→oF x a.length=true) (fun k=>b.length-k) 0 ⟨Nat.zero_le _,fun j x h=>by omega⟩
  ⟨⟨rfl,rfl⟩,⟨⟨rfl,rfl⟩,rfl,trivial⟩,⟨⟨rfl,rfl,rfl,rfl,trivial⟩,trivial⟩,trivial⟩ ?_
 rintro k ⟨hk,hok⟩
 with_reducible refine wK ?_
 refine aQ.mk (fun h1=>?_) (fun h1=>?_)<;>(try simp only[aq] at h1)<;>with_reducible refine wK ?_
 ·have hk':k<b.length:=by simp only[aL] at h1;omega
  obtain⟨x,hx⟩:∃x,b[k]? =some x:=⟨_,aP hk'⟩
  have hxk:=hst x (bn hx)
  rw[←ham] at hxk
  clear h1
  refine ak.mk k (bQ x) rfl (gM hx) ?_;with_reducible refine wK ?_
  cases e:oF x (a.map bO).length with
  | false=>
    rw[e] at hxk
    rw[ham] at e
    rw[jS hx e,Bool.false_and]
    repeat' (first
  |refine gK ?_|refine aE ?_ ?_
  |(((with_reducible refine kQ 77 ?_);refine cL hxk SD ?_)<;>with_reducible refine wK ?_)
  |apply trivial)
  | true=>
    rw[e] at hxk
    rw[ham] at e
    repeat' (first
  |refine gK ?_|refine aE ?_ ?_
  |(((with_reducible refine kQ 77 ?_);refine cL hxk SD ?_)<;>with_reducible refine wK ?_)
  | apply trivial)
    refine ay.mk (k+1) ⟨by omega,fun j y hj hy=>?_⟩ (by omega) ⟨⟨rfl,rfl⟩,⟨⟨rfl,rfl⟩,by show((k+1:Nat):Int)=(k:Int)+1;omega,trivial⟩,⟨⟨rfl,rfl,rfl,rfl,trivial⟩,trivial⟩,trivial⟩
    rcases Nat.lt_or_ge j k with h6|h6
    ·exact hok j y h6 hy
    ·have:j=k:=by omega
     subst this
     rw[hx] at hy;cases hy;exact e
 ·have hkl:k=b.length:=by simp only[bh] at h1;omega
  clear h1
  rw[ja fun j y hy=>hok j y (by have:=(aZ hy).1;omega) hy,Bool.true_and]
  repeat' (first
  |refine gK ?_|refine aE ?_ ?_
  |(((with_reducible refine kQ 77 ?_);refine cL hb2 SD ?_)<;>with_reducible refine wK ?_)
  |apply trivial)
  all_goals rfl
theorem mw (n:Int)(k:Nat):af Tryz.prog 74 [] [aj n,aj k] [] (aA (decide (0≤n)&&decide (n< (k:Int)))):=by
 refine af.ah (rvs:=[.tmp 4]) G aa Tryz.func74 rfl Tryz.ntmps74 rfl rfl ?_;with_reducible refine wD ?_
 repeat' (first
  |refine pK ?_|refine aE ?_ ?_
  | ((first
   |((with_reducible show aQ _ _ _ _);(refine aQ.mk (fun hp=>?_) (fun hp=>?_)<;>(try simp only[aq,aL,bh,Bool.not_eq_true',Bool.not_eq_false',Decidable.not_not,Int.not_lt,Int.not_le] at hp))))<;>with_reducible refine wK ?_)
  |apply trivial)
 all_goals first|rfl|(simp_all;done)|(simp_all;omega)
theorem BT (w:aH)(t:bw):af Tryz.prog 30 [] [bk w,fR t] [] (aA (gU w t)):=by
 have hpl:=mw t.df (w.desk.defs.map j5).length
 have e0:gU w t=(if t.kind=9 then(decide (0≤t.df)&&decide (t.df< ((w.desk.defs.map j5).length:Int))) else decide (1≤t.kind)&&decide (t.kind≤8)):=by
  unfold gU kq
  rw[aM]
  split
  ·rename_i h;rw[h];simp
  ·rename_i h;rw[aS h,Bool.false_and,Bool.or_false,decide_eq_decide.2 (show t.kind<9↔t.kind≤8 by omega)]
 rw[e0]
 obtain⟨⟨l,m⟩,st,⟨d1,d2,d3,d4⟩,⟨a,b,c,d⟩,ta,bu,cs⟩:=w
 obtain⟨x0,x1,x2,x3,x4,x5,x6,x7,x8,x9⟩:=t
 simp only at hpl ⊢
 generalize(decide (0≤x1)&&decide (x1< ((d1.map j5).length:Int)))=g at*
 refine af.ah (rvs:=[.tmp 4]) G aa Tryz.func30 rfl Tryz.ntmps30 rfl rfl ?_;with_reducible refine wD ?_
 repeat' (first
  |refine pK ?_|refine aE ?_ ?_
  | ((first
   |((with_reducible show aQ _ _ _ _);(refine aQ.mk (fun hp=>?_) (fun hp=>?_)<;>(try simp only[aq,aL,bh,Bool.not_eq_true',Bool.not_eq_false',Decidable.not_not,Int.not_lt,Int.not_le] at hp)))
   |((with_reducible refine kQ 74 ?_);refine cL hpl zT ?_))<;>with_reducible refine wK ?_)
  |apply trivial)
 all_goals first|rfl|(simp_all;done)|(simp_all;omega)
theorem GO (w:aH)(k:Nat)(x:az)(s:StateM)(hx:w.f.nodes[k]? =some x)(hs:w.states[k]? =some s):af Tryz.prog 73 [] [bk w,aj k] [] (aA (gy w x s)):=by
 have hd:=mw s.df (w.desk.defs.map j5).length
 have hn:=mw s.owner (w.f.nodes.map bP).length
 have e1:(decide (0≤s.df)&&decide (s.df< ((w.desk.defs.map j5).length:Int)))=kq w s.df:=by unfold kq;rw[aM]
 have e2:(decide (0≤s.owner)&&decide (s.owner< ((w.f.nodes.map bP).length:Int)))=ai w.f.nodes s.owner:=by unfold ai;rw[aM]
 have e3:kq w (-1)=false:=rfl
 rw[e1] at hd
 rw[e2] at hn
 unfold gy
 have e4:s.df=-1→kq w s.df=false:=fun h=>by rw[h];rfl
 clear e1 e2 e3
 generalize kq w s.df=g at*
 generalize ai w.f.nodes s.owner=t at*
 obtain⟨⟨l,m⟩,st,⟨d1,d2,d3,d4⟩,⟨a,b,c,d⟩,ta,bu,cs⟩:=w
 obtain⟨y0,y1,y2,y3,y4,y5,y6,y7,y8,y9⟩:=x
 obtain⟨s1,s2,s3,s4⟩:=s
 simp only at hd hn hx hs e4 ⊢
 by_cases e0:y0=1
 ·rw[if_pos e0]
  refine af.ah (rvs:=[.tmp 4]) G aa Tryz.func73 rfl Tryz.ntmps73 rfl rfl ?_;with_reducible refine wD ?_
  (have fct:=e0;(repeat' (first
  |refine pF ?_|refine aE ?_ ?_
  | ((first
   |((with_reducible show aQ _ _ _ _);(refine aQ.mk (fun hp=>?_) (fun hp=>?_)<;>(try simp only[aq,aL,bh,Bool.not_eq_true',Bool.not_eq_false',Decidable.not_not,Int.not_lt,Int.not_le] at hp)))
   |((with_reducible refine kQ 74 ?_);first|refine cL hd zT ?_|refine cL hn zT ?_)
   |((with_reducible show ak _ _ _ _ _);first|refine ak.mk k (aO ⟨y0,y1,y2,y3,y4,y5,y6,y7,y8,y9⟩) rfl (au hx) ?_|refine ak.mk k (cf ⟨s1,s2,s3,s4⟩) rfl (bN hs) ?_))<;>with_reducible refine wK ?_)
  |apply trivial));all_goals clear fct)
  all_goals first
   |rfl
   |(simp_all;done)
   |(simp_all;omega)
   |(cases t<;>cases g<;>simp_all<;>omega)
 ·rw[if_neg e0]
  refine af.ah (rvs:=[.tmp 4]) G aa Tryz.func73 rfl Tryz.ntmps73 rfl rfl ?_;with_reducible refine wD ?_
  (have fct:=(eq_false e0);(repeat' (first
  |refine pF ?_|refine aE ?_ ?_
  | ((first
   |((with_reducible show aQ _ _ _ _);(refine aQ.mk (fun hp=>?_) (fun hp=>?_)<;>(try simp only[aq,aL,bh,Bool.not_eq_true',Bool.not_eq_false',Decidable.not_not,Int.not_lt,Int.not_le] at hp)))
   |((with_reducible show ak _ _ _ _ _);first|refine ak.mk k (aO ⟨y0,y1,y2,y3,y4,y5,y6,y7,y8,y9⟩) rfl (au hx) ?_|refine ak.mk k (cf ⟨s1,s2,s3,s4⟩) rfl (bN hs) ?_))<;>with_reducible refine wK ?_)
  |apply trivial));all_goals clear fct)
  all_goals first|rfl|(simp_all;done)|(simp_all;omega)
theorem CI {c:aI}(h:¬ ((c.watch.length≤12∧(∀s∈c.watch,bJ s=true∧gR s=s))∧c.hooks.length≤12∧(∀h∈c.hooks,1≤h.kind∧h.kind≤8∧h.prog.length≤60)∧c.peek.length≤60∧c.make.length≤60)):bq c=false:=by
 rw[Bool.eq_false_iff]
 intro h0
 unfold bq at h0
 simp only[aT,aL,Bool.not_eq_true',List.any_eq_false,Bool.not_eq_true,dW,not_or] at h0
 obtain⟨⟨⟨⟨⟨h1,h2⟩,h3⟩,h4⟩,h5⟩,h6⟩:=h0
 refine h ⟨⟨h1,fun s hs=>?_⟩,h3,fun x hx=>?_,h5,h6⟩
 ·have:=h2 s hs
  simpa using this
 ·have:=h4 x hx
  omega
theorem G6 {k t d:Int}:(if k=1 then decide (t=0)&&decide (d=0) else if k=2 then decide (0≤t)&&true else false)=true↔ (k=1∧t=0∧d=0)∨(k=2∧0≤t):=by
 by_cases h:k=1
 ·rw[if_pos h];simp;omega
 ·rw[if_neg h]
  by_cases h2:k=2
  ·rw[if_pos h2];simp;omega
  ·rw[if_neg h2];simp;omega
theorem IV {k t d:Int}:(if k=1 then decide (t=0)&&decide (d=0) else if k=2 then decide (0≤t)&&false else false)=true↔ (k=1∧t=0∧d=0):=by
 by_cases h:k=1
 ·rw[if_pos h];simp;omega
 ·rw[if_neg h];simp;omega
theorem HW {n y:Int}:(true&&(decide (n=-4)||(true&&decide (y=1))))=true↔n=-4∨y=1:=by simp
theorem II {n y:Int}:(true&&(decide (n=-4)||(false&&decide (y=1))))=true↔n=-4:=by simp
theorem A5 {c:aI}(h1:c.watch.length≤12)(h2:∀s∈c.watch,bJ s=true∧gR s=s)(h3:c.hooks.length≤12)(h4:∀h∈c.hooks,1≤h.kind∧h.kind≤8∧h.prog.length≤60)(h5:c.peek.length≤60)(h6:c.make.length≤60):bq c=true:=by
 unfold bq
 simp only[aT,aL,Bool.not_eq_true',List.any_eq_false,Bool.not_eq_true,dW,not_or]
 refine⟨⟨⟨⟨⟨h1,fun s hs=>?_⟩,h3⟩,fun x hx=>?_⟩,h5⟩,h6⟩
 ·have:=h2 s hs
  simp[this]
 ·have:=h4 x hx
  omega
theorem uj (c:aI)(h3:∀s∈c.watch,s.size≤300):af Tryz.prog 27 [] [bK c] [] (aA (bq c)):=by
 have h86:=fun s=>vv s
 have h87:=fun s (hs:s∈c.watch)=>zE s (by have:=h3 s hs;omega)
 have hno:=@CI c
 have hyes:=@A5 c
 obtain⟨r,hr⟩:∃r,bq c=r:=⟨_,rfl⟩
 rw[hr] at hno hyes ⊢
 obtain⟨c1,c2,c3,c4,c5⟩:=c
 simp only at h3 h87 hno hyes
 have n2:(c2.map jO).length=c2.length:=aM ..
 have n3:(c3.map C6).length=c3.length:=aM ..
 have n4:(c4.map C6).length=c4.length:=aM ..
 have n5:(c5.map jk).length=c5.length:=aM ..
 refine af.ah (rvs:=[.tmp 2]) G aa Tryz.func27 rfl Tryz.ntmps27 rfl rfl ?_;with_reducible refine wD ?_
 by_cases e1:(12:Int)< (c2.length:Int)
 ·rw[hno (by omega)]
  (have fct:=And.intro n2 (e1);(repeat' (first
  |refine gF ?_|refine aE ?_ ?_
  |apply trivial));all_goals clear fct)
 by_cases e2:(12:Int)< (c5.length:Int)
 ·rw[hno (by omega)]
  (have fct:=And.intro n2 (And.intro n5 (And.intro (eq_false e1) (e2)));(repeat' (first
  |refine gF ?_|refine aE ?_ ?_
  |apply trivial));all_goals clear fct)
 by_cases e3:(60:Int)< (c3.length:Int)
 ·rw[hno (by omega)]
  (have fct:=And.intro n2 (And.intro n5 (And.intro n3 (And.intro (eq_false e1) (And.intro (eq_false e2) (e3)))));(repeat' (first
  |refine gF ?_|refine aE ?_ ?_
  |apply trivial));all_goals clear fct)
 by_cases e4:(60:Int)< (c4.length:Int)
 ·rw[hno (by omega)]
  (have fct:=And.intro n2 (And.intro n5 (And.intro n3 (And.intro n4 (And.intro (eq_false e1) (And.intro (eq_false e2) (And.intro (eq_false e3) (e4)))))));(repeat' (first
  |refine gF ?_|refine aE ?_ ?_
  |apply trivial));all_goals clear fct)
 (have fct:=And.intro n2 (And.intro n5 (And.intro n3 (And.intro n4 (And.intro (eq_false e1) (And.intro (eq_false e2) (And.intro (eq_false e3) ((eq_false e4))))))));(repeat' (first
  |refine gF ?_|refine aE ?_ ?_
  |apply trivial));all_goals clear fct)
 refine aR.use G aa (fun(k:Nat)=>[(1,.ptr 10 0 0),(3,aj k)]) (fun _=>[(10,.live 5 [bK ⟨c1,c2,c3,c4,c5⟩] false)])
  (fun k=>k≤c2.length∧∀ (j:Nat) s,j<k→c2[j]? =some s→bJ s=true∧gR s=s) (fun k=>c2.length-k) 0 ⟨Nat.zero_le _,fun j y h=>by omega⟩
  ⟨⟨rfl,rfl⟩,⟨⟨rfl,rfl⟩,rfl,trivial⟩,⟨⟨rfl,rfl,rfl,rfl,rfl,trivial⟩,trivial⟩,trivial⟩ ?_
 rintro k ⟨hk,hok⟩
 with_reducible refine wK ?_
 refine aQ.mk (fun h1=>?_) (fun h1=>?_)<;>(try simp only[aq] at h1)<;>with_reducible refine wK ?_
 ·have hk':k<c2.length:=by simp only[aL] at h1;omega
  obtain⟨s,hs⟩:∃x,c2[k]? =some x:=⟨_,aP hk'⟩
  have hm:=bn hs
  have h86:=h86 s
  have h87:=h87 s hm
  clear h1
  refine ak.mk k (bG s) rfl (gZ hs) ?_;with_reducible refine wK ?_
  cases hr:bJ s with
  | false=>
    rw[hr] at h86
    rw[hno (fun q=>by have:=(q.1.2 s hm).1;rw[hr] at this;cases this)]
    repeat' (first
  |refine gK ?_|refine aE ?_ ?_
  |(((with_reducible refine kQ 86 ?_);refine cL h86 NG ?_)<;>with_reducible refine wK ?_)
  |apply trivial)
  | true=>
    rw[hr] at h86
    by_cases hl:gR s=s
    ·(have fct:=hl;(repeat' (first
  |refine gF ?_|refine aE ?_ ?_
  | ((first
   |((with_reducible refine kQ 86 ?_);refine cL h86 NG ?_)
   |((with_reducible refine kQ 87 ?_);refine cL h87 P0 ?_)
   |((with_reducible show ak _ _ _ _ _);refine ak.mk k (bG s) rfl (gZ hs) ?_))<;>with_reducible refine wK ?_)
  | apply trivial));all_goals clear fct)
     refine ay.mk (k+1) ⟨by omega,fun j y hj hy=>?_⟩ (by omega) ⟨⟨rfl,rfl⟩,⟨⟨rfl,rfl⟩,by show((k+1:Nat):Int)=(k:Int)+1;omega,trivial⟩,⟨⟨rfl,rfl,rfl,rfl,rfl,trivial⟩,trivial⟩,trivial⟩
     rcases Nat.lt_or_ge j k with h6|h6
     ·exact hok j y h6 hy
     ·have:j=k:=by omega
      subst this
      rw[hs] at hy;cases hy;exact⟨hr,hl⟩
    ·rw[hno (fun q=>hl (q.1.2 s hm).2)]
     (have fct:=(eq_false hl);(repeat' (first
  |refine gF ?_|refine aE ?_ ?_
  | ((first
   |((with_reducible refine kQ 86 ?_);refine cL h86 NG ?_)
   |((with_reducible refine kQ 87 ?_);refine cL h87 P0 ?_)
   |((with_reducible show ak _ _ _ _ _);refine ak.mk k (bG s) rfl (gZ hs) ?_))<;>with_reducible refine wK ?_)
  |apply trivial));all_goals clear fct)
 ·have hkl:k=c2.length:=by simp only[bh] at h1;omega
  have hW:∀s∈c2,bJ s=true∧gR s=s:=fun s hs=>by
   obtain⟨j,hj⟩:=List.getElem?_of_mem hs
   exact hok j s (by have:=(aZ hj).1;omega) hj
  clear h1
  repeat' (first
  |refine gK ?_|refine aE ?_ ?_
  |apply trivial)
  refine aR.use G aa (fun(k:Nat)=>[(1,.ptr 10 0 0),(4,aj k)]) (fun _=>[(10,.live 5 [bK ⟨c1,c2,c3,c4,c5⟩] false)])
   (fun k=>k≤c5.length∧∀ (j:Nat) x,j<k→c5[j]? =some x→1≤x.kind∧x.kind≤8∧x.prog.length≤60) (fun k=>c5.length-k) 0 ⟨Nat.zero_le _,fun j y h=>by omega⟩
   ⟨⟨rfl,rfl⟩,⟨⟨rfl,rfl⟩,rfl,trivial⟩,⟨⟨rfl,rfl,rfl,rfl,rfl,trivial⟩,trivial⟩,trivial⟩ ?_
  rintro q ⟨hq,hoq⟩
  with_reducible refine wK ?_
  refine aQ.mk (fun h2=>?_) (fun h2=>?_)<;>(try simp only[aq] at h2)<;>with_reducible refine wK ?_
  ·have hq':q<c5.length:=by simp only[aL] at h2;omega
   obtain⟨⟨u1,u2⟩,hu⟩:∃x,c5[q]? =some x:=⟨_,aP hq'⟩
   have hm:=bn hu
   have nu:(u2.map C6).length=u2.length:=aM ..
   clear h2
   by_cases f1:u1<1
   ·rw[hno (fun z=>by have:=(z.2.2.1 _ hm).1;simp only at this;omega)]
    (have fct:=f1;(repeat' (first
  |refine gF ?_|refine aE ?_ ?_
  |(((with_reducible show ak _ _ _ _ _);refine ak.mk q (iF ⟨u1,u2⟩) rfl (eu hu) ?_)<;>with_reducible refine wK ?_)
  | apply trivial));all_goals clear fct)
   by_cases f2:8<u1
   ·rw[hno (fun z=>by have:=(z.2.2.1 _ hm).2.1;simp only at this;omega)]
    (have fct:=And.intro (eq_false f1) (f2);(repeat' (first
  |refine gF ?_|refine aE ?_ ?_
  |(((with_reducible show ak _ _ _ _ _);refine ak.mk q (iF ⟨u1,u2⟩) rfl (eu hu) ?_)<;>with_reducible refine wK ?_)
  | apply trivial));all_goals clear fct)
   by_cases f3:(60:Int)< (u2.length:Int)
   ·rw[hno (fun z=>by have:=(z.2.2.1 _ hm).2.2;simp only at this;omega)]
    (have fct:=And.intro (eq_false f1) (And.intro (eq_false f2) (And.intro nu (f3)));(repeat' (first
  |refine gF ?_|refine aE ?_ ?_
  |(((with_reducible show ak _ _ _ _ _);refine ak.mk q (iF ⟨u1,u2⟩) rfl (eu hu) ?_)<;>with_reducible refine wK ?_)
  | apply trivial));all_goals clear fct)
   (have fct:=And.intro (eq_false f1) (And.intro (eq_false f2) (And.intro nu ((eq_false f3))));(repeat' (first
  |refine gF ?_|refine aE ?_ ?_
  |(((with_reducible show ak _ _ _ _ _);refine ak.mk q (iF ⟨u1,u2⟩) rfl (eu hu) ?_)<;>with_reducible refine wK ?_)
  | apply trivial));all_goals clear fct)
   refine ay.mk (q+1) ⟨by omega,fun j y hj hy=>?_⟩ (by omega) ⟨⟨rfl,rfl⟩,⟨⟨rfl,rfl⟩,by show((q+1:Nat):Int)=(q:Int)+1;omega,trivial⟩,⟨⟨rfl,rfl,rfl,rfl,rfl,trivial⟩,trivial⟩,trivial⟩
   rcases Nat.lt_or_ge j q with h6|h6
   ·exact hoq j y h6 hy
   ·have:j=q:=by omega
    subst this
    rw[hu] at hy;cases hy
    exact⟨by show 1≤u1;omega,by show u1≤8;omega,by show u2.length≤60;omega⟩
  ·have hql:q=c5.length:=by simp only[bh] at h2;omega
   rw[hyes (by omega) hW (by omega) (fun x hx=>by
    obtain⟨j,hj⟩:=List.getElem?_of_mem hx
    exact hoq j x (by have:=(aZ hj).1;omega) hj) (by omega) (by omega)]
   clear h2
   repeat' (first
  |refine gK ?_|refine aE ?_ ?_
  |apply trivial)
theorem Q4 {w:aH}(h:¬cN w):cF w=false:=by rw[Bool.eq_false_iff];exact fun h0=>h (ir.1 h0)
theorem cN.cls {w:aH}(R:cN w):w.classes.length≤12∧(∀c∈w.classes,bq c=true)∧∀x∈w.desk.defs,x.cls< (w.classes.length:Int):=by
 have h:=R.cl
 unfold ia at h
 simp only[aT,aL,Bool.not_eq_true',List.any_eq_false,aL] at h
 refine⟨h.1.1,fun c hc=>?_,fun x hx=>?_⟩
 ·have:=h.1.2 c hc
  simpa using this
 ·have:=h.2 x hx
  omega
theorem NO {w:aH}(h1:w.classes.length≤12)(h2:∀c∈w.classes,bq c=true)(h3:∀x∈w.desk.defs,x.cls< (w.classes.length:Int)):ia w=true:=by
 unfold ia
 simp only[aT,aL,Bool.not_eq_true',List.any_eq_false,aL]
 refine⟨⟨h1,fun c hc=>by rw[h2 c hc];simp⟩,fun x hx=>?_⟩
 have:=h3 x hx
 omega
theorem GW (w:aH)(hs:cW w)(hsd:vW w.desk):af Tryz.prog 18 [] [bk w] [] (aA (cF w)):=by
 have h34:=HM w.f hs.f
 rw[right_eq] at h34
 have h72:=NT w.desk hsd
 have h22:=vE w.line (hs.l.mono (by omega))
 have hal:∀c∈w.classes,af Tryz.prog 27 [] [bK c] [] (aA (bq c)):=fun c hc=>uj c (hs.nm c hc)
 have hst:=fun k x s=>GO w k x s
 have htd:=fun t=>BT w t
 have hpd:=fun n=>mw n (w.desk.defs.map j5).length
 have hpn:=fun n=>mw n (w.f.nodes.map bP).length
 have e1:∀n,(decide (0≤n)&&decide (n< ((w.desk.defs.map j5).length:Int)))=kq w n:=fun n=>by unfold kq;rw[aM]
 have e2:∀n,(decide (0≤n)&&decide (n< ((w.f.nodes.map bP).length:Int)))=ai w.f.nodes n:=fun n=>by unfold ai;rw[aM]
 have hpd:=fun n=>by have:=hpd n;rw[e1 n] at this;exact this
 have hpn:=fun n=>by have:=hpn n;rw[e2 n] at this;exact this
 clear e1 e2
 have hno:=@Q4 w
 have hyes:cN w→cF w=true:=ir.2
 obtain⟨res,hres⟩:∃r,cF w=r:=⟨_,rfl⟩
 rw[hres] at hno hyes ⊢
 clear hres
 have l1:=hs.f.len
 have l2:=hs.cl
 have l3:=hs.d.defs
 have l4:=hs.ta
 have l5:=hs.bu
 have l6:=hs.l.todos
 have l7:=hs.l.todo
 have l8:=hs.st
 cases g2:bf w.f with
 | false=>
   rw[hno (fun R=>by rw[R.rf] at g2;cases g2)]
   rw[g2] at h34
   obtain⟨⟨l,m⟩,st,⟨d1,d2,d3,d4⟩,⟨a,b,c,d⟩,ta,bu,cs⟩:=w
   simp only at l2 h34
   have n1:(cs.map cZ).length=cs.length:=aM ..
   by_cases e1:(12:Int)< (cs.length:Int)
   ·refine af.ah (rvs:=[.tmp 2]) G aa Tryz.func18 rfl Tryz.ntmps18 rfl rfl ?_;with_reducible refine wD ?_
    (have fct:=And.intro n1 (e1);(repeat' (first
  |refine gF ?_|refine aE ?_ ?_
  | apply trivial));all_goals clear fct)
   ·refine af.ah (rvs:=[.tmp 2]) G aa Tryz.func18 rfl Tryz.ntmps18 rfl rfl ?_;with_reducible refine wD ?_
    (have fct:=And.intro n1 ((eq_false e1));(repeat' (first
  |refine gF ?_|refine aE ?_ ?_
  |(((with_reducible refine kQ 34 ?_);refine cL h34 GZ ?_)<;>with_reducible refine wK ?_)
  |apply trivial));all_goals clear fct)
 |true=>
 rw[g2] at h34
 cases g3:dU w.desk with
 | false=>
   rw[hno (fun R=>by rw[R.rd] at g3;cases g3)]
   rw[g3] at h72
   obtain⟨⟨l,m⟩,st,⟨d1,d2,d3,d4⟩,⟨a,b,c,d⟩,ta,bu,cs⟩:=w
   simp only at l2 h34 h72
   have n1:(cs.map cZ).length=cs.length:=aM ..
   by_cases e1:(12:Int)< (cs.length:Int)
   ·refine af.ah (rvs:=[.tmp 2]) G aa Tryz.func18 rfl Tryz.ntmps18 rfl rfl ?_;with_reducible refine wD ?_
    (have fct:=And.intro n1 (e1);(repeat' (first
  |refine gF ?_|refine aE ?_ ?_
  | apply trivial));all_goals clear fct)
   ·refine af.ah (rvs:=[.tmp 2]) G aa Tryz.func18 rfl Tryz.ntmps18 rfl rfl ?_;with_reducible refine wD ?_
    (have fct:=And.intro n1 ((eq_false e1));(repeat' (first
  |refine gF ?_|refine aE ?_ ?_
  | ((first
   |((with_reducible refine kQ 34 ?_);refine cL h34 GZ ?_)
   |((with_reducible refine kQ 72 ?_);refine cL h72 PU ?_))<;>with_reducible refine wK ?_)
  |apply trivial));all_goals clear fct)
 |true=>
 rw[g3] at h72
 cases g4:sV w.line with
 | false=>
   rw[hno (fun R=>by rw[R.ln] at g4;cases g4)]
   rw[g4] at h22
   obtain⟨⟨l,m⟩,st,⟨d1,d2,d3,d4⟩,⟨a,b,c,d⟩,ta,bu,cs⟩:=w
   simp only at l2 h34 h72 h22
   have n1:(cs.map cZ).length=cs.length:=aM ..
   by_cases e1:(12:Int)< (cs.length:Int)
   ·refine af.ah (rvs:=[.tmp 2]) G aa Tryz.func18 rfl Tryz.ntmps18 rfl rfl ?_;with_reducible refine wD ?_
    (have fct:=And.intro n1 (e1);(repeat' (first
  |refine gF ?_|refine aE ?_ ?_
  | apply trivial));all_goals clear fct)
   ·refine af.ah (rvs:=[.tmp 2]) G aa Tryz.func18 rfl Tryz.ntmps18 rfl rfl ?_;with_reducible refine wD ?_
    (have fct:=And.intro n1 ((eq_false e1));(repeat' (first
  |refine gF ?_|refine aE ?_ ?_
  | ((first
   |((with_reducible refine kQ 34 ?_);refine cL h34 GZ ?_)
   |((with_reducible refine kQ 72 ?_);refine cL h72 PU ?_)
   |((with_reducible refine kQ 22 ?_);refine cL h22 O6 ?_))<;>with_reducible refine wK ?_)
  |apply trivial));all_goals clear fct)
 |true=>
 rw[g4] at h22
 have N1:12<w.classes.length→res=false:=fun h=>hno fun R=>by have:=R.cls.1;omega
 have N2:w.states.length≠w.f.nodes.length→res=false:=fun h=>hno fun R=>h R.sl
 have N3:w.line.todos.length≠w.f.nodes.length→res=false:=fun h=>hno fun R=>h R.tl
 have N4:∀c∈w.classes,bq c=false→res=false:=fun c hc h=>hno fun R=>by rw[R.cls.2.1 c hc] at h;cases h
 have N5:∀x∈w.desk.defs,(w.classes.length:Int)≤x.cls→res=false:=fun x hx h=>hno fun R=>by have:=R.cls.2.2 x hx;omega
 have N6:∀ (k:Nat) x s,w.f.nodes[k]? =some x→w.states[k]? =some s→gy w x s=false→res=false:=fun k x s hx hs h=>hno fun R=>by rw[R.st k x s hx hs] at h;cases h
 have N7:∀l∈w.line.todos,∀t∈l,gU w t=false→res=false:=fun l hl t ht h=>hno fun R=>by rw[R.td l hl t ht] at h;cases h
 have N8:∀t∈w.tasks,nR w t=false→res=false:=fun t ht h=>hno fun R=>by rw[R.ta t ht] at h;cases h
 have N9:∀b∈w.builds,jo w b=false→res=false:=fun t ht h=>hno fun R=>by rw[R.bu t ht] at h;cases h
 have YES:w.classes.length≤12→w.states.length=w.f.nodes.length→w.line.todos.length=w.f.nodes.length→(∀c∈w.classes,bq c=true)→(∀x∈w.desk.defs,x.cls< (w.classes.length:Int))→(∀ (k:Nat) x s,w.f.nodes[k]? =some x→w.states[k]? =some s→gy w x s=true)→(∀l∈w.line.todos,∀t∈l,gU w t=true)→(∀t∈w.tasks,nR w t=true)→(∀b∈w.builds,jo w b=true)→res=true:=fun a1 a2 a3 a4 a5 a6 a7 a8 a9=>hyes ⟨a2,a3,NO a1 a4 a5,g2,g3,g4,a6,a7,a8,a9⟩
 have hT:∀t,nR w t=if t.kind=1 then decide (t.ticket=0)&&decide (t.df=0) else if t.kind=2 then decide (0≤t.ticket)&&kq w t.df else false:=fun t=>rfl
 have hB:∀t,jo w t=(kq w t.df&&(decide (t.node=-4)||(ai w.f.nodes t.node&&decide ((nd w.f.nodes t.node).kind=1)))):=fun t=>rfl
 clear hno hyes
 generalize hsO:gy w=SO at*
 generalize htO:gU w=TO at*
 generalize hkO:nR w=KO at*
 generalize hbO:jo w=BO at*
 generalize hdO:kq w=DO at*
 clear hsO htO hkO hbO hdO
 obtain⟨⟨l,m⟩,st,⟨d1,d2,d3,d4⟩,⟨a,b,c,d⟩,ta,bu,cs⟩:=w
 simp only at h34 h72 h22 hal hst htd hpd hpn l1 l2 l3 l4 l5 l6 l7 l8 N1 N2 N3 N4 N5 N6 N7 N8 N9 YES hB
 clear hs hsd g2 g3 g4
 have n1:(cs.map cZ).length=cs.length:=aM ..
 have n2:(st.map cr).length=st.length:=aM ..
 have n3:(l.map bP).length=l.length:=aM ..
 have n4:(a.map bO).length=a.length:=aM ..
 have n5:(d1.map j5).length=d1.length:=aM ..
 have n6:(ta.map dO).length=ta.length:=aM ..
 have n7:(bu.map iz).length=bu.length:=aM ..
 refine af.ah (rvs:=[.tmp 2]) G aa Tryz.func18 rfl Tryz.ntmps18 rfl rfl ?_;with_reducible refine wD ?_
 by_cases e1:(12:Int)< (cs.length:Int)
 ·rw[N1 (by omega)]
  (have fct:=And.intro n1 (e1);(repeat' (first
  |refine gF ?_|refine aE ?_ ?_
  |apply trivial));all_goals clear fct)
 by_cases e2:(st.length:Int)=(l.length:Int)
 case neg=>
  rw[N2 (by omega)]
  (have fct:=And.intro n1 (And.intro n2 (And.intro n3 (And.intro (eq_false e1) ((eq_false e2)))));(repeat' (first
  |refine gF ?_|refine aE ?_ ?_
  | ((first
   |((with_reducible refine kQ 34 ?_);refine cL h34 GZ ?_)
   |((with_reducible refine kQ 72 ?_);refine cL h72 PU ?_)
   |((with_reducible refine kQ 22 ?_);refine cL h22 O6 ?_))<;>with_reducible refine wK ?_)
  |apply trivial));all_goals clear fct)
 by_cases e3:(a.length:Int)=(l.length:Int)
 case neg=>
  rw[N3 (by omega)]
  (have fct:=And.intro n1 (And.intro n2 (And.intro n3 (And.intro n4 (And.intro (eq_false e1) (And.intro (eq_true e2) ((eq_false e3)))))));(repeat' (first
  |refine gF ?_|refine aE ?_ ?_
  | ((first
   |((with_reducible refine kQ 34 ?_);refine cL h34 GZ ?_)
   |((with_reducible refine kQ 72 ?_);refine cL h72 PU ?_)
   |((with_reducible refine kQ 22 ?_);refine cL h22 O6 ?_))<;>with_reducible refine wK ?_)
  |apply trivial));all_goals clear fct)
 (have fct:=And.intro n1 (And.intro n2 (And.intro n3 (And.intro n4 (And.intro (eq_false e1) (And.intro (eq_true e2) ((eq_true e3)))))));(repeat' (first
  |refine gF ?_|refine aE ?_ ?_
  | ((first
   |((with_reducible refine kQ 34 ?_);refine cL h34 GZ ?_)
   |((with_reducible refine kQ 72 ?_);refine cL h72 PU ?_)
   |((with_reducible refine kQ 22 ?_);refine cL h22 O6 ?_))<;>with_reducible refine wK ?_)
  |apply trivial));all_goals clear fct)
 refine aR.use G aa (fun(k:Nat)=>[(1,.ptr 10 0 0),(3,aj k)]) (fun _=>[(10,mW ⟨⟨l,m⟩,st,⟨d1,d2,d3,d4⟩,⟨a,b,c,d⟩,ta,bu,cs⟩)])
  (fun k=>k≤cs.length∧∀ (j:Nat) x,j<k→cs[j]? =some x→bq x=true) (fun k=>cs.length-k) 0 ⟨Nat.zero_le _,fun j y h=>by omega⟩
  (
  ⟨⟨rfl,rfl⟩,⟨⟨rfl,rfl⟩,rfl,trivial⟩,⟨⟨rfl,rfl,rfl,rfl,rfl,rfl,rfl,rfl,rfl,rfl,rfl,rfl,rfl,rfl,trivial⟩,trivial⟩,trivial⟩
  ) ?_
 rintro k ⟨hk,hok⟩
 with_reducible refine wK ?_
 refine aQ.mk (fun h1=>?_) (fun h1=>?_)<;>(try simp only[aq] at h1)<;>with_reducible refine wK ?_
 ·have hk':k<cs.length:=by simp only[aL] at h1;omega
  obtain⟨x,hx⟩:∃x,cs[k]? =some x:=⟨_,aP hk'⟩
  have hal:=hal x (bn hx)
  have N4:=N4 x (bn hx)
  clear h1
  cases e:bq x with
  | false=>
    rw[e] at hal
    rw[N4 e]
    obtain⟨x1,x2,x3,x4,x5⟩:=x
    repeat' (first
  |refine gK ?_|refine aE ?_ ?_
  | ((first
   |((with_reducible show ak _ _ _ _ _);refine ak.mk k (bK ⟨x1,x2,x3,x4,x5⟩) rfl (cU hx) ?_)
   |((with_reducible refine kQ 27 ?_);refine cL hal RP ?_))<;>with_reducible refine wK ?_)
  |apply trivial)
  | true=>
    rw[e] at hal
    obtain⟨x1,x2,x3,x4,x5⟩:=x
    repeat' (first
  |refine gK ?_|refine aE ?_ ?_
  | ((first
   |((with_reducible show ak _ _ _ _ _);refine ak.mk k (bK ⟨x1,x2,x3,x4,x5⟩) rfl (cU hx) ?_)
   |((with_reducible refine kQ 27 ?_);refine cL hal RP ?_))<;>with_reducible refine wK ?_)
  | apply trivial)
    refine ay.mk (k+1) ⟨by omega,fun j y hj hy=>?_⟩ (by omega) (
    ⟨⟨rfl,rfl⟩,⟨⟨rfl,rfl⟩,(by show((k+1:Nat):Int)=(k:Int)+1;omega),trivial⟩,⟨⟨rfl,rfl,rfl,rfl,rfl,rfl,rfl,rfl,rfl,rfl,rfl,rfl,rfl,rfl,trivial⟩,trivial⟩,trivial⟩
    )
    rcases Nat.lt_or_ge j k with h6|h6
    ·exact hok j y h6 hy
    ·have:j=k:=by omega
     subst this
     rw[hx] at hy;cases hy;exact e
 have hA:∀c∈cs,bq c=true:=fun c hc=>by
  obtain⟨j,hj⟩:=List.getElem?_of_mem hc
  exact hok j c (by have:=(aZ hj).1;simp only[bh] at h1;omega) hj
 clear h1 hok hal N4 hk
 repeat' (first
  |refine gK ?_|refine aE ?_ ?_
  |apply trivial)
 refine aR.use G aa (fun(k:Nat)=>[(1,.ptr 10 0 0),(4,aj k)]) (fun _=>[(10,mW ⟨⟨l,m⟩,st,⟨d1,d2,d3,d4⟩,⟨a,b,c,d⟩,ta,bu,cs⟩)])
  (fun k=>k≤d1.length∧∀ (j:Nat) x,j<k→d1[j]? =some x→x.cls< (cs.length:Int)) (fun k=>d1.length-k) 0 ⟨Nat.zero_le _,fun j y h=>by omega⟩
  (
  ⟨⟨rfl,rfl⟩,⟨⟨rfl,rfl⟩,rfl,trivial⟩,⟨⟨rfl,rfl,rfl,rfl,rfl,rfl,rfl,rfl,rfl,rfl,rfl,rfl,rfl,rfl,trivial⟩,trivial⟩,trivial⟩
  ) ?_
 rintro k ⟨hk,hok⟩
 with_reducible refine wK ?_
 refine aQ.mk (fun h1=>?_) (fun h1=>?_)<;>(try simp only[aq] at h1)<;>with_reducible refine wK ?_
 ·have hk':k<d1.length:=by simp only[aL] at h1;omega
  obtain⟨⟨x1,x2,x3⟩,hx⟩:∃x,d1[k]? =some x:=⟨_,aP hk'⟩
  have N5:=N5 _ (bn hx)
  simp only at N5
  clear h1
  by_cases f1:(cs.length:Int)≤x3
  ·rw[N5 f1]
   (have fct:=And.intro n1 (f1);(repeat' (first
  |refine gF ?_|refine aE ?_ ?_
  |(((with_reducible show ak _ _ _ _ _);refine ak.mk k (iA ⟨x1,x2,x3⟩) rfl (cK hx) ?_)<;>with_reducible refine wK ?_)
  |apply trivial));all_goals clear fct)
  ·(have fct:=And.intro n1 ((eq_false f1));(repeat' (first
  |refine gF ?_|refine aE ?_ ?_
  |(((with_reducible show ak _ _ _ _ _);refine ak.mk k (iA ⟨x1,x2,x3⟩) rfl (cK hx) ?_)<;>with_reducible refine wK ?_)
  | apply trivial));all_goals clear fct)
   refine ay.mk (k+1) ⟨by omega,fun j y hj hy=>?_⟩ (by omega) (
    ⟨⟨rfl,rfl⟩,⟨⟨rfl,rfl⟩,(by show((k+1:Nat):Int)=(k:Int)+1;omega),trivial⟩,⟨⟨rfl,rfl,rfl,rfl,rfl,rfl,rfl,rfl,rfl,rfl,rfl,rfl,rfl,rfl,trivial⟩,trivial⟩,trivial⟩
    )
   rcases Nat.lt_or_ge j k with h6|h6
   ·exact hok j y h6 hy
   ·have:j=k:=by omega
    subst this
    rw[hx] at hy;cases hy;show x3<_;omega
 have hD:∀x∈d1,x.cls< (cs.length:Int):=fun c hc=>by
  obtain⟨j,hj⟩:=List.getElem?_of_mem hc
  exact hok j c (by have:=(aZ hj).1;simp only[bh] at h1;omega) hj
 clear h1 hok N5 hk
 repeat' (first
  |refine gK ?_|refine aE ?_ ?_
  |apply trivial)
 refine aR.use G aa (fun(k:Nat)=>[(1,.ptr 10 0 0),(5,aj k)]) (fun _=>[(10,mW ⟨⟨l,m⟩,st,⟨d1,d2,d3,d4⟩,⟨a,b,c,d⟩,ta,bu,cs⟩)])
  (fun k=>k≤st.length∧(∀ (j:Nat) x s,j<k→l[j]? =some x→st[j]? =some s→SO x s=true)∧∀ (j:Nat) t,j<k→a[j]? =some t→∀y∈t,TO y=true) (fun k=>st.length-k) 0 ⟨Nat.zero_le _,fun j y _ h=>by omega,fun j t h=>by omega⟩
  (
  ⟨⟨rfl,rfl⟩,⟨⟨rfl,rfl⟩,rfl,trivial⟩,⟨⟨rfl,rfl,rfl,rfl,rfl,rfl,rfl,rfl,rfl,rfl,rfl,rfl,rfl,rfl,trivial⟩,trivial⟩,trivial⟩
  ) ?_
 rintro k ⟨hk,hok,hot⟩
 with_reducible refine wK ?_
 refine aQ.mk (fun h1=>?_) (fun h1=>?_)<;>(try simp only[aq] at h1)<;>with_reducible refine wK ?_
 ·have hk':k<st.length:=by simp only[aL] at h1;omega
  obtain⟨x,hx⟩:∃x,l[k]? =some x:=⟨_,aP (by omega)⟩
  obtain⟨s,hsx⟩:∃x,st[k]? =some x:=⟨_,aP hk'⟩
  obtain⟨y,hy⟩:∃x,a[k]? =some x:=⟨_,aP (by omega)⟩
  have hst:=hst k x s hx hsx
  have N6:=N6 k x s hx hsx
  have N7:=N7 y (bn hy)
  have ly:=l7 y (bn hy)
  have ny:(y.map ef).length=y.length:=aM ..
  clear h1
  cases e:SO x s with
  | false=>
    rw[e] at hst
    rw[N6 e]
    repeat' (first
  |refine gK ?_|refine aE ?_ ?_
  |(((with_reducible refine kQ 73 ?_);refine cL hst SW ?_)<;>with_reducible refine wK ?_)
  |apply trivial)
  | true=>
    rw[e] at hst
    repeat' (first
  |refine gK ?_|refine aE ?_ ?_
  |(((with_reducible refine kQ 73 ?_);refine cL hst SW ?_)<;>with_reducible refine wK ?_)
  | apply trivial)
    refine aR.use G aa (fun(q:Nat)=>[(1,.ptr 10 0 0),(5,aj k),(6,aj q)]) (fun _=>[(10,mW ⟨⟨l,m⟩,st,⟨d1,d2,d3,d4⟩,⟨a,b,c,d⟩,ta,bu,cs⟩)])
     (fun q=>q≤y.length∧∀ (j:Nat) t,j<q→y[j]? =some t→TO t=true) (fun q=>y.length-q) 0 ⟨Nat.zero_le _,fun j y h=>by omega⟩
     (
    ⟨⟨rfl,rfl⟩,⟨⟨rfl,rfl⟩,rfl,rfl,trivial⟩,⟨⟨rfl,rfl,rfl,rfl,rfl,rfl,rfl,rfl,rfl,rfl,rfl,rfl,rfl,rfl,trivial⟩,trivial⟩,trivial⟩
    ) ?_
    rintro q ⟨hq,hoq⟩
    with_reducible refine wK ?_
    repeat' (first
  |refine gK ?_|refine aE ?_ ?_
  |(((with_reducible show ak _ _ _ _ _);refine ak.mk k (cJ y) rfl (cM hy) ?_)<;>with_reducible refine wK ?_)
  | apply trivial)
    refine aQ.mk (fun h2=>?_) (fun h2=>?_)<;>(try simp only[aq] at h2)<;>with_reducible refine wK ?_
    ·have hq':q<y.length:=by simp only[aL] at h2;omega
     obtain⟨t,ht⟩:∃x,y[q]? =some x:=⟨_,aP hq'⟩
     have htd:=htd t
     have N7:=N7 t (bn ht)
     clear h2
     cases e2:TO t with
     | false=>
       rw[e2] at htd
       rw[N7 e2]
       obtain⟨x0,x1,x2,x3,x4,x5,x6,x7,x8,x9⟩:=t
       repeat' (first
  |refine gK ?_|refine aE ?_ ?_
  | ((first
   |((with_reducible show ak _ _ _ _ _);first|refine ak.mk k (cJ y) rfl (cM hy) ?_|refine ak.mk q (fR ⟨x0,x1,x2,x3,x4,x5,x6,x7,x8,x9⟩) rfl (sN ht) ?_)
   |((with_reducible refine kQ 30 ?_);refine cL htd Rb ?_))<;>with_reducible refine wK ?_)
  |apply trivial)
     | true=>
       rw[e2] at htd
       obtain⟨x0,x1,x2,x3,x4,x5,x6,x7,x8,x9⟩:=t
       repeat' (first
  |refine gK ?_|refine aE ?_ ?_
  | ((first
   |((with_reducible show ak _ _ _ _ _);first|refine ak.mk k (cJ y) rfl (cM hy) ?_|refine ak.mk q (fR ⟨x0,x1,x2,x3,x4,x5,x6,x7,x8,x9⟩) rfl (sN ht) ?_)
   |((with_reducible refine kQ 30 ?_);refine cL htd Rb ?_))<;>with_reducible refine wK ?_)
  | apply trivial)
       refine ay.mk (q+1) ⟨by omega,fun j z hj hz=>?_⟩ (by omega) (
      ⟨⟨rfl,rfl⟩,⟨⟨rfl,rfl⟩,rfl,(by show((q+1:Nat):Int)=(q:Int)+1;omega),trivial⟩,⟨⟨rfl,rfl,rfl,rfl,rfl,rfl,rfl,rfl,rfl,rfl,rfl,rfl,rfl,rfl,trivial⟩,trivial⟩,trivial⟩
      )
       rcases Nat.lt_or_ge j q with h6|h6
       ·exact hoq j z h6 hz
       ·have:j=q:=by omega
        subst this
        rw[ht] at hz;cases hz;exact e2
    ·have hql:q=y.length:=by simp only[bh] at h2;omega
     clear h2
     repeat' (first
  |refine gK ?_|refine aE ?_ ?_
  |apply trivial)
     refine ay.mk (k+1) ⟨by omega,fun j x' s' hj hx' hs'=>?_,fun j t hj ht z hz=>?_⟩ (by omega) (
     ⟨⟨rfl,rfl⟩,⟨⟨rfl,rfl⟩,(by show((k+1:Nat):Int)=(k:Int)+1;omega),trivial⟩,⟨⟨rfl,rfl,rfl,rfl,rfl,rfl,rfl,rfl,rfl,rfl,rfl,rfl,rfl,rfl,trivial⟩,trivial⟩,trivial⟩
     )
     ·rcases Nat.lt_or_ge j k with h6|h6
      ·exact hok j x' s' h6 hx' hs'
      ·have:j=k:=by omega
       subst this
       rw[hx] at hx';rw[hsx] at hs';cases hx';cases hs';exact e
     ·rcases Nat.lt_or_ge j k with h6|h6
      ·exact hot j t h6 ht z hz
      ·have:j=k:=by omega
       subst this
       rw[hy] at ht;cases ht
       obtain⟨i,hi⟩:=List.getElem?_of_mem hz
       exact hoq i z (by have:=(aZ hi).1;omega) hi
 have hkl:st.length≤k:=by simp only[bh] at h1;omega
 have hS:∀ (j:Nat) x s,l[j]? =some x→st[j]? =some s→SO x s=true:=fun j x s hx hs=>hok j x s (by have:=(aZ hs).1;omega) hx hs
 have hTd:∀t∈a,∀y∈t,TO y=true:=fun t ht=>by
  obtain⟨j,hj⟩:=List.getElem?_of_mem ht
  exact hot j t (by have:=(aZ hj).1;omega) hj
 clear h1 hok hot N6 N7 hk hkl hst htd
 repeat' (first
  |refine gK ?_|refine aE ?_ ?_
  |apply trivial)
 refine aR.use G aa (fun(k:Nat)=>[(1,.ptr 10 0 0),(7,aj k)]) (fun _=>[(10,mW ⟨⟨l,m⟩,st,⟨d1,d2,d3,d4⟩,⟨a,b,c,d⟩,ta,bu,cs⟩)])
  (fun k=>k≤ta.length∧∀ (j:Nat) x,j<k→ta[j]? =some x→KO x=true) (fun k=>ta.length-k) 0 ⟨Nat.zero_le _,fun j y h=>by omega⟩
  (
  ⟨⟨rfl,rfl⟩,⟨⟨rfl,rfl⟩,rfl,trivial⟩,⟨⟨rfl,rfl,rfl,rfl,rfl,rfl,rfl,rfl,rfl,rfl,rfl,rfl,rfl,rfl,trivial⟩,trivial⟩,trivial⟩
  ) ?_
 rintro k ⟨hk,hok⟩
 with_reducible refine wK ?_
 refine aQ.mk (fun h1=>?_) (fun h1=>?_)<;>(try simp only[aq] at h1)<;>with_reducible refine wK ?_
 ·have hk':k<ta.length:=by simp only[aL] at h1;omega
  obtain⟨⟨x1,x2,x3⟩,hx⟩:∃x,ta[k]? =some x:=⟨_,aP hk'⟩
  have N8:=N8 _ (bn hx)
  have hT:=hT ⟨x1,x2,x3⟩
  simp only at hT
  have hpd:=hpd x3
  clear h1
  have hnx:KO ⟨x1,x2,x3⟩=true→∀ (j:Nat) y,j<k+1→ta[j]? =some y→KO y=true:=fun e j y hj hy=>by
   rcases Nat.lt_or_ge j k with h6|h6
   ·exact hok j y h6 hy
   ·have:j=k:=by omega
    subst this
    rw[hx] at hy;cases hy;exact e
  generalize DO x3=g at*
  cases e:KO ⟨x1,x2,x3⟩ with
  | false=>
    rw[N8 e]
    rw[e] at hT
    clear YES hA hD hS hTd N1 N2 N3 N9 hB hok hnx N8
    cases g
    ·have hP:¬ (x1=1∧x2=0∧x3=0):=fun q=>by rw[IV.2 q] at hT;cases hT
     repeat' (first
  |refine pK ?_|refine aE ?_ ?_
  | ((first
   |((with_reducible show aQ _ _ _ _);(refine aQ.mk (fun hp=>?_) (fun hp=>?_)<;>(try simp only[aq,aL,bh,Bool.not_eq_true',Bool.not_eq_false',Decidable.not_not,Int.not_lt,Int.not_le] at hp)))
   |((with_reducible show ak _ _ _ _ _);refine ak.mk k (j0 ⟨x1,x2,x3⟩) rfl (mJ hx) ?_)
   |((with_reducible refine kQ 74 ?_);refine cL hpd zT ?_))<;>with_reducible refine wK ?_)
  | apply trivial)
     all_goals first|rfl|(exfalso;omega)
    ·have hP:¬ ((x1=1∧x2=0∧x3=0)∨(x1=2∧0≤x2)):=fun q=>by rw[G6.2 q] at hT;cases hT
     repeat' (first
  |refine pK ?_|refine aE ?_ ?_
  | ((first
   |((with_reducible show aQ _ _ _ _);(refine aQ.mk (fun hp=>?_) (fun hp=>?_)<;>(try simp only[aq,aL,bh,Bool.not_eq_true',Bool.not_eq_false',Decidable.not_not,Int.not_lt,Int.not_le] at hp)))
   |((with_reducible show ak _ _ _ _ _);refine ak.mk k (j0 ⟨x1,x2,x3⟩) rfl (mJ hx) ?_)
   |((with_reducible refine kQ 74 ?_);refine cL hpd zT ?_))<;>with_reducible refine wK ?_)
  |apply trivial)
     all_goals first|rfl|(exfalso;omega)
  | true=>
    rw[e] at hT
    have hnx:=hnx e
    clear YES hA hD hS hTd N1 N2 N3 N9 hB hok N8
    cases g
    ·have hP:=IV.1 hT.symm
     repeat' (first
  |refine pK ?_|refine aE ?_ ?_
  | ((first
   |((with_reducible show aQ _ _ _ _);(refine aQ.mk (fun hp=>?_) (fun hp=>?_)<;>(try simp only[aq,aL,bh,Bool.not_eq_true',Bool.not_eq_false',Decidable.not_not,Int.not_lt,Int.not_le] at hp)))
   |((with_reducible show ak _ _ _ _ _);refine ak.mk k (j0 ⟨x1,x2,x3⟩) rfl (mJ hx) ?_)
   |((with_reducible refine kQ 74 ?_);refine cL hpd zT ?_))<;>with_reducible refine wK ?_)
  | apply trivial)
     all_goals first
      |(exfalso;omega)
      |(refine ay.mk (k+1) ⟨by omega,hnx⟩ (by omega) (
      ⟨⟨rfl,rfl⟩,⟨⟨rfl,rfl⟩,(by show((k+1:Nat):Int)=(k:Int)+1;omega),trivial⟩,⟨⟨rfl,rfl,rfl,rfl,rfl,rfl,rfl,rfl,rfl,rfl,rfl,rfl,rfl,rfl,trivial⟩,trivial⟩,trivial⟩
      );done)
    ·have hP:=G6.1 hT.symm
     repeat' (first
  |refine pK ?_|refine aE ?_ ?_
  | ((first
   |((with_reducible show aQ _ _ _ _);(refine aQ.mk (fun hp=>?_) (fun hp=>?_)<;>(try simp only[aq,aL,bh,Bool.not_eq_true',Bool.not_eq_false',Decidable.not_not,Int.not_lt,Int.not_le] at hp)))
   |((with_reducible show ak _ _ _ _ _);refine ak.mk k (j0 ⟨x1,x2,x3⟩) rfl (mJ hx) ?_)
   |((with_reducible refine kQ 74 ?_);refine cL hpd zT ?_))<;>with_reducible refine wK ?_)
  |apply trivial)
     all_goals first
      |(exfalso;omega)
      |(refine ay.mk (k+1) ⟨by omega,hnx⟩ (by omega) (
      ⟨⟨rfl,rfl⟩,⟨⟨rfl,rfl⟩,(by show((k+1:Nat):Int)=(k:Int)+1;omega),trivial⟩,⟨⟨rfl,rfl,rfl,rfl,rfl,rfl,rfl,rfl,rfl,rfl,rfl,rfl,rfl,rfl,trivial⟩,trivial⟩,trivial⟩
      );done)
 have hK:∀x∈ta,KO x=true:=fun c hc=>by
  obtain⟨j,hj⟩:=List.getElem?_of_mem hc
  exact hok j c (by have:=(aZ hj).1;simp only[bh] at h1;omega) hj
 have hKK:=hK
 clear hK
 clear h1 hok N8 hk hT
 repeat' (first
  |refine gK ?_|refine aE ?_ ?_
  |apply trivial)
 refine aR.use G aa (fun(k:Nat)=>[(1,.ptr 10 0 0),(9,aj k)]) (fun _=>[(10,mW ⟨⟨l,m⟩,st,⟨d1,d2,d3,d4⟩,⟨a,b,c,d⟩,ta,bu,cs⟩)])
  (fun k=>k≤bu.length∧∀ (j:Nat) x,j<k→bu[j]? =some x→BO x=true) (fun k=>bu.length-k) 0 ⟨Nat.zero_le _,fun j y h=>by omega⟩
  (
  ⟨⟨rfl,rfl⟩,⟨⟨rfl,rfl⟩,rfl,trivial⟩,⟨⟨rfl,rfl,rfl,rfl,rfl,rfl,rfl,rfl,rfl,rfl,rfl,rfl,rfl,rfl,trivial⟩,trivial⟩,trivial⟩
  ) ?_
 rintro k ⟨hk,hok⟩
 with_reducible refine wK ?_
 refine aQ.mk (fun h1=>?_) (fun h1=>?_)<;>(try simp only[aq] at h1)<;>with_reducible refine wK ?_
 ·have hk':k<bu.length:=by simp only[aL] at h1;omega
  obtain⟨⟨x1,x2⟩,hx⟩:∃x,bu[k]? =some x:=⟨_,aP hk'⟩
  have N9:=N9 _ (bn hx)
  have hB:=hB ⟨x1,x2⟩
  simp only at hB
  have hpd:=hpd x1
  have hpn:=hpn x2
  clear h1
  generalize DO x1=g at*
  have hnx:BO ⟨x1,x2⟩=true→∀ (j:Nat) y,j<k+1→bu[j]? =some y→BO y=true:=fun e j y hj hy=>by
   rcases Nat.lt_or_ge j k with h6|h6
   ·exact hok j y h6 hy
   ·have:j=k:=by omega
    subst this
    rw[hx] at hy;cases hy;exact e
  cases ht:ai l x2 with
  | false=>
    rw[ht] at hpn hB
    cases g
    ·cases e:BO ⟨x1,x2⟩ with
     |true=>rw[e] at hB;cases hB
     | false=>
       rw[N9 e]
       clear YES hA hD hS hTd hKK N1 N2 N3 N9 hB hok hnx
       repeat' (first
  |refine pK ?_|refine aE ?_ ?_
  | ((first
   |((with_reducible show aQ _ _ _ _);(refine aQ.mk (fun hp=>?_) (fun hp=>?_)<;>(try simp only[aq,aL,bh,Bool.not_eq_true',Bool.not_eq_false',Decidable.not_not,Int.not_lt,Int.not_le] at hp)))
   |((with_reducible show ak _ _ _ _ _);refine ak.mk k (iV ⟨x1,x2⟩) rfl (iG hx) ?_)
   |((with_reducible refine kQ 74 ?_);first|refine cL hpd zT ?_|refine cL hpn zT ?_))<;>with_reducible refine wK ?_)
  | apply trivial)
       all_goals first|rfl|(exfalso;omega)
    ·cases e:BO ⟨x1,x2⟩ with
     | false=>
       rw[N9 e]
       rw[e] at hB
       have hP:¬ (x2=-4):=fun z'=>absurd (hB.trans (II.2 z')) (by decide)
       clear YES hA hD hS hTd hKK N1 N2 N3 N9 hB hok hnx
       repeat' (first
  |refine pK ?_|refine aE ?_ ?_
  | ((first
   |((with_reducible show aQ _ _ _ _);(refine aQ.mk (fun hp=>?_) (fun hp=>?_)<;>(try simp only[aq,aL,bh,Bool.not_eq_true',Bool.not_eq_false',Decidable.not_not,Int.not_lt,Int.not_le] at hp)))
   |((with_reducible show ak _ _ _ _ _);refine ak.mk k (iV ⟨x1,x2⟩) rfl (iG hx) ?_)
   |((with_reducible refine kQ 74 ?_);first|refine cL hpd zT ?_|refine cL hpn zT ?_))<;>with_reducible refine wK ?_)
  |apply trivial)
       all_goals first|rfl|(exfalso;omega)
     | true=>
       rw[e] at hB
       have hnx:=hnx e
       have hP:=II.1 hB.symm
       clear YES hA hD hS hTd hKK N1 N2 N3 N9 hB hok
       repeat' (first
  |refine pK ?_|refine aE ?_ ?_
  | ((first
   |((with_reducible show aQ _ _ _ _);(refine aQ.mk (fun hp=>?_) (fun hp=>?_)<;>(try simp only[aq,aL,bh,Bool.not_eq_true',Bool.not_eq_false',Decidable.not_not,Int.not_lt,Int.not_le] at hp)))
   |((with_reducible show ak _ _ _ _ _);refine ak.mk k (iV ⟨x1,x2⟩) rfl (iG hx) ?_)
   |((with_reducible refine kQ 74 ?_);first|refine cL hpd zT ?_|refine cL hpn zT ?_))<;>with_reducible refine wK ?_)
  |apply  trivial)
       all_goals first
        |(exfalso;omega)
        | (refine ay.mk (k+1) ⟨by omega,hnx⟩ (by omega) (
         ⟨⟨rfl,rfl⟩,⟨⟨rfl,rfl⟩,(by show((k+1:Nat):Int)=(k:Int)+1;omega),trivial⟩,⟨⟨rfl,rfl,rfl,rfl,rfl,rfl,rfl,rfl,rfl,rfl,rfl,rfl,rfl,rfl,trivial⟩,trivial⟩,trivial⟩
         );done)
  | true=>
    rw[ht] at hpn hB
    obtain⟨q,z,rfl,hz,hnd⟩:=aX.1 ht
    rw[hnd] at hB
    obtain⟨y0,y1,y2,y3,y4,y5,y6,y7,y8,y9⟩:=z
    simp only at hB
    cases g
    ·cases e:BO ⟨x1,(q:Int)⟩ with
     |true=>rw[e] at hB;cases hB
     | false=>
       rw[N9 e]
       clear YES hA hD hS hTd hKK N1 N2 N3 N9 hB hok hnx
       repeat' (first
  |refine pK ?_|refine aE ?_ ?_
  | ((first
   |((with_reducible show aQ _ _ _ _);(refine aQ.mk (fun hp=>?_) (fun hp=>?_)<;>(try simp only[aq,aL,bh,Bool.not_eq_true',Bool.not_eq_false',Decidable.not_not,Int.not_lt,Int.not_le] at hp)))
   |((with_reducible show ak _ _ _ _ _);first|refine ak.mk k (iV ⟨x1,(q:Int)⟩) rfl (iG hx) ?_|refine ak.mk q (aO ⟨y0,y1,y2,y3,y4,y5,y6,y7,y8,y9⟩) rfl (au hz) ?_)
   |((with_reducible refine kQ 74 ?_);first|refine cL hpd zT ?_|refine cL hpn zT ?_))<;>with_reducible refine wK ?_)
  | apply trivial)
       all_goals first|rfl|(exfalso;omega)
    ·cases e:BO ⟨x1,(q:Int)⟩ with
     | false=>
       rw[N9 e]
       rw[e] at hB
       have hP:¬ ((q:Int)=-4∨y0=1):=fun z'=>absurd (hB.trans (HW.2 z')) (by decide)
       clear YES hA hD hS hTd hKK N1 N2 N3 N9 hB hok hnx
       repeat' (first
  |refine pK ?_|refine aE ?_ ?_
  | ((first
   |((with_reducible show aQ _ _ _ _);(refine aQ.mk (fun hp=>?_) (fun hp=>?_)<;>(try simp only[aq,aL,bh,Bool.not_eq_true',Bool.not_eq_false',Decidable.not_not,Int.not_lt,Int.not_le] at hp)))
   |((with_reducible show ak _ _ _ _ _);first|refine ak.mk k (iV ⟨x1,(q:Int)⟩) rfl (iG hx) ?_|refine ak.mk q (aO ⟨y0,y1,y2,y3,y4,y5,y6,y7,y8,y9⟩) rfl (au hz) ?_)
   |((with_reducible refine kQ 74 ?_);first|refine cL hpd zT ?_|refine cL hpn zT ?_))<;>with_reducible refine wK ?_)
  |apply trivial)
       all_goals first|rfl|(exfalso;omega)
     | true=>
       rw[e] at hB
       have hnx:=hnx e
       have hP:=HW.1 hB.symm
       clear YES hA hD hS hTd hKK N1 N2 N3 N9 hB hok
       repeat' (first
  |refine pK ?_|refine aE ?_ ?_
  | ((first
   |((with_reducible show aQ _ _ _ _);(refine aQ.mk (fun hp=>?_) (fun hp=>?_)<;>(try simp only[aq,aL,bh,Bool.not_eq_true',Bool.not_eq_false',Decidable.not_not,Int.not_lt,Int.not_le] at hp)))
   |((with_reducible show ak _ _ _ _ _);first|refine ak.mk k (iV ⟨x1,(q:Int)⟩) rfl (iG hx) ?_|refine ak.mk q (aO ⟨y0,y1,y2,y3,y4,y5,y6,y7,y8,y9⟩) rfl (au hz) ?_)
   |((with_reducible refine kQ 74 ?_);first|refine cL hpd zT ?_|refine cL hpn zT ?_))<;>with_reducible refine wK ?_)
  |apply  trivial)
       all_goals first
        |(exfalso;omega)
        | (refine ay.mk (k+1) ⟨by omega,hnx⟩ (by omega) (
         ⟨⟨rfl,rfl⟩,⟨⟨rfl,rfl⟩,(by show((k+1:Nat):Int)=(k:Int)+1;omega),trivial⟩,⟨⟨rfl,rfl,rfl,rfl,rfl,rfl,rfl,rfl,rfl,rfl,rfl,rfl,rfl,rfl,trivial⟩,trivial⟩,trivial⟩
         );done)
 have hB':∀x∈bu,BO x=true:=fun c hc=>by
  obtain⟨j,hj⟩:=List.getElem?_of_mem hc
  exact hok j c (by have:=(aZ hj).1;simp only[bh] at h1;omega) hj
 have hr:=YES (by omega) (by omega) (by omega) hA hD hS hTd hKK hB'
 clear h1
 rw[hr]
 repeat' (first
  |refine gK ?_|refine aE ?_ ?_
  |apply trivial)
@[reducible] def LM (w : aH) (t : AV) : AV := .agg [fE w.f.nodes, aj w.f.most, dF w.states, o9 w.desk.defs, pC w.desk.waits, aj w.desk.next, aA w.desk.busy, ic w.line.todos, mO w.line.stack, bQ w.line.back, aA w.line.busy, t, nB w.builds, bF w.classes]
theorem BY (x:az):af Tryz.prog 89 [] [aO x] [] (cf (gY x)):=by
 have h:=OJ x.name x.is
 unfold gY
 obtain⟨y0,y1,y2,y3,y4,y5,y6,y7,y8,y9⟩:=x
 simp only at h ⊢
 by_cases e:y0=1
 ·rw[if_pos e]
  refine af.ah (rvs:=[.cell 2 75]) G aa Tryz.func89 rfl Tryz.ntmps89 rfl rfl ?_;with_reducible refine wD ?_
  (have fct:=e;(repeat' (first
  |refine gF ?_|refine aE ?_ ?_
  |(((with_reducible refine kQ 41 ?_);refine cL h TC ?_)<;>with_reducible refine wK ?_)
  |apply trivial));all_goals clear fct)
 ·rw[if_neg e]
  refine af.ah (rvs:=[.cell 2 75]) G aa Tryz.func89 rfl Tryz.ntmps89 rfl rfl ?_;with_reducible refine wD ?_
  (have fct:=(eq_false e);(repeat' (first
  |refine gF ?_|refine aE ?_ ?_
  |apply trivial));all_goals clear fct)
theorem AZ (x:az):af Tryz.prog 93 [] [aO x] [] (cf (gY x)):=by
 have h:=Lz x.name x.is
 unfold gY
 obtain⟨y0,y1,y2,y3,y4,y5,y6,y7,y8,y9⟩:=x
 simp only at h ⊢
 by_cases e:y0=1
 ·rw[if_pos e]
  refine af.ah (rvs:=[.cell 2 75]) G aa Tryz.func93 rfl Tryz.ntmps93 rfl rfl ?_;with_reducible refine wD ?_
  (have fct:=e;(repeat' (first
  |refine gF ?_|refine aE ?_ ?_
  |(((with_reducible refine kQ 161 ?_);refine cL h SC ?_)<;>with_reducible refine wK ?_)
  |apply trivial));all_goals clear fct)
 ·rw[if_neg e]
  refine af.ah (rvs:=[.cell 2 75]) G aa Tryz.func93 rfl Tryz.ntmps93 rfl rfl ?_;with_reducible refine wD ?_
  (have fct:=(eq_false e);(repeat' (first
  |refine gF ?_|refine aE ?_ ?_
  |apply trivial));all_goals clear fct)
theorem Gv (w:aH)(x:ck):af Tryz.prog 94 [] [gL x,.fptr (bk w) 0] [] (aA (!fW w x)):=by
 have h1:=tN w x.node
 have h2:=yj w x.todo
 unfold fW
 obtain⟨n,x0,x1,x2,x3,x4,x5,x6,x7,x8,x9⟩:=x
 simp only at h1 h2 ⊢
 generalize ai w.f.nodes n=g1 at*
 generalize gU w ⟨x0,x1,x2,x3,x4,x5,x6,x7,x8,x9⟩=g2 at*
 obtain⟨⟨l,m⟩,st,⟨d1,d2,d3,d4⟩,⟨a,b,c,d⟩,ta,bu,cs⟩:=w
 cases g1<;>cases g2
 all_goals
  refine af.ah (rvs:=[.tmp 3]) G aa Tryz.func94 rfl Tryz.ntmps94 rfl rfl ?_;with_reducible refine wD ?_
  repeat' (first
  |refine gK ?_|refine aE ?_ ?_
  | ((first
   |((with_reducible refine kQ 95 ?_);refine cL h1 QF ?_)
   |((with_reducible refine kQ 96 ?_);refine cL h2 SM ?_))<;>with_reducible refine wK ?_)
  |apply trivial)
  all_goals first|rfl
theorem ON {w:aH}{due:List ck}(R:cN w)(h:∀d∈due,fW w d=true)(k:Nat):cN (cj w (due.take k)):=yN _ w R fun d hd=>h d (List.mem_of_mem_take hd)
theorem Jv {w:aH}{due:List ck}(R:cN w)(h:∀d∈due,fW w d=true){k:Nat}{x:ck}(hx:due[k]? =some x):(sV (cj w (due.take k)).line&&ik (cj w (due.take k)).line x.node)=true:=by
 have R2:=ON R h k
 rw[R2.ln,EB R2,Bool.true_and,yT]
 have:=h x (bn hx)
 unfold fW at this
 rw[aT] at this
 exact this.1
theorem pH (w:aH)(due:List ck):(cj w due).tasks.length≤w.tasks.length+1:=by
 rw[tw,jg]
 split<;>simp
theorem oL (w:aH)(hs:cW w)(due:List ck)(hd:due.length≤5000)(R:cN w)(hdue:∀d∈due,fW w d=true):af Tryz.prog 98 [mW w] [.ptr 0 0 0,dX due] [mW (cj w due)] (.tup []):=by
 have hcl:=CW w.tasks (by have:=hs.ta;omega)
 obtain⟨L,hL⟩:∃L:Nat→cq,L=fun k=>(cj w (due.take k)).line:=⟨_,rfl⟩
 obtain⟨T,hT⟩:∃T:Nat→List gT,T=fun k=>(cj w (due.take k)).tasks:=⟨_,rfl⟩
 have hadd:∀ (k:Nat) x,due[k]? =some x→af Tryz.prog 165 [] [eT (L k),aj x.node,fR x.todo] [] (.tup [eT (L (k+1)),aA (fA (L k)),aj 0]):=fun k x hx=>by
  have hk:=(aZ hx).1
  have:=IG (L k) (by rw[hL];exact(wZ _ w 90000 hs.l).mono (by rw[jD];omega)) x.node x.todo
  rw[BM (by rw[hL];exact Jv R hdue hx)] at this
  have e:L (k+1)=gu (L k) x.node x.todo:=by rw[hL];show(cj w (due.take (k+1))).line=_;rw[sv hx];rfl
  rw[e];exact this
 have hTs:∀ (k:Nat) x,due[k]? =some x→T (k+1)=if fA (L k)=true then T k++ [jn] else T k:=fun k x hx=>by
  rw[hT,hL];show(cj w (due.take (k+1))).tasks=_;rw[sv hx];rfl
 have hTl:∀k,(T k).length≤90001:=fun k=>by
  rw[hT];have:=pH w (due.take k);have:=hs.ta;show(cj w (due.take k)).tasks.length≤_;omega
 have hL0:L 0=w.line:=by rw[hL];rfl
 have hT0:T 0=w.tasks:=by rw[hT];rfl
 have hend:cj w due={w with line:=L due.length,tasks:=T due.length}:=by
  rw[hL,hT]
  simp only[List.take_length]
  have e1:=yT due w
  have e2:=kR due w
  have e3:=oD due w
  have e4:=nv due w
  have e5:=gH due w
  generalize cj w due=v at*
  obtain⟨v1,v2,v3,v4,v5,v6,v7⟩:=v
  simp only at e1 e2 e3 e4 e5
  subst e1;subst e2;subst e3;subst e4;subst e5;rfl
 rw[hend]
 clear hend hL hT
 have hdm:(due.map fU).length=due.length:=aM ..
 obtain⟨⟨l,m⟩,st,⟨d1,d2,d3,d4⟩,⟨a,b,c,d⟩,ta,bu,cs⟩:=w
 simp only at hcl hL0 hT0 ⊢
 refine af.ah (rvs:=[]) G aa Tryz.func98 rfl Tryz.ntmps98 rfl rfl ?_;with_reducible refine wD ?_
 repeat' (first
  |refine gK ?_|refine aE ?_ ?_
  |(((with_reducible refine kQ 164 ?_);refine aD.new 151 [] hcl Rv ⟨rfl,trivial⟩ rfl rfl rfl (CZ _) rfl ?_)<;>with_reducible refine wK ?_)
  |apply trivial)
 refine aR.use G aa (fun(k:Nat)=>[(0,.ptr 0 0 0),(19,dX due),(20,aj due.length),(21,aj k)])
  (fun k=>[(0,.live 14 [LM ⟨⟨l,m⟩,st,⟨d1,d2,d3,d4⟩,L k,ta,bu,cs⟩ (.own 151 0 (T k).length)] false),(151,C8 (T k))])
  (fun k=>k≤due.length) (fun k=>due.length-k) 0 (Nat.zero_le _) ?_ ?_
 ·rw[hL0,hT0]
  (refine fK ?_;(with_reducible repeat' (first|exact trivial|(show _∧_;refine aK ?_ ?_)));(all_goals try rfl))
  all_goals first
   |(show(due.length:Int)=_;rw[hdm])
   |exact⟨.refl (eR _),eR _⟩
 intro k hk
 with_reducible refine wK ?_
 refine aQ.mk (fun h1=>?_) (fun h1=>?_)<;>(try simp only[aq] at h1)<;>with_reducible refine wK ?_
 ·have hk':k<due.length:=by simp only[aL] at h1;omega
  obtain⟨x,hx⟩:∃x,due[k]? =some x:=⟨_,aP hk'⟩
  have hadd:=hadd k x hx
  have hTs:=hTs k x hx
  have hTl:=hTl k
  clear h1
  obtain⟨n,x0,x1,x2,x3,x4,x5,x6,x7,x8,x9⟩:=x
  generalize hLn:L (k+1)=L2 at*
  generalize hTn:T (k+1)=T2 at*
  simp only at hadd
  cases ht:fA (L k) with
  | false=>
    rw[ht] at hadd hTs
    rw[if_neg (by simp)] at hTs
    repeat' (first
  |refine gK ?_|refine aE ?_ ?_
  | ((first
   |((with_reducible show ak _ _ _ _ _);refine ak.mk k (gL ⟨n,⟨x0,x1,x2,x3,x4,x5,x6,x7,x8,x9⟩⟩) rfl (oK hx) ?_)
   |((with_reducible refine kQ 165 ?_);refine cV hadd PO ?_))<;>with_reducible refine wK ?_)
  | apply trivial)
    refine ay.mk (k+1) (by omega) (by omega) ?_
    rw[hLn,hTn,hTs]
    (refine fK ?_;(with_reducible repeat' (first|exact trivial|(show _∧_;refine aK ?_ ?_)));(all_goals try rfl))
    all_goals first
     |exact⟨.refl (eR _),eR _⟩
     |(simp;done)
  | true=>
    rw[ht] at hadd hTs
    rw[if_pos rfl] at hTs
    have htm:((T k).map dO).length=(T k).length:=aM ..
    have e3:(T k).map dO++ [j0 jn]=T2.map dO:=by rw[hTs,fO];rfl
    have e4:T2.length=(T k).length+1:=by rw[hTs];simp
    repeat' (first
  |refine gK ?_|refine aE ?_ ?_
  | ((first
   |((with_reducible show ak _ _ _ _ _);refine ak.mk k (gL ⟨n,⟨x0,x1,x2,x3,x4,x5,x6,x7,x8,x9⟩⟩) rfl (oK hx) ?_)
   |((with_reducible refine kQ 165 ?_);refine cV hadd PO ?_)
   |((with_reducible show cC _ _ _ _ _ _ _ _ _ _);refine cC.mk ((T k).map dO) [j0 jn] ⟨rfl,htm.symm,rfl⟩ ⟨rfl,rfl,rfl⟩ rfl (by simp;omega) (by simp;omega) ?_))<;>with_reducible refine wK ?_)
  | apply trivial)
    refine ay.mk (k+1) (by omega) (by omega) ?_
    rw[hLn,hTn,e4,e3]
    (refine fK ?_;(with_reducible repeat' (first|exact trivial|(show _∧_;refine aK ?_ ?_)));(all_goals try rfl))
    all_goals first
     |exact⟨.refl (eR _),eR _⟩
     |(rw[aM,e4];done)
     |(simp;done)
 ·have hjl:k=due.length:=by simp only[bh] at h1;omega
  subst hjl
  clear h1
  repeat' (first
  |refine gK ?_|refine aE ?_ ?_
  |apply trivial)
  all_goals first
   |exact xU rfl rfl rfl rfl
theorem qN {w:aH}{due:List ck}(h:eV w due=false):lu w due=(w,1):=by unfold lu;rw[h];rfl
theorem tZ {w:aH}{due:List ck}(h:eV w due=true):lu w due=(cj w due,0):=by unfold lu;rw[h];rfl
theorem nh (w:aH)(hs:cW w)(due:List ck)(hd:due.length≤5000):af Tryz.prog 31 [] [bk w,dX due] [] (.tup [bk (lu w due).1,aj (lu w due).2]):=by
 have h75:=qP w hs
 have hnr:aU [AV.fptr (bk w) 0]=true:=rfl
 have hcf:=MY 94 TB [.fptr (bk w) 0] hnr (fun x=> !fW w x) due (by omega) (fun x _=>Gv w x)
 have hen:=fun R h=>oL w hs due hd R h
 cases e1:cF w with
 | false=>
   rw[e1] at h75
   rw[qN (by unfold eV;rw[e1];rfl)]
   clear hen hcf
   obtain⟨⟨l,m⟩,st,⟨d1,d2,d3,d4⟩,⟨a,b,c,d⟩,ta,bu,cs⟩:=w
   refine af.ah (rvs:=[.cell 4 39,.tmp 5]) G aa Tryz.func31 rfl Tryz.ntmps31 rfl rfl ?_;with_reducible refine wD ?_
   repeat' (first
  |refine gK ?_|refine aE ?_ ?_
  |(((with_reducible refine kQ 75 ?_);refine cL h75 Nt ?_)<;>with_reducible refine wK ?_)
  |apply trivial)
 | true=>
   rw[e1] at h75
   cases e2:(due.any fun x=> !fW w x) with
   | true=>
     rw[e2] at hcf
     rw[qN (by unfold eV;rw[e2,e1];rfl)]
     clear hen
     obtain⟨⟨l,m⟩,st,⟨d1,d2,d3,d4⟩,⟨a,b,c,d⟩,ta,bu,cs⟩:=w
     refine af.ah (rvs:=[.cell 4 39,.tmp 5]) G aa Tryz.func31 rfl Tryz.ntmps31 rfl rfl ?_;with_reducible refine wD ?_
     repeat' (first
  |refine gK ?_|refine aE ?_ ?_
  | ((first
   |((with_reducible refine kQ 75 ?_);refine cL h75 Nt ?_)
   |((with_reducible refine kQ 97 ?_);refine aD.lit [60] hcf SY ⟨rfl,⟨rfl,trivial,⟨_,_,_,_,_,rfl,rfl,rfl,rfl,rfl,⟨rfl,rfl,rfl,rfl,rfl,rfl,rfl,rfl,rfl,rfl,rfl,rfl,rfl,rfl,trivial⟩⟩,trivial⟩,trivial⟩ rfl rfl ?_))<;>with_reducible refine wK ?_)
  | apply trivial)
   | false=>
     rw[e2] at hcf
     have ok:eV w due=true:=by unfold eV;rw[e2,e1];rfl
     rw[tZ ok]
     have hen:=hen (j6.1 ok).1 (j6.1 ok).2
     clear ok e1 e2
     generalize cj w due=v at*
     obtain⟨⟨l,m⟩,st,⟨d1,d2,d3,d4⟩,⟨a,b,c,d⟩,ta,bu,cs⟩:=w
     obtain⟨⟨l',m'⟩,st',⟨d1',d2',d3',d4'⟩,⟨a',b',c',d'⟩,ta',bu',cs'⟩:=v
     refine af.ah (rvs:=[.cell 4 39,.tmp 5]) G aa Tryz.func31 rfl Tryz.ntmps31 rfl rfl ?_;with_reducible refine wD ?_
     repeat' (first
  |refine gK ?_|refine aE ?_ ?_
  | ((first
   |((with_reducible refine kQ 75 ?_);refine cL h75 Nt ?_)
   |((with_reducible refine kQ 97 ?_);refine aD.lit [60] hcf SY ⟨rfl,⟨rfl,trivial,⟨_,_,_,_,_,rfl,rfl,rfl,rfl,rfl,⟨rfl,rfl,rfl,rfl,rfl,rfl,rfl,rfl,rfl,rfl,rfl,rfl,rfl,rfl,trivial⟩⟩,trivial⟩,trivial⟩ rfl rfl ?_)
   |((with_reducible refine kQ 98 ?_);refine aD.lR (news:=[mW ⟨⟨l',m'⟩,st',⟨d1',d2',d3',d4'⟩,⟨a',b',c',d'⟩,ta',bu',cs'⟩]) [60] [] hen Sr ⟨⟨rfl,rfl⟩,rfl,trivial⟩ ⟨⟨rfl,.inr ⟨⟨⟨rfl,rfl,rfl,rfl,rfl,rfl,rfl,rfl,rfl,rfl,rfl,rfl,rfl,rfl,trivial⟩,trivial⟩,rfl⟩⟩,trivial⟩ rfl ⟨⟨rfl,rfl⟩,rfl⟩ rfl ⟨⟨rfl,.inr ⟨rfl,rfl,rfl⟩⟩,trivial⟩ rfl rfl ?_))<;>with_reducible refine wK ?_)
  |apply trivial)
theorem FC (l:cq)(h1:l.todos.length≤100000)(k:Nat)(hk:k<l.todos.length)(t:List bw):af Tryz.prog 166 [] [eT l,aj k,cJ t] [] (eT ⟨l.todos.set k t,l.stack,l.back,l.busy⟩):=by
 obtain⟨a,b,c,d⟩:=l
 simp only at h1 hk ⊢
 have ham:(a.map bO).length=a.length:=aM ..
 have e1:(a.map bO).set (0+k) (cJ t)=(a.set k t).map bO:=by rw[Nat.zero_add,List.map_set];rfl
 obtain⟨y,hy⟩:∃y,a[k]? =some y:=⟨_,aP hk⟩
 refine af.ah (rvs:=[.cell 6 34]) G aa Tryz.func166 rfl Tryz.ntmps166 rfl rfl ?_;with_reducible refine wD ?_
 repeat' (first
  |refine gK ?_|refine aE ?_ ?_
  | ((first
   |((with_reducible show cC _ _ _ _ _ _ _ _ _ _);refine cC.mk [] (a.map bO) ⟨rfl,rfl,rfl⟩ ⟨rfl,rfl,rfl⟩ (dA bO (fun _=>rfl) a) (by simp;omega) (by simp;omega) ?_)
   |((with_reducible show qb _ _ _ _ _);refine qb.mk k rfl (by first|exact hk|(simp;omega)) ?_)
   |((with_reducible show dc _ _ _ _ _);refine dc.mk (cJ y) (by first|exact cM hy|(rw[Nat.zero_add];exact cM hy)) ?_))<;>with_reducible refine wK ?_)
  |apply trivial)
 all_goals first
  |exact DU rfl rfl e1 (by simp)
theorem s5 (l:cq)(h1:l.todos.length≤100000):af Tryz.prog 79 [] [eT l] [] (eT (jN l)):=by
 unfold jN
 obtain⟨a,b,c,d⟩:=l
 simp only at h1 ⊢
 have ham:(a.map bO).length=a.length:=aM ..
 refine af.ah (rvs:=[.cell 2 34]) G aa Tryz.func79 rfl Tryz.ntmps79 rfl rfl ?_;with_reducible refine wD ?_
 refine cC.mk [] (a.map bO) ⟨rfl,rfl,rfl⟩ ⟨rfl,rfl,rfl⟩ (dA bO (fun _=>rfl) a) (by simp;omega) (by simp;omega) ?_;with_reducible refine wK ?_
 repeat' (first
  |refine gK ?_|refine aE ?_ ?_
  |(((with_reducible show cC _ _ _ _ _ _ _ _ _ _);refine cC.mk (a.map bO) [.own 71 0 0] ⟨rfl,by simp,rfl⟩ ⟨rfl,rfl,rfl⟩ rfl (by simp;omega) (by simp;omega) ?_)<;>with_reducible refine wK ?_)
  |apply trivial)
 all_goals first
  |exact xb bO (y:=[]) rfl rfl rfl (by simp) cE (pI rfl rfl rfl rfl)
theorem Hl (l:cq)(hs:rF 98000 l)(n:Int)(hi:ik l n=true)(t:bw):af Tryz.prog 99 [] [eT l,aj n,fR t] [] (.tup [eT (gu l n t),aA (fA l)]):=by
 obtain⟨k,y,rfl,hk,hy,htd⟩:=DW hi
 have hyl:=hs.todo y (bn hy)
 have hw:=FC l (by have:=hs.todos;omega) k hk (y++ [t])
 have hbl:=hs.stack
 have hcl:=hs.back
 have hst:=hs.list
 unfold gu fA
 rw[htd,Int.toNat_natCast]
 obtain⟨a,b,c,d⟩:=l
 obtain⟨x0,x1,x2,x3,x4,x5,x6,x7,x8,x9⟩:=t
 simp only at hk hy hbl hcl hst hw ⊢
 have hcm:(c.map bB).length=c.length:=aM ..
 have hbm:(b.map dJ).length=b.length:=aM ..
 have hym:(y.map ef).length=y.length:=aM ..
 have e3:y.map ef++ [fR ⟨x0,x1,x2,x3,x4,x5,x6,x7,x8,x9⟩]=(y++ [(⟨x0,x1,x2,x3,x4,x5,x6,x7,x8,x9⟩:bw)]).map ef:=by rw[fO];rfl
 refine af.ah (rvs:=[.cell 6 34,.tmp 7]) G aa Tryz.func99 rfl Tryz.ntmps99 rfl rfl ?_;with_reducible refine wD ?_
 repeat' (first
  |refine gK ?_|refine aE ?_ ?_
  |(((with_reducible show ak _ _ _ _ _);refine ak.mk k (cJ y) rfl (cM hy) ?_)<;>with_reducible refine wK ?_)
  |apply trivial)
 refine cC.mk [] (y.map ef) ⟨rfl,rfl,rfl⟩ ⟨rfl,rfl,rfl⟩ (dA ef (fun _=>rfl) y) (by simp;omega) (by simp;omega) ?_;with_reducible refine wK ?_
 repeat' (first
  |refine gK ?_|refine aE ?_ ?_
  |(((with_reducible show cC _ _ _ _ _ _ _ _ _ _);refine cC.mk (y.map ef) [fR ⟨x0,x1,x2,x3,x4,x5,x6,x7,x8,x9⟩] ⟨rfl,by simp,rfl⟩ ⟨rfl,rfl,rfl⟩ rfl (by simp;omega) (by simp;omega) ?_)<;>with_reducible refine wK ?_)
  |apply trivial)
 refine aD.val [221] hw Rl ⟨⟨rfl,rfl,rfl,rfl,trivial⟩,rfl,pI rfl rfl e3 (by simp),trivial⟩ rfl rfl rfl ?_;with_reducible refine wK ?_
 by_cases hb:b=[]
 ·subst hb
  rw[if_pos rfl]
  have e4:c.map bB++ [aj k]=(c++ [(k:Int)]).map bB:=by rw[fO];rfl
  repeat' (first
  |refine gK ?_|refine aE ?_ ?_
  |apply trivial)
  refine cC.mk [] (c.map bB) ⟨rfl,rfl,rfl⟩ ⟨rfl,rfl,rfl⟩ (dA bB (fun _=>rfl) c) (by simp;omega) (by simp;omega) ?_;with_reducible refine wK ?_
  repeat' (first
  |refine gK ?_|refine aE ?_ ?_
  |(((with_reducible show cC _ _ _ _ _ _ _ _ _ _);refine cC.mk (c.map bB) [aj k] ⟨rfl,by simp,rfl⟩ ⟨rfl,rfl,rfl⟩ rfl (by simp;omega) (by simp;omega) ?_)<;>with_reducible refine wK ?_)
  |apply trivial)
  all_goals first
   |exact eM rfl rfl e4 (by simp)
   |(simp;done)
 ·rw[if_neg hb]
  obtain⟨q,hq⟩:∃q,b.length=q+1:=⟨b.length-1,by have:=List.length_pos_iff.2 hb;omega⟩
  obtain⟨s,hs2⟩:∃s,b[q]? =some s:=⟨_,aP (by omega)⟩
  have hsl:=hst s (bn hs2)
  have hsm:(s.map bB).length=s.length:=aM ..
  have e0:decide (((b.map dJ).length:Int)=0)=false:=aS (by omega)
  rw[yH hq hs2,hq,Nat.add_sub_cancel,aS hb,Bool.false_and]
  have e4:s.map bB++ [aj k]=(s++ [(k:Int)]).map bB:=by rw[fO];rfl
  repeat' (first
  |refine gK ?_|refine aE ?_ ?_
  |apply trivial)
  refine cC.mk [] (b.map dJ) ⟨rfl,rfl,rfl⟩ ⟨rfl,rfl,rfl⟩ (dA dJ (fun _=>rfl) b) (by simp;omega) (by simp;omega) ?_;with_reducible refine wK ?_
  repeat' (first
  |refine gK ?_|refine aE ?_ ?_
  |apply trivial)
  have e5:((([]:List AV)++b.map dJ).length:Int)-1=(q:Int):=by rw[List.nil_append];omega
  rw[e5]
  repeat' (first
  |refine gK ?_|refine aE ?_ ?_
  | ((first
   |((with_reducible show qb _ _ _ _ _);refine qb.mk q rfl (by simp;omega) ?_)
   |((with_reducible show dc _ _ _ _ _);refine dc.mk (bQ s) (by first|exact gM hs2|(rw[Nat.zero_add];exact gM hs2)) ?_))<;>with_reducible refine wK ?_)
  |apply trivial)
  refine cC.mk [] (s.map bB) ⟨rfl,rfl,rfl⟩ ⟨rfl,rfl,rfl⟩ (dA bB (fun _=>rfl) s) (by simp;omega) (by simp;omega) ?_;with_reducible refine wK ?_
  repeat' (first
  |refine gK ?_|refine aE ?_ ?_
  | ((first
   |((with_reducible show qb _ _ _ _ _);refine qb.mk q rfl (by simp;omega) ?_)
   |((with_reducible show dc _ _ _ _ _);refine dc.mk (bQ s) (by first|exact gM hs2|(rw[Nat.zero_add];exact gM hs2)) ?_)
   |((with_reducible show cC _ _ _ _ _ _ _ _ _ _);refine cC.mk (s.map bB) [aj k] ⟨rfl,by simp,rfl⟩ ⟨rfl,rfl,rfl⟩ rfl (by simp;omega) (by simp;omega) ?_))<;>with_reducible refine wK ?_)
  |apply trivial)
  all_goals first
   |exact uJ dJ (y:=s++ [_]) rfl rfl (by rw[Nat.zero_add];rfl) (by omega) (by simp) ej (eM rfl rfl e4 (by simp))
   |(simp;done)
end Go.Proofs.Heir
namespace Go.Proofs.Heir
open Go Go.Am Go.RowKit Go.Lib
set_option maxRecDepth 100000
set_option maxHeartbeats 8000000
set_option maxHeartbeats 8000000
theorem gz {w:aH}{f:ForM}:dH w f=true↔f.most=w.f.most∧w.f.nodes.length≤f.nodes.length∧∀ (n:Nat) (x y:az),w.f.nodes[n]? =some x→f.nodes[n]? =some y→y.kind=x.kind:=by
 unfold dH
 rw[aT,aT,aL,aL,List.all_eq_true]
 constructor
 ·rintro⟨⟨h1,h2⟩,h3⟩
  refine⟨h1,h2,fun n x y hx hy=>?_⟩
  have:=h3 n (List.mem_range.2 (aZ hx).1)
  rwa [aL,dw hx,dw hy] at this
 ·rintro⟨h1,h2,h3⟩
  refine⟨⟨h1,h2⟩,fun n hn=>?_⟩
  rw[List.mem_range] at hn
  have hx:w.f.nodes[n]? =some w.f.nodes[n]:=aP hn
  have hy:f.nodes[n]? =some f.nodes[n]:=aP (by omega)
  rw[aL,dw hx,dw hy];exact h3 n _ _ hx hy
theorem De (w:aH)(f:ForM):(aY w f).states=w.states++ (f.nodes.drop w.f.nodes.length).map gY:=by
 show w.states++ ((f.nodes.drop w.f.nodes.length).take _).map gY=_
 rw[jH (by rw[List.length_drop];exact Nat.le_refl _)]
theorem J4 {w:aH}{f:ForM}{n:Nat}(h:n<w.states.length):(aY w f).states[n]? =w.states[n]? :=by rw[De,List.getElem?_append_left h]
theorem Mj {w:aH}{f:ForM}(hl:w.states.length=w.f.nodes.length){n:Nat}{x:az}(h:w.states.length≤n)(hx:f.nodes[n]? =some x):(aY w f).states[n]? =some (gY x):=by
 rw[De,List.getElem?_append_right h,dM,List.getElem?_drop,hl,show w.f.nodes.length+ (n-w.f.nodes.length)=n from by omega,hx];rfl
theorem JZ {w:aH}{f:ForM}(hl:w.states.length=w.f.nodes.length)(hf:w.f.nodes.length≤f.nodes.length):(aY w f).states.length=f.nodes.length:=by
 rw[De,jg,aM,List.length_drop];omega
theorem DF (s i:ByteArray):tQ s i=0∨tQ s i=1:=by unfold tQ;split<;>simp
theorem ze {w:aH}{f:ForM}(R:cN w)(hf:bf f=true)(hw:dH w f=true):cN (aY w f):=by
 obtain⟨h1,h2,h3⟩:=gz.1 hw
 have sl:=R.sl
 have tl:=R.tl
 have tm:∀m,ai w.f.nodes m=true→ai f.nodes m=true:=fun m hm=>by
  unfold ai at hm ⊢
  simp only[aT,aL] at hm ⊢
  omega
 refine⟨?_,?_,R.cl,hf,R.rd,?_,?_,?_,R.ta,?_⟩
 ·exact JZ sl h2
 ·show(w.line.todos++List.replicate _ []).length=f.nodes.length
  rw[jg,List.length_replicate];omega
 ·have hn:=R.ln
  unfold sV at hn ⊢
  rw[aT,List.all_eq_true,List.all_eq_true] at hn ⊢
  have im:∀m,ik w.line m=true→ik (aY w f).line m=true:=fun m hm=>by
   unfold ik at hm ⊢
   show(_&&decide (m< ((w.line.todos++List.replicate _ []).length:Int)))=true
   rw[jg]
   simp only[aT,aL] at hm ⊢
   omega
  refine⟨fun s hs=>?_,fun m hm=>im m (hn.2 m hm)⟩
  rw[List.all_eq_true]
  exact fun m hm=>im m ((List.all_eq_true.1 (hn.1 s hs)) m hm)
 ·intro n x s hx hs
  have hx:f.nodes[n]? =some x:=hx
  by_cases hn:n<w.states.length
  ·rw[J4 hn] at hs
   have hy:w.f.nodes[n]? =some w.f.nodes[n]:=aP (by omega)
   have h:=R.st n _ s hy hs
   have hk:=h3 n _ x hy hx
   unfold gy at h ⊢
   rw[hk]
   split at h
   ·rename_i e
    rw[if_pos e]
    rw[aT,dW] at h ⊢
    exact⟨h.1.imp id (tm _),h.2⟩
   ·rename_i e
    rw[if_neg e];exact h
  ·rw[Mj sl (by omega) hx] at hs
   have e:=Option.some.inj hs
   subst e
   unfold gy gY
   by_cases e:x.kind=1
   ·rw[if_pos e,if_pos e]
    rcases DF x.name x.is with q|q<;>rw[q]<;>simp
   ·rw[if_neg e,if_neg e];rfl
 ·intro l hl t ht
  have hl:l∈w.line.todos++List.replicate _ []:=hl
  rcases List.mem_append.1 hl with e|e
  ·exact R.td l e t ht
  ·rw[(List.mem_replicate.1 e).2] at ht;cases ht
 ·intro b hb
  have h:=R.bu b hb
  unfold jo at h ⊢
  rw[aT,dW] at h ⊢
  refine⟨h.1,h.2.imp id fun q=>?_⟩
  unfold elemV at q ⊢
  rw[aT] at q ⊢
  obtain⟨i,x,hi,hx,hxe⟩:=aX.1 q.1
  have hil:=(aZ hx).1
  have hy:f.nodes[i]? =some f.nodes[i]:=aP (by omega)
  refine⟨tm _ q.1,?_⟩
  rw[hi]
  show decide ((nd f.nodes (i:Int)).kind=1)=true
  rw[dw hy,h3 i x _ hx hy,←hxe];exact q.2
theorem MC {f:ForM}{n:Int}{d:bj}(h:mC f n d≠-1):0≤mC f n d∧mC f n d< (d.defs.length:Int):=by
 unfold mC at h ⊢
 split at h
 ·rename_i e
  rw[if_pos e]
  unfold mg at h ⊢
  split at h
  ·rename_i e2
   rw[if_pos e2]
   unfold findD at h ⊢
   split at h
   ·rename_i e3
    rw[if_pos e3]
    rcases o8 d.defs (nd f.nodes n).name (nd f.nodes n).is with q|⟨k,x,q,hk,_⟩
    ·exact absurd q.1 h
    ·have:=(aZ hk).1
     omega
   ·exact absurd rfl h
  ·exact absurd rfl h
 ·exact absurd rfl h
theorem JY {w:aH}(R:cN w)(ns:List dP):∀d∈cO w.f w.states w.desk w.classes ns,fW w d=true:=by
 intro d hd
 unfold cO at hd
 split at hd
 ·obtain⟨x,_,hx⟩:=List.mem_flatMap.1 hd
  rcases GA R.sl x (d:=w.desk) (cs:=w.classes) with e|⟨i,s,y,hi,hs,hy,hk,e,ha⟩
  ·rw[e] at hx;cases hx
  ·rw[e] at hx
   rw[iw.1 hx]
   unfold fW gU kq
   rw[aT,dW,aT,aT,aT]
   simp only[aL]
   refine⟨by rw[hi];exact cw hy,?_⟩
   rcases DQ ha with⟨_,_,h3,h4⟩|⟨_,h2,_,_,_,h5,h6⟩
   ·rw[h4];exact .inr ⟨rfl,MC h3⟩
   ·rw[h2];exact .inl ⟨h5,by show x.kind<9;omega⟩
 ·cases hd
theorem B9 {w:aH}{c:aI}{n:Int}{t:bw}(hn:ai w.f.nodes n=true)(ht:gU w t=true):∀d∈jl c n t,fW w d=true:=by
 intro d hd
 unfold jl at hd
 split at hd
 ·rw[iw.1 hd];unfold fW;rw[hn,ht];rfl
 ·cases hd
theorem FL {w:aH}(R:cN w):∀d∈fJ w.f w.states w.desk w.classes,fW w d=true:=by
 intro d hd
 unfold fJ at hd
 split at hd
 ·unfold Jz at hd
  obtain⟨n,hn,hd⟩:=List.mem_flatMap.1 hd
  rw[List.mem_range] at hn
  have ht:ai w.f.nodes (n:Int)=true:=by have:=R.sl;unfold ai;simp;omega
  unfold vY at hd
  split at hd
  ·rcases List.mem_append.1 hd with e|e
   ·split at e
    ·cases e
    ·exact B9 ht (by rfl) d e
   ·split at e
    ·cases e
    ·exact B9 ht (by rfl) d e
  ·cases hd
 ·cases hd
theorem D9 {w:aH}(R:cN w):iO w.f w.states w.desk=true:=by unfold iO;rw[aV R.sl,R.rf,R.rd];rfl
theorem DB {w:aH}(R:cN w):cN {w with states:=dg w.f w.states w.desk w.classes}:=by
 refine⟨by rw[←R.sl];exact rT,R.tl,R.cl,R.rf,R.rd,R.ln,?_,R.td,R.ta,R.bu⟩
 intro n x s hx hs
 have hx:w.f.nodes[n]? =some x:=hx
 have hs:(dg w.f w.states w.desk w.classes)[n]? =some s:=hs
 have hn:n<w.states.length:=by have:=(aZ hx).1;have:=R.sl;omega
 rw[HS (D9 R) hn] at hs
 have e:=Option.some.inj hs
 subst e
 have hg:w.states[n]? =some w.states[n]:=aP hn
 have h:=R.st n x _ hx hg
 rw[NI hg]
 unfold qj
 split
 ·rename_i hd
  unfold jY at hd
  simp only[aT,aL] at hd
  have hk:x.kind=1:=by have:=hd.2;rwa [dw hx] at this
  unfold gy at h ⊢
  rw[if_pos hk] at h ⊢
  rw[aT] at h ⊢
  refine⟨?_,h.2⟩
  rw[dW,aL]
  by_cases q:iT w.f.nodes (n:Int)=-1
  ·exact .inl q
  ·exact .inr (IX (gO R.rf) (cw hx) q).1
 ·exact h
theorem Dk {w:aH}{f:ForM}:kV w f=true↔cN w∧bf f=true∧dH w f=true:=by
 unfold kV;rw[aT,aT,ir,and_assoc]
theorem CE (w:aH)(f:ForM)(ns:List dP):∃r,(kK w f ns).tasks=w.tasks++r∧r.length≤1:=by
 unfold kK
 rw[tw]
 show ∃r,(cj (aY w f) (cO f (aY w f).states w.desk w.classes ns)).tasks++_=w.tasks++r∧_
 rw[tw]
 show ∃r,w.tasks++_++_=w.tasks++r∧_
 rw[List.append_assoc]
 refine⟨_,rfl,?_⟩
 by_cases h:cO f (aY w f).states w.desk w.classes ns=[]
 ·rw[if_neg (fun q=>q.1 h),List.nil_append];split<;>simp
 ·have:=Hu _ (aY w f) h
  rw[jg]
  have l1:∀ (p:Prop) [Decidable p],(if p then[jn] else[]).length≤1:=fun p _=>by split<;>simp
  have l2:∀ (p:Prop) [Decidable p],¬p→(if p then[jn] else[]).length=0:=fun p _ hp=>by rw[if_neg hp];rfl
  refine Nat.le_trans (Nat.add_le_add (l1 _) (Nat.le_of_eq (l2 _ ?_))) (by decide)
  intro q
  have q2:fA (cj (aY w f) (cO f (aY w f).states w.desk w.classes ns)).line=true:=q.2
  rw[this] at q2;cases q2
theorem IW {w:aH}{f:ForM}(R:cN w)(hf:bf f=true)(hw:dH w f=true):iO f (aY w f).states w.desk=true:=D9 (ze R hf hw)
end Go.Proofs.Heir
namespace Go.Proofs.Heir
open Go Go.Am Go.RowKit Go.Lib
set_option maxRecDepth 100000
set_option maxHeartbeats 8000000
@[reducible] def zW : AV := .agg [.lit (.slice none 0 0), aj 0, .lit (.slice none 0 0), .lit (.slice none 0 0), .lit (.slice none 0 0), aj 0, aA false, .lit (.slice none 0 0), .lit (.slice none 0 0), .lit (.slice none 0 0), aA false, .lit (.slice none 0 0), .lit (.slice none 0 0), .lit (.slice none 0 0)]
@[reducible] def mZ : MS := .live 14 [zW] false
theorem ru (w:aH)(hs:cW w)(due:List ck)(hd:due.length≤5000)(R:cN w)(hdue:∀d∈due,fW w d=true):af Tryz.prog 32 [] [bk w,dX due] [] (bk (cj w due)):=by
 obtain⟨V,hV⟩:∃V:Nat→aH,V=fun k=>cj w (due.take k):=⟨_,rfl⟩
 have hadd:∀ (k:Nat) x,due[k]? =some x→af Tryz.prog 99 [] [eT (V k).line,aj x.node,fR x.todo] [] (.tup [eT (V (k+1)).line,aA (fA (V k).line)]):=fun k x hx=>by
  have hk:=(aZ hx).1
  have h2:=Jv R hdue hx
  rw[aT] at h2
  have:=Hl (V k).line (by rw[hV];exact(wZ _ w 90000 hs.l).mono (by rw[jD];omega)) x.node (by rw[hV];exact h2.2) x.todo
  have e:(V (k+1)).line=gu (V k).line x.node x.todo:=by rw[hV];show(cj w (due.take (k+1))).line=_;rw[sv hx];rfl
  rw[e];exact this
 have hstep:∀ (k:Nat) x,due[k]? =some x→V (k+1)={V k with line:=(V (k+1)).line,tasks:=if fA (V k).line=true then(V k).tasks++ [jn] else(V k).tasks}:=fun k x hx=>by
  have:V (k+1)=Bj (V k) x:=by rw[hV];exact sv hx
  rw[this];rfl
 have hTl:∀k,(V k).tasks.length≤90001:=fun k=>by
  rw[hV];have:=pH w (due.take k);have:=hs.ta;show(cj w (due.take k)).tasks.length≤_;omega
 have hV0:V 0=w:=by rw[hV];rfl
 have hend:cj w due=V due.length:=by rw[hV];show _=cj w (due.take due.length);rw[List.take_length]
 rw[hend]
 clear hend hV R hdue hs
 have hdm:(due.map fU).length=due.length:=aM ..
 refine af.ah (rvs:=[.cell 4 39]) G aa Tryz.func32 rfl Tryz.ntmps32 rfl rfl ?_;with_reducible refine wD ?_
 refine aR.use G aa (fun(k:Nat)=>[(1,dX due),(2,.ptr 20 0 0),(4,.ptr 40 0 0),(5,aj k)])
  (fun k=>[(20,mW (V k)),(40,mZ)])
  (fun k=>k≤due.length) (fun k=>due.length-k) 0 (Nat.zero_le _) ?_ ?_
 ·rw[hV0]
  obtain⟨⟨l,m⟩,st,⟨d1,d2,d3,d4⟩,⟨a,b,c,d⟩,ta,bu,cs⟩:=w
  (refine fK ?_;(with_reducible repeat' (first|exact trivial|(show _∧_;refine aK ?_ ?_)));(all_goals try rfl))
  all_goals first
   |exact .inl rfl
 intro k hk
 have hTl:=hTl k
 by_cases hk':k<due.length
 ·obtain⟨x,hx⟩:∃x,due[k]? =some x:=⟨_,aP hk'⟩
  have hadd:=hadd k x hx
  have hstep:=hstep k x hx
  obtain⟨n,x0,x1,x2,x3,x4,x5,x6,x7,x8,x9⟩:=x
  generalize hV1:V (k+1)=v1 at*
  generalize hVk:V k=v at*
  obtain⟨⟨l,m⟩,st,⟨d1,d2,d3,d4⟩,⟨a,b,c,d⟩,ta,bu,cs⟩:=v
  obtain⟨⟨l',m'⟩,st',⟨d1',d2',d3',d4'⟩,⟨a',b',c',d'⟩,ta',bu',cs'⟩:=v1
  simp only at hadd hstep hTl
  simp only[aH.mk.injEq] at hstep
  obtain⟨z1,z2,z3,z4,z5,z6,z7⟩:=hstep
  cases z1;cases z2;cases z3;cases z6;cases z7
  with_reducible refine wK ?_
  cases ht:fA ⟨a,b,c,d⟩ with
  | false=>
    rw[ht] at hadd z5
    rw[if_neg (by simp)] at z5
    subst z5
    (have fct:=hdm;(repeat' (first
  |refine gF ?_|refine aE ?_ ?_
  | ((first
   |((with_reducible show ak _ _ _ _ _);refine ak.mk k (gL ⟨n,⟨x0,x1,x2,x3,x4,x5,x6,x7,x8,x9⟩⟩) rfl (oK hx) ?_)
   |((with_reducible refine kQ 99 ?_);refine cV hadd SI ?_))<;>with_reducible refine wK ?_)
  | apply trivial));all_goals clear fct)
    refine ay.mk (k+1) (by omega) (by omega) ?_
    rw[hV1]
    (refine fK ?_;(with_reducible repeat' (first|exact trivial|(show _∧_;refine aK ?_ ?_)));(all_goals try rfl))
    all_goals first
     |exact .inl rfl
     |(simp;done)
  | true=>
    rw[ht] at hadd z5
    rw[if_pos rfl] at z5
    subst z5
    have htm:(ta.map dO).length=ta.length:=aM ..
    have e3:ta.map dO++ [j0 jn]=(ta++ [jn]).map dO:=by rw[fO];rfl
    (have fct:=hdm;(repeat' (first
  |refine gF ?_|refine aE ?_ ?_
  | ((first
   |((with_reducible show ak _ _ _ _ _);refine ak.mk k (gL ⟨n,⟨x0,x1,x2,x3,x4,x5,x6,x7,x8,x9⟩⟩) rfl (oK hx) ?_)
   |((with_reducible refine kQ 99 ?_);refine cV hadd SI ?_))<;>with_reducible refine wK ?_)
  | apply trivial));all_goals clear fct)
    refine cC.mk [] (ta.map dO) ⟨rfl,rfl,rfl⟩ ⟨rfl,rfl,rfl⟩ (dA dO (fun _=>rfl) ta) (by simp;omega) (by simp;omega) ?_;with_reducible refine wK ?_
    repeat' (first
  |refine gK ?_|refine aE ?_ ?_
  |(((with_reducible show cC _ _ _ _ _ _ _ _ _ _);refine cC.mk (ta.map dO) [j0 jn] ⟨rfl,by simp,rfl⟩ ⟨rfl,rfl,rfl⟩ rfl (by simp;omega) (by simp;omega) ?_)<;>with_reducible refine wK ?_)
  | apply trivial)
    refine ay.mk (k+1) (by omega) (by omega) ?_
    rw[hV1]
    (refine fK ?_;(with_reducible repeat' (first|exact trivial|(show _∧_;refine aK ?_ ?_)));(all_goals try rfl))
    all_goals first
     |exact .inl rfl
     |exact xU rfl rfl e3 (by simp)
     |(simp;done)
 ·obtain rfl:k=due.length:=by omega
  generalize V due.length=v at*
  obtain⟨⟨l,m⟩,st,⟨d1,d2,d3,d4⟩,⟨a,b,c,d⟩,ta,bu,cs⟩:=v
  with_reducible refine wK ?_
  (have fct:=hdm;(repeat' (first
  |refine gF ?_|refine aE ?_ ?_
  |apply trivial));all_goals clear fct)
  all_goals trace_state
theorem Bw (w:aH)(h60:w.f.nodes.length≤1000)(f:ForM):af Tryz.prog 35 [] [bk w,bD f] [] (aA (dH w f)):=by
 have hno:=fun h=>(Bool.eq_false_iff.2 (mt (gz (w:=w) (f:=f)).1 h))
 have hyes:=(gz (w:=w) (f:=f)).2
 obtain⟨r,hr⟩:∃r,dH w f=r:=⟨_,rfl⟩
 rw[hr] at hno hyes ⊢
 clear hr
 obtain⟨⟨l,m⟩,st,⟨d1,d2,d3,d4⟩,⟨a,b,c,d⟩,ta,bu,cs⟩:=w
 obtain⟨l',m'⟩:=f
 simp only at h60 hno hyes
 have n1:(l.map bP).length=l.length:=aM ..
 have n2:(l'.map bP).length=l'.length:=aM ..
 refine af.ah (rvs:=[.tmp 4]) G aa Tryz.func35 rfl Tryz.ntmps35 rfl rfl ?_;with_reducible refine wD ?_
 by_cases e1:(l'.length:Int)< (l.length:Int)
 ·rw[hno (by omega)]
  (have fct:=And.intro n1 (And.intro n2 (e1));(repeat' (first
  |refine gF ?_|refine aE ?_ ?_
  |apply trivial));all_goals clear fct)
 by_cases e2:m'=m
 case neg=>
  rw[hno (fun q=>e2 q.1)]
  (have fct:=And.intro n1 (And.intro n2 (And.intro (eq_false e1) ((eq_false e2))));(repeat' (first
  |refine gF ?_|refine aE ?_ ?_
  |apply trivial));all_goals clear fct)
 subst e2
 (have fct:=And.intro n1 (And.intro n2 ((eq_false e1)));(repeat' (first
  |refine gF ?_|refine aE ?_ ?_
  |apply trivial));all_goals clear fct)
 refine aR.use G aa (fun(k:Nat)=>[(2,.ptr 20 0 0),(3,.ptr 30 0 0),(5,aj k)]) (fun _=>[(20,mW ⟨⟨l,m'⟩,st,⟨d1,d2,d3,d4⟩,⟨a,b,c,d⟩,ta,bu,cs⟩),(30,.live 2 [bD ⟨l',m'⟩] false)])
  (fun k=>k≤l.length∧∀ (j:Nat) x y,j<k→l[j]? =some x→l'[j]? =some y→y.kind=x.kind) (fun k=>l.length-k) 0 ⟨Nat.zero_le _,fun j x y h=>by omega⟩
  (
  ⟨⟨rfl,rfl⟩,⟨⟨rfl,rfl⟩,⟨rfl,rfl⟩,rfl,trivial⟩,⟨⟨rfl,rfl,rfl,rfl,rfl,rfl,rfl,rfl,rfl,rfl,rfl,rfl,rfl,rfl,trivial⟩,trivial⟩,⟨⟨rfl,rfl,trivial⟩,trivial⟩,trivial⟩
  ) ?_
 rintro k ⟨hk,hok⟩
 with_reducible refine wK ?_
 refine aQ.mk (fun h1=>?_) (fun h1=>?_)<;>(try simp only[aq] at h1)<;>with_reducible refine wK ?_
 ·have hk':k<l.length:=by simp only[aL] at h1;omega
  obtain⟨x,hx⟩:∃x,l[k]? =some x:=⟨_,aP hk'⟩
  obtain⟨y,hy⟩:∃x,l'[k]? =some x:=⟨_,aP (by omega)⟩
  clear h1
  by_cases e:y.kind=x.kind
  ·have hnx:∀ (j:Nat) x y,j<k+1→l[j]? =some x→l'[j]? =some y→y.kind=x.kind:=fun j x' y' hj hx' hy'=>by
    rcases Nat.lt_or_ge j k with h6|h6
    ·exact hok j x' y' h6 hx' hy'
    ·have:j=k:=by omega
     subst this
     rw[hx] at hx';rw[hy] at hy';cases hx';cases hy';exact e
   obtain⟨x0,x1,x2,x3,x4,x5,x6,x7,x8,x9⟩:=x
   obtain⟨y0,y1,y2,y3,y4,y5,y6,y7,y8,y9⟩:=y
   simp only at e
   subst e
   repeat' (first
  |refine gK ?_|refine aE ?_ ?_
  |(((with_reducible show ak _ _ _ _ _);first|refine ak.mk k (aO ⟨y0,x1,x2,x3,x4,x5,x6,x7,x8,x9⟩) rfl (au hx) ?_|refine ak.mk k (aO ⟨y0,y1,y2,y3,y4,y5,y6,y7,y8,y9⟩) rfl (au hy) ?_)<;>with_reducible refine wK ?_)
  | apply trivial)
   refine ay.mk (k+1) ⟨by omega,hnx⟩ (by omega) (
    ⟨⟨rfl,rfl⟩,⟨⟨rfl,rfl⟩,⟨rfl,rfl⟩,(by show((k+1:Nat):Int)=(k:Int)+1;omega),trivial⟩,⟨⟨rfl,rfl,rfl,rfl,rfl,rfl,rfl,rfl,rfl,rfl,rfl,rfl,rfl,rfl,trivial⟩,trivial⟩,⟨⟨rfl,rfl,trivial⟩,trivial⟩,trivial⟩
    )
  ·rw[hno (fun q=>e (q.2.2 k x y hx hy))]
   obtain⟨x0,x1,x2,x3,x4,x5,x6,x7,x8,x9⟩:=x
   obtain⟨y0,y1,y2,y3,y4,y5,y6,y7,y8,y9⟩:=y
   simp only at e
   have e':¬x0=y0:=fun q=>e q.symm
   (have fct:=(eq_false e');(repeat' (first
  |refine gF ?_|refine aE ?_ ?_
  |(((with_reducible show ak _ _ _ _ _);first|refine ak.mk k (aO ⟨x0,x1,x2,x3,x4,x5,x6,x7,x8,x9⟩) rfl (au hx) ?_|refine ak.mk k (aO ⟨y0,y1,y2,y3,y4,y5,y6,y7,y8,y9⟩) rfl (au hy) ?_)<;>with_reducible refine wK ?_)
  |apply trivial));all_goals clear fct)
 ·have hkl:l.length≤k:=by simp only[bh] at h1;omega
  rw[hyes ⟨rfl,by omega,fun j x y hx hy=>hok j x y (by have:=(aZ hx).1;omega) hx hy⟩]
  clear h1
  repeat' (first
  |refine gK ?_|refine aE ?_ ?_
  |apply trivial)
theorem Au (w:aH)(h60:w.f.nodes.length≤1000)(f:ForM):af Tryz.prog 101 [] [bk w,bD f] [] (aA (dH w f)):=by
 have hno:=fun h=>(Bool.eq_false_iff.2 (mt (gz (w:=w) (f:=f)).1 h))
 have hyes:=(gz (w:=w) (f:=f)).2
 obtain⟨r,hr⟩:∃r,dH w f=r:=⟨_,rfl⟩
 rw[hr] at hno hyes ⊢
 clear hr
 obtain⟨⟨l,m⟩,st,⟨d1,d2,d3,d4⟩,⟨a,b,c,d⟩,ta,bu,cs⟩:=w
 obtain⟨l',m'⟩:=f
 simp only at h60 hno hyes
 have n1:(l.map bP).length=l.length:=aM ..
 have n2:(l'.map bP).length=l'.length:=aM ..
 refine af.ah (rvs:=[.tmp 4]) G aa Tryz.func101 rfl Tryz.ntmps101 rfl rfl ?_;with_reducible refine wD ?_
 by_cases e2:m'=m
 case neg=>
  rw[hno (fun q=>e2 q.1)]
  (have fct:=(eq_false e2);(repeat' (first
  |refine gF ?_|refine aE ?_ ?_
  |apply trivial));all_goals clear fct)
 subst e2
 by_cases e1:(l'.length:Int)< (l.length:Int)
 ·rw[hno (by omega)]
  (have fct:=And.intro n1 (And.intro n2 (e1));(repeat' (first
  |refine gF ?_|refine aE ?_ ?_
  |apply trivial));all_goals clear fct)
 (have fct:=And.intro n1 (And.intro n2 ((eq_false e1)));(repeat' (first
  |refine gF ?_|refine aE ?_ ?_
  |apply trivial));all_goals clear fct)
 refine aR.use G aa (fun(k:Nat)=>[(2,.ptr 20 0 0),(3,.ptr 30 0 0),(28,fE l),(29,aj l.length),(30,aj k)]) (fun _=>[(20,mW ⟨⟨l,m'⟩,st,⟨d1,d2,d3,d4⟩,⟨a,b,c,d⟩,ta,bu,cs⟩),(30,.live 2 [bD ⟨l',m'⟩] false)])
  (fun k=>k≤l.length∧∀ (j:Nat) x y,j<k→l[j]? =some x→l'[j]? =some y→y.kind=x.kind) (fun k=>l.length-k) 0 ⟨Nat.zero_le _,fun j x y h=>by omega⟩ ?_ ?_
 ·(refine fK ?_;(with_reducible repeat' (first|exact trivial|(show _∧_;refine aK ?_ ?_)));(all_goals try rfl))
  all_goals first|(show(l.length:Int)=_;rw[n1])
 rintro k ⟨hk,hok⟩
 with_reducible refine wK ?_
 refine aQ.mk (fun h1=>?_) (fun h1=>?_)<;>(try simp only[aq] at h1)<;>with_reducible refine wK ?_
 ·have hk':k<l.length:=by simp only[aL] at h1;omega
  obtain⟨x,hx⟩:∃x,l[k]? =some x:=⟨_,aP hk'⟩
  obtain⟨y,hy⟩:∃x,l'[k]? =some x:=⟨_,aP (by omega)⟩
  clear h1
  by_cases e:y.kind=x.kind
  ·have hnx:∀ (j:Nat) x y,j<k+1→l[j]? =some x→l'[j]? =some y→y.kind=x.kind:=fun j x' y' hj hx' hy'=>by
    rcases Nat.lt_or_ge j k with h6|h6
    ·exact hok j x' y' h6 hx' hy'
    ·have:j=k:=by omega
     subst this
     rw[hx] at hx';rw[hy] at hy';cases hx';cases hy';exact e
   obtain⟨x0,x1,x2,x3,x4,x5,x6,x7,x8,x9⟩:=x
   obtain⟨y0,y1,y2,y3,y4,y5,y6,y7,y8,y9⟩:=y
   simp only at e
   subst e
   repeat' (first
  |refine gK ?_|refine aE ?_ ?_
  |(((with_reducible show ak _ _ _ _ _);first|refine ak.mk k (aO ⟨y0,x1,x2,x3,x4,x5,x6,x7,x8,x9⟩) rfl (au hx) ?_|refine ak.mk k (aO ⟨y0,y1,y2,y3,y4,y5,y6,y7,y8,y9⟩) rfl (au hy) ?_)<;>with_reducible refine wK ?_)
  | apply trivial)
   refine ay.mk (k+1) ⟨by omega,hnx⟩ (by omega) ?_
   (refine fK ?_;(with_reducible repeat' (first|exact trivial|(show _∧_;refine aK ?_ ?_)));(all_goals try rfl))
   all_goals first|(simp;done)
  ·rw[hno (fun q=>e (q.2.2 k x y hx hy))]
   obtain⟨x0,x1,x2,x3,x4,x5,x6,x7,x8,x9⟩:=x
   obtain⟨y0,y1,y2,y3,y4,y5,y6,y7,y8,y9⟩:=y
   simp only at e
   (have fct:=(eq_false e);(repeat' (first
  |refine gF ?_|refine aE ?_ ?_
  |(((with_reducible show ak _ _ _ _ _);first|refine ak.mk k (aO ⟨x0,x1,x2,x3,x4,x5,x6,x7,x8,x9⟩) rfl (au hx) ?_|refine ak.mk k (aO ⟨y0,y1,y2,y3,y4,y5,y6,y7,y8,y9⟩) rfl (au hy) ?_)<;>with_reducible refine wK ?_)
  |apply trivial));all_goals clear fct)
 ·have hkl:l.length≤k:=by simp only[bh] at h1;omega
  rw[hyes ⟨rfl,by omega,fun j x y hx hy=>hok j x y (by have:=(aZ hx).1;omega) hx hy⟩]
  clear h1
  repeat' (first
  |refine gK ?_|refine aE ?_ ?_
  |apply trivial)
@[reducible] def Kj (w : aH) (t : AV) : AV := .agg [fE w.f.nodes, aj w.f.most, t, o9 w.desk.defs, pC w.desk.waits, aj w.desk.next, aA w.desk.busy, ic w.line.todos, mO w.line.stack, bQ w.line.back, aA w.line.busy, oh w.tasks, nB w.builds, bF w.classes]
theorem r8 {w:aH}{f:ForM}{ns:List dP}(h:kV w f=false):vh w f ns=(w,1):=by unfold vh;rw[h];rfl
theorem yO {w:aH}{f:ForM}{ns:List dP}(h:kV w f=true):vh w f ns=(kK w f ns,0):=by unfold vh;rw[h];rfl
theorem zz (w:aH)(f:ForM):cR w f 0=w:=by
 obtain⟨f0,st,d,⟨a,b,c,e⟩,ta,bu,cs⟩:=w
 unfold cR
 simp
theorem grow_step {w:aH}{f:ForM}{k:Nat}{y:az}(h:(f.nodes.drop w.f.nodes.length)[k]? =some y):(cR w f (k+1)).states=(cR w f k).states++ [gY y]∧(cR w f (k+1)).line=jN (cR w f k).line:=by
 unfold cR jN
 constructor
 ·show w.states++ ((f.nodes.drop w.f.nodes.length).take (k+1)).map gY=w.states++ ((f.nodes.drop w.f.nodes.length).take k).map gY++ [gY y]
  rw[gC h,fO,List.append_assoc];rfl
 ·show cq.mk (w.line.todos++List.replicate (k+1) []) _ _ _=cq.mk (w.line.todos++List.replicate k []++ [[]]) _ _ _
  rw[List.replicate_succ',List.append_assoc]
theorem jR (w:aH)(f:ForM)(k:Nat):(cR w f k).states.length≤w.states.length+k:=by
 unfold cR
 show(w.states++ ((f.nodes.drop w.f.nodes.length).take k).map gY).length≤_
 rw[jg,aM,jD];omega
theorem gN {w:aH}(f:ForM){B k:Nat}(h:rF B w.line):rF (B+k) (cR w f k).line:=by
 unfold cR
 refine⟨?_,?_,Nat.le_trans h.3 (by omega),fun t ht=>Nat.le_trans (h.4 t ht) (by omega),Nat.le_trans h.5 (by omega)⟩
 ·show(w.line.todos++List.replicate k []).length≤_
  rw[jg,List.length_replicate];have:=h.1;omega
 ·intro t ht
  have ht:t∈w.line.todos++List.replicate k []:=ht
  rcases List.mem_append.1 ht with e|e
  ·exact Nat.le_trans (h.2 t e) (by omega)
  ·rw[(List.mem_replicate.1 e).2];exact Nat.zero_le _
structure Pg (w:aH) (f:ForM) (ns:List dP):Prop where
 X:cN (aY w f)
 Y:cN {cj (aY w f) (cO f (aY w f).states w.desk w.classes ns) with states:=dg f (aY w f).states w.desk w.classes}
 d1:∀d∈cO f (aY w f).states w.desk w.classes ns,fW (aY w f) d=true
 d2:∀d∈fJ f (aY w f).states w.desk w.classes,fW {cj (aY w f) (cO f (aY w f).states w.desk w.classes ns) with states:=dg f (aY w f).states w.desk w.classes} d=true
 l1:(cO f (aY w f).states w.desk w.classes ns).length≤ns.length
 l2:(fJ f (aY w f).states w.desk w.classes).length≤2*f.nodes.length
theorem IT {w:aH}{f:ForM}(R:cN w)(hf:bf f=true)(hw:dH w f=true)(ns:List dP):Pg w f ns:=by
 have X:=ze R hf hw
 have hx:(aY w f).states.length=f.nodes.length:=X.sl
 have D1:=JY X ns
 have e:=yN _ (aY w f) X D1
 have hff:=yT (cO f (aY w f).states w.desk w.classes ns) (aY w f)
 have hss:=kR (cO f (aY w f).states w.desk w.classes ns) (aY w f)
 have hdd:=oD (cO f (aY w f).states w.desk w.classes ns) (aY w f)
 have hcc:=gH (cO f (aY w f).states w.desk w.classes ns) (aY w f)
 have e:cN (cj (aY w f) (cO f (aY w f).states w.desk w.classes ns)):=e
 refine⟨X,?_,D1,?_,I8 ..,?_⟩
 ·have t:=DB e
  have q:dg (cj (aY w f) (cO f (aY w f).states w.desk w.classes ns)).f (cj (aY w f) (cO f (aY w f).states w.desk w.classes ns)).states (cj (aY w f) (cO f (aY w f).states w.desk w.classes ns)).desk (cj (aY w f) (cO f (aY w f).states w.desk w.classes ns)).classes=dg f (aY w f).states w.desk w.classes:=by
   rw[hff,hss,hdd,hcc];rfl
  rw[q] at t
  exact t
 ·have t:=FL e
  rw[hff,hss,hdd,hcc] at t
  exact t
 ·unfold fJ
  split
  ·rw[hx];exact uS ..
  ·simp
theorem tK {w:aH}(hs:cW w)(hl:rF 80000 w.line){f:ForM}(hf:bR f.nodes)(R:cN w):cW (aY w f):=by
 have hst:=jR w f (f.nodes.length-w.f.nodes.length)
 have:=hf.len
 have h2:=R.sl
 have h3:=hs.f.len
 exact⟨hf,by show(cR w f _).states.length≤_;omega,hs.d,(gN f hl).mono (by omega),hs.ta,hs.bu,hs.cl,hs.cs,hs.nm⟩
theorem mL {w:aH}{B:Nat}(hs:cW w)(hl:rF B w.line)(ht:w.tasks.length≤89000)(due:List ck)(hb:B+due.length≤90000):cW (cj w due):=by
 have hT:=pH w due
 refine⟨by rw[yT];exact hs.f,by rw[kR];exact hs.st,by rw[oD];exact hs.d,(wZ due w B hl).mono hb,by omega,by rw[nv];exact hs.bu,by rw[gH];exact hs.cl,by rw[gH];exact hs.cs,by rw[gH];exact hs.nm⟩
theorem vg (w:aH)(hs:cW w)(hl:rF 80000 w.line)(hta:w.tasks.length≤80000)(f:ForM)(hf:bR f.nodes)(ns:List dP)(hn:ns.length≤1000):af Tryz.prog 33 [] [bk w,bD f,fZ ns] [] (.tup [bk (vh w f ns).1,aj (vh w f ns).2]):=by
 have h75:=qP w hs
 have h100:=kf f hf
 have h101:=Au w (by have:=hs.f.len;omega) f
 cases e1:cF w with
 | false=>
   rw[e1] at h75
   rw[r8 (by unfold kV;rw[e1];rfl)]
   clear h100 h101
   obtain⟨⟨l,m⟩,st,⟨d1,d2,d3,d4⟩,⟨a,b,c,d⟩,ta,bu,cs⟩:=w
   obtain⟨l',m'⟩:=f
   refine af.ah (rvs:=[.cell 6 39,.tmp 7]) G aa Tryz.func33 rfl Tryz.ntmps33 rfl rfl ?_;with_reducible refine wD ?_
   repeat' (first
  |refine gK ?_|refine aE ?_ ?_
  | (((with_reducible refine kQ 75 ?_);refine aD.lit [] h75 Nt ⟨
   ⟨rfl,rfl,rfl,rfl,rfl,rfl,rfl,rfl,rfl,rfl,rfl,rfl,rfl,rfl,trivial⟩
   ,trivial⟩ rfl rfl ?_)<;>with_reducible refine wK ?_)
  |apply trivial)
 |true=>
 rw[e1] at h75
 cases e2:bf f with
 | false=>
   rw[e2] at h100
   rw[r8 (by unfold kV;rw[e1,e2];rfl)]
   clear h101
   obtain⟨⟨l,m⟩,st,⟨d1,d2,d3,d4⟩,⟨a,b,c,d⟩,ta,bu,cs⟩:=w
   obtain⟨l',m'⟩:=f
   refine af.ah (rvs:=[.cell 6 39,.tmp 7]) G aa Tryz.func33 rfl Tryz.ntmps33 rfl rfl ?_;with_reducible refine wD ?_
   repeat' (first
  |refine gK ?_|refine aE ?_ ?_
  | ((first
   |((with_reducible refine kQ 75 ?_);refine aD.lit [] h75 Nt ⟨
   ⟨rfl,rfl,rfl,rfl,rfl,rfl,rfl,rfl,rfl,rfl,rfl,rfl,rfl,rfl,trivial⟩
   ,trivial⟩ rfl rfl ?_)
   |((with_reducible refine kQ 100 ?_);refine cL h100 mQ ?_))<;>with_reducible refine wK ?_)
  |apply trivial)
 |true=>
 rw[e2] at h100
 cases e3:dH w f with
 | false=>
   rw[e3] at h101
   rw[r8 (by unfold kV;rw[e1,e2,e3];rfl)]
   obtain⟨⟨l,m⟩,st,⟨d1,d2,d3,d4⟩,⟨a,b,c,d⟩,ta,bu,cs⟩:=w
   obtain⟨l',m'⟩:=f
   refine af.ah (rvs:=[.cell 6 39,.tmp 7]) G aa Tryz.func33 rfl Tryz.ntmps33 rfl rfl ?_;with_reducible refine wD ?_
   repeat' (first
  |refine gK ?_|refine aE ?_ ?_
  | ((first
   |((with_reducible refine kQ 75 ?_);refine aD.lit [] h75 Nt ⟨
   ⟨rfl,rfl,rfl,rfl,rfl,rfl,rfl,rfl,rfl,rfl,rfl,rfl,rfl,rfl,trivial⟩
   ,trivial⟩ rfl rfl ?_)
   |((with_reducible refine kQ 100 ?_);refine cL h100 mQ ?_)
   |((with_reducible refine kQ 101 ?_);refine aD.lit [] h101 P7 ⟨
   ⟨rfl,rfl,rfl,rfl,rfl,rfl,rfl,rfl,rfl,rfl,rfl,rfl,rfl,rfl,trivial⟩
   ,⟨rfl,rfl,trivial⟩,trivial⟩ rfl rfl ?_))<;>with_reducible refine wK ?_)
  |apply trivial)
 |true=>
 rw[e3] at h101
 rw[yO (by unfold kV;rw[e1,e2,e3];rfl)]
 have R:=ir.1 e1
 have TF:=IT R e2 e3 ns
 have hsl:=R.sl
 have hfl:=hf.len
 have hwl:=hs.f.len
 have hle:=(gz.1 e3).2.1
 have hX:=tK hs hl hf R
 have hXl:rF 80100 (aY w f).line:=(gN f hl).mono (by omega)
 have hcl:=EJ w.states (by have:=hs.st;omega)
 have hbn:=fun x=>BY x
 have hgr:=fun k (hk:k≤f.nodes.length)=>zi (cR w f k).line ((gN f hl).mono (by omega))
 have hst:=fun k y h=>grow_step (w:=w) (f:=f) (k:=k) (y:=y) h
 have h103:=JS f hf (aY w f).states w.desk hs.d w.classes hs.cs ns (by omega)
 have h104:=Kv f hf (aY w f).states hX.st w.desk hs.d w.classes (fun c hc=>(hs.cs c hc).hooks)
 have hE1:=oL (aY w f) hX (cO f (aY w f).states w.desk w.classes ns) (by have:=TF.l1;omega) TF.X TF.d1
 have hY0:cW (cj (aY w f) (cO f (aY w f).states w.desk w.classes ns)):=mL hX hXl (by show w.tasks.length≤_;omega) _ (by have:=TF.l1;omega)
 have hY:cW {cj (aY w f) (cO f (aY w f).states w.desk w.classes ns) with states:=dg f (aY w f).states w.desk w.classes}:=⟨hY0.f,by show(dg f (aY w f).states w.desk w.classes).length≤_;rw[rT];exact hX.st,hY0.d,hY0.l,hY0.ta,hY0.bu,hY0.cl,hY0.cs,hY0.nm⟩
 have hE2:=oL _ hY (fJ f (aY w f).states w.desk w.classes) (by have:=TF.l2;omega) TF.Y TF.d2
 have hY1:cj (aY w f) (cO f (aY w f).states w.desk w.classes ns)=⟨f,(aY w f).states,w.desk,(cj (aY w f) (cO f (aY w f).states w.desk w.classes ns)).line,(cj (aY w f) (cO f (aY w f).states w.desk w.classes ns)).tasks,w.builds,w.classes⟩:=by
  have q1:=yT (cO f (aY w f).states w.desk w.classes ns) (aY w f)
  have q2:=kR (cO f (aY w f).states w.desk w.classes ns) (aY w f)
  have q3:=oD (cO f (aY w f).states w.desk w.classes ns) (aY w f)
  have q4:=nv (cO f (aY w f).states w.desk w.classes ns) (aY w f)
  have q5:=gH (cO f (aY w f).states w.desk w.classes ns) (aY w f)
  generalize cj (aY w f) (cO f (aY w f).states w.desk w.classes ns)=v at*
  obtain⟨v1,v2,v3,v4,v5,v6,v7⟩:=v
  simp only at q1 q2 q3 q4 q5
  subst q1;subst q2;subst q3;subst q4;subst q5;rfl
 have hT:kK w f ns=cj {cj (aY w f) (cO f (aY w f).states w.desk w.classes ns) with states:=dg f (aY w f).states w.desk w.classes} (fJ f (aY w f).states w.desk w.classes):=rfl
 rw[hT]
 clear hT hY hY0 TF e1 e2 e3 hX hXl
 rw[hY1] at hE1 hE2 ⊢
 clear hY1
 simp only at hE2 ⊢
 generalize hLy:(cj (aY w f) (cO f (aY w f).states w.desk w.classes ns)).line=Ly at*
 generalize hTy:(cj (aY w f) (cO f (aY w f).states w.desk w.classes ns)).tasks=Ty at*
 clear hLy hTy
 generalize cO f (aY w f).states w.desk w.classes ns=D1 at*
 generalize dg f (aY w f).states w.desk w.classes=S2 at*
 generalize fJ f (aY w f).states w.desk w.classes=D2 at*
 generalize hZ:cj ⟨f,S2,w.desk,Ly,Ty,w.builds,w.classes⟩ D2=Z at*
 clear hZ
 obtain⟨nf,hnf⟩:∃nf,nf=f.nodes.drop w.f.nodes.length:=⟨_,rfl⟩
 have hnl:nf.length=f.nodes.length-w.f.nodes.length:=by rw[hnf,List.length_drop]
 have hg0:=zz w f
 have hge:(aY w f).states=(cR w f nf.length).states∧(aY w f).line=(cR w f nf.length).line∧aY w f=⟨f,(cR w f nf.length).states,w.desk,(cR w f nf.length).line,w.tasks,w.builds,w.classes⟩:=by rw[hnl];exact⟨rfl,rfl,rfl⟩
 rw[hge.1] at h103 h104
 rw[hge.2.2] at hE1
 have hslen:=fun k=>jR w f k
 rw[←hnf] at hst
 have hcut:nf.map bP=((f.nodes.map bP).drop w.f.nodes.length).take (f.nodes.length-w.f.nodes.length):=by rw[←List.map_drop,←hnf,jH (by rw[aM];omega)]
 have g1:∀k,(cR w f k).f=w.f∧(cR w f k).desk=w.desk∧(cR w f k).tasks=w.tasks:=fun k=>⟨rfl,rfl,rfl⟩
 have hgs:(cR w f 0).states=w.states∧(cR w f 0).line=w.line:=by rw[hg0];exact⟨rfl,rfl⟩
 clear hge hnf hg0 hs hl R hf g1
 generalize hGs:(fun k=>(cR w f k).states)=Gs at*
 generalize hGl:(fun k=>(cR w f k).line)=Gl at*
 have hGs':∀k,(cR w f k).states=Gs k:=fun k=>by rw[←hGs]
 have hGl':∀k,(cR w f k).line=Gl k:=fun k=>by rw[←hGl]
 simp only[hGs',hGl'] at hst hslen hgr h103 h104 hE1 hgs
 clear hGs hGl hGs' hGl'
 have hnm:(nf.map bP).length=nf.length:=aM ..
 obtain⟨⟨zl,zm⟩,zst,⟨zd1,zd2,zd3,zd4⟩,⟨za,zb,zc,zd⟩,zta,zbu,zcs⟩:=Z
 obtain⟨⟨l,m⟩,st,⟨d1,d2,d3,d4⟩,⟨a,b,c,d⟩,ta,bu,cs⟩:=w
 obtain⟨l',m'⟩:=f
 obtain⟨la,lb,lc,ld⟩:=Ly
 simp only at hcl h100 h101 h103 h104 hE1 hE2 hsl hfl hwl hle hnl hslen hcut hgs hta hgr ⊢
 have n1:(l.map bP).length=l.length:=aM ..
 have n2:(l'.map bP).length=l'.length:=aM ..
 refine af.ah (rvs:=[.cell 6 39,.tmp 7]) G aa Tryz.func33 rfl Tryz.ntmps33 rfl rfl ?_;with_reducible refine wD ?_
 repeat' (first
  |refine gK ?_|refine aE ?_ ?_
  | ((first
   |((with_reducible refine kQ 75 ?_);refine aD.lit [] h75 Nt ⟨
   ⟨rfl,rfl,rfl,rfl,rfl,rfl,rfl,rfl,rfl,rfl,rfl,rfl,rfl,rfl,trivial⟩
   ,trivial⟩ rfl rfl ?_)
   |((with_reducible refine kQ 100 ?_);refine cL h100 mQ ?_)
   |((with_reducible refine kQ 101 ?_);refine aD.lit [] h101 P7 ⟨
   ⟨rfl,rfl,rfl,rfl,rfl,rfl,rfl,rfl,rfl,rfl,rfl,rfl,rfl,rfl,trivial⟩
   ,⟨rfl,rfl,trivial⟩,trivial⟩ rfl rfl ?_)
   |((with_reducible refine kQ 102 ?_);refine aD.new 321 [] hcl Pv ⟨rfl,trivial⟩ rfl rfl rfl (ug _) rfl ?_)
   |((with_reducible show BI _ _ _ _ _ _);refine BI.mk l.length (l'.length-l.length) (nf.map bP) (by(try simp only[aq]);omega) (by(try simp only[aq]);omega) (by omega) hcut ?_))<;>with_reducible refine wK ?_)
  |apply trivial)
 refine aR.use G aa (fun(k:Nat)=>[(2,fZ ns),(3,.ptr 30 0 0),(4,.ptr 40 0 0),(6,.ptr 60 0 0),(8,.ptr 80 0 0),(41,fE nf),(42,aj nf.length),(43,aj k)])
  (fun k=>[(30,mW ⟨⟨l,m⟩,st,⟨d1,d2,d3,d4⟩,⟨a,b,c,d⟩,ta,bu,cs⟩),(40,.live 2 [bD ⟨l',m'⟩] false),(60,mZ),(80,.live 14 [Kj ⟨⟨l,m⟩,st,⟨d1,d2,d3,d4⟩,Gl k,ta,bu,cs⟩ (.own 321 0 (Gs k).length)] false),(321,bT (Gs k))])
  (fun k=>k≤nf.length) (fun k=>nf.length-k) 0 (Nat.zero_le _) ?_ ?_
 ·rw[hgs.1,hgs.2]
  (refine fK ?_;(with_reducible repeat' (first|exact trivial|(show _∧_;refine aK ?_ ?_)));(all_goals try rfl))
  all_goals first
   |(show(nf.length:Int)=_;rw[hnm])
   |exact⟨.refl (aB _),aB _⟩
   |exact .inl rfl
   |(simp;omega)
 intro k hk
 with_reducible refine wK ?_
 refine aQ.mk (fun h1=>?_) (fun h1=>?_)<;>(try simp only[aq] at h1)<;>with_reducible refine wK ?_
 ·have hk':k<nf.length:=by simp only[aL] at h1;omega
  obtain⟨y,hy⟩:∃x,nf[k]? =some x:=⟨_,aP hk'⟩
  obtain⟨q1,q2⟩:=hst k y hy
  have hgr:=hgr k (by omega)
  have hbn:=hbn y
  have hslk:=hslen k
  clear h1 hst hslen hcl h75 h100 h101 h103 h104 hE1 hE2
  rw[←q2] at hgr
  have e3:(Gs k).map cr++ [cf (gY y)]=(Gs (k+1)).map cr:=by rw[q1,fO];rfl
  have e4:(Gs (k+1)).length=(Gs k).length+1:=by rw[q1];simp
  clear q1 q2
  generalize gY y=s at*
  obtain⟨s1,s2,s3,s4⟩:=s
  obtain⟨y0,y1,y2,y3,y4,y5,y6,y7,y8,y9⟩:=y
  generalize hLn:Gl (k+1)=L2 at*
  generalize hTn:Gs (k+1)=T2 at*
  repeat' (first
  |refine gK ?_|refine aE ?_ ?_
  | ((first
   |((with_reducible show ak _ _ _ _ _);refine ak.mk k (aO ⟨y0,y1,y2,y3,y4,y5,y6,y7,y8,y9⟩) rfl (au hy) ?_)
   |((with_reducible refine kQ 89 ?_);refine cL hbn Sz ?_)
   |((with_reducible refine kQ 90 ?_);refine cV hgr Sh ?_)
   |((with_reducible show cC _ _ _ _ _ _ _ _ _ _);refine cC.mk ((Gs k).map cr) [cf ⟨s1,s2,s3,s4⟩] ⟨rfl,by simp,rfl⟩ ⟨rfl,rfl,rfl⟩ rfl (by simp;omega) (by simp;omega) ?_))<;>with_reducible refine wK ?_)
  |apply trivial)
  refine ay.mk (k+1) (by omega) (by omega) ?_
  rw[hLn,hTn,e4,e3]
  (refine fK ?_;(with_reducible repeat' (first|exact trivial|(show _∧_;refine aK ?_ ?_)));(all_goals try rfl))
  all_goals first
   |exact⟨.refl (aB _),aB _⟩
   |exact .inl rfl
   |(rw[aM,e4];done)
   |(simp;done)
 ·have hkl:k=nf.length:=by simp only[bh] at h1;omega
  subst hkl
  clear h1 hst hslen hcl h75 h100 h101
  repeat' (first
  |refine gK ?_|refine aE ?_ ?_
  | ((first
   |((with_reducible refine kQ 103 ?_);refine aD.val [321] h103 Q9 ⟨⟨rfl,rfl,trivial⟩,ek rfl rfl rfl rfl,⟨rfl,rfl,rfl,rfl,trivial⟩,rfl,rfl,trivial⟩ rfl rfl rfl ?_)
   |((with_reducible refine kQ 104 ?_);refine cV h104 RE ?_)
   | ((with_reducible refine kQ 98 ?_);first
     |refine aD.lR (news:=[mW ⟨⟨l',m'⟩,Gs nf.length,⟨d1,d2,d3,d4⟩,⟨la,lb,lc,ld⟩,Ty,bu,cs⟩]) [80] [321] hE1 Sr ⟨⟨rfl,rfl⟩,rfl,trivial⟩ ⟨⟨rfl,.inr ⟨⟨⟨rfl,rfl,ek rfl rfl rfl rfl,rfl,rfl,rfl,rfl,rfl,rfl,rfl,rfl,rfl,rfl,rfl,trivial⟩,trivial⟩,rfl⟩⟩,trivial⟩ rfl ⟨⟨rfl,rfl⟩,rfl⟩ rfl ⟨⟨rfl,.inr ⟨rfl,rfl,rfl⟩⟩,trivial⟩ rfl rfl ?_
     |refine aD.lR (news:=[mW ⟨⟨zl,zm⟩,zst,⟨zd1,zd2,zd3,zd4⟩,⟨za,zb,zc,zd⟩,zta,zbu,zcs⟩]) [80] [] hE2 Sr ⟨⟨rfl,rfl⟩,rfl,trivial⟩ ⟨⟨rfl,.inr ⟨⟨⟨rfl,rfl,rfl,rfl,rfl,rfl,rfl,rfl,rfl,rfl,rfl,rfl,rfl,rfl,trivial⟩,trivial⟩,rfl⟩⟩,trivial⟩ rfl ⟨⟨rfl,rfl⟩,rfl⟩ rfl ⟨⟨rfl,.inr ⟨rfl,rfl,rfl⟩⟩,trivial⟩ rfl rfl ?_))<;>with_reducible refine wK ?_)
  |apply trivial)
  all_goals trace_state
theorem H6 {f:ForM}{s:StateM}{d:bj}{cs:List aI}{x:dP}(hr:bf f=true)(ht:ai f.nodes x.node=true):(AG f s d cs x).2=(ji f s d cs x).2∧((ji f s d cs x).2=true→(AG f s d cs x).1=(ji f s d cs x).1):=by
 have hf:mC f x.node d=mg (nd f.nodes x.node) d:=by unfold mC;rw[hr,ht];rfl
 have hge:=E0 (nd f.nodes x.node) d
 unfold AG ji
 rw[hf]
 generalize mg (nd f.nodes x.node) d=a at hge ⊢
 generalize iq s d cs=cb
 generalize ct s d cs=c
 by_cases h1:s.phase=1
 ·rw[if_pos h1]
  have h3:¬s.phase=3:=by omega
  by_cases k1:x.kind=1
  ·rw[if_pos ⟨h1,k1⟩,aV k1,Bool.true_and]
   refine⟨?_,fun _=>rfl⟩
   show decide (0≤a)=!decide (a=-1)
   rw[←decide_not]
   exact decide_eq_decide.2 (by omega)
  ·rw[if_neg (fun h=>k1 h.2),if_neg (fun h=>h3 h.1),aS k1]
   exact⟨rfl,fun h=>by cases h⟩
 ·rw [if_neg (fun h=>h1 h.1),if_neg h1]
  by_cases h3:s.phase=3
  ·rw [if_pos h3]
   by_cases k4:x.kind=4
   ·rw[if_pos k4]
    cases cb<;>cases e1:cm c x.kind<;>cases e2:gW c x.name<;>simp[h3,k4]
   ·rw[if_neg k4]
    by_cases k:x.kind=1∨x.kind=2∨x.kind=3
    ·rw[if_pos k]
     have k5:1≤x.kind∧x.kind≤4:=by omega
     cases cb<;>cases e1:cm c x.kind<;>simp[h3,k4,k5]
    ·rw[if_neg k]
     have k5:¬ (1≤x.kind∧x.kind≤4):=by omega
     rw[if_neg (fun h=>k5 ⟨h.2.2.1,h.2.2.2.1⟩)]
     exact⟨rfl,fun h=>by cases h⟩
  ·rw[if_neg h3,if_neg (fun h=>h3 h.1)]
   exact⟨rfl,fun h=>by cases h⟩
theorem L9 (f:ForM)(st:List StateM)(d:bj)(hd:fH d)(cs:List aI)(hc:kH cs)(ns:List dP)(hns:ns.length≤100000)(hlk:iO f st d=true):af Tryz.prog 106 [] [bD f,dF st,cP d,bF cs,fZ ns] [] (dX (cO f st d cs ns)):=by
 have h60:=fun hr x i s y=>M4 f st d hd hr cs hc x i s y
 have hlm:(ns.map wY).length=ns.length:=aM ..
 have hln:=(show(f.nodes.map bP).length=f.nodes.length from aM ..)
 unfold cO
 rw[hlk,if_pos rfl]
 obtain⟨hle,hrf,hrd⟩:st.length=f.nodes.length∧bf f=true∧dU d=true:=by
  unfold iO at hlk;simp only[aT,aL] at hlk;exact⟨hlk.1.1,hlk.1.2,hlk.2⟩
 obtain⟨ks,hks⟩:∃ks:Nat→List ck,ks=fun k=>(ns.take k).flatMap (oO f st d cs):=⟨_,rfl⟩
 have hkl:∀k,(ks k).length≤k:=fun k=>by
  rw[hks];exact Nat.le_trans (sI _ (vu f st d cs) _) (by rw[jD];omega)
 have hk0:ks 0=[]:=by rw[hks];rfl
 have hke:ks ns.length=ns.flatMap (oO f st d cs):=by rw[hks];show List.flatMap _ (ns.take ns.length)=_;rw[List.take_length]
 have hstep:∀ (k:Nat) (x:dP),ns[k]? =some x→ks (k+1)=ks k++oO f st d cs x:=fun k x hx=>by rw[hks];exact yW _ hx
 have hdue:∀x:dP,(elemV f.nodes x.node=false∧oO f st d cs x=[])∨∃ (i:Nat) (s:StateM) (y:az),x.node=i∧st[i]? =some s∧f.nodes[i]? =some y∧y.kind=1∧oO f st d cs x=if(AG f s d cs x).2=true then[⟨x.node,(AG f s d cs x).1⟩] else[]:=fun x=>by
  unfold oO
  by_cases he:elemV f.nodes x.node=true
  ·rw[if_pos he]
   obtain⟨i,s,hi,hs,hso⟩:=zU he hle
   rw[hso]
   have hil:=(aZ hs).1
   have hy:f.nodes[i]? =some f.nodes[i]:=aP (by omega)
   have ht:ai f.nodes x.node=true:=by rw[hi];exact cw hy
   obtain⟨o1,o2⟩:=H6 (s:=s) (d:=d) (cs:=cs) hrf ht
   refine .inr ⟨i,s,_,hi,hs,hy,?_,?_⟩
   ·unfold elemV at he
    rw[hi,dw hy] at he
    simp only[aT,aL] at he
    exact he.2
   ·rw[o1]
    by_cases h:(ji f s d cs x).2=true
    ·rw[if_pos h,if_pos h,o2 h]
    ·rw[if_neg h,if_neg h]
  ·rw[if_neg he];exact .inl ⟨by simpa using he,rfl⟩
 have h60:=h60 hrd
 rw[←hke]
 clear hks hke hlk hrf hrd
 generalize oO f st d cs=dv at hstep hdue
 obtain⟨l,m⟩:=f
 obtain⟨d1,d2,d3,d4⟩:=d
 simp only at hle hln
 refine af.ah (rvs:=[.tmp 10]) G aa Tryz.func106 rfl Tryz.ntmps106 rfl rfl ?_;with_reducible refine wD ?_
 refine aR.ghost 11 111 11 rfl rfl ?_
 refine aR.use G aa (fun(k:Nat)=>[(1,dF st),(3,bF cs),(4,fZ ns),(5,.ptr 50 0 0),(7,.ptr 70 0 0),(11,.own 111 0 (ks k).length),(12,aj k)])
  (fun k=>[(50,.live 2 [bD ⟨l,m⟩] false),(70,.live 4 [cP ⟨d1,d2,d3,d4⟩] false),(111,di (ks k))]) (fun k=>k≤ns.length) (fun k=>ns.length-k) 0 (Nat.zero_le _)
  (by rw[hk0];exact⟨⟨rfl,rfl⟩,⟨rfl,rfl,rfl,⟨rfl,rfl⟩,⟨rfl,rfl⟩,⟨rfl,rfl⟩,rfl,trivial⟩,⟨⟨rfl,rfl,trivial⟩,trivial⟩,⟨⟨rfl,rfl,rfl,rfl,trivial⟩,trivial⟩,⟨.refl rfl,aF _⟩,trivial⟩) ?_
 intro k hk
 with_reducible refine wK ?_
 refine aQ.mk (fun h1=>?_) (fun h1=>?_)<;>(try simp only[aq] at h1)<;>with_reducible refine wK ?_
 ·have hk':k<ns.length:=by simp only[hlm,aL] at h1;omega
  obtain⟨x,hx⟩:∃x,ns[k]? =some x:=⟨_,aP hk'⟩
  have hstp:=hstep k _ hx
  have hkk:=hkl k
  have hcase:=hdue x
  clear hstep hdue
  rcases hcase with⟨he,h0⟩|⟨i,s,⟨b1,b2,b3,b4,b5,b6,b7,b8,b9,b10⟩,hi,hs,hy,hb1,h0⟩
  ·rw[h0,List.append_nil] at hstp
   obtain⟨x1,x2,x3,x4,x5,x6,x7,x8,x9⟩:=x
   simp only at he
   refine ak.mk k (uw _) rfl (sx hx) ?_;with_reducible refine wK ?_
   by_cases e1:x2<0
   ·(have fct:=(eq_true e1);(repeat' (first
  |refine gF ?_|refine aE ?_ ?_
  | apply trivial));all_goals clear fct)
    refine ay.mk (k+1) (by omega) (by omega) ⟨⟨rfl,rfl⟩,⟨rfl,rfl,rfl,⟨rfl,rfl⟩,⟨rfl,rfl⟩,⟨rfl,by rw[hstp]⟩,by show((k+1:Nat):Int)=(k:Int)+1;omega,trivial⟩,⟨⟨rfl,rfl,trivial⟩,trivial⟩,⟨⟨rfl,rfl,rfl,rfl,trivial⟩,trivial⟩,⟨by rw[hstp];exact .refl (aF _),aF _⟩,trivial⟩
   by_cases e2:(l.length:Int)≤x2
   ·(have fct:=And.intro (eq_false e1) (And.intro hln ((eq_true e2)));(repeat' (first
  |refine gF ?_|refine aE ?_ ?_
  | apply trivial));all_goals clear fct)
    refine ay.mk (k+1) (by omega) (by omega) ⟨⟨rfl,rfl⟩,⟨rfl,rfl,rfl,⟨rfl,rfl⟩,⟨rfl,rfl⟩,⟨rfl,by rw[hstp]⟩,by show((k+1:Nat):Int)=(k:Int)+1;omega,trivial⟩,⟨⟨rfl,rfl,trivial⟩,trivial⟩,⟨⟨rfl,rfl,rfl,rfl,trivial⟩,trivial⟩,⟨by rw[hstp];exact .refl (aF _),aF _⟩,trivial⟩
   obtain⟨i,rfl⟩:∃i:Nat,x2=i:=⟨_,(Int.toNat_of_nonneg (by omega)).symm⟩
   obtain⟨⟨b1,b2,b3,b4,b5,b6,b7,b8,b9,b10⟩,hy⟩:∃y,l[i]? =some y:=⟨_,aP (by omega)⟩
   have hb1:¬b1=1:=fun h=>by
    unfold elemV at he
    rw[cw hy,dw hy,Bool.true_and] at he
    exact absurd h (by simpa using he)
   (have fct:=And.intro (eq_false e1) (And.intro hln (And.intro (eq_false e2) ((eq_false hb1))));(repeat' (first
  |refine gF ?_|refine aE ?_ ?_
  |(((with_reducible show ak _ _ _ _ _);refine ak.mk i (aO _) rfl (au hy) ?_)<;>with_reducible refine wK ?_)
  | apply trivial));all_goals clear fct)
   refine ay.mk (k+1) (by omega) (by omega) ⟨⟨rfl,rfl⟩,⟨rfl,rfl,rfl,⟨rfl,rfl⟩,⟨rfl,rfl⟩,⟨rfl,by rw[hstp]⟩,by show((k+1:Nat):Int)=(k:Int)+1;omega,trivial⟩,⟨⟨rfl,rfl,trivial⟩,trivial⟩,⟨⟨rfl,rfl,rfl,rfl,trivial⟩,trivial⟩,⟨by rw[hstp];exact .refl (aF _),aF _⟩,trivial⟩
  ·rw[h0] at hstp
   have h60':=h60 x i s _ hi hs hy
   have hil:=(aZ hs).1
   simp only at hb1
   subst hb1
   have e1:¬ (i:Int)<0:=by omega
   have e2:¬ (l.length:Int)≤ (i:Int):=by omega
   clear h60 h0
   generalize AG ⟨l,m⟩ s ⟨d1,d2,d3,d4⟩ cs x=r at h60' hstp
   obtain⟨⟨t1,t2,t3,t4,t5,t6,t7,t8,t9,t10⟩,b⟩:=r
   obtain⟨x1,x2,x3,x4,x5,x6,x7,x8,x9⟩:=x
   simp only at hi hstp h60'
   subst hi
   refine ak.mk k (uw _) rfl (sx hx) ?_;with_reducible refine wK ?_
   (have fct:=And.intro (eq_false e1) (And.intro hln ((eq_false e2)));(repeat' (first
  |refine gF ?_|refine aE ?_ ?_
  | ((first
   |((with_reducible show ak _ _ _ _ _);first|refine ak.mk i (aO _) rfl (au hy) ?_|refine ak.mk k (uw _) rfl (sx hx) ?_)
   |((with_reducible refine kQ 174 ?_);refine cV h60' SG ?_))<;>with_reducible refine wK ?_)
  | apply trivial));all_goals clear fct)
   cases b with
   | false=>
     rw[if_neg (by simp),List.append_nil] at hstp
     repeat' (first
  |refine gK ?_|refine aE ?_ ?_
  | apply trivial)
     refine ay.mk (k+1) (by omega) (by omega) ⟨⟨rfl,rfl⟩,⟨rfl,rfl,rfl,⟨rfl,rfl⟩,⟨rfl,rfl⟩,⟨rfl,by rw[hstp]⟩,by show((k+1:Nat):Int)=(k:Int)+1;omega,trivial⟩,⟨⟨rfl,rfl,trivial⟩,trivial⟩,⟨⟨rfl,rfl,rfl,rfl,trivial⟩,trivial⟩,⟨by rw[hstp];exact .refl (aF _),aF _⟩,trivial⟩
   | true=>
     rw[if_pos rfl] at hstp
     repeat' (first
  |refine gK ?_|refine aE ?_ ?_
  |(((with_reducible show cC _ _ _ _ _ _ _ _ _ _);refine cC.mk ((ks k).map fU) [gL ⟨(i:Int),⟨t1,t2,t3,t4,t5,t6,t7,t8,t9,t10⟩⟩] ⟨rfl,(aM ..).symm,rfl⟩ ⟨rfl,rfl,rfl⟩ rfl (by simp;omega) (by simp;omega) ?_)<;>with_reducible refine wK ?_)
  |apply trivial)
     refine ay.mk (k+1) (by omega) (by omega) ⟨⟨rfl,rfl⟩,⟨rfl,rfl,rfl,⟨rfl,rfl⟩,⟨rfl,rfl⟩,⟨rfl,by rw[hstp];simp⟩,by show((k+1:Nat):Int)=(k:Int)+1;omega,trivial⟩,⟨⟨rfl,rfl,trivial⟩,trivial⟩,⟨⟨rfl,rfl,rfl,rfl,trivial⟩,trivial⟩,⟨by rw[hstp,fO];exact .refl (by rw[←fO];exact aF _),aF _⟩,trivial⟩
 ·have hkn:k=ns.length:=by simp only[hlm,bh] at h1;omega
  subst hkn
  (refine eK ?_ ?_<;>with_reducible repeat' (first|exact trivial|(show _∧_;refine aK ?_ ?_)))
  all_goals exact kB rfl rfl rfl rfl

theorem H9 (w:aH)(hs:cW w)(hl:rF 80000 w.line)(hta:w.tasks.length≤80000)(f:ForM)(hf:bR f.nodes)(ns:List dP)(hn:ns.length≤1000)(R:cN w)(e2:bf f=true)(e3:dH w f=true):af Tryz.prog 36 [] [bk w,bD f,fZ ns] [] (bk (kK w f ns)):=by
 have TF:=IT R e2 e3 ns
 have hsl:=R.sl
 have hfl:=hf.len
 have hwl:=hs.f.len
 have hle:=(gz.1 e3).2.1
 have hX:=tK hs hl hf R
 have hXl:rF 80100 (aY w f).line:=(gN f hl).mono (by omega)
 have hst0:=hs.st
 have hbn:=fun x=>AZ x
 have hgr:=fun k (hk:k≤f.nodes.length)=>s5 (cR w f k).line (by have:=(gN (k:=k) f hl).todos;omega)
 have hst:=fun k y h=>grow_step (w:=w) (f:=f) (k:=k) (y:=y) h
 have hlk:=IW R e2 e3
 have h103:=L9 f (aY w f).states w.desk hs.d w.classes hs.cs ns (by omega) hlk
 have h104:=MW f hf (aY w f).states w.desk w.classes (fun c hc=>(hs.cs c hc).hooks) hlk
 have hE1:=ru (aY w f) hX (cO f (aY w f).states w.desk w.classes ns) (by have:=TF.l1;omega) TF.X TF.d1
 have hY0:cW (cj (aY w f) (cO f (aY w f).states w.desk w.classes ns)):=mL hX hXl (by show w.tasks.length≤_;omega) _ (by have:=TF.l1;omega)
 have hY:cW {cj (aY w f) (cO f (aY w f).states w.desk w.classes ns) with states:=dg f (aY w f).states w.desk w.classes}:=⟨hY0.f,by show(dg f (aY w f).states w.desk w.classes).length≤_;rw[rT];exact hX.st,hY0.d,hY0.l,hY0.ta,hY0.bu,hY0.cl,hY0.cs,hY0.nm⟩
 have hE2:=ru _ hY (fJ f (aY w f).states w.desk w.classes) (by have:=TF.l2;omega) TF.Y TF.d2
 have hY1:cj (aY w f) (cO f (aY w f).states w.desk w.classes ns)=⟨f,(aY w f).states,w.desk,(cj (aY w f) (cO f (aY w f).states w.desk w.classes ns)).line,(cj (aY w f) (cO f (aY w f).states w.desk w.classes ns)).tasks,w.builds,w.classes⟩:=by
  have q1:=yT (cO f (aY w f).states w.desk w.classes ns) (aY w f)
  have q2:=kR (cO f (aY w f).states w.desk w.classes ns) (aY w f)
  have q3:=oD (cO f (aY w f).states w.desk w.classes ns) (aY w f)
  have q4:=nv (cO f (aY w f).states w.desk w.classes ns) (aY w f)
  have q5:=gH (cO f (aY w f).states w.desk w.classes ns) (aY w f)
  generalize cj (aY w f) (cO f (aY w f).states w.desk w.classes ns)=v at*
  obtain⟨v1,v2,v3,v4,v5,v6,v7⟩:=v
  simp only at q1 q2 q3 q4 q5
  subst q1;subst q2;subst q3;subst q4;subst q5;rfl
 have hT:kK w f ns=cj {cj (aY w f) (cO f (aY w f).states w.desk w.classes ns) with states:=dg f (aY w f).states w.desk w.classes} (fJ f (aY w f).states w.desk w.classes):=rfl
 rw[hT]
 clear hT hY hY0 TF e2 e3 hX hXl hlk
 rw[hY1] at hE1 hE2 ⊢
 clear hY1
 simp only at hE2 ⊢
 generalize hLy:(cj (aY w f) (cO f (aY w f).states w.desk w.classes ns)).line=Ly at*
 generalize hTy:(cj (aY w f) (cO f (aY w f).states w.desk w.classes ns)).tasks=Ty at*
 clear hLy hTy
 generalize cO f (aY w f).states w.desk w.classes ns=D1 at*
 generalize dg f (aY w f).states w.desk w.classes=S2 at*
 generalize fJ f (aY w f).states w.desk w.classes=D2 at*
 generalize hZ:cj ⟨f,S2,w.desk,Ly,Ty,w.builds,w.classes⟩ D2=Z at*
 clear hZ
 obtain⟨nf,hnf⟩:∃nf,nf=f.nodes.drop w.f.nodes.length:=⟨_,rfl⟩
 have hnl:nf.length=f.nodes.length-w.f.nodes.length:=by rw[hnf,List.length_drop]
 have hg0:=zz w f
 have hge:(aY w f).states=(cR w f nf.length).states∧(aY w f).line=(cR w f nf.length).line∧aY w f=⟨f,(cR w f nf.length).states,w.desk,(cR w f nf.length).line,w.tasks,w.builds,w.classes⟩:=by rw[hnl];exact⟨rfl,rfl,rfl⟩
 rw[hge.1] at h103 h104
 rw[hge.2.2] at hE1
 have hslen:=fun k=>jR w f k
 rw[←hnf] at hst
 have hcut:nf.map bP=((f.nodes.map bP).drop w.f.nodes.length).take (f.nodes.length-w.f.nodes.length):=by rw[←List.map_drop,←hnf,jH (by rw[aM];omega)]
 have g1:∀k,(cR w f k).f=w.f∧(cR w f k).desk=w.desk∧(cR w f k).tasks=w.tasks:=fun k=>⟨rfl,rfl,rfl⟩
 have hgs:(cR w f 0).states=w.states∧(cR w f 0).line=w.line:=by rw[hg0];exact⟨rfl,rfl⟩
 have hidx:∀ (k:Nat) y,nf[k]? =some y→f.nodes[w.f.nodes.length+k]? =some y:=fun k y h=>by
  rw[hnf,List.getElem?_drop] at h;exact h
 clear hge hnf hg0 hs hl R hf g1
 generalize hGs:(fun k=>(cR w f k).states)=Gs at*
 generalize hGl:(fun k=>(cR w f k).line)=Gl at*
 have hGs':∀k,(cR w f k).states=Gs k:=fun k=>by rw[←hGs]
 have hGl':∀k,(cR w f k).line=Gl k:=fun k=>by rw[←hGl]
 simp only[hGs',hGl'] at hst hslen hgr h103 h104 hE1 hgs
 clear hGs hGl hGs' hGl'
 have hnm:(nf.map bP).length=nf.length:=aM ..
 obtain⟨⟨zl,zm⟩,zst,⟨zd1,zd2,zd3,zd4⟩,⟨za,zb,zc,zd⟩,zta,zbu,zcs⟩:=Z
 obtain⟨⟨l,m⟩,st,⟨d1,d2,d3,d4⟩,⟨a,b,c,d⟩,ta,bu,cs⟩:=w
 obtain⟨l',m'⟩:=f
 obtain⟨la,lb,lc,ld⟩:=Ly
 simp only at h103 h104 hE1 hE2 hsl hfl hwl hle hnl hslen hgs hta hgr hst0 hidx ⊢
 have n1:(l.map bP).length=l.length:=aM ..
 have n2:(l'.map bP).length=l'.length:=aM ..
 have e0:([]:List AV)++st.map cr=(Gs 0).map cr:=by rw[hgs.1];rfl
 refine af.ah (rvs:=[.cell 6 39]) G aa Tryz.func36 rfl Tryz.ntmps36 rfl rfl ?_;with_reducible refine wD ?_
 refine cC.mk [] (st.map cr) ⟨rfl,rfl,rfl⟩ ⟨rfl,rfl,rfl⟩ (dA cr (fun _=>rfl) st) (by simp;omega) (by simp;omega) ?_;with_reducible refine wK ?_
 repeat' (first
  |refine gK ?_|refine aE ?_ ?_
  |apply trivial)
 refine aR.use G aa (fun(k:Nat)=>[(2,fZ ns),(3,.ptr 30 0 0),(4,.ptr 40 0 0),(6,.ptr 60 0 0),(7,.own 141 0 (Gs k).length),(8,aj ((l.length:Int)+k))])
  (fun k=>[(30,mW ⟨⟨l,m⟩,st,⟨d1,d2,d3,d4⟩,Gl k,ta,bu,cs⟩),(40,.live 2 [bD ⟨l',m'⟩] false),(60,mZ),(141,bT (Gs k))])
  (fun k=>k≤nf.length) (fun k=>nf.length-k) 0 (Nat.zero_le _) ?_ ?_
 ·rw[hgs.2]
  (refine fK ?_;(with_reducible repeat' (first|exact trivial|(show _∧_;refine aK ?_ ?_)));(all_goals try rfl))
  all_goals first
   |(rw[e0,hgs.1];exact⟨.refl (aB _),aB _⟩)
   |(rw[hgs.1];exact⟨.refl (aB _),aB _⟩)
   |exact .inl rfl
   |(rw[n1];simp;done)
   |(rw[hgs.1];simp;done)
   |(simp;omega)
 intro k hk
 by_cases hk':k<nf.length
 ·obtain⟨y,hy⟩:∃x,nf[k]? =some x:=⟨_,aP hk'⟩
  have hyx:=hidx k y hy
  obtain⟨q1,q2⟩:=hst k y hy
  have hgr:=hgr k (by omega)
  have hbn:=hbn y
  have hslk:=hslen k
  clear hst hslen h103 h104 hE1 hE2 hidx
  rw[←q2] at hgr
  have e3:(Gs k).map cr++ [cf (gY y)]=(Gs (k+1)).map cr:=by rw[q1,fO];rfl
  have e4:(Gs (k+1)).length=(Gs k).length+1:=by rw[q1];simp
  clear q1 q2
  generalize gY y=s at*
  obtain⟨s1,s2,s3,s4⟩:=s
  obtain⟨y0,y1,y2,y3,y4,y5,y6,y7,y8,y9⟩:=y
  generalize hLn:Gl (k+1)=L2 at*
  generalize hTn:Gs (k+1)=T2 at*
  have hlt:(l.length:Int)+ (k:Int)< (l'.length:Int):=by omega
  with_reducible refine wK ?_
  (have fct:=And.intro n2 (hlt);(repeat' (first
  |refine gF ?_|refine aE ?_ ?_
  | ((first
   |((with_reducible show ak _ _ _ _ _);refine ak.mk (l.length+k) (aO ⟨y0,y1,y2,y3,y4,y5,y6,y7,y8,y9⟩) (by first|rfl|(show _=((l.length+k:Nat):Int);omega)) (au hyx) ?_)
   |((with_reducible refine kQ 93 ?_);refine cL hbn S4 ?_)
   |((with_reducible refine kQ 79 ?_);refine cV hgr RV ?_)
   |((with_reducible show cC _ _ _ _ _ _ _ _ _ _);refine cC.mk ((Gs k).map cr) [cf ⟨s1,s2,s3,s4⟩] ⟨rfl,by simp,rfl⟩ ⟨rfl,rfl,rfl⟩ rfl (by simp;omega) (by simp;omega) ?_))<;>with_reducible refine wK ?_)
  |apply trivial));all_goals clear fct)
  refine ay.mk (k+1) (by omega) (by omega) ?_
  rw[hLn,hTn,e4,e3]
  (refine fK ?_;(with_reducible repeat' (first|exact trivial|(show _∧_;refine aK ?_ ?_)));(all_goals try rfl))
  all_goals first
   |exact⟨.refl (aB _),aB _⟩
   |exact .inl rfl
   |(rw[aM,e4];done)
   |(simp;omega)
 ·obtain rfl:k=nf.length:=by omega
  have hlt:¬ (l.length:Int)+ (nf.length:Int)< (l'.length:Int):=by omega
  clear hst hslen hidx
  with_reducible refine wK ?_
  (have fct:=And.intro n2 ((eq_false hlt));(repeat' (first
  |refine gF ?_|refine aE ?_ ?_
  |apply trivial));all_goals clear fct)
  repeat' (first
  |refine gK ?_|refine aE ?_ ?_
  | ((first
   |((with_reducible refine kQ 106 ?_);refine aD.val [141] h103 RJ ⟨⟨rfl,rfl,trivial⟩,ek rfl rfl rfl rfl,⟨rfl,rfl,rfl,rfl,trivial⟩,rfl,rfl,trivial⟩ rfl rfl rfl ?_)
   |((with_reducible refine kQ 107 ?_);refine aD.val [141] h104 RM ⟨⟨rfl,rfl,trivial⟩,ek rfl rfl rfl rfl,⟨rfl,rfl,rfl,rfl,trivial⟩,rfl,trivial⟩ rfl rfl rfl ?_)
   | ((with_reducible refine kQ 32 ?_);first
     |refine aD.val [141] hE1 Pe ⟨⟨rfl,rfl,ek rfl rfl rfl rfl,rfl,rfl,rfl,rfl,rfl,rfl,rfl,rfl,rfl,rfl,rfl,trivial⟩,rfl,trivial⟩ rfl rfl rfl ?_
     | refine aD.val [] hE2 Pe ⟨
      ⟨rfl,rfl,rfl,rfl,rfl,rfl,rfl,rfl,rfl,rfl,rfl,rfl,rfl,rfl,trivial⟩
      ,rfl,trivial⟩ rfl rfl rfl ?_))<;>with_reducible refine wK ?_)
  |apply trivial)
  all_goals trace_state
end Go.Proofs.Heir
namespace Go.Proofs.Heir
open Go Go.Am Go.RowKit Go.Lib
set_option maxRecDepth 100000
set_option maxHeartbeats 8000000
set_option maxHeartbeats 8000000
def nN (k d:Int):az:=⟨k,⟨#[]⟩,⟨#[]⟩,⟨#[]⟩,[],-1,[],-1,-1,d⟩
def yK (f:ForM)(x:az):az:=⟨x.kind,x.name,x.is,x.data,x.attrs,-1,[],-1,-1,if x.kind=0 then(f.nodes.length:Int) else x.doc⟩
def u7 (f:ForM)(x:az):Bool:=(bf f&&iS (yK f x))&&(!decide (x.kind=4)&&(decide (x.kind=0)||oN f.nodes x.doc 0))
def qu (f:ForM)(x:az):ForM×Int×Int:=
 if u7 f x=true then(if(f.nodes.length:Int)=f.most then(f,-1,8) else(⟨f.nodes++ [yK f x],f.most⟩,f.nodes.length,0)) else(f,-1,1)
end Go.Proofs.Heir
