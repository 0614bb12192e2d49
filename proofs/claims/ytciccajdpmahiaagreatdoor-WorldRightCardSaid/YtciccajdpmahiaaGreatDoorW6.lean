/- Models, plain laws and contracts of functions of the given program; conditions as stated in each theorem. By an AI agent. -/
import Derived.Test.YtciccajdpmahiaaGreatDoorW5
import Derived.Laws.StructEq
import Derived.Tactics
import Derived.Test.YtciccajdpmahiaaGreatDoorW4
import Derived.Test.YtciccajdpmahiaaGreatDoorW3
set_option linter.unusedSimpArgs false
set_option linter.unusedVariables false
namespace Go.Proofs.Heir
open Go Go.Am Go.RowKit Go.Lib
set_option maxRecDepth 100000
set_option maxHeartbeats 8000000
def CG (st:List StateM)(n:Int):StateM:=(st[n.toNat]?).getD ⟨0,0,0,false⟩
def oO (f:ForM)(st:List StateM)(d:bj)(cs:List aI)(x:dP):List ck:=
 if elemV f.nodes x.node=true then(if(ji f (CG st x.node) d cs x).2=true then[⟨x.node,(ji f (CG st x.node) d cs x).1⟩] else[]) else[]
def cO (f:ForM)(st:List StateM)(d:bj)(cs:List aI)(ns:List dP):List ck:=if iO f st d=true then ns.flatMap (oO f st d cs) else[]
theorem vu (f:ForM)(st:List StateM)(d:bj)(cs:List aI)(x:dP):(oO f st d cs x).length≤1:=by
 unfold oO
 split
 ·split<;>simp
 ·simp
theorem sI {α β:Type}(g:α→List β)(h:∀x,(g x).length≤1):∀l:List α,(l.flatMap g).length≤l.length
 |[]=>Nat.le_refl _
 | a::r=>by
   have:=sI g h r
   have:=h a
   rw[List.flatMap_cons,jg,List.length_cons];omega
theorem yW {α β:Type}(g:α→List β){l:List α}{k:Nat}{x:α}(h:l[k]? =some x):(l.take (k+1)).flatMap g=(l.take k).flatMap g++g x:=by
 rw[gC h,List.flatMap_append]
 congr 1
 rw[List.flatMap_cons];simp
theorem zU {l:List az}{st:List StateM}{n:Int}(h:elemV l n=true)(hl:st.length=l.length):∃ (i:Nat) (s:StateM),n=i∧st[i]? =some s∧CG st n=s:=by
 unfold elemV at h
 rw[aT] at h
 obtain⟨i,y,rfl,hy,_⟩:=aX.1 h.1
 have hi:=(aZ hy).1
 have hs:st[i]? =some st[i]:=aP (by omega)
 exact⟨i,_,rfl,hs,by unfold CG;rw[Int.toNat_natCast,hs];rfl⟩
theorem JS (f:ForM)(hs:bR f.nodes)(st:List StateM)(d:bj)(hd:fH d)(cs:List aI)(hc:kH cs)(ns:List dP)(hns:ns.length≤100000):af Tryz.prog 103 [] [bD f,dF st,cP d,bF cs,fZ ns] [] (dX (cO f st d cs ns)):=by
 have h57:=K1 f hs st d hd cs
 have h58:=fun n=>Kg ⟨f,st,d,cs⟩ n
 have h59:=fun x i s=>Lb f hs st d hd cs hc x i s
 have hlm:(ns.map wY).length=ns.length:=aM ..
 unfold cO
 cases e0:iO f st d with
 | false=>
   rw[e0] at h57
   obtain⟨l,m⟩:=f
   obtain⟨d1,d2,d3,d4⟩:=d
   try simp only at h57
   refine af.ah (rvs:=[.tmp 10]) G aa Tryz.func103 rfl Tryz.ntmps103 rfl rfl ?_;with_reducible refine wD ?_
   repeat' (first
  |refine gK ?_|refine aE ?_ ?_
  |(((with_reducible refine kQ 115 ?_);refine cV h57 Qt ?_)<;>with_reducible refine wK ?_)
  | apply trivial)
   all_goals exact .inr (.inr ⟨_,rfl⟩)
 | true =>
   rw[e0] at h57
   rw[if_pos rfl]
   obtain⟨ks,hks⟩:∃ks:Nat→List ck,ks=fun k=>(ns.take k).flatMap (oO f st d cs):=⟨_,rfl⟩
   have hkl:∀k,(ks k).length≤k:=fun k=>by
    rw[hks];exact Nat.le_trans (sI _ (vu f st d cs) _) (by rw[jD];omega)
   have hk0:ks 0=[]:=by rw[hks];rfl
   have hke:ks ns.length=ns.flatMap (oO f st d cs):=by rw[hks];show List.flatMap _ (ns.take ns.length)=_;rw[List.take_length]
   have hstep:∀ (k:Nat) (x:dP),ns[k]? =some x→ks (k+1)=ks k++oO f st d cs x:=fun k x hx=>by rw[hks];exact yW _ hx
   have hle:st.length=f.nodes.length:=by unfold iO at e0;simp only[aT,aL] at e0;exact e0.1.1
   rw[←hke]
   unfold oO at hstep
   clear hks hke
   generalize hf:f.nodes=ls at hle hstep
   have hst:=fun n (h:elemV ls n=true)=>zU (st:=st) h hle
   obtain⟨l,m⟩:=f
   obtain⟨d1,d2,d3,d4⟩:=d
   try simp only at h57 h58 hf
   subst hf
   refine af.ah (rvs:=[.tmp 10]) G aa Tryz.func103 rfl Tryz.ntmps103 rfl rfl ?_;with_reducible refine wD ?_
   refine cV h57 Qt ?_;with_reducible refine wK ?_
   repeat' (first
  |refine gK ?_|refine aE ?_ ?_
  | apply trivial)
   refine aR.ghost 13 131 11 rfl rfl ?_
   refine aR.use G aa (fun(k:Nat)=>[(11,.ptr 110 0 0),(13,.own 131 0 (ks k).length),(28,fZ ns),(29,aj ns.length),(30,aj k)])
    (fun k=>[(110,.live 8 [D6 ⟨⟨l,m⟩,st,⟨d1,d2,d3,d4⟩,cs⟩] false),(131,di (ks k))]) (fun k=>k≤ns.length) (fun k=>ns.length-k) 0 (Nat.zero_le _)
    (by rw[hk0];exact⟨⟨rfl,rfl⟩,⟨⟨rfl,rfl⟩,⟨rfl,rfl⟩,rfl,by show(ns.length:Int)=((ns.map wY).length:Int);rw[hlm],rfl,trivial⟩,⟨⟨rfl,rfl,rfl,rfl,rfl,rfl,rfl,rfl,trivial⟩,trivial⟩,⟨.refl rfl,aF _⟩,trivial⟩) ?_
   intro k hk
   with_reducible refine wK ?_
   refine aQ.mk (fun h1=>?_) (fun h1=>?_)<;>(try simp only[aq] at h1)<;>with_reducible refine wK ?_
   ·have hk':k<ns.length:=by simp only[aL] at h1;omega
    obtain⟨⟨x1,x2,x3,x4,x5,x6,x7,x8,x9⟩,hx⟩:∃x,ns[k]? =some x:=⟨_,aP hk'⟩
    have hstp:=hstep k _ hx
    have hkk:=hkl k
    have h58':=h58 x2
    have h59':=h59 ⟨x1,x2,x3,x4,x5,x6,x7,x8,x9⟩
    have hst':=hst x2
    try simp only at hstp h58' h59'
    clear hstep h58 h59 hst
    refine ak.mk k (uw _) rfl (sx hx) ?_;with_reducible refine wK ?_
    cases e1:elemV l x2 with
    | false=>
      rw[e1] at h58' hstp
      rw[if_neg (by simp),List.append_nil] at hstp
      repeat' (first
  |refine gK ?_|refine aE ?_ ?_
  |(((with_reducible refine kQ 116 ?_);refine cL h58' NZ ?_)<;>with_reducible refine wK ?_)
  | apply trivial)
      refine ay.mk (k+1) (by omega) (by omega) ⟨⟨rfl,rfl⟩,⟨⟨rfl,rfl⟩,⟨rfl,by rw[hstp]⟩,rfl,rfl,by show((k+1:Nat):Int)=(k:Int)+1;omega,trivial⟩,⟨⟨rfl,rfl,rfl,rfl,rfl,rfl,rfl,rfl,trivial⟩,trivial⟩,⟨by rw[hstp];exact .refl (aF _),aF _⟩,trivial⟩
    | true=>
      rw[e1] at h58' hstp
      rw[if_pos rfl] at hstp
      obtain⟨i,s,hi,hsi,hso⟩:=hst' e1
      have h59'':=h59' i s hi hsi
      rw[hso] at hstp
      clear h59' hst'
      generalize ji ⟨l,m⟩ s ⟨d1,d2,d3,d4⟩ cs ⟨x1,x2,x3,x4,x5,x6,x7,x8,x9⟩=r at h59'' hstp
      obtain⟨⟨t1,t2,t3,t4,t5,t6,t7,t8,t9,t10⟩,b⟩:=r
      try simp only at h59'' hstp
      cases b with
      | false=>
        rw[if_neg (by simp),List.append_nil] at hstp
        repeat' (first
  |refine gK ?_|refine aE ?_ ?_
  | ((first
   |((with_reducible refine kQ 116 ?_);refine cL h58' NZ ?_)
   |((with_reducible refine kQ 167 ?_);refine cV h59'' P9 ?_))<;>with_reducible refine wK ?_)
  |apply trivial)
        refine ay.mk (k+1) (by omega) (by omega) ⟨⟨rfl,rfl⟩,⟨⟨rfl,rfl⟩,⟨rfl,by rw[hstp]⟩,rfl,rfl,by show((k+1:Nat):Int)=(k:Int)+1;omega,trivial⟩,⟨⟨rfl,rfl,rfl,rfl,rfl,rfl,rfl,rfl,trivial⟩,trivial⟩,⟨by rw[hstp];exact .refl (aF _),aF _⟩,trivial⟩
      | true=>
        rw[if_pos rfl] at hstp
        repeat' (first
  |refine gK ?_|refine aE ?_ ?_
  | ((first
   |((with_reducible refine kQ 116 ?_);refine cL h58' NZ ?_)
   |((with_reducible refine kQ 167 ?_);refine cV h59'' P9 ?_)
   |((with_reducible show cC _ _ _ _ _ _ _ _ _ _);refine cC.mk ((ks k).map fU) [gL ⟨x2,⟨t1,t2,t3,t4,t5,t6,t7,t8,t9,t10⟩⟩] ⟨rfl,(aM ..).symm,rfl⟩ ⟨rfl,rfl,rfl⟩ rfl (by simp;omega) (by simp;omega) ?_))<;>with_reducible refine wK ?_)
  | apply trivial)
        refine ay.mk (k+1) (by omega) (by omega) ⟨⟨rfl,rfl⟩,⟨⟨rfl,rfl⟩,⟨rfl,by rw[hstp];simp⟩,rfl,rfl,by show((k+1:Nat):Int)=(k:Int)+1;omega,trivial⟩,⟨⟨rfl,rfl,rfl,rfl,rfl,rfl,rfl,rfl,trivial⟩,trivial⟩,⟨by rw[hstp,fO];exact .refl (by rw[←fO];exact aF _),aF _⟩,trivial⟩
   ·have hkn:k=ns.length:=by simp only[bh] at h1;omega
    subst hkn
    (refine eK ?_ ?_<;>with_reducible repeat' (first|exact trivial|(show _∧_;refine aK ?_ ?_)))
    all_goals exact kB rfl rfl rfl rfl

theorem bytes_inj {a b:ByteArray}(h:a.toList=b.toList):a=b:=by
 rw[ByteArray.toList_eq,ByteArray.toList_eq] at h
 cases a;cases b
 simp only[ByteArray.mk.injEq]
 exact Array.toList_inj.1 h
@[reducible] def O9 (a : AP) : Value := .agg #[.int .i64 a.kind, .int .i64 a.a, .int .i64 a.b, .int .i64 a.c, .string a.s, .string a.t, .bool a.must]
def On (t u:AP):Bool:=(t.kind==u.kind)&&((t.a==u.a)&&((t.b==u.b)&&((t.c==u.c)&&((t.s.toList==u.s.toList)&&((t.t.toList==u.t.toList)&&(t.must==u.must))))))
theorem Ia (t u:AP):On t u=decide (t=u):=by
 rw[Bool.eq_iff_iff,aL]
 unfold On
 simp only[aT,beq_iff_eq]
 constructor
 ·rintro⟨a,b,c,d,e,f,g⟩
  cases t;cases u
  simp only at*
  subst a;subst b;subst c;subst d;subst g
  rw[bytes_inj e,bytes_inj f]
 ·rintro rfl;simp
theorem op_eq (t u:AP)(w:World):(Op.equalIn 10000 274 (O9 t) (O9 u)).run Tryz.prog w=.ok (decide (t=u)) w:=by
 have hS:Tryz.prog.underlying 274=some (.struct (Tryz.prog.fieldsOf 274)):=by kernel_rfl
 have hp:Tryz.prog.stoodInHeld 274=false:=by kernel_rfl
 have u3:=Tryz.underlying3
 have a3:=Tryz.isAgg3
 have z3:=Tryz.sizeOf3
 have u4:=Tryz.underlying4
 have a4:=Tryz.isAgg4
 have z4:=Tryz.sizeOf4
 have u9:=Tryz.underlying9
 have a9:=Tryz.isAgg9
 have z9:=Tryz.sizeOf9
 rw[←Ia,show(10000:Nat)=9999+1 from rfl,run_equalIn_agg w 9999 274 _ _ hS hp]
 simp only[Program.fieldsOf,Tryz.underlying274]
 go_simp
 clear hS hp u3 a3 z3 u4 a4 z4 u9 a9 z9
 unfold On
 by_cases h1:t.kind=u.kind<;>by_cases h2:t.a=u.a<;>by_cases h3:t.b=u.b<;>simp[h1,h2,h3]
 by_cases h1:t.c=u.c<;>by_cases h2:t.s.toList=u.s.toList<;>by_cases h3:t.t.toList=u.t.toList<;>simp[h1,h2,h3]
 by_cases h1:t.must=u.must<;>simp[h1]
theorem OR (a b:AP)(y z:Operand)(w:World):((do eqGuard .neq 274 y z (O9 a) (O9 b);binOp .neq 274 (O9 a) (O9 b):Sem Value)).run Tryz.prog w=.ok (.bool (!decide (a=b))) w:=by
 rw[Sem.run_bind,run_eqGuard_agg w .neq 274 y z _ _ (by kernel_rfl),Result.andThen_ok,run_neq_struct,op_eq];rfl
theorem AM (a b:List AP)(ha:a.length≤100000):af Tryz.prog 179 [] [xl a,xl b] [] (aA (decide (a=b))):=by
 have hlm:(a.map C6).length=a.length:=aM ..
 have hlm':(b.map C6).length=b.length:=aM ..
 refine af.ah (rvs:=[.tmp 4]) G aa Tryz.func179 rfl Tryz.ntmps179 rfl rfl ?_;with_reducible refine wD ?_
 by_cases g1:a.length=b.length
 ·(have fct:=And.intro hlm (And.intro hlm' (g1));(repeat' (first
  |refine gF ?_|refine aE ?_ ?_
  |apply trivial));all_goals clear fct)
  refine aR.use G aa (fun(k:Nat)=>[(0,xl a),(1,xl b),(5,aj k)]) (fun _=>[]) (fun k=>k≤a.length∧∀j,j<k→a[j]? =b[j]?) (fun k=>a.length-k) 0 ⟨Nat.zero_le _,fun j hj=>by omega⟩
   ⟨⟨rfl,rfl⟩,⟨rfl,rfl,rfl,trivial⟩,trivial⟩ ?_
  intro k ⟨hk,hno⟩
  with_reducible refine wK ?_
  refine aQ.mk (fun h1=>?_) (fun h1=>?_)<;>(try simp only[aq] at h1)<;>with_reducible refine wK ?_
  ·simp only[hlm,aL] at h1
   have hk':k<a.length:=by omega
   obtain⟨⟨x1,x2,x3,x4,x5,x6,x7⟩,hx⟩:∃x,a[k]? =some x:=⟨_,aP hk'⟩
   obtain⟨⟨y1,y2,y3,y4,y5,y6,y7⟩,hy⟩:∃y,b[k]? =some y:=⟨_,aP (by omega)⟩
   refine ak.mk k (QA ⟨x1,x2,x3,x4,x5,x6,x7⟩) rfl (I1 hx) ?_;with_reducible refine wK ?_
   refine ak.mk k (QA ⟨y1,y2,y3,y4,y5,y6,y7⟩) rfl (I1 hy) ?_;with_reducible refine wK ?_
   refine yU.mk _ (fun y z w=>OR ⟨x1,x2,x3,x4,x5,x6,x7⟩ ⟨y1,y2,y3,y4,y5,y6,y7⟩ y z w) ?_;with_reducible refine wK ?_
   by_cases e:(⟨x1,x2,x3,x4,x5,x6,x7⟩:AP)=⟨y1,y2,y3,y4,y5,y6,y7⟩
   ·have e':=hx.trans ((congrArg some e).trans hy.symm)
    rw[aV e]
    repeat' (first
  |refine gK ?_|refine aE ?_ ?_
  |(((with_reducible show ay _ _);refine ay.mk (k+1) ⟨by omega,mE hno e'⟩ (by omega) ⟨⟨rfl,rfl⟩,⟨rfl,rfl,by show((k+1:Nat):Int)=(k:Int)+1;omega,trivial⟩,trivial⟩)<;>with_reducible refine wK ?_)
  | apply trivial)
   ·rw[show decide (a=b)=false from aS fun h=>e (by rw[h] at hx;rw[hx] at hy;exact Option.some.inj hy),aS e]
    repeat' (first
  |refine gK ?_|refine aE ?_ ?_
  |apply trivial)
  ·have hkl:k=a.length:=by simp only[hlm,bh] at h1;omega
   subst hkl
   rw[show decide (a=b)=true from aV (mI g1 hno)]
   (have fct:=hlm;(repeat' (first
  |refine gF ?_|refine aE ?_ ?_
  |apply trivial));all_goals clear fct)
 ·rw[show decide (a=b)=false from aS fun h=>g1 (by rw[h])]
  (have fct:=And.intro hlm (And.intro hlm' (g1));(repeat' (first
  |refine gF ?_|refine aE ?_ ?_
  |apply trivial));all_goals clear fct)
theorem Ml (a b:aI)(ha:zZ a):af Tryz.prog 108 [] [bK a,bK b] [] (aA (decide (a=b))):=by
 have h29p:=AM a.peek b.peek ha.peek
 have h29m:=AM a.make b.make ha.make
 have hpr:=ha.progs
 have hal:=ha.watch
 have hah:=ha.hooks
 have hne:∀ {p:Prop},p→(p→a≠b)→decide (a=b)=false:=fun h g=>aS (g h)
 obtain⟨a1,a2,a3,a4,a5⟩:=a
 obtain⟨b1,b2,b3,b4,b5⟩:=b
 simp only at h29p h29m hpr hal hah
 have n2:(a2.map jO).length=a2.length:=aM ..
 have m2:(b2.map jO).length=b2.length:=aM ..
 have n5:(a5.map jk).length=a5.length:=aM ..
 have m5:(b5.map jk).length=b5.length:=aM ..
 refine af.ah (rvs:=[.tmp 4]) G aa Tryz.func108 rfl Tryz.ntmps108 rfl rfl ?_;with_reducible refine wD ?_
 by_cases g1:a1=b1
 case neg=>
  rw[hne g1 fun g e=>g (congrArg aI.form e)]
  (have fct:=(eq_false g1);(repeat' (first
  |refine gF ?_|refine aE ?_ ?_
  |apply trivial));all_goals clear fct)
 subst g1
 by_cases g2:a2.length=b2.length
 case neg=>
  rw[hne g2 fun g e=>g (congrArg (fun c=>c.watch.length) e)]
  (have fct:=And.intro n2 (And.intro m2 ((eq_false g2)));(repeat' (first
  |refine gF ?_|refine aE ?_ ?_
  |apply trivial));all_goals clear fct)
 by_cases g3:a3=b3
 case neg=>
  rw[hne g3 fun g e=>g (congrArg aI.peek e)]
  rw[aS g3] at h29p
  (have fct:=And.intro n2 (And.intro m2 (g2));(repeat' (first
  |refine gF ?_|refine aE ?_ ?_
  |(((with_reducible refine kQ 179 ?_);refine cL h29p AA ?_)<;>with_reducible refine wK ?_)
  |apply trivial));all_goals clear fct)
 rw[aV g3] at h29p
 by_cases g4:a4=b4
 case neg=>
  rw[hne g4 fun g e=>g (congrArg aI.make e)]
  rw[aS g4] at h29m
  (have fct:=And.intro n2 (And.intro m2 (g2));(repeat' (first
  |refine gF ?_|refine aE ?_ ?_
  |(((with_reducible refine kQ 179 ?_);first|refine cL h29p AA ?_|refine cL h29m AA ?_)<;>with_reducible refine wK ?_)
  |apply trivial));all_goals clear fct)
 rw[aV g4] at h29m
 by_cases g5:a5.length=b5.length
 case neg=>
  rw[hne g5 fun g e=>g (congrArg (fun c=>c.hooks.length) e)]
  (have fct:=And.intro n2 (And.intro m2 (And.intro g2 (And.intro n5 (And.intro m5 ((eq_false g5))))));(repeat' (first
  |refine gF ?_|refine aE ?_ ?_
  |(((with_reducible refine kQ 179 ?_);first|refine cL h29p AA ?_|refine cL h29m AA ?_)<;>with_reducible refine wK ?_)
  |apply trivial));all_goals clear fct)
 (have fct:=And.intro n2 (And.intro m2 (And.intro g2 (And.intro n5 (And.intro m5 (g5)))));(repeat' (first
  |refine gF ?_|refine aE ?_ ?_
  |(((with_reducible refine kQ 179 ?_);first|refine cL h29p AA ?_|refine cL h29m AA ?_)<;>with_reducible refine wK ?_)
  |apply trivial));all_goals clear fct)
 refine aR.use G aa (fun(k:Nat)=>[(2,.ptr 20 0 0),(3,.ptr 30 0 0),(5,aj k)]) (fun _=>[(20,.live 5 [bK ⟨a1,a2,a3,a4,a5⟩] false),(30,.live 5 [bK ⟨a1,b2,b3,b4,b5⟩] false)]) (fun k=>k≤a2.length∧∀j,j<k→a2[j]? =b2[j]?) (fun k=>a2.length-k) 0 ⟨Nat.zero_le _,fun j hj=>by omega⟩
  ⟨⟨rfl,rfl⟩,⟨⟨rfl,rfl⟩,⟨rfl,rfl⟩,rfl,trivial⟩,⟨⟨rfl,rfl,rfl,rfl,rfl,trivial⟩,trivial⟩,⟨⟨rfl,rfl,rfl,rfl,rfl,trivial⟩,trivial⟩,trivial⟩ ?_
 intro k ⟨hk,hno⟩
 with_reducible refine wK ?_
 refine aQ.mk (fun h1=>?_) (fun h1=>?_)<;>(try simp only[aq] at h1)<;>with_reducible refine wK ?_
 ·simp only[n2,aL] at h1
  obtain⟨x,hx⟩:∃x,a2[k]? =some x:=⟨_,aP (by omega)⟩
  obtain⟨y,hy⟩:∃y,b2[k]? =some y:=⟨_,aP (by omega)⟩
  refine ak.mk k (bG x) rfl (gZ hx) ?_;with_reducible refine wK ?_
  refine ak.mk k (bG y) rfl (gZ hy) ?_;with_reducible refine wK ?_
  by_cases e:x=y
  ·have e':=hx.trans ((congrArg some e).trans hy.symm)
   (have fct:=e;(repeat' (first
  |refine gF ?_|refine aE ?_ ?_
  |(((with_reducible show ay _ _);refine ay.mk (k+1) ⟨by omega,mE hno e'⟩ (by omega) ⟨⟨rfl,rfl⟩,⟨⟨rfl,rfl⟩,⟨rfl,rfl⟩,by show((k+1:Nat):Int)=(k:Int)+1;omega,trivial⟩,⟨⟨rfl,rfl,rfl,rfl,rfl,trivial⟩,trivial⟩,⟨⟨rfl,rfl,rfl,rfl,rfl,trivial⟩,trivial⟩,trivial⟩)<;>with_reducible refine wK ?_)
  |apply trivial));all_goals clear fct)
  ·rw[hne e fun g h=>g (by have h2:=congrArg aI.watch h;simp only at h2;rw[h2,hy] at hx;exact(Option.some.inj hx).symm)]
   (have fct:=(eq_false e);(repeat' (first
  |refine gF ?_|refine aE ?_ ?_
  |apply trivial));all_goals clear fct)
 ·have hkl:k=a2.length:=by simp only[n2,bh] at h1;omega
  subst hkl
  have e2:=mI g2 hno
  refine aR.use G aa (fun(k:Nat)=>[(2,.ptr 20 0 0),(3,.ptr 30 0 0),(6,aj k)]) (fun _=>[(20,.live 5 [bK ⟨a1,a2,a3,a4,a5⟩] false),(30,.live 5 [bK ⟨a1,b2,b3,b4,b5⟩] false)]) (fun k=>k≤a5.length∧∀j,j<k→a5[j]? =b5[j]?) (fun k=>a5.length-k) 0 ⟨Nat.zero_le _,fun j hj=>by omega⟩
   ⟨⟨rfl,rfl⟩,⟨⟨rfl,rfl⟩,⟨rfl,rfl⟩,rfl,trivial⟩,⟨⟨rfl,rfl,rfl,rfl,rfl,trivial⟩,trivial⟩,⟨⟨rfl,rfl,rfl,rfl,rfl,trivial⟩,trivial⟩,trivial⟩ ?_
  intro k ⟨hk,hno⟩
  with_reducible refine wK ?_
  refine aQ.mk (fun h1=>?_) (fun h1=>?_)<;>(try simp only[aq] at h1)<;>with_reducible refine wK ?_
  ·simp only[n5,aL] at h1
   obtain⟨⟨x1,x2⟩,hx⟩:∃x,a5[k]? =some x:=⟨_,aP (by omega)⟩
   obtain⟨⟨y1,y2⟩,hy⟩:∃y,b5[k]? =some y:=⟨_,aP (by omega)⟩
   have h29:=AM x2 y2 (hpr _ (bn hx))
   have hb:¬ ((⟨x1,x2⟩:dn)=⟨y1,y2⟩)→decide ((⟨a1,a2,a3,a4,a5⟩:aI)=⟨a1,b2,b3,b4,b5⟩)=false:=fun e=>hne e fun g h=>g (by have h2:=congrArg aI.hooks h;simp only at h2;rw[h2,hy] at hx;exact(Option.some.inj hx).symm)
   refine ak.mk k (iF ⟨x1,x2⟩) rfl (eu hx) ?_;with_reducible refine wK ?_
   refine ak.mk k (iF ⟨y1,y2⟩) rfl (eu hy) ?_;with_reducible refine wK ?_
   by_cases e:x1=y1
   ·by_cases e3:x2=y2
    ·have e':=hx.trans ((congrArg some (show(⟨x1,x2⟩:dn)=⟨y1,y2⟩ by rw[e,e3])).trans hy.symm)
     rw[aV e3] at h29
     (have fct:=e;(repeat' (first
  |refine gF ?_|refine aE ?_ ?_
  | ((first
   |((with_reducible show ak _ _ _ _ _);first|refine ak.mk k (iF ⟨x1,x2⟩) rfl (eu hx) ?_|refine ak.mk k (iF ⟨y1,y2⟩) rfl (eu hy) ?_)
   |((with_reducible refine kQ 179 ?_);refine cL h29 AA ?_)
   |((with_reducible show ay _ _);refine ay.mk (k+1) ⟨by omega,mE hno e'⟩ (by omega) ⟨⟨rfl,rfl⟩,⟨⟨rfl,rfl⟩,⟨rfl,rfl⟩,by show((k+1:Nat):Int)=(k:Int)+1;omega,trivial⟩,⟨⟨rfl,rfl,rfl,rfl,rfl,trivial⟩,trivial⟩,⟨⟨rfl,rfl,rfl,rfl,rfl,trivial⟩,trivial⟩,trivial⟩))<;>with_reducible refine wK ?_)
  | apply trivial));all_goals clear fct)
    ·rw[hb fun h=>e3 (congrArg dn.prog h)]
     rw[aS e3] at h29
     (have fct:=e;(repeat' (first
  |refine gF ?_|refine aE ?_ ?_
  | ((first
   |((with_reducible show ak _ _ _ _ _);first|refine ak.mk k (iF ⟨x1,x2⟩) rfl (eu hx) ?_|refine ak.mk k (iF ⟨y1,y2⟩) rfl (eu hy) ?_)
   |((with_reducible refine kQ 179 ?_);refine cL h29 AA ?_))<;>with_reducible refine wK ?_)
  | apply trivial));all_goals clear fct)
   ·rw[hb fun h=>e (congrArg dn.kind h)]
    (have fct:=(eq_false e);(repeat' (first
  |refine gF ?_|refine aE ?_ ?_
  |apply trivial));all_goals clear fct)
  ·have hkl:k=a5.length:=by simp only[n5,bh] at h1;omega
   subst hkl
   rw[show decide ((⟨a1,a2,a3,a4,a5⟩:aI)=⟨a1,b2,b3,b4,b5⟩)=true from aV (by rw[e2,g3,g4,mI g5 hno])]
   repeat' (first
  |refine gK ?_|refine aE ?_ ?_
  |apply trivial)
def vo (h:dn):Bool:=decide (h.prog.length≤80)
def o3 (c:aI):Bool:=(((decide (c.watch.length≤20)&&decide (c.hooks.length≤20))&&decide (c.peek.length≤80))&&decide (c.make.length≤80))&&c.hooks.all vo
def lP (cs:List aI):Bool:=decide (cs.length≤14)&&cs.all o3
theorem nP {cs:List aI}(h:lP cs=true):kH cs:=by
 intro c hc
 unfold lP at h
 rw[aT,List.all_eq_true] at h
 have h2:=h.2 c hc
 unfold o3 at h2
 simp only[aT,aL,List.all_eq_true] at h2
 obtain⟨⟨⟨⟨h3,h4⟩,h5⟩,h6⟩,h7⟩:=h2
 exact⟨by omega,by omega,by omega,by omega,fun x hx=>by have:=h7 x hx;unfold vo at this;simp only[aL] at this;omega⟩
theorem OB (cs:List aI):af Tryz.prog 70 [] [bF cs] [] (aA (lP cs)):=by
 unfold lP
 have hlm:(cs.map cZ).length=cs.length:=aM ..
 refine af.ah (rvs:=[.tmp 2]) G aa Tryz.func70 rfl Tryz.ntmps70 rfl rfl ?_;with_reducible refine wD ?_
 by_cases e0:(14:Int)< (cs.length:Int)
 ·rw[aS (show ¬cs.length≤14 by omega)]
  (have fct:=And.intro hlm (e0);(repeat' (first
  |refine gF ?_|refine aE ?_ ?_
  |apply trivial));all_goals clear fct)
  all_goals rfl
 rw[aV (show cs.length≤14 by omega),Bool.true_and]
 (have fct:=And.intro hlm ((eq_false e0));(repeat' (first
  |refine gF ?_|refine aE ?_ ?_
  |apply trivial));all_goals clear fct)
 refine aR.use G aa (fun(k:Nat)=>[(0,bF cs),(3,aj k)]) (fun _=>[])
  (fun k=>k≤cs.length∧∀ (j:Nat) (y:aI),j<k→cs[j]? =some y→o3 y=true) (fun k=>cs.length-k) 0 ⟨Nat.zero_le _,fun j y h=>by omega⟩
  ⟨⟨rfl,rfl⟩,⟨rfl,rfl,trivial⟩,trivial⟩ ?_
 rintro k ⟨hk,hok⟩
 with_reducible refine wK ?_
 refine aQ.mk (fun h1=>?_) (fun h1=>?_)<;>(try simp only[aq] at h1)<;>with_reducible refine wK ?_
 ·have hk':k<cs.length:=by simp only[aL] at h1;omega
  obtain⟨x,hx⟩:∃x,cs[k]? =some x:=⟨_,aP hk'⟩
  have bad:o3 x=false→cs.all o3=false:=fun h=>jS hx h
  have good:o3 x=true→∀ (j:Nat) (y:aI),j<k+1→cs[j]? =some y→o3 y=true:=fun h j y hj hy=>by
   rcases Nat.lt_or_ge j k with h6|h6
   ·exact hok j y h6 hy
   ·have:j=k:=by omega
    subst this
    rw[hx] at hy;cases hy;exact h
  obtain⟨c1,c2,c3,c4,c5⟩:=x
  have n2:(c2.map jO).length=c2.length:=aM ..
  have n3:(c3.map C6).length=c3.length:=aM ..
  have n4:(c4.map C6).length=c4.length:=aM ..
  have n5:(c5.map jk).length=c5.length:=aM ..
  have sk:o3 ⟨c1,c2,c3,c4,c5⟩=((((decide (c2.length≤20)&&decide (c5.length≤20))&&decide (c3.length≤80))&&decide (c4.length≤80))&&c5.all vo):=rfl
  rw[sk] at bad good
  refine ak.mk k (bK ⟨c1,c2,c3,c4,c5⟩) rfl (cU hx) ?_;with_reducible refine wK ?_
  by_cases e1:(20:Int)< (c2.length:Int)
  ·rw[bad (by rw[aS (show ¬c2.length≤20 by omega)];rfl)]
   (have fct:=And.intro n2 (e1);(repeat' (first
  |refine gF ?_|refine aE ?_ ?_
  |apply trivial));all_goals clear fct)
  by_cases e2:(20:Int)< (c5.length:Int)
  ·rw[bad (by rw[aS (show ¬c5.length≤20 by omega),Bool.and_false];rfl)]
   (have fct:=And.intro n2 (And.intro n5 (And.intro (eq_false e1) (e2)));(repeat' (first
  |refine gF ?_|refine aE ?_ ?_
  |apply trivial));all_goals clear fct)
  by_cases e3:(80:Int)< (c3.length:Int)
  ·rw[bad (by rw[aS (show ¬c3.length≤80 by omega),Bool.and_false];rfl)]
   (have fct:=And.intro n2 (And.intro n5 (And.intro n3 (And.intro (eq_false e1) (And.intro (eq_false e2) (e3)))));(repeat' (first
  |refine gF ?_|refine aE ?_ ?_
  |apply trivial));all_goals clear fct)
  by_cases e4:(80:Int)< (c4.length:Int)
  ·rw[bad (by rw[aS (show ¬c4.length≤80 by omega),Bool.and_false];rfl)]
   (have fct:=And.intro n2 (And.intro n5 (And.intro n3 (And.intro n4 (And.intro (eq_false e1) (And.intro (eq_false e2) (And.intro (eq_false e3) (e4)))))));(repeat' (first
  |refine gF ?_|refine aE ?_ ?_
  |apply trivial));all_goals clear fct)
  rw[aV (show c2.length≤20 by omega),aV (show c5.length≤20 by omega),aV (show c3.length≤80 by omega),aV (show c4.length≤80 by omega)] at bad good
  simp only[Bool.true_and] at bad good
  (have fct:=And.intro n2 (And.intro n5 (And.intro n3 (And.intro n4 (And.intro (eq_false e1) (And.intro (eq_false e2) (And.intro (eq_false e3) ((eq_false e4))))))));(repeat' (first
  |refine gF ?_|refine aE ?_ ?_
  |apply trivial));all_goals clear fct)
  refine aR.use G aa (fun(j:Nat)=>[(0,bF cs),(3,aj k),(4,.ptr 40 0 0),(5,aj j)]) (fun _=>[(40,.live 5 [bK ⟨c1,c2,c3,c4,c5⟩] false)])
   (fun j=>j≤c5.length∧∀ (i:Nat) (y:dn),i<j→c5[i]? =some y→vo y=true) (fun j=>c5.length-j) 0 ⟨Nat.zero_le _,fun j y h=>by omega⟩
   ⟨⟨rfl,rfl⟩,⟨rfl,rfl,⟨rfl,rfl⟩,rfl,trivial⟩,⟨⟨rfl,rfl,rfl,rfl,rfl,trivial⟩,trivial⟩,trivial⟩ ?_
  rintro j ⟨hj,hoj⟩
  with_reducible refine wK ?_
  refine aQ.mk (fun h2=>?_) (fun h2=>?_)<;>(try simp only[aq] at h2)<;>with_reducible refine wK ?_
  ·have hj':j<c5.length:=by simp only[aL] at h2;omega
   obtain⟨⟨u1,u2⟩,hu⟩:∃x,c5[j]? =some x:=⟨_,aP hj'⟩
   have nu:(u2.map C6).length=u2.length:=aM ..
   refine ak.mk j (iF ⟨u1,u2⟩) rfl (eu hu) ?_;with_reducible refine wK ?_
   by_cases e:(80:Int)< (u2.length:Int)
   ·rw[bad (jS hu (aS (show ¬u2.length≤80 by omega)))]
    (have fct:=And.intro nu (e);(repeat' (first
  |refine gF ?_|refine aE ?_ ?_
  | apply trivial));all_goals clear fct)
   ·have hnx:∀ (i:Nat) (y:dn),i<j+1→c5[i]? =some y→vo y=true:=fun i y hi hy=>by
     rcases Nat.lt_or_ge i j with h6|h6
     ·exact hoj i y h6 hy
     ·have:i=j:=by omega
      subst this
      rw[hu] at hy;cases hy;exact aV (show u2.length≤80 by omega)
    (have fct:=And.intro nu ((eq_false e));(repeat' (first
  |refine gF ?_|refine aE ?_ ?_
  |(((with_reducible show ay _ _);refine ay.mk (j+1) ⟨by omega,hnx⟩ (by omega) ⟨⟨rfl,rfl⟩,⟨rfl,rfl,⟨rfl,rfl⟩,by show((j+1:Nat):Int)=(j:Int)+1;omega,trivial⟩,⟨⟨rfl,rfl,rfl,rfl,rfl,trivial⟩,trivial⟩,trivial⟩)<;>with_reducible refine wK ?_)
  |apply trivial));all_goals clear fct)
  ·have hjl:j=c5.length:=by simp only[bh] at h2;omega
   have hnx:=good (ja fun i y hy=>hoj i y (by have:=(aZ hy).1;omega) hy)
   repeat' (first
  |refine gK ?_|refine aE ?_ ?_
  |(((with_reducible show ay _ _);refine ay.mk (k+1) ⟨by omega,hnx⟩ (by omega) ⟨⟨rfl,rfl⟩,⟨rfl,by show((k+1:Nat):Int)=(k:Int)+1;omega,trivial⟩,trivial⟩)<;>with_reducible refine wK ?_)
  |apply trivial)
 ·have hkl:k=cs.length:=by simp only[bh] at h1;omega
  rw[ja fun j y hy=>hok j y (by have:=(aZ hy).1;omega) hy]
  (refine eK ?_ ?_<;>with_reducible repeat' (first|exact trivial|(show _∧_;refine aK ?_ ?_)))
def A1 (c:aI)(k:Int):Int:=fe (fun h=>decide (h.kind=k)) c.hooks
theorem CV (c:aI)(k:Int):(A1 c k=-1∧cm c k=false∧I5 c k=[])∨∃ (i:Nat) (h:dn),A1 c k=i∧c.hooks[i]? =some h∧cm c k=true∧I5 c k=h.prog:=by
 unfold A1 cm I5 wT fe
 cases e:c.hooks.findIdx? (fun h=>decide (h.kind=k)) with
 | none=>
   have:c.hooks.find? (fun h=>decide (h.kind=k))=none:=by
    rw[List.find?_eq_none]
    rw[List.findIdx?_eq_none_iff] at e
    intro x hx;rw[e x hx];simp
   rw[this]
   exact .inl ⟨rfl,rfl,rfl⟩
 | some i=>
   obtain⟨h1,h2,h3⟩:=List.findIdx?_eq_some_iff_getElem.1 e
   have:c.hooks.find? (fun h=>decide (h.kind=k))=some c.hooks[i]:=by
    rw[List.find?_eq_some_iff_getElem]
    refine⟨h2,i,h1,rfl,fun j hj=>?_⟩
    have:=h3 j hj
    simpa using this
   rw[this]
   exact .inr ⟨i,_,rfl,aP h1,rfl,rfl⟩
theorem Mi (c:aI)(hl:c.hooks.length≤100000)(n:Int):af Tryz.prog 230 [] [bK c,aj n] [] (aj (A1 c n)):=by
 unfold A1
 obtain⟨c1,c2,c3,c4,c5⟩:=c
 try simp only at hl ⊢
 have hlm:(c5.map jk).length=c5.length:=aM ..
 refine af.ah (rvs:=[.tmp 4]) G aa Tryz.func230 rfl Tryz.ntmps230 rfl rfl ?_;with_reducible refine wD ?_
 refine aR.use G aa (fun(k:Nat)=>[(1,aj n),(2,.ptr 20 0 0),(5,aj k)]) (fun _=>[(20,.live 5 [bK ⟨c1,c2,c3,c4,c5⟩] false)]) (fun k=>k≤c5.length∧∀j x,j<k→c5[j]? =some x→decide (x.kind=n)=false) (fun k=>c5.length-k) 0 ⟨Nat.zero_le _,fun j x h=>by omega⟩
  ⟨⟨rfl,rfl⟩,⟨rfl,⟨rfl,rfl⟩,rfl,trivial⟩,⟨⟨rfl,rfl,rfl,rfl,rfl,trivial⟩,trivial⟩,trivial⟩ ?_
 rintro k ⟨hk,hno⟩
 with_reducible refine wK ?_
 refine aQ.mk (fun h1=>?_) (fun h1=>?_)<;>(try simp only[aq] at h1)<;>with_reducible refine wK ?_
 ·simp only[aL] at h1
  have hk':k<c5.length:=by omega
  obtain⟨⟨u1,u2⟩,ha⟩:∃a,c5[k]? =some a:=⟨_,aP hk'⟩
  refine ak.mk k (iF ⟨u1,u2⟩) rfl (eu ha) ?_;with_reducible refine wK ?_
  refine aQ.mk (fun h2=>?_) (fun h2=>?_)<;>(try simp only[aq] at h2)<;>with_reducible refine wK ?_
  ·(refine eK ?_ ?_<;>with_reducible repeat' (first|exact trivial|(show _∧_;refine aK ?_ ?_)))
   exact dL ha h2 hno
  ·refine nK ?_;with_reducible refine wK ?_
   refine ay.mk (k+1) ⟨by omega,fun j x hj hx=>?_⟩ (by omega) ⟨⟨rfl,rfl⟩,⟨rfl,⟨rfl,rfl⟩,by show((k+1:Nat):Int)=(k:Int)+1;omega,trivial⟩,⟨⟨rfl,rfl,rfl,rfl,rfl,trivial⟩,trivial⟩,trivial⟩
   rcases Nat.lt_or_ge j k with h6|h6
   ·exact hno j x h6 hx
   ·have:j=k:=by omega
    subst this
    rw[ha] at hx;cases hx;exact h2
 ·(refine eK ?_ ?_<;>with_reducible repeat' (first|exact trivial|(show _∧_;refine aK ?_ ?_)))
  have:k=c5.length:=by simp only[bh] at h1;omega
  exact dm fun j x hx=>hno j x (by have:=(aZ hx).1;omega) hx
theorem uZ (c:aI)(hl:c.hooks.length≤100000)(n:Int):af Tryz.prog 178 [] [bK c,aj n] [] (aA (cm c n)):=by
 have h54:=Mi c hl n
 rcases CV c n with⟨h1,h2,_⟩|⟨i,h,h1,_,h2,_⟩
 all_goals
  rw[h1] at h54
  rw[h2]
  obtain⟨c1,c2,c3,c4,c5⟩:=c
  refine af.ah (rvs:=[.tmp 4]) G aa Tryz.func178 rfl Tryz.ntmps178 rfl rfl ?_;with_reducible refine wD ?_
  refine cL h54 QG ?_;with_reducible refine wK ?_
  (refine eK ?_ ?_<;>with_reducible repeat' (first|exact trivial|(show _∧_;refine aK ?_ ?_)))
  all_goals first|rfl|exact aV (by omega)
theorem KD (c:aI)(hl:c.hooks.length≤100000)(hw:c.watch.length≤100000)(s:ByteArray):af Tryz.prog 194 [] [bK c,bG s] [] (aA (gW c s)):=by
 have h26:=uZ c hl 4
 unfold gW
 have hyes:∀ (k:Nat) (x:ByteArray),c.watch[k]? =some x→x=s→jU c.watch s=true:=fun k x hx e=>by
  unfold jU;rw[List.any_eq_true];exact⟨x,bn hx,aV e⟩
 have hall:(∀ (j:Nat) (x:ByteArray),c.watch[j]? =some x→¬x=s)→jU c.watch s=false:=fun h=>by
  unfold jU;rw[List.any_eq_false];intro x hx
  obtain⟨j,hj⟩:=List.mem_iff_getElem?.1 hx
  rw[aS (h j x hj)];simp
 generalize jU c.watch s=hs at hyes hall ⊢
 generalize cm c 4=hb at h26 ⊢
 obtain⟨c1,c2,c3,c4,c5⟩:=c
 try simp only at hw hyes hall
 have hlm:(c2.map jO).length=c2.length:=aM ..
 refine af.ah (rvs:=[.tmp 4]) G aa Tryz.func194 rfl Tryz.ntmps194 rfl rfl ?_;with_reducible refine wD ?_
 refine aR.use G aa (fun(k:Nat)=>[(1,bG s),(2,.ptr 20 0 0),(5,aj k)]) (fun _=>[(20,.live 5 [bK ⟨c1,c2,c3,c4,c5⟩] false)]) (fun k=>k≤c2.length∧∀ (j:Nat) (x:ByteArray),j<k→c2[j]? =some x→¬x=s) (fun k=>c2.length-k) 0 ⟨Nat.zero_le _,fun j x h=>by omega⟩
  ⟨⟨rfl,rfl⟩,⟨rfl,⟨rfl,rfl⟩,rfl,trivial⟩,⟨⟨rfl,rfl,rfl,rfl,rfl,trivial⟩,trivial⟩,trivial⟩ ?_
 rintro k ⟨hk,hno⟩
 with_reducible refine wK ?_
 refine aQ.mk (fun h1=>?_) (fun h1=>?_)<;>(try simp only[aq] at h1)<;>with_reducible refine wK ?_
 ·simp only[aL] at h1
  have hk':k<c2.length:=by omega
  obtain⟨u,ha⟩:∃a,c2[k]? =some a:=⟨_,aP hk'⟩
  refine ak.mk k (bG u) rfl (gZ ha) ?_;with_reducible refine wK ?_
  refine aQ.mk (fun h2=>?_) (fun h2=>?_)<;>(try simp only[aq] at h2)<;>with_reducible refine wK ?_
  ·simp only[aL] at h2
   rw[hyes k u ha h2,Bool.and_true]
   refine cL h26 DL ?_;with_reducible refine wK ?_
   (refine eK ?_ ?_<;>with_reducible repeat' (first|exact trivial|(show _∧_;refine aK ?_ ?_)))
  ·simp only[bh] at h2
   refine nK ?_;with_reducible refine wK ?_
   refine ay.mk (k+1) ⟨by omega,fun j x hj hx=>?_⟩ (by omega) ⟨⟨rfl,rfl⟩,⟨rfl,⟨rfl,rfl⟩,by show((k+1:Nat):Int)=(k:Int)+1;omega,trivial⟩,⟨⟨rfl,rfl,rfl,rfl,rfl,trivial⟩,trivial⟩,trivial⟩
   rcases Nat.lt_or_ge j k with h6|h6
   ·exact hno j x h6 hx
   ·have:j=k:=by omega
    subst this
    rw[ha] at hx;cases hx;exact h2
 ·have:k=c2.length:=by simp only[bh] at h1;omega
  rw[hall fun j x hx=>hno j x (by have:=(aZ hx).1;omega) hx,Bool.and_false]
  (refine eK ?_ ?_<;>with_reducible repeat' (first|exact trivial|(show _∧_;refine aK ?_ ?_)))
def AG (f:ForM)(s:StateM)(d:bj)(cs:List aI)(x:dP):bw×Bool:=
 if s.phase=1∧x.kind=1 then(⟨9,mg (nd f.nodes x.node) d,⟨#[]⟩,false,false,⟨#[]⟩,⟨#[]⟩,0,0,false⟩,decide (0≤mg (nd f.nodes x.node) d))
 else if s.phase=3∧iq s d cs=true∧1≤x.kind∧x.kind≤4∧cm (ct s d cs) x.kind=true∧(x.kind=4→gW (ct s d cs) x.name=true) then(zu x,true)
 else(w4,false)
theorem M4 (f:ForM)(st:List StateM)(d:bj)(hd:fH d)(hr:dU d=true)(cs:List aI)(hc:kH cs)(x:dP)(i:Nat)(s:StateM)(y:az)(hi:x.node=i)(hx:st[i]? =some s)(hy:f.nodes[i]? =some y):af Tryz.prog 174 [] [bD f,dF st,cP d,bF cs,uw x] [] (.tup [fR (AG f s d cs x).1,aA (AG f s d cs x).2]):=by
 have h20:=Kh f i y hy d hd hr
 have h33:=Ex s d cs
 unfold AG zu w4
 rw[hi,dw hy]
 have hge:=E0 y d
 generalize mg y d=at' at h20 hge ⊢
 obtain⟨l,m⟩:=f
 obtain⟨d1,d2,d3,d4⟩:=d
 obtain⟨s1,s2,s3,s4⟩:=s
 obtain⟨x1,x2,x3,x4,x5,x6,x7,x8,x9⟩:=x
 try simp only at hi hy h33 h20 ⊢
 subst hi
 by_cases p1:s1=1∧x1=1
 ·obtain⟨rfl,rfl⟩:=p1
  rw[if_pos ⟨rfl,rfl⟩]
  refine af.ah (rvs:=[.cell 10 59,.tmp 11]) G aa Tryz.func174 rfl Tryz.ntmps174 rfl rfl ?_;with_reducible refine wD ?_
  refine ak.mk i (cf _) rfl (bN hx) ?_;with_reducible refine wK ?_
  repeat' (first
  |refine gK ?_|refine aE ?_ ?_
  |(((with_reducible refine kQ 223 ?_);refine cL h20 Q3 ?_)<;>with_reducible refine wK ?_)
  |apply trivial)
  all_goals first|rfl|simp
 rw[if_neg p1]
 have hcase:cG ⟨s1,s2,s3,s4⟩ ⟨d1,d2,d3,d4⟩ cs.length=-1∨∃ (k:Nat) (c:aI),cG ⟨s1,s2,s3,s4⟩ ⟨d1,d2,d3,d4⟩ cs.length=k∧cs[k]? =some c:=by
  rcases jy ⟨s1,s2,s3,s4⟩ ⟨d1,d2,d3,d4⟩ cs.length with e|⟨k,hk,e⟩
  ·exact .inl e
  ·exact .inr ⟨k,_,e,aP hk⟩
 rcases hcase with e|⟨k,c,e,hck⟩
 ·rw [(eL e).1,(eL e).2,if_neg (by simp)]
  rw[e] at h33
  refine af.ah (rvs:=[.cell 10 59,.tmp 11]) G aa Tryz.func174 rfl Tryz.ntmps174 rfl rfl ?_;with_reducible refine wD ?_
  refine ak.mk i (cf _) rfl (bN hx) ?_;with_reducible refine wK ?_
  by_cases q1:s1=1
  ·have q2:¬x1=1:=fun h=>p1 ⟨q1,h⟩
   (have fct:=And.intro (eq_true q1) ((eq_false q2));(repeat' (first
  |refine gF ?_|refine aE ?_ ?_
  |(((with_reducible refine kQ 193 ?_);refine cL h33 qd ?_)<;>with_reducible refine wK ?_)
  | apply trivial));all_goals clear fct)
   all_goals first|rfl|simp
  ·by_cases q3:s1=3
   ·(have fct:=And.intro (eq_false q1) ((eq_true q3));(repeat' (first
  |refine gF ?_|refine aE ?_ ?_
  |(((with_reducible refine kQ 193 ?_);refine cL h33 qd ?_)<;>with_reducible refine wK ?_)
  | apply trivial));all_goals clear fct)
    all_goals first|rfl|simp
   ·(have fct:=And.intro (eq_false q1) ((eq_false q3));(repeat' (first
  |refine gF ?_|refine aE ?_ ?_
  |(((with_reducible refine kQ 193 ?_);refine cL h33 qd ?_)<;>with_reducible refine wK ?_)
  | apply trivial));all_goals clear fct)
    all_goals first|rfl|simp
 ·have hcs:=hc c (bn hck)
  have h26:=uZ c hcs.hooks x1
  have h28:=KD c hcs.hooks hcs.watch x5
  rw[(jv e hck).1,(jv e hck).2]
  rw[e] at h33
  have hk0:¬ (k:Int)<0:=by omega
  generalize cm c x1=hb at h26 ⊢
  generalize gW c x5=wb at h28 ⊢
  obtain⟨c1,c2,c3,c4,c5⟩:=c
  by_cases q3:s1=3
  ·subst q3
   have q1:¬ (3:Int)=1:=by omega
   by_cases k1:x1<1
   ·rw[if_neg fun h=>by have:=h.2.2.1;omega]
    refine af.ah (rvs:=[.cell 10 59,.tmp 11]) G aa Tryz.func174 rfl Tryz.ntmps174 rfl rfl ?_;with_reducible refine wD ?_
    refine ak.mk i (cf _) rfl (bN hx) ?_;with_reducible refine wK ?_
    (have fct:=And.intro (eq_false hk0) ((eq_true k1));(repeat' (first
  |refine gF ?_|refine aE ?_ ?_
  |(((with_reducible refine kQ 193 ?_);refine cL h33 qd ?_)<;>with_reducible refine wK ?_)
  | apply trivial));all_goals clear fct)
    all_goals first|rfl|simp
   by_cases k4:4<x1
   ·rw[if_neg fun h=>by have:=h.2.2.2.1;omega]
    refine af.ah (rvs:=[.cell 10 59,.tmp 11]) G aa Tryz.func174 rfl Tryz.ntmps174 rfl rfl ?_;with_reducible refine wD ?_
    refine ak.mk i (cf _) rfl (bN hx) ?_;with_reducible refine wK ?_
    (have fct:=And.intro (eq_false hk0) (And.intro (eq_false k1) ((eq_true k4)));(repeat' (first
  |refine gF ?_|refine aE ?_ ?_
  |(((with_reducible refine kQ 193 ?_);refine cL h33 qd ?_)<;>with_reducible refine wK ?_)
  | apply trivial));all_goals clear fct)
    all_goals first|rfl|simp
   cases hb with
   | false=>
     rw[if_neg (by simp)]
     refine af.ah (rvs:=[.cell 10 59,.tmp 11]) G aa Tryz.func174 rfl Tryz.ntmps174 rfl rfl ?_;with_reducible refine wD ?_
     refine ak.mk i (cf _) rfl (bN hx) ?_;with_reducible refine wK ?_
     (have fct:=And.intro (eq_false hk0) (And.intro (eq_false k1) ((eq_false k4)));(repeat' (first
  |refine gF ?_|refine aE ?_ ?_
  | ((first
   |((with_reducible refine kQ 193 ?_);refine cL h33 qd ?_)
   |((with_reducible show ak _ _ _ _ _);refine ak.mk k (bK ⟨c1,c2,c3,c4,c5⟩) rfl (cU hck) ?_)
   |((with_reducible refine kQ 178 ?_);refine cL h26 DL ?_))<;>with_reducible refine wK ?_)
  | apply trivial));all_goals clear fct)
     all_goals first|rfl|simp
   | true=>
     by_cases k5:x1=4
     ·subst k5
      cases wb with
      | false=>
        rw[if_neg (by simp)]
        refine af.ah (rvs:=[.cell 10 59,.tmp 11]) G aa Tryz.func174 rfl Tryz.ntmps174 rfl rfl ?_;with_reducible refine wD ?_
        refine ak.mk i (cf _) rfl (bN hx) ?_;with_reducible refine wK ?_
        (have fct:=(eq_false hk0);(repeat' (first
  |refine gF ?_|refine aE ?_ ?_
  | ((first
   |((with_reducible refine kQ 193 ?_);refine cL h33 qd ?_)
   |((with_reducible show ak _ _ _ _ _);refine ak.mk k (bK ⟨c1,c2,c3,c4,c5⟩) rfl (cU hck) ?_)
   |((with_reducible refine kQ 178 ?_);refine cL h26 DL ?_)
   |((with_reducible refine kQ 194 ?_);refine cL h28 Pw ?_))<;>with_reducible refine wK ?_)
  |apply trivial));all_goals clear fct)
        all_goals first|rfl|simp
      | true=>
        rw[if_pos (by simp)]
        refine af.ah (rvs:=[.cell 10 59,.tmp 11]) G aa Tryz.func174 rfl Tryz.ntmps174 rfl rfl ?_;with_reducible refine wD ?_
        refine ak.mk i (cf _) rfl (bN hx) ?_;with_reducible refine wK ?_
        (have fct:=(eq_false hk0);(repeat' (first
  |refine gF ?_|refine aE ?_ ?_
  | ((first
   |((with_reducible refine kQ 193 ?_);refine cL h33 qd ?_)
   |((with_reducible show ak _ _ _ _ _);refine ak.mk k (bK ⟨c1,c2,c3,c4,c5⟩) rfl (cU hck) ?_)
   |((with_reducible refine kQ 178 ?_);refine cL h26 DL ?_)
   |((with_reducible refine kQ 194 ?_);refine cL h28 Pw ?_))<;>with_reducible refine wK ?_)
  |apply trivial));all_goals clear fct)
        all_goals first|rfl|simp
     ·rw[if_pos ⟨rfl,rfl,by omega,by omega,rfl,fun h=>absurd h k5⟩]
      refine af.ah (rvs:=[.cell 10 59,.tmp 11]) G aa Tryz.func174 rfl Tryz.ntmps174 rfl rfl ?_;with_reducible refine wD ?_
      refine ak.mk i (cf _) rfl (bN hx) ?_;with_reducible refine wK ?_
      (have fct:=And.intro (eq_false hk0) (And.intro (eq_false k1) (And.intro (eq_false k4) ((eq_false k5))));(repeat' (first
  |refine gF ?_|refine aE ?_ ?_
  | ((first
   |((with_reducible refine kQ 193 ?_);refine cL h33 qd ?_)
   |((with_reducible show ak _ _ _ _ _);refine ak.mk k (bK ⟨c1,c2,c3,c4,c5⟩) rfl (cU hck) ?_)
   |((with_reducible refine kQ 178 ?_);refine cL h26 DL ?_))<;>with_reducible refine wK ?_)
  |apply trivial));all_goals clear fct)
      all_goals first|rfl|simp
  ·rw[if_neg fun h=>q3 h.1]
   refine af.ah (rvs:=[.cell 10 59,.tmp 11]) G aa Tryz.func174 rfl Tryz.ntmps174 rfl rfl ?_;with_reducible refine wD ?_
   refine ak.mk i (cf _) rfl (bN hx) ?_;with_reducible refine wK ?_
   by_cases q1:s1=1
   ·have q2:¬x1=1:=fun h=>p1 ⟨q1,h⟩
    (have fct:=And.intro (eq_true q1) ((eq_false q2));(repeat' (first
  |refine gF ?_|refine aE ?_ ?_
  |(((with_reducible refine kQ 193 ?_);refine cL h33 qd ?_)<;>with_reducible refine wK ?_)
  | apply trivial));all_goals clear fct)
    all_goals first|rfl|simp
   ·(have fct:=And.intro (eq_false q1) ((eq_false q3));(repeat' (first
  |refine gF ?_|refine aE ?_ ?_
  |(((with_reducible refine kQ 193 ?_);refine cL h33 qd ?_)<;>with_reducible refine wK ?_)
  | apply trivial));all_goals clear fct)
    all_goals first|rfl|simp
theorem I8 (f:ForM)(st:List StateM)(d:bj)(cs:List aI)(ns:List dP):(cO f st d cs ns).length≤ns.length:=by
 unfold cO
 split
 ·exact sI _ (vu f st d cs) _
 ·simp
def MN:StateM:=⟨0,0,0,false⟩
def sX (st:List StateM)(n:Nat):StateM:=(st[n]?).getD MN
theorem NI {st:List StateM}{n:Nat}{s:StateM}(h:st[n]? =some s):sX st n=s:=by unfold sX;rw[h];rfl
def jY (f:ForM)(d:bj)(cs:List aI)(n:Int)(s:StateM):Bool:=((iq s d cs&&(ct s d cs).form)&&decide (s.phase=3))&&decide ((nd f.nodes n).kind=1)
def gE (was now:Int):bw:=⟨5,0,⟨#[]⟩,false,false,⟨#[]⟩,⟨#[]⟩,was,now,false⟩
def cA (on:Bool):bw:=⟨6,0,⟨#[]⟩,false,false,⟨#[]⟩,⟨#[]⟩,0,0,on⟩
def jl (c:aI)(n:Int)(t:bw):List ck:=if cm c t.kind=true then[⟨n,t⟩] else[]
def qj (f:ForM)(d:bj)(cs:List aI)(n:Int)(s:StateM):StateM:=if jY f d cs n s=true then⟨s.phase,s.df,iT f.nodes n,mA f.nodes n⟩ else s
def vY (f:ForM)(d:bj)(cs:List aI)(n:Int)(s:StateM):List ck:=
 if jY f d cs n s=true then
  (if s.owner=iT f.nodes n then[] else jl (ct s d cs) n (gE s.owner (iT f.nodes n)))++ (if s.barred=mA f.nodes n then[] else jl (ct s d cs) n (cA (mA f.nodes n)))
 else[]
def Ch (f:ForM)(d:bj)(cs:List aI)(st:List StateM)(k:Nat):List StateM:=(List.range st.length).map fun n:Nat=>if n<k then qj f d cs (n:Int) (sX st n) else sX st n
def Jz (f:ForM)(d:bj)(cs:List aI)(st:List StateM)(k:Nat):List ck:=(List.range k).flatMap fun n:Nat=>vY f d cs (n:Int) (sX st n)
theorem mS (f:ForM)(d:bj)(cs:List aI)(st:List StateM)(k:Nat):(Ch f d cs st k).length=st.length:=by unfold Ch;simp
theorem pU {f:ForM}{d:bj}{cs:List aI}{st:List StateM}{k n:Nat}(h:n<st.length):(Ch f d cs st k)[n]? =some (if n<k then qj f d cs (n:Int) (sX st n) else sX st n):=by
 unfold Ch
 rw[dM,List.getElem?_range h];rfl
theorem JD (f:ForM)(d:bj)(cs:List aI)(st:List StateM):Ch f d cs st 0=st:=by
 apply List.ext_getElem?
 intro n
 by_cases h:n<st.length
 ·rw[pU h,if_neg (by omega)]
  unfold sX
  rw[aP h];rfl
 ·rw[ri (l:=Ch f d cs st 0) (by rw[mS];omega),ri (l:=st) (by omega)]
theorem Bi (f:ForM)(d:bj)(cs:List aI)(st:List StateM){k:Nat}(h:k<st.length):Ch f d cs st (k+1)=(Ch f d cs st k).set k (qj f d cs (k:Int) (sX st k)):=by
 apply List.ext_getElem?
 intro n
 rw[List.getElem?_set]
 by_cases hn:n<st.length
 ·rw[pU hn]
  by_cases e:k=n
  ·subst e;rw[if_pos rfl,if_pos (by omega),if_pos (by rw[mS];exact h)]
  ·rw[if_neg e,pU hn]
   by_cases e2:n<k
   ·rw[if_pos (by omega),if_pos e2]
   ·rw[if_neg (by omega),if_neg e2]
 ·rw[ri (l:=Ch f d cs st (k+1)) (by rw[mS];omega),if_neg (by omega),ri (l:=Ch f d cs st k) (by rw[mS];omega)]
theorem Hz (f:ForM)(d:bj)(cs:List aI)(st:List StateM){k:Nat}(h:k<st.length)(hs:qj f d cs (k:Int) (sX st k)=sX st k):Ch f d cs st (k+1)=Ch f d cs st k:=by
 rw[Bi f d cs st h,hs]
 apply List.ext_getElem?
 intro n
 rw[List.getElem?_set]
 by_cases e:k=n
 ·subst e;rw[if_pos rfl,if_pos (by rw[mS];exact h),pU h,if_neg (by omega)]
 ·rw[if_neg e]
theorem vZ (f:ForM)(d:bj)(cs:List aI)(st:List StateM)(k:Nat):Jz f d cs st (k+1)=Jz f d cs st k++vY f d cs (k:Int) (sX st k):=by
 unfold Jz;rw[List.range_succ,List.flatMap_append];simp
theorem yw (c:aI)(n:Int)(t:bw):(jl c n t).length≤1:=by unfold jl;split<;>simp
theorem FR (f:ForM)(d:bj)(cs:List aI)(n:Int)(s:StateM):(vY f d cs n s).length≤2:=by
 unfold vY
 split
 ·rw[jg]
  have h1:=yw (ct s d cs) n (gE s.owner (iT f.nodes n))
  have h2:=yw (ct s d cs) n (cA (mA f.nodes n))
  have h3:∀ (p:Prop) [Decidable p] (l:List ck),(if p then[] else l).length≤l.length:=fun p _ l=>by split<;>simp
  have h4:=h3 (s.owner=iT f.nodes n) (jl (ct s d cs) n (gE s.owner (iT f.nodes n)))
  have h5:=h3 (s.barred=mA f.nodes n) (jl (ct s d cs) n (cA (mA f.nodes n)))
  omega
 ·simp
theorem uS (f:ForM)(d:bj)(cs:List aI)(st:List StateM):∀k,(Jz f d cs st k).length≤2*k
 |0=>Nat.le_refl _
 | k+1=>by
   rw[vZ,jg]
   have:=uS f d cs st k
   have:=FR f d cs (k:Int) (sX st k)
   omega
def dg (f:ForM)(st:List StateM)(d:bj)(cs:List aI):List StateM:=if iO f st d=true then Ch f d cs st st.length else st
def fJ (f:ForM)(st:List StateM)(d:bj)(cs:List aI):List ck:=if iO f st d=true then Jz f d cs st st.length else[]
theorem Oi {α:Type}{p:α→Bool}{l:List α}(h:∀ (k:Nat) (x:α),l[k]? =some x→p x=false):l.any p=false:=by
 rw[List.any_eq_false]
 intro x hx
 obtain⟨k,hk⟩:=List.getElem?_of_mem hx
 rw[h k x hk];decide
theorem Mw {α:Type}{p:α→Bool}{l:List α}{k:Nat}{x:α}(h:l[k]? =some x)(hp:p x=true):l.any p=true:=
 List.any_eq_true.2 ⟨x,bn h,hp⟩
theorem Gy {n k:Nat}(h:k<n):(List.range n)[k]? =some k:=by
 rw[aP (by simpa using h)];simp
theorem IL {n k x:Nat}(h:(List.range n)[k]? =some x):x=k∧k<n:=by
 obtain⟨h1,h2⟩:=aZ h
 simp at h1 h2
 exact⟨h2.symm,h1⟩
theorem Mt (f:ForM)(hs:bR f.nodes)(T:Tree f.nodes)(k:Nat)(x:az)(hx:f.nodes[k]? =some x):af Tryz.prog 177 [] [bD f,aj k] [] (aA (KS f.nodes k)):=by
 have h21:=Kc f hs
 have h12:∀ (k:Nat) (x:az),f.nodes[k]? =some x→af Tryz.prog 229 [] [bD f,aj k] [] (aj (xd f.nodes k)):=fun k x hx=>Mq f hs k x hx fun c hc=>by
  have:=T.kid k (cw hx) c
  rw[dw hx] at this
  exact(this hc).1
 have hleg:∀ (k:Nat) (x:az),f.nodes[k]? =some x→xd f.nodes k=-1∨∃ (i:Nat) (y:az),xd f.nodes k=(i:Int)∧f.nodes[i]? =some y:=fun k x hx=>by
  rcases lq (oo f.nodes) (nd f.nodes k).kids with h|h
  ·exact .inl h
  ·obtain⟨i,y,h1,h2,_⟩:=aX.1 (T.kid k (cw hx) _ h).1
   exact .inr ⟨i,y,h1,h2⟩
 have h22:=J3 f hs T
 have hl:=hs.len
 obtain⟨l,m⟩:=f
 unfold KS
 simp only at h21 h12 h22 hx hleg hl ⊢
 rw[dw hx]
 have h21k:=h21 k x hx
 obtain⟨a1,a2,a3,a4,a5,a6,a7,a8,a9,a10⟩:=x
 have hlm:(l.map bP).length=l.length:=aM ..
 refine af.ah (rvs:=[.tmp 4]) G aa Tryz.func177 rfl Tryz.ntmps177 rfl rfl ?_;with_reducible refine wD ?_
 refine ak.mk k (aO _) rfl (au hx) ?_;with_reducible refine wK ?_
 by_cases e1:¬a1=1
 ·rw[aS e1]
  (have fct:=(eq_false e1);(repeat' (first
  |refine gF ?_|refine aE ?_ ?_
  |apply trivial));all_goals clear fct)
  all_goals rfl
 have e1:=Decidable.not_not.1 e1
 rw[aV e1]
 refine aQ.no (by simp[e1]) ?_;with_reducible refine wK ?_
 refine cL h21k Du ?_;with_reducible refine wK ?_
 cases d0:Ak ⟨a1,a2,a3,a4,a5,a6,a7,a8,a9,a10⟩ with
 | true=>
   (have fct:=d0;(repeat' (first
  |refine gF ?_|refine aE ?_ ?_
  | apply trivial));all_goals clear fct)
   all_goals rfl
 | false =>
   refine aQ.ff ?_;with_reducible refine wK ?_
   refine aR.use G aa (fun(p:Nat)=>[(1,aj k),(2,.ptr 20 0 0),(5,aj p)]) (fun _=>[(20,.live 2 [bD ⟨l,m⟩] false)])
    (fun p=>p≤l.length∧∀q:Nat,q<p→vk l k (q:Int)=false) (fun p=>l.length-p) 0 ⟨Nat.zero_le _,fun q h=>by omega⟩
    ⟨⟨rfl,rfl⟩,⟨rfl,⟨rfl,rfl⟩,rfl,trivial⟩,⟨⟨rfl,rfl,trivial⟩,trivial⟩,trivial⟩ ?_
   rintro p ⟨hp,hno⟩
   with_reducible refine wK ?_
   refine aQ.mk (fun g1=>?_) (fun g1=>?_)<;>(try simp only[aq] at g1)<;>with_reducible refine wK ?_
   ·have hp':p<l.length:=by simp only[aL] at g1;omega
    obtain⟨z,hz⟩:∃z,l[p]? =some z:=⟨_,aP hp'⟩
    have hnz:=dw hz
    have h21p:=h21 p z hz
    have h12p:=h12 p z hz
    have h22p:=h22 p z hz k
    have hlp:=hleg p z hz
    have hbp:vk l k (p:Int)=(decide (z.name=I3)&&(Ak z&&(decide ((p:Int)≠k)&&(kT l p k&&(decide (xd l p<0)|| !kT l (xd l p) k))))):=by unfold vk;rw[hnz]
    have good:vk l k (p:Int)=false→∀q:Nat,q<p+1→vk l k (q:Int)=false:=fun h q hq=>by
     rcases Nat.lt_or_ge q p with h6|h6
     ·exact hno q h6
     ·have:q=p:=by omega
      subst this;exact h
    have yes:vk l k (p:Int)=true→(List.range l.length).any (fun p=>vk l k (p:Int))=true:=fun h=>Mw (Gy hp') h
    rw[hbp] at good yes
    obtain⟨z1,z2,z3,z4,z5,z6,z7,z8,z9,z10⟩:=z
    simp only at good yes
    refine ak.mk p (aO ⟨z1,z2,z3,z4,z5,z6,z7,z8,z9,z10⟩) rfl (au hz) ?_;with_reducible refine wK ?_
    by_cases f1:¬z2=I3
    ·have hnx:=good (by rw[aS f1];rfl)
     (have fct:=(eq_false f1);(repeat' (first
  |refine gF ?_|refine aE ?_ ?_
  |(((with_reducible show ay _ _);refine ay.mk (p+1) ⟨by omega,hnx⟩ (by omega) ⟨⟨rfl,rfl⟩,⟨rfl,⟨rfl,rfl⟩,by show((p+1:Nat):Int)=(p:Int)+1;omega,trivial⟩,⟨⟨rfl,rfl,trivial⟩,trivial⟩,trivial⟩)<;>with_reducible refine wK ?_)
  | apply trivial));all_goals clear fct)
    have f1:=Decidable.not_not.1 f1
    cases d1:Ak ⟨z1,z2,z3,z4,z5,z6,z7,z8,z9,z10⟩ with
    | false=>
      have hnx:=good (by rw[d1,Bool.false_and,Bool.and_false])
      (have fct:=And.intro f1 (d1);(repeat' (first
  |refine gF ?_|refine aE ?_ ?_
  | ((first
   |((with_reducible refine kQ 227 ?_);refine cL h21p Du ?_)
   |((with_reducible show ay _ _);refine ay.mk (p+1) ⟨by omega,hnx⟩ (by omega) ⟨⟨rfl,rfl⟩,⟨rfl,⟨rfl,rfl⟩,by show((p+1:Nat):Int)=(p:Int)+1;omega,trivial⟩,⟨⟨rfl,rfl,trivial⟩,trivial⟩,trivial⟩))<;>with_reducible refine wK ?_)
  | apply trivial));all_goals clear fct)
    | true=>
      by_cases g2:(p:Int)=k
      ·have hnx:=good (by rw[aS (fun h:(p:Int)≠k=>h g2),Bool.false_and,Bool.and_false,Bool.and_false])
       (have fct:=And.intro f1 (And.intro d1 (g2));(repeat' (first
  |refine gF ?_|refine aE ?_ ?_
  | ((first
   |((with_reducible refine kQ 227 ?_);refine cL h21p Du ?_)
   |((with_reducible show ay _ _);refine ay.mk (p+1) ⟨by omega,hnx⟩ (by omega) ⟨⟨rfl,rfl⟩,⟨rfl,⟨rfl,rfl⟩,by show((p+1:Nat):Int)=(p:Int)+1;omega,trivial⟩,⟨⟨rfl,rfl,trivial⟩,trivial⟩,trivial⟩))<;>with_reducible refine wK ?_)
  |apply trivial));all_goals clear fct)
      cases hh:kT l p k with
      | false=>
        have hnx:=good (by rw[hh,Bool.false_and,Bool.and_false,Bool.and_false,Bool.and_false])
        (have fct:=And.intro f1 (And.intro d1 (And.intro (eq_false g2) (hh)));(repeat' (first
  |refine gF ?_|refine aE ?_ ?_
  | ((first
   |((with_reducible refine kQ 227 ?_);refine cL h21p Du ?_)
   |((with_reducible refine kQ 228 ?_);refine cL h22p GJ ?_)
   |((with_reducible show ay _ _);refine ay.mk (p+1) ⟨by omega,hnx⟩ (by omega) ⟨⟨rfl,rfl⟩,⟨rfl,⟨rfl,rfl⟩,by show((p+1:Nat):Int)=(p:Int)+1;omega,trivial⟩,⟨⟨rfl,rfl,trivial⟩,trivial⟩,trivial⟩))<;>with_reducible refine wK ?_)
  |apply  trivial));all_goals clear fct)
      | true=>
        have hne:decide ((p:Int)≠k)=true:=aV g2
        rcases hlp with hlp|⟨i,y,hlp,hy⟩
        ·have hyes:=yes (by rw[aV f1,d1,hne,hh,hlp];rfl)
         rw[hlp] at h12p
         rw[hyes]
         (have fct:=And.intro f1 (And.intro d1 (And.intro (eq_false g2) (hh)));(repeat' (first
  |refine gF ?_|refine aE ?_ ?_
  | ((first
   |((with_reducible refine kQ 227 ?_);refine cL h21p Du ?_)
   |((with_reducible refine kQ 228 ?_);refine cL h22p GJ ?_)
   |((with_reducible refine kQ 229 ?_);refine cL h12p NM ?_))<;>with_reducible refine wK ?_)
  |apply  trivial));all_goals clear fct)
         all_goals rfl
        ·rw [hlp] at h12p good yes
         have h22i:=h22 i y hy k
         cases hi:kT l i k with
         | true=>
           have hnx:=good (by rw[aS (show ¬ (i:Int)<0 by omega),hi];simp)
           (have fct:=And.intro f1 (And.intro d1 (And.intro (eq_false g2) (And.intro hh (hi))));(repeat' (first
  |refine gF ?_|refine aE ?_ ?_
  | ((first
   |((with_reducible refine kQ 227 ?_);refine cL h21p Du ?_)
   |((with_reducible refine kQ 228 ?_);(first|refine cL h22p GJ ?_|refine cL h22i GJ ?_))
   |((with_reducible refine kQ 229 ?_);refine cL h12p NM ?_)
   |((with_reducible show ay _ _);refine ay.mk (p+1) ⟨by omega,hnx⟩ (by omega) ⟨⟨rfl,rfl⟩,⟨rfl,⟨rfl,rfl⟩,by show((p+1:Nat):Int)=(p:Int)+1;omega,trivial⟩,⟨⟨rfl,rfl,trivial⟩,trivial⟩,trivial⟩))<;>with_reducible refine wK ?_)
  |apply  trivial));all_goals clear fct)
         | false=>
           have hyes:=yes (by rw[aV f1,d1,hne,hh,hi];simp)
           rw[hyes]
           (have fct:=And.intro f1 (And.intro d1 (And.intro (eq_false g2) (And.intro hh (hi))));(repeat' (first
  |refine gF ?_|refine aE ?_ ?_
  | ((first
   |((with_reducible refine kQ 227 ?_);refine cL h21p Du ?_)
   |((with_reducible refine kQ 228 ?_);(first|refine cL h22p GJ ?_|refine cL h22i GJ ?_))
   |((with_reducible refine kQ 229 ?_);refine cL h12p NM ?_))<;>with_reducible refine wK ?_)
  | apply trivial));all_goals clear fct)
           all_goals rfl
   ·have hpl:p=l.length:=by simp only[bh] at g1;omega
    have hfin:(List.range l.length).any (fun p=>vk l k (p:Int))=false:=Oi fun j q hq=>by
     obtain⟨rfl,h1⟩:=IL hq
     exact hno q (by omega)
    rw[hfin]
    (refine eK ?_ ?_<;>with_reducible repeat' (first|exact trivial|(show _∧_;refine aK ?_ ?_)))
    all_goals rfl
theorem Eg (x:az):af Tryz.prog 252 [] [aO x] [] (aA (gm x)):=by
 obtain⟨a1,a2,a3,a4,a5,a6,a7,a8,a9,a10⟩:=x
 unfold gm
 refine af.ah (rvs:=[.tmp 2]) G aa Tryz.func252 rfl Tryz.ntmps252 rfl rfl ?_;with_reducible refine wD ?_
 by_cases e:a1=1
 ·(have fct:=(eq_true e);(repeat' (first
  |refine gF ?_|refine aE ?_ ?_
  |apply trivial));all_goals clear fct)
  all_goals simp[e]
 ·(have fct:=(eq_false e);(repeat' (first
  |refine gF ?_|refine aE ?_ ?_
  |apply trivial));all_goals clear fct)
  all_goals simp[e]
theorem M5 (f:ForM)(T:Tree f.nodes)(n:Int)(hn:ai f.nodes n=true):af Tryz.prog 267 [] [bD f,aj n] [] (aj (dD f.nodes n)):=by
 have hstep:=fun n h1 h2=>pY T (n:=n) h1 h2
 have htop:=fun n h1 h2=>rE T (n:=n) h1 h2
 have hwst:=fun n h1 h2=>bY T (n:=n) h1 h2
 have hpar:∀n,ai f.nodes n=true→(nd f.nodes n).parent=-1∨ai f.nodes (nd f.nodes n).parent=true:=fun n hn=>by
  by_cases h:(nd f.nodes n).parent=-1
  ·exact .inl h
  ·exact .inr (T.par n hn h).1
 obtain⟨l,m⟩:=f
 simp only at hn hstep htop hpar hwst ⊢
 refine af.ah (rvs:=[.tmp 4]) G aa Tryz.func267 rfl Tryz.ntmps267 rfl rfl ?_;with_reducible refine wD ?_
 refine aR.use G aa (fun(c:Int)=>[(1,aj c),(2,.ptr 20 0 0)]) (fun _=>[(20,.live 2 [bD ⟨l,m⟩] false)])
  (fun c=>ai l c=true∧dD l c=dD l n) (fun c=>(bS l c).length) n ⟨hn,rfl⟩
  ⟨⟨rfl,rfl⟩,⟨rfl,⟨rfl,rfl⟩,trivial⟩,⟨⟨rfl,rfl,trivial⟩,trivial⟩,trivial⟩ ?_
 rintro c ⟨hc,hr⟩
 with_reducible refine wK ?_
 obtain⟨i,y,e,hy,hny⟩:=aX.1 hc
 have hpc:=hpar c hc
 have hst:=hstep c hc
 have htp:=htop c hc
 have hws:=hwst c hc
 rw[hny] at hpc hst htp hws
 obtain⟨b1,b2,b3,b4,b5,b6,b7,b8,b9,b10⟩:=y
 simp only at hpc hst htp hws
 by_cases e6:b6=-1
 ·rw[←hr,htp e6]
  (have fct:=(eq_true e6);(repeat' (first
  |refine gF ?_|refine aE ?_ ?_
  |((refine ak.mk i (aO _) e (au hy) ?_)<;>with_reducible refine wK ?_)
  |apply trivial));all_goals clear fct)
  all_goals rfl
 ·(have fct:=(eq_false e6);(repeat' (first
  |refine gF ?_|refine aE ?_ ?_
  | ((first
   |(refine ak.mk i (aO _) e (au hy) ?_)
   |((with_reducible show ay _ _);refine ay.mk b6 ⟨hpc.resolve_left e6,by rw[←hst e6,hr]⟩ (by rw[hws e6];simp) ⟨⟨rfl,rfl⟩,⟨rfl,⟨rfl,rfl⟩,trivial⟩,⟨⟨rfl,rfl,trivial⟩,trivial⟩,trivial⟩))<;>with_reducible refine wK ?_)
  |apply trivial));all_goals clear fct)
theorem s8 (f:ForM)(n:Int):(bf f&& !decide (0≤fe (fun n=> !ai f.nodes n) [n]))=(bf f&&ai f.nodes n):=by
 congr 1
 unfold fe
 cases h:ai f.nodes n<;>simp[List.findIdx?_cons,h]
theorem KQ (f:ForM)(hs:bR f.nodes)(hr:bf f=true)(n:Int)(hn:ai f.nodes n=true):af Tryz.prog 251 [] [bD f,aj n] [] (aj (dD f.nodes n)):=by
 have h76:=AH f hs [n] (by simp)
 rw[s8,hr,hn] at h76
 have h77:=M5 f (gO hr) n hn
 obtain⟨l,m⟩:=f
 refine af.ah (rvs:=[.tmp 4]) G aa Tryz.func251 rfl Tryz.ntmps251 rfl rfl ?_;with_reducible refine wD ?_
 refine aD.lit [71] h76 Oa ⟨⟨rfl,rfl,trivial⟩,eM (l:=[n]) rfl rfl rfl rfl,trivial⟩ rfl rfl ?_;with_reducible refine wK ?_
 repeat' (first
  |refine gK ?_|refine aE ?_ ?_
  |(((with_reducible refine kQ 267 ?_);refine cL h77 R5 ?_)<;>with_reducible refine wK ?_)
  |apply trivial)
 all_goals rfl
end Go.Proofs.Heir
section
namespace Go.Proofs.Heir
open Go Go.Am Go.RowKit Go.Lib
set_option maxRecDepth 100000
set_option maxHeartbeats 8000000
namespace V
variable {l : List az}
theorem oQ (T:Tree l):∀ (m:Nat) (n:Int),ai l n=true→l.length+1≤m+ (bS l n).length→bU l (m+1) n=bU l m n
 |0,n,_,h=>by have:=lp (l:=l) n;omega
 | m+1,n,hn,h=>by
   rw[bU,bU]
   congr 1
   refine gG fun k hk=>?_
   refine oQ T m k (T.kid n hn k hk).1 ?_
   rw[dN T hn hk];simp;omega
theorem ord_eq (T:Tree l){n:Int}(hn:ai l n=true):bU l l.length n=n::(nd l n).kids.flatMap (bU l l.length):=by
 have h0:=dQ hn
 obtain⟨m,hm⟩:∃m,l.length=m+1:=⟨l.length-1,by omega⟩
 have h1:∀k∈ (nd l n).kids,bU l l.length k=bU l m k:=fun k hk=>by
  rw[hm]
  refine oQ T m k (T.kid n hn k hk).1 ?_
  obtain⟨r,hr⟩:=dI T hn
  rw[dN T hn hk,hr];simp;omega
 conv=>lhs;rw[hm,bU]
 congr 1
 exact gG fun k hk=>(h1 k hk).symm
def rest (l:List az)(st:List Int):List Int:=st.reverse.flatMap (bU l l.length)
theorem Be (T:Tree l){st:List Int}{t:Int}(ht:ai l t=true):rest l (st++ [t])=t::rest l (st++ (nd l t).kids.reverse):=by
 unfold rest
 rw[List.reverse_append,List.reverse_append,List.reverse_reverse]
 simp only[List.reverse_cons,List.reverse_nil,List.nil_append,List.cons_append,List.flatMap_cons,List.flatMap_append]
 rw[ord_eq T ht];rfl
theorem AW (T:Tree l):∀ {st:List Int},(∀c∈st,ai l c=true)→st.length≤ (rest l st).length:=by
 intro st h
 unfold rest
 have:∀s:List Int,(∀c∈s,ai l c=true)→s.length≤ (s.flatMap (bU l l.length)).length:=by
  intro s
  induction s with
  |nil=>intro _;exact Nat.le_refl _
  | cons a r ih=>
    intro h
    have h1:=ih fun c hc=>h c (j9 _ hc)
    rw[List.flatMap_cons,jg,ord_eq T (h a mq),List.length_cons,List.length_cons]
    omega
 have:=this st.reverse fun c hc=>h c (by simpa using hc)
 simpa using this
end V
def HU (f:ForM)(n:Int):List Int:=if(bf f&&ai f.nodes n)=true then bU f.nodes f.nodes.length n else[]
end Go.Proofs.Heir
end
namespace Go.Proofs.Heir
open Go Go.Am Go.RowKit Go.Lib
set_option maxRecDepth 100000
set_option maxHeartbeats 8000000
theorem Jy (f:ForM)(hs:bR f.nodes)(n:Int)(e0:(bf f&&ai f.nodes n)=true):af Tryz.prog 265 [] [bD f,aj n] [jG (bU f.nodes f.nodes.length n)] (.own 0 0 (bU f.nodes f.nodes.length n).length):=by
 have h76:=AH f hs [n] (by simp)
 rw[s8] at h76
 obtain⟨l,m⟩:=f
 simp only at h76 e0 ⊢
 have hlm:(l.map bP).length=l.length:=aM ..
 refine af.ah (rvs:=[.tmp 4]) G aa Tryz.func265 rfl Tryz.ntmps265 rfl rfl ?_;delta List.toArray;(with_reducible ((conv=>whnf);(conv=>congr<;>reduce);repeat((first|refine hK ?_|refine sK ?_);(conv=>whnf);(conv=>congr<;>reduce))))
 rw[e0] at h76
 refine aD.lit [131] h76 Oa ⟨⟨rfl,rfl,trivial⟩,eM (l:=[n]) rfl rfl rfl rfl,trivial⟩ rfl rfl ?_;(with_reducible ((conv=>whnf);(conv=>congr<;>reduce);repeat((first|refine hK ?_|refine sK ?_);(conv=>whnf);(conv=>congr<;>reduce))))
 obtain⟨hr,hn⟩:bf ⟨l,m⟩=true∧ai l n=true:=by simpa using e0
 have T:=gO hr
 have hol:=pZ T l.length hn
 simp only at T hol
 repeat' (first
  |(first
  |((with_reducible show aQ _ _ _ _);first|refine aQ.ff ?_|refine aQ.tt ?_|refine aQ.no (by first|exact qA|((try simp only[aq]);first|(simp[];done)|(simp[];omega))) ?_|refine aQ.yes (by first|exact qA|((try simp only[aq]);first|(simp[];done)|(simp[];omega))) ?_)
  |((with_reducible show bW _ _ _ _);refine nK ?_)
  |((with_reducible show bL _ _ _ _);refine dK ?_))<;>(with_reducible ((conv=>whnf);(conv=>congr<;>reduce);repeat((first|refine hK ?_|refine sK ?_);(conv=>whnf);(conv=>congr<;>reduce))))
  |((with_reducible show(_∧_)∧_∧_);refine⟨⟨rfl,rfl⟩,?_,?_⟩<;>with_reducible ((conv=>whnf)<;>repeat' (first|exact trivial|(refine And.intro ?_ ?_<;>(conv=>whnf))))))
 refine aR.ghost 5 51 1 rfl rfl ?_
 refine aR.use G aa (fun(i:List Int×List Int×List Int)=>[(2,.ptr 20 0 0),(5,.own 51 0 i.1.length),(6,.ptr 60 0 0)])
  (fun i=>[(20,.live 2 [bD ⟨l,m⟩] false),(51,jG i.1),(60,.live 1 [.own 171 0 i.2.1.length] false),(171,jG (i.2.1++i.2.2))])
  (fun i=>bU l l.length n=i.1++V.rest l i.2.1∧∀c∈i.2.1,ai l c=true) (fun i=>l.length-i.1.length) ([],[n],[]) ⟨by simp[V.rest],fun c hc=>by rw[iw] at hc;subst hc;exact hn⟩
  (by refine⟨⟨rfl,rfl⟩,⟨⟨rfl,rfl⟩,⟨rfl,rfl⟩,⟨rfl,rfl⟩,trivial⟩,⟨⟨rfl,rfl,trivial⟩,trivial⟩,⟨.refl rfl,bC _⟩,⟨⟨rfl,rfl⟩,trivial⟩,⟨.refl rfl,bC _⟩,trivial⟩) ?_
 rintro⟨out,st,sp⟩ ⟨ho,hst⟩
 simp only at ho hst
 (with_reducible ((conv=>whnf);(conv=>congr<;>reduce);repeat((first|refine hK ?_|refine sK ?_);(conv=>whnf);(conv=>congr<;>reduce))))
 have hoL:=congrArg List.length ho
 rw[jg] at hoL
 have hol':out.length=(out.map bB).length:=(aM ..).symm
 have hrl:=V.AW T hst
 have hl60:=hs.len
 simp only at hl60
 obtain h|⟨st',t,h⟩:=List.eq_nil_or_concat st<;>(try rw[List.concat_eq_append] at h)<;>subst h
 ·repeat' (first
  |(first
  |((with_reducible show aQ _ _ _ _);first|refine aQ.ff ?_|refine aQ.tt ?_|refine aQ.no (by first|exact qA|((try simp only[aq]);first|(simp[];done)|(simp[];omega))) ?_|refine aQ.yes (by first|exact qA|((try simp only[aq]);first|(simp[];done)|(simp[];omega))) ?_)
  |((with_reducible show bW _ _ _ _);refine nK ?_)
  |((with_reducible show bL _ _ _ _);refine dK ?_))<;>(with_reducible ((conv=>whnf);(conv=>congr<;>reduce);repeat((first|refine hK ?_|refine sK ?_);(conv=>whnf);(conv=>congr<;>reduce))))
  |((with_reducible show(_∧_)∧_∧_);refine⟨⟨rfl,rfl⟩,?_,?_⟩<;>with_reducible ((conv=>whnf)<;>repeat' (first|exact trivial|(refine And.intro ?_ ?_<;>(conv=>whnf))))))
  all_goals have ho':bU l l.length n=out:=by rw[ho];simp[V.rest]
  all_goals clear ho hoL
  all_goals subst ho'
  all_goals first
   |rfl
   |exact aJ (bC _)
 ·have ht:=hst t (by simp)
  have hlen:(st'++ [t]).length=st'.length+1:=by simp
  obtain⟨k,x,rfl,hx,hnx⟩:=aX.1 ht
  rw[hlen]
  rw[hlen] at hrl
  repeat' (first
  |(first
  |((with_reducible show aQ _ _ _ _);first|refine aQ.ff ?_|refine aQ.tt ?_|refine aQ.no (by first|exact qA|((try simp only[aq]);first|(simp[];done)|(simp[];omega))) ?_|refine aQ.yes (by first|exact qA|((try simp only[aq]);first|(simp[];done)|(simp[];omega))) ?_)
  |((with_reducible show bW _ _ _ _);refine nK ?_)
  |((with_reducible show bL _ _ _ _);refine dK ?_))<;>(with_reducible ((conv=>whnf);(conv=>congr<;>reduce);repeat((first|refine hK ?_|refine sK ?_);(conv=>whnf);(conv=>congr<;>reduce))))
  |((with_reducible show(_∧_)∧_∧_);refine⟨⟨rfl,rfl⟩,?_,?_⟩<;>with_reducible ((conv=>whnf)<;>repeat' (first|exact trivial|(refine And.intro ?_ ?_<;>(conv=>whnf))))))
  refine qb.mk st'.length (by(try simp only[aq]);omega) (by omega) ?_;(with_reducible ((conv=>whnf);(conv=>congr<;>reduce);repeat((first|refine hK ?_|refine sK ?_);(conv=>whnf);(conv=>congr<;>reduce))))
  refine dc.mk (aj (k:Int)) (by rw[Nat.zero_add,dM,List.append_assoc,List.getElem?_append_right (Nat.le_refl _),Nat.sub_self];rfl) ?_;(with_reducible ((conv=>whnf);(conv=>congr<;>reduce);repeat((first|refine hK ?_|refine sK ?_);(conv=>whnf);(conv=>congr<;>reduce))))
  repeat' (first
  |(first
  |((with_reducible show aQ _ _ _ _);first|refine aQ.ff ?_|refine aQ.tt ?_|refine aQ.no (by first|exact qA|((try simp only[aq]);first|(simp[];done)|(simp[];omega))) ?_|refine aQ.yes (by first|exact qA|((try simp only[aq]);first|(simp[];done)|(simp[];omega))) ?_)
  |((with_reducible show bW _ _ _ _);refine nK ?_)
  |((with_reducible show bL _ _ _ _);refine dK ?_))<;>(with_reducible ((conv=>whnf);(conv=>congr<;>reduce);repeat((first|refine hK ?_|refine sK ?_);(conv=>whnf);(conv=>congr<;>reduce))))
  |((with_reducible show(_∧_)∧_∧_);refine⟨⟨rfl,rfl⟩,?_,?_⟩<;>with_reducible ((conv=>whnf)<;>repeat' (first|exact trivial|(refine And.intro ?_ ?_<;>(conv=>whnf))))))
  refine Df.mk 0 st'.length rfl (by(try simp only[aq]);omega) (by omega) ?_;(with_reducible ((conv=>whnf);(conv=>congr<;>reduce);repeat((first|refine hK ?_|refine sK ?_);(conv=>whnf);(conv=>congr<;>reduce))))
  repeat' (first
  |(first
  |((with_reducible show aQ _ _ _ _);first|refine aQ.ff ?_|refine aQ.tt ?_|refine aQ.no (by first|exact qA|((try simp only[aq]);first|(simp[];done)|(simp[];omega))) ?_|refine aQ.yes (by first|exact qA|((try simp only[aq]);first|(simp[];done)|(simp[];omega))) ?_)
  |((with_reducible show bW _ _ _ _);refine nK ?_)
  |((with_reducible show bL _ _ _ _);refine dK ?_))<;>(with_reducible ((conv=>whnf);(conv=>congr<;>reduce);repeat((first|refine hK ?_|refine sK ?_);(conv=>whnf);(conv=>congr<;>reduce))))
  |((with_reducible show(_∧_)∧_∧_);refine⟨⟨rfl,rfl⟩,?_,?_⟩<;>with_reducible ((conv=>whnf)<;>repeat' (first|exact trivial|(refine And.intro ?_ ?_<;>(conv=>whnf))))))
  refine cC.mk (out.map bB) [aj (k:Int)] ⟨rfl,hol',rfl⟩ ⟨rfl,rfl,rfl⟩ rfl (by simp;omega) (by simp;omega) ?_;(with_reducible ((conv=>whnf);(conv=>congr<;>reduce);repeat((first|refine hK ?_|refine sK ?_);(conv=>whnf);(conv=>congr<;>reduce))))
  repeat' (first
  |(first
  |((with_reducible show aQ _ _ _ _);first|refine aQ.ff ?_|refine aQ.tt ?_|refine aQ.no (by first|exact qA|((try simp only[aq]);first|(simp[];done)|(simp[];omega))) ?_|refine aQ.yes (by first|exact qA|((try simp only[aq]);first|(simp[];done)|(simp[];omega))) ?_)
  |((with_reducible show bW _ _ _ _);refine nK ?_)
  |((with_reducible show bL _ _ _ _);refine dK ?_))<;>(with_reducible ((conv=>whnf);(conv=>congr<;>reduce);repeat((first|refine hK ?_|refine sK ?_);(conv=>whnf);(conv=>congr<;>reduce))))
  |((with_reducible show(_∧_)∧_∧_);refine⟨⟨rfl,rfl⟩,?_,?_⟩<;>with_reducible ((conv=>whnf)<;>repeat' (first|exact trivial|(refine And.intro ?_ ?_<;>(conv=>whnf))))))
  obtain⟨a1,a2,a3,a4,a5,a6,a7,a8,a9,a10⟩:=x
  refine ak.mk k (aO _) rfl (au hx) ?_;(with_reducible ((conv=>whnf);(conv=>congr<;>reduce);repeat((first|refine hK ?_|refine sK ?_);(conv=>whnf);(conv=>congr<;>reduce))))
  repeat' (first
  |(first
  |((with_reducible show aQ _ _ _ _);first|refine aQ.ff ?_|refine aQ.tt ?_|refine aQ.no (by first|exact qA|((try simp only[aq]);first|(simp[];done)|(simp[];omega))) ?_|refine aQ.yes (by first|exact qA|((try simp only[aq]);first|(simp[];done)|(simp[];omega))) ?_)
  |((with_reducible show bW _ _ _ _);refine nK ?_)
  |((with_reducible show bL _ _ _ _);refine dK ?_))<;>(with_reducible ((conv=>whnf);(conv=>congr<;>reduce);repeat((first|refine hK ?_|refine sK ?_);(conv=>whnf);(conv=>congr<;>reduce))))
  |((with_reducible show(_∧_)∧_∧_);refine⟨⟨rfl,rfl⟩,?_,?_⟩<;>with_reducible ((conv=>whnf)<;>repeat' (first|exact trivial|(refine And.intro ?_ ?_<;>(conv=>whnf))))))
  refine cV (LW a7) Rj ?_;(with_reducible ((conv=>whnf);(conv=>congr<;>reduce);repeat((first|refine hK ?_|refine sK ?_);(conv=>whnf);(conv=>congr<;>reduce))))
  repeat' (first
  |(first
  |((with_reducible show aQ _ _ _ _);first|refine aQ.ff ?_|refine aQ.tt ?_|refine aQ.no (by first|exact qA|((try simp only[aq]);first|(simp[];done)|(simp[];omega))) ?_|refine aQ.yes (by first|exact qA|((try simp only[aq]);first|(simp[];done)|(simp[];omega))) ?_)
  |((with_reducible show bW _ _ _ _);refine nK ?_)
  |((with_reducible show bL _ _ _ _);refine dK ?_))<;>(with_reducible ((conv=>whnf);(conv=>congr<;>reduce);repeat((first|refine hK ?_|refine sK ?_);(conv=>whnf);(conv=>congr<;>reduce))))
  |((with_reducible show(_∧_)∧_∧_);refine⟨⟨rfl,rfl⟩,?_,?_⟩<;>with_reducible ((conv=>whnf)<;>repeat' (first|exact trivial|(refine And.intro ?_ ?_<;>(conv=>whnf))))))
  obtain⟨spF,hs0,hs1⟩:∃spF:Nat→List Int,spF 0=(k:Int)::sp∧∀j,spF (j+1)=[]:=⟨fun j=>match j with|0=>(k:Int)::sp|_+1=>[],rfl,fun _=>rfl⟩
  have hk7:=hs.kids _ (bn hx)
  simp only at hk7
  refine aR.range G aa 3 [(2,.ptr 1 0 0),(5,.own 2 0 (out.length+1)),(6,.ptr 0 0 0),(41,.clo (.func 283) [] [.fptr (bQ a7) 0])]
   (fun j=>[(0,.live 1 [.own 171 0 (st'.length+j)] false),(1,.live 2 [bD ⟨l,m⟩] false),(2,jG (out++ [(k:Int)])),(171,jG (st'++a7.reverse.take j++spF j))])
   (KP a7 (by omega)) Q8 ?_ rfl ⟨⟨rfl,rfl⟩,rfl⟩ (fun _ _=>rfl) (fun _ _=>rfl) ⟨⟨rfl,rfl⟩,rfl,rfl⟩ ?_ ?_
  ·refine⟨⟨rfl,rfl⟩,?_⟩
   (with_reducible conv=>whnf)
   repeat' (first|(with_reducible exact trivial)|(with_reducible refine And.intro ?_ ?_<;>with_reducible conv=>whnf))
   all_goals try rfl
   ·simp
   ·exact⟨.refl rfl,rfl⟩
   ·refine⟨?_,bC _⟩
    rw[←show(out++ [(k:Int)]).map bB=out.map bB++ [AV.lit (.int .i64 k)] by simp;rfl]
    exact .refl (bC _)
   ·refine⟨?_,bC _⟩
    rw[hs0,List.take_zero,List.append_nil,show st'++ [(k:Int)]++sp=st'++ (k:Int)::sp by simp];exact .refl (bC _)
  ·intro j hj
   (with_reducible ((conv=>whnf);(conv=>congr<;>reduce);repeat((first|refine hK ?_|refine sK ?_);(conv=>whnf);(conv=>congr<;>reduce))))
   refine Bz.mk rfl ?_;(with_reducible ((conv=>whnf);(conv=>congr<;>reduce);repeat((first|refine hK ?_|refine sK ?_);(conv=>whnf);(conv=>congr<;>reduce))))
   repeat' (first
  |(first
  |((with_reducible show aQ _ _ _ _);first|refine aQ.ff ?_|refine aQ.tt ?_|refine aQ.no (by first|exact qA|((try simp only[aq]);first|(simp[];done)|(simp[];omega))) ?_|refine aQ.yes (by first|exact qA|((try simp only[aq]);first|(simp[];done)|(simp[];omega))) ?_)
  |((with_reducible show bW _ _ _ _);refine nK ?_)
  |((with_reducible show bL _ _ _ _);refine dK ?_))<;>(with_reducible ((conv=>whnf);(conv=>congr<;>reduce);repeat((first|refine hK ?_|refine sK ?_);(conv=>whnf);(conv=>congr<;>reduce))))
  | ((with_reducible show(_∧_)∧_∧_);refine⟨⟨rfl,rfl⟩,?_,?_⟩<;>with_reducible ((conv=>whnf)<;>repeat' (first|exact trivial|(refine And.intro ?_ ?_<;>(conv=>whnf))))))
   refine cC.take ((st'++a7.reverse.take j).map bB) [bB ((a7.reverse[j]?).getD 0)] ⟨rfl,by simp;omega,by rw[List.map_append (l₂:=spF j),List.take_left' (by simp;omega)]⟩ ⟨rfl,rfl,rfl⟩ rfl (by simp;omega) (by simp;omega) ?_
   (with_reducible ((conv=>whnf);(conv=>congr<;>reduce);repeat((first|refine hK ?_|refine sK ?_);(conv=>whnf);(conv=>congr<;>reduce))))
   repeat' (first
  |(first
  |((with_reducible show aQ _ _ _ _);first|refine aQ.ff ?_|refine aQ.tt ?_|refine aQ.no (by first|exact qA|((try simp only[aq]);first|(simp[];done)|(simp[];omega))) ?_|refine aQ.yes (by first|exact qA|((try simp only[aq]);first|(simp[];done)|(simp[];omega))) ?_)
  |((with_reducible show bW _ _ _ _);refine nK ?_)
  |((with_reducible show bL _ _ _ _);refine dK ?_))<;>(with_reducible ((conv=>whnf);(conv=>congr<;>reduce);repeat((first|refine hK ?_|refine sK ?_);(conv=>whnf);(conv=>congr<;>reduce))))
  | ((with_reducible show(_∧_)∧_∧_);refine⟨⟨rfl,rfl⟩,?_,?_⟩<;>with_reducible ((conv=>whnf)<;>repeat' (first|exact trivial|(refine And.intro ?_ ?_<;>(conv=>whnf))))))
   refine Bt.mk ?_
   obtain⟨c,hc⟩:∃c,a7.reverse[j]? =some c:=⟨_,aP (by simpa using hj)⟩
   have htk:a7.reverse.take (j+1)=a7.reverse.take j++ [c]:=by rw[List.take_add_one,hc];rfl
   rw[hc,Option.getD_some]
   refine⟨⟨rfl,rfl⟩,?_⟩
   (with_reducible conv=>whnf)
   repeat' (first|(with_reducible exact trivial)|(with_reducible refine And.intro ?_ ?_<;>with_reducible conv=>whnf))
   all_goals try rfl
   ·simp;omega
   ·exact⟨.refl rfl,rfl⟩
   ·exact⟨.refl (bC _),bC _⟩
   ·refine⟨?_,bC _⟩
    rw[hs1,htk,List.append_nil,←List.append_assoc,List.map_append (l₂:=[c])];exact .refl (by rw[←fO];exact bC _)
  ·(with_reducible ((conv=>whnf);(conv=>congr<;>reduce);repeat((first|refine hK ?_|refine sK ?_);(conv=>whnf);(conv=>congr<;>reduce))))
   have hT:nd l k=⟨a1,a2,a3,a4,a5,a6,a7,a8,a9,a10⟩:=hnx
   have hch:(nd l k).kids=a7:=by rw[hT]
   have hpop:=V.Be T (st:=st') ht
   rw[hch] at hpop
   have hkid:∀c∈a7,ai l c=true:=fun c hc=>(T.kid k ht c (by rw[hch];exact hc)).1
   have hta:a7.reverse.take a7.length=a7.reverse:=jH (by simp)
   refine ay.mk (out++ [(k:Int)],st'++a7.reverse,spF a7.length) ⟨?_,?_⟩ ?_ ?_
   ·rw[ho,hpop];simp
   ·intro c hc
    rcases List.mem_append.1 hc with h|h
    ·exact hst c (by simp[h])
    ·exact hkid c (by simpa using h)
   ·simp only[jg,List.length_singleton];omega
   ·refine⟨⟨rfl,rfl⟩,?_⟩
    (with_reducible conv=>whnf)
    repeat' (first|(with_reducible exact trivial)|(with_reducible refine And.intro ?_ ?_<;>with_reducible conv=>whnf))
    all_goals try rfl
    ·simp
    ·exact⟨.refl (bC _),bC _⟩
    ·simp
    ·refine⟨?_,bC _⟩
     rw[hta];exact .refl (bC _)
theorem FD (l:List Int):D4 [(0,jG l)]=true:=by
 have:HV 1 (l.map bB)=true:=List.all_eq_true.2 fun x hx=>by
  obtain⟨n,_,rfl⟩:=List.mem_map.1 hx;rfl
 show(HV 1 (l.map bB)&&true)=true
 rw[this];rfl
theorem KR (f:ForM)(hs:bR f.nodes)(n:Int):af Tryz.prog 265 [] [bD f,aj n] [] (bQ (HU f n)):=by
 cases e0:(bf f&&ai f.nodes n) with
 | true=>
   unfold HU
   rw[if_pos e0]
   refine af.frozen [(0,jG (bU f.nodes f.nodes.length n))] ?_ (FD _) (Jy f hs n e0) (eM rfl rfl rfl rfl)
   funext t
   match t with
   |0=>rfl
   |n+1=>rfl
 | false=>
   have h76:=AH f hs [n] (by simp)
   rw[s8,e0] at h76
   unfold HU
   rw[e0]
   obtain⟨l,m⟩:=f
   refine af.ah (rvs:=[.tmp 4]) G aa Tryz.func265 rfl Tryz.ntmps265 rfl rfl ?_;delta List.toArray;(with_reducible ((conv=>whnf);(conv=>congr<;>reduce);repeat((first|refine hK ?_|refine sK ?_);(conv=>whnf);(conv=>congr<;>reduce))))
   refine aD.lit [131] h76 Oa ⟨⟨rfl,rfl,trivial⟩,eM (l:=[n]) rfl rfl rfl rfl,trivial⟩ rfl rfl ?_;(with_reducible ((conv=>whnf);(conv=>congr<;>reduce);repeat((first|refine hK ?_|refine sK ?_);(conv=>whnf);(conv=>congr<;>reduce))))
   repeat' (first
  |(first
  |((with_reducible show aQ _ _ _ _);first|refine aQ.ff ?_|refine aQ.tt ?_|refine aQ.no (by first|exact qA|((try simp only[aq]);first|(simp[];done)|(simp[];omega))) ?_|refine aQ.yes (by first|exact qA|((try simp only[aq]);first|(simp[];done)|(simp[];omega))) ?_)
  |((with_reducible show bW _ _ _ _);refine nK ?_)
  |((with_reducible show bL _ _ _ _);refine dK ?_))<;>(with_reducible ((conv=>whnf);(conv=>congr<;>reduce);repeat((first|refine hK ?_|refine sK ?_);(conv=>whnf);(conv=>congr<;>reduce))))
  | ((with_reducible show(_∧_)∧_∧_);refine⟨⟨rfl,rfl⟩,?_,?_⟩<;>with_reducible ((conv=>whnf)<;>repeat' (first|exact trivial|(refine And.intro ?_ ?_<;>(conv=>whnf))))))
   all_goals exact .inr (.inr ⟨1,rfl⟩)
@[reducible] def Fm (t : List (ByteArray × Int)) : AV := .fmap (ee Value.string bB t)
def OZ (t:List (ByteArray×Int)):AV:=Fm t
@[reducible] def lW (c : List (Int × List (ByteArray × Int))) : List AV := ee qc OZ c
@[reducible] def vF (c : List (Int × List (ByteArray × Int))) : MS := .live 2 (lW c) false
theorem M8:jj Tryz.prog 263 (.int .i64) (.map none):=⟨3,183,by kernel_rfl,by kernel_rfl,fun w=>Tryz.zeroValue183 w⟩
theorem uu {K α:Type}(kv:K→Value)(e:α→AV)(h:∀a,bt (e a)=true)(l:List (K×α)):aU (ee kv e l)=true:=by
 rw[bZ];intro x hx
 obtain⟨p,_,rfl⟩:=List.mem_map.1 hx
 simp[entry,bt,aU,h]
theorem cD (c:List (Int×List (ByteArray×Int))):aU (lW c)=true:=uu _ _ (fun _=>rfl) c
theorem kE (t:List (ByteArray×Int)):aU (ee Value.string bB t)=true:=uu _ _ (fun _=>rfl) t
structure Er (l:List az) (c:List (Int×List (ByteArray×Int))):Prop where
 is:∀r t,dx r c=some t→t=oU l r
 len:c.length≤1000
def rG (l:List az)(c:List (Int×List (ByteArray×Int)))(r:Int):List (Int×List (ByteArray×Int)):=match dx r c with
 |some _=>c
 |none=>c++ [(r,oU l r)]
def sA (l:List az)(c:List (Int×List (ByteArray×Int)))(n:Int):List (Int×List (ByteArray×Int)):=
 if(nd l n).kind=1 then
  match uF (nd l n) eN with
  |some _=>if zR l n=true then rG l c (dD l n) else c
  |none=>c
 else c
theorem Ib {l:List az}{c:List (Int×List (ByteArray×Int))}(h:∀r t,dx r c=some t→t=oU l r)(r:Int):∀q t,dx q (rG l c r)=some t→t=oU l q:=by
 intro q t
 unfold rG
 cases hg:dx r c with
 |some x=>exact h q t
 | none=>
   rw[←sr hg,fI]
   by_cases e:r=q
   ·rw[if_pos e];intro ht;cases ht;rw[e]
   ·rw[if_neg e];exact h q t
theorem Gd (l:List az)(c:List (Int×List (ByteArray×Int)))(r:Int):(rG l c r).length≤c.length+1:=by
 unfold rG;split<;>simp
theorem HN {l:List az}{c:List (Int×List (ByteArray×Int))}(h:∀r t,dx r c=some t→t=oU l r)(n:Int):∀q t,dx q (sA l c n)=some t→t=oU l q:=by
 unfold sA
 split
 ·split
  ·split
   ·exact Ib h _
   ·exact h
  ·exact h
 ·exact h
theorem FE (l:List az)(c:List (Int×List (ByteArray×Int)))(n:Int):(sA l c n).length≤c.length+1:=by
 unfold sA
 split
 ·split
  ·split
   ·exact Gd _ _ _
   ·omega
  ·omega
 ·omega
theorem Ka (l:List az)(m:Int)(c:List (Int×List (ByteArray×Int)))(T:Tree l)(n:Int)(hn:ai l n=true):
  af Tryz.prog 249 [] [.agg [fE l,aj m,.fmap (lW c)],aj n] [] (aj (pz l n)):=by
 have hstep:=fun n h1 h2=>tH T (fun p=>gm (nd l p)) (n:=n) h1 h2
 have htop:=fun n h1 h2=>vp T (fun p=>gm (nd l p)) (n:=n) h1 h2
 have hwst:=fun n h1 h2=>bY T (n:=n) h1 h2
 have hpar:∀n,ai l n=true→(nd l n).parent=-1∨ai l (nd l n).parent=true:=fun n hn=>by
  by_cases h:(nd l n).parent=-1
  ·exact .inl h
  ·exact .inr (T.par n hn h).1
 unfold pz
 obtain⟨q,hq⟩:∃q:Int→Bool,(fun p=>gm (nd l p))=q:=⟨_,rfl⟩
 rw[hq] at hstep htop ⊢
 have hqe:∀p,q p=gm (nd l p):=fun p=>by rw[←hq]
 have step:∀p y,ai l p=true→nd l p=y→(y.parent=-1∧dZ l q p=-1)∨(ai l y.parent=true∧y.parent≠-1∧(dZ l q p=if gm (nd l y.parent)=true then y.parent else dZ l q y.parent)∧(bS l y.parent).length< (bS l p).length):=by
  rintro p y hp rfl
  by_cases e:(nd l p).parent=-1
  ·exact .inl ⟨e,htop p hp e⟩
  ·exact .inr ⟨(hpar p hp).resolve_left e,e,(hstep p hp e).trans (by first|rfl|rw[hqe]),by rw[hwst p hp e];simp⟩
 clear hstep htop hwst hpar
 refine af.ah (rvs:=[.tmp 4]) G aa Tryz.func249 rfl Tryz.ntmps249 rfl rfl ?_;with_reducible refine wD ?_
 obtain⟨i,y,e,hy,hny⟩:=aX.1 hn
 have hst:=step n y hn hny
 obtain⟨b1,b2,b3,b4,b5,b6,b7,b8,b9,b10⟩:=y
 simp only at hst
 refine ak.mk i (aO _) e (au hy) ?_;with_reducible refine wK ?_
 refine aR.use G aa (fun(p:Int)=>[(1,aj p),(2,.ptr 20 0 0)]) (fun _=>[(20,.live 3 [.agg [fE l,aj m,.fmap (lW c)]] false)])
  (fun p=>(p=-1∧dZ l q n=-1)∨(ai l p=true∧p≠-1∧dZ l q n=if gm (nd l p)=true then p else dZ l q p)) (fun p=>if p=-1 then 0 else(bS l p).length) b6
  (by rcases hst with h|⟨h1,h2,h3,_⟩;exact .inl h;exact .inr ⟨h1,h2,h3⟩) (by(refine fK ?_;(with_reducible repeat' (first|exact trivial|(show _∧_;refine aK ?_ ?_)));(all_goals try rfl))) ?_
 intro p hp
 with_reducible refine wK ?_
 rcases hp with⟨rfl,h1⟩|⟨h1,h2,h3⟩
 ·rw[h1]
  repeat' (first
  |refine gK ?_|refine aE ?_ ?_
  |apply trivial)
  all_goals rfl
 ·obtain⟨j,z,e',hz,hnz⟩:=aX.1 h1
  have hst:=step p z h1 hnz
  rw[hnz] at h3
  have h81:=Eg z
  obtain⟨c1,c2,c3,c4,c5,c6,c7,c8,c9,Qv⟩:=z
  simp only at hst
  cases hf:gm ⟨c1,c2,c3,c4,c5,c6,c7,c8,c9,Qv⟩ with
  | true=>
    rw[hf] at h81 h3
    rw[h3,if_pos rfl]
    (have fct:=(eq_false h2);(repeat' (first
  |refine gF ?_|refine aE ?_ ?_
  | ((first
   |((with_reducible refine kQ 252 ?_);refine cL h81 KF ?_)
   |(refine ak.mk j (aO ⟨c1,c2,c3,c4,c5,c6,c7,c8,c9,Qv⟩) e' (au hz) ?_))<;>with_reducible refine wK ?_)
  | apply trivial));all_goals clear fct)
    all_goals rfl
  | false=>
    rw[hf] at h81 h3
    rw[if_neg (by simp)] at h3
    (have fct:=(eq_false h2);(repeat' (first
  |refine gF ?_|refine aE ?_ ?_
  | ((first
   |((with_reducible refine kQ 252 ?_);refine cL h81 KF ?_)
   |(refine ak.mk j (aO ⟨c1,c2,c3,c4,c5,c6,c7,c8,c9,Qv⟩) e' (au hz) ?_))<;>with_reducible refine wK ?_)
  | apply trivial));all_goals clear fct)
    refine ay.mk c6 ?_ ?_ ?_
    ·rw[h3]
     rcases hst with h|⟨g1,g2,g3,_⟩
     ·exact .inl h
     ·exact .inr ⟨g1,g2,g3⟩
    ·rw[if_neg h2]
     rcases hst with⟨h,_⟩|⟨_,g2,_,g4⟩
     ·rw[if_pos h]
      obtain⟨r,hr⟩:=dI T h1
      rw[hr];simp
     ·rw[if_neg g2];exact g4
    ·(refine fK ?_;(with_reducible repeat' (first|exact trivial|(show _∧_;refine aK ?_ ?_)));(all_goals try rfl))
theorem MQ (f:ForM):af Tryz.prog 219 [] [bD f] [vF []] (.agg [fE f.nodes,aj f.most,.mapr 0]):=by
 obtain⟨l,m⟩:=f
 refine af.ah (rvs:=[.cell 2 265]) G aa Tryz.func219 rfl Tryz.ntmps219 rfl rfl ?_;with_reducible refine wD ?_
 repeat' (first
  |refine gK ?_|refine aE ?_ ?_
  |apply trivial)
 all_goals first|rfl|trivial
theorem FI {R:AV→AV→Prop}{a b:List AV}{x y:AV}(h:mG R a b)(k:R x y):mG R (a++ [x]) (b++ [y]):=by
 refine⟨by simp[h.1],fun i u v hu hv=>?_⟩
 rw[List.getElem?_append] at hu hv
 rw[h.1] at hu
 by_cases hi:i<b.length
 ·rw[if_pos hi] at hu hv;exact h.2 i u v hu hv
 ·rw[if_neg hi] at hu hv
  rw[List.getElem?_singleton] at hu hv
  split at hu
  ·rename_i h0;rw[if_pos h0] at hv;cases hu;cases hv;exact k
  ·cases hu
theorem H8 {R:AV→AV→Prop}:∀ {a b:List AV},mG R a b→Cu R a b
 |[],[],_=>trivial
 |x::xs,y::ys,h=>⟨h.2 0 x y rfl rfl,H8 ⟨by have:=h.1;simpa using this,fun i u v hu hv=>h.2 (i+1) u v (by simpa using hu) (by simpa using hv)⟩⟩
 |[],_::_,h=>by have:=h.1;simp at this
 |_::_,[],h=>by have:=h.1;simp at this
theorem JM (c:List (Int×List (ByteArray×Int)))(r:Int)(t:List (ByteArray×Int)):lW (c++ [(r,t)])=lW c++ [entry (qc r) (Fm t)]:=by
 unfold lW ee;rw[fO];rfl
theorem EN {m:ML}{fz:Nat→Bool}{k:Nat}{ro:Bool}{rows:List AV}{t:List (ByteArray×Int)}(h1:eC m k=.live 2 rows ro)(h2:fz k=true)(h3:rows=ee Value.string bB t):IF m fz (Fm t) k:=by
 subst h3
 refine⟨2,_,ro,h1,h2,rfl,fun x hx=>?_⟩
 obtain⟨p,_,rfl⟩:=List.mem_map.1 hx
 exact⟨_,_,rfl,rfl⟩
theorem LL (l:List az)(m:Int)(hs:bR l)(hrt:bf ⟨l,m⟩=true)(c:List (Int×List (ByteArray×Int)))(hc:Er l c)(r:Int)(hr:ai l r=true):
  af Tryz.prog 250 [vF c] [.agg [fE l,aj m,.mapr 0],aj r] [vF (rG l c r)] (Fm (oU l r)):=by
 have T:Tree l:=gO hrt
 have h78:=KR ⟨l,m⟩ hs r
 have e78:HU ⟨l,m⟩ r=bU l l.length r:=by unfold HU;rw[if_pos (by rw[hrt,hr];rfl)]
 rw[e78] at h78
 have hol:=pZ T l.length hr
 have h60:=hs.len
 have hot:∀k∈bU l l.length r,ai l k=true:=fun k hk=>(mz T hr hk).1
 have hci:=hc.is r
 have hcl:=hc.len
 obtain⟨kt,hkt⟩:∃kt,rG l c r=kt:=⟨_,rfl⟩
 rw[hkt]
 unfold rG at hkt
 unfold oU at hkt hci ⊢
 have hci:=hci
 generalize bU l l.length r=ks at h78 hol hot hci hkt ⊢
 have hkm:(ks.map bB).length=ks.length:=aM ..
 refine af.ah (rvs:=[.tmp 4]) G aa Tryz.func250 rfl Tryz.ntmps250 rfl rfl ?_;with_reducible refine wD ?_
 refine jJ.cI qc OZ c (k:=r) (zv:=.lit (.map none)) M8 ⟨_,_,rfl⟩ j1 lj rfl rfl (fun x hx=>?_) (fun hx=>?_)
 ·rw[hx] at hkt
  dsimp only at hkt
  subst hkt
  rw[show OZ x=Fm x from rfl]
  have hxe:=hci x hx
  with_reducible refine wK ?_
  repeat' (first
  |refine gK ?_|refine aE ?_ ?_
  |apply trivial)
  all_goals first
   |exact aJ (cD c)
   |rfl
   |exact(congrArg Fm hxe).symm
   |skip
 ·rw [hx] at hkt
  dsimp only at hkt
  subst hkt
  with_reducible refine wK ?_
  repeat' (first
  |refine gK ?_|refine aE ?_ ?_
  |(((with_reducible refine kQ 265 ?_);refine cV h78 RI ?_)<;>with_reducible refine wK ?_)
  |apply trivial)
  refine aR.use G aa (fun(j:Nat)=>[(1,aj r),(2,.ptr 20 0 0),(7,.mapr 71),(27,bQ ks),(28,aj ks.length),(29,aj j)])
   (fun j=>[(0,vF c),(20,.live 3 [.agg [fE l,aj m,.mapr 0]] false),(71,.live 2 (ee Value.string bB ((ks.take j).foldl (jZ l) [])) false)])
   (fun j=>j≤ks.length) (fun j=>ks.length-j) 0 (Nat.zero_le _) ?_ ?_
  ·(refine fK ?_;(with_reducible repeat' (first|exact trivial|(show _∧_;refine aK ?_ ?_)));(all_goals try rfl))
   all_goals first
    |exact aJ (cD c)
    |exact hkm
    |(show(ks.length:Int)=_;rw[hkm])
    |(show MR _ [] [];exact⟨.refl rfl,rfl⟩)
    |skip
  intro j hj
  with_reducible refine wK ?_
  refine aQ.mk (fun h1=>?_) (fun h1=>?_)<;>(try simp only[aq] at h1)<;>with_reducible refine wK ?_
  ·have hj':j<ks.length:=by simp only[aL] at h1;omega
   obtain⟨k,hk⟩:∃k,ks[j]? =some k:=⟨_,aP hj'⟩
   obtain⟨i,y,e,hy,hny⟩:=aX.1 (hot k (bn hk))
   have h47:=zX y.attrs (by have:=hs.attrs y (bn hy);omega) uT
   have hst:(ks.take (j+1)).foldl (jZ l) []=jZ l ((ks.take j).foldl (jZ l) []) k:=by
    rw[List.take_add_one,hk,List.foldl_append];rfl
   have hfl:=Br l (ks.take j) []
   rw[List.length_nil,jD] at hfl
   generalize(ks.take j).foldl (jZ l) []=t at hst hfl ⊢
   have ha:jZ l t k=if 0≤iE y.attrs uT∧dx (xe y.attrs uT) t=none then eE (xe y.attrs uT) k t else t:=by
    unfold jZ uF
    rw[hny]
    by_cases e1:0≤iE y.attrs uT
    ·rw[if_pos e1]
     simp only
     cases e2:dx (xe y.attrs uT) t with
     |none=>rw[if_pos ⟨e1,rfl⟩]
     |some z=>rw[if_neg (fun h=>by cases h.2)]
    ·rw[if_neg e1,if_neg (fun h=>e1 h.1)]
   rw[ha] at hst
   generalize hg:xe y.attrs uT=gs at h47 hst
   obtain⟨ok,hok⟩:∃ok,decide (0≤iE y.attrs uT)=ok:=⟨_,rfl⟩
   rw[hok] at h47
   have hst':(ks.take (j+1)).foldl (jZ l) []=if ok=true∧dx gs t=none then eE gs k t else t:=by rw[hst];simp only[←hok,aL]
   clear ha hst hg hok
   obtain⟨b1,b2,b3,b4,b5,b6,b7,b8,b9,b10⟩:=y
   simp only at h47
   refine ak.mk j (aj k) rfl (dG hk) ?_;with_reducible refine wK ?_
   refine ak.mk i (aO _) e (au hy) ?_;with_reducible refine wK ?_
   refine cL h47 Js ?_;with_reducible refine wK ?_
   refine jJ.cI Value.string bB t (k:=gs) (zv:=aj 0) ou ⟨_,_,rfl⟩ ko j2 rfl rfl (fun x hx2=>?_) (fun hx2=>?_)
   ·rw[hx2,if_neg (fun h=>by cases h.2)] at hst'
    rw[show bB x=aj x from rfl]
    with_reducible refine wK ?_
    cases ok<;>(
     repeat' (first
  |refine gK ?_|refine aE ?_ ?_
  | apply trivial)
     refine ay.mk (j+1) (by omega) (by omega) ?_
     rw[hst']
     (refine fK ?_;(with_reducible repeat' (first|exact trivial|(show _∧_;refine aK ?_ ?_)));(all_goals try rfl))
     all_goals first
      |exact aJ (cD c)
      |exact⟨.refl (kE t),kE t⟩
      |skip)
   ·rw [hx2] at hst'
    with_reducible refine wK ?_
    cases ok with
    | false=>
      rw[if_neg (fun h=>by cases h.1)] at hst'
      repeat' (first
  |refine gK ?_|refine aE ?_ ?_
  | apply trivial)
      refine ay.mk (j+1) (by omega) (by omega) ?_
      rw[hst']
      (refine fK ?_;(with_reducible repeat' (first|exact trivial|(show _∧_;refine aK ?_ ?_)));(all_goals try rfl))
      all_goals first
       |exact aJ (cD c)
       |exact⟨.refl (kE t),kE t⟩
       |skip
    | true=>
      rw[if_pos ⟨rfl,rfl⟩] at hst'
      repeat' (first
  |refine gK ?_|refine aE ?_ ?_
  |apply trivial)
      refine rY.cI Value.string bB t k ou rfl ko j2 (by unfold maxLen;omega) rfl ?_;with_reducible refine wK ?_
      repeat' (first
  |refine gK ?_|refine aE ?_ ?_
  |apply trivial)
      refine ay.mk (j+1) (by omega) (by omega) ?_
      rw[hst']
      (refine fK ?_;(with_reducible repeat' (first|exact trivial|(show _∧_;refine aK ?_ ?_)));(all_goals try rfl))
      all_goals first
       |exact aJ (cD c)
       |exact⟨.refl (kE _),kE _⟩
       |skip
  ·have hjl:j=ks.length:=by simp only[bh] at h1;omega
   subst hjl
   rw[List.take_length]
   generalize hT:ks.foldl (jZ l) []=t
   repeat' (first
  |refine gK ?_|refine aE ?_ ?_
  | apply trivial)
   refine rY.new M8 rfl (j1 r) (kZ j1) (vL lj hx) (by simp[lW,ee,maxLen];omega) rfl rfl ?_;with_reducible refine wK ?_
   repeat' (first
  |refine gK ?_|refine aE ?_ ?_
  | apply trivial)
   all_goals first
    |exact EN rfl rfl rfl
    |skip
   rw[JM]
   refine H8 (FI (.refl (cD c)) ?_)
   exact⟨rfl,⟨EN rfl rfl rfl,trivial⟩,trivial⟩
theorem EX {m:ML}{fz:Nat→Bool}{k:Nat}{ro:Bool}{rows:List AV}{c:List (Int×List (ByteArray×Int))}(h1:eC m k=.live 2 rows ro)(h2:fz k=true)(h3:rows=lW c):IF m fz (.fmap (lW c)) k:=by
 subst h3
 refine⟨2,_,ro,h1,h2,rfl,fun x hx=>?_⟩
 obtain⟨p,_,rfl⟩:=List.mem_map.1 hx
 exact⟨_,_,rfl,rfl⟩
theorem LJ {x:az}{w:ByteArray}:uF x w=if 0≤iE x.attrs w then some (xe x.attrs w) else none:=rfl
theorem LU {l:List az}{m:Int}(hr:bf ⟨l,m⟩=true){n:Int}(hn:ai l n=true):KK ⟨l,m⟩ n=zR l n:=by
 unfold KK zR;rw[hr,show ai (ForM.mk l m).nodes n=true from hn];rfl
theorem Ll (l:List az)(m:Int)(hs:bR l)(hrt:bf ⟨l,m⟩=true)(c:List (Int×List (ByteArray×Int)))(hc:Er l c)(n:Int)(hn:ai l n=true):
  af Tryz.prog 220 [vF c] [.agg [fE l,aj m,.mapr 0],aj n] [vF (sA l c n)] (aj (iT l n)):=by
 have T:Tree l:=gO hrt
 have h21:=Lc ⟨l,m⟩ hs n
 rw[LU hrt hn] at h21
 have h116:=Ka l m c T n hn
 have h48:=KQ ⟨l,m⟩ hs hrt n hn
 have hrth:=(kS T n hn).1
 have h117:=LL l m hs hrt c hc (dD l n) hrth
 have hfst:=fun v k=> @qG l (dD l n) v k
 have hord:=fun k hk=>(mz T hrth (n:=k) hk).1
 obtain⟨i,x,e,hx,hnx⟩:=aX.1 hn
 have h47:=zX x.attrs (by have:=hs.attrs x (bn hx);omega) eN
 unfold iT sA MD
 rw[hnx,LJ]
 simp only at h48
 have hig:=fun v=>Gq l (dD l n) v
 generalize dD l n=r at h48 h117 hfst hord hig ⊢
 generalize pz l n=nr at h116 ⊢
 generalize zR l n=cn at h21 ⊢
 generalize hgs:xe x.attrs eN=v at h47 ⊢
 obtain⟨ok,hok⟩:∃ok,decide (0≤iE x.attrs eN)=ok:=⟨_,rfl⟩
 rw[hok] at h47
 have hok':(0≤iE x.attrs eN)=(ok=true):=by rw[←hok];simp
 simp only[hok']
 clear hok hok' hgs
 obtain⟨a1,a2,a3,a4,a5,a6,a7,a8,a9,a10⟩:=x
 simp only at h47 ⊢
 refine af.ah (rvs:=[.tmp 4]) G aa Tryz.func220 rfl Tryz.ntmps220 rfl rfl ?_;with_reducible refine wD ?_
 refine ak.mk i (aO _) e (au hx) ?_;with_reducible refine wK ?_
 by_cases e1:a1=1
 ·rw [if_pos e1,if_pos e1]
  refine aQ.no (by rw[e1];rfl) ?_;with_reducible refine wK ?_
  cases ok with
  | false=>
    rw[if_neg (by simp)]
    repeat' (first
  |refine gK ?_|refine aE ?_ ?_
  | ((first
   |((with_reducible refine kQ 248 ?_);refine cL h47 Js ?_)
   |((with_reducible refine kQ 120 ?_);refine cL h21 NW ?_)
   |((with_reducible refine kQ 249 ?_);refine aD.lit [0] h116 Pn ⟨⟨rfl,rfl,EX rfl rfl rfl,trivial⟩,rfl,trivial⟩ rfl rfl ?_))<;>with_reducible refine wK ?_)
  | apply trivial)
    all_goals first|rfl|exact aJ (cD c)
  | true=>
    rw[if_pos rfl]
    simp only
    cases cn with
    | false=>
      rw[if_neg (by simp),if_neg (by simp)]
      repeat' (first
  |refine gK ?_|refine aE ?_ ?_
  | ((first
   |((with_reducible refine kQ 248 ?_);refine cL h47 Js ?_)
   |((with_reducible refine kQ 120 ?_);refine cL h21 NW ?_)
   |((with_reducible refine kQ 249 ?_);refine aD.lit [0] h116 Pn ⟨⟨rfl,rfl,EX rfl rfl rfl,trivial⟩,rfl,trivial⟩ rfl rfl ?_))<;>with_reducible refine wK ?_)
  | apply trivial)
      all_goals first|rfl|exact aJ (cD c)
    | true=>
      rw[if_pos rfl,if_pos rfl]
      repeat' (first
  |refine gK ?_|refine aE ?_ ?_
  | ((first
   |((with_reducible refine kQ 248 ?_);refine cL h47 Js ?_)
   |((with_reducible refine kQ 120 ?_);refine cL h21 NW ?_)
   |((with_reducible refine kQ 251 ?_);refine cL h48 QL ?_))<;>with_reducible refine wK ?_)
  |apply trivial)
      refine aD.lR (news:=[vF (rG l c r)]) [0] [] h117 Sf ⟨⟨rfl,rfl,trivial,trivial⟩,rfl,trivial⟩ ⟨⟨rfl,.inl ⟨rfl,cD c⟩⟩,trivial⟩ rfl ⟨⟨rfl,rfl⟩,rfl⟩ rfl ⟨⟨rfl,.inl ⟨rfl,cD _⟩⟩,trivial⟩ rfl rfl ?_
      with_reducible refine wK ?_
      refine jJ.cI Value.string bB (oU l r) (k:=v) (zv:=aj 0) ou rfl ko j2 rfl rfl (fun k hk=>?_) (fun hk=>?_)
      ·rw[hig] at hk
       rw[hk,show bB k=aj k from rfl]
       simp only
       obtain⟨j,y,e',hy,hny⟩:=aX.1 (hord k (hfst v k hk).1)
       rw[hny]
       have h81:=Eg y
       obtain⟨b1,b2,b3,b4,b5,b6,b7,b8,b9,b10⟩:=y
       obtain⟨fm,hfm⟩:∃fm,gm ⟨b1,b2,b3,b4,b5,b6,b7,b8,b9,b10⟩=fm:=⟨_,rfl⟩
       rw[hfm] at h81 ⊢
       with_reducible refine wK ?_
       by_cases ev:v=⟨#[]⟩
       ·rw[if_neg (fun h=>h.1 ev)]
        have ev':v=⟨⟨[]⟩⟩:=ev
        (have fct:=ev';(repeat' (first
  |refine gF ?_|refine aE ?_ ?_
  |(((with_reducible show bL _ _ _ _);refine dK ?_)<;>with_reducible refine wK ?_)
  |apply  trivial));all_goals clear fct)
        all_goals first|rfl|exact aJ (cD _)
       ·have ev':¬v=⟨⟨[]⟩⟩:=ev
        cases fm with
        | true=>
          rw[if_pos ⟨ev,rfl⟩]
          (have fct:=ev';(repeat' (first
  |refine gF ?_|refine aE ?_ ?_
  | ((first
   |((with_reducible show bL _ _ _ _);refine dK ?_)
   |(refine ak.mk j (aO ⟨b1,b2,b3,b4,b5,b6,b7,b8,b9,b10⟩) e' (au hy) ?_)
   |((with_reducible refine kQ 252 ?_);refine cL h81 KF ?_))<;>with_reducible refine wK ?_)
  |apply  trivial));all_goals clear fct)
          all_goals first|rfl|exact aJ (cD _)
        | false=>
          rw[if_neg (fun h=>by cases h.2)]
          (have fct:=ev';(repeat' (first
  |refine gF ?_|refine aE ?_ ?_
  | ((first
   |((with_reducible show bL _ _ _ _);refine dK ?_)
   |(refine ak.mk j (aO ⟨b1,b2,b3,b4,b5,b6,b7,b8,b9,b10⟩) e' (au hy) ?_)
   |((with_reducible refine kQ 252 ?_);refine cL h81 KF ?_))<;>with_reducible refine wK ?_)
  |apply  trivial));all_goals clear fct)
          all_goals first|rfl|exact aJ (cD _)
      ·rw[hig] at hk
       rw[hk]
       with_reducible refine wK ?_
       repeat' (first
  |refine gK ?_|refine aE ?_ ?_
  |(((with_reducible show bL _ _ _ _);refine dK ?_)<;>with_reducible refine wK ?_)
  |apply trivial)
       all_goals first|rfl|exact aJ (cD _)
 ·rw[if_neg e1,if_neg e1]
  (have fct:=(eq_false e1);(repeat' (first
  |refine gF ?_|refine aE ?_ ?_
  |apply trivial));all_goals clear fct)
  all_goals first|rfl|exact aJ (cD c)
theorem F0 (l:List az):Er l []:=⟨fun r t h=>(by cases h),(by simp)⟩
def mH (l:List az)(k:Nat):List Int:=(List.range k).map fun n:Nat=>iT l (n:Int)
def kW (l:List az):Nat→List (Int×List (ByteArray×Int))
 |0=>[]
 |k+1=>sA l (kW l k) (k:Int)
theorem zo (l:List az):∀k,k≤64→Er l (kW l k)∧(kW l k).length≤k
 |0,_=>⟨F0 l,Nat.le_refl _⟩
 | k+1,h=>by
   obtain⟨h1,h2⟩:=zo l k (by omega)
   have h3:=FE l (kW l k) (k:Int)
   exact⟨⟨HN h1.is _,by show(sA l (kW l k) (k:Int)).length≤_;omega⟩,by show(sA l (kW l k) (k:Int)).length≤_;omega⟩
theorem Cr (l:List az)(k:Nat):mH l (k+1)=mH l k++ [iT l (k:Int)]:=by unfold mH;rw[List.range_succ,fO];rfl
theorem yu (l:List az)(k:Nat):(mH l k).length=k:=by unfold mH;simp
def Lt (f:ForM):List Int:=if bf f=true then mH f.nodes f.nodes.length else[]
theorem Lx (f:ForM)(hs:bR f.nodes):af Tryz.prog 169 [] [bD f] [] (bQ (Lt f)):=by
 have h15:=kf f hs
 have h73:=MQ f
 have h60:=hs.len
 obtain⟨l,m⟩:=f
 unfold Lt
 simp only at h73 h60 ⊢
 have hlm:(l.map bP).length=l.length:=aM ..
 obtain⟨o,ho⟩:∃o,(if bf ⟨l,m⟩=true then mH l l.length else[])=o:=⟨_,rfl⟩
 rw[ho]
 refine af.ah (rvs:=[.tmp 2]) G aa Tryz.func169 rfl Tryz.ntmps169 rfl rfl ?_;with_reducible refine wD ?_
 cases hr:bf ⟨l,m⟩ with
 | false=>
   rw[hr] at h15
   rw[hr,if_neg (by simp)] at ho
   subst ho
   repeat' (first
  |refine gK ?_|refine aE ?_ ?_
  |(((with_reducible refine kQ 100 ?_);refine cL h15 mQ ?_)<;>with_reducible refine wK ?_)
  | apply trivial)
   all_goals exact .inr (.inr ⟨1,rfl⟩)
 | true=>
   rw[hr] at h15
   rw[hr,if_pos rfl] at ho
   subst ho
   have hstep:=fun k=>Cr l k
   have hlen:=fun k=>yu l k
   have hcall:∀k,k<l.length→af Tryz.prog 220 [vF (kW l k)] [.agg [fE l,aj m,.mapr 0],aj (k:Int)] [vF (kW l (k+1))] (aj (iT l (k:Int))):=fun k hk=>
    Ll l m hs hr (kW l k) (zo l k (by omega)).1 k (cw (aP hk))
   have hk0:kW l 0=[]:=rfl
   have ho0:mH l 0=[]:=rfl
   generalize kW l=kt at hcall hk0
   generalize mH l=ot at hstep hlen ho0 ⊢
   repeat' (first
  |refine gK ?_|refine aE ?_ ?_
  | ((first
   |((with_reducible refine kQ 100 ?_);refine cL h15 mQ ?_)
   |((with_reducible refine kQ 219 ?_);refine aD.new 101 [] h73 Rm ⟨⟨rfl,rfl,trivial⟩,trivial⟩ rfl rfl rfl ⟨.nil _,rfl,trivial⟩ rfl ?_))<;>with_reducible refine wK ?_)
  | apply trivial)
   refine aR.ghost 3 31 1 rfl rfl ?_
   refine aR.use G aa (fun(k:Nat)=>[(1,.ptr 10 0 0),(3,.own 31 0 k),(4,.ptr 40 0 0),(13,aj l.length),(14,aj k)])
    (fun k=>[(10,.live 2 [bD ⟨l,m⟩] false),(31,jG (ot k)),(40,.live 3 [.agg [fE l,aj m,.mapr 101]] false),(101,vF (kt k))])
    (fun k=>k≤l.length) (fun k=>l.length-k) 0 (Nat.zero_le _) ?_ ?_
   ·(refine fK ?_;(with_reducible repeat' (first|exact trivial|(show _∧_;refine aK ?_ ?_)));(all_goals try rfl))
    all_goals first
     |(show(l.length:Int)=_;rw[hlm])
     |(rw[ho0];exact⟨.refl rfl,rfl⟩)
     |(rw[hk0];exact⟨.refl rfl,rfl⟩)
     |skip
   intro k hk
   have hkl:=hlen k
   have hkm:((ot k).map bB).length=k:=by rw[aM,hkl]
   with_reducible refine wK ?_
   refine aQ.mk (fun h1=>?_) (fun h1=>?_)<;>(try simp only[aq] at h1)<;>with_reducible refine wK ?_
   ·have hk':k<l.length:=by simp only[aL] at h1;omega
    have h74:=hcall k hk'
    have hst:=hstep k
    generalize iT l (k:Int)=o at h74 hst
    repeat' (first
  |refine gK ?_|refine aE ?_ ?_
  | ((first
   |((with_reducible refine kQ 220 ?_);refine aD.lR (news:=[vF (kt (k+1))]) [101] [] h74 QZ ⟨⟨rfl,rfl,trivial,trivial⟩,rfl,trivial⟩ ⟨⟨rfl,.inl ⟨rfl,cD _⟩⟩,trivial⟩ rfl ⟨⟨rfl,rfl⟩,rfl⟩ rfl ⟨⟨rfl,.inl ⟨rfl,cD _⟩⟩,trivial⟩ rfl rfl ?_)
   |((with_reducible show cC _ _ _ _ _ _ _ _ _ _);refine cC.mk ((ot k).map bB) [aj o] ⟨rfl,hkm.symm,rfl⟩ ⟨rfl,rfl,rfl⟩ rfl (by simp;omega) (by simp;omega) ?_)
   |((with_reducible show bL _ _ _ _);refine dK ?_))<;>with_reducible refine wK ?_)
  | apply trivial)
    refine ay.mk (k+1) (by omega) (by omega) ?_
    rw[hst]
    (refine fK ?_;(with_reducible repeat' (first|exact trivial|(show _∧_;refine aK ?_ ?_)));(all_goals try rfl))
    all_goals first
     |(simp[hkl];done)
     |(refine⟨?_,bC _⟩;rw[fO];exact .refl (by rw[←fO];exact bC _))
     |exact⟨.refl (cD _),cD _⟩
     |skip
   ·have hjl:k=l.length:=by simp only[bh] at h1;omega
    subst hjl
    repeat' (first
  |refine gK ?_|refine aE ?_ ?_
  | apply trivial)
    all_goals exact eM rfl rfl rfl hkl.symm
theorem IQ {l:List az}{m:Nat}{n:Int}:iJ l (m+1) n=if(nd l n).parent=-1 then true else iJ l m (nd l n).parent:=rfl
theorem GB {l:List az}{m:Nat}{b:Int}:nM l (m+1) b=if(nd l b).parent=-1 then false else(xL l (nd l b).parent b||nM l m (nd l b).parent):=rfl
theorem Mx (f:ForM)(hs:bR f.nodes)(T:Tree f.nodes)(k:Nat)(x:az)(hx:f.nodes[k]? =some x):af Tryz.prog 221 [] [bD f,aj k] [] (aA (mA f.nodes k)):=by
 have h28:∀x∈f.nodes,af Tryz.prog 253 [] [aO x] [] (aA (nZ x)):=fun x hx=>Mf x (by have:=hs.attrs x hx;omega)
 have h20:∀ (k:Nat) (x:az),f.nodes[k]? =some x→af Tryz.prog 254 [] [bD f,aj k] [] (aj (n9 f.nodes k)):=fun k x hx=>Mo f hs k x hx fun c hc=>by
  have:=T.kid k (cw hx) c
  rw[dw hx] at this
  exact(this hc).1
 have hfin:=T.fin k (cw hx)
 have hpar:=T.par
 have hk:=(aZ hx).1
 obtain⟨l,m⟩:=f
 unfold mA
 simp only at h28 h20 hx hfin hpar hk ⊢
 rw[dw hx]
 have hx':=hx
 have h28x:=h28 x (bn hx)
 have hw:nZ x=false→x.kind=1→∀b:Bool,nM l l.length k=b→(nZ x||(decide (x.kind=1)&&nM l l.length k))=b:=fun h1 h2 b h=>by rw[h1,h2,h];simp
 have hwn:nZ x=false→x.kind≠1→(nZ x||(decide (x.kind=1)&&nM l l.length k))=false:=fun h1 h2=>by rw[h1,aS h2];rfl
 have hwy:nZ x=true→(nZ x||(decide (x.kind=1)&&nM l l.length k))=true:=fun h1=>by rw[h1];rfl
 have hdk:=@Hw x
 obtain⟨a1,a2,a3,a4,a5,a6,a7,a8,a9,a10⟩:=x
 have hxp:(nd l k).parent=a6:=by rw[dw hx]
 simp only at hw hwn hwy hdk ⊢
 refine af.ah (rvs:=[.tmp 4]) G aa Tryz.func221 rfl Tryz.ntmps221 rfl rfl ?_;with_reducible refine wD ?_
 refine ak.mk k (aO _) rfl (au hx) ?_;with_reducible refine wK ?_
 refine cL h28x LP ?_;with_reducible refine wK ?_
 cases d0:nZ ⟨a1,a2,a3,a4,a5,a6,a7,a8,a9,a10⟩ with
 | true=>
   have e1:=hdk d0
   rw[Bool.true_or]
   (have fct:=And.intro d0 (e1);(repeat' (first
  |refine gF ?_|refine aE ?_ ?_
  |((refine ak.mk k (aO _) rfl (au hx) ?_)<;>with_reducible refine wK ?_)
  | apply trivial));all_goals clear fct)
   all_goals simp[e1]
 | false =>
   by_cases e1:¬a1=1
   ·rw[aS e1]
    (have fct:=And.intro d0 ((eq_false e1));(repeat' (first
  |refine gF ?_|refine aE ?_ ?_
  |((refine ak.mk k (aO _) rfl (au hx) ?_)<;>with_reducible refine wK ?_)
  | apply trivial));all_goals clear fct)
    all_goals simp
   have e1:=Decidable.not_not.1 e1
   rw[aV e1,Bool.false_or,Bool.true_and]
   (have fct:=And.intro d0 (e1);(repeat' (first
  |refine gF ?_|refine aE ?_ ?_
  |((refine ak.mk k (aO _) rfl (au hx) ?_)<;>with_reducible refine wK ?_)
  | apply trivial));all_goals clear fct)
   refine aR.use G aa (fun(i:Nat×Nat)=>[(2,.ptr 20 0 0),(5,aj i.2),(6,aj (nd l i.2).parent)]) (fun _=>[(20,.live 2 [bD ⟨l,m⟩] false)])
    (fun i=>i.2<l.length∧iJ l i.1 i.2=true∧nM l l.length k=nM l i.1 i.2) (fun i=>i.1) (l.length,k) ⟨hk,hfin,rfl⟩
    ⟨⟨rfl,rfl⟩,⟨⟨rfl,rfl⟩,rfl,hxp,trivial⟩,⟨⟨rfl,rfl,trivial⟩,trivial⟩,trivial⟩ ?_
   rintro⟨n,b⟩ ⟨hb,hf,hwk⟩
   simp only at hb hf hwk
   obtain⟨y,hy⟩:∃y,l[b]? =some y:=⟨_,aP hb⟩
   have hpb:=hpar b (cw hy)
   cases n with
   |zero=>simp[iJ] at hf
   |succ n=>
   rw[IQ] at hf
   rw[GB] at hwk
   rw[dw hy] at hf hwk hpb
   with_reducible refine wK ?_
   simp only[dw hy]
   obtain⟨b1,b2,b3,b4,b5,b6,b7,b8,b9,b10⟩:=y
   simp only at hf hwk hpb ⊢
   by_cases p1:b6=-1
   ·rw[if_pos p1] at hwk
    rw[hwk]
    (have fct:=p1;(repeat' (first
  |refine gF ?_|refine aE ?_ ?_
  | apply trivial));all_goals clear fct)
   ·rw [if_neg p1] at hf hwk
    obtain⟨i,z,rfl,hz,hnz⟩:=aX.1 (hpb p1).1
    have h28z:=h28 z (bn hz)
    have h20z:=h20 i z hz
    have hi:=(aZ hz).1
    have hzp:(nd l i).parent=z.parent:=by rw[hnz]
    unfold xL at hwk
    rw[hnz] at hwk
    obtain⟨z1,z2,z3,z4,z5,z6,z7,z8,z9,z10⟩:=z
    simp only at hwk hzp
    have hne:¬ ((i:Int)=-1):=p1
    refine aQ.yes (by simp[hne]) ?_;with_reducible refine wK ?_
    refine ak.mk i (aO ⟨z1,z2,z3,z4,z5,z6,z7,z8,z9,z10⟩) rfl (au hz) ?_;with_reducible refine wK ?_
    by_cases f1:z2=I3
    ·cases d1:nZ ⟨z1,z2,z3,z4,z5,z6,z7,z8,z9,z10⟩ with
     | true=>
       by_cases g1:n9 l i=b
       ·rw[d1,aS (fun h:n9 l i≠b=>h g1),Bool.and_false,Bool.and_false,Bool.false_or] at hwk
        (have fct:=And.intro f1 (And.intro d1 (g1));(repeat' (first
  |refine gF ?_|refine aE ?_ ?_
  | ((first
   |((with_reducible refine kQ 253 ?_);refine cL h28z LP ?_)
   |((with_reducible refine kQ 254 ?_);refine cL h20z Qg ?_)
   |(refine ak.mk i (aO ⟨z1,z2,z3,z4,z5,z6,z7,z8,z9,z10⟩) rfl (au hz) ?_)
   |((with_reducible show ay _ _);refine ay.mk (n,i) ⟨hi,hf,hwk⟩ (Nat.lt_succ_self n) ⟨⟨rfl,rfl⟩,⟨⟨rfl,rfl⟩,rfl,hzp,trivial⟩,⟨⟨rfl,rfl,trivial⟩,trivial⟩,trivial⟩))<;>with_reducible refine wK ?_)
  |apply trivial));all_goals clear fct)
       ·rw[d1,aV f1,aV (show n9 l i≠b from g1)] at hwk
        rw[hwk]
        (have fct:=And.intro f1 (And.intro d1 ((eq_false g1)));(repeat' (first
  |refine gF ?_|refine aE ?_ ?_
  | ((first
   |((with_reducible refine kQ 253 ?_);refine cL h28z LP ?_)
   |((with_reducible refine kQ 254 ?_);refine cL h20z Qg ?_))<;>with_reducible refine wK ?_)
  |apply trivial));all_goals clear fct)
        all_goals simp
     | false=>
       rw[d1,Bool.false_and,Bool.and_false,Bool.false_or] at hwk
       (have fct:=And.intro f1 (d1);(repeat' (first
  |refine gF ?_|refine aE ?_ ?_
  | ((first
   |((with_reducible refine kQ 253 ?_);refine cL h28z LP ?_)
   |(refine ak.mk i (aO ⟨z1,z2,z3,z4,z5,z6,z7,z8,z9,z10⟩) rfl (au hz) ?_)
   |((with_reducible show ay _ _);refine ay.mk (n,i) ⟨hi,hf,hwk⟩ (Nat.lt_succ_self n) ⟨⟨rfl,rfl⟩,⟨⟨rfl,rfl⟩,rfl,hzp,trivial⟩,⟨⟨rfl,rfl,trivial⟩,trivial⟩,trivial⟩))<;>with_reducible refine wK ?_)
  | apply trivial));all_goals clear fct)
    ·rw[aS f1,Bool.false_and,Bool.false_or] at hwk
     (have fct:=(eq_false f1);(repeat' (first
  |refine gF ?_|refine aE ?_ ?_
  | ((first
   |(refine ak.mk i (aO ⟨z1,z2,z3,z4,z5,z6,z7,z8,z9,z10⟩) rfl (au hz) ?_)
   |((with_reducible show ay _ _);refine ay.mk (n,i) ⟨hi,hf,hwk⟩ (Nat.lt_succ_self n) ⟨⟨rfl,rfl⟩,⟨⟨rfl,rfl⟩,rfl,hzp,trivial⟩,⟨⟨rfl,rfl,trivial⟩,trivial⟩,trivial⟩))<;>with_reducible refine wK ?_)
  |apply trivial));all_goals clear fct)
theorem MJ (f:ForM)(hs:bR f.nodes)(n:Int):af Tryz.prog 172 [] [bD f,aj n] [] (aA (ai f.nodes n&&(bf f&&mA f.nodes n))):=by
 have h13:=kf f hs
 have h18:bf f=true→∀ (k:Nat) (x:az),f.nodes[k]? =some x→af Tryz.prog 221 [] [bD f,aj k] [] (aA (mA f.nodes k)):=fun hr k x hx=>Mx f hs (gO hr) k x hx
 obtain⟨l,m⟩:=f
 simp only at h13 h18 ⊢
 have hlm:(l.map bP).length=l.length:=aM ..
 refine af.ah (rvs:=[.tmp 4]) G aa Tryz.func172 rfl Tryz.ntmps172 rfl rfl ?_;with_reducible refine wD ?_
 by_cases e0:¬0≤n
 ·have ht:ai l n=false:=by unfold ai;simp[e0]
  rw[ht]
  (have fct:=(eq_false e0);(repeat' (first
  |refine gF ?_|refine aE ?_ ?_
  |apply trivial));all_goals clear fct)
  all_goals simp
 have e0:=Decidable.not_not.1 e0
 by_cases e1:¬n< (l.length:Int)
 ·have ht:ai l n=false:=by unfold ai;simp[e1]
  rw[ht]
  (have fct:=And.intro e0 (And.intro hlm ((eq_false e1)));(repeat' (first
  |refine gF ?_|refine aE ?_ ?_
  |apply trivial));all_goals clear fct)
  all_goals simp
 have e1:=Decidable.not_not.1 e1
 have ht:ai l n=true:=by unfold ai;simp[e0,e1]
 obtain⟨k,x,rfl,hx,_⟩:=aX.1 ht
 rw[ht]
 cases hr:bf ⟨l,m⟩ with
 | false=>
   (have fct:=And.intro hlm (And.intro e0 (And.intro e1 (hr)));(repeat' (first
  |refine gF ?_|refine aE ?_ ?_
  |(((with_reducible refine kQ 100 ?_);refine cL h13 mQ ?_)<;>with_reducible refine wK ?_)
  | apply trivial));all_goals clear fct)
   all_goals simp
 | true=>
   have h18':=h18 hr k x hx
   (have fct:=And.intro hlm (And.intro e0 (And.intro e1 (hr)));(repeat' (first
  |refine gF ?_|refine aE ?_ ?_
  | ((first
   |((with_reducible refine kQ 100 ?_);refine cL h13 mQ ?_)
   |((with_reducible refine kQ 221 ?_);refine cL h18' Sn ?_))<;>with_reducible refine wK ?_)
  | apply trivial));all_goals clear fct)
   all_goals simp
@[reducible] def bT (l : List StateM) : MS := .live 4 (l.map cr) false
theorem aB (l:List StateM):aU (l.map cr)=true:=dS cr (fun _=>rfl) l
theorem DA (l:List StateM):lg (flat (l.map cr))=true:=dA cr (fun _=>rfl) l
theorem ug (l:List StateM):gJ [bT l]:=⟨bI.fM fun r hr=>by
 obtain⟨a,_,rfl⟩:=List.mem_map.1 hr
 rfl,aB l,trivial⟩
theorem ek {m:ML}{fz:Nat→Bool}{cI:List (Nat×Nat)}{n t len:Nat}{ro:Bool}{rows:List AV}{l:List StateM}(h1:eC m t=.live 4 rows ro)(h2:fz t=true)(h3:rows=l.map cr)(h4:len=l.length):o6 m fz (MF cI fz m n) (dF l) t 0 len:=by
 subst h3;subst h4
 have e:(l.map cr).length=l.length:=aM ..
 exact .cut h1 h2 (by omega) (by rw[List.drop_zero,jH (by omega)]) (aB l)
theorem EJ (l:List StateM)(hl:l.length≤100000):af Tryz.prog 102 [] [dF l] [bT l] (.own 0 0 l.length):=by
 have hlm:(l.map cr).length=l.length:=aM ..
 refine af.ah (rvs:=[.tmp 2]) G aa Tryz.func102 rfl Tryz.ntmps102 rfl rfl ?_;with_reducible refine wD ?_
 refine jL.mk (fun h=>?_) (fun _=>?_)<;>with_reducible refine wK ?_
 ·obtain rfl:l=[]:=by simpa using h
  (refine eK ?_ ?_<;>with_reducible repeat' (first|exact trivial|(show _∧_;refine aK ?_ ?_)))
  all_goals first|rfl|trivial
 ·refine cC.mk [] (l.map cr) ⟨rfl,rfl,rfl⟩ ⟨rfl,rfl,rfl⟩ (DA l) (by simp;omega) (by simp;omega) ?_;with_reducible refine wK ?_
  (refine eK ?_ ?_<;>with_reducible repeat' (first|exact trivial|(show _∧_;refine aK ?_ ?_)))
  ·exact hlm.symm
  ·exact aJ (aB l)
theorem Cs (l:List ck)(x:ck):l.map fU++ [gL x]=(l++ [x]).map fU:=by rw[fO];rfl
@[reducible] def Ii (f : ForM) (x : AV) (d : bj) (cs : List aI) (y : AV) : AV := .agg [fE f.nodes, aj f.most, x, o9 d.defs, pC d.waits, aj d.next, aA d.busy, bF cs, y]
@[reducible] def eX (f : ForM) (x : AV) (d : bj) (cs : List aI) (y : AV) : MS := .live 9 [Ii f x d cs y] false
@[reducible] def Ln : AV := .lit (.slice none 0 0)
theorem Mb (f:ForM)(hs:bR f.nodes)(st:List StateM)(hst:st.length≤100000)(d:bj)(hd:fH d)(cs:List aI):
  af Tryz.prog 168 [] [bD f,dF st,cP d,bF cs] [eX f (.own 1 0 st.length) d cs Ln,bT st] (.tup [.ptr 0 0 0,aA (iO f st d)]):=by
 have h15:=kf f hs
 have h71:=Ad d hd
 have h108:=EJ st hst
 have hsm:(st.map cr).length=st.length:=aM ..
 have hlm:=(show(f.nodes.map bP).length=f.nodes.length from aM ..)
 unfold iO
 obtain⟨l,m⟩:=f
 obtain⟨d1,d2,d3,d4⟩:=d
 simp only at h15 h71 hlm ⊢
 refine af.ah (rvs:=[.tmp 8,.tmp 9]) G aa Tryz.func168 rfl Tryz.ntmps168 rfl rfl ?_;with_reducible refine wD ?_
 refine aD.new 131 [] h108 Pv ⟨rfl,trivial⟩ rfl rfl rfl (ug st) rfl ?_;with_reducible refine wK ?_
 by_cases e1:st.length=l.length
 ·cases e2:bf ⟨l,m⟩<;>rw[e2] at h15
  ·(have fct:=And.intro hsm (And.intro hlm ((eq_true e1)));(repeat' (first
  |refine gF ?_|refine aE ?_ ?_
  | ((first
   |((with_reducible refine kQ 100 ?_);refine cL h15 mQ ?_)
   |((with_reducible show bL _ _ _ _);refine dK ?_))<;>with_reducible refine wK ?_)
  | apply trivial));all_goals clear fct)
   all_goals first|(simp[e1];done)|exact⟨.refl (aB st),aB st⟩|exact .inl rfl|rfl
  ·cases e3:dU ⟨d1,d2,d3,d4⟩<;>rw[e3] at h71
   all_goals ((have fct:=And.intro hsm (And.intro hlm ((eq_true e1)));(repeat' (first
  |refine gF ?_|refine aE ?_ ?_
  | ((first
   |((with_reducible refine kQ 100 ?_);refine cL h15 mQ ?_)
   |((with_reducible refine kQ 144 ?_);refine cL h71 HR ?_)
   |((with_reducible show bL _ _ _ _);refine dK ?_))<;>with_reducible refine wK ?_)
  | apply trivial));all_goals clear fct))
   all_goals first|(simp[e1];done)|exact⟨.refl (aB st),aB st⟩|exact .inl rfl|rfl
 ·(have fct:=And.intro hsm (And.intro hlm ((eq_false e1)));(repeat' (first
  |refine gF ?_|refine aE ?_ ?_
  |(((with_reducible show bL _ _ _ _);refine dK ?_)<;>with_reducible refine wK ?_)
  |apply trivial));all_goals clear fct)
  all_goals first|(simp[e1];done)|exact⟨.refl (aB st),aB st⟩|exact .inl rfl|rfl
theorem It (f:ForM)(st:List StateM)(d:bj)(cs:List aI)(due:List ck)(hdl:due.length≤100000)(c:aI)(hc:c.hooks.length≤100000)(n:Int)(t:bw)(hh:cm c t.kind=true):
  af Tryz.prog 171 [eX f (.own 1 0 st.length) d cs (.own 2 0 due.length),bT st,di due] [.ptr 0 0 0,bK c,aj n,fR t]
   [eX f (.own 1 0 st.length) d cs (.own 3 0 (due.length+1)),bT st,.dead,di (due++ [⟨n,t⟩])] (.tup []):=by
 have h37:=uP c hc t.kind
 rw[hh] at h37
 have hdm:(due.map fU).length=due.length:=aM ..
 obtain⟨l,m⟩:=f
 obtain⟨d1,d2,d3,d4⟩:=d
 obtain⟨c1,c2,c3,c4,c5⟩:=c
 obtain⟨t1,t2,t3,t4,t5,t6,t7,t8,t9,t10⟩:=t
 simp only at h37
 refine af.OM (rvs:=[]) G aa Tryz.func171 rfl Tryz.ntmps171 rfl rfl ?_;with_reducible refine wD ?_
 repeat' (first
  |refine gK ?_|refine aE ?_ ?_
  | ((first
   |((with_reducible refine kQ 119 ?_);refine cL h37 AR ?_)
   |((with_reducible show cC _ _ _ _ _ _ _ _ _ _);refine cC.mk (due.map fU) [gL ⟨n,⟨t1,t2,t3,t4,t5,t6,t7,t8,t9,t10⟩⟩] ⟨rfl,hdm.symm,rfl⟩ ⟨rfl,rfl,rfl⟩ rfl (by simp;omega) (by simp;omega) ?_)
   |((with_reducible show bL _ _ _ _);refine dK ?_))<;>with_reducible refine wK ?_)
  |apply trivial)
 all_goals first
  |(simp;done)
  |exact⟨.refl (aB st),aB st⟩
  |(show MR _ ((due++ ([⟨n,⟨t1,t2,t3,t4,t5,t6,t7,t8,t9,t10⟩⟩]:List ck)).map fU) (due.map fU++ [gL ⟨n,⟨t1,t2,t3,t4,t5,t6,t7,t8,t9,t10⟩⟩]);rw[Cs];exact⟨.refl (aF _),aF _⟩)
theorem Lo (f:ForM)(st:List StateM)(d:bj)(cs:List aI)(due:List ck)(c:aI)(hc:c.hooks.length≤100000)(n:Int)(t:bw)(hh:cm c t.kind=false):
  af Tryz.prog 171 [eX f (.own 1 0 st.length) d cs (.own 2 0 due.length),bT st,di due] [.ptr 0 0 0,bK c,aj n,fR t]
   [eX f (.own 1 0 st.length) d cs (.own 2 0 due.length),bT st,di due] (.tup []):=by
 have h37:=uP c hc t.kind
 rw[hh] at h37
 obtain⟨l,m⟩:=f
 obtain⟨d1,d2,d3,d4⟩:=d
 obtain⟨c1,c2,c3,c4,c5⟩:=c
 obtain⟨t1,t2,t3,t4,t5,t6,t7,t8,t9,t10⟩:=t
 simp only at h37
 refine af.ah (rvs:=[]) G aa Tryz.func171 rfl Tryz.ntmps171 rfl rfl ?_;with_reducible refine wD ?_
 repeat' (first
  |refine gK ?_|refine aE ?_ ?_
  |(((with_reducible refine kQ 119 ?_);refine cL h37 AR ?_)<;>with_reducible refine wK ?_)
  |apply trivial)
 all_goals first
  |exact⟨.refl (aB st),aB st⟩
  |exact⟨.refl (aF due),aF due⟩
section
variable {m : ML} {b s e : Nat} {f : ForM} {st st' : List StateM} {d : bj} {cs : List aI} {due due' : List ck} {k k' n n' : Nat}
theorem iN (hb:eC m b=eX f (.own s 0 n) d cs (.own e 0 k))(hs:eC m s=bT st)(he:eC m e=di due){r:List Nat}:Ct (tB 3 0 (b::s::e::r)) [] m [eX f (.own 1 0 n) d cs (.own 2 0 k),bT st,di due] (b::s::e::r):=by
 simp only[Ct,hb,hs,he]
 refine⟨⟨trivial,.inr ⟨⟨⟨rfl,rfl,?_,rfl,rfl,rfl,rfl,rfl,?_,trivial⟩,trivial⟩,rfl⟩⟩,⟨trivial,.inl ⟨rfl,aB _⟩⟩,⟨trivial,.inl ⟨rfl,aF _⟩⟩,trivial⟩
 all_goals (simp[MF,tB,uH,Nat.beq_refl])
theorem mK:qv [b,s,e] [eX f (.own 1 0 n) d cs (.own 2 0 k),bT st,di due] [eX f (.own s 0 n) d cs (.own e 0 k),bT st,di due]:=
 ⟨⟨rfl,.inr ⟨rfl,rfl,rfl⟩⟩,⟨rfl,.inl ⟨rfl,aB _⟩⟩,⟨rfl,.inl ⟨rfl,aF _⟩⟩,trivial⟩
theorem pX {q:Nat}:qv [b,s,e,q] [eX f (.own 1 0 n) d cs (.own 3 0 k),bT st,.dead,di due] [eX f (.own s 0 n) d cs (.own q 0 k),bT st,.dead,di due]:=
 ⟨⟨rfl,.inr ⟨rfl,rfl,rfl⟩⟩,⟨rfl,.inl ⟨rfl,aB _⟩⟩,⟨rfl,.inl ⟨rfl,aF _⟩⟩,trivial⟩
end
theorem Ay (l:List StateM)(k:Nat)(y:StateM):(l.map cr).set (0+k) (cf y)=(l.set k y).map cr:=by rw[Nat.zero_add,List.map_set];rfl
theorem Ig (f:ForM)(st:List StateM)(ns:Nat)(hns:st.length=ns)(d:bj)(cs:List aI)(due:List ck)(k:Nat)(s:StateM)(hk:st[k]? =some s)(ht:ai f.nodes (k:Int)=true):
  af Tryz.prog 170 [eX f (.own 1 0 ns) d cs (.own 2 0 due.length),bT st,di due] [.ptr 0 0 0,aj k] [eX f (.own 1 0 ns) d cs (.own 2 0 due.length),bT st,di due] (.tup [bK (ct s d cs),aA (jY f d cs k s)]):=by
 have hkl:=(aZ hk).1
 have h36:=Ew s d cs
 unfold jY
 obtain⟨i,x,e,hx,hnx⟩:=aX.1 ht
 rw[hnx]
 obtain⟨l,m⟩:=f
 obtain⟨d1,d2,d3,d4⟩:=d
 obtain⟨cv,hcv⟩:∃cv,ct s ⟨d1,d2,d3,d4⟩ cs=cv:=⟨_,rfl⟩
 obtain⟨cb,hcb⟩:∃cb,iq s ⟨d1,d2,d3,d4⟩ cs=cb:=⟨_,rfl⟩
 rw[hcv,hcb] at h36 ⊢
 obtain⟨s1,s2,s3,s4⟩:=s
 obtain⟨c1,c2,c3,c4,c5⟩:=cv
 obtain⟨a1,a2,a3,a4,a5,a6,a7,a8,a9,a10⟩:=x
 simp only at hx
 clear hcv hcb
 refine af.ah (rvs:=[.cell 4 53,.tmp 5]) G aa Tryz.func170 rfl Tryz.ntmps170 rfl rfl ?_;with_reducible refine wD ?_
 repeat' (first
  |refine gK ?_|refine aE ?_ ?_
  | ((first
   |(refine ak.mk i (aO _) e (au hx) ?_)
   |((with_reducible show qb _ _ _ _ _);refine qb.mk k rfl (by omega) ?_)
   |((with_reducible show dc _ _ _ _ _);refine dc.mk (cf ⟨s1,s2,s3,s4⟩) (by rw[Nat.zero_add];exact bN hk) ?_)
   |((with_reducible refine kQ 117 ?_);refine cV h36 PW ?_)
   |((with_reducible show bL _ _ _ _);refine dK ?_))<;>with_reducible refine wK ?_)
  |apply trivial)
 cases cb with
 | false=>
   repeat' (first
  |refine gK ?_|refine aE ?_ ?_
  |(((with_reducible show bL _ _ _ _);refine dK ?_)<;>with_reducible refine wK ?_)
  | apply trivial)
   all_goals first
    |rfl
    |exact⟨.refl (aB st),aB st⟩
    |exact⟨.refl (aF due),aF due⟩
    |(simp[*];done)
 | true =>
   cases c1 with
   | false=>
     repeat' (first
  |refine gK ?_|refine aE ?_ ?_
  |(((with_reducible show bL _ _ _ _);refine dK ?_)<;>with_reducible refine wK ?_)
  | apply trivial)
     all_goals first
      |rfl
      |exact⟨.refl (aB st),aB st⟩
      |exact⟨.refl (aF due),aF due⟩
      |(simp[*];done)
   | true=>
     by_cases e1:s1=3
     ·(have fct:=(eq_true e1);(repeat' (first
  |refine gF ?_|refine aE ?_ ?_
  | ((first
   |(refine ak.mk i (aO _) e (au hx) ?_)
   |((with_reducible show bL _ _ _ _);refine dK ?_))<;>with_reducible refine wK ?_)
  |apply trivial));all_goals clear fct)
      all_goals first
       |rfl
       |exact⟨.refl (aB st),aB st⟩
       |exact⟨.refl (aF due),aF due⟩
       |(simp[*];done)
     ·(have fct:=(eq_false e1);(repeat' (first
  |refine gF ?_|refine aE ?_ ?_
  |(((with_reducible show bL _ _ _ _);refine dK ?_)<;>with_reducible refine wK ?_)
  |apply trivial));all_goals clear fct)
      all_goals first
       |rfl
       |exact⟨.refl (aB st),aB st⟩
       |exact⟨.refl (aF due),aF due⟩
       |(simp[*];done)
theorem kz {c:aI}{n:Int}{t:bw}(h:cm c t.kind=true):jl c n t=[⟨n,t⟩]:=by unfold jl;rw[if_pos h]
theorem my {c:aI}{n:Int}{t:bw}(h:cm c t.kind=false):jl c n t=[]:=by unfold jl;rw[if_neg (by simp[h])]
theorem si {cs:List aI}(h:∀c∈cs,c.hooks.length≤100000)(s:StateM)(d:bj):(ct s d cs).hooks.length≤100000:=by
 unfold ct
 split
 ·cases hg:cs[(cG s d cs.length).toNat]? with
  |none=>show(0:Nat)≤_;omega
  |some c=>exact h c (bn hg)
 ·show(0:Nat)≤_;omega
theorem Kv (f:ForM)(hs:bR f.nodes)(st:List StateM)(hst:st.length≤1000)(d:bj)(hd:fH d)(cs:List aI)(hcs:∀c∈cs,c.hooks.length≤100000):
  af Tryz.prog 104 [] [bD f,dF st,cP d,bF cs] [] (.tup [dF (dg f st d cs),dX (fJ f st d cs)]):=by
 have h64:=Mb f hs st (by omega) d hd cs
 obtain⟨os',hos'⟩:∃x,dg f st d cs=x:=⟨_,rfl⟩
 obtain⟨od,hod⟩:∃x,fJ f st d cs=x:=⟨_,rfl⟩
 rw[hos',hod]
 unfold dg at hos'
 unfold fJ at hod
 obtain⟨lv,hlv⟩:∃lv,iO f st d=lv:=⟨_,rfl⟩
 rw[hlv] at h64 hos' hod
 cases lv with
 | false=>
   rw[if_neg (by simp)] at hos' hod
   subst hos'
   subst hod
   obtain⟨l,m⟩:=f
   obtain⟨d1,d2,d3,d4⟩:=d
   refine af.ah (rvs:=[.tmp 8,.tmp 9]) G aa Tryz.func104 rfl Tryz.ntmps104 rfl rfl ?_;with_reducible refine wD ?_
   refine aD.lR (news:=[eX ⟨l,m⟩ (.own 241 0 st.length) ⟨d1,d2,d3,d4⟩ cs Ln,bT st]) [240,241] [] h64 PG ⟨⟨rfl,rfl,trivial⟩,rfl,⟨rfl,rfl,rfl,rfl,trivial⟩,rfl,trivial⟩ trivial rfl ⟨⟨rfl,rfl⟩,rfl⟩ rfl ⟨⟨rfl,.inr ⟨rfl,rfl,rfl⟩⟩,⟨rfl,.inl ⟨rfl,aB _⟩⟩,trivial⟩ rfl rfl ?_
   with_reducible refine wK ?_
   repeat' (first
  |refine gK ?_|refine aE ?_ ?_
  | apply trivial)
   all_goals first|exact ek rfl rfl rfl rfl|exact .inr (.inr ⟨_,rfl⟩)
 | true =>
   rw[if_pos rfl] at hos' hod
   have hlv':=hlv
   unfold iO at hlv'
   obtain⟨⟨hlen,hr⟩,hrd⟩:(st.length=f.nodes.length∧bf f=true)∧dU d=true:=by simpa using hlv'
   have h42:=Lx f hs
   have e42:Lt f=mH f.nodes f.nodes.length:=by unfold Lt;rw[if_pos hr]
   rw[e42] at h42
   have h39:=fun n=>MJ f hs n
   have hhk:=fun s=>si hcs s d
   have h60:=hs.len
   have hos:∀k,k<st.length→(mH f.nodes f.nodes.length)[k]? =some (iT f.nodes (k:Int)):=fun k hk=>by
    unfold mH;rw[dM,List.getElem?_range (by omega)];rfl
   have hol:=yu f.nodes f.nodes.length
   have hth:∀k,k<st.length→ai f.nodes (k:Int)=true:=fun k hk=>cw (aP (by omega))
   have htl:=fun k=>mS f d cs st k
   have htg:∀k,k<st.length→(Ch f d cs st k)[k]? =some (sX st k):=fun k hk=>by rw[pU hk,if_neg (by omega)]
   have hts:=fun k hk=>Bi f d cs st (k:=k) hk
   have htm:=fun k hk=>Hz f d cs st (k:=k) hk
   have htd:=fun k=>vZ f d cs st k
   have htdl:=fun k=>uS f d cs st k
   have ht0:=JD f d cs st
   have hd0:Jz f d cs st 0=[]:=rfl
   have hSd:∀k s,qj f d cs k s=if jY f d cs k s=true then⟨s.phase,s.df,iT f.nodes k,mA f.nodes k⟩ else s:=fun k s=>rfl
   have hDd:∀k s,vY f d cs k s=if jY f d cs k s=true then
    (if s.owner=iT f.nodes k then[] else jl (ct s d cs) k (gE s.owner (iT f.nodes k)))++ (if s.barred=mA f.nodes k then[] else jl (ct s d cs) k (cA (mA f.nodes k))) else[]:=fun k s=>rfl
   have h65:=fun(st':List StateM) (due:List ck) (k:Nat) (s:StateM) (h1:st'.length=st.length) (h2:st'[k]? =some s) (h3:ai f.nodes (k:Int)=true)=>Ig f st' st.length h1 d cs due k s h2 h3
   generalize Ch f d cs st=ts at hos' htl htg hts htm ht0
   generalize Jz f d cs st=td at hod htd htdl hd0
   subst hos'
   subst hod
   generalize mH f.nodes f.nodes.length=ol at h42 hos hol
   have hom:(ol.map bB).length=ol.length:=aM ..
   obtain⟨l,m⟩:=f
   obtain⟨d1,d2,d3,d4⟩:=d
   simp only at hlen h60 hol
   refine af.ah (rvs:=[.tmp 8,.tmp 9]) G aa Tryz.func104 rfl Tryz.ntmps104 rfl rfl ?_;with_reducible refine wD ?_
   refine aD.lR (news:=[eX ⟨l,m⟩ (.own 241 0 st.length) ⟨d1,d2,d3,d4⟩ cs Ln,bT st]) [240,241] [] h64 PG ⟨⟨rfl,rfl,trivial⟩,rfl,⟨rfl,rfl,rfl,rfl,trivial⟩,rfl,trivial⟩ trivial rfl ⟨⟨rfl,rfl⟩,rfl⟩ rfl ⟨⟨rfl,.inr ⟨rfl,rfl,rfl⟩⟩,⟨rfl,.inl ⟨rfl,aB _⟩⟩,trivial⟩ rfl rfl ?_
   with_reducible refine wK ?_
   repeat' (first
  |refine gK ?_|refine aE ?_ ?_
  |(((with_reducible refine kQ 169 ?_);refine cV h42 R1 ?_)<;>with_reducible refine wK ?_)
  | apply trivial)
   refine aR.k6 10 240 248 11 0 8 (Ii ⟨l,m⟩ (.own 241 0 st.length) ⟨d1,d2,d3,d4⟩ cs Ln) (Ii ⟨l,m⟩ (.own 241 0 st.length) ⟨d1,d2,d3,d4⟩ cs (.own 248 0 0)) rfl rfl rfl rfl rfl rfl ?_
   refine aR.use G aa (fun(k:Nat)=>[(4,.ptr 40 0 0),(10,.ptr 240 0 0),(34,bQ ol),(35,aj ol.length),(36,aj k)])
    (fun k=>[(40,.live 2 [bD ⟨l,m⟩] false),(240,eX ⟨l,m⟩ (.own 241 0 st.length) ⟨d1,d2,d3,d4⟩ cs (.own 248 0 (td k).length)),(241,bT (ts k)),(248,di (td k))])
    (fun k=>k≤st.length) (fun k=>st.length-k) 0 (Nat.zero_le _) ?_ ?_
   ·rw[ht0,hd0]
    (refine fK ?_;(with_reducible repeat' (first|exact trivial|(show _∧_;refine aK ?_ ?_)));(all_goals try rfl))
    all_goals first
     |(show(ol.length:Int)=_;rw[hom])
     |exact⟨⟨rfl,rfl,⟨rfl,rfl⟩,rfl,rfl,rfl,rfl,rfl,⟨rfl,rfl⟩,trivial⟩,trivial⟩
     |exact⟨.refl (aB st),aB st⟩
     |(show MR _ [] [];exact⟨.refl rfl,rfl⟩)
   intro k hk
   have hdl:=htdl k
   have htk:=htl k
   with_reducible refine wK ?_
   refine aQ.mk (fun h1=>?_) (fun h1=>?_)<;>(try simp only[aq] at h1)<;>with_reducible refine wK ?_
   ·have hk':k<st.length:=by simp only[aL] at h1;omega
    have hok:=hos k hk'
    have hgk:=htg k hk'
    have h65:=h65 (ts k) (td k) k (sX st k) htk hgk (hth k hk')
    have h39:=h39 (k:Int)
    rw[hth k hk',hr,Bool.true_and,Bool.true_and] at h39
    have hts:=hts k hk'
    have htm:=htm k hk'
    have htd:=htd k
    have hhk:=hhk (sX st k)
    have hSd:=hSd k (sX st k)
    have hDd:=hDd k (sX st k)
    have htl1:=htl (k+1)
    clear hos htl htg htdl h64 h42 hth
    generalize sX st k=s at*
    obtain⟨dy,hdy⟩:∃dy,jY ⟨l,m⟩ ⟨d1,d2,d3,d4⟩ cs (k:Int) s=dy:=⟨_,rfl⟩
    rw[hdy] at h65 hSd hDd
    generalize hcv:ct s ⟨d1,d2,d3,d4⟩ cs=cv at*
    generalize iT l (k:Int)=o at*
    generalize mA l (k:Int)=b at*
    generalize ts k=X at*
    generalize td k=D at*
    obtain⟨s1,s2,s3,s4⟩:=s
    obtain⟨c1,c2,c3,c4,c5⟩:=cv
    refine ak.mk k (aj o) rfl (dG hok) ?_;with_reducible refine wK ?_
    refine aD.lR (news:=[eX ⟨l,m⟩ (.own 241 0 st.length) ⟨d1,d2,d3,d4⟩ cs (.own 248 0 D.length),bT X,di D]) [240,241,248] [] h65 Rk ⟨⟨rfl,rfl⟩,rfl,trivial⟩ (iN rfl rfl rfl) rfl ⟨⟨rfl,rfl⟩,rfl⟩ rfl mK rfl rfl ?_
    with_reducible refine wK ?_
    cases dy with
    | false=>
      rw[if_neg (by simp)] at hSd hDd
      rw[hSd] at htm
      rw[hDd,List.append_nil] at htd
      repeat' (first
  |refine gK ?_|refine aE ?_ ?_
  | apply trivial)
      refine ay.mk (k+1) (by omega) (by omega) ?_
      rw[htd,htm rfl]
      (refine fK ?_;(with_reducible repeat' (first|exact trivial|(show _∧_;refine aK ?_ ?_)));(all_goals try rfl))
      all_goals first
       |exact⟨.refl (aB _),aB _⟩
       |exact⟨.refl (aF _),aF _⟩
       |(simp;done)
    | true=>
      rw[if_pos rfl] at hSd hDd
      simp only at hSd hDd
      rw[hSd] at hts htm
      rw[hDd] at htd
      have hXk:X[k]? =some ⟨s1,s2,s3,s4⟩:=hgk
      have h66y:∀ (Z:List StateM) (E:List ck) (t:bw),Z.length=st.length→E.length≤1000→cm ⟨c1,c2,c3,c4,c5⟩ t.kind=true→
        af Tryz.prog 171 [eX ⟨l,m⟩ (.own 1 0 st.length) ⟨d1,d2,d3,d4⟩ cs (.own 2 0 E.length),bT Z,di E] [.ptr 0 0 0,bK ⟨c1,c2,c3,c4,c5⟩,aj (k:Int),fR t]
         [eX ⟨l,m⟩ (.own 1 0 st.length) ⟨d1,d2,d3,d4⟩ cs (.own 3 0 (E.length+1)),bT Z,.dead,di (E++ [⟨(k:Int),t⟩])] (.tup []):=fun Z E t hz he hh=>by
       have:=It ⟨l,m⟩ Z ⟨d1,d2,d3,d4⟩ cs E (by omega) ⟨c1,c2,c3,c4,c5⟩ hhk (k:Int) t hh
       rwa [hz] at this
      have h66n:∀ (Z:List StateM) (E:List ck) (t:bw),Z.length=st.length→cm ⟨c1,c2,c3,c4,c5⟩ t.kind=false→
        af Tryz.prog 171 [eX ⟨l,m⟩ (.own 1 0 st.length) ⟨d1,d2,d3,d4⟩ cs (.own 2 0 E.length),bT Z,di E] [.ptr 0 0 0,bK ⟨c1,c2,c3,c4,c5⟩,aj (k:Int),fR t]
         [eX ⟨l,m⟩ (.own 1 0 st.length) ⟨d1,d2,d3,d4⟩ cs (.own 2 0 E.length),bT Z,di E] (.tup []):=fun Z E t hz hh=>by
       have:=Lo ⟨l,m⟩ Z ⟨d1,d2,d3,d4⟩ cs E ⟨c1,c2,c3,c4,c5⟩ hhk (k:Int) t hh
       rwa [hz] at this
      have hDl:D.length≤500:=by omega
      clear h65 hSd hDd hhk
      by_cases e1:s3=o
      ·obtain rfl:=e1.symm
       rw[if_pos rfl,List.nil_append] at htd
       by_cases e2:s4=b
       ·obtain rfl:=e2.symm
        rw[if_pos rfl,List.append_nil] at htd
        repeat' (first
  |refine gK ?_|refine aE ?_ ?_
  | ((first
   |((with_reducible show qb _ _ _ _ _);refine qb.mk k rfl (by omega) ?_)
   |((with_reducible show dc _ _ _ _ _);refine dc.mk (cf ⟨s1,s2,o,b⟩) (by rw[Nat.zero_add];exact bN hXk) ?_)
   |((with_reducible refine kQ 172 ?_);refine cL h39 Gt ?_))<;>with_reducible refine wK ?_)
  |apply  trivial)
        refine ay.mk (k+1) (by omega) (by omega) ?_
        rw[htd,htm rfl]
        (refine fK ?_;(with_reducible repeat' (first|exact trivial|(show _∧_;refine aK ?_ ?_)));(all_goals try rfl))
        all_goals first
         |exact⟨.refl (aB _),aB _⟩
         |exact⟨.refl (aF _),aF _⟩
         |(simp;done)
       ·rw[if_neg e2] at htd
        have e2':(b==s4)=false:=by cases b<;>cases s4<;>simp at e2 ⊢
        (have fct:=e2';(repeat' (first
  |refine gF ?_|refine aE ?_ ?_
  | ((first
   |((with_reducible show qb _ _ _ _ _);refine qb.mk k rfl (by omega) ?_)
   |((with_reducible show dc _ _ _ _ _);refine dc.mk (cf ⟨s1,s2,o,s4⟩) (by rw[Nat.zero_add];exact bN hXk) ?_)
   |((with_reducible refine kQ 172 ?_);refine cL h39 Gt ?_))<;>with_reducible refine wK ?_)
  |apply  trivial));all_goals clear fct)
        have htk2:(X.set k ⟨s1,s2,o,b⟩).length=st.length:=by simp[htk]
        rw[Ay X k ⟨s1,s2,o,b⟩]
        cases hw2:cm ⟨c1,c2,c3,c4,c5⟩ 6 with
        | true=>
          rw[kz (show cm _ (cA b).kind=true from hw2)] at htd
          have hFl:(D++ ([⟨(k:Int),cA b⟩]:List ck)).length=D.length+1:=by simp
          refine aD.lR (news:=[eX ⟨l,m⟩ (.own 241 0 st.length) ⟨d1,d2,d3,d4⟩ cs (.own 911 0 (D.length+1)),bT (X.set k ⟨s1,s2,o,b⟩),.dead,di (D++ [⟨(k:Int),cA b⟩])]) [240,241,248,911] [] (h66y (X.set k ⟨s1,s2,o,b⟩) D (cA b) (by simp;omega) (by omega) hw2) Bb ⟨⟨rfl,rfl⟩,⟨rfl,rfl,rfl,rfl,rfl,trivial⟩,rfl,⟨rfl,rfl,rfl,rfl,rfl,rfl,rfl,rfl,rfl,rfl,trivial⟩,trivial⟩ (iN rfl rfl rfl) rfl ⟨⟨rfl,rfl⟩,rfl⟩ rfl pX rfl rfl ?_
          with_reducible refine wK ?_
          repeat' (first
  |refine gK ?_|refine aE ?_ ?_
  |apply  trivial)
          refine ay.mk (k+1) (by omega) (by omega) ?_
          rw[htd,hts]
          (refine fK ?_;(with_reducible repeat' (first|exact trivial|(show _∧_;refine aK ?_ ?_)));(all_goals try rfl))
          all_goals first
           |exact⟨.refl (aB _),aB _⟩
           |exact⟨.refl (aF _),aF _⟩
           |(simp;done)
        | false=>
          rw[my (show cm _ (cA b).kind=false from hw2),List.append_nil] at htd
          refine aD.lR (news:=[eX ⟨l,m⟩ (.own 241 0 st.length) ⟨d1,d2,d3,d4⟩ cs (.own 248 0 D.length),bT (X.set k ⟨s1,s2,o,b⟩),di D]) [240,241,248] [] (h66n (X.set k ⟨s1,s2,o,b⟩) D (cA b) (by simp;omega) hw2) Bb ⟨⟨rfl,rfl⟩,⟨rfl,rfl,rfl,rfl,rfl,trivial⟩,rfl,⟨rfl,rfl,rfl,rfl,rfl,rfl,rfl,rfl,rfl,rfl,trivial⟩,trivial⟩ (iN rfl rfl rfl) rfl ⟨⟨rfl,rfl⟩,rfl⟩ rfl mK rfl rfl ?_
          with_reducible refine wK ?_
          repeat' (first
  |refine gK ?_|refine aE ?_ ?_
  |apply  trivial)
          refine ay.mk (k+1) (by omega) (by omega) ?_
          rw[htd,hts]
          (refine fK ?_;(with_reducible repeat' (first|exact trivial|(show _∧_;refine aK ?_ ?_)));(all_goals try rfl))
          all_goals first
           |exact⟨.refl (aB _),aB _⟩
           |exact⟨.refl (aF _),aF _⟩
           |(simp;done)
      ·rw[if_neg e1] at htd
       have hYk:(X.set k ⟨s1,s2,o,s4⟩)[k]? =some ⟨s1,s2,o,s4⟩:=by rw[List.getElem?_set_self (by omega)]
       have hYl:(X.set k ⟨s1,s2,o,s4⟩).length=st.length:=by simp[htk]
       have hset:(X.set k ⟨s1,s2,o,s4⟩).set k ⟨s1,s2,o,b⟩=X.set k ⟨s1,s2,o,b⟩:=List.set_set ..
       rw[←hset] at hts
       (have fct:=(eq_false e1);(repeat' (first
  |refine gF ?_|refine aE ?_ ?_
  | ((first
   |((with_reducible show qb _ _ _ _ _);refine qb.mk k rfl (by omega) ?_)
   |((with_reducible show dc _ _ _ _ _);refine dc.mk (cf ⟨s1,s2,s3,s4⟩) (by rw[Nat.zero_add];exact bN hXk) ?_))<;>with_reducible refine wK ?_)
  |apply  trivial));all_goals clear fct)
       rw[Ay X k ⟨s1,s2,o,s4⟩]
       generalize X.set k ⟨s1,s2,o,s4⟩=Y at*
       cases hw:cm ⟨c1,c2,c3,c4,c5⟩ 5 with
       | true=>
         rw[kz (show cm _ (gE s3 o).kind=true from hw),←List.append_assoc] at htd
         have hEl:(D++ ([⟨(k:Int),gE s3 o⟩]:List ck)).length=D.length+1:=by simp
         refine aD.lR (news:=[eX ⟨l,m⟩ (.own 241 0 st.length) ⟨d1,d2,d3,d4⟩ cs (.own 721 0 (D.length+1)),bT Y,.dead,di (D++ [⟨(k:Int),gE s3 o⟩])]) [240,241,248,721] [] (h66y Y D (gE s3 o) hYl (by omega) hw) Bb ⟨⟨rfl,rfl⟩,⟨rfl,rfl,rfl,rfl,rfl,trivial⟩,rfl,⟨rfl,rfl,rfl,rfl,rfl,rfl,rfl,rfl,rfl,rfl,trivial⟩,trivial⟩ (iN rfl rfl rfl) rfl ⟨⟨rfl,rfl⟩,rfl⟩ rfl pX rfl rfl ?_
         rw[←hEl]
         generalize D++ ([⟨(k:Int),gE s3 o⟩]:List ck)=E at*
         have hEl':E.length≤501:=by omega
         with_reducible refine wK ?_
         by_cases e2:s4=b
         ·obtain rfl:=e2.symm
          rw[if_pos rfl,List.append_nil] at htd
          have hYs:Y.set k ⟨s1,s2,o,b⟩=Y:=by
           apply List.ext_getElem?
           intro n
           rw[List.getElem?_set]
           by_cases e:k=n
           ·subst e;rw[if_pos rfl,if_pos (by omega),hYk]
           ·rw[if_neg e]
          rw[hYs] at hts
          repeat' (first
  |refine gK ?_|refine aE ?_ ?_
  | ((first
   |((with_reducible show qb _ _ _ _ _);refine qb.mk k rfl (by omega) ?_)
   |((with_reducible show dc _ _ _ _ _);refine dc.mk (cf ⟨s1,s2,o,b⟩) (by rw[Nat.zero_add];exact bN hYk) ?_)
   |((with_reducible refine kQ 172 ?_);refine cL h39 Gt ?_))<;>with_reducible refine wK ?_)
  |apply  trivial)
          refine ay.mk (k+1) (by omega) (by omega) ?_
          rw[htd,hts]
          (refine fK ?_;(with_reducible repeat' (first|exact trivial|(show _∧_;refine aK ?_ ?_)));(all_goals try rfl))
          all_goals first
           |exact⟨.refl (aB _),aB _⟩
           |exact⟨.refl (aF _),aF _⟩
           |(simp;done)
         ·rw[if_neg e2] at htd
          have e2':(b==s4)=false:=by cases b<;>cases s4<;>simp at e2 ⊢
          (have fct:=e2';(repeat' (first
  |refine gF ?_|refine aE ?_ ?_
  | ((first
   |((with_reducible show qb _ _ _ _ _);refine qb.mk k rfl (by omega) ?_)
   |((with_reducible show dc _ _ _ _ _);refine dc.mk (cf ⟨s1,s2,o,s4⟩) (by rw[Nat.zero_add];exact bN hYk) ?_)
   |((with_reducible refine kQ 172 ?_);refine cL h39 Gt ?_))<;>with_reducible refine wK ?_)
  |apply  trivial));all_goals clear fct)
          rw[Ay Y k ⟨s1,s2,o,b⟩]
          cases hw2:cm ⟨c1,c2,c3,c4,c5⟩ 6 with
          | true=>
            rw[kz (show cm _ (cA b).kind=true from hw2)] at htd
            have hFl:(E++ ([⟨(k:Int),cA b⟩]:List ck)).length=E.length+1:=by simp
            refine aD.lR (news:=[eX ⟨l,m⟩ (.own 241 0 st.length) ⟨d1,d2,d3,d4⟩ cs (.own 911 0 (E.length+1)),bT (Y.set k ⟨s1,s2,o,b⟩),.dead,di (E++ [⟨(k:Int),cA b⟩])]) [240,241,721,911] [] (h66y (Y.set k ⟨s1,s2,o,b⟩) E (cA b) (by simp;omega) (by omega) hw2) Bb ⟨⟨rfl,rfl⟩,⟨rfl,rfl,rfl,rfl,rfl,trivial⟩,rfl,⟨rfl,rfl,rfl,rfl,rfl,rfl,rfl,rfl,rfl,rfl,trivial⟩,trivial⟩ (iN rfl rfl rfl) rfl ⟨⟨rfl,rfl⟩,rfl⟩ rfl pX rfl rfl ?_
            with_reducible refine wK ?_
            repeat' (first
  |refine gK ?_|refine aE ?_ ?_
  |apply  trivial)
            refine ay.mk (k+1) (by omega) (by omega) ?_
            rw[htd,hts]
            (refine fK ?_;(with_reducible repeat' (first|exact trivial|(show _∧_;refine aK ?_ ?_)));(all_goals try rfl))
            all_goals first
             |exact⟨.refl (aB _),aB _⟩
             |exact⟨.refl (aF _),aF _⟩
             |(simp;done)
          | false=>
            rw[my (show cm _ (cA b).kind=false from hw2),List.append_nil] at htd
            refine aD.lR (news:=[eX ⟨l,m⟩ (.own 241 0 st.length) ⟨d1,d2,d3,d4⟩ cs (.own 721 0 E.length),bT (Y.set k ⟨s1,s2,o,b⟩),di E]) [240,241,721] [] (h66n (Y.set k ⟨s1,s2,o,b⟩) E (cA b) (by simp;omega) hw2) Bb ⟨⟨rfl,rfl⟩,⟨rfl,rfl,rfl,rfl,rfl,trivial⟩,rfl,⟨rfl,rfl,rfl,rfl,rfl,rfl,rfl,rfl,rfl,rfl,trivial⟩,trivial⟩ (iN rfl rfl rfl) rfl ⟨⟨rfl,rfl⟩,rfl⟩ rfl mK rfl rfl ?_
            with_reducible refine wK ?_
            repeat' (first
  |refine gK ?_|refine aE ?_ ?_
  |apply  trivial)
            refine ay.mk (k+1) (by omega) (by omega) ?_
            rw[htd,hts]
            (refine fK ?_;(with_reducible repeat' (first|exact trivial|(show _∧_;refine aK ?_ ?_)));(all_goals try rfl))
            all_goals first
             |exact⟨.refl (aB _),aB _⟩
             |exact⟨.refl (aF _),aF _⟩
             |(simp;done)
       | false=>
         rw[my (show cm _ (gE s3 o).kind=false from hw),List.nil_append] at htd
         refine aD.lR (news:=[eX ⟨l,m⟩ (.own 241 0 st.length) ⟨d1,d2,d3,d4⟩ cs (.own 248 0 D.length),bT Y,di D]) [240,241,248] [] (h66n Y D (gE s3 o) hYl hw) Bb ⟨⟨rfl,rfl⟩,⟨rfl,rfl,rfl,rfl,rfl,trivial⟩,rfl,⟨rfl,rfl,rfl,rfl,rfl,rfl,rfl,rfl,rfl,rfl,trivial⟩,trivial⟩ (iN rfl rfl rfl) rfl ⟨⟨rfl,rfl⟩,rfl⟩ rfl mK rfl rfl ?_
         with_reducible refine wK ?_
         by_cases e2:s4=b
         ·obtain rfl:=e2.symm
          rw[if_pos rfl,List.append_nil] at htd
          have hYs:Y.set k ⟨s1,s2,o,b⟩=Y:=by
           apply List.ext_getElem?
           intro n
           rw[List.getElem?_set]
           by_cases e:k=n
           ·subst e;rw[if_pos rfl,if_pos (by omega),hYk]
           ·rw[if_neg e]
          rw[hYs] at hts
          repeat' (first
  |refine gK ?_|refine aE ?_ ?_
  | ((first
   |((with_reducible show qb _ _ _ _ _);refine qb.mk k rfl (by omega) ?_)
   |((with_reducible show dc _ _ _ _ _);refine dc.mk (cf ⟨s1,s2,o,b⟩) (by rw[Nat.zero_add];exact bN hYk) ?_)
   |((with_reducible refine kQ 172 ?_);refine cL h39 Gt ?_))<;>with_reducible refine wK ?_)
  |apply  trivial)
          refine ay.mk (k+1) (by omega) (by omega) ?_
          rw[htd,hts]
          (refine fK ?_;(with_reducible repeat' (first|exact trivial|(show _∧_;refine aK ?_ ?_)));(all_goals try rfl))
          all_goals first
           |exact⟨.refl (aB _),aB _⟩
           |exact⟨.refl (aF _),aF _⟩
           |(simp;done)
         ·rw[if_neg e2] at htd
          have e2':(b==s4)=false:=by cases b<;>cases s4<;>simp at e2 ⊢
          (have fct:=e2';(repeat' (first
  |refine gF ?_|refine aE ?_ ?_
  | ((first
   |((with_reducible show qb _ _ _ _ _);refine qb.mk k rfl (by omega) ?_)
   |((with_reducible show dc _ _ _ _ _);refine dc.mk (cf ⟨s1,s2,o,s4⟩) (by rw[Nat.zero_add];exact bN hYk) ?_)
   |((with_reducible refine kQ 172 ?_);refine cL h39 Gt ?_))<;>with_reducible refine wK ?_)
  |apply  trivial));all_goals clear fct)
          rw[Ay Y k ⟨s1,s2,o,b⟩]
          cases hw2:cm ⟨c1,c2,c3,c4,c5⟩ 6 with
          | true=>
            rw[kz (show cm _ (cA b).kind=true from hw2)] at htd
            have hFl:(D++ ([⟨(k:Int),cA b⟩]:List ck)).length=D.length+1:=by simp
            refine aD.lR (news:=[eX ⟨l,m⟩ (.own 241 0 st.length) ⟨d1,d2,d3,d4⟩ cs (.own 911 0 (D.length+1)),bT (Y.set k ⟨s1,s2,o,b⟩),.dead,di (D++ [⟨(k:Int),cA b⟩])]) [240,241,248,911] [] (h66y (Y.set k ⟨s1,s2,o,b⟩) D (cA b) (by simp;omega) (by omega) hw2) Bb ⟨⟨rfl,rfl⟩,⟨rfl,rfl,rfl,rfl,rfl,trivial⟩,rfl,⟨rfl,rfl,rfl,rfl,rfl,rfl,rfl,rfl,rfl,rfl,trivial⟩,trivial⟩ (iN rfl rfl rfl) rfl ⟨⟨rfl,rfl⟩,rfl⟩ rfl pX rfl rfl ?_
            with_reducible refine wK ?_
            repeat' (first
  |refine gK ?_|refine aE ?_ ?_
  |apply  trivial)
            refine ay.mk (k+1) (by omega) (by omega) ?_
            rw[htd,hts]
            (refine fK ?_;(with_reducible repeat' (first|exact trivial|(show _∧_;refine aK ?_ ?_)));(all_goals try rfl))
            all_goals first
             |exact⟨.refl (aB _),aB _⟩
             |exact⟨.refl (aF _),aF _⟩
             |(simp;done)
          | false=>
            rw[my (show cm _ (cA b).kind=false from hw2),List.append_nil] at htd
            refine aD.lR (news:=[eX ⟨l,m⟩ (.own 241 0 st.length) ⟨d1,d2,d3,d4⟩ cs (.own 248 0 D.length),bT (Y.set k ⟨s1,s2,o,b⟩),di D]) [240,241,248] [] (h66n (Y.set k ⟨s1,s2,o,b⟩) D (cA b) (by simp;omega) hw2) Bb ⟨⟨rfl,rfl⟩,⟨rfl,rfl,rfl,rfl,rfl,trivial⟩,rfl,⟨rfl,rfl,rfl,rfl,rfl,rfl,rfl,rfl,rfl,rfl,trivial⟩,trivial⟩ (iN rfl rfl rfl) rfl ⟨⟨rfl,rfl⟩,rfl⟩ rfl mK rfl rfl ?_
            with_reducible refine wK ?_
            repeat' (first
  |refine gK ?_|refine aE ?_ ?_
  | apply trivial)
            refine ay.mk (k+1) (by omega) (by omega) ?_
            rw[htd,hts]
            (refine fK ?_;(with_reducible repeat' (first|exact trivial|(show _∧_;refine aK ?_ ?_)));(all_goals try rfl))
            all_goals first
             |exact⟨.refl (aB _),aB _⟩
             |exact⟨.refl (aF _),aF _⟩
             |(simp;done)
   ·have hjl:k=st.length:=by simp only[bh] at h1;omega
    subst hjl
    repeat' (first
  |refine gK ?_|refine aE ?_ ?_
  |(((with_reducible show bL _ _ _ _);refine dK ?_)<;>with_reducible refine wK ?_)
  | apply trivial)
    all_goals first|exact ek rfl rfl rfl htk.symm|exact kB rfl rfl rfl rfl
end Go.Proofs.Heir
namespace Go.Proofs.Heir
open Go Go.Am Go.RowKit Go.Lib
set_option maxRecDepth 100000
set_option maxHeartbeats 8000000
set_option maxHeartbeats 8000000
def bq (c:aI):Bool:=
 ((((decide (c.watch.length≤12)&& !(c.watch.any fun s=> !(bJ s&&decide (gR s=s))))&&decide (c.hooks.length≤12))&& !(c.hooks.any fun h=>decide (h.kind<1)||decide (8<h.kind)||decide (60<h.prog.length)))&&decide (c.peek.length≤60))&&decide (c.make.length≤60)
def kq (w:aH)(n:Int):Bool:=decide (0≤n)&&decide (n< (w.desk.defs.length:Int))
def gU (w:aH)(t:bw):Bool:=(decide (1≤t.kind)&&decide (t.kind<9))||(decide (t.kind=9)&&kq w t.df)
def gy (w:aH)(x:az)(s:StateM):Bool:=
 if x.kind=1 then
  (decide (s.owner=-1)||ai w.f.nodes s.owner)&&(if s.phase=2∨s.phase=3 then kq w s.df else(decide (s.phase=0)||decide (s.phase=1)||decide (s.phase=4))&&(decide (s.df=-1)||kq w s.df))
 else decide (s=⟨0,-1,-1,false⟩)
def wj (w:aH)(n:Int):Bool:=gy w (nd w.f.nodes n) (CG w.states n)
def nR (w:aH)(t:gT):Bool:=if t.kind=1 then decide (t.ticket=0)&&decide (t.df=0) else if t.kind=2 then decide (0≤t.ticket)&&kq w t.df else false
def jo (w:aH)(b:iX):Bool:=kq w b.df&&(decide (b.node=-4)||elemV w.f.nodes b.node)
def ia (w:aH):Bool:=(decide (w.classes.length≤12)&& !(w.classes.any fun c=> !bq c))&& !(w.desk.defs.any fun d=>decide ((w.classes.length:Int)≤d.cls))
def ow (w:aH)(n:Int):Bool:=wj w n&& !((vK w.line n).any fun t=> !gU w t)
def wg (w:aH):Bool:=(((((decide (w.states.length=w.f.nodes.length)&&decide (w.line.todos.length=w.f.nodes.length))&&ia w)&&bf w.f)&&dU w.desk)&&sV w.line)
def B8 (w:aH):Bool:=!(w.tasks.any fun t=> !nR w t)&& !(w.builds.any fun b=> !jo w b)
def cF (w:aH):Bool:=wg w&&((List.range w.line.todos.length).all (fun n:Nat=>ow w n)&&B8 w)
def gY (x:az):StateM:=⟨if x.kind=1 then tQ x.name x.is else 0,-1,-1,false⟩
def jn:gT:=⟨1,0,0⟩
def Bj (w:aH)(d:ck):aH:={w with line:=gu w.line d.node d.todo,tasks:=if fA w.line=true then w.tasks++ [jn] else w.tasks}
def cj (w:aH)(due:List ck):aH:=due.foldl Bj w
def fW (w:aH)(d:ck):Bool:=ai w.f.nodes d.node&&gU w d.todo
def eV (w:aH)(due:List ck):Bool:=cF w&& !(due.any fun d=> !fW w d)
def lu (w:aH)(due:List ck):aH×Int:=if eV w due=true then(cj w due,0) else(w,1)
def dH (w:aH)(f:ForM):Bool:=(decide (f.most=w.f.most)&&decide (w.f.nodes.length≤f.nodes.length))&&(List.range w.f.nodes.length).all fun n:Nat=>decide ((nd f.nodes n).kind=(nd w.f.nodes n).kind)
def cR (w:aH)(f:ForM)(k:Nat):aH:={w with states:=w.states++ ((f.nodes.drop w.f.nodes.length).take k).map gY,line:=⟨w.line.todos++List.replicate k [],w.line.stack,w.line.back,w.line.busy⟩}
def aY (w:aH)(f:ForM):aH:={cR w f (f.nodes.length-w.f.nodes.length) with f:=f}
def kK (w:aH)(f:ForM)(ns:List dP):aH:=
 let x:=aY w f
 let y:=cj x (cO f x.states x.desk x.classes ns)
 cj {y with states:=dg f x.states x.desk x.classes} (fJ f x.states x.desk x.classes)
def kV (w:aH)(f:ForM):Bool:=(cF w&&bf f)&&dH w f
def vh (w:aH)(f:ForM)(ns:List dP):aH×Int:=if kV w f=true then(kK w f ns,0) else(w,1)
def qp (w:aH):Bool:=((nn w.line&&decide (w.tasks.length=0))&&decide (w.builds.length=0))&& !w.desk.busy
def oJ (w:aH):aH:={w with line:=⟨List.replicate w.line.todos.length [],[],[],false⟩,tasks:=[],builds:=[],desk:=⟨w.desk.defs,w.desk.waits,w.desk.next,false⟩}
def rj (l:cq):Bool:=(((decide (l.todos.length≤60)&&decide (l.stack.length≤30))&&decide (l.back.length≤60))&&l.todos.all fun t=>decide (t.length≤60))&&l.stack.all fun t=>decide (t.length≤60)
def qJ (cs:List aI):Bool:=cs.all fun c=>c.watch.all fun s=>decide (s.size≤300)
def wN (w:aH):Bool:=((((((oe w.f&&decide (w.states.length≤60))&&oW w.desk)&&rj w.line)&&decide (w.tasks.length≤60))&&decide (w.builds.length≤60))&&lP w.classes)&&qJ w.classes
end Go.Proofs.Heir
namespace Go.Proofs.Heir
open Go Go.Am Go.RowKit Go.Lib
set_option maxRecDepth 100000
set_option maxHeartbeats 8000000
theorem LG {l:List AttrM}{w:ByteArray}:nE l w=-1∨∃ (k:Nat) (a:AttrM),nE l w=k∧l[k]? =some a:=by
 unfold nE
 rcases mU (hasName w) l with h|⟨k,a,h,ha,_⟩
 ·exact .inl h
 ·exact .inr ⟨k,a,h,ha⟩
def Cy (x:az)(w:ByteArray):ByteArray:=(xo x w).getD ⟨#[]⟩
theorem JU (f:ForM)(hs:bR f.nodes)(k:Nat)(x:az)(hx:f.nodes[k]? =some x)(w:ByteArray):af Tryz.prog 224 [] [bD f,aj k,bG w] [] (.tup [bG (Cy x w),aA (decide (0≤nE x.attrs w))]):=by
 have h131:=AK x.attrs (by have:=hs.attrs x (bn hx);omega) w
 obtain⟨l,m⟩:=f
 unfold Cy xo
 rcases LG (l:=x.attrs) (w:=w) with h|⟨j,a,h,ha⟩
 ·rw[h] at h131 ⊢
  rw[if_neg (by decide)]
  obtain⟨a1,a2,a3,a4,a5,a6,a7,a8,a9,a10⟩:=x
  simp only at h131
  refine af.ah (rvs:=[.tmp 6,.tmp 7]) G aa Tryz.func224 rfl Tryz.ntmps224 rfl rfl ?_;with_reducible refine wD ?_
  repeat' (first
  |refine gK ?_|refine aE ?_ ?_
  | ((first
   |(refine ak.mk k (aO _) rfl (au hx) ?_)
   |((with_reducible refine kQ 222 ?_);refine cL h131 LV ?_))<;>with_reducible refine wK ?_)
  |apply trivial)
  all_goals rfl
 ·rw[h] at h131 ⊢
  rw[if_pos (by omega),Int.toNat_natCast,ha,aV (by omega)]
  obtain⟨a1,a2,a3,a4,a5,a6,a7,a8,a9,a10⟩:=x
  obtain⟨n,v⟩:=a
  simp only at h131 ha
  refine af.ah (rvs:=[.tmp 6,.tmp 7]) G aa Tryz.func224 rfl Tryz.ntmps224 rfl rfl ?_;with_reducible refine wD ?_
  repeat' (first
  |refine gK ?_|refine aE ?_ ?_
  | ((first
   |(first|refine ak.mk k (aO _) rfl (au hx) ?_|refine ak.mk j (mF ⟨n,v⟩) rfl (kX ha) ?_)
   |((with_reducible refine kQ 222 ?_);refine cL h131 LV ?_))<;>with_reducible refine wK ?_)
  |apply trivial)
  all_goals rfl
theorem yL {x:az}{w:ByteArray}:xo x w=if 0≤nE x.attrs w then some (Cy x w) else none:=by
 unfold Cy xo
 split<;>rfl
theorem MK (f:ForM)(T:Tree f.nodes):∀n,ai f.nodes n=true→af Tryz.prog 226 [] [bD f,aj n] [] (aj (dD f.nodes n)):=by
 refine iy T (fun n hn h=>?_) (fun n hn h hu ih=>?_)
 ·rw[rE T hn h]
  obtain⟨i,x,e,hx,hnx⟩:=aX.1 hn
  rw[hnx] at h
  obtain⟨l,m⟩:=f
  obtain⟨a1,a2,a3,a4,a5,a6,a7,a8,a9,a10⟩:=x
  simp only at h
  refine af.ah (rvs:=[.tmp 4]) G aa Tryz.func226 rfl Tryz.ntmps226 rfl rfl ?_;with_reducible refine wD ?_
  (have fct:=(eq_true h);(repeat' (first
  |refine gF ?_|refine aE ?_ ?_
  |((refine ak.mk i (aO _) e (au hx) ?_)<;>with_reducible refine wK ?_)
  |apply trivial));all_goals clear fct)
 ·rw[pY T hn h]
  obtain⟨i,x,e,hx,hnx⟩:=aX.1 hn
  rw[hnx] at h ih ⊢
  obtain⟨l,m⟩:=f
  obtain⟨a1,a2,a3,a4,a5,a6,a7,a8,a9,a10⟩:=x
  simp only at h ih ⊢
  refine af.ah (rvs:=[.tmp 4]) G aa Tryz.func226 rfl Tryz.ntmps226 rfl rfl ?_;with_reducible refine wD ?_
  (have fct:=(eq_false h);(repeat' (first
  |refine gF ?_|refine aE ?_ ?_
  | ((first
   |(refine ak.mk i (aO _) e (au hx) ?_)
   |((with_reducible refine kQ 226 ?_);refine cL ih P6 ?_)
   |((with_reducible show bL _ _ _ _);refine dK ?_))<;>with_reducible refine wK ?_)
  |apply trivial));all_goals clear fct)
  all_goals rfl
theorem KT {l:List az}(T:Tree l){r:Int}(hr:ai l r=true){m:Int}(hs:bR l):∃ (k:Nat) (x:az),r=k∧l[k]? =some x∧af Tryz.prog 225 [] [bD ⟨l,m⟩,aj r] [] (bQ (bU l l.length r)):=by
 obtain⟨k,x,rfl,hx,_⟩:=aX.1 hr
 exact⟨k,x,rfl,hx,Et ⟨l,m⟩ hs T l.length k x hx (pA T hr)⟩
theorem GD {l:List az}(T:Tree l)(q:Int→Bool)(p:Int)(y:az)(hp:ai l p=true)(hy:nd l p=y):
  (y.parent=-1∧dZ l q p=-1)∨(ai l y.parent=true∧y.parent≠-1∧(dZ l q p=if q y.parent=true then y.parent else dZ l q y.parent)∧(bS l y.parent).length< (bS l p).length):=by
 subst hy
 by_cases e:(nd l p).parent=-1
 ·exact .inl ⟨e,vp T q hp e⟩
 ·exact .inr ⟨(T.par p hp e).1,e,tH T q hp e,by rw[bY T hp e];simp⟩
theorem GY {q:Int→Bool}{ks:List Int}{j:Nat}{k:Int}(hk:ks[j]? =some k):(ks.drop j).find? q=if q k=true then some k else(ks.drop (j+1)).find? q:=by
 have hj:=(aZ hk).1
 rw[List.drop_eq_getElem_cons hj,List.find?_cons]
 rw[aP hj] at hk
 rw[Option.some.inj hk]
 cases q k<;>rfl
theorem KI (f:ForM)(hs:bR f.nodes)(hrt:bf f=true)(n:Int)(hn:ai f.nodes n=true):af Tryz.prog 176 [] [bD f,aj n] [] (aj (FA f.nodes n)):=by
 have T:Tree f.nodes:=gO hrt
 have h85:=Lf f (U.gO hrt) n hn
 have h87:=MK f T n hn
 have hrth:=(kS T n hn).1
 obtain⟨kr,xr,_,_,h86⟩:=KT (m:=f.most) T hrth hs
 have hoth:=fun k hk=>(mz T hrth (n:=k) hk).1
 have hol:=pZ T f.nodes.length hrth
 have hval:=fun k x hx w=>JU f hs k x hx w
 have hstp:=fun p y=>GD T (fun p=>decide ((nd f.nodes p).name=eN)) p y
 have hnR:dZ f.nodes (fun p=>decide ((nd f.nodes p).name=eN)) n=yh f.nodes n:=rfl
 have h60:=hs.len
 obtain⟨l,m⟩:=f
 simp only at h85 h87 h86 hoth hol hval hstp hnR hn h60 ⊢
 obtain⟨i,x,e,hx,hnx⟩:=aX.1 hn
 have h84:=hval i x hx eN
 rw[←e] at h84
 have hst0:=hstp n x hn hnx
 obtain⟨o,ho⟩:∃o,FA l n=o:=⟨_,rfl⟩
 rw[ho]
 unfold FA JL CJ at ho
 rw[hnx,yL] at ho
 rw[show decide ((nd l (qf l n)).kind=0)=zR l n from rfl] at h85
 generalize dD l n=r at h87 h86 hoth hol ho
 generalize bU l l.length r=ks at h86 hoth hol ho
 generalize yh l n=nr at hnR ho
 generalize zR l n=cn at h85 ho
 generalize Cy x eN=v at h84 ho
 obtain⟨ok,hok⟩:∃ok,decide (0≤nE x.attrs eN)=ok:=⟨_,rfl⟩
 rw[hok] at h84
 have hok':(0≤nE x.attrs eN)=(ok=true):=by rw[←hok];simp
 simp only[hok'] at ho
 clear hok hok'
 have hkm:(ks.map bB).length=ks.length:=aM ..
 obtain⟨nb,hnb⟩:∃nb:Int→Int,nb=dZ l (fun p=>decide ((nd l p).name=eN)):=⟨_,rfl⟩
 rw[←hnb] at hst0 hstp hnR
 obtain⟨a1,a2,a3,a4,a5,a6,a7,a8,a9,a10⟩:=x
 simp only at h84 hst0 ho
 refine af.ah (rvs:=[.tmp 4]) G aa Tryz.func176 rfl Tryz.ntmps176 rfl rfl ?_;with_reducible refine wD ?_
 refine ak.mk i (aO _) e (au hx) ?_;with_reducible refine wK ?_
 by_cases e1:a1=1
 ·rw [if_pos e1] at ho
  refine aQ.no (by rw[e1];rfl) ?_;with_reducible refine wK ?_
  by_cases hc:ok=true∧cn=true
  ·obtain⟨rfl,rfl⟩:=hc
   simp only[if_true] at ho
   repeat' (first
  |refine gK ?_|refine aE ?_ ?_
  | ((first
   |((with_reducible refine kQ 224 ?_);refine cL h84 DK ?_)
   |((with_reducible refine kQ 195 ?_);refine cL h85 Qo ?_)
   |((with_reducible refine kQ 226 ?_);refine cL h87 P6 ?_)
   |((with_reducible refine kQ 225 ?_);refine cV h86 Ot ?_)
   |((with_reducible show bL _ _ _ _);refine dK ?_))<;>with_reducible refine wK ?_)
  | apply trivial)
   obtain⟨q,hq⟩:∃q:Int→Bool,q=fun k=>decide (xo (nd l k) uT=some v):=⟨_,rfl⟩
   rw[←hq] at ho
   refine aR.use G aa (fun(j:Nat)=>[(2,.ptr 20 0 0),(5,bG v),(7,bQ ks),(8,aj j)]) (fun _=>[(20,.live 2 [bD ⟨l,m⟩] false)])
    (fun j=>j≤ks.length∧ks.find? q=(ks.drop j).find? q) (fun j=>ks.length-j) 0 ⟨Nat.zero_le _,rfl⟩ (by(refine fK ?_;(with_reducible repeat' (first|exact trivial|(show _∧_;refine aK ?_ ?_)));(all_goals try rfl))) ?_
   rintro j ⟨hj,hfind⟩
   with_reducible refine wK ?_
   by_cases ev:v=⟨#[]⟩
   ·rw[if_pos ev] at ho
    subst ho
    have ev':v=⟨⟨[]⟩⟩:=ev
    refine aQ.mk (fun h1=>?_) (fun h1=>?_)<;>(try simp only[aq] at h1)<;>with_reducible refine wK ?_
    ·(have fct:=ev';(repeat' (first
  |refine gF ?_|refine aE ?_ ?_
  | apply trivial));all_goals clear fct)
     all_goals rfl
    ·repeat' (first
  |refine gK ?_|refine aE ?_ ?_
  | apply trivial)
     all_goals rfl
   ·rw [if_neg ev] at ho
    have ev':¬v=⟨⟨[]⟩⟩:=ev
    refine aQ.mk (fun h1=>?_) (fun h1=>?_)<;>(try simp only[aq] at h1)<;>with_reducible refine wK ?_
    ·have hj':j<ks.length:=by simp only[hkm,aL] at h1;omega
     obtain⟨k,hk⟩:∃k,ks[j]? =some k:=⟨_,aP hj'⟩
     rw[GY hk] at hfind
     obtain⟨i2,y,e2,hy,hny⟩:=aX.1 (hoth k (bn hk))
     have h84':=hval i2 y hy uT
     rw[←e2] at h84'
     have hqk:q k=(decide (0≤nE y.attrs uT)&&decide (Cy y uT=v)):=by
      rw[hq];simp only[hny,yL]
      by_cases e3:0≤nE y.attrs uT
      ·rw[if_pos e3];simp[e3]
      ·rw[if_neg e3];simp[e3]
     generalize Cy y uT=w at h84' hqk
     generalize decide (0≤nE y.attrs uT)=ok2 at h84' hqk
     obtain⟨b1,b2,b3,b4,b5,b6,b7,b8,b9,b10⟩:=y
     by_cases hm:ok2=true∧w=v
     ·obtain⟨rfl,rfl⟩:=hm
      rw[show q k=true by rw[hqk];simp,if_pos rfl] at hfind
      rw[hfind] at ho
      simp only[hny] at ho
      by_cases e4:b2=eN
      ·rw[if_pos e4] at ho
       subst ho
       (have fct:=And.intro ev' ((eq_true e4));(repeat' (first
  |refine gF ?_|refine aE ?_ ?_
  | ((first
   |(first|refine ak.mk j (aj k) rfl (dG hk) ?_|refine ak.mk i2 (aO _) e2 (au hy) ?_)
   |((with_reducible refine kQ 224 ?_);refine cL h84' DK ?_)
   |((with_reducible show bL _ _ _ _);refine dK ?_))<;>with_reducible refine wK ?_)
  |apply trivial));all_goals clear fct)
       all_goals rfl
      ·rw[if_neg e4] at ho
       subst ho
       (have fct:=And.intro ev' ((eq_false e4));(repeat' (first
  |refine gF ?_|refine aE ?_ ?_
  | ((first
   |(first|refine ak.mk j (aj k) rfl (dG hk) ?_|refine ak.mk i2 (aO _) e2 (au hy) ?_)
   |((with_reducible refine kQ 224 ?_);refine cL h84' DK ?_)
   |((with_reducible show bL _ _ _ _);refine dK ?_))<;>with_reducible refine wK ?_)
  |apply  trivial));all_goals clear fct)
       all_goals rfl
     ·have hqf:q k=false:=by
       rw[hqk]
       cases ok2 with
       |false=>rfl
       | true=>
         have:¬w=v:=fun h=>hm ⟨rfl,h⟩
         simp[this]
      rw[hqf,if_neg (by simp)] at hfind
      cases ok2 with
      | false=>
        (have fct:=ev';(repeat' (first
  |refine gF ?_|refine aE ?_ ?_
  | ((first
   |(refine ak.mk j (aj k) rfl (dG hk) ?_)
   |((with_reducible refine kQ 224 ?_);refine cL h84' DK ?_)
   |((with_reducible show bL _ _ _ _);refine dK ?_))<;>with_reducible refine wK ?_)
  |apply trivial));all_goals clear fct)
        exact ay.mk (j+1) ⟨by omega,hfind⟩ (by omega) (by(refine fK ?_;(with_reducible repeat' (first|exact trivial|(show _∧_;refine aK ?_ ?_)));(all_goals try rfl)))
      | true=>
        have hwv:¬w=v:=fun h=>hm ⟨rfl,h⟩
        (have fct:=And.intro ev' (hwv);(repeat' (first
  |refine gF ?_|refine aE ?_ ?_
  | ((first
   |(refine ak.mk j (aj k) rfl (dG hk) ?_)
   |((with_reducible refine kQ 224 ?_);refine cL h84' DK ?_)
   |((with_reducible show bL _ _ _ _);refine dK ?_))<;>with_reducible refine wK ?_)
  | apply trivial));all_goals clear fct)
        exact ay.mk (j+1) ⟨by omega,hfind⟩ (by omega) (by(refine fK ?_;(with_reducible repeat' (first|exact trivial|(show _∧_;refine aK ?_ ?_)));(all_goals try rfl)))
    ·have hjl:j=ks.length:=by simp only[hkm,bh] at h1;omega
     subst hjl
     rw[List.drop_length] at hfind
     rw[hfind] at ho
     simp only[List.find?_nil] at ho
     subst ho
     repeat' (first
  |refine gK ?_|refine aE ?_ ?_
  |apply trivial)
     all_goals rfl
  ·have goal:nr=o:=by
    rw[←ho]
    cases ok with
    |false=>rfl
    | true=>
      cases cn with
      |false=>rfl
      |true=>exact absurd ⟨rfl,rfl⟩ hc
   rw[←goal,←hnR]
   clear ho goal
   cases ok with
   | false=>
     repeat' (first
  |refine gK ?_|refine aE ?_ ?_
  | ((first
   |((with_reducible refine kQ 224 ?_);refine cL h84 DK ?_)
   |(refine ak.mk i (aO _) e (au hx) ?_))<;>with_reducible refine wK ?_)
  |apply trivial)
     refine aR.use G aa (fun(p:Int)=>[(2,.ptr 20 0 0),(11,aj p)]) (fun _=>[(20,.live 2 [bD ⟨l,m⟩] false)])
      (fun p=>(p=-1∧nb n=-1)∨(ai l p=true∧p≠-1∧nb n=if decide ((nd l p).name=eN)=true then p else nb p)) (fun p=>if p=-1 then 0 else(bS l p).length) a6
      (by rcases hst0 with h|⟨h1,h2,h3,_⟩;exact .inl h;exact .inr ⟨h1,h2,h3⟩) (by(refine fK ?_;(with_reducible repeat' (first|exact trivial|(show _∧_;refine aK ?_ ?_)));(all_goals try rfl))) ?_
     intro p hp
     with_reducible refine wK ?_
     rcases hp with⟨rfl,h1⟩|⟨h1,h2,h3⟩
     ·rw[h1]
      repeat' (first
  |refine gK ?_|refine aE ?_ ?_
  |apply trivial)
      all_goals rfl
     ·obtain⟨j,z,e',hz,hnz⟩:=aX.1 h1
      have hst:=hstp p z h1 hnz
      rw[hnz] at h3
      obtain⟨b1,b2,b3,b4,b5,b6,b7,b8,b9,b10⟩:=z
      simp only at hst h3
      by_cases hf:b2=eN
      ·rw[h3,if_pos (aV hf)]
       (have fct:=And.intro (eq_false h2) ((eq_true hf));(repeat' (first
  |refine gF ?_|refine aE ?_ ?_
  |((refine ak.mk j (aO ⟨b1,b2,b3,b4,b5,b6,b7,b8,b9,b10⟩) e' (au hz) ?_)<;>with_reducible refine wK ?_)
  |apply trivial));all_goals clear fct)
       all_goals rfl
      ·rw[if_neg (by simp[hf])] at h3
       (have fct:=And.intro (eq_false h2) ((eq_false hf));(repeat' (first
  |refine gF ?_|refine aE ?_ ?_
  |((refine ak.mk j (aO ⟨b1,b2,b3,b4,b5,b6,b7,b8,b9,b10⟩) e' (au hz) ?_)<;>with_reducible refine wK ?_)
  | apply trivial));all_goals clear fct)
       refine ay.mk b6 ?_ ?_ ?_
       ·rw[h3]
        rcases hst with h|⟨g1,g2,g3,_⟩
        ·exact .inl h
        ·exact .inr ⟨g1,g2,g3⟩
       ·rw[if_neg h2]
        rcases hst with⟨h,_⟩|⟨_,g2,_,g4⟩
        ·rw[if_pos h]
         obtain⟨r,hr⟩:=dI T h1
         rw[hr];simp
        ·rw[if_neg g2];exact g4
       ·(refine fK ?_;(with_reducible repeat' (first|exact trivial|(show _∧_;refine aK ?_ ?_)));(all_goals try rfl))
   | true=>
     cases cn with
     |true=>exact absurd ⟨rfl,rfl⟩ hc
     | false=>
       repeat' (first
  |refine gK ?_|refine aE ?_ ?_
  | ((first
   |((with_reducible refine kQ 224 ?_);refine cL h84 DK ?_)
   |((with_reducible refine kQ 195 ?_);refine cL h85 Qo ?_)
   |(refine ak.mk i (aO _) e (au hx) ?_))<;>with_reducible refine wK ?_)
  |apply trivial)
       refine aR.use G aa (fun(p:Int)=>[(2,.ptr 20 0 0),(11,aj p)]) (fun _=>[(20,.live 2 [bD ⟨l,m⟩] false)])
        (fun p=>(p=-1∧nb n=-1)∨(ai l p=true∧p≠-1∧nb n=if decide ((nd l p).name=eN)=true then p else nb p)) (fun p=>if p=-1 then 0 else(bS l p).length) a6
        (by rcases hst0 with h|⟨h1,h2,h3,_⟩;exact .inl h;exact .inr ⟨h1,h2,h3⟩) (by(refine fK ?_;(with_reducible repeat' (first|exact trivial|(show _∧_;refine aK ?_ ?_)));(all_goals try rfl))) ?_
       intro p hp
       with_reducible refine wK ?_
       rcases hp with⟨rfl,h1⟩|⟨h1,h2,h3⟩
       ·rw[h1]
        repeat' (first
  |refine gK ?_|refine aE ?_ ?_
  |apply  trivial)
        all_goals rfl
       ·obtain⟨j,z,e',hz,hnz⟩:=aX.1 h1
        have hst:=hstp p z h1 hnz
        rw[hnz] at h3
        obtain⟨b1,b2,b3,b4,b5,b6,b7,b8,b9,b10⟩:=z
        simp only at hst h3
        by_cases hf:b2=eN
        ·rw[h3,if_pos (aV hf)]
         (have fct:=And.intro (eq_false h2) ((eq_true hf));(repeat' (first
  |refine gF ?_|refine aE ?_ ?_
  |((refine ak.mk j (aO ⟨b1,b2,b3,b4,b5,b6,b7,b8,b9,b10⟩) e' (au hz) ?_)<;>with_reducible refine wK ?_)
  |apply  trivial));all_goals clear fct)
         all_goals rfl
        ·rw[if_neg (by simp[hf])] at h3
         (have fct:=And.intro (eq_false h2) ((eq_false hf));(repeat' (first
  |refine gF ?_|refine aE ?_ ?_
  |((refine ak.mk j (aO ⟨b1,b2,b3,b4,b5,b6,b7,b8,b9,b10⟩) e' (au hz) ?_)<;>with_reducible refine wK ?_)
  |apply  trivial));all_goals clear fct)
         refine ay.mk b6 ?_ ?_ ?_
         ·rw[h3]
          rcases hst with h|⟨g1,g2,g3,_⟩
          ·exact .inl h
          ·exact .inr ⟨g1,g2,g3⟩
         ·rw[if_neg h2]
          rcases hst with⟨h,_⟩|⟨_,g2,_,g4⟩
          ·rw[if_pos h]
           obtain⟨r,hr⟩:=dI T h1
           rw[hr];simp
          ·rw[if_neg g2];exact g4
         ·(refine fK ?_;(with_reducible repeat' (first|exact trivial|(show _∧_;refine aK ?_ ?_)));(all_goals try rfl))
 ·rw[if_neg e1] at ho
  subst ho
  (have fct:=(eq_false e1);(repeat' (first
  |refine gF ?_|refine aE ?_ ?_
  |apply trivial));all_goals clear fct)
  all_goals rfl
theorem Mp (f:ForM)(s:StateM)(d:bj)(cs:List aI)(k:Nat)(ht:ai f.nodes (k:Int)=true):
  af Tryz.prog 175 [] [bD f,cf s,cP d,bF cs,aj k] [] (aj (if jY f d cs k s=true then cG s d cs.length else-1)):=by
 have h110:=Ex s d cs
 obtain⟨r,hr⟩:∃r,(if jY f d cs k s=true then cG s d cs.length else-1)=r:=⟨_,rfl⟩
 rw[hr]
 unfold jY at hr
 obtain⟨i,x,ei,hx,hnx⟩:=aX.1 ht
 rw[hnx] at hr
 have hcc:=jy s d cs.length
 obtain⟨cb,hcb⟩:∃cb,iq s d cs=cb:=⟨_,rfl⟩
 have hcbe:cb=decide (0≤cG s d cs.length):=hcb.symm
 obtain⟨cv,hcv⟩:∃cv,ct s d cs=cv:=⟨_,rfl⟩
 have hcve:∀m:Nat,m<cs.length→cG s d cs.length=m→cs[m]? =some cv:=fun m hm h=>by
  obtain⟨c,hc⟩:∃c,cs[m]? =some c:=⟨_,aP hm⟩
  rw[←hcv,(jv h hc).1];exact hc
 rw[hcb,hcv] at hr
 generalize cG s d cs.length=ca at*
 clear hcb hcv
 obtain⟨l,m⟩:=f
 obtain⟨d1,d2,d3,d4⟩:=d
 obtain⟨s1,s2,s3,s4⟩:=s
 obtain⟨c1,c2,c3,c4,c5⟩:=cv
 obtain⟨a1,a2,a3,a4,a5,a6,a7,a8,a9,a10⟩:=x
 simp only at hx hr
 refine af.ah (rvs:=[.tmp 10]) G aa Tryz.func175 rfl Tryz.ntmps175 rfl rfl ?_;with_reducible refine wD ?_
 by_cases e1:a1=1
 ·by_cases e2:s1=3
  ·rcases hcc with h|⟨j,hj,h⟩
   ·subst h
    have hr':r=-1:=by rw[←hr,hcbe];simp
    subst hr'
    (have fct:=And.intro (eq_true e1) ((eq_true e2));(repeat' (first
  |refine gF ?_|refine aE ?_ ?_
  | ((first
   |(refine ak.mk i (aO _) ei (au hx) ?_)
   |((with_reducible refine kQ 193 ?_);refine cL h110 qd ?_))<;>with_reducible refine wK ?_)
  | apply trivial));all_goals clear fct)
    all_goals rfl
   ·subst h
    have hcj:=hcve j hj rfl
    have hj0:¬ ((j:Int)<0):=by omega
    have hj1:decide (0≤ (j:Int))=true:=aV (by omega)
    rw[hj1] at hcbe
    subst hcbe
    cases c1 with
    | true=>
      have hr':r=(j:Int):=by rw[←hr];simp[e1,e2]
      subst hr'
      (have fct:=And.intro (eq_true e1) (And.intro (eq_true e2) ((eq_false hj0)));(repeat' (first
  |refine gF ?_|refine aE ?_ ?_
  | ((first
   |(first|refine ak.mk i (aO _) ei (au hx) ?_|refine ak.mk j (bK ⟨true,c2,c3,c4,c5⟩) rfl (cU hcj) ?_)
   |((with_reducible refine kQ 193 ?_);refine cL h110 qd ?_))<;>with_reducible refine wK ?_)
  | apply trivial));all_goals clear fct)
      all_goals rfl
    | false=>
      have hr':r=-1:=by rw[←hr];simp
      subst hr'
      (have fct:=And.intro (eq_true e1) (And.intro (eq_true e2) ((eq_false hj0)));(repeat' (first
  |refine gF ?_|refine aE ?_ ?_
  | ((first
   |(first|refine ak.mk i (aO _) ei (au hx) ?_|refine ak.mk j (bK ⟨false,c2,c3,c4,c5⟩) rfl (cU hcj) ?_)
   |((with_reducible refine kQ 193 ?_);refine cL h110 qd ?_))<;>with_reducible refine wK ?_)
  |apply trivial));all_goals clear fct)
      all_goals rfl
  ·have hr':r=-1:=by rw[←hr];simp[e2]
   subst hr'
   (have fct:=And.intro (eq_true e1) ((eq_false e2));(repeat' (first
  |refine gF ?_|refine aE ?_ ?_
  | ((first
   |(refine ak.mk i (aO _) ei (au hx) ?_)
   |((with_reducible refine kQ 193 ?_);refine cL h110 qd ?_))<;>with_reducible refine wK ?_)
  | apply trivial));all_goals clear fct)
   all_goals rfl
 ·have hr':r=-1:=by rw[←hr];simp[e1]
  subst hr'
  (have fct:=(eq_false e1);(repeat' (first
  |refine gF ?_|refine aE ?_ ?_
  | ((first
   |(refine ak.mk i (aO _) ei (au hx) ?_)
   |((with_reducible refine kQ 193 ?_);refine cL h110 qd ?_))<;>with_reducible refine wK ?_)
  |apply trivial));all_goals clear fct)
  all_goals rfl
theorem DP {f:ForM}{d:bj}{cs:List aI}{n:Int}{s:StateM}(h:jY f d cs n s=true):∃j:Nat,cG s d cs.length=j∧cs[j]? =some (ct s d cs):=by
 unfold jY at h
 have hb:iq s d cs=true:=by
  simp only[aT] at h
  exact h.1.1.1
 rcases jy s d cs.length with e|⟨j,hj,e⟩
 ·rw[(eL e).2] at hb;cases hb
 ·obtain⟨c,hc⟩:∃c,cs[j]? =some c:=⟨_,aP hj⟩
  exact⟨j,e,by rw[(jv e hc).1];exact hc⟩
def JP (f:ForM)(d:bj)(cs:List aI)(st:List StateM)(k:Nat):List StateM:=(List.range k).map fun n:Nat=>qj f d cs (n:Int) (sX st n)
theorem Le (f:ForM)(d:bj)(cs:List aI)(st:List StateM)(k:Nat):(JP f d cs st k).length=k:=by unfold JP;simp
theorem Hp (f:ForM)(d:bj)(cs:List aI)(st:List StateM)(k:Nat):JP f d cs st (k+1)=JP f d cs st k++ [qj f d cs (k:Int) (sX st k)]:=by
 unfold JP;rw[List.range_succ,fO];rfl
theorem Mc (f:ForM)(d:bj)(cs:List aI)(st:List StateM):JP f d cs st st.length=Ch f d cs st st.length:=by
 unfold JP Ch
 refine List.map_congr_left fun n hn=>?_
 rw[if_pos (List.mem_range.1 hn)]
theorem MW (f:ForM)(hs:bR f.nodes)(st:List StateM)(d:bj)(cs:List aI)(hcs:∀c∈cs,c.hooks.length≤100000)(hlk:iO f st d=true):
  af Tryz.prog 107 [] [bD f,dF st,cP d,bF cs] [] (.tup [dF (dg f st d cs),dX (fJ f st d cs)]):=by
 obtain⟨hlen,hr⟩:st.length=f.nodes.length∧bf f=true:=by
  have:=hlk
  unfold iO at this
  simp only[aT,aL] at this
  exact this.1
 have T:Tree f.nodes:=gO hr
 have h60:=hs.len
 have e1:dg f st d cs=JP f d cs st st.length:=by unfold dg;rw[if_pos hlk,Mc]
 have e2:fJ f st d cs=Jz f d cs st st.length:=by unfold fJ;rw[if_pos hlk]
 rw[e1,e2]
 have hmt:∀k,k<st.length→ai f.nodes (k:Int)=true:=fun k hk=>cw (aP (by omega))
 have hfx:∀k,k<st.length→∃x,f.nodes[k]? =some x:=fun k hk=>⟨_,aP (by omega)⟩
 have h44:=fun c h=>KI f hs hr c h
 have h69:=fun k x h=>Mt f hs T k x h
 have hoe:=fun n h=>OV T (n:=n) h
 have hbe:=fun n h=>OC T (n:=n) h
 have hxs:=fun k=>Hp f d cs st k
 have hxl:=fun k=>Le f d cs st k
 have hds:=fun k=>vZ f d cs st k
 have hdl:=fun k=>uS f d cs st k
 have hx0:JP f d cs st 0=[]:=rfl
 have hd0:Jz f d cs st 0=[]:=rfl
 have hSd:∀k s,qj f d cs k s=if jY f d cs k s=true then⟨s.phase,s.df,iT f.nodes k,mA f.nodes k⟩ else s:=fun k s=>rfl
 have hDd:∀k s,vY f d cs k s=if jY f d cs k s=true then
   (if s.owner=iT f.nodes k then[] else jl (ct s d cs) k (gE s.owner (iT f.nodes k)))++ (if s.barred=mA f.nodes k then[] else jl (ct s d cs) k (cA (mA f.nodes k))) else[]:=fun k s=>rfl
 have h68:=fun s i h=>Mp f s d cs i h
 have hdc:=fun i s h=>DP (f:=f) (d:=d) (cs:=cs) (n:=i) (s:=s) h
 have hhk:=fun s=>si hcs s d
 have hsA:∀k,k<st.length→st[k]? =some (sX st k):=fun k hk=>by
  unfold sX;rw[aP hk];rfl
 generalize JP f d cs st=so at hxs hxl hx0 ⊢
 generalize Jz f d cs st=td at hds hdl hd0 ⊢
 clear e1 e2 T hr hlk
 obtain⟨l,m⟩:=f
 obtain⟨d1,d2,d3,d4⟩:=d
 simp only at hlen h60
 have hsm:(st.map cr).length=st.length:=aM ..
 refine af.ah (rvs:=[.tmp 8,.tmp 9]) G aa Tryz.func107 rfl Tryz.ntmps107 rfl rfl ?_;with_reducible refine wD ?_
 refine aR.ghost 10 101 4 rfl rfl ?_
 refine aR.ghost 11 111 11 rfl rfl ?_
 refine aR.use G aa (fun(k:Nat)=>[(1,dF st),(3,bF cs),(4,.ptr 40 0 0),(6,.ptr 60 0 0),(10,.own 101 0 (so k).length),(11,.own 111 0 (td k).length),(12,aj k)])
  (fun k=>[(40,.live 2 [bD ⟨l,m⟩] false),(60,.live 4 [cP ⟨d1,d2,d3,d4⟩] false),(101,bT (so k)),(111,di (td k))])
  (fun k=>k≤st.length) (fun k=>st.length-k) 0 (Nat.zero_le _) ?_ ?_
 ·rw[hx0,hd0]
  (refine fK ?_;(with_reducible repeat' (first|exact trivial|(show _∧_;refine aK ?_ ?_)));(all_goals try rfl))
  all_goals first
   |exact⟨.refl rfl,rfl⟩
 intro k hk
 have hdl:=hdl k
 have hxl:=hxl k
 have hdm:((td k).map fU).length=(td k).length:=aM ..
 have hxm:((so k).map cr).length=(so k).length:=aM ..
 with_reducible refine wK ?_
 refine aQ.mk (fun h1=>?_) (fun h1=>?_)<;>(try simp only[aq] at h1)<;>with_reducible refine wK ?_
 ·have hk':k<st.length:=by simp only[aL,aq] at h1;omega
  have hti:=hmt k hk'
  obtain⟨x,hfx⟩:=hfx k hk'
  have hsi:=hsA k hk'
  have h44:=h44 (k:Int) hti
  have h69:=h69 k x hfx
  rw[←hoe (k:Int) hti] at h44
  rw[←hbe (k:Int) hti] at h69
  have hxt:=hxs k
  have hdt:=hds k
  have hSd:=hSd k (sX st k)
  have hDd:=hDd k (sX st k)
  rw[hSd] at hxt
  rw[hDd] at hdt
  clear hSd hDd hxs hds hmt hsA hoe hbe hfx
  generalize sX st k=s at*
  have h68:=h68 s k hti
  have hdc:=hdc (k:Int) s
  have hhk:=hhk s
  have hA:=uZ (ct s ⟨d1,d2,d3,d4⟩ cs) hhk 5
  have hB:=uZ (ct s ⟨d1,d2,d3,d4⟩ cs) hhk 6
  obtain⟨dy,hdy⟩:∃dy,jY ⟨l,m⟩ ⟨d1,d2,d3,d4⟩ cs (k:Int) s=dy:=⟨_,rfl⟩
  rw[hdy] at h68 hdt hxt hdc
  generalize ct s ⟨d1,d2,d3,d4⟩ cs=cv at*
  generalize cG s ⟨d1,d2,d3,d4⟩ cs.length=ca at*
  generalize iT l (k:Int)=o at*
  generalize mA l (k:Int)=b at*
  generalize td k=D at*
  generalize so k=X at*
  obtain⟨c1,c2,c3,c4,c5⟩:=cv
  obtain⟨s1,s2,s3,s4⟩:=s
  clear hti hhk
  cases dy with
  | false=>
    rw[if_neg (by simp)] at hdt hxt h68
    rw[List.append_nil] at hdt
    obtain⟨y,hy⟩:∃y:StateM,y=⟨s1,s2,s3,s4⟩:=⟨_,rfl⟩
    subst hy
    repeat' (first
  |refine gK ?_|refine aE ?_ ?_
  | ((first
   |(refine ak.mk k (cf ⟨s1,s2,s3,s4⟩) rfl (bN hsi) ?_)
   |((with_reducible refine kQ 175 ?_);refine cL h68 Pz ?_)
   |((with_reducible show cC _ _ _ _ _ _ _ _ _ _);refine cC.mk (X.map cr) [cf ⟨s1,s2,s3,s4⟩] ⟨rfl,hxm.symm,rfl⟩ ⟨rfl,rfl,rfl⟩ rfl (by simp;omega) (by simp;omega) ?_)
   |((with_reducible show dc _ _ _ _ _);refine dc.mk _ rfl ?_)
   |((with_reducible show bL _ _ _ _);refine dK ?_))<;>with_reducible refine wK ?_)
  | apply trivial)
    refine ay.mk (k+1) (by omega) (by omega) ?_
    rw[hxt,hdt]
    (refine fK ?_;(with_reducible repeat' (first|exact trivial|(show _∧_;refine aK ?_ ?_)));(all_goals try rfl))
    all_goals first
     |(simp;done)
     |exact⟨.refl rfl,rfl⟩
     |exact⟨.refl (aF _),aF _⟩
     |(refine⟨?_,aB _⟩;rw[fO];exact .refl (by rw[←fO];exact aB _))
  | true=>
    rw[if_pos rfl] at hdt hxt h68
    simp only at hdt hxt
    obtain⟨j,e,hcj⟩:=hdc rfl
    subst e
    have hj0:(0≤ (j:Int)):=by omega
    generalize hwA:cm ⟨c1,c2,c3,c4,c5⟩ 5=wA at*
    generalize hwB:cm ⟨c1,c2,c3,c4,c5⟩ 6=wB at*
    have hgA:∀t,t=gE s3 o→cm ⟨c1,c2,c3,c4,c5⟩ t.kind=wA:=fun t e=>by rw[e];exact hwA
    have hgB:∀t,t=cA b→cm ⟨c1,c2,c3,c4,c5⟩ t.kind=wB:=fun t e=>by rw[e];exact hwB
    have eA:∃X:List ck,(if s3=o then[] else jl ⟨c1,c2,c3,c4,c5⟩ (k:Int) (gE s3 o))=X∧(((o=s3)=True∧True∧X=[])∨((o=s3)=False∧wA=false∧X=[])∨((o=s3)=False∧wA=true∧X=[⟨(k:Int),gE s3 o⟩])):=by
     by_cases e:o=s3
     ·exact⟨[],if_pos e.symm,.inl ⟨eq_true e,trivial,rfl⟩⟩
     ·rw[if_neg (fun h=>e h.symm)]
      cases wA with
      |true=>exact⟨_,kz (hgA _ rfl),.inr (.inr ⟨eq_false e,rfl,rfl⟩)⟩
      |false=>exact⟨_,my (hgA _ rfl),.inr (.inl ⟨eq_false e,rfl,rfl⟩)⟩
    have eB:∃Y:List ck,(if s4=b then[] else jl ⟨c1,c2,c3,c4,c5⟩ (k:Int) (cA b))=Y∧(((b==s4)=true∧True∧Y=[])∨((b==s4)=false∧wB=false∧Y=[])∨((b==s4)=false∧wB=true∧Y=[⟨(k:Int),cA b⟩])):=by
     by_cases e:s4=b
     ·exact⟨[],if_pos e,.inl ⟨by rw[e];simp,trivial,rfl⟩⟩
     ·have e':(b==s4)=false:=by cases b<;>cases s4<;>simp at e ⊢
      rw[if_neg e]
      cases wB with
      |true=>exact⟨_,kz (hgB _ rfl),.inr (.inr ⟨e',rfl,rfl⟩)⟩
      |false=>exact⟨_,my (hgB _ rfl),.inr (.inl ⟨e',rfl,rfl⟩)⟩
    obtain⟨X',hX,hA'⟩:=eA
    obtain⟨Y',hY,hB'⟩:=eB
    rw[hX,hY] at hdt
    clear hgA hgB hwA hwB hX hY
    rcases hA' with⟨e1f,w1,rfl⟩|⟨e1f,w1,rfl⟩|⟨e1f,w1,rfl⟩<;>rcases hB' with⟨e2f,w2,rfl⟩|⟨e2f,w2,rfl⟩|⟨e2f,w2,rfl⟩
    all_goals
     try simp only[List.nil_append,List.append_nil] at hdt
     (have fct:=And.intro e1f (And.intro w1 (And.intro e2f (And.intro w2 ((eq_true hj0)))));(repeat' (first
  |refine gF ?_|refine aE ?_ ?_
  | ((first
   |(first|refine ak.mk k (cf ⟨s1,s2,s3,s4⟩) rfl (bN hsi) ?_|refine ak.mk j (bK ⟨c1,c2,c3,c4,c5⟩) rfl (cU hcj) ?_)
   |((with_reducible refine kQ 175 ?_);refine cL h68 Pz ?_)
   |((with_reducible refine kQ 176 ?_);refine cL h44 RT ?_)
   |((with_reducible refine kQ 177 ?_);refine cL h69 Rw ?_)
   |((with_reducible refine kQ 178 ?_);first|refine cL hA DL ?_|refine cL hB DL ?_)
   |((with_reducible show cC _ _ _ _ _ _ _ _ _ _);first|refine cC.mk (D.map fU) [gL ⟨(k:Int),gE s3 o⟩] ⟨rfl,hdm.symm,rfl⟩ ⟨rfl,rfl,rfl⟩ rfl (by simp;omega) (by simp;omega) ?_|refine cC.mk (D.map fU) [gL ⟨(k:Int),cA b⟩] ⟨rfl,hdm.symm,rfl⟩ ⟨rfl,rfl,rfl⟩ rfl (by simp;omega) (by simp;omega) ?_|refine cC.mk (D.map fU++ [gL ⟨(k:Int),gE s3 o⟩]) [gL ⟨(k:Int),cA b⟩] ⟨rfl,by simp,rfl⟩ ⟨rfl,rfl,rfl⟩ rfl (by simp;omega) (by simp;omega) ?_|refine cC.mk (X.map cr) [cf ⟨s1,s2,o,b⟩] ⟨rfl,hxm.symm,rfl⟩ ⟨rfl,rfl,rfl⟩ rfl (by simp;omega) (by simp;omega) ?_)
   |((with_reducible show dc _ _ _ _ _);refine dc.mk _ rfl ?_)
   |((with_reducible show bL _ _ _ _);refine dK ?_))<;>with_reducible refine wK ?_)
  |apply trivial));all_goals clear fct)
     refine ay.mk (k+1) (by omega) (by omega) ?_
     rw[hxt,hdt]
     (refine fK ?_;(with_reducible repeat' (first|exact trivial|(show _∧_;refine aK ?_ ?_)));(all_goals try rfl))
     all_goals first
      |(simp;done)
      |(simp;omega)
      |exact⟨.refl rfl,rfl⟩
      |exact⟨.refl (aF _),aF _⟩
      |(refine⟨?_,aB _⟩;rw[fO];exact .refl (by rw[←fO];exact aB _))
      |(refine⟨?_,aF _⟩;rw[fO];exact .refl (by rw[←fO];exact aF _))
      |(refine⟨?_,aF _⟩;rw[←List.append_assoc,fO,fO];exact .refl (by rw[←fO,←fO];exact aF _))
 ·have hjl:k=st.length:=by simp only[bh,aq] at h1;omega
  subst hjl
  repeat' (first
  |refine gK ?_|refine aE ?_ ?_
  |(((with_reducible show bL _ _ _ _);refine dK ?_)<;>with_reducible refine wK ?_)
  |apply trivial)
  all_goals first|exact ek rfl rfl rfl rfl|exact kB rfl rfl rfl rfl
def AE (t u:StateM):Bool:=(t.phase==u.phase)&&((t.df==u.df)&&((t.owner==u.owner)&&(t.barred==u.barred)))
theorem B6 (t u:StateM):AE t u=decide (t=u):=by
 rw[Bool.eq_iff_iff,aL]
 unfold AE
 simp only[aT,beq_iff_eq]
 constructor
 ·rintro⟨a,b,c,d⟩
  cases t;cases u
  simp only at*
  subst a;subst b;subst c;subst d;rfl
 ·rintro rfl;simp
@[reducible] def lS (t : StateM) : Value := .agg #[.int .i64 t.phase, .int .i64 t.df, .int .i64 t.owner, .bool t.barred]
theorem state_eq (t u:StateM)(w:World):(Op.equalIn 10000 75 (lS t) (lS u)).run Tryz.prog w=.ok (decide (t=u)) w:=by
 have hS:Tryz.prog.underlying 75=some (.struct (Tryz.prog.fieldsOf 75)):=by kernel_rfl
 have hp:Tryz.prog.stoodInHeld 75=false:=by kernel_rfl
 have u3:=Tryz.underlying3
 have a3:=Tryz.isAgg3
 have z3:=Tryz.sizeOf3
 have u4:=Tryz.underlying4
 have a4:=Tryz.isAgg4
 have z4:=Tryz.sizeOf4
 rw[←B6,show(10000:Nat)=9999+1 from rfl,run_equalIn_agg w 9999 75 _ _ hS hp]
 simp only[Program.fieldsOf,Tryz.underlying75]
 go_simp
 clear hS hp u3 a3 z3 u4 a4 z4
 unfold AE
 by_cases h1:t.phase=u.phase<;>by_cases h2:t.df=u.df<;>by_cases h3:t.owner=u.owner<;>simp[h1,h2,h3]
 by_cases h4:t.barred=u.barred<;>simp[h4]
theorem Fw (a b:StateM)(y z:Operand)(w:World):((do eqGuard .neq 75 y z (lS a) (lS b);binOp .neq 75 (lS a) (lS b):Sem Value)).run Tryz.prog w=.ok (.bool (!decide (a=b))) w:=by
 rw[Sem.run_bind,run_eqGuard_agg w .neq 75 y z _ _ (by kernel_rfl),Result.andThen_ok,run_neq_struct,state_eq];rfl
theorem OH (a b:List StateM)(ha:a.length≤100000):af Tryz.prog 42 [] [dF a,dF b] [] (aA (decide (a=b))):=by
 have hlm:(a.map cr).length=a.length:=aM ..
 have hlm':(b.map cr).length=b.length:=aM ..
 refine af.ah (rvs:=[.tmp 4]) G aa Tryz.func42 rfl Tryz.ntmps42 rfl rfl ?_;with_reducible refine wD ?_
 by_cases g1:a.length=b.length
 ·(have fct:=And.intro hlm (And.intro hlm' (g1));(repeat' (first
  |refine gF ?_|refine aE ?_ ?_
  |apply trivial));all_goals clear fct)
  refine aR.use G aa (fun(k:Nat)=>[(0,dF a),(1,dF b),(5,aj k)]) (fun _=>[]) (fun k=>k≤a.length∧∀j,j<k→a[j]? =b[j]?) (fun k=>a.length-k) 0 ⟨Nat.zero_le _,fun j hj=>by omega⟩
   ⟨⟨rfl,rfl⟩,⟨rfl,rfl,rfl,trivial⟩,trivial⟩ ?_
  intro k ⟨hk,hno⟩
  with_reducible refine wK ?_
  refine aQ.mk (fun h1=>?_) (fun h1=>?_)<;>(try simp only[aq] at h1)<;>with_reducible refine wK ?_
  ·simp only[hlm,aL] at h1
   have hk':k<a.length:=by omega
   obtain⟨⟨x1,x2,x3,x4⟩,hx⟩:∃x,a[k]? =some x:=⟨_,aP hk'⟩
   obtain⟨⟨y1,y2,y3,y4⟩,hy⟩:∃y,b[k]? =some y:=⟨_,aP (by omega)⟩
   refine ak.mk k (cf ⟨x1,x2,x3,x4⟩) rfl (bN hx) ?_;with_reducible refine wK ?_
   refine ak.mk k (cf ⟨y1,y2,y3,y4⟩) rfl (bN hy) ?_;with_reducible refine wK ?_
   refine yU.mk _ (fun y z w=>Fw ⟨x1,x2,x3,x4⟩ ⟨y1,y2,y3,y4⟩ y z w) ?_;with_reducible refine wK ?_
   by_cases e:(⟨x1,x2,x3,x4⟩:StateM)=⟨y1,y2,y3,y4⟩
   ·have e':=hx.trans ((congrArg some e).trans hy.symm)
    rw[aV e]
    repeat' (first
  |refine gK ?_|refine aE ?_ ?_
  | ((first
   |((with_reducible show ay _ _);refine ay.mk (k+1) ⟨by omega,mE hno e'⟩ (by omega) ⟨⟨rfl,rfl⟩,⟨rfl,rfl,by show((k+1:Nat):Int)=(k:Int)+1;omega,trivial⟩,trivial⟩)
   |((with_reducible show bL _ _ _ _);refine dK ?_))<;>with_reducible refine wK ?_)
  | apply trivial)
   ·rw[show decide (a=b)=false from aS fun h=>e (by rw[h] at hx;rw[hx] at hy;exact Option.some.inj hy),aS e]
    repeat' (first
  |refine gK ?_|refine aE ?_ ?_
  |(((with_reducible show bL _ _ _ _);refine dK ?_)<;>with_reducible refine wK ?_)
  |apply trivial)
  ·have hkl:k=a.length:=by simp only[hlm,bh] at h1;omega
   subst hkl
   rw[show decide (a=b)=true from aV (mI g1 hno)]
   (have fct:=hlm;(repeat' (first
  |refine gF ?_|refine aE ?_ ?_
  |apply trivial));all_goals clear fct)
 ·rw[show decide (a=b)=false from aS fun h=>g1 (by rw[h])]
  (have fct:=And.intro hlm (And.intro hlm' (g1));(repeat' (first
  |refine gF ?_|refine aE ?_ ?_
  |apply trivial));all_goals clear fct)
theorem FP (a b:StateM)(y z:Operand)(w:World):((do eqGuard .eql 75 y z (lS a) (lS b);binOp .eql 75 (lS a) (lS b):Sem Value)).run Tryz.prog w=.ok (.bool (decide (a=b))) w:=by
 rw[Sem.run_bind,run_eqGuard_agg w .eql 75 y z _ _ (by kernel_rfl),Result.andThen_ok,run_eql_struct,state_eq];rfl
theorem w7 (l:List AP):af Tryz.prog 83 [] [xl l] [] (aA (decide (60<l.length))):=by
 have hlm:(l.map C6).length=l.length:=aM ..
 refine af.ah (rvs:=[.tmp 2]) G aa Tryz.func83 rfl Tryz.ntmps83 rfl rfl ?_;with_reducible refine wD ?_
 (have fct:=hlm;(repeat' (first
  |refine gF ?_|refine aE ?_ ?_
  |apply trivial));all_goals clear fct)
 all_goals first|(simp;omega)
theorem BV (s:ByteArray)(hs:s.size≤300):af Tryz.prog 80 [] [bG s] [] (aA (!(bJ s&&decide (gR s=s)))):=by
 have h81:=Az s
 cases hr:bJ s
 all_goals
  rw[hr] at h81
  simp only[Bool.false_eq_true,if_false,if_true] at h81
  refine af.ah (rvs:=[.tmp 2]) G aa Tryz.func80 rfl Tryz.ntmps80 rfl rfl ?_;with_reducible refine wD ?_
  repeat' (first
  |refine pK ?_|refine aE ?_ ?_
  | ((first
   |((with_reducible show aQ _ _ _ _);(refine aQ.mk (fun hp=>?_) (fun hp=>?_)<;>(try simp only[aq,aL,bh,Bool.not_eq_true',Bool.not_eq_false',Decidable.not_not,Int.not_lt,Int.not_le] at hp)))
   |((with_reducible refine kQ 81 ?_);refine cL h81 JQ ?_))<;>with_reducible refine wK ?_)
  |apply trivial)
  all_goals first|rfl|(simp_all;done)|(simp_all;omega)
def G5 (h:dn):Bool:=decide (h.kind<1)||decide (8<h.kind)||decide (60<h.prog.length)
theorem LQ (h:dn):af Tryz.prog 82 [] [iF h] [] (aA (G5 h)):=by
 have hl:=w7 h.prog
 unfold G5
 obtain⟨k,p⟩:=h
 simp only at hl ⊢
 refine af.ah (rvs:=[.tmp 2]) G aa Tryz.func82 rfl Tryz.ntmps82 rfl rfl ?_;with_reducible refine wD ?_
 repeat' (first
  |refine pK ?_|refine aE ?_ ?_
  | ((first
   |((with_reducible show aQ _ _ _ _);(refine aQ.mk (fun hp=>?_) (fun hp=>?_)<;>(try simp only[aq,aL,bh,Bool.not_eq_true',Bool.not_eq_false',Decidable.not_not,Int.not_lt,Int.not_le] at hp)))
   |((with_reducible refine kQ 83 ?_);refine cL hl R8 ?_))<;>with_reducible refine wK ?_)
  |apply trivial)
 all_goals first|rfl|(simp_all;done)|(simp_all;omega)
theorem oS (c:aI)(h1:c.watch.length≤100000)(h2:c.hooks.length≤100000)(h3:∀s∈c.watch,s.size≤300):af Tryz.prog 26 [] [bK c] [] (aA (bq c)):=by
 have a1:=af.PK (NL 80 Tx [] rfl (fun s=> !(bJ s&&decide (gR s=s))) c.watch h1 (fun s hs=>BV s (h3 s hs)))
 have a2:=af.PK (Kx 82 Ti [] rfl G5 c.hooks h2 (fun h _=>LQ h))
 have a3:=w7 c.peek
 have a4:=w7 c.make
 have e0:bq c=(((((decide (c.watch.length≤12)&& !(c.watch.any fun s=> !(bJ s&&decide (gR s=s))))&&decide (c.hooks.length≤12))&& !(c.hooks.any G5))&& !decide (60<c.peek.length))&& !decide (60<c.make.length)):=by
  unfold bq
  rw[←decide_not,←decide_not,decide_eq_decide.2 (show c.peek.length≤60↔ ¬60<c.peek.length by omega),decide_eq_decide.2 (show c.make.length≤60↔ ¬60<c.make.length by omega)];rfl
 rw[e0]
 obtain⟨c1,c2,c3,c4,c5⟩:=c
 simp only at a1 a2 a3 a4 ⊢
 have n2:(c2.map jO).length=c2.length:=aM ..
 have n5:(c5.map jk).length=c5.length:=aM ..
 generalize(c2.any fun s=> !(bJ s&&decide (gR s=s)))=p1 at*
 generalize c5.any G5=p2 at*
 generalize decide (60<c3.length)=p3 at*
 generalize decide (60<c4.length)=p4 at*
 by_cases e1:(c2.length:Int)≤12
 ·rw [aV (show c2.length≤12 by omega)]
  cases p1
  ·by_cases e2:(c5.length:Int)≤12
   ·rw[aV (show c5.length≤12 by omega)]
    cases p2<;>cases p3<;>cases p4<;>
    ·refine af.ah (rvs:=[.tmp 2]) G aa Tryz.func26 rfl Tryz.ntmps26 rfl rfl ?_;with_reducible refine wD ?_
     (have fct:=And.intro n2 (And.intro n5 (And.intro (eq_true e1) ((eq_true e2))));(repeat' (first
  |refine gF ?_|refine aE ?_ ?_
  | ((first
   |((with_reducible refine kQ 84 ?_);refine cL a1 Rc ?_)
   |((with_reducible refine kQ 85 ?_);refine cL a2 Tj ?_)
   |((with_reducible refine kQ 83 ?_);first|refine cL a3 R8 ?_|refine cL a4 R8 ?_))<;>with_reducible refine wK ?_)
  | apply trivial));all_goals clear fct)
     all_goals first|rfl|(simp_all;done)|(simp_all;omega)
   ·rw[aS (show ¬c5.length≤12 by omega)]
    refine af.ah (rvs:=[.tmp 2]) G aa Tryz.func26 rfl Tryz.ntmps26 rfl rfl ?_;with_reducible refine wD ?_
    (have fct:=And.intro n2 (And.intro n5 (And.intro (eq_true e1) ((eq_false e2))));(repeat' (first
  |refine gF ?_|refine aE ?_ ?_
  |(((with_reducible refine kQ 84 ?_);refine cL a1 Rc ?_)<;>with_reducible refine wK ?_)
  | apply trivial));all_goals clear fct)
    all_goals first|rfl|(simp_all;done)|(simp_all;omega)
  ·refine af.ah (rvs:=[.tmp 2]) G aa Tryz.func26 rfl Tryz.ntmps26 rfl rfl ?_;with_reducible refine wD ?_
   (have fct:=And.intro n2 ((eq_true e1));(repeat' (first
  |refine gF ?_|refine aE ?_ ?_
  |(((with_reducible refine kQ 84 ?_);refine cL a1 Rc ?_)<;>with_reducible refine wK ?_)
  | apply trivial));all_goals clear fct)
   all_goals first|rfl|(simp_all;done)|(simp_all;omega)
 ·rw[aS (show ¬c2.length≤12 by omega)]
  refine af.ah (rvs:=[.tmp 2]) G aa Tryz.func26 rfl Tryz.ntmps26 rfl rfl ?_;with_reducible refine wD ?_
  (have fct:=And.intro n2 ((eq_false e1));(repeat' (first
  |refine gF ?_|refine aE ?_ ?_
  |apply trivial));all_goals clear fct)
  all_goals first|rfl|(simp_all;done)|(simp_all;omega)
theorem sD (w:aH)(n:Int):af Tryz.prog 162 [] [bk w,aj n] [] (aA (kq w n)):=by
 unfold kq
 obtain⟨⟨l,m⟩,st,⟨d1,d2,d3,d4⟩,⟨a,b,c,d⟩,ta,bu,cs⟩:=w
 have hlm:(d1.map j5).length=d1.length:=aM ..
 by_cases h1:0≤n
 ·refine af.ah (rvs:=[.tmp 4]) G aa Tryz.func162 rfl Tryz.ntmps162 rfl rfl ?_;with_reducible refine wD ?_
  (have fct:=And.intro (eq_true h1) (hlm);(repeat' (first
  |refine gF ?_|refine aE ?_ ?_
  |apply trivial));all_goals clear fct)
  all_goals first|(simp[h1];done)
 ·refine af.ah (rvs:=[.tmp 4]) G aa Tryz.func162 rfl Tryz.ntmps162 rfl rfl ?_;with_reducible refine wD ?_
  (have fct:=And.intro (eq_false h1) (hlm);(repeat' (first
  |refine gF ?_|refine aE ?_ ?_
  |apply trivial));all_goals clear fct)
  all_goals first|(simp[h1];done)
theorem tN (w:aH)(n:Int):af Tryz.prog 95 [] [bk w,aj n] [] (aA (ai w.f.nodes n)):=by
 unfold ai
 obtain⟨⟨l,m⟩,st,⟨d1,d2,d3,d4⟩,⟨a,b,c,d⟩,ta,bu,cs⟩:=w
 have hlm:(l.map bP).length=l.length:=aM ..
 by_cases h1:0≤n
 ·refine af.ah (rvs:=[.tmp 4]) G aa Tryz.func95 rfl Tryz.ntmps95 rfl rfl ?_;with_reducible refine wD ?_
  (have fct:=And.intro (eq_true h1) (hlm);(repeat' (first
  |refine gF ?_|refine aE ?_ ?_
  |apply trivial));all_goals clear fct)
  all_goals first|(simp[h1];done)
 ·refine af.ah (rvs:=[.tmp 4]) G aa Tryz.func95 rfl Tryz.ntmps95 rfl rfl ?_;with_reducible refine wD ?_
  (have fct:=And.intro (eq_false h1) (hlm);(repeat' (first
  |refine gF ?_|refine aE ?_ ?_
  |apply trivial));all_goals clear fct)
  all_goals first|(simp[h1];done)
theorem yj (w:aH)(t:bw):af Tryz.prog 96 [] [bk w,fR t] [] (aA (gU w t)):=by
 have hd:=sD w t.df
 unfold gU
 generalize kq w t.df=g at*
 obtain⟨⟨l,m⟩,st,⟨d1,d2,d3,d4⟩,⟨a,b,c,d⟩,ta,bu,cs⟩:=w
 obtain⟨x0,x1,x2,x3,x4,x5,x6,x7,x8,x9⟩:=t
 simp only at hd ⊢
 refine af.ah (rvs:=[.tmp 4]) G aa Tryz.func96 rfl Tryz.ntmps96 rfl rfl ?_;with_reducible refine wD ?_
 repeat' (first
  |refine pK ?_|refine aE ?_ ?_
  | ((first
   |((with_reducible show aQ _ _ _ _);(refine aQ.mk (fun hp=>?_) (fun hp=>?_)<;>(try simp only[aq,aL,bh,Bool.not_eq_true',Bool.not_eq_false',Decidable.not_not,Int.not_lt,Int.not_le] at hp)))
   |((with_reducible refine kQ 162 ?_);refine cL hd I6 ?_))<;>with_reducible refine wK ?_)
  |apply trivial)
 all_goals first|rfl|(simp_all;done)|(simp_all;omega)
theorem Fx (w:aH)(t:gT):af Tryz.prog 151 [] [bk w,j0 t] [] (aA (nR w t)):=by
 have hd:=sD w t.df
 unfold nR
 generalize kq w t.df=g at*
 obtain⟨⟨l,m⟩,st,⟨d1,d2,d3,d4⟩,⟨a,b,c,d⟩,ta,bu,cs⟩:=w
 obtain⟨x0,x1,x2⟩:=t
 simp only at hd ⊢
 refine af.ah (rvs:=[.tmp 4]) G aa Tryz.func151 rfl Tryz.ntmps151 rfl rfl ?_;with_reducible refine wD ?_
 repeat' (first
  |refine pK ?_|refine aE ?_ ?_
  | ((first
   |((with_reducible show aQ _ _ _ _);(refine aQ.mk (fun hp=>?_) (fun hp=>?_)<;>(try simp only[aq,aL,bh,Bool.not_eq_true',Bool.not_eq_false',Decidable.not_not,Int.not_lt,Int.not_le] at hp)))
   |((with_reducible refine kQ 162 ?_);refine cL hd I6 ?_))<;>with_reducible refine wK ?_)
  |apply trivial)
 all_goals first|rfl|(simp_all;done)|(simp_all;omega)
theorem CK (w:aH)(t:iX):af Tryz.prog 154 [] [bk w,iV t] [] (aA (jo w t)):=by
 have hd:=sD w t.df
 have hn:=tN w t.node
 unfold jo elemV
 obtain⟨x0,x1⟩:=t
 cases ht:ai w.f.nodes x1 with
 | false=>
   generalize kq w x0=g at*
   obtain⟨⟨l,m⟩,st,⟨d1,d2,d3,d4⟩,⟨a,b,c,d⟩,ta,bu,cs⟩:=w
   simp only at hd hn ht ⊢
   rw[ht] at hn
   refine af.ah (rvs:=[.tmp 4]) G aa Tryz.func154 rfl Tryz.ntmps154 rfl rfl ?_;with_reducible refine wD ?_
   cases g
   all_goals
    repeat' (first
  |refine pK ?_|refine aE ?_ ?_
  | ((first
   |((with_reducible show aQ _ _ _ _);(refine aQ.mk (fun hp=>?_) (fun hp=>?_)<;>(try simp only[aq,aL,bh,Bool.not_eq_true',Bool.not_eq_false',Decidable.not_not,Int.not_lt,Int.not_le] at hp)))
   |((with_reducible refine kQ 162 ?_);refine cL hd I6 ?_)
   |((with_reducible refine kQ 95 ?_);refine cL hn QF ?_))<;>with_reducible refine wK ?_)
  | apply trivial)
   all_goals first|rfl|(simp_all;done)|(simp_all;omega)
 | true=>
   obtain⟨k,y,rfl,hy,hnd⟩:=aX.1 ht
   rw[hnd]
   generalize kq w x0=g at*
   obtain⟨⟨l,m⟩,st,⟨d1,d2,d3,d4⟩,⟨a,b,c,d⟩,ta,bu,cs⟩:=w
   simp only at hd hn ht hy ⊢
   rw[ht] at hn
   have hkl:=(aZ hy).1
   obtain⟨y0,y1,y2,y3,y4,y5,y6,y7,y8,y9⟩:=y
   refine af.ah (rvs:=[.tmp 4]) G aa Tryz.func154 rfl Tryz.ntmps154 rfl rfl ?_;with_reducible refine wD ?_
   cases g
   all_goals
    repeat' (first
  |refine pK ?_|refine aE ?_ ?_
  | ((first
   |((with_reducible show aQ _ _ _ _);(refine aQ.mk (fun hp=>?_) (fun hp=>?_)<;>(try simp only[aq,aL,bh,Bool.not_eq_true',Bool.not_eq_false',Decidable.not_not,Int.not_lt,Int.not_le] at hp)))
   |((with_reducible refine kQ 162 ?_);refine cL hd I6 ?_)
   |((with_reducible refine kQ 95 ?_);refine cL hn QF ?_)
   |((with_reducible show ak _ _ _ _ _);refine ak.mk k (aO ⟨y0,y1,y2,y3,y4,y5,y6,y7,y8,y9⟩) rfl (au hy) ?_))<;>with_reducible refine wK ?_)
  | apply trivial)
   all_goals first|rfl|(simp_all;done)|(simp_all;omega)
theorem Dx (w:aH)(k:Nat)(x:az)(s:StateM)(hx:w.f.nodes[k]? =some x)(hs:w.states[k]? =some s):af Tryz.prog 146 [] [bk w,aj k] [] (aA (gy w x s)):=by
 have hd:=sD w s.df
 have hn:=tN w s.owner
 unfold gy
 generalize kq w s.df=g at*
 generalize ai w.f.nodes s.owner=t at*
 obtain⟨⟨l,m⟩,st,⟨d1,d2,d3,d4⟩,⟨a,b,c,d⟩,ta,bu,cs⟩:=w
 obtain⟨y0,y1,y2,y3,y4,y5,y6,y7,y8,y9⟩:=x
 obtain⟨s1,s2,s3,s4⟩:=s
 simp only at hd hn hx hs ⊢
 by_cases e0:y0=1
 ·rw[if_pos e0]
  by_cases e1:s3=-1
  all_goals
   refine af.ah (rvs:=[.tmp 4]) G aa Tryz.func146 rfl Tryz.ntmps146 rfl rfl ?_;with_reducible refine wD ?_
   (have fct:=And.intro e0 (e1);(repeat' (first
  |refine pF ?_|refine aE ?_ ?_
  | ((first
   |((with_reducible show aQ _ _ _ _);(refine aQ.mk (fun hp=>?_) (fun hp=>?_)<;>(try simp only[aq,aL,bh,Bool.not_eq_true',Bool.not_eq_false',Decidable.not_not,Int.not_lt,Int.not_le] at hp)))
   |((with_reducible refine kQ 162 ?_);refine cL hd I6 ?_)
   |((with_reducible refine kQ 95 ?_);refine cL hn QF ?_)
   |((with_reducible show ak _ _ _ _ _);first|refine ak.mk k (aO ⟨y0,y1,y2,y3,y4,y5,y6,y7,y8,y9⟩) rfl (au hx) ?_|refine ak.mk k (cf ⟨s1,s2,s3,s4⟩) rfl (bN hs) ?_))<;>with_reducible refine wK ?_)
  | apply trivial));all_goals clear fct)
   all_goals first|rfl|(simp_all;done)|(simp_all;omega)
 ·rw[if_neg e0]
  refine af.ah (rvs:=[.tmp 4]) G aa Tryz.func146 rfl Tryz.ntmps146 rfl rfl ?_;with_reducible refine wD ?_
  (have fct:=(eq_false e0);(repeat' (first
  |refine gF ?_|refine aE ?_ ?_
  | ((first
   |((with_reducible show ak _ _ _ _ _);first|refine ak.mk k (aO ⟨y0,y1,y2,y3,y4,y5,y6,y7,y8,y9⟩) rfl (au hx) ?_|refine ak.mk k (cf ⟨s1,s2,s3,s4⟩) rfl (bN hs) ?_)
   |((with_reducible show yU _ _ _ _ _ _ _ _);refine yU.mk _ (fun y z w=>FP ⟨s1,s2,s3,s4⟩ ⟨0,-1,-1,false⟩ y z w) ?_))<;>with_reducible refine wK ?_)
  |apply trivial));all_goals clear fct)
  all_goals first|rfl|(simp_all;done)|(simp_all;omega)
theorem uJ {α:Type}(o:α→AV){wd k:Nat}{m:ML}{fz:Nat→Bool}{cI:List (Nat×Nat)}{n t u off len L:Nat}{ro:Bool}{rows:List AV}{l:List α}{y:α}(h1:eC m t=.live wd rows ro)(h2:fz t=true)(h3:rows=(l.map o).set k (.own u off len))(hk:k<l.length)(h4:L=l.length)(hn:∀l:List α,aU (l.map o)=true)(h6:MF cI fz m n (o y) (.own u off len)):o6 m fz (MF cI fz m n) (.sl wd ((l.set k y).map o)) t 0 L:=by
 subst h3;subst h4
 have e:((l.map o).set k (.own u off len)).length=l.length:=by simp
 refine⟨wd,_,ro,_,h1,h2,rfl,by omega,hn _,?_,?_⟩
 ·rw[List.drop_zero,jH (by omega)];simp
 ·intro i x z hx hz
  rw[List.drop_zero,jH (by omega),List.getElem?_set] at hz
  rw[dM,List.getElem?_set] at hx
  by_cases e2:k=i
  ·subst e2
   rw[if_pos rfl,if_pos hk] at hx
   rw[if_pos rfl,if_pos (by simpa using hk)] at hz
   cases hx;cases hz
   exact h6
  ·rw[if_neg e2] at hx hz
   rw[dM] at hz
   rw[hx] at hz;cases hz
   refine nq n x ?_
   obtain⟨a,ha,rfl⟩:∃a,l[i]? =some a∧o a=x:=by
    cases q:l[i]? with
    |none=>rw[q] at hx;cases hx
    |some a=>rw[q] at hx;exact⟨a,rfl,Option.some.inj hx⟩
   exact bZ.1 (hn l) _ (List.mem_map_of_mem (bn ha))
theorem EE {a:List (List bw)}{b:List (List Int)}{c:List Int}{i j k:Nat}:qv [i,j,k] [lH a,oZ b,jG c] [lH a,oZ b,jG c]:=⟨⟨rfl,.inl ⟨rfl,cE _⟩⟩,⟨rfl,.inl ⟨rfl,ej _⟩⟩,⟨rfl,.inl ⟨rfl,bC _⟩⟩,trivial⟩
theorem GX (t:List bw):af Tryz.prog 110 [] [cJ t] [] (aA (decide (0<t.length))):=by
 have hlm:=(show(t.map ef).length=t.length from aM ..)
 refine af.ah (rvs:=[.tmp 2]) G aa Tryz.func110 rfl Tryz.ntmps110 rfl rfl ?_;with_reducible refine wD ?_
 (have fct:=hlm;(repeat' (first
  |refine gF ?_|refine aE ?_ ?_
  |apply trivial));all_goals clear fct)
 all_goals first|(simp;done)
theorem GL (l:cq)(h1:l.todos.length≤100000):af Tryz.prog 45 [] [eT l] [] (aA (nn l)):=by
 have hany:=af.PK (Lw 110 Rx [] rfl (fun t=>decide (0<t.length)) l.todos h1 (fun a _=>GX a))
 unfold nn
 obtain⟨a,b,c,d⟩:=l
 simp only at hany ⊢
 have hbm:(b.map dJ).length=b.length:=aM ..
 have hcm:(c.map bB).length=c.length:=aM ..
 generalize(a.any fun t=>decide (0<t.length))=p at*
 cases d with
 | true=>
   refine af.ah (rvs:=[.tmp 2]) G aa Tryz.func45 rfl Tryz.ntmps45 rfl rfl ?_;with_reducible refine wD ?_
   repeat' (first
  |refine gK ?_|refine aE ?_ ?_
  | apply trivial)
   all_goals first|rfl
 | false=>
   by_cases e1:(b.length:Int)=0
   ·have g1:decide (((b.map dJ).length:Int)=0)=true:=aV (by rw[hbm];exact e1)
    rw[aV (show b.length=0 by omega)]
    by_cases e2:(c.length:Int)=0
    ·rw[aV (show c.length=0 by omega)]
     have g2:decide (((c.map bB).length:Int)=0)=true:=aV (by rw[hcm];exact e2)
     refine af.ah (rvs:=[.tmp 2]) G aa Tryz.func45 rfl Tryz.ntmps45 rfl rfl ?_;with_reducible refine wD ?_
     repeat' (first
  |refine gK ?_|refine aE ?_ ?_
  |(((with_reducible refine kQ 111 ?_);refine cL hany R3 ?_)<;>with_reducible refine wK ?_)
  | apply trivial)
     all_goals first|rfl|(simp;done)
    ·rw[aS (show ¬c.length=0 by omega)]
     have g2:decide (((c.map bB).length:Int)=0)=false:=aS (by rw[hcm];exact e2)
     refine af.ah (rvs:=[.tmp 2]) G aa Tryz.func45 rfl Tryz.ntmps45 rfl rfl ?_;with_reducible refine wD ?_
     repeat' (first
  |refine gK ?_|refine aE ?_ ?_
  | apply trivial)
     all_goals first|rfl|(simp;done)
   ·rw[aS (show ¬b.length=0 by omega)]
    have g1:decide (((b.map dJ).length:Int)=0)=false:=aS (by rw[hbm];exact e1)
    refine af.ah (rvs:=[.tmp 2]) G aa Tryz.func45 rfl Tryz.ntmps45 rfl rfl ?_;with_reducible refine wD ?_
    repeat' (first
  |refine gK ?_|refine aE ?_ ?_
  | apply trivial)
    all_goals first|rfl|(simp;done)
def Dd (l:cq)(n:Int)(t:bw):cq×Bool×Int:=if(sV l&&ik l n)=true then(gu l n t,fA l,0) else(l,false,1)
theorem Fb {l:cq}{n:Int}{t:bw}(h:(sV l&&ik l n)=false):Dd l n t=(l,false,1):=by unfold Dd;rw[h];rfl
theorem BM {l:cq}{n:Int}{t:bw}(h:(sV l&&ik l n)=true):Dd l n t=(gu l n t,fA l,0):=by unfold Dd;rw[h];rfl
theorem yH {b:List (List Int)}{k:Nat}{s:List Int}(e:b.length=k+1)(h:b[k]? =some s){a:List (List bw)}{c:List Int}{d:Bool}:ur ⟨a,b,c,d⟩=s:=by
 unfold ur
 show(b[b.length-1]?).getD []=s
 rw[e,Nat.add_sub_cancel,h];rfl
theorem IG (l:cq)(hs:rF 98000 l)(n:Int)(t:bw):af Tryz.prog 165 [] [eT l,aj n,fR t] [] (.tup [eT (Dd l n t).1,aA (Dd l n t).2.1,aj (Dd l n t).2.2]):=by
 have hR:=vT l (hs.mono (by omega))
 have hI:=D3 l n
 have hO:=Bp l (by have:=hs.todos;omega) (by have:=hs.stack;omega) (by have:=hs.back;omega)
 cases e1:sV l with
 | false=>
   rw[e1] at hR
   rw[Fb (by rw[e1];rfl)]
   obtain⟨a,b,c,d⟩:=l
   obtain⟨x0,x1,x2,x3,x4,x5,x6,x7,x8,x9⟩:=t
   refine af.ah (rvs:=[.cell 6 34,.tmp 7,.tmp 8]) G aa Tryz.func165 rfl Tryz.ntmps165 rfl rfl ?_;with_reducible refine wD ?_
   repeat' (first
  |refine gK ?_|refine aE ?_ ?_
  |(((with_reducible refine kQ 145 ?_);refine cL hR Fl ?_)<;>with_reducible refine wK ?_)
  |apply trivial)
 | true =>
   rw[e1] at hR
   cases e2:ik l n with
   | false=>
     rw[e2] at hI
     rw[Fb (by rw[e1,e2];rfl)]
     obtain⟨a,b,c,d⟩:=l
     obtain⟨x0,x1,x2,x3,x4,x5,x6,x7,x8,x9⟩:=t
     refine af.ah (rvs:=[.cell 6 34,.tmp 7,.tmp 8]) G aa Tryz.func165 rfl Tryz.ntmps165 rfl rfl ?_;with_reducible refine wD ?_
     repeat' (first
  |refine gK ?_|refine aE ?_ ?_
  | ((first
   |((with_reducible refine kQ 145 ?_);refine cL hR Fl ?_)
   |((with_reducible refine kQ 210 ?_);refine cL hI Il ?_))<;>with_reducible refine wK ?_)
  | apply trivial)
   | true=>
     rw[e2] at hI
     obtain⟨k,y,rfl,hk,hy,htd⟩:=DW e2
     have hyl:=hs.todo y (bn hy)
     have hC:=Dr y (by omega)
     have hbl:=hs.stack
     have hcl:=hs.back
     have hst:=hs.list
     rw[BM (by rw[e1,e2];rfl)]
     unfold gu fA
     rw[htd,Int.toNat_natCast]
     obtain⟨a,b,c,d⟩:=l
     obtain⟨x0,x1,x2,x3,x4,x5,x6,x7,x8,x9⟩:=t
     simp only at hk hy hbl hcl hst hO ⊢
     have hcm:(c.map bB).length=c.length:=aM ..
     have ham:(a.map bO).length=a.length:=aM ..
     have hym:(y.map ef).length=y.length:=aM ..
     have e3:y.map ef++ [fR ⟨x0,x1,x2,x3,x4,x5,x6,x7,x8,x9⟩]=(y++ [(⟨x0,x1,x2,x3,x4,x5,x6,x7,x8,x9⟩:bw)]).map ef:=by rw[fO];rfl
     by_cases hb:b=[]
     ·subst hb
      rw[if_pos rfl]
      have e4:c.map bB++ [aj k]=(c++ [(k:Int)]).map bB:=by rw[fO];rfl
      refine af.ah (rvs:=[.cell 6 34,.tmp 7,.tmp 8]) G aa Tryz.func165 rfl Tryz.ntmps165 rfl rfl ?_;with_reducible refine wD ?_
      repeat' (first
  |refine gK ?_|refine aE ?_ ?_
  | ((first
   |((with_reducible refine kQ 145 ?_);refine cL hR Fl ?_)
   |((with_reducible refine kQ 210 ?_);refine cL hI Il ?_)
   |((with_reducible refine kQ 159 ?_);refine aD.lR (news:=[lH a,oZ _,jG c]) [221,222,223] [] hO OF ⟨⟨rfl,rfl,rfl,rfl,trivial⟩,trivial⟩ trivial rfl ⟨⟨rfl,rfl⟩,rfl⟩ rfl EE rfl rfl ?_)
   |((with_reducible show qb _ _ _ _ _);refine qb.mk k rfl hk ?_)
   |((with_reducible show dc _ _ _ _ _);refine dc.mk (cJ y) (by first|exact cM hy|(rw[Nat.zero_add];exact cM hy)) ?_)
   |((with_reducible refine kQ 218 ?_);refine aD.new 311 [] hC Qd ⟨rfl,trivial⟩ rfl rfl rfl (w6 _) rfl ?_)
   |((with_reducible show cC _ _ _ _ _ _ _ _ _ _);first|refine cC.mk (y.map ef) [fR ⟨x0,x1,x2,x3,x4,x5,x6,x7,x8,x9⟩] ⟨rfl,hym.symm,rfl⟩ ⟨rfl,rfl,rfl⟩ rfl (by simp;omega) (by simp;omega) ?_|refine cC.mk (c.map bB) [aj k] ⟨rfl,hcm.symm,rfl⟩ ⟨rfl,rfl,rfl⟩ rfl (by simp;omega) (by simp;omega) ?_))<;>with_reducible refine wK ?_)
  |apply trivial)
      all_goals first
       |exact uJ bO (y:=y++ [_]) rfl rfl (by rw[Nat.zero_add]) hk rfl cE (pI rfl rfl e3 (by simp))
       |exact sZ rfl rfl rfl rfl
       |exact eM rfl rfl e4 (by simp)
       |(simp;done)
     ·rw[if_neg hb]
      obtain⟨q,hq⟩:∃q,b.length=q+1:=⟨b.length-1,by have:=List.length_pos_iff.2 hb;omega⟩
      obtain⟨s,hs2⟩:∃s,b[q]? =some s:=⟨_,aP (by omega)⟩
      have hsl:=hst s (bn hs2)
      have hCs:=zk s (by omega)
      have hbm:(b.map dJ).length=b.length:=aM ..
      have hsm:(s.map bB).length=s.length:=aM ..
      rw[yH hq hs2,hq,Nat.add_sub_cancel,aS hb,Bool.false_and]
      have e4:s.map bB++ [aj k]=(s++ [(k:Int)]).map bB:=by rw[fO];rfl
      have e5:(b.length:Int)-1=(q:Int):=by omega
      refine af.ah (rvs:=[.cell 6 34,.tmp 7,.tmp 8]) G aa Tryz.func165 rfl Tryz.ntmps165 rfl rfl ?_;with_reducible refine wD ?_
      repeat' (first
  |refine gK ?_|refine aE ?_ ?_
  | ((first
   |((with_reducible refine kQ 145 ?_);refine cL hR Fl ?_)
   |((with_reducible refine kQ 210 ?_);refine cL hI Il ?_)
   |((with_reducible refine kQ 159 ?_);refine aD.lR (news:=[lH a,oZ _,jG c]) [221,222,223] [] hO OF ⟨⟨rfl,rfl,rfl,rfl,trivial⟩,trivial⟩ trivial rfl ⟨⟨rfl,rfl⟩,rfl⟩ rfl EE rfl rfl ?_)
   |((with_reducible show qb _ _ _ _ _);refine qb.mk k rfl hk ?_)
   |((with_reducible show dc _ _ _ _ _);refine dc.mk (cJ y) (by first|exact cM hy|(rw[Nat.zero_add];exact cM hy)) ?_)
   |((with_reducible refine kQ 218 ?_);refine aD.new 311 [] hC Qd ⟨rfl,trivial⟩ rfl rfl rfl (w6 _) rfl ?_)
   |((with_reducible show cC _ _ _ _ _ _ _ _ _ _);refine cC.mk (y.map ef) [fR ⟨x0,x1,x2,x3,x4,x5,x6,x7,x8,x9⟩] ⟨rfl,hym.symm,rfl⟩ ⟨rfl,rfl,rfl⟩ rfl (by simp;omega) (by simp;omega) ?_))<;>with_reducible refine wK ?_)
  |apply trivial)
      rw[e5]
      repeat' (first
  |refine gK ?_|refine aE ?_ ?_
  | ((first
   |((with_reducible show qb _ _ _ _ _);refine qb.mk q rfl (by omega) ?_)
   |((with_reducible show dc _ _ _ _ _);refine dc.mk (bQ s) (by first|exact gM hs2|(rw[Nat.zero_add];exact gM hs2)) ?_)
   |((with_reducible refine kQ 217 ?_);refine aD.new 501 [] hCs PI ⟨rfl,trivial⟩ rfl rfl rfl (yY _) rfl ?_)
   |((with_reducible show cC _ _ _ _ _ _ _ _ _ _);refine cC.mk (s.map bB) [aj k] ⟨rfl,hsm.symm,rfl⟩ ⟨rfl,rfl,rfl⟩ rfl (by simp;omega) (by simp;omega) ?_))<;>with_reducible refine wK ?_)
  |apply trivial)
      all_goals first
       |exact uJ bO (y:=y++ [_]) rfl rfl (by rw[Nat.zero_add]) hk rfl cE (pI rfl rfl e3 (by simp))
       |exact uJ dJ (y:=s++ [_]) rfl rfl (by rw[Nat.zero_add]) (by omega) rfl ej (eM rfl rfl e4 (by simp))
       |exact eM rfl rfl rfl rfl
       |(simp[hb];done)
theorem Gr (a:AttrM)(y z:Operand)(w:World):((do eqGuard .neq 179 y z (.agg #[.string a.name,.string a.value]) (.agg #[.string a.name,.string a.value]);binOp .neq 179 (.agg #[.string a.name,.string a.value]) (.agg #[.string a.name,.string a.value]):Sem Value)).run Tryz.prog w=.ok (.bool false) w:=by
 have hS:Tryz.prog.underlying 179=some (.struct (Tryz.prog.fieldsOf 179)):=by kernel_rfl
 have hp:Tryz.prog.stoodInHeld 179=false:=by kernel_rfl
 have u9:=Tryz.underlying9
 have a9:=Tryz.isAgg9
 have z9:=Tryz.sizeOf9
 rw[Sem.run_bind,run_eqGuard_agg w .neq 179 y z _ _ (by kernel_rfl),Result.andThen_ok,run_neq_struct,show(10000:Nat)=9999+1 from rfl,run_equalIn_agg w 9999 179 _ _ hS hp]
 simp only[Program.fieldsOf,Tryz.underlying179]
 go_simp
theorem H7 (a:bH)(y z:Operand)(w:World):((do eqGuard .neq 95 y z (.agg #[.string a.name,.string a.locl,.int .i64 a.cls]) (.agg #[.string a.name,.string a.locl,.int .i64 a.cls]);binOp .neq 95 (.agg #[.string a.name,.string a.locl,.int .i64 a.cls]) (.agg #[.string a.name,.string a.locl,.int .i64 a.cls]):Sem Value)).run Tryz.prog w=.ok (.bool false) w:=by
 have hS:Tryz.prog.underlying 95=some (.struct (Tryz.prog.fieldsOf 95)):=by kernel_rfl
 have hp:Tryz.prog.stoodInHeld 95=false:=by kernel_rfl
 have u3:=Tryz.underlying3
 have a3:=Tryz.isAgg3
 have z3:=Tryz.sizeOf3
 have u9:=Tryz.underlying9
 have a9:=Tryz.isAgg9
 have z9:=Tryz.sizeOf9
 rw[Sem.run_bind,run_eqGuard_agg w .neq 95 y z _ _ (by kernel_rfl),Result.andThen_ok,run_neq_struct,show(10000:Nat)=9999+1 from rfl,run_equalIn_agg w 9999 95 _ _ hS hp]
 simp only[Program.fieldsOf,Tryz.underlying95]
 go_simp
theorem Fj (a:lC)(y z:Operand)(w:World):((do eqGuard .neq 162 y z (.agg #[.string a.name,.int .i64 a.ticket]) (.agg #[.string a.name,.int .i64 a.ticket]);binOp .neq 162 (.agg #[.string a.name,.int .i64 a.ticket]) (.agg #[.string a.name,.int .i64 a.ticket]):Sem Value)).run Tryz.prog w=.ok (.bool false) w:=by
 have hS:Tryz.prog.underlying 162=some (.struct (Tryz.prog.fieldsOf 162)):=by kernel_rfl
 have hp:Tryz.prog.stoodInHeld 162=false:=by kernel_rfl
 have u3:=Tryz.underlying3
 have a3:=Tryz.isAgg3
 have z3:=Tryz.sizeOf3
 have u9:=Tryz.underlying9
 have a9:=Tryz.isAgg9
 have z9:=Tryz.sizeOf9
 rw[Sem.run_bind,run_eqGuard_agg w .neq 162 y z _ _ (by kernel_rfl),Result.andThen_ok,run_neq_struct,show(10000:Nat)=9999+1 from rfl,run_equalIn_agg w 9999 162 _ _ hS hp]
 simp only[Program.fieldsOf,Tryz.underlying162]
 go_simp
theorem Ft (a:gT)(y z:Operand)(w:World):((do eqGuard .neq 73 y z (.agg #[.int .i64 a.kind,.int .i64 a.ticket,.int .i64 a.df]) (.agg #[.int .i64 a.kind,.int .i64 a.ticket,.int .i64 a.df]);binOp .neq 73 (.agg #[.int .i64 a.kind,.int .i64 a.ticket,.int .i64 a.df]) (.agg #[.int .i64 a.kind,.int .i64 a.ticket,.int .i64 a.df]):Sem Value)).run Tryz.prog w=.ok (.bool false) w:=by
 have hS:Tryz.prog.underlying 73=some (.struct (Tryz.prog.fieldsOf 73)):=by kernel_rfl
 have hp:Tryz.prog.stoodInHeld 73=false:=by kernel_rfl
 have u3:=Tryz.underlying3
 have a3:=Tryz.isAgg3
 have z3:=Tryz.sizeOf3
 rw[Sem.run_bind,run_eqGuard_agg w .neq 73 y z _ _ (by kernel_rfl),Result.andThen_ok,run_neq_struct,show(10000:Nat)=9999+1 from rfl,run_equalIn_agg w 9999 73 _ _ hS hp]
 simp only[Program.fieldsOf,Tryz.underlying73]
 go_simp
theorem CB (a:iX)(y z:Operand)(w:World):((do eqGuard .neq 92 y z (.agg #[.int .i64 a.df,.int .i64 a.node]) (.agg #[.int .i64 a.df,.int .i64 a.node]);binOp .neq 92 (.agg #[.int .i64 a.df,.int .i64 a.node]) (.agg #[.int .i64 a.df,.int .i64 a.node]):Sem Value)).run Tryz.prog w=.ok (.bool false) w:=by
 have hS:Tryz.prog.underlying 92=some (.struct (Tryz.prog.fieldsOf 92)):=by kernel_rfl
 have hp:Tryz.prog.stoodInHeld 92=false:=by kernel_rfl
 have u3:=Tryz.underlying3
 have a3:=Tryz.isAgg3
 have z3:=Tryz.sizeOf3
 rw[Sem.run_bind,run_eqGuard_agg w .neq 92 y z _ _ (by kernel_rfl),Result.andThen_ok,run_neq_struct,show(10000:Nat)=9999+1 from rfl,run_equalIn_agg w 9999 92 _ _ hS hp]
 simp only[Program.fieldsOf,Tryz.underlying92]
 go_simp
theorem FO (a:bw)(y z:Operand)(w:World):((do eqGuard .neq 59 y z (.agg #[.int .i64 a.kind,.int .i64 a.df,.string a.name,.bool a.had,.bool a.has,.string a.old,.string a.new,.int .i64 a.src,.int .i64 a.dst,.bool a.on]) (.agg #[.int .i64 a.kind,.int .i64 a.df,.string a.name,.bool a.had,.bool a.has,.string a.old,.string a.new,.int .i64 a.src,.int .i64 a.dst,.bool a.on]);binOp .neq 59 (.agg #[.int .i64 a.kind,.int .i64 a.df,.string a.name,.bool a.had,.bool a.has,.string a.old,.string a.new,.int .i64 a.src,.int .i64 a.dst,.bool a.on]) (.agg #[.int .i64 a.kind,.int .i64 a.df,.string a.name,.bool a.had,.bool a.has,.string a.old,.string a.new,.int .i64 a.src,.int .i64 a.dst,.bool a.on]):Sem Value)).run Tryz.prog w=.ok (.bool false) w:=by
 have hS:Tryz.prog.underlying 59=some (.struct (Tryz.prog.fieldsOf 59)):=by kernel_rfl
 have hp:Tryz.prog.stoodInHeld 59=false:=by kernel_rfl
 have u3:=Tryz.underlying3
 have a3:=Tryz.isAgg3
 have z3:=Tryz.sizeOf3
 have u4:=Tryz.underlying4
 have a4:=Tryz.isAgg4
 have z4:=Tryz.sizeOf4
 have u9:=Tryz.underlying9
 have a9:=Tryz.isAgg9
 have z9:=Tryz.sizeOf9
 rw[Sem.run_bind,run_eqGuard_agg w .neq 59 y z _ _ (by kernel_rfl),Result.andThen_ok,run_neq_struct,show(10000:Nat)=9999+1 from rfl,run_equalIn_agg w 9999 59 _ _ hS hp]
 simp only[Program.fieldsOf,Tryz.underlying59]
 go_simp
theorem Co (l:List AttrM)(hl:l.length≤100000):af Tryz.prog 126 [] [dY l,dY l] [] (aA true):=by
 have hlm:(l.map fu).length=l.length:=aM ..
 refine af.ah (rvs:=[.tmp 4]) G aa Tryz.func126 rfl Tryz.ntmps126 rfl rfl ?_;with_reducible refine wD ?_
 (have fct:=hlm;(repeat' (first
  |refine gF ?_|refine aE ?_ ?_
  |apply trivial));all_goals clear fct)
 refine aR.use G aa (fun(k:Nat)=>[(0,dY l),(1,dY l),(5,aj k)]) (fun _=>[]) (fun k=>k≤l.length) (fun k=>l.length-k) 0 (Nat.zero_le _)
  ⟨⟨rfl,rfl⟩,⟨rfl,rfl,rfl,trivial⟩,trivial⟩ ?_
 intro k hk
 with_reducible refine wK ?_
 refine aQ.mk (fun h1=>?_) (fun h1=>?_)<;>(try simp only[aq] at h1)<;>with_reducible refine wK ?_
 ·have hk':k<l.length:=by simp only[aL] at h1;omega
  obtain⟨x,hx⟩:∃x,l[k]? =some x:=⟨_,aP hk'⟩
  obtain⟨x1,x2⟩:=x
  repeat' (first
  |refine gK ?_|refine aE ?_ ?_
  | ((first
   |((with_reducible show ak _ _ _ _ _);refine ak.mk k (mF ⟨x1,x2⟩) rfl (kX hx) ?_)
   |((with_reducible show yU _ _ _ _ _ _ _ _);refine yU.mk _ (fun y z w=>Gr ⟨x1,x2⟩ y z w) ?_)
   |((with_reducible show bL _ _ _ _);refine dK ?_)
   |((with_reducible show ay _ _);refine ay.mk (k+1) (by omega) (by omega) ⟨⟨rfl,rfl⟩,⟨rfl,rfl,by show((k+1:Nat):Int)=(k:Int)+1;omega,trivial⟩,trivial⟩))<;>with_reducible refine wK ?_)
  |apply trivial)
 ·repeat' (first
  |refine gK ?_|refine aE ?_ ?_
  |apply trivial)
theorem DJ (l:List bw)(hl:l.length≤100000):af Tryz.prog 43 [] [cJ l,cJ l] [] (aA true):=by
 have hlm:(l.map ef).length=l.length:=aM ..
 refine af.ah (rvs:=[.tmp 4]) G aa Tryz.func43 rfl Tryz.ntmps43 rfl rfl ?_;with_reducible refine wD ?_
 (have fct:=hlm;(repeat' (first
  |refine gF ?_|refine aE ?_ ?_
  |apply trivial));all_goals clear fct)
 refine aR.use G aa (fun(k:Nat)=>[(0,cJ l),(1,cJ l),(5,aj k)]) (fun _=>[]) (fun k=>k≤l.length) (fun k=>l.length-k) 0 (Nat.zero_le _)
  ⟨⟨rfl,rfl⟩,⟨rfl,rfl,rfl,trivial⟩,trivial⟩ ?_
 intro k hk
 with_reducible refine wK ?_
 refine aQ.mk (fun h1=>?_) (fun h1=>?_)<;>(try simp only[aq] at h1)<;>with_reducible refine wK ?_
 ·have hk':k<l.length:=by simp only[aL] at h1;omega
  obtain⟨x,hx⟩:∃x,l[k]? =some x:=⟨_,aP hk'⟩
  obtain⟨x0,x1,x2,x3,x4,x5,x6,x7,x8,x9⟩:=x
  repeat' (first
  |refine gK ?_|refine aE ?_ ?_
  | ((first
   |((with_reducible show ak _ _ _ _ _);refine ak.mk k (fR ⟨x0,x1,x2,x3,x4,x5,x6,x7,x8,x9⟩) rfl (sN hx) ?_)
   |((with_reducible show yU _ _ _ _ _ _ _ _);refine yU.mk _ (fun y z w=>FO ⟨x0,x1,x2,x3,x4,x5,x6,x7,x8,x9⟩ y z w) ?_)
   |((with_reducible show bL _ _ _ _);refine dK ?_)
   |((with_reducible show ay _ _);refine ay.mk (k+1) (by omega) (by omega) ⟨⟨rfl,rfl⟩,⟨rfl,rfl,by show((k+1:Nat):Int)=(k:Int)+1;omega,trivial⟩,trivial⟩))<;>with_reducible refine wK ?_)
  |apply trivial)
 ·repeat' (first
  |refine gK ?_|refine aE ?_ ?_
  |apply trivial)
theorem Aw (l:List aI)(hl:l.length≤100000)(hc:kH l):af Tryz.prog 39 [] [bF l,bF l] [] (aA true):=by
 have hlm:(l.map cZ).length=l.length:=aM ..
 refine af.ah (rvs:=[.tmp 4]) G aa Tryz.func39 rfl Tryz.ntmps39 rfl rfl ?_;with_reducible refine wD ?_
 (have fct:=hlm;(repeat' (first
  |refine gF ?_|refine aE ?_ ?_
  |apply trivial));all_goals clear fct)
 refine aR.use G aa (fun(k:Nat)=>[(0,bF l),(1,bF l),(5,aj k)]) (fun _=>[]) (fun k=>k≤l.length) (fun k=>l.length-k) 0 (Nat.zero_le _)
  ⟨⟨rfl,rfl⟩,⟨rfl,rfl,rfl,trivial⟩,trivial⟩ ?_
 intro k hk
 with_reducible refine wK ?_
 refine aQ.mk (fun h1=>?_) (fun h1=>?_)<;>(try simp only[aq] at h1)<;>with_reducible refine wK ?_
 ·have hk':k<l.length:=by simp only[aL] at h1;omega
  obtain⟨x,hx⟩:∃x,l[k]? =some x:=⟨_,aP hk'⟩
  have hal:=Ml x x (hc x (bn hx))
  rw[aV rfl] at hal
  obtain⟨x1,x2,x3,x4,x5⟩:=x
  repeat' (first
  |refine gK ?_|refine aE ?_ ?_
  | ((first
   |((with_reducible show ak _ _ _ _ _);refine ak.mk k (bK ⟨x1,x2,x3,x4,x5⟩) rfl (cU hx) ?_)
   |((with_reducible refine kQ 108 ?_);refine cL hal Rg ?_)
   |((with_reducible show bL _ _ _ _);refine dK ?_)
   |((with_reducible show ay _ _);refine ay.mk (k+1) (by omega) (by omega) ⟨⟨rfl,rfl⟩,⟨rfl,rfl,by show((k+1:Nat):Int)=(k:Int)+1;omega,trivial⟩,trivial⟩))<;>with_reducible refine wK ?_)
  |apply trivial)
 ·repeat' (first
  |refine gK ?_|refine aE ?_ ?_
  |apply trivial)
theorem JG (x:az)(h1:x.attrs.length≤100000)(h2:x.kids.length≤100000):af Tryz.prog 59 [] [aO x,aO x] [] (aA true):=by
 have ha:=Co x.attrs h1
 have hk:=Dh x.kids x.kids h2
 rw[aV rfl] at hk
 obtain⟨x0,x1,x2,x3,x4,x5,x6,x7,x8,x9⟩:=x
 simp only at ha hk
 refine af.ah (rvs:=[.tmp 4]) G aa Tryz.func59 rfl Tryz.ntmps59 rfl rfl ?_;with_reducible refine wD ?_
 dsimp only[List.append];with_reducible refine wK ?_
 repeat' (first
  |refine gK ?_|refine aE ?_ ?_
  | ((first
   |((with_reducible refine kQ 126 ?_);refine cL ha Sj ?_)
   |((with_reducible refine kQ 44 ?_);refine cL hk QW ?_))<;>with_reducible refine wK ?_)
  |apply trivial)
 all_goals first|rfl|(simp;done)
theorem Jm (f:ForM)(hs:bR f.nodes):af Tryz.prog 37 [] [bD f,bD f] [] (aA true):=by
 have hl1:=hs.len
 have hone:∀x∈f.nodes,af Tryz.prog 59 [] [aO x,aO x] [] (aA true):=fun x hx=>JG x (by have:=hs.attrs x hx;omega) (by have:=hs.kids x hx;omega)
 obtain⟨l,m⟩:=f
 have hlm:(l.map bP).length=l.length:=aM ..
 simp only at hone hl1
 refine af.ah (rvs:=[.tmp 4]) G aa Tryz.func37 rfl Tryz.ntmps37 rfl rfl ?_;with_reducible refine wD ?_
 (have fct:=hlm;(repeat' (first
  |refine gF ?_|refine aE ?_ ?_
  |apply trivial));all_goals clear fct)
 refine aR.use G aa (fun(k:Nat)=>[(2,.ptr 20 0 0),(3,.ptr 30 0 0),(5,aj k)]) (fun _=>[(20,.live 2 [bD ⟨l,m⟩] false),(30,.live 2 [bD ⟨l,m⟩] false)]) (fun k=>k≤l.length) (fun k=>l.length-k) 0 (Nat.zero_le _)
  ⟨⟨rfl,rfl⟩,⟨⟨rfl,rfl⟩,⟨rfl,rfl⟩,rfl,trivial⟩,⟨⟨rfl,rfl,trivial⟩,trivial⟩,⟨⟨rfl,rfl,trivial⟩,trivial⟩,trivial⟩ ?_
 intro k0 hk0
 with_reducible refine wK ?_
 refine aQ.mk (fun h0=>?_) (fun h0=>?_)<;>(try simp only[aq] at h0)<;>with_reducible refine wK ?_
 ·have hk':k0<l.length:=by simp only[aL] at h0;omega
  obtain⟨x,hx⟩:∃x,l[k0]? =some x:=⟨_,aP hk'⟩
  have hx1:=hone x (bn hx)
  obtain⟨y0,y1,y2,y3,y4,y5,y6,y7,y8,y9⟩:=x
  repeat' (first
  |refine gK ?_|refine aE ?_ ?_
  | ((first
   |((with_reducible show ak _ _ _ _ _);refine ak.mk k0 (aO ⟨y0,y1,y2,y3,y4,y5,y6,y7,y8,y9⟩) rfl (au hx) ?_)
   |((with_reducible refine kQ 59 ?_);refine cL hx1 S9 ?_)
   |((with_reducible show bL _ _ _ _);refine dK ?_)
   |((with_reducible show ay _ _);refine ay.mk (k0+1) (by omega) (by omega) ⟨⟨rfl,rfl⟩,⟨⟨rfl,rfl⟩,⟨rfl,rfl⟩,by show((k0+1:Nat):Int)=(k0:Int)+1;omega,trivial⟩,⟨⟨rfl,rfl,trivial⟩,trivial⟩,⟨⟨rfl,rfl,trivial⟩,trivial⟩,trivial⟩))<;>with_reducible refine wK ?_)
  |apply trivial)
 ·repeat' (first
  |refine gK ?_|refine aE ?_ ?_
  |apply trivial)
theorem Ff (d:bj)(hd:fH d):af Tryz.prog 38 [] [cP d,cP d] [] (aA true):=by
 have hl1:=hd.defs
 have hl2:=hd.waits
 obtain⟨l,ws,nx,bz⟩:=d
 simp only at hl1 hl2
 have hlm:(l.map j5).length=l.length:=aM ..
 have hwm:(ws.map uq).length=ws.length:=aM ..
 refine af.ah (rvs:=[.tmp 4]) G aa Tryz.func38 rfl Tryz.ntmps38 rfl rfl ?_;with_reducible refine wD ?_
 (have fct:=And.intro hlm (hwm);(repeat' (first
  |refine gF ?_|refine aE ?_ ?_
  |apply trivial));all_goals clear fct)
 refine aR.use G aa (fun(k:Nat)=>[(2,.ptr 20 0 0),(3,.ptr 30 0 0),(5,aj k)]) (fun _=>[(20,.live 4 [cP ⟨l,ws,nx,bz⟩] false),(30,.live 4 [cP ⟨l,ws,nx,bz⟩] false)]) (fun k=>k≤l.length) (fun k=>l.length-k) 0 (Nat.zero_le _)
  ⟨⟨rfl,rfl⟩,⟨⟨rfl,rfl⟩,⟨rfl,rfl⟩,rfl,trivial⟩,⟨⟨rfl,rfl,rfl,rfl,trivial⟩,trivial⟩,⟨⟨rfl,rfl,rfl,rfl,trivial⟩,trivial⟩,trivial⟩ ?_
 intro k0 hk0
 with_reducible refine wK ?_
 refine aQ.mk (fun h0=>?_) (fun h0=>?_)<;>(try simp only[aq] at h0)<;>with_reducible refine wK ?_
 ·have hk':k0<l.length:=by simp only[aL] at h0;omega
  obtain⟨x,hx⟩:∃x,l[k0]? =some x:=⟨_,aP hk'⟩
  obtain⟨y1,y2,y3⟩:=x
  repeat' (first
  |refine gK ?_|refine aE ?_ ?_
  | ((first
   |((with_reducible show ak _ _ _ _ _);refine ak.mk k0 (iA ⟨y1,y2,y3⟩) rfl (cK hx) ?_)
   |((with_reducible show yU _ _ _ _ _ _ _ _);refine yU.mk _ (fun y z w=>H7 ⟨y1,y2,y3⟩ y z w) ?_)
   |((with_reducible show bL _ _ _ _);refine dK ?_)
   |((with_reducible show ay _ _);refine ay.mk (k0+1) (by omega) (by omega) ⟨⟨rfl,rfl⟩,⟨⟨rfl,rfl⟩,⟨rfl,rfl⟩,by show((k0+1:Nat):Int)=(k0:Int)+1;omega,trivial⟩,⟨⟨rfl,rfl,rfl,rfl,trivial⟩,trivial⟩,⟨⟨rfl,rfl,rfl,rfl,trivial⟩,trivial⟩,trivial⟩))<;>with_reducible refine wK ?_)
  |apply trivial)
 ·repeat' (first
  |refine gK ?_|refine aE ?_ ?_
  |apply trivial)
  refine aR.use G aa (fun(k:Nat)=>[(2,.ptr 20 0 0),(3,.ptr 30 0 0),(6,aj k)]) (fun _=>[(20,.live 4 [cP ⟨l,ws,nx,bz⟩] false),(30,.live 4 [cP ⟨l,ws,nx,bz⟩] false)]) (fun k=>k≤ws.length) (fun k=>ws.length-k) 0 (Nat.zero_le _)
   ⟨⟨rfl,rfl⟩,⟨⟨rfl,rfl⟩,⟨rfl,rfl⟩,rfl,trivial⟩,⟨⟨rfl,rfl,rfl,rfl,trivial⟩,trivial⟩,⟨⟨rfl,rfl,rfl,rfl,trivial⟩,trivial⟩,trivial⟩ ?_
  intro k1 hk1
  with_reducible refine wK ?_
  refine aQ.mk (fun h1=>?_) (fun h1=>?_)<;>(try simp only[aq] at h1)<;>with_reducible refine wK ?_
  ·have hk':k1<ws.length:=by simp only[aL] at h1;omega
   obtain⟨x,hx⟩:∃x,ws[k1]? =some x:=⟨_,aP hk'⟩
   obtain⟨y1,y2⟩:=x
   repeat' (first
  |refine gK ?_|refine aE ?_ ?_
  | ((first
   |((with_reducible show ak _ _ _ _ _);refine ak.mk k1 (yI ⟨y1,y2⟩) rfl (rH hx) ?_)
   |((with_reducible show yU _ _ _ _ _ _ _ _);refine yU.mk _ (fun y z w=>Fj ⟨y1,y2⟩ y z w) ?_)
   |((with_reducible show bL _ _ _ _);refine dK ?_)
   |((with_reducible show ay _ _);refine ay.mk (k1+1) (by omega) (by omega) ⟨⟨rfl,rfl⟩,⟨⟨rfl,rfl⟩,⟨rfl,rfl⟩,by show((k1+1:Nat):Int)=(k1:Int)+1;omega,trivial⟩,⟨⟨rfl,rfl,rfl,rfl,trivial⟩,trivial⟩,⟨⟨rfl,rfl,rfl,rfl,trivial⟩,trivial⟩,trivial⟩))<;>with_reducible refine wK ?_)
  |apply trivial)
  ·repeat' (first
  |refine gK ?_|refine aE ?_ ?_
  |apply trivial)
theorem Gu (l:cq)(hs:rF 99000 l):af Tryz.prog 78 [] [eT l,eT l] [] (aA true):=by
 have htd:∀x∈l.todos,af Tryz.prog 43 [] [cJ x,cJ x] [] (aA true):=fun x hx=>DJ x (by have:=hs.todo x hx;omega)
 have hin:∀x∈l.stack,af Tryz.prog 44 [] [bQ x,bQ x] [] (aA true):=fun x hx=>by
  have:=Dh x x (by have:=hs.list x hx;omega)
  rwa [aV rfl] at this
 have hbk:af Tryz.prog 44 [] [bQ l.back,bQ l.back] [] (aA true):=by
  have:=Dh l.back l.back (by have:=hs.back;omega)
  rwa [aV rfl] at this
 have hl1:=hs.todos
 have hl2:=hs.stack
 obtain⟨a,b,c,d⟩:=l
 simp only at htd hin hbk hl1 hl2
 have ham:(a.map bO).length=a.length:=aM ..
 have hbm:(b.map dJ).length=b.length:=aM ..
 refine af.ah (rvs:=[.tmp 4]) G aa Tryz.func78 rfl Tryz.ntmps78 rfl rfl ?_;with_reducible refine wD ?_
 (have fct:=And.intro ham (hbm);(repeat' (first
  |refine gF ?_|refine aE ?_ ?_
  |(((with_reducible refine kQ 44 ?_);refine cL hbk QW ?_)<;>with_reducible refine wK ?_)
  |apply trivial));all_goals clear fct)
 refine aR.use G aa (fun(k:Nat)=>[(2,.ptr 20 0 0),(3,.ptr 30 0 0),(5,aj k)]) (fun _=>[(20,.live 4 [eT ⟨a,b,c,d⟩] false),(30,.live 4 [eT ⟨a,b,c,d⟩] false)]) (fun k=>k≤a.length) (fun k=>a.length-k) 0 (Nat.zero_le _)
  ⟨⟨rfl,rfl⟩,⟨⟨rfl,rfl⟩,⟨rfl,rfl⟩,rfl,trivial⟩,⟨⟨rfl,rfl,rfl,rfl,trivial⟩,trivial⟩,⟨⟨rfl,rfl,rfl,rfl,trivial⟩,trivial⟩,trivial⟩ ?_
 intro k0 hk0
 with_reducible refine wK ?_
 refine aQ.mk (fun h0=>?_) (fun h0=>?_)<;>(try simp only[aq] at h0)<;>with_reducible refine wK ?_
 ·have hk':k0<a.length:=by simp only[aL] at h0;omega
  obtain⟨x,hx⟩:∃x,a[k0]? =some x:=⟨_,aP hk'⟩
  have hx1:=htd x (bn hx)
  skip
  repeat' (first
  |refine gK ?_|refine aE ?_ ?_
  | ((first
   |((with_reducible show ak _ _ _ _ _);refine ak.mk k0 (cJ x) rfl (cM hx) ?_)
   |((with_reducible refine kQ 43 ?_);refine cL hx1 Tz ?_)
   |((with_reducible show bL _ _ _ _);refine dK ?_)
   |((with_reducible show ay _ _);refine ay.mk (k0+1) (by omega) (by omega) ⟨⟨rfl,rfl⟩,⟨⟨rfl,rfl⟩,⟨rfl,rfl⟩,by show((k0+1:Nat):Int)=(k0:Int)+1;omega,trivial⟩,⟨⟨rfl,rfl,rfl,rfl,trivial⟩,trivial⟩,⟨⟨rfl,rfl,rfl,rfl,trivial⟩,trivial⟩,trivial⟩))<;>with_reducible refine wK ?_)
  |apply trivial)
 ·repeat' (first
  |refine gK ?_|refine aE ?_ ?_
  |apply trivial)
  refine aR.use G aa (fun(k:Nat)=>[(2,.ptr 20 0 0),(3,.ptr 30 0 0),(6,aj k)]) (fun _=>[(20,.live 4 [eT ⟨a,b,c,d⟩] false),(30,.live 4 [eT ⟨a,b,c,d⟩] false)]) (fun k=>k≤b.length) (fun k=>b.length-k) 0 (Nat.zero_le _)
   ⟨⟨rfl,rfl⟩,⟨⟨rfl,rfl⟩,⟨rfl,rfl⟩,rfl,trivial⟩,⟨⟨rfl,rfl,rfl,rfl,trivial⟩,trivial⟩,⟨⟨rfl,rfl,rfl,rfl,trivial⟩,trivial⟩,trivial⟩ ?_
  intro k1 hk1
  with_reducible refine wK ?_
  refine aQ.mk (fun h1=>?_) (fun h1=>?_)<;>(try simp only[aq] at h1)<;>with_reducible refine wK ?_
  ·have hk':k1<b.length:=by simp only[aL] at h1;omega
   obtain⟨x,hx⟩:∃x,b[k1]? =some x:=⟨_,aP hk'⟩
   have hx1:=hin x (bn hx)
   skip
   repeat' (first
  |refine gK ?_|refine aE ?_ ?_
  | ((first
   |((with_reducible show ak _ _ _ _ _);refine ak.mk k1 (bQ x) rfl (gM hx) ?_)
   |((with_reducible refine kQ 44 ?_);refine cL hx1 QW ?_)
   |((with_reducible show bL _ _ _ _);refine dK ?_)
   |((with_reducible show ay _ _);refine ay.mk (k1+1) (by omega) (by omega) ⟨⟨rfl,rfl⟩,⟨⟨rfl,rfl⟩,⟨rfl,rfl⟩,by show((k1+1:Nat):Int)=(k1:Int)+1;omega,trivial⟩,⟨⟨rfl,rfl,rfl,rfl,trivial⟩,trivial⟩,⟨⟨rfl,rfl,rfl,rfl,trivial⟩,trivial⟩,trivial⟩))<;>with_reducible refine wK ?_)
  |apply trivial)
  ·repeat' (first
  |refine gK ?_|refine aE ?_ ?_
  |apply trivial)
structure cW (w:aH):Prop where
 f:bR w.f.nodes
 st:w.states.length≤1000
 d:fH w.desk
 l:rF 90000 w.line
 ta:w.tasks.length≤90000
 bu:w.builds.length≤90000
 cl:w.classes.length≤1000
 cs:kH w.classes
 nm:∀c∈w.classes,∀s∈c.watch,s.size≤300
theorem jr (w:aH)(hs:cW w):af Tryz.prog 23 [] [bk w,bk w] [] (aA true):=by
 have h37:=Jm w.f hs.f
 have h42:=OH w.states w.states (by have:=hs.st;omega)
 rw[aV rfl] at h42
 have h38:=Ff w.desk hs.d
 have h78:=Gu w.line (hs.l.mono (by omega))
 have h39:=Aw w.classes (by have:=hs.cl;omega) hs.cs
 have hl1:=hs.ta
 have hl2:=hs.bu
 obtain⟨⟨l,m⟩,st,⟨d1,d2,d3,d4⟩,⟨a,b,c,d⟩,ta,bu,cs⟩:=w
 simp only at h37 h42 h38 h78 h39 hl1 hl2
 have ham:(ta.map dO).length=ta.length:=aM ..
 have hbm:(bu.map iz).length=bu.length:=aM ..
 refine af.ah (rvs:=[.tmp 4]) G aa Tryz.func23 rfl Tryz.ntmps23 rfl rfl ?_;with_reducible refine wD ?_
 (have fct:=And.intro ham (hbm);(repeat' (first
  |refine gF ?_|refine aE ?_ ?_
  |apply trivial));all_goals clear fct)
 refine aR.use G aa (fun(k:Nat)=>[(2,.ptr 20 0 0),(3,.ptr 30 0 0),(5,aj k)]) (fun _=>[(20,.live 14 [bk ⟨⟨l,m⟩,st,⟨d1,d2,d3,d4⟩,⟨a,b,c,d⟩,ta,bu,cs⟩] false),(30,.live 14 [bk ⟨⟨l,m⟩,st,⟨d1,d2,d3,d4⟩,⟨a,b,c,d⟩,ta,bu,cs⟩] false)]) (fun k=>k≤ta.length) (fun k=>ta.length-k) 0 (Nat.zero_le _)
  ⟨⟨rfl,rfl⟩,⟨⟨rfl,rfl⟩,⟨rfl,rfl⟩,rfl,trivial⟩,⟨⟨rfl,rfl,rfl,rfl,rfl,rfl,rfl,rfl,rfl,rfl,rfl,rfl,rfl,rfl,trivial⟩,trivial⟩,⟨⟨rfl,rfl,rfl,rfl,rfl,rfl,rfl,rfl,rfl,rfl,rfl,rfl,rfl,rfl,trivial⟩,trivial⟩,trivial⟩ ?_
 intro k0 hk0
 with_reducible refine wK ?_
 refine aQ.mk (fun h0=>?_) (fun h0=>?_)<;>(try simp only[aq] at h0)<;>with_reducible refine wK ?_
 ·have hk':k0<ta.length:=by simp only[aL] at h0;omega
  obtain⟨x,hx⟩:∃x,ta[k0]? =some x:=⟨_,aP hk'⟩
  obtain⟨y1,y2,y3⟩:=x
  repeat' (first
  |refine gK ?_|refine aE ?_ ?_
  | ((first
   |((with_reducible show ak _ _ _ _ _);refine ak.mk k0 (j0 ⟨y1,y2,y3⟩) rfl (mJ hx) ?_)
   |((with_reducible show yU _ _ _ _ _ _ _ _);refine yU.mk _ (fun y z w=>Ft ⟨y1,y2,y3⟩ y z w) ?_)
   |((with_reducible show bL _ _ _ _);refine dK ?_)
   |((with_reducible show ay _ _);refine ay.mk (k0+1) (by omega) (by omega) ⟨⟨rfl,rfl⟩,⟨⟨rfl,rfl⟩,⟨rfl,rfl⟩,by show((k0+1:Nat):Int)=(k0:Int)+1;omega,trivial⟩,⟨⟨rfl,rfl,rfl,rfl,rfl,rfl,rfl,rfl,rfl,rfl,rfl,rfl,rfl,rfl,trivial⟩,trivial⟩,⟨⟨rfl,rfl,rfl,rfl,rfl,rfl,rfl,rfl,rfl,rfl,rfl,rfl,rfl,rfl,trivial⟩,trivial⟩,trivial⟩))<;>with_reducible refine wK ?_)
  |apply trivial)
 ·repeat' (first
  |refine gK ?_|refine aE ?_ ?_
  |apply trivial)
  refine aR.use G aa (fun(k:Nat)=>[(2,.ptr 20 0 0),(3,.ptr 30 0 0),(6,aj k)]) (fun _=>[(20,.live 14 [bk ⟨⟨l,m⟩,st,⟨d1,d2,d3,d4⟩,⟨a,b,c,d⟩,ta,bu,cs⟩] false),(30,.live 14 [bk ⟨⟨l,m⟩,st,⟨d1,d2,d3,d4⟩,⟨a,b,c,d⟩,ta,bu,cs⟩] false)]) (fun k=>k≤bu.length) (fun k=>bu.length-k) 0 (Nat.zero_le _)
   ⟨⟨rfl,rfl⟩,⟨⟨rfl,rfl⟩,⟨rfl,rfl⟩,rfl,trivial⟩,⟨⟨rfl,rfl,rfl,rfl,rfl,rfl,rfl,rfl,rfl,rfl,rfl,rfl,rfl,rfl,trivial⟩,trivial⟩,⟨⟨rfl,rfl,rfl,rfl,rfl,rfl,rfl,rfl,rfl,rfl,rfl,rfl,rfl,rfl,trivial⟩,trivial⟩,trivial⟩ ?_
  intro k1 hk1
  with_reducible refine wK ?_
  refine aQ.mk (fun h1=>?_) (fun h1=>?_)<;>(try simp only[aq] at h1)<;>with_reducible refine wK ?_
  ·have hk':k1<bu.length:=by simp only[aL] at h1;omega
   obtain⟨x,hx⟩:∃x,bu[k1]? =some x:=⟨_,aP hk'⟩
   obtain⟨y1,y2⟩:=x
   repeat' (first
  |refine gK ?_|refine aE ?_ ?_
  | ((first
   |((with_reducible show ak _ _ _ _ _);refine ak.mk k1 (iV ⟨y1,y2⟩) rfl (iG hx) ?_)
   |((with_reducible show yU _ _ _ _ _ _ _ _);refine yU.mk _ (fun y z w=>CB ⟨y1,y2⟩ y z w) ?_)
   |((with_reducible show bL _ _ _ _);refine dK ?_)
   |((with_reducible show ay _ _);refine ay.mk (k1+1) (by omega) (by omega) ⟨⟨rfl,rfl⟩,⟨⟨rfl,rfl⟩,⟨rfl,rfl⟩,by show((k1+1:Nat):Int)=(k1:Int)+1;omega,trivial⟩,⟨⟨rfl,rfl,rfl,rfl,rfl,rfl,rfl,rfl,rfl,rfl,rfl,rfl,rfl,rfl,trivial⟩,trivial⟩,⟨⟨rfl,rfl,rfl,rfl,rfl,rfl,rfl,rfl,rfl,rfl,rfl,rfl,rfl,rfl,trivial⟩,trivial⟩,trivial⟩))<;>with_reducible refine wK ?_)
  |apply trivial)
  ·repeat' (first
  |refine gK ?_|refine aE ?_ ?_
  | ((first
   |((with_reducible refine kQ 37 ?_);refine cL h37 Tn ?_)
   |((with_reducible refine kQ 42 ?_);refine cL h42 S7 ?_)
   |((with_reducible refine kQ 38 ?_);refine cL h38 Tu ?_)
   |((with_reducible refine kQ 78 ?_);refine cL h78 Tp ?_)
   |((with_reducible refine kQ 39 ?_);refine cL h39 Th ?_))<;>with_reducible refine wK ?_)
  | apply trivial)
   all_goals first|rfl|(simp;done)
theorem DQ {f:ForM}{s:StateM}{d:bj}{cs:List aI}{x:dP}(h:(ji f s d cs x).2=true):
  (s.phase=1∧x.kind=1∧mC f x.node d≠-1∧(ji f s d cs x).1=⟨9,mC f x.node d,⟨#[]⟩,false,false,⟨#[]⟩,⟨#[]⟩,0,0,false⟩)∨
  (s.phase=3∧(ji f s d cs x).1=zu x∧iq s d cs=true∧cm (ct s d cs) x.kind=true∧(x.kind=4→gW (ct s d cs) x.name=true)∧1≤x.kind∧x.kind≤4):=by
 unfold ji at h ⊢
 by_cases h1:s.phase=1
 ·rw[if_pos h1] at h ⊢
  simp only[aT,aL,Bool.not_eq_true',bh] at h
  exact .inl ⟨h1,h.1,h.2,rfl⟩
 rw[if_neg h1] at h ⊢
 by_cases h3:s.phase=3
 ·rw [if_pos h3] at h ⊢
  by_cases k4:x.kind=4
  ·rw[if_pos k4] at h ⊢
   simp only[aT] at h
   exact .inr ⟨h3,rfl,h.1.1,h.2,fun _=>h.1.2,by omega,by omega⟩
  ·rw[if_neg k4] at h ⊢
   by_cases k:x.kind=1∨x.kind=2∨x.kind=3
   ·rw[if_pos k] at h ⊢
    simp only[aT] at h
    exact .inr ⟨h3,rfl,h.1,h.2,fun e=>absurd e k4,by omega,by omega⟩
   ·rw[if_neg k] at h;cases h
 ·rw[if_neg h3] at h;cases h
theorem GA {f:ForM}{st:List StateM}{d:bj}{cs:List aI}(hl:st.length=f.nodes.length)(x:dP):oO f st d cs x=[]∨∃ (i:Nat) (s:StateM) (y:az),x.node=i∧st[i]? =some s∧f.nodes[i]? =some y∧y.kind=1∧oO f st d cs x=[⟨x.node,(ji f s d cs x).1⟩]∧(ji f s d cs x).2=true:=by
 unfold oO
 by_cases he:elemV f.nodes x.node=true
 ·rw[if_pos he]
  obtain⟨i,s,hi,hs,hso⟩:=zU he hl
  rw[hso]
  by_cases ha:(ji f s d cs x).2=true
  ·rw[if_pos ha]
   have hil:=(aZ hs).1
   have hy:f.nodes[i]? =some f.nodes[i]:=aP (by omega)
   refine .inr ⟨i,s,_,hi,hs,hy,?_,rfl,ha⟩
   unfold elemV at he
   rw[hi,dw hy] at he
   simp only[aT,aL] at he
   exact he.2
  ·rw[if_neg ha];exact .inl rfl
 ·rw[if_neg he];exact .inl rfl
end Go.Proofs.Heir
namespace Go.Proofs.Heir
open Go Go.Am Go.RowKit Go.Lib
set_option maxRecDepth 100000
set_option maxHeartbeats 8000000
set_option maxHeartbeats 8000000
theorem HS {f:ForM}{st:List StateM}{d:bj}{cs:List aI}(h:iO f st d=true){n:Nat}(hn:n<st.length):(dg f st d cs)[n]? =some (qj f d cs (n:Int) (sX st n)):=by
 unfold dg
 rw[if_pos h,pU hn,if_pos hn]
theorem rT {f:ForM}{st:List StateM}{d:bj}{cs:List aI}:(dg f st d cs).length=st.length:=by
 unfold dg
 split
 ·exact mS ..
 ·rfl
theorem jd (w:aH)(d:ck)(r:List ck):cj w (d::r)=cj (Bj w d) r:=rfl
theorem Kf (w:aH)(a b:List ck):cj w (a++b)=cj (cj w a) b:=List.foldl_append
theorem sv {w:aH}{due:List ck}{k:Nat}{x:ck}(h:due[k]? =some x):cj w (due.take (k+1))=Bj (cj w (due.take k)) x:=by rw[gC h,Kf];rfl
theorem yT (due:List ck):∀w,(cj w due).f=w.f:=by induction due with
 |nil=>intro w;rfl
 |cons d r ih=>intro w;rw[jd,ih];rfl
theorem kR (due:List ck):∀w,(cj w due).states=w.states:=by induction due with
 |nil=>intro w;rfl
 |cons d r ih=>intro w;rw[jd,ih];rfl
theorem oD (due:List ck):∀w,(cj w due).desk=w.desk:=by induction due with
 |nil=>intro w;rfl
 |cons d r ih=>intro w;rw[jd,ih];rfl
theorem nv (due:List ck):∀w,(cj w due).builds=w.builds:=by induction due with
 |nil=>intro w;rfl
 |cons d r ih=>intro w;rw[jd,ih];rfl
theorem gH (due:List ck):∀w,(cj w due).classes=w.classes:=by induction due with
 |nil=>intro w;rfl
 |cons d r ih=>intro w;rw[jd,ih];rfl
theorem Gx {l:cq}{n:Int}{t:bw}:(gu l n t).stack=[]↔l.stack=[]:=by rw[lJ,←r7,List.length_set,r7]
theorem wI (l:cq)(n:Int)(t:bw):fA (gu l n t)=false:=by
 unfold fA
 rw[CT]
 by_cases h:l.stack=[]
 ·rw[aV h];simp
 ·rw[aS (fun e=>h (Gx.1 e))];rfl
theorem tw (due:List ck):∀w,(cj w due).tasks=w.tasks++ (if due≠ []∧fA w.line=true then[jn] else[]):=by
 induction due with
 |nil=>intro w;rw[if_neg (fun h=>h.1 rfl),List.append_nil];rfl
 | cons d r ih=>
  intro w
  rw[jd,ih]
  rw[if_neg (fun h=>by have:=h.2;rw[show(Bj w d).line=gu w.line d.node d.todo from rfl,wI] at this;cases this),List.append_nil]
  show(if fA w.line=true then w.tasks++ [jn] else w.tasks)=_
  by_cases h:fA w.line=true
  ·rw[if_pos h,if_pos ⟨List.cons_ne_nil _ _,h⟩]
  ·rw[if_neg h,if_neg (fun e=>h e.2),List.append_nil]
theorem Hu (due:List ck):∀w,due≠ []→fA (cj w due).line=false:=by
 induction due with
 |nil=>intro w h;exact absurd rfl h
 | cons d r ih=>
  intro w _
  rw[jd]
  by_cases h:r=[]
  ·subst h;exact wI ..
  ·exact ih _ h
theorem wZ (due:List ck):∀ (w:aH) (B:Nat),rF B w.line→rF (B+due.length) (cj w due).line:=by
 induction due with
 |nil=>intro w B h;exact h
 | cons d r ih=>
  intro w B h
  rw[jd]
  have:=ih (Bj w d) (B+1) (Io h _ _)
  rw[List.length_cons]
  exact this.mono (by omega)
structure cN (w:aH):Prop where
 sl:w.states.length=w.f.nodes.length
 tl:w.line.todos.length=w.f.nodes.length
 cl:ia w=true
 rf:bf w.f=true
 rd:dU w.desk=true
 ln:sV w.line=true
 st:∀ (n:Nat) (x:az) (s:StateM),w.f.nodes[n]? =some x→w.states[n]? =some s→gy w x s=true
 td:∀l∈w.line.todos,∀t∈l,gU w t=true
 ta:∀t∈w.tasks,nR w t=true
 bu:∀b∈w.builds,jo w b=true
theorem vR {st:List StateM}{n:Nat}{s:StateM}(h:st[n]? =some s):CG st (n:Int)=s:=by unfold CG;rw[Int.toNat_natCast,h];rfl
theorem mY {α:Type}{p:α→Bool}{l:List α}:(!(l.any fun t=> !p t))=true↔ ∀t∈l,p t=true:=by
 rw[Bool.not_eq_true',List.any_eq_false]
 constructor
 ·intro h t ht
  have:=h t ht
  simpa using this
 ·intro h t ht
  rw[h t ht];simp
theorem ir {w:aH}:cF w=true↔cN w:=by
 unfold cF wg B8
 rw[aT,aT,aT,aT,aT,aT,aT,aT,mY,mY,aL,aL,List.all_eq_true]
 constructor
 ·rintro⟨⟨⟨⟨⟨⟨h1,h2⟩,h3⟩,h4⟩,h5⟩,h6⟩,h7,h8,h9⟩
  have key:∀n:Nat,n<w.f.nodes.length→wj w n=true∧∀t∈vK w.line n,gU w t=true:=fun n hn=>by
   have h:=h7 n (List.mem_range.2 (by omega))
   unfold ow at h
   rw[aT,mY] at h
   exact h
  refine⟨h1,h2,h3,h4,h5,h6,?_,?_,h8,h9⟩
  ·intro n x s hx hs
   have hn:=(aZ hx).1
   have h:=(key n hn).1
   unfold wj at h
   rwa [dw hx,vR hs] at h
  ·intro l hl t ht
   obtain⟨n,hn⟩:=List.getElem?_of_mem hl
   have hn':=(aZ hn).1
   refine(key n (by omega)).2 t ?_
   rw[wJ rfl hn];exact ht
 ·rintro⟨h1,h2,h3,h4,h5,h6,h7,h8,h9,h10⟩
  refine⟨⟨⟨⟨⟨⟨h1,h2⟩,h3⟩,h4⟩,h5⟩,h6⟩,?_,h9,h10⟩
  intro n hn
  rw[List.mem_range] at hn
  unfold ow
  rw[aT,mY]
  have hx:w.f.nodes[n]? =some w.f.nodes[n]:=aP (by omega)
  have hs:w.states[n]? =some w.states[n]:=aP (by omega)
  have ht:w.line.todos[n]? =some w.line.todos[n]:=aP (by omega)
  refine⟨?_,?_⟩
  ·unfold wj;rw[dw hx,vR hs];exact h7 n _ _ hx hs
  ·rw[wJ rfl ht];exact h8 _ (List.getElem_mem _)
theorem EB {w:aH}(R:cN w)(n:Int):ik w.line n=ai w.f.nodes n:=by unfold ik ai;rw[R.tl]
theorem F6 {l:cq}(h:l.stack≠ []):ur l∈l.stack:=by
 have hp:0<l.stack.length:=List.length_pos_iff.2 h
 unfold ur
 rw[aP (by omega)]
 exact List.getElem_mem _
theorem LS {l:cq}{n:Int}{t:bw}(h:sV l=true)(hn:ik l n=true):sV (gu l n t)=true:=by
 unfold sV at h ⊢
 rw[aT,List.all_eq_true,List.all_eq_true] at h ⊢
 have hi:∀m,ik (gu l n t) m=ik l m:=fun m=>by unfold ik;rw[jE,List.length_set]
 refine⟨fun s hs=>?_,fun m hm=>?_⟩
 ·rw[List.all_eq_true]
  intro m hm
  rw[hi]
  rw[lJ] at hs
  by_cases hz:l.stack=[]
  ·rw[hz] at hs;cases hs
  rcases r5 hs with e|e
  ·exact(List.all_eq_true.1 (h.1 s e)) m hm
  ·subst e
   rcases List.mem_append.1 hm with e|e
   ·exact(List.all_eq_true.1 (h.1 _ (F6 hz))) m e
   ·rw[iw.1 e];exact hn
 ·rw[hi]
  rw[wv] at hm
  split at hm
  ·rcases List.mem_append.1 hm with e|e
   ·exact h.2 m e
   ·rw[iw.1 e];exact hn
  ·exact h.2 m hm
theorem DG {w:aH}{d:ck}(R:cN w)(h:fW w d=true):cN (Bj w d):=by
 unfold fW at h
 rw[aT] at h
 have hi:ik w.line d.node=true:=by rw[EB R];exact h.1
 refine⟨R.sl,?_,R.cl,R.rf,R.rd,LS R.ln hi,R.st,?_,?_,R.bu⟩
 ·show(gu w.line d.node d.todo).todos.length=_
  rw[jE,List.length_set];exact R.tl
 ·intro l hl t ht
  have hl:l∈ (gu w.line d.node d.todo).todos:=hl
  rw[jE] at hl
  rcases r5 hl with e|e
  ·exact R.td l e t ht
  ·subst e
   rcases List.mem_append.1 ht with e|e
   ·obtain⟨k,b,hk,_,hb,e2⟩:=DW hi
    rw[e2] at e
    exact R.td b (bn hb) t e
   ·rw[iw.1 e];exact h.2
 ·intro t ht
  have ht:t∈ (if fA w.line=true then w.tasks++ [jn] else w.tasks):=ht
  split at ht
  ·rcases List.mem_append.1 ht with e|e
   ·exact R.ta t e
   ·rw[iw.1 e];rfl
  ·exact R.ta t ht
theorem GK (w:aH)(d e:ck):fW (Bj w d) e=fW w e:=rfl
theorem yN (due:List ck):∀w,cN w→(∀d∈due,fW w d=true)→cN (cj w due):=by
 induction due with
 |nil=>intro w R _;exact R
 | cons d r ih=>
  intro w R h
  rw[jd]
  exact ih _ (DG R (h d mq)) (fun e he=>by rw[GK];exact h e (j9 _ he))
theorem j6 {w:aH}{due:List ck}:eV w due=true↔cN w∧∀d∈due,fW w d=true:=by
 unfold eV;rw[aT,mY,ir]
end Go.Proofs.Heir
