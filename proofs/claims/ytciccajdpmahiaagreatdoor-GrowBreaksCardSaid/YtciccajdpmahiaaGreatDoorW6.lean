/- Models, plain laws and contracts of functions of the given program; conditions as stated in each theorem. By an AI agent. -/
import Derived.Test.YtciccajdpmahiaaGreatDoorW5
import Derived.Laws.StructEq
import Derived.Tactics
import Derived.Test.YtciccajdpmahiaaGreatDoorW3
set_option linter.unusedSimpArgs false
set_option linter.unusedVariables false
namespace Go.Proofs.Heir
open Go Go.Am Go.RowKit Go.Lib
set_option maxRecDepth 100000
set_option maxHeartbeats 8000000
structure SmallD (d:DeskM):Prop where
 defs:d.defs.length≤100000
 waits:d.waits.length≤100000
theorem f144_ok (d:DeskM)(h:SmallD d):FnOK Tryz.prog 144 [] [eDesk d] [] (eBool (rightD d)):=by
 have h29:=f122_ok d h.defs h.waits
 obtain⟨l,ws,nx,bz⟩:=d
 refine FnOK.startC (rvs:=[.tmp 2]) G G_good Tryz.func144 rfl Tryz.ntmps144 rfl rfl ?_;with_reducible refine wD ?_
 refine CallK.new 71 [] h29 c122 ⟨⟨rfl,rfl,rfl,rfl,trivial⟩,trivial⟩ rfl rfl rfl (outs_read _) rfl ?_;with_reducible refine wK ?_
 (have fct:=h29;(repeat' (first
  |refine gF ?_|refine aE ?_ ?_
  |apply trivial));all_goals clear fct)
theorem right_defs {d:DeskM}(h:rightD d=true):defsB d.defs=true:=(rightD_iff.1 h).1
theorem findR_none {l:List DefM}{a b:ByteArray}(h:defsB l=true)(ha:∀ (k:Nat) (x:DefM),l[k]? =some x→x.name=a→x.locl≠a)(hb:∀ (k:Nat) (x:DefM),l[k]? =some x→x.name=b→x.locl≠a):findR l a b=-1:=by
 rcases findR_cases l a b with⟨h1,_⟩|⟨j,y,_,h2,h3⟩
 ·exact h1
 ·obtain⟨g1,g2⟩:=fitsB_iff.1 h3
  rcases g2 with g2|g2
  ·exact absurd g1 (ha j y h2 g2)
  ·exact absurd g1 (hb j y h2 g2)
theorem only_name {l:List DefM}(h:defsB l=true){k:Nat}{x:DefM}{s v:ByteArray}(hx:l[k]? =some x)(hn:x.name=s)(hv:x.locl≠v):∀ (j:Nat) (y:DefM),l[j]? =some y→y.name=s→y.locl≠v:=fun j y hy he=>by
 have:=nodup_ix (defsB_iff.1 h).2.1 hx hy (hn.trans he.symm)
 subst this;rw[hx] at hy;cases hy;exact hv
theorem no_name {l:List DefM}{s v:ByteArray}(h:posN l s=-1):∀ (j:Nat) (y:DefM),l[j]? =some y→y.name=s→y.locl≠v:=fun j y hy he=>absurd he (posN_no h y (List.mem_of_getElem? hy))
theorem f192_ok (d:DeskM)(h:SmallD d)(a b:ByteArray):FnOK Tryz.prog 192 [] [eDesk d,eStr a,eStr b] [] (eInt (findD d a b)):=by
 have h29:=f122_ok d h.defs h.waits
 have hrd:=@right_defs d
 unfold findD
 obtain⟨r,hr⟩:∃r,rightD d=r:=⟨_,rfl⟩
 rw[hr] at h29 hrd ⊢
 obtain⟨l,ws,nx,bz⟩:=d
 refine FnOK.startC (rvs:=[.tmp 6]) G G_good Tryz.func192 rfl Tryz.ntmps192 rfl rfl ?_;with_reducible refine wD ?_
 refine CallK.new 151 [] h29 c122 ⟨⟨rfl,rfl,rfl,rfl,trivial⟩,trivial⟩ rfl rfl rfl (outs_read _) rfl ?_;with_reducible refine wK ?_
 cases r with
 | false=>((have fct:=hr;(repeat' (first
  |refine gF ?_|refine aE ?_ ?_
  |apply trivial));all_goals clear fct))<;>rfl
 | true =>
   have hd:=hrd rfl
   rw[if_pos rfl]
   simp only at hd ⊢
   have second:∀ (k:Nat) (y:DefM),l[k]? =some y→y.name=b→y.locl=a→findR l a b=k:=fun k y hy he hl=>findR_at hd hy (fitsB_iff.2 ⟨hl,.inr he⟩)
   refine IfK.ff ?_;with_reducible refine wK ?_
   refine LookK.tab Value.string oInt (ixT kN (procL l)) (k:=a) (zv:=eInt 0) map62 ⟨_,_,rfl⟩ key_str inj_str rfl rfl (fun x hxx=>?_) (fun hxx=>?_)
   ·rw[show oInt x=eInt x from rfl]
    with_reducible refine wK ?_
    rcases tgetP hd a with⟨a1,_⟩|⟨j,⟨yn,yl,yc⟩,a1,a2,a3,a4⟩
    ·rw[hxx] at a1;cases a1
    rw[hxx] at a1;cases a1
    simp only at a4
    refine IfK.tt ?_;with_reducible refine wK ?_
    refine IdxK.mk j (eDef ⟨yn,yl,yc⟩) rfl (def_get a3) ?_;with_reducible refine wK ?_
    by_cases hl:yl=a
    ·have hf:=findR_at (b:=b) hd a3 (fitsB_iff.2 ⟨hl,.inl a4⟩)
     rw[hf]
     (have fct:=hl;(repeat' (first
  |refine gF ?_|refine aE ?_ ?_
  | apply trivial));all_goals clear fct)
    ·have n1:=only_name hd a3 a4 hl
     refine IfK.no (decide_eq_false hl) ?_;with_reducible refine wK ?_
     refine LookK.tab Value.string oInt (ixT kN (procL l)) (k:=b) (zv:=eInt 0) map62 ⟨_,_,rfl⟩ key_str inj_str rfl rfl (fun x hxx=>?_) (fun hxx=>?_)
     ·rw[show oInt x=eInt x from rfl]
      with_reducible refine wK ?_
      rcases tgetP hd b with⟨b1,_⟩|⟨i,⟨zn,zl,zc⟩,b1,b2,b3,b4⟩
      ·rw[hxx] at b1;cases b1
      rw[hxx] at b1;cases b1
      refine IfK.tt ?_;with_reducible refine wK ?_
      refine IdxK.mk i (eDef ⟨zn,zl,zc⟩) rfl (def_get b3) ?_;with_reducible refine wK ?_
      by_cases hz:zl=a
      ·have hf:=second i _ b3 b4 hz
       rw[hf]
       (have fct:=hz;(repeat' (first
  |refine gF ?_|refine aE ?_ ?_
  |apply trivial));all_goals clear fct)
      ·rw[findR_none hd n1 (only_name hd b3 b4 hz)]
       (have fct:=hz;(repeat' (first
  |refine gF ?_|refine aE ?_ ?_
  |apply trivial));all_goals clear fct)
     ·with_reducible refine wK ?_
      rcases tgetP hd b with⟨_,b1⟩|⟨i,y,b1,_⟩
      ·rw[findR_none hd n1 (no_name b1)]
       (have fct:=b1;(repeat' (first
  |refine gF ?_|refine aE ?_ ?_
  | apply trivial));all_goals clear fct)
      ·rw[hxx] at b1;cases b1
   ·with_reducible refine wK ?_
    rcases tgetP hd a with⟨_,a1⟩|⟨j,y,a1,_⟩
    ·have n1:∀ (k:Nat) (x:DefM),l[k]? =some x→x.name=a→x.locl≠a:=no_name a1
     refine IfK.ff ?_;with_reducible refine wK ?_
     refine IfK.ff ?_;with_reducible refine wK ?_
     refine LookK.tab Value.string oInt (ixT kN (procL l)) (k:=b) (zv:=eInt 0) map62 ⟨_,_,rfl⟩ key_str inj_str rfl rfl (fun x hxx=>?_) (fun hxx=>?_)
     ·rw[show oInt x=eInt x from rfl]
      with_reducible refine wK ?_
      rcases tgetP hd b with⟨b1,_⟩|⟨i,⟨zn,zl,zc⟩,b1,b2,b3,b4⟩
      ·rw[hxx] at b1;cases b1
      rw[hxx] at b1;cases b1
      refine IfK.tt ?_;with_reducible refine wK ?_
      refine IdxK.mk i (eDef ⟨zn,zl,zc⟩) rfl (def_get b3) ?_;with_reducible refine wK ?_
      by_cases hz:zl=a
      ·have hf:=second i _ b3 b4 hz
       rw[hf]
       (have fct:=hz;(repeat' (first
  |refine gF ?_|refine aE ?_ ?_
  |apply trivial));all_goals clear fct)
      ·rw[findR_none hd n1 (only_name hd b3 b4 hz)]
       (have fct:=hz;(repeat' (first
  |refine gF ?_|refine aE ?_ ?_
  |apply trivial));all_goals clear fct)
     ·with_reducible refine wK ?_
      rcases tgetP hd b with⟨_,b1⟩|⟨i,y,b1,_⟩
      ·rw[findR_none hd n1 (no_name b1)]
       (have fct:=b1;(repeat' (first
  |refine gF ?_|refine aE ?_ ?_
  | apply trivial));all_goals clear fct)
      ·rw[hxx] at b1;cases b1
    ·rw[hxx] at a1;cases a1
structure ShortD (d:DeskM):Prop where
 defs:d.defs.length≤40
 waits:d.waits.length≤40
 names:∀x∈d.defs,x.name.size≤300∧x.locl.size≤300
 wnames:∀w∈d.waits,w.name.size≤300
theorem ShortD.small {d:DeskM}(h:ShortD d):SmallD d:=⟨Nat.le_trans h.defs (by omega),Nat.le_trans h.waits (by omega)⟩
theorem upto_succ {α:Type}{P:α→Prop}{l:List α}{k:Nat}{a:α}(h:∀ (j:Nat) (b:α),j<k→l[j]? =some b→P b)(ha:l[k]? =some a)(hp:P a):∀ (j:Nat) (b:α),j<k+1→l[j]? =some b→P b:=fun j b hj hb=>by
 by_cases e:j=k
 ·subst e;rw[ha] at hb;cases hb;exact hp
 ·exact h j b (by omega) hb


end Go.Proofs.Heir
section
namespace Go.Proofs.Heir
open Go Go.Am Go.RowKit Go.Lib
set_option maxRecDepth 100000
set_option maxHeartbeats 8000000
theorem list_same {α:Type}{x y:List α}(hl:x.length=y.length)(h:∀j,j<x.length→x[j]? =y[j]?):x=y:=by
 refine List.ext_getElem? fun j=>?_
 rcases Nat.lt_or_ge j x.length with h6|h6
 ·exact h j h6
 ·rw[List.getElem?_eq_none h6,List.getElem?_eq_none (by omega)]
theorem same_succ {α:Type}{x y:List α}{k:Nat}(h:∀j,j<k→x[j]? =y[j]?)(hk:x[k]? =y[k]?):∀j,j<k+1→x[j]? =y[j]? :=fun j hj=>by
 by_cases e:j=k
 ·rw[e];exact hk
 ·exact h j (by omega)
set_option maxHeartbeats 8000000
def shortX (x:DefM):Bool:=decide (x.name.size≤300)&&decide (x.locl.size≤300)
def shortW (w:WaitM):Bool:=decide (w.name.size≤300)
def shortB (d:DeskM):Bool:=decide (d.defs.length≤40)&&decide (d.waits.length≤40)&&d.defs.all shortX&&d.waits.all shortW
theorem shortB_iff {d:DeskM}:shortB d=true↔ShortD d:=by
 unfold shortB shortX shortW
 simp only[Bool.and_eq_true,decide_eq_true_eq,List.all_eq_true]
 exact⟨fun h=>⟨h.1.1.1,h.1.1.2,h.1.2,h.2⟩,fun h=>⟨⟨⟨h.defs,h.waits⟩,h.names⟩,h.wnames⟩⟩
theorem all_upto {α:Type}{p:α→Bool}{l:List α}(h:∀ (j:Nat) (b:α),j<l.length→l[j]? =some b→p b=true):l.all p=true:=by
 rw[List.all_eq_true]
 intro x hx
 obtain⟨j,hj⟩:=List.getElem?_of_mem hx
 exact h j x (List.getElem?_eq_some_iff.1 hj).1 hj
theorem all_fails {α:Type}{p:α→Bool}{l:List α}{x:α}(hx:x∈l)(h:p x=false):l.all p=false:=by
 cases hh:l.all p with
 |false=>rfl
 |true=>rw[List.all_eq_true.1 hh x hx] at h;cases h
theorem f68_ok (d:DeskM):FnOK Tryz.prog 68 [] [eDesk d] [] (eBool (shortB d)):=by
 obtain⟨r,hr⟩:∃r,shortB d=r:=⟨_,rfl⟩
 rw[hr]
 have hsh:=@shortB_iff d
 rw[hr] at hsh
 obtain⟨l,ws,nx,bz⟩:=d
 unfold shortB at hr
 simp only at hr
 have hlm:(l.map oDef).length=l.length:=List.length_map ..
 have hwm:(ws.map oWait).length=ws.length:=List.length_map ..
 refine FnOK.startC (rvs:=[.tmp 2]) G G_good Tryz.func68 rfl Tryz.ntmps68 rfl rfl ?_;with_reducible refine wD ?_
 by_cases g1:l.length≤40
 ·by_cases g2:ws.length≤40
  ·(have fct:=And.intro hlm (And.intro hwm (And.intro g1 (g2)));(repeat' (first
  |refine gF ?_|refine aE ?_ ?_
  | apply trivial));all_goals clear fct)
   refine LoopK.use G G_good (fun(k:Nat)=>[(1,.ptr 10 0 0),(3,eInt k)]) (fun _=>[(10,.live 4 [eDesk ⟨l,ws,nx,bz⟩] false)]) (fun k=>k≤l.length∧∀ (j:Nat) (b:DefM),j<k→l[j]? =some b→shortX b=true) (fun k=>l.length-k) 0 ⟨Nat.zero_le _,fun j b hj=>by omega⟩
    ⟨⟨rfl,rfl⟩,⟨⟨rfl,rfl⟩,rfl,trivial⟩,⟨⟨rfl,rfl,rfl,rfl,trivial⟩,trivial⟩,trivial⟩ ?_
   intro k ⟨hk,hno⟩
   with_reducible refine wK ?_
   refine IfK.mk (fun h1=>?_) (fun h1=>?_)<;>(try simp only[castN] at h1)<;>with_reducible refine wK ?_
   ·simp only[hlm,decide_eq_true_eq] at h1
    have hk':k<l.length:=by omega
    obtain⟨⟨n,lo,c⟩,hx⟩:∃a,l[k]? =some a:=⟨_,List.getElem?_eq_getElem hk'⟩
    have hf:shortX ⟨n,lo,c⟩=false→r=false:=fun h=>by rw[←hr,all_fails (List.mem_of_getElem? hx) h];simp
    refine IdxK.mk k (eDef ⟨n,lo,c⟩) rfl (def_get hx) ?_;with_reducible refine wK ?_
    by_cases e1:n.size≤300
    ·by_cases e2:lo.size≤300
     ·(have fct:=And.intro e1 (e2);(repeat' (first
  |refine gF ?_|refine aE ?_ ?_
  | ((first
   |((with_reducible show IdxK _ _ _ _ _);refine IdxK.mk k (eDef ⟨n,lo,c⟩) rfl (def_get hx) ?_)
   |((with_reducible show NextK _ _);refine NextK.mk (k+1) ⟨by omega,upto_succ (P:=fun b=>shortX b=true) hno hx (by unfold shortX;simp[e1,e2])⟩ (by omega) ⟨⟨rfl,rfl⟩,⟨⟨rfl,rfl⟩,by show((k+1:Nat):Int)=(k:Int)+1;omega,trivial⟩,⟨⟨rfl,rfl,rfl,rfl,trivial⟩,trivial⟩,trivial⟩))<;>with_reducible refine wK ?_)
  |apply trivial));all_goals clear fct)
     ·rw[hf (by unfold shortX;simp[e2])]
      (have fct:=And.intro e1 (e2);(repeat' (first
  |refine gF ?_|refine aE ?_ ?_
  |(((with_reducible show IdxK _ _ _ _ _);refine IdxK.mk k (eDef ⟨n,lo,c⟩) rfl (def_get hx) ?_)<;>with_reducible refine wK ?_)
  | apply trivial));all_goals clear fct)
    ·rw[hf (by unfold shortX;simp[e1])]
     (have fct:=e1;(repeat' (first
  |refine gF ?_|refine aE ?_ ?_
  | apply trivial));all_goals clear fct)
   ·have hkl:k=l.length:=by simp only[hlm,decide_eq_false_iff_not] at h1;omega
    subst hkl
    have hall1:=all_upto hno
    (have fct:=hlm;(repeat' (first
  |refine gF ?_|refine aE ?_ ?_
  | apply trivial));all_goals clear fct)
    refine LoopK.use G G_good (fun(k:Nat)=>[(1,.ptr 10 0 0),(4,eInt k)]) (fun _=>[(10,.live 4 [eDesk ⟨l,ws,nx,bz⟩] false)]) (fun k=>k≤ws.length∧∀ (j:Nat) (b:WaitM),j<k→ws[j]? =some b→shortW b=true) (fun k=>ws.length-k) 0 ⟨Nat.zero_le _,fun j b hj=>by omega⟩
     ⟨⟨rfl,rfl⟩,⟨⟨rfl,rfl⟩,rfl,trivial⟩,⟨⟨rfl,rfl,rfl,rfl,trivial⟩,trivial⟩,trivial⟩ ?_
    intro k ⟨hk,hno⟩
    with_reducible refine wK ?_
    refine IfK.mk (fun h2=>?_) (fun h2=>?_)<;>(try simp only[castN] at h2)<;>with_reducible refine wK ?_
    ·simp only[hwm,decide_eq_true_eq] at h2
     have hk':k<ws.length:=by omega
     obtain⟨⟨n,t⟩,hx⟩:∃a,ws[k]? =some a:=⟨_,List.getElem?_eq_getElem hk'⟩
     have hf:shortW ⟨n,t⟩=false→r=false:=fun h=>by rw[←hr,all_fails (List.mem_of_getElem? hx) h];simp
     refine IdxK.mk k (eWait ⟨n,t⟩) rfl (wait_get hx) ?_;with_reducible refine wK ?_
     by_cases e1:n.size≤300
     ·(have fct:=e1;(repeat' (first
  |refine gF ?_|refine aE ?_ ?_
  |(((with_reducible show NextK _ _);refine NextK.mk (k+1) ⟨by omega,upto_succ (P:=fun b=>shortW b=true) hno hx (by unfold shortW;simp[e1])⟩ (by omega) ⟨⟨rfl,rfl⟩,⟨⟨rfl,rfl⟩,by show((k+1:Nat):Int)=(k:Int)+1;omega,trivial⟩,⟨⟨rfl,rfl,rfl,rfl,trivial⟩,trivial⟩,trivial⟩)<;>with_reducible refine wK ?_)
  |apply trivial));all_goals clear fct)
     ·rw[hf (by unfold shortW;simp[e1])]
      (have fct:=e1;(repeat' (first
  |refine gF ?_|refine aE ?_ ?_
  | apply trivial));all_goals clear fct)
    ·have hkl:k=ws.length:=by simp only[hwm,decide_eq_false_iff_not] at h2;omega
     subst hkl
     have hall2:=all_upto hno
     rw[show r=true by rw[←hr,hall1,hall2];simp[g1,g2]]
     (have fct:=hwm;(repeat' (first
  |refine gF ?_|refine aE ?_ ?_
  |apply trivial));all_goals clear fct)
  ·rw[show r=false by rw[←hr];simp[g2]]
   (have fct:=And.intro hlm (And.intro hwm (And.intro g1 (g2)));(repeat' (first
  |refine gF ?_|refine aE ?_ ?_
  |apply trivial));all_goals clear fct)
 ·rw[show r=false by rw[←hr];simp[g1]]
  (have fct:=And.intro hlm (g1);(repeat' (first
  |refine gF ?_|refine aE ?_ ?_
  |apply trivial));all_goals clear fct)
theorem f44_ok (a b:List Int)(ha:a.length≤100000):FnOK Tryz.prog 44 [] [eInts a,eInts b] [] (eBool (decide (a=b))):=by
 have hlm:(a.map oInt).length=a.length:=List.length_map ..
 have hlm':(b.map oInt).length=b.length:=List.length_map ..
 refine FnOK.startC (rvs:=[.tmp 4]) G G_good Tryz.func44 rfl Tryz.ntmps44 rfl rfl ?_;with_reducible refine wD ?_
 by_cases g1:a.length=b.length
 ·(have fct:=And.intro hlm (And.intro hlm' (g1));(repeat' (first
  |refine gF ?_|refine aE ?_ ?_
  |apply trivial));all_goals clear fct)
  refine LoopK.use G G_good (fun(k:Nat)=>[(0,eInts a),(1,eInts b),(5,eInt k)]) (fun _=>[]) (fun k=>k≤a.length∧∀j,j<k→a[j]? =b[j]?) (fun k=>a.length-k) 0 ⟨Nat.zero_le _,fun j hj=>by omega⟩
   ⟨⟨rfl,rfl⟩,⟨rfl,rfl,rfl,trivial⟩,trivial⟩ ?_
  intro k ⟨hk,hno⟩
  with_reducible refine wK ?_
  refine IfK.mk (fun h1=>?_) (fun h1=>?_)<;>(try simp only[castN] at h1)<;>with_reducible refine wK ?_
  ·simp only[hlm,decide_eq_true_eq] at h1
   have hk':k<a.length:=by omega
   obtain⟨x,hx⟩:∃x,a[k]? =some x:=⟨_,List.getElem?_eq_getElem hk'⟩
   obtain⟨y,hy⟩:∃y,b[k]? =some y:=⟨_,List.getElem?_eq_getElem (by omega)⟩
   refine IdxK.mk k (eInt x) rfl (int_get hx) ?_;with_reducible refine wK ?_
   refine IdxK.mk k (eInt y) rfl (int_get hy) ?_;with_reducible refine wK ?_
   by_cases e:x=y
   ·(have fct:=e;(repeat' (first
  |refine gF ?_|refine aE ?_ ?_
  |(((with_reducible show NextK _ _);refine NextK.mk (k+1) ⟨by omega,same_succ hno (by rw[hx,hy,e])⟩ (by omega) ⟨⟨rfl,rfl⟩,⟨rfl,rfl,by show((k+1:Nat):Int)=(k:Int)+1;omega,trivial⟩,trivial⟩)<;>with_reducible refine wK ?_)
  | apply trivial));all_goals clear fct)
   ·rw[show decide (a=b)=false from decide_eq_false fun h=>e (by rw[h] at hx;rw[hx] at hy;exact Option.some.inj hy)]
    (have fct:=e;(repeat' (first
  |refine gF ?_|refine aE ?_ ?_
  |apply trivial));all_goals clear fct)
  ·have hkl:k=a.length:=by simp only[hlm,decide_eq_false_iff_not] at h1;omega
   subst hkl
   rw[show decide (a=b)=true from decide_eq_true (list_same g1 hno)]
   (have fct:=hlm;(repeat' (first
  |refine gF ?_|refine aE ?_ ?_
  |apply trivial));all_goals clear fct)
 ·rw[show decide (a=b)=false from decide_eq_false fun h=>g1 (by rw[h])]
  (have fct:=And.intro hlm (And.intro hlm' (g1));(repeat' (first
  |refine gF ?_|refine aE ?_ ?_
  |apply trivial));all_goals clear fct)
end Go.Proofs.Heir
end
namespace Go.Proofs.Heir
open Go Go.Am Go.RowKit Go.Lib
set_option maxRecDepth 100000
def bornM (s i:ByteArray):Int:=if(!decide (i=⟨#[]⟩)||customS s)=true then 1 else 0
theorem f41_ok (s i:ByteArray):FnOK Tryz.prog 41 [] [eStr s,eStr i] [] (eInt (bornM s i)):=by
 have h42:=f109_ok s
 unfold bornM
 refine FnOK.startC (rvs:=[.tmp 4]) G G_good Tryz.func41 rfl Tryz.ntmps41 rfl rfl ?_;with_reducible refine wD ?_
 cases e:decide (i=⟨#[]⟩) with
 | true=>
   cases hc:customS s<;>rw[hc] at h42<;>(have fct:=e;(repeat' (first
  |refine gF ?_|refine aE ?_ ?_
  |(((with_reducible refine kQ 109 ?_);refine cL h42 c109 ?_)<;>with_reducible refine wK ?_)
  | apply trivial))                            ;all_goals clear fct)
   all_goals rfl
 | false=>
   (have fct:=e;(repeat' (first
  |refine gF ?_|refine aE ?_ ?_
  | apply trivial));all_goals clear fct)
   all_goals rfl
def fateD (x:NodeM)(d:DeskM):Int:=if x.kind=1∧x.doc=0 then findD d x.name x.is else-1
theorem f125_ok (x:NodeM)(d:DeskM)(h:SmallD d):FnOK Tryz.prog 125 [] [eNode x,eDesk d] [] (eInt (fateD x d)):=by
 have h78:=f192_ok d h x.name x.is
 obtain⟨a1,a2,a3,a4,a5,a6,a7,a8,a9,a10⟩:=x
 obtain⟨d1,d2,d3,d4⟩:=d
 unfold fateD
 simp only at h78 ⊢
 refine FnOK.startC (rvs:=[.tmp 4]) G G_good Tryz.func125 rfl Tryz.ntmps125 rfl rfl ?_;with_reducible refine wD ?_
 by_cases e1:a1=1
 ·subst e1
  by_cases e2:a10=0
  ·subst e2
   rw[if_pos ⟨rfl,rfl⟩]
   repeat' (first
  |refine gK ?_|refine aE ?_ ?_
  |(((with_reducible refine kQ 192 ?_);refine cL h78 c192 ?_)<;>with_reducible refine wK ?_)
  |apply trivial)
  ·rw[if_neg fun h=>e2 h.2]
   (have fct:=e2;(repeat' (first
  |refine gF ?_|refine aE ?_ ?_
  |apply trivial));all_goals clear fct)
 ·rw[if_neg fun h=>e1 h.1]
  (have fct:=e1;(repeat' (first
  |refine gF ?_|refine aE ?_ ?_
  |apply trivial));all_goals clear fct)
def fateF (f:ForM)(n:Int)(d:DeskM):Int:=if(thereN f.nodes n&&rightF f)=true then fateD (nd f.nodes n) d else-1
theorem f58_ok (f:ForM)(hs:SmallN f.nodes)(n:Int)(d:DeskM)(h:SmallD d):FnOK Tryz.prog 58 [] [eFor f,eInt n,eDesk d] [] (eInt (fateF f n d)):=by
 have h48:=f100_ok f hs
 have h49:=fun x=>f125_ok x d h
 obtain⟨l,m⟩:=f
 obtain⟨d1,d2,d3,d4⟩:=d
 have hlm:(l.map oNode).length=l.length:=List.length_map ..
 unfold fateF
 simp only at h48 h49 ⊢
 refine FnOK.startC (rvs:=[.tmp 6]) G G_good Tryz.func58 rfl Tryz.ntmps58 rfl rfl ?_;with_reducible refine wD ?_
 by_cases e1:n<0
 ·have e:thereN l n=false:=by unfold thereN;rw[decide_eq_false (show ¬0≤n by omega)];rfl
  rw[e,Bool.false_and,if_neg (by simp)]
  (have fct:=e1;(repeat' (first
  |refine gF ?_|refine aE ?_ ?_
  |apply trivial));all_goals clear fct)
 by_cases e2:(l.length:Int)≤n
 ·have e:thereN l n=false:=by unfold thereN;rw[decide_eq_false (show ¬n< (l.length:Int) by omega)];simp
  rw[e,Bool.false_and,if_neg (by simp)]
  (have fct:=And.intro hlm (And.intro (eq_false e1) (e2));(repeat' (first
  |refine gF ?_|refine aE ?_ ?_
  |apply trivial));all_goals clear fct)
 have e:thereN l n=true:=by unfold thereN;simp;omega
 rw[e,Bool.true_and]
 cases hr:rightF ⟨l,m⟩ with
 | false=>
   rw[hr] at h48
   rw[if_neg (by simp)]
   (have fct:=And.intro hlm (And.intro (eq_false e1) ((eq_false e2)));(repeat' (first
  |refine gF ?_|refine aE ?_ ?_
  |(((with_reducible refine kQ 100 ?_);refine cL h48 c100 ?_)<;>with_reducible refine wK ?_)
  |apply trivial));all_goals clear fct)
 | true=>
   rw[hr] at h48
   rw[if_pos rfl]
   obtain⟨k,x,rfl,hx,hnx⟩:=there_iff.1 e
   have h49:=h49 x
   rw[hnx]
   obtain⟨a1,a2,a3,a4,a5,a6,a7,a8,a9,a10⟩:=x
   (have fct:=And.intro hlm (And.intro (eq_false e1) ((eq_false e2)));(repeat' (first
  |refine gF ?_|refine aE ?_ ?_
  | ((first
   |((with_reducible refine kQ 100 ?_);refine cL h48 c100 ?_)
   |((with_reducible show IdxK _ _ _ _ _);refine IdxK.mk k (eNode _) rfl (node_get hx) ?_)
   |((with_reducible refine kQ 125 ?_);refine cL h49 c125 ?_))<;>with_reducible refine wK ?_)
  |apply trivial));all_goals clear fct)
end Go.Proofs.Heir
namespace Go.Proofs.Heir
open Go Go.Am Go.RowKit Go.Lib
set_option maxRecDepth 100000
set_option maxHeartbeats 8000000







def topN (l:List NodeM)(n:Int):Int:=((U.wayN l n).getLast?).getD n
theorem top_top {l:List NodeM}(T:U.Tree l){n:Int}(hn:thereN l n=true)(hp:upN (nd l n)=-1):topN l n=n:=by
 unfold topN;rw[U.way_top T hn hp];rfl
theorem top_step {l:List NodeM}(T:U.Tree l){n:Int}(hn:thereN l n=true)(hp:upN (nd l n)≠-1)(hu:thereN l (upN (nd l n))=true):topN l n=topN l (upN (nd l n)):=by
 obtain⟨r,hr⟩:=U.way_head T hu
 unfold topN;rw[U.way_step T hn hp,hr,List.getLast?_cons_cons]
 cases h:(upN (nd l n)::r).getLast? with
 |none=>simp at h
 |some a=>rfl
theorem up_there {l:List NodeM}(T:U.Tree l):∀n,thereN l n=true→upN (nd l n)≠-1→thereN l (upN (nd l n))=true:=by
 refine U.up_ind T (P:=fun n=>upN (nd l n)≠-1→thereN l (upN (nd l n))=true) (fun n hn h0 h=>absurd h0 h) (fun n hn h0 h1 _ _=>h1)
theorem top_there {l:List NodeM}(T:U.Tree l):∀n,thereN l n=true→thereN l (topN l n)=true:=by
 refine U.up_ind T (fun n hn h=>?_) (fun n hn h hu ih=>?_)
 ·rw[top_top T hn h];exact hn
 ·rw[top_step T hn h hu];exact ih
theorem f236_ok (f:ForM)(k:Nat)(x:NodeM)(hx:f.nodes[k]? =some x):FnOK Tryz.prog 236 [] [eFor f,eInt k] [] (eInt (upN x)):=by
 obtain⟨l,m⟩:=f
 obtain⟨a1,a2,a3,a4,a5,a6,a7,a8,a9,a10⟩:=x
 unfold upN
 refine FnOK.startC (rvs:=[.tmp 4]) G G_good Tryz.func236 rfl Tryz.ntmps236 rfl rfl ?_;with_reducible refine wD ?_
 by_cases e:a6=-1
 ·subst e
  rw[if_pos rfl]
  repeat' (first
  |refine gK ?_|refine aE ?_ ?_
  |(((with_reducible show IdxK _ _ _ _ _);refine IdxK.mk k (eNode _) rfl (node_get hx) ?_)<;>with_reducible refine wK ?_)
  |apply trivial)
 ·rw[if_neg e]
  (have fct:=(eq_false e);(repeat' (first
  |refine gF ?_|refine aE ?_ ?_
  |(((with_reducible show IdxK _ _ _ _ _);refine IdxK.mk k (eNode _) rfl (node_get hx) ?_)<;>with_reducible refine wK ?_)
  |apply trivial));all_goals clear fct)
def topF (f:ForM)(n:Int):Int:=if(rightF f&&thereN f.nodes n)=true then topN f.nodes n else-1
theorem f188_ok (f:ForM)(hs:SmallN f.nodes)(n:Int):FnOK Tryz.prog 188 [] [eFor f,eInt n] [] (eInt (topF f n)):=by
 have h86:=f235_ok f hs [n] (by simp)
 have e1:(rightF f&& !decide (0≤idxI (fun n=> !thereN f.nodes n) [n]))=(rightF f&&thereN f.nodes n):=by
  congr 1
  unfold idxI
  cases h:thereN f.nodes n<;>simp[List.findIdx?_cons,h]
 rw[e1] at h86
 have h87:=fun k x hx=>f236_ok f k x hx
 obtain⟨l,m⟩:=f
 unfold topF
 simp only at h86 h87 ⊢
 refine FnOK.startC (rvs:=[.tmp 4]) G G_good Tryz.func188 rfl Tryz.ntmps188 rfl rfl ?_;with_reducible refine wD ?_
 cases e0:(rightF ⟨l,m⟩&&thereN l n) with
 | false=>
   rw[e0] at h86
   refine CallK.lit [71] h86 c235 ⟨⟨rfl,rfl,trivial⟩,frz_ints (l:=[n]) rfl rfl rfl rfl,trivial⟩ rfl rfl ?_;with_reducible refine wK ?_
   repeat' (first
  |refine gK ?_|refine aE ?_ ?_
  | apply trivial)
   all_goals rfl
 | true=>
   rw[e0] at h86
   refine CallK.lit [71] h86 c235 ⟨⟨rfl,rfl,trivial⟩,frz_ints (l:=[n]) rfl rfl rfl rfl,trivial⟩ rfl rfl ?_;with_reducible refine wK ?_
   rw[if_pos rfl]
   obtain⟨hr,hn⟩:rightF ⟨l,m⟩=true∧thereN l n=true:=by simpa using e0
   have T:=U.tree_of hr
   simp only at T
   repeat' (first
  |refine gK ?_|refine aE ?_ ?_
  | apply trivial)
   refine LoopK.use G G_good (fun(c:Int)=>[(1,eInt c),(2,.ptr 20 0 0)]) (fun c=>[(20,.live 2 [eFor ⟨l,m⟩] false)])
    (fun c=>thereN l c=true∧topN l c=topN l n) (fun c=>(U.wayN l c).length) n ⟨hn,rfl⟩
    (by refine⟨⟨rfl,rfl⟩,⟨rfl,⟨rfl,rfl⟩,trivial⟩,⟨⟨rfl,rfl,trivial⟩,trivial⟩,trivial⟩) ?_
   rintro c ⟨hc,htop⟩
   with_reducible refine wK ?_
   obtain⟨i,y,rfl,hy,hny⟩:=there_iff.1 hc
   have h:=h87 i y hy
   by_cases e:upN y=-1
   ·rw[e] at h
    rw[top_top T hc (by rw[hny];exact e)] at htop
    repeat' (first
  |refine gK ?_|refine aE ?_ ?_
  |(((with_reducible refine kQ 236 ?_);refine cL h c236 ?_)<;>with_reducible refine wK ?_)
  | apply trivial)
    all_goals exact htop.symm
   ·have hu:=up_there T _ hc (by rw[hny];exact e)
    have hst:=top_step T hc (by rw[hny];exact e) hu
    have hway:=U.way_step T hc (by rw[hny];exact e)
    rw[hny] at hu hst hway
    generalize upN y=u at h e hu hst hway
    (have fct:=(eq_false e);(repeat' (first
  |refine gF ?_|refine aE ?_ ?_
  |(((with_reducible refine kQ 236 ?_);refine cL h c236 ?_)<;>with_reducible refine wK ?_)
  | apply trivial));all_goals clear fct)
    refine NextK.mk u ⟨hu,by rw[←hst,htop]⟩ (by rw[hway];simp) ⟨⟨rfl,rfl⟩,⟨rfl,⟨rfl,rfl⟩,trivial⟩,⟨⟨rfl,rfl,trivial⟩,trivial⟩,trivial⟩
def conF (f:ForM)(n:Int):Bool:=(rightF f&&thereN f.nodes n)&&decide ((nd f.nodes (topN f.nodes n)).kind=0)
theorem f120_ok (f:ForM)(hs:SmallN f.nodes)(n:Int):FnOK Tryz.prog 120 [] [eFor f,eInt n] [] (eBool (conF f n)):=by
 have h63:=f188_ok f hs n
 unfold topF at h63
 unfold conF
 cases e0:(rightF f&&thereN f.nodes n) with
 | false=>
   rw[e0,if_neg (by simp)] at h63
   obtain⟨l,m⟩:=f
   refine FnOK.startC (rvs:=[.tmp 4]) G G_good Tryz.func120 rfl Tryz.ntmps120 rfl rfl ?_;with_reducible refine wD ?_
   repeat' (first
  |refine gK ?_|refine aE ?_ ?_
  |(((with_reducible refine kQ 188 ?_);refine cL h63 c188 ?_)<;>with_reducible refine wK ?_)
  | apply trivial)
   all_goals rfl
 | true=>
   rw[e0,if_pos rfl] at h63
   obtain⟨hr,hn⟩:rightF f=true∧thereN f.nodes n=true:=by simpa using e0
   have ht:=top_there (U.tree_of hr) n hn
   obtain⟨l,m⟩:=f
   simp only at h63 ht ⊢
   generalize topN l n=t at h63 ht ⊢
   obtain⟨i,y,rfl,hy,hny⟩:=there_iff.1 ht
   rw[hny]
   obtain⟨a1,a2,a3,a4,a5,a6,a7,a8,a9,a10⟩:=y
   refine FnOK.startC (rvs:=[.tmp 4]) G G_good Tryz.func120 rfl Tryz.ntmps120 rfl rfl ?_;with_reducible refine wD ?_
   refine cL h63 c188 ?_;with_reducible refine wK ?_
   (have fct:=(show ¬ (i:Int)=-1 by omega);(repeat' (first
  |refine gF ?_|refine aE ?_ ?_
  |(((with_reducible show IdxK _ _ _ _ _);refine IdxK.mk i (eNode _) rfl (node_get hy) ?_)<;>with_reducible refine wK ?_)
  | apply trivial));all_goals clear fct)
   all_goals simp
end Go.Proofs.Heir
section
namespace Go.Proofs.Heir
open Go Go.Am Go.RowKit Go.Lib
set_option maxRecDepth 100000
set_option maxHeartbeats 8000000
@[reducible] def formW : ByteArray := ⟨⟨[102, 111, 114, 109]⟩⟩
@[reducible] def idW : ByteArray := ⟨⟨[105, 100]⟩⟩
def isForm (x:NodeM):Bool:=decide (x.kind=1)&&decide (x.name=formW)
def attV (x:NodeM)(w:ByteArray):Option ByteArray:=if 0≤findP x.attrs w then some (getS x.attrs w) else none
def attR (x:NodeM)(w:ByteArray):Option ByteArray:=if 0≤posA x.attrs w then some (((x.attrs[(posA x.attrs w).toNat]?).map AttrM.value).getD noS) else none
def nearBy (l:List NodeM)(q:Int→Bool)(n:Int):Int:=((wayN l n).tail.find? q).getD (-1)
def nearN (l:List NodeM)(n:Int):Int:=nearBy l (fun p=>isForm (nd l p)) n
def nearR (l:List NodeM)(n:Int):Int:=nearBy l (fun p=>decide ((nd l p).name=formW)) n
def rootN (l:List NodeM)(n:Int):Int:=((wayN l n).getLast?).getD n
def addId (l:List NodeM)(t:List (ByteArray×Int))(k:Int):List (ByteArray×Int):=
 match attV (nd l k) idW with
 | some v=>(match tget v t with
  |some _=>t
  |none=>tput v k t)
 |none=>t
def idTab (l:List NodeM)(r:Int):List (ByteArray×Int):=(ordN l l.length r).foldl (addId l) []
def firstId (l:List NodeM)(r:Int)(v:ByteArray):Option Int:=(ordN l l.length r).find? fun k=>decide (attV (nd l k) idW=some v)
def firstR (l:List NodeM)(r:Int)(v:ByteArray):Option Int:=(ordN l l.length r).find? fun k=>decide (attR (nd l k) idW=some v)
def conN (l:List NodeM)(n:Int):Bool:=decide ((nd l (topN l n)).kind=0)
def byId (l:List NodeM)(n:Int)(v:ByteArray):Int:=
 match firstId l (rootN l n) v with
 |some k=>if v≠ ⟨#[]⟩∧isForm (nd l k)=true then k else-1
 |none=> -1
def ownN (l:List NodeM)(n:Int):Int:=
 if(nd l n).kind=1 then
  match attV (nd l n) formW with
  |some v=>if conN l n=true then byId l n v else nearN l n
  |none=>nearN l n
 else-1
def byIdR (l:List NodeM)(n:Int)(v:ByteArray):Int:=
 if v=⟨#[]⟩ then-1 else
 match firstR l (rootN l n) v with
 |some k=>if(nd l k).name=formW then k else-1
 |none=> -1
def ownR (l:List NodeM)(n:Int):Int:=
 if(nd l n).kind=1 then
  match attR (nd l n) formW with
  |some v=>if conN l n=true then byIdR l n v else nearR l n
  |none=>nearR l n
 else-1
theorem tget_fold (l:List NodeM)(v:ByteArray):∀ (ks:List Int) (t:List (ByteArray×Int)),tget v (ks.foldl (addId l) t)=match tget v t with
  |some x=>some x
  |none=>ks.find? fun k=>decide (attV (nd l k) idW=some v)
 | [],t=>by
   simp only[List.foldl_nil,List.find?_nil]
   cases tget v t<;>rfl
 | k ::r,t=>by
   rw[List.foldl_cons,tget_fold l v r]
   rw[List.find?_cons]
   unfold addId
   cases ha:attV (nd l k) idW with
   |none=>simp
   | some u=>
     dsimp only
     by_cases huv:u=v
     ·subst huv
      cases ht:tget u t with
      |some x=>dsimp only;rw[ht]
      |none=>dsimp only;rw[tget_put,if_pos rfl];simp
     ·have hne:decide (some u=some v)=false:=decide_eq_false fun h=>huv (Option.some.inj h)
      rw[hne]
      cases ht:tget u t with
      |some x=>rfl
      |none=>dsimp only;rw[tget_put,if_neg huv]
theorem idTab_get (l:List NodeM)(r:Int)(v:ByteArray):tget v (idTab l r)=firstId l r v:=by
 unfold idTab;rw[tget_fold];rfl
theorem addId_len (l:List NodeM)(t:List (ByteArray×Int))(k:Int):(addId l t k).length≤t.length+1:=by
 unfold addId
 split
 ·split
  ·omega
  ·rw[tput_length];split<;>omega
 ·omega
theorem fold_len (l:List NodeM):∀ (ks:List Int) (t:List (ByteArray×Int)),(ks.foldl (addId l) t).length≤t.length+ks.length
 |[],t=>Nat.le_refl _
 | k::r,t=>by
   have h1:=fold_len l r (addId l t k)
   have h2:=addId_len l t k
   rw[List.foldl_cons,List.length_cons];omega
variable {l : List NodeM}
theorem root_top (T:Tree l){n:Int}(hn:thereN l n=true)(hp:(nd l n).parent=-1):rootN l n=n:=by
 unfold rootN;rw[way_top T hn hp];rfl
theorem root_step (T:Tree l){n:Int}(hn:thereN l n=true)(hp:(nd l n).parent≠-1):rootN l n=rootN l (nd l n).parent:=by
 obtain⟨r,hr⟩:=way_head T (T.par n hn hp).1
 unfold rootN;rw[way_step T hn hp,hr,List.getLast?_cons_cons]
 cases h:((nd l n).parent::r).getLast? with
 |none=>simp at h
 |some a=>rfl
theorem root_there (T:Tree l):∀n,thereN l n=true→thereN l (rootN l n)=true∧(nd l (rootN l n)).parent=-1∧rootN l n∈wayN l n:=by
 refine up_ind T (fun n hn h=>?_) (fun n hn h hu ih=>?_)
 ·rw[root_top T hn h];exact⟨hn,h,way_self T hn⟩
 ·rw[root_step T hn h];exact⟨ih.1,ih.2.1,by rw[way_step T hn h];exact List.mem_cons_of_mem _ ih.2.2⟩
theorem root_way (T:Tree l):∀n,thereN l n=true→∀a∈wayN l n,rootN l a=rootN l n:=by
 refine up_ind T (fun n hn h a ha=>?_) (fun n hn h hu ih a ha=>?_)
 ·rw[way_top T hn h] at ha;rw[List.mem_singleton.1 ha]
 ·rw[way_step T hn h] at ha
  rcases List.mem_cons.1 ha with rfl|h'
  ·rfl
  ·rw[root_step T hn h];exact ih a h'
theorem ord_root (T:Tree l){r n:Int}(hr:thereN l r=true)(h:n∈ordN l l.length r):thereN l n=true∧r∈wayN l n∧rootN l n=rootN l r:=by
 obtain⟨h1,h2⟩:=ord_way T _ r hr n h
 exact⟨h1,h2,(root_way T n h1 r h2).symm⟩
theorem root_self (T:Tree l){n:Int}(hn:thereN l n=true):rootN l (rootN l n)=rootN l n:=by
 obtain⟨h1,h2,_⟩:=root_there T n hn
 exact root_top T h1 h2
theorem find_step (T:Tree l)(q:Int→Bool){n:Int}(hn:thereN l n=true)(hp:(nd l n).parent≠-1):nearBy l q n=if q (nd l n).parent=true then(nd l n).parent else nearBy l q (nd l n).parent:=by
 obtain⟨r,hr⟩:=way_head T (T.par n hn hp).1
 unfold nearBy
 rw[way_step T hn hp,List.tail_cons,hr,List.find?_cons,List.tail_cons]
 cases h:q (nd l n).parent<;>simp
theorem find_top (T:Tree l)(q:Int→Bool){n:Int}(hn:thereN l n=true)(hp:(nd l n).parent=-1):nearBy l q n=-1:=by
 unfold nearBy;rw[way_top T hn hp];rfl
theorem near_spec (T:Tree l)(q:Int→Bool):∀n,thereN l n=true→
  (nearBy l q n=-1∧∀a∈wayN l n,a≠n→q a=false)∨
  (nearBy l q n∈wayN l n∧nearBy l q n≠n∧q (nearBy l q n)=true∧∀a∈wayN l n,a≠n→q a=true→a∈wayN l (nearBy l q n)):=by
 refine up_ind T (fun n hn h=>?_) (fun n hn h hu ih=>?_)
 ·left
  refine⟨find_top T q hn h,fun a ha hne=>?_⟩
  rw[way_top T hn h] at ha
  exact absurd (List.mem_singleton.1 ha) hne
 ·have hne:∀a∈wayN l (nd l n).parent,a≠n:=by
   intro a ha e
   subst e
   have h1:=way_step T hn h
   obtain⟨t,ht⟩:=way_cut T _ hu a ha
   rw[ht] at h1
   have:=congrArg List.length h1
   simp at this
   omega
  rw[find_step T q hn h]
  have hw:=way_step T hn h
  cases hq:q (nd l n).parent with
  | true=>
    rw[if_pos rfl]
    right
    refine⟨by rw[hw];exact List.mem_cons_of_mem _ (way_self T hu),hne _ (way_self T hu),hq,fun a ha hna _=>?_⟩
    rw[hw] at ha
    exact(List.mem_cons.1 ha).resolve_left hna
  | false=>
    rw[if_neg (by simp)]
    rcases ih with⟨h1,h2⟩|⟨h1,h2,h3,h4⟩
    ·left
     refine⟨h1,fun a ha hna=>?_⟩
     rw[hw] at ha
     have ha':=(List.mem_cons.1 ha).resolve_left hna
     by_cases e:a=(nd l n).parent
     ·rw[e];exact hq
     ·exact h2 a ha' e
    ·right
     refine⟨by rw[hw];exact List.mem_cons_of_mem _ h1,hne _ h1,h3,fun a ha hna hqa=>?_⟩
     rw[hw] at ha
     have ha':=(List.mem_cons.1 ha).resolve_left hna
     refine h4 a ha' (fun e=>?_) hqa
     rw[e,hq] at hqa;cases hqa
theorem first_some {r:Int}{v:ByteArray}{k:Int}(h:firstId l r v=some k):k∈ordN l l.length r∧attV (nd l k) idW=some v:=
 ⟨List.mem_of_find?_eq_some h,by have:=List.find?_some h;simpa using this⟩
theorem own_form (T:Tree l){n:Int}(hn:thereN l n=true)(h:ownN l n≠-1):thereN l (ownN l n)=true∧isForm (nd l (ownN l n))=true∧rootN l (ownN l n)=rootN l n∧(nd l n).kind=1:=by
 have hnear:nearN l n≠-1→thereN l (nearN l n)=true∧isForm (nd l (nearN l n))=true∧rootN l (nearN l n)=rootN l n:=by
  intro h
  rcases near_spec T (fun p=>isForm (nd l p)) n hn with⟨h1,_⟩|⟨h1,_,h3,_⟩
  ·exact absurd h1 h
  ·exact⟨way_there T n hn _ h1,h3,root_way T n hn _ h1⟩
 unfold ownN at h ⊢
 by_cases hk:(nd l n).kind=1
 ·rw [if_pos hk] at h ⊢
  cases ha:attV (nd l n) formW with
  | none=>
    rw[ha] at h
    exact⟨(hnear h).1,(hnear h).2.1,(hnear h).2.2,hk⟩
  | some v=>
    rw[ha] at h
    simp only at h ⊢
    by_cases hc:conN l n=true
    ·rw [if_pos hc] at h ⊢
     unfold byId at h ⊢
     cases hf:firstId l (rootN l n) v with
     |none=>rw[hf] at h;exact absurd rfl h
     | some k=>
       rw[hf] at h
       simp only at h ⊢
       by_cases e:v≠ ⟨#[]⟩∧isForm (nd l k)=true
       ·rw[if_pos e] at h ⊢
        obtain⟨h1,h2,h3⟩:=ord_root T (root_there T n hn).1 (first_some hf).1
        exact⟨h1,e.2,by rw[h3,root_self T hn],hk⟩
       ·rw[if_neg e] at h;exact absurd rfl h
    ·rw[if_neg hc] at h ⊢
     exact⟨(hnear h).1,(hnear h).2.1,(hnear h).2.2,hk⟩
 ·rw[if_neg hk] at h;exact absurd rfl h
def memR (l:List NodeM)(x:Int):List Int:=(ordN l l.length (rootN l x)).filter fun k=>decide (ownR l k=x)
end Go.Proofs.Heir
end
section
namespace Go.Proofs.Heir
open Go Go.Am Go.RowKit Go.Lib
set_option maxRecDepth 100000
set_option maxHeartbeats 8000000
variable {l : List NodeM}
end Go.Proofs.Heir
end
namespace Go.Proofs.Heir
open Go Go.Am Go.RowKit Go.Lib
set_option maxRecDepth 100000
set_option maxHeartbeats 8000000
structure OpM where
 kind:Int
 a:Int
 b:Int
 c:Int
 s:ByteArray
 t:ByteArray
 must:Bool
 deriving DecidableEq
@[reducible] def eOp (x : OpM) : AV := .agg [eInt x.kind, eInt x.a, eInt x.b, eInt x.c, eStr x.s, eStr x.t, eBool x.must]
def oOp (x:OpM):AV:=eOp x
@[reducible] def eOps (l : List OpM) : AV := .sl 7 (l.map oOp)
structure HookM where
 kind:Int
 prog:List OpM
 deriving DecidableEq
@[reducible] def eHook (x : HookM) : AV := .agg [eInt x.kind, eOps x.prog]
def oHook (x:HookM):AV:=eHook x
@[reducible] def eHooks (l : List HookM) : AV := .sl 2 (l.map oHook)
structure ClassM where
 form:Bool
 watch:List ByteArray
 peek:List OpM
 make:List OpM
 hooks:List HookM
 deriving DecidableEq
@[reducible] def eClass (x : ClassM) : AV := .agg [eBool x.form, eStrs x.watch, eOps x.peek, eOps x.make, eHooks x.hooks]
def oClass (x:ClassM):AV:=eClass x
@[reducible] def eClasses (l : List ClassM) : AV := .sl 5 (l.map oClass)
structure StateM where
 phase:Int
 df:Int
 owner:Int
 barred:Bool
 deriving DecidableEq
@[reducible] def eState (x : StateM) : AV := .agg [eInt x.phase, eInt x.df, eInt x.owner, eBool x.barred]
def oState (x:StateM):AV:=eState x
@[reducible] def eStates (l : List StateM) : AV := .sl 4 (l.map oState)
structure NoteM where
 kind:Int
 node:Int
 src:Int
 dst:Int
 name:ByteArray
 had:Bool
 has:Bool
 old:ByteArray
 new:ByteArray
 deriving DecidableEq
@[reducible] def eNote (x : NoteM) : AV := .agg [eInt x.kind, eInt x.node, eInt x.src, eInt x.dst, eStr x.name, eBool x.had, eBool x.has, eStr x.old, eStr x.new]
def oNote (x:NoteM):AV:=eNote x
@[reducible] def eNotes (l : List NoteM) : AV := .sl 9 (l.map oNote)
structure TodoM where
 kind:Int
 df:Int
 name:ByteArray
 had:Bool
 has:Bool
 old:ByteArray
 new:ByteArray
 src:Int
 dst:Int
 on:Bool
 deriving DecidableEq
@[reducible] def eTodo (x : TodoM) : AV := .agg [eInt x.kind, eInt x.df, eStr x.name, eBool x.had, eBool x.has, eStr x.old, eStr x.new, eInt x.src, eInt x.dst, eBool x.on]
def noTodo:TodoM:=⟨0,0,⟨#[]⟩,false,false,⟨#[]⟩,⟨#[]⟩,0,0,false⟩
structure DueN where
 node:Int
 todo:TodoM
 deriving DecidableEq
@[reducible] def eDueN (x : DueN) : AV := .agg [eInt x.node, eInt x.todo.kind, eInt x.todo.df, eStr x.todo.name, eBool x.todo.had, eBool x.todo.has, eStr x.todo.old, eStr x.todo.new, eInt x.todo.src, eInt x.todo.dst, eBool x.todo.on]
def oDueN (x:DueN):AV:=eDueN x
@[reducible] def eDuesN (l : List DueN) : AV := .sl 11 (l.map oDueN)
@[reducible] def rDuesN (l : List DueN) : MS := .live 11 (l.map oDueN) false
theorem noRef_duesN (l:List DueN):noRefL (l.map oDueN)=true:=noRefL_map oDueN (fun _=>rfl) l
theorem frz_duesN {m:ML}{fz:Nat→Bool}{tab:List (Nat×Nat)}{n t len:Nat}{ro:Bool}{rows:List AV}{l:List DueN}(h1:lkM m t=.live 11 rows ro)(h2:fz t=true)(h3:rows=l.map oDueN)(h4:len=l.length):FrzK m fz (MF tab fz m n) (eDuesN l) t 0 len:=by
 subst h3;subst h4
 have e:(l.map oDueN).length=l.length:=List.length_map ..
 exact .cut h1 h2 (by omega) (by rw[List.drop_zero,List.take_of_length_le (by omega)]) (noRef_duesN l)
theorem op_get {l:List OpM}{k:Nat}{x:OpM}(h:l[k]? =some x):(l.map oOp)[k]? =some (eOp x):=by rw[List.getElem?_map,h];rfl
theorem hook_get {l:List HookM}{k:Nat}{x:HookM}(h:l[k]? =some x):(l.map oHook)[k]? =some (eHook x):=by rw[List.getElem?_map,h];rfl
theorem class_get {l:List ClassM}{k:Nat}{x:ClassM}(h:l[k]? =some x):(l.map oClass)[k]? =some (eClass x):=by rw[List.getElem?_map,h];rfl
theorem state_get {l:List StateM}{k:Nat}{x:StateM}(h:l[k]? =some x):(l.map oState)[k]? =some (eState x):=by rw[List.getElem?_map,h];rfl
theorem note_get {l:List NoteM}{k:Nat}{x:NoteM}(h:l[k]? =some x):(l.map oNote)[k]? =some (eNote x):=by rw[List.getElem?_map,h];rfl
theorem dueN_get {l:List DueN}{k:Nat}{x:DueN}(h:l[k]? =some x):(l.map oDueN)[k]? =some (eDueN x):=by rw[List.getElem?_map,h];rfl
theorem noRef_ops (l:List OpM):noRefL (l.map oOp)=true:=noRefL_map oOp (fun _=>rfl) l
theorem noRef_hook (x:HookM):noRef (oHook x)=true:=by
 show noRef (.agg [eInt x.kind,.sl 7 (x.prog.map oOp)])=true
 simp[noRef,noRefL,noRef_ops]
def hookAt (l:List HookM)(k:Int):Option HookM:=l.find? fun h=>decide (h.kind=k)
def hooksT (l:List HookM):List (Int×HookM):=l.reverse.foldl (fun t h=>tput h.kind h t) []
theorem hooksT_get (k:Int):∀l:List HookM,tget k (hooksT l)=hookAt l k
 |[]=>rfl
 | h::r=>by
   have e:hooksT (h::r)=tput h.kind h (hooksT r):=by unfold hooksT;rw[List.reverse_cons,List.foldl_append];rfl
   rw[e,tget_put,hooksT_get k r]
   unfold hookAt
   rw[List.find?_cons]
   by_cases e:h.kind=k
   ·rw[if_pos e,decide_eq_true e]
   ·rw[if_neg e,decide_eq_false e]
def hearsC (c:ClassM)(k:Int):Bool:=(hookAt c.hooks k).isSome
def watchesC (c:ClassM)(s:ByteArray):Bool:=hearsC c 4&&hasW c.watch s
def classAt (s:StateM)(d:DeskM)(n:Nat):Int:=if 0≤s.df then match d.defs[s.df.toNat]? with
  |some x=>if 0≤x.cls∧x.cls<n then x.cls else-1
  |none=> -1
 else-1
def noClass:ClassM:=⟨false,[],[],[],[]⟩
def classV (s:StateM)(d:DeskM)(cs:List ClassM):ClassM:=if 0≤classAt s d cs.length then(cs[(classAt s d cs.length).toNat]?).getD noClass else noClass
def classB (s:StateM)(d:DeskM)(cs:List ClassM):Bool:=decide (0≤classAt s d cs.length)
theorem classAt_cases (s:StateM)(d:DeskM)(n:Nat):classAt s d n=-1∨∃k:Nat,k<n∧classAt s d n=k:=by
 unfold classAt
 split
 ·split
  ·split
   ·rename_i h;exact .inr ⟨_,by omega,(Int.toNat_of_nonneg h.1).symm⟩
   ·exact .inl rfl
  ·exact .inl rfl
 ·exact .inl rfl
structure ViewM where
 f:ForM
 states:List StateM
 desk:DeskM
 classes:List ClassM
@[reducible] def eView (v : ViewM) : AV := .agg [eNodes v.f.nodes, eInt v.f.most, eStates v.states, eDefs v.desk.defs, eWaits v.desk.waits, eInt v.desk.next, eBool v.desk.busy, eClasses v.classes]
def elemV (l:List NodeM)(n:Int):Bool:=thereN l n&&decide ((nd l n).kind=1)
def callT (x:NoteM):TodoM:=⟨x.kind,0,x.name,x.had,x.has,x.old,x.new,x.src,x.dst,false⟩
def asksV (f:ForM)(s:StateM)(d:DeskM)(cs:List ClassM)(x:NoteM):TodoM×Bool:=
 if s.phase=1 then(⟨9,fateF f x.node d,⟨#[]⟩,false,false,⟨#[]⟩,⟨#[]⟩,0,0,false⟩,decide (x.kind=1)&& !decide (fateF f x.node d=-1))
 else if s.phase=3 then
  if x.kind=4 then(callT x,(classB s d cs&&watchesC (classV s d cs) x.name)&&hearsC (classV s d cs) x.kind)
  else if x.kind=1∨x.kind=2∨x.kind=3 then(callT x,classB s d cs&&hearsC (classV s d cs) x.kind)
  else(noTodo,false)
 else(noTodo,false)
end Go.Proofs.Heir
namespace Go.Proofs.Heir
open Go Go.Am Go.RowKit Go.Shelf
set_option maxRecDepth 100000
set_option maxHeartbeats 8000000
theorem rows_box {Wn:Nat→Prop}{μ:Mu}{W:World}{wd:Nat}{rows:List AV}{b o:Nat}(h:Rep Wn μ W (.fptr (.sl wd rows) 0) (.pointer (some ⟨b,o,none⟩))):
  ∃ad cap,W.cell? ⟨b,o,none⟩=some (.slice ad rows.length cap)∧rows.length≤cap∧∀ (j:Nat) (r:AV),rows[j]? =some r→∃b2 o2 vs,ad=some ⟨b2,o2,none⟩∧List.length vs=wd∧(∀q v,vs[q]? =some v→W.cell? ⟨b2,o2+j*wd+q,none⟩=some v)∧∀ (q:Nat) (c:AV) (v:Value),(cells r)[q]? =some c→vs[q]? =some v→Rep Wn μ W c v:=by
 generalize hv:Value.pointer (some ⟨b,o,none⟩)=v at h
 cases h with
 | @fptr _ _ b' o' f h1 h2 h3 h4 h5=>
   cases hv
   have k3:=h3 0 _ rfl
   have k4:=h4 0 _ rfl
   rw[Nat.add_zero] at k3
   rw[Nat.add_zero,k3]
   generalize f 0=s at k4
   by_cases hne:rows=[]
   ·subst hne
    cases k4 with
    |slNil=>exact⟨_,_,rfl,Nat.zero_le _,fun j x h=>by simp at h⟩
    |sl a1 a2 a3 a4 a5 a6 a7 a8=>subst a3;exact⟨_,_,rfl,Nat.zero_le _,fun j x h=>by simp at h⟩
   ·cases k4 with
    |slNil=>exact absurd rfl hne
    | @sl _ _ b2 o2 cap _ fv a1 a2 a3 a4 a5 a6 a7 a8=>
      subst a3
      refine⟨_,_,rfl,a4,fun j r hr=>⟨b2,o2,(List.range wd).map fun q=>fv (j*wd+q),rfl,by simp,fun q v hv=>?_,fun q c v hc hv=>?_⟩⟩
      ·have hqw:q<wd:=by have:=(List.getElem?_eq_some_iff.1 hv).1;simpa using this
       have hcl:(cells r).length=wd:=a5 j _ hr
       obtain⟨c,hc⟩:∃c,(cells r)[q]? =some c:=⟨_,List.getElem?_eq_getElem (by omega)⟩
       have:=a6 _ _ (flat_get (wd:=wd) (fun i r hr=>a5 i r hr) hr hc)
       rw[Nat.add_assoc,this]
       rw[List.getElem?_map,List.getElem?_range hqw] at hv
       simpa using hv
      ·have hqw:q<wd:=by have:=(List.getElem?_eq_some_iff.1 hv).1;simpa using this
       rw[List.getElem?_map,List.getElem?_range hqw] at hv
       have hv':fv (j*wd+q)=v:=by simpa using hv
       rw[←hv']
       exact a7 _ _ (flat_get (wd:=wd) (fun i r hr=>a5 i r hr) hr hc)
theorem list2 {α:Type}:∀ {l:List α},l.length=2→∃a b,l=[a,b]
 |[a,b],_=>⟨a,b,rfl⟩
theorem backH_it (l:List HookM)(hl:l.length≤100000):ItOK Tryz.prog 258 [.fptr (eHooks l) 0] l.length (fun k=>[oInt ((l.length:Int)-1-k),eHook ((l.reverse[k]?).getD ⟨0,[]⟩)]):=by
 intro vals y J Jx hJ hJm hJxm _ hY Wn w h0
 obtain⟨⟨μ,hr⟩,_⟩:=hJ 0 Wn w h0
 obtain⟨vb,us,rfl,hvb,hus⟩:=RepL.uncons hr
 obtain rfl:=RepL.unnil hus
 obtain⟨b,o,rfl⟩:∃b o,vb=.pointer (some ⟨b,o,none⟩):=by cases hvb;exact⟨_,_,rfl⟩
 have box:∀k Wn W,J k Wn W→∃μ ad cap,W.cell? ⟨b,o,none⟩=some (.slice ad l.length cap)∧l.length≤cap∧∀ (j:Nat) (x:HookM),l[j]? =some x→∃b2 o2 a n c,ad=some ⟨b2,o2,none⟩∧W.cell? ⟨b2,o2+j*2,none⟩=some (.int .i64 x.kind)∧W.cell? ⟨b2,o2+j*2+1,none⟩=some (.slice a n c)∧Rep Wn μ W (eOps x.prog) (.slice a n c):=by
  intro k Wn W hJk
  obtain⟨⟨μ,hr⟩,_⟩:=hJ k Wn W hJk
  obtain⟨v1,us,e,hv1,_⟩:=RepL.uncons hr
  cases e
  obtain⟨ad,cap,h1,h2,h3⟩:=rows_box hv1
  rw[List.length_map] at h1 h2
  refine⟨μ,ad,cap,h1,h2,fun j x hx=>?_⟩
  obtain⟨b2,o2,vs,e,hlen,hc,hrep⟩:=h3 j _ (hook_get hx)
  obtain⟨v0,v1,rfl⟩:=list2 hlen
  have r0:=hrep 0 _ _ rfl rfl
  have r1:=hrep 1 _ _ rfl rfl
  have c0:=hc 0 _ rfl
  have c1:=hc 1 _ rfl
  obtain⟨a,n,c,rfl⟩:=sl_val r1
  obtain rfl:=r0.val
  exact⟨b2,o2,a,n,c,e,c0,c1,r1⟩
 refine(callsIn_wide (n:=1)).1 ?_
 refine callsIn_of_wp Tryz.func258 rfl trivial ?_ rfl
 simp only[Tryz.ntmps258,List.size_toArray,List.length_cons,List.length_nil,Nat.reduceAdd,Nat.reduceSub,Array.replicate_succ,Array.replicate_zero,List.push_toArray,List.append_toArray,List.nil_append,List.cons_append]
 obtain⟨μ0,ad,cap,hbx,hcap,hel⟩:=box 0 Wn w h0
 gi_wp2
 gi_loopw [3] (fun i wr=> ∃k:Nat,k≤l.length∧i=.int .i64 ((l.length:Int)-1-k)∧∃Wn,J k Wn wr) (fun i _=>(intOf i+1).toNat)
 case atStart=>exact⟨0,Nat.zero_le _,by simp,Wn,h0⟩
 case round=>
  obtain⟨k,hk,rfl,Wn',hJk⟩:=hrel
  obtain⟨μ',ad',cap',hbx',hcap',hel'⟩:=box k Wn' wr hJk
  by_cases hlt:k<l.length
  ·have hix:l.length-1-k<l.length:=by omega
   obtain⟨⟨x1,x2⟩,hx⟩:∃x,l[l.length-1-k]? =some x:=⟨_,List.getElem?_eq_getElem hix⟩
   obtain⟨b2,o2,pa,pn,pc,rfl,hc0,hc1,hrp⟩:=hel' _ _ hx
   simp only at hc0 hc1 hrp
   have hrev:(l.reverse[k]?).getD ⟨0,[]⟩=⟨x1,x2⟩:=by
    rw[List.getElem?_reverse (by omega),hx];rfl
   obtain⟨fn,tmps,assign,body,hy,hR⟩:=hY k Wn' wr [.int .i64 ((l.length:Int)-1-k),.agg #[.int .i64 x1,.slice pa pn pc]] hlt hJk (fun Wn'' μ'' hrA=>by
    rw[hrev]
    obtain⟨vA,usA,eA,hvA,_⟩:=RepL.uncons hrA
    cases eA
    obtain⟨adA,capA,hA1,hA2,hA3⟩:=rows_box hvA
    rw[List.length_map,hbx'] at hA1
    obtain⟨bA,oA,vsA,eA,hlenA,hcA,hrepA⟩:=hA3 _ _ (hook_get hx)
    cases hA1
    cases eA
    obtain⟨w0,w1,rfl⟩:=list2 hlenA
    have c1:=hcA 1 _ rfl
    rw[hc1] at c1
    cases c1
    refine .cons .lit (.cons (Rep.agg (vs:=[.int .i64 x1,.slice pa pn pc]) rfl ?_) .nil)
    rintro(_|_|j) c v hc hv
    ·cases hc;cases hv;exact .lit
    ·cases hc;cases hv;exact hrepA 1 _ _ rfl rfl
    ·simp at hv)
   have hz:((l.length:Int)-1-k).toNat=l.length-1-k:=by omega
   gi_wp2
   refine hR.mono ?_
   rintro e W3 (⟨rfl,Wn3,hJ3,_⟩|⟨rfl,hJx3⟩)
   ·gi_wp2
    go_roundw
    case rel=>exact⟨k+1,by omega,by congr 1;omega,Wn3,hJ3⟩
    case measure=>simp[intOf];omega
   ·gi_wp2
    refine bodyPost_ret (results_none rfl _ _ _) rfl ?_
    exact⟨⟨_,rfl⟩,.inr hJx3⟩
  ·obtain rfl:k=l.length:=by omega
   gi_wp2
   go_end0
   exact⟨⟨_,rfl⟩,.inl ⟨_,hJk⟩⟩
end Go.Proofs.Heir
namespace Go.Proofs.Heir
open Go Go.Am Go.RowKit Go.Lib
set_option maxRecDepth 100000
set_option maxHeartbeats 8000000
theorem f234_ok (l:List HookM):FnOK Tryz.prog 234 [] [eHooks l] [] (.clo (.func 258) [] [.fptr (eHooks l) 0]):=by
 refine FnOK.startC (rvs:=[.tmp 2]) G G_good Tryz.func234 rfl Tryz.ntmps234 rfl rfl ?_;with_reducible refine wD ?_
 refine⟨⟨rfl,rfl⟩,⟨rfl,trivial,⟨_,_,_,_,_,rfl,rfl,rfl,rfl,rfl,rfl⟩,trivial⟩,?_⟩
 exact trivial
@[reducible] def rHooksT (t : List (Int × HookM)) : MS := .live 2 (tRows vInt oHook t) false
theorem noRef_hookT (t:List (Int×HookM)):noRefL (tRows vInt oHook t)=true:=by
 rw[noRefL_iff];intro x hx
 obtain⟨a,_,rfl⟩:=List.mem_map.1 hx
 show noRef (.agg [.lit (vInt a.1),oHook a.2])=true
 simp[noRef,noRefL,noRef_hook]
theorem hookT_outs (t:List (Int×HookM)):okOuts [rHooksT t]:=by
 refine⟨Wide.of_mem fun r hr=>?_,noRef_hookT _,trivial⟩
 obtain⟨p,_,rfl⟩:=List.mem_map.1 hr
 rfl
theorem map99:MapTy Tryz.prog 242 (.int .i64) (.agg #[.int .i64 0,.slice none 0 0]):=⟨3,138,by kernel_rfl,by kernel_rfl,fun w=>Tryz.zeroValue138 w⟩
def hooksK (l:List HookM)(k:Nat):List (Int×HookM):=(l.reverse.take k).foldl (fun t h=>tput h.kind h t) []
theorem hooksK_all (l:List HookM):hooksK l l.length=hooksT l:=by unfold hooksK hooksT;rw[List.take_of_length_le (by simp)]
theorem hooksK_step {l:List HookM}{k:Nat}{h:HookM}(hh:l.reverse[k]? =some h):hooksK l (k+1)=tput h.kind h (hooksK l k):=by
 unfold hooksK
 rw[List.take_add_one,hh,List.foldl_append];rfl
theorem hooksK_len (l:List HookM):∀k,(hooksK l k).length≤k
 |0=>Nat.le_refl _
 | k +1=>by
   have h:=hooksK_len l k
   cases e:l.reverse[k]? with
   | none=>
     have:hooksK l (k+1)=hooksK l k:=by unfold hooksK;rw[List.take_add_one,e];simp
     rw[this];omega
   | some x=>
     rw[hooksK_step e,tput_length]
     split<;>omega
theorem f187_ok (c:ClassM)(hc:c.hooks.length≤100000):FnOK Tryz.prog 187 [] [eClass c] [rHooksT (hooksT c.hooks)] (.mapr 0):=by
 obtain⟨c1,c2,c3,c4,c5⟩:=c
 simp only at hc ⊢
 refine FnOK.startC (rvs:=[.tmp 2]) G G_good Tryz.func187 rfl Tryz.ntmps187 rfl rfl ?_;with_reducible refine wD ?_
 refine cV (f234_ok c5) c234 ?_;with_reducible refine wK ?_
 repeat' (first
  |refine gK ?_|refine aE ?_ ?_
  |apply trivial)
 refine LoopK.range G G_good 2 [(1,.ptr 1 0 0),(3,.ptr 0 0 0),(9,.clo (.func 258) [] [.fptr (eHooks c5) 0])]
  (fun k=>[(0,.live 1 [.mapr 61] false),(1,.live 5 [eClass ⟨c1,c2,c3,c4,c5⟩] false),(61,rHooksT (hooksK c5 k))])
  (backH_it c5 hc) c258 ?_ rfl ⟨⟨rfl,rfl⟩,rfl⟩ (fun _ _=>rfl) (fun _ _=>rfl) ⟨⟨rfl,rfl⟩,rfl,rfl⟩ ?_ ?_
 ·(refine fK ?_;(with_reducible repeat' (first|exact trivial|(show _∧_;refine aK ?_ ?_)));(all_goals try rfl))
  ·exact⟨.refl rfl,rfl⟩
  ·exact⟨.refl rfl,rfl⟩
 ·intro k hk
  obtain⟨⟨x1,x2⟩,hx⟩:∃x,c5.reverse[k]? =some x:=⟨_,List.getElem?_eq_getElem (by simpa using hk)⟩
  rw[hx,Option.getD_some]
  have hst:=hooksK_step hx
  have hle:=hooksK_len c5 k
  with_reducible refine wK ?_
  refine BodyK.mk rfl ?_;with_reducible refine wK ?_
  repeat' (first
  |refine gK ?_|refine aE ?_ ?_
  |apply trivial)
  refine PutK.tab vInt oHook (hooksK c5 k) (k:=x1) ⟨x1,x2⟩ map99 rfl key_int inj_int (by unfold maxLen;omega) rfl ?_;with_reducible refine wK ?_
  simp only at hst
  rw[←hst]
  repeat' (first
  |refine gK ?_|refine aE ?_ ?_
  |apply trivial)
  refine TurnK.mk ?_
  (refine fK ?_;(with_reducible repeat' (first|exact trivial|(show _∧_;refine aK ?_ ?_)));(all_goals try rfl))
  ·exact⟨.refl rfl,rfl⟩
  ·exact⟨.refl (noRef_hookT _),noRef_hookT _⟩
 ·with_reducible refine wK ?_
  rw[hooksK_all]
  (refine eK ?_ ?_<;>with_reducible repeat' (first|exact trivial|(show _∧_;refine aK ?_ ?_)))
  exact MFL_refl (noRef_hookT _)
theorem f119_ok (c:ClassM)(hc:c.hooks.length≤100000)(k:Int):FnOK Tryz.prog 119 [] [eClass c,eInt k] [] (eBool (hearsC c k)):=by
 have h53:=f187_ok c hc
 have hg:=hooksT_get k c.hooks
 unfold hearsC
 rw[←hg]
 obtain⟨c1,c2,c3,c4,c5⟩:=c
 simp only at h53 ⊢
 refine FnOK.startC (rvs:=[.tmp 4]) G G_good Tryz.func119 rfl Tryz.ntmps119 rfl rfl ?_;with_reducible refine wD ?_
 refine CallK.new 91 [] h53 c187 ⟨⟨rfl,rfl,rfl,rfl,rfl,trivial⟩,trivial⟩ rfl rfl rfl (hookT_outs _) rfl ?_;with_reducible refine wK ?_
 refine LookK.tab vInt oHook (hooksT c5) (k:=k) (zv:=.agg [eInt 0,.lit (.slice none 0 0)]) map99 ⟨_,_,rfl⟩ key_int inj_int rfl rfl (fun x hx=>?_) (fun hx=>?_)
 ·rw[show oHook x=eHook x from rfl,hx]
  obtain⟨x1,x2⟩:=x
  with_reducible refine wK ?_
  repeat' (first
  |refine gK ?_|refine aE ?_ ?_
  |apply trivial)
  all_goals rfl
 ·rw[hx]
  with_reducible refine wK ?_
  repeat' (first
  |refine gK ?_|refine aE ?_ ?_
  |apply trivial)
  all_goals rfl
theorem f118_ok (c:ClassM)(hc:c.hooks.length≤100000)(hw:c.watch.length≤100000)(s:ByteArray):FnOK Tryz.prog 118 [] [eClass c,eStr s] [] (eBool (watchesC c s)):=by
 have h25:=f119_ok c hc 4
 have h55:=f184_ok c.watch hw s
 unfold watchesC
 obtain⟨c1,c2,c3,c4,c5⟩:=c
 simp only at h25 h55 ⊢
 refine FnOK.startC (rvs:=[.tmp 4]) G G_good Tryz.func118 rfl Tryz.ntmps118 rfl rfl ?_;with_reducible refine wD ?_
 cases e1:hearsC ⟨c1,c2,c3,c4,c5⟩ 4<;>rw[e1] at h25
 ·repeat' (first
  |refine gK ?_|refine aE ?_ ?_
  |(((with_reducible refine kQ 119 ?_);refine cL h25 c119 ?_)<;>with_reducible refine wK ?_)
  |apply trivial)
  all_goals rfl
 ·repeat' (first
  |refine gK ?_|refine aE ?_ ?_
  | ((first
   |((with_reducible refine kQ 119 ?_);refine cL h25 c119 ?_)
   |((with_reducible refine kQ 184 ?_);refine cL h55 c184 ?_))<;>with_reducible refine wK ?_)
  |apply trivial)
  all_goals rw[Bool.true_and]
theorem classV_no {s:StateM}{d:DeskM}{cs:List ClassM}(h:classAt s d cs.length=-1):classV s d cs=noClass∧classB s d cs=false:=by
 unfold classV classB
 rw[h];exact⟨rfl,rfl⟩
theorem classV_at {s:StateM}{d:DeskM}{cs:List ClassM}{k:Nat}{c:ClassM}(h:classAt s d cs.length=k)(hc:cs[k]? =some c):classV s d cs=c∧classB s d cs=true:=by
 unfold classV classB
 rw[h,if_pos (by omega),Int.toNat_natCast,hc]
 exact⟨rfl,decide_eq_true (by omega)⟩
theorem class_cases (s:StateM)(d:DeskM)(cs:List ClassM):(s.df<0∧classAt s d cs.length=-1)∨(¬s.df<0∧(d.defs.length:Int)≤s.df∧classAt s d cs.length=-1)∨
  ∃ (n:Nat) (x:DefM),s.df=n∧d.defs[n]? =some x∧(((x.cls<0)∧classAt s d cs.length=-1)∨(¬x.cls<0∧(cs.length:Int)≤x.cls∧classAt s d cs.length=-1)∨∃ (m:Nat) (c:ClassM),x.cls=m∧cs[m]? =some c∧classAt s d cs.length=m):=by
 by_cases h1:s.df<0
 ·exact .inl ⟨h1,by unfold classAt;rw[if_neg (by omega)]⟩
 obtain⟨n,hn⟩:∃n:Nat,s.df=n:=⟨_,(Int.toNat_of_nonneg (by omega)).symm⟩
 have e:classAt s d cs.length=match d.defs[n]? with
  |some x=>if 0≤x.cls∧x.cls<cs.length then x.cls else-1
  |none=> -1:=by unfold classAt;rw[if_pos (by omega),hn,Int.toNat_natCast]<;>(cases d.defs[n]? <;>rfl)
 by_cases h2:(d.defs.length:Int)≤s.df
 ·exact .inr (.inl ⟨h1,h2,by rw[e,List.getElem?_eq_none (by omega)]⟩)
 obtain⟨x,hx⟩:∃x,d.defs[n]? =some x:=⟨_,List.getElem?_eq_getElem (by omega)⟩
 rw[hx] at e
 simp only at e
 refine .inr (.inr ⟨n,x,hn,hx,?_⟩)
 by_cases h3:x.cls<0
 ·exact .inl ⟨h3,by rw[e,if_neg (by omega)]⟩
 by_cases h4:(cs.length:Int)≤x.cls
 ·exact .inr (.inl ⟨h3,h4,by rw[e,if_neg (by omega)]⟩)
 obtain⟨m,hm⟩:∃m:Nat,x.cls=m:=⟨_,(Int.toNat_of_nonneg (by omega)).symm⟩
 exact .inr (.inr ⟨m,_,hm,List.getElem?_eq_getElem (by omega),by rw[e,if_pos (by omega),hm]⟩)
theorem f117_ok (s:StateM)(d:DeskM)(cs:List ClassM):FnOK Tryz.prog 117 [] [eState s,eDesk d,eClasses cs] [] (.tup [eClass (classV s d cs),eBool (classB s d cs)]):=by
 have hd:=(show(d.defs.map oDef).length=d.defs.length from List.length_map ..)
 have hcs:=(show(cs.map oClass).length=cs.length from List.length_map ..)
 rcases class_cases s d cs with⟨h1,h2⟩|⟨h1,h2,h3⟩|⟨n,⟨x1,x2,x3⟩,hn,hx,⟨h1,h2⟩|⟨h1,h2,h3⟩|⟨m,⟨c1,c2,c3,c4,c5⟩,hm,hc,h1⟩⟩
 ·rw[(classV_no h2).1,(classV_no h2).2]
  obtain⟨s1,s2,s3,s4⟩:=s
  obtain⟨d1,d2,d3,d4⟩:=d
  simp only at h1
  refine FnOK.startC (rvs:=[.cell 6 53,.tmp 7]) G G_good Tryz.func117 rfl Tryz.ntmps117 rfl rfl ?_;with_reducible refine wD ?_
  (have fct:=(eq_true h1);(repeat' (first
  |refine gF ?_|refine aE ?_ ?_
  |apply trivial));all_goals clear fct)
  all_goals first|rfl|exact .inr (.inr ⟨_,rfl⟩)
 ·rw[(classV_no h3).1,(classV_no h3).2]
  obtain⟨s1,s2,s3,s4⟩:=s
  obtain⟨d1,d2,d3,d4⟩:=d
  simp only at h1 h2 hd
  refine FnOK.startC (rvs:=[.cell 6 53,.tmp 7]) G G_good Tryz.func117 rfl Tryz.ntmps117 rfl rfl ?_;with_reducible refine wD ?_
  (have fct:=And.intro (eq_false h1) (And.intro hd ((eq_true h2)));(repeat' (first
  |refine gF ?_|refine aE ?_ ?_
  |apply trivial));all_goals clear fct)
  all_goals first|rfl|exact .inr (.inr ⟨_,rfl⟩)
 ·rw[(classV_no h2).1,(classV_no h2).2]
  obtain⟨s1,s2,s3,s4⟩:=s
  obtain⟨d1,d2,d3,d4⟩:=d
  simp only at h1 hn hx hd
  subst hn
  have hl:=(List.getElem?_eq_some_iff.1 hx).1
  refine FnOK.startC (rvs:=[.cell 6 53,.tmp 7]) G G_good Tryz.func117 rfl Tryz.ntmps117 rfl rfl ?_;with_reducible refine wD ?_
  (have fct:=And.intro hd ((eq_true h1));(repeat' (first
  |refine pF ?_|refine aE ?_ ?_
  | ((first
   |((with_reducible show IfK _ _ _ _);(refine IfK.mk (fun hp=>?_) (fun hp=>?_)<;>(try simp only[castN,decide_eq_true_eq,decide_eq_false_iff_not,Bool.not_eq_true',Bool.not_eq_false',Decidable.not_not,Int.not_lt,Int.not_le] at hp)))
   |((with_reducible show IdxK _ _ _ _ _);refine IdxK.mk n (eDef ⟨x1,x2,x3⟩) rfl (def_get hx) ?_))<;>with_reducible refine wK ?_)
  |apply trivial));all_goals clear fct)
  all_goals first|rfl|exact .inr (.inr ⟨_,rfl⟩)
 ·rw[(classV_no h3).1,(classV_no h3).2]
  obtain⟨s1,s2,s3,s4⟩:=s
  obtain⟨d1,d2,d3,d4⟩:=d
  simp only at h1 h2 hn hx hd
  subst hn
  have hl:=(List.getElem?_eq_some_iff.1 hx).1
  refine FnOK.startC (rvs:=[.cell 6 53,.tmp 7]) G G_good Tryz.func117 rfl Tryz.ntmps117 rfl rfl ?_;with_reducible refine wD ?_
  (have fct:=And.intro hd (And.intro hcs (And.intro (eq_false h1) ((eq_true h2))));(repeat' (first
  |refine pF ?_|refine aE ?_ ?_
  | ((first
   |((with_reducible show IfK _ _ _ _);(refine IfK.mk (fun hp=>?_) (fun hp=>?_)<;>(try simp only[castN,decide_eq_true_eq,decide_eq_false_iff_not,Bool.not_eq_true',Bool.not_eq_false',Decidable.not_not,Int.not_lt,Int.not_le] at hp)))
   |((with_reducible show IdxK _ _ _ _ _);refine IdxK.mk n (eDef ⟨x1,x2,x3⟩) rfl (def_get hx) ?_))<;>with_reducible refine wK ?_)
  |apply trivial));all_goals clear fct)
  all_goals first|rfl|exact .inr (.inr ⟨_,rfl⟩)
 ·rw[(classV_at h1 hc).1,(classV_at h1 hc).2]
  obtain⟨s1,s2,s3,s4⟩:=s
  obtain⟨d1,d2,d3,d4⟩:=d
  simp only at hm hn hx hd
  subst hn
  subst hm
  have hl:=(List.getElem?_eq_some_iff.1 hx).1
  have hl2:=(List.getElem?_eq_some_iff.1 hc).1
  refine FnOK.startC (rvs:=[.cell 6 53,.tmp 7]) G G_good Tryz.func117 rfl Tryz.ntmps117 rfl rfl ?_;with_reducible refine wD ?_
  (have fct:=And.intro hd (hcs);(repeat' (first
  |refine pF ?_|refine aE ?_ ?_
  | ((first
   |((with_reducible show IfK _ _ _ _);(refine IfK.mk (fun hp=>?_) (fun hp=>?_)<;>(try simp only[castN,decide_eq_true_eq,decide_eq_false_iff_not,Bool.not_eq_true',Bool.not_eq_false',Decidable.not_not,Int.not_lt,Int.not_le] at hp)))
   |((with_reducible show IdxK _ _ _ _ _);first|refine IdxK.mk n (eDef ⟨x1,x2,(m:Int)⟩) rfl (def_get hx) ?_|refine IdxK.mk m (eClass ⟨c1,c2,c3,c4,c5⟩) rfl (class_get hc) ?_))<;>with_reducible refine wK ?_)
  |apply trivial));all_goals clear fct)
  all_goals trace_state
def lookV (f:ForM)(st:List StateM)(d:DeskM):Bool:=(decide (st.length=f.nodes.length)&&rightF f)&&rightD d
theorem f115_ok (f:ForM)(hs:SmallN f.nodes)(st:List StateM)(d:DeskM)(hd:SmallD d)(cs:List ClassM):FnOK Tryz.prog 115 [] [eFor f,eStates st,eDesk d,eClasses cs] [] (.tup [eView ⟨f,st,d,cs⟩,eBool (lookV f st d)]):=by
 have h48:=f100_ok f hs
 have h62:=f144_ok d hd
 unfold lookV
 have hst:=(show(st.map oState).length=st.length from List.length_map ..)
 have hlm:=(show(f.nodes.map oNode).length=f.nodes.length from List.length_map ..)
 obtain⟨l,m⟩:=f
 obtain⟨d1,d2,d3,d4⟩:=d
 simp only at h48 h62 hlm ⊢
 refine FnOK.startC (rvs:=[.cell 8 173,.tmp 9]) G G_good Tryz.func115 rfl Tryz.ntmps115 rfl rfl ?_;with_reducible refine wD ?_
 by_cases e1:st.length=l.length
 ·cases e2:rightF ⟨l,m⟩<;>rw[e2] at h48
  ·(have fct:=And.intro hst (And.intro hlm ((eq_true e1)));(repeat' (first
  |refine gF ?_|refine aE ?_ ?_
  |(((with_reducible refine kQ 100 ?_);refine cL h48 c100 ?_)<;>with_reducible refine wK ?_)
  | apply trivial));all_goals clear fct)
   all_goals simp[e1]
  ·cases e3:rightD ⟨d1,d2,d3,d4⟩<;>rw[e3] at h62
   ·(have fct:=And.intro hst (And.intro hlm ((eq_true e1)));(repeat' (first
  |refine gF ?_|refine aE ?_ ?_
  | ((first
   |((with_reducible refine kQ 100 ?_);refine cL h48 c100 ?_)
   |((with_reducible refine kQ 144 ?_);refine cL h62 c144 ?_))<;>with_reducible refine wK ?_)
  | apply trivial));all_goals clear fct)
    all_goals simp[e1]
   ·(have fct:=And.intro hst (And.intro hlm ((eq_true e1)));(repeat' (first
  |refine gF ?_|refine aE ?_ ?_
  | ((first
   |((with_reducible refine kQ 100 ?_);refine cL h48 c100 ?_)
   |((with_reducible refine kQ 144 ?_);refine cL h62 c144 ?_))<;>with_reducible refine wK ?_)
  | apply trivial));all_goals clear fct)
    all_goals simp[e1]
 ·(have fct:=And.intro hst (And.intro hlm ((eq_false e1)));(repeat' (first
  |refine gF ?_|refine aE ?_ ?_
  |apply trivial));all_goals clear fct)
  all_goals simp[e1]
theorem f116_ok (v:ViewM)(n:Int):FnOK Tryz.prog 116 [] [eView v,eInt n] [] (eBool (elemV v.f.nodes n)):=by
 obtain⟨⟨l,m⟩,st,⟨d1,d2,d3,d4⟩,cs⟩:=v
 have hlm:=(show(l.map oNode).length=l.length from List.length_map ..)
 unfold elemV
 simp only
 refine FnOK.startC (rvs:=[.tmp 4]) G G_good Tryz.func116 rfl Tryz.ntmps116 rfl rfl ?_;with_reducible refine wD ?_
 cases e:thereN l n with
 | false=>
   by_cases h0:0≤n
   ·have h1:¬n< (l.length:Int):=fun h=>by unfold thereN at e;rw[decide_eq_true h0,decide_eq_true h] at e;cases e
    (have fct:=And.intro hlm (And.intro (eq_true h0) ((eq_false h1)));(repeat' (first
  |refine gF ?_|refine aE ?_ ?_
  | apply trivial));all_goals clear fct)
    all_goals rfl
   ·(have fct:=(eq_false h0);(repeat' (first
  |refine gF ?_|refine aE ?_ ?_
  | apply trivial));all_goals clear fct)
    all_goals rfl
 | true=>
   obtain⟨i,y,rfl,hy,hny⟩:=there_iff.1 e
   rw[hny]
   have h1:(i:Int)< (l.length:Int):=by have:=(List.getElem?_eq_some_iff.1 hy).1;omega
   obtain⟨a1,a2,a3,a4,a5,a6,a7,a8,a9,a10⟩:=y
   (have fct:=And.intro hlm ((eq_true h1));(repeat' (first
  |refine gF ?_|refine aE ?_ ?_
  |(((with_reducible show IdxK _ _ _ _ _);refine IdxK.mk i (eNode _) rfl (node_get hy) ?_)<;>with_reducible refine wK ?_)
  | apply trivial));all_goals clear fct)
   all_goals simp
structure SmallK (c:ClassM):Prop where
 hooks:c.hooks.length≤100000
 watch:c.watch.length≤100000
 peek:c.peek.length≤100000
 make:c.make.length≤100000
 progs:∀h∈c.hooks,h.prog.length≤100000
def SmallC (cs:List ClassM):Prop:=∀c∈cs,SmallK c
theorem small_noClass:SmallK noClass:=⟨by decide,by decide,by decide,by decide,fun h hh=>by simp[noClass] at hh⟩
theorem small_classV {cs:List ClassM}(h:SmallC cs)(s:StateM)(d:DeskM):SmallK (classV s d cs):=by
 rcases classAt_cases s d cs.length with e|⟨k,hk,e⟩
 ·rw[(classV_no e).1];exact small_noClass
 ·rw[(classV_at e (List.getElem?_eq_getElem hk)).1];exact h _ (List.getElem_mem hk)
theorem f167_ok (f:ForM)(hs:SmallN f.nodes)(st:List StateM)(d:DeskM)(hd:SmallD d)(cs:List ClassM)(hc:SmallC cs)(x:NoteM)(i:Nat)(s:StateM)(hi:x.node=i)(hx:st[i]? =some s):FnOK Tryz.prog 167 [] [eView ⟨f,st,d,cs⟩,eNote x] [] (.tup [eTodo (asksV f s d cs x).1,eBool (asksV f s d cs x).2]):=by
 have h15:=f58_ok f hs i d hd
 have h32:=f117_ok s d cs
 have hcv:=small_classV hc s d
 have h27:=fun n=>f118_ok (classV s d cs) hcv.hooks hcv.watch n
 have h25:=fun k=>f119_ok (classV s d cs) hcv.hooks k
 obtain⟨x1,x2,x3,x4,x5,x6,x7,x8,x9⟩:=x
 simp only at hi
 subst hi
 unfold asksV callT noTodo
 simp only
 generalize fateF f i d=at' at h15 ⊢
 generalize classB s d cs=cb at h32 ⊢
 generalize classV s d cs=c at h32 h27 h25 ⊢
 obtain⟨l,m⟩:=f
 obtain⟨d1,d2,d3,d4⟩:=d
 obtain⟨s1,s2,s3,s4⟩:=s
 simp only at h15 h32 ⊢
 refine FnOK.startC (rvs:=[.cell 4 59,.tmp 5]) G G_good Tryz.func167 rfl Tryz.ntmps167 rfl rfl ?_;with_reducible refine wD ?_
 refine IdxK.mk i (eState _) rfl (state_get hx) ?_;with_reducible refine wK ?_
 by_cases p1:s1=1
 ·subst p1
  rw[if_pos rfl]
  by_cases k1:x1=1
  ·subst k1
   repeat' (first
  |refine gK ?_|refine aE ?_ ?_
  |(((with_reducible refine kQ 58 ?_);refine cL h15 c58 ?_)<;>with_reducible refine wK ?_)
  | apply trivial)
   all_goals first|rfl|simp
  ·(have fct:=(eq_false k1);(repeat' (first
  |refine gF ?_|refine aE ?_ ?_
  |(((with_reducible refine kQ 58 ?_);refine cL h15 c58 ?_)<;>with_reducible refine wK ?_)
  | apply trivial));all_goals clear fct)
   all_goals first|rfl|simp[k1]
 rw[if_neg p1]
 by_cases p3:s1=3
 ·subst p3
  rw[if_pos rfl]
  obtain⟨c1,c2,c3,c4,c5⟩:=c
  have h27':=h27 x5
  have h25':=h25 x1
  clear h27 h25
  refine IfK.no rfl ?_;with_reducible refine wK ?_
  refine IfK.yes rfl ?_;with_reducible refine wK ?_
  refine cV h32 c117 ?_;with_reducible refine wK ?_
  by_cases k4:x1=4
  ·subst k4
   rw[if_pos rfl]
   cases cb with
   | false=>
     repeat' (first
  |refine gK ?_|refine aE ?_ ?_
  | apply trivial)
     all_goals first|rfl|simp
   | true=>
     cases e:watchesC ⟨c1,c2,c3,c4,c5⟩ x5<;>rw[e] at h27'
     ·repeat' (first
  |refine gK ?_|refine aE ?_ ?_
  |(((with_reducible refine kQ 118 ?_);refine cL h27' c118 ?_)<;>with_reducible refine wK ?_)
  |apply trivial)
      all_goals first|rfl|simp
     ·repeat' (first
  |refine gK ?_|refine aE ?_ ?_
  | ((first
   |((with_reducible refine kQ 118 ?_);refine cL h27' c118 ?_)
   |((with_reducible refine kQ 119 ?_);refine cL h25' c119 ?_))<;>with_reducible refine wK ?_)
  |apply trivial)
      all_goals first|rfl|simp
  rw[if_neg k4]
  by_cases k:x1=1∨x1=2∨x1=3
  ·rw[if_pos k]
   rcases k with rfl|rfl|rfl
   ·repeat' (first
  |refine gK ?_|refine aE ?_ ?_
  | apply trivial)
    cases cb
    ·repeat' (first
  |refine gK ?_|refine aE ?_ ?_
  | apply trivial)
     all_goals first|rfl|simp
    ·repeat' (first
  |refine gK ?_|refine aE ?_ ?_
  |(((with_reducible refine kQ 119 ?_);refine cL h25' c119 ?_)<;>with_reducible refine wK ?_)
  | apply trivial)
     all_goals first|rfl|simp
   ·repeat' (first
  |refine gK ?_|refine aE ?_ ?_
  | apply trivial)
    cases cb
    ·repeat' (first
  |refine gK ?_|refine aE ?_ ?_
  | apply trivial)
     all_goals first|rfl|simp
    ·repeat' (first
  |refine gK ?_|refine aE ?_ ?_
  |(((with_reducible refine kQ 119 ?_);refine cL h25' c119 ?_)<;>with_reducible refine wK ?_)
  | apply trivial)
     all_goals first|rfl|simp
   ·repeat' (first
  |refine gK ?_|refine aE ?_ ?_
  | apply trivial)
    cases cb
    ·repeat' (first
  |refine gK ?_|refine aE ?_ ?_
  | apply trivial)
     all_goals first|rfl|simp
    ·repeat' (first
  |refine gK ?_|refine aE ?_ ?_
  |(((with_reducible refine kQ 119 ?_);refine cL h25' c119 ?_)<;>with_reducible refine wK ?_)
  |apply trivial)
     all_goals first|rfl|simp
  ·rw[if_neg k]
   have k1:¬x1=1:=fun h=>k (.inl h)
   have k2:¬x1=2:=fun h=>k (.inr (.inl h))
   have k3:¬x1=3:=fun h=>k (.inr (.inr h))
   (have fct:=And.intro (eq_false k1) (And.intro (eq_false k2) (And.intro (eq_false k3) ((eq_false k4))));(repeat' (first
  |refine gF ?_|refine aE ?_ ?_
  | apply trivial));all_goals clear fct)
   all_goals first|rfl|simp
 ·rw[if_neg p3]
  (have fct:=And.intro (eq_false p1) ((eq_false p3));(repeat' (first
  |refine gF ?_|refine aE ?_ ?_
  |apply trivial));all_goals clear fct)
  all_goals first|rfl|simp
def stOf (st:List StateM)(n:Int):StateM:=(st[n.toNat]?).getD ⟨0,0,0,false⟩
def dueV (f:ForM)(st:List StateM)(d:DeskM)(cs:List ClassM)(x:NoteM):List DueN:=
 if elemV f.nodes x.node=true then(if(asksV f (stOf st x.node) d cs x).2=true then[⟨x.node,(asksV f (stOf st x.node) d cs x).1⟩] else[]) else[]
def dueL (f:ForM)(st:List StateM)(d:DeskM)(cs:List ClassM)(ns:List NoteM):List DueN:=if lookV f st d=true then ns.flatMap (dueV f st d cs) else[]
theorem dueV_len (f:ForM)(st:List StateM)(d:DeskM)(cs:List ClassM)(x:NoteM):(dueV f st d cs x).length≤1:=by
 unfold dueV
 split
 ·split<;>simp
 ·simp
theorem flat_len {α β:Type}(g:α→List β)(h:∀x,(g x).length≤1):∀l:List α,(l.flatMap g).length≤l.length
 |[]=>Nat.le_refl _
 | a::r=>by
   have:=flat_len g h r
   have:=h a
   rw[List.flatMap_cons,List.length_append,List.length_cons];omega
theorem flat_step {α β:Type}(g:α→List β){l:List α}{k:Nat}{x:α}(h:l[k]? =some x):(l.take (k+1)).flatMap g=(l.take k).flatMap g++g x:=by
 rw[take_snocI h,List.flatMap_append]
 congr 1
 rw[List.flatMap_cons];simp
theorem elem_at {l:List NodeM}{st:List StateM}{n:Int}(h:elemV l n=true)(hl:st.length=l.length):∃ (i:Nat) (s:StateM),n=i∧st[i]? =some s∧stOf st n=s:=by
 unfold elemV at h
 rw[Bool.and_eq_true] at h
 obtain⟨i,y,rfl,hy,_⟩:=there_iff.1 h.1
 have hi:=(List.getElem?_eq_some_iff.1 hy).1
 have hs:st[i]? =some st[i]:=List.getElem?_eq_getElem (by omega)
 exact⟨i,_,rfl,hs,by unfold stOf;rw[Int.toNat_natCast,hs];rfl⟩
theorem f103_ok (f:ForM)(hs:SmallN f.nodes)(st:List StateM)(d:DeskM)(hd:SmallD d)(cs:List ClassM)(hc:SmallC cs)(ns:List NoteM)(hns:ns.length≤100000):FnOK Tryz.prog 103 [] [eFor f,eStates st,eDesk d,eClasses cs,eNotes ns] [] (eDuesN (dueL f st d cs ns)):=by
 have h57:=f115_ok f hs st d hd cs
 have h58:=fun n=>f116_ok ⟨f,st,d,cs⟩ n
 have h59:=fun x i s=>f167_ok f hs st d hd cs hc x i s
 have hlm:(ns.map oNote).length=ns.length:=List.length_map ..
 unfold dueL
 cases e0:lookV f st d with
 | false=>
   rw[e0] at h57
   obtain⟨l,m⟩:=f
   obtain⟨d1,d2,d3,d4⟩:=d
   try simp only at h57
   refine FnOK.startC (rvs:=[.tmp 10]) G G_good Tryz.func103 rfl Tryz.ntmps103 rfl rfl ?_;with_reducible refine wD ?_
   repeat' (first
  |refine gK ?_|refine aE ?_ ?_
  |(((with_reducible refine kQ 115 ?_);refine cV h57 c115 ?_)<;>with_reducible refine wK ?_)
  | apply trivial)
   all_goals exact .inr (.inr ⟨_,rfl⟩)
 | true =>
   rw[e0] at h57
   rw[if_pos rfl]
   obtain⟨ks,hks⟩:∃ks:Nat→List DueN,ks=fun k=>(ns.take k).flatMap (dueV f st d cs):=⟨_,rfl⟩
   have hkl:∀k,(ks k).length≤k:=fun k=>by
    rw[hks];exact Nat.le_trans (flat_len _ (dueV_len f st d cs) _) (by rw[List.length_take];omega)
   have hk0:ks 0=[]:=by rw[hks];rfl
   have hke:ks ns.length=ns.flatMap (dueV f st d cs):=by rw[hks];show List.flatMap _ (ns.take ns.length)=_;rw[List.take_length]
   have hstep:∀ (k:Nat) (x:NoteM),ns[k]? =some x→ks (k+1)=ks k++dueV f st d cs x:=fun k x hx=>by rw[hks];exact flat_step _ hx
   have hle:st.length=f.nodes.length:=by unfold lookV at e0;simp only[Bool.and_eq_true,decide_eq_true_eq] at e0;exact e0.1.1
   rw[←hke]
   unfold dueV at hstep
   clear hks hke
   generalize hf:f.nodes=ls at hle hstep
   have hst:=fun n (h:elemV ls n=true)=>elem_at (st:=st) h hle
   obtain⟨l,m⟩:=f
   obtain⟨d1,d2,d3,d4⟩:=d
   try simp only at h57 h58 hf
   subst hf
   refine FnOK.startC (rvs:=[.tmp 10]) G G_good Tryz.func103 rfl Tryz.ntmps103 rfl rfl ?_;with_reducible refine wD ?_
   refine cV h57 c115 ?_;with_reducible refine wK ?_
   repeat' (first
  |refine gK ?_|refine aE ?_ ?_
  | apply trivial)
   refine LoopK.ghost 13 131 11 rfl rfl ?_
   refine LoopK.use G G_good (fun(k:Nat)=>[(11,.ptr 110 0 0),(13,.own 131 0 (ks k).length),(28,eNotes ns),(29,eInt ns.length),(30,eInt k)])
    (fun k=>[(110,.live 8 [eView ⟨⟨l,m⟩,st,⟨d1,d2,d3,d4⟩,cs⟩] false),(131,rDuesN (ks k))]) (fun k=>k≤ns.length) (fun k=>ns.length-k) 0 (Nat.zero_le _)
    (by rw[hk0];exact⟨⟨rfl,rfl⟩,⟨⟨rfl,rfl⟩,⟨rfl,rfl⟩,rfl,by show(ns.length:Int)=((ns.map oNote).length:Int);rw[hlm],rfl,trivial⟩,⟨⟨rfl,rfl,rfl,rfl,rfl,rfl,rfl,rfl,trivial⟩,trivial⟩,⟨.refl rfl,noRef_duesN _⟩,trivial⟩) ?_
   intro k hk
   with_reducible refine wK ?_
   refine IfK.mk (fun h1=>?_) (fun h1=>?_)<;>(try simp only[castN] at h1)<;>with_reducible refine wK ?_
   ·have hk':k<ns.length:=by simp only[decide_eq_true_eq] at h1;omega
    obtain⟨⟨x1,x2,x3,x4,x5,x6,x7,x8,x9⟩,hx⟩:∃x,ns[k]? =some x:=⟨_,List.getElem?_eq_getElem hk'⟩
    have hstp:=hstep k _ hx
    have hkk:=hkl k
    have h58':=h58 x2
    have h59':=h59 ⟨x1,x2,x3,x4,x5,x6,x7,x8,x9⟩
    have hst':=hst x2
    try simp only at hstp h58' h59'
    clear hstep h58 h59 hst
    refine IdxK.mk k (eNote _) rfl (note_get hx) ?_;with_reducible refine wK ?_
    cases e1:elemV l x2 with
    | false=>
      rw[e1] at h58' hstp
      rw[if_neg (by simp),List.append_nil] at hstp
      repeat' (first
  |refine gK ?_|refine aE ?_ ?_
  |(((with_reducible refine kQ 116 ?_);refine cL h58' c116 ?_)<;>with_reducible refine wK ?_)
  | apply trivial)
      refine NextK.mk (k+1) (by omega) (by omega) ⟨⟨rfl,rfl⟩,⟨⟨rfl,rfl⟩,⟨rfl,by rw[hstp]⟩,rfl,rfl,by show((k+1:Nat):Int)=(k:Int)+1;omega,trivial⟩,⟨⟨rfl,rfl,rfl,rfl,rfl,rfl,rfl,rfl,trivial⟩,trivial⟩,⟨by rw[hstp];exact .refl (noRef_duesN _),noRef_duesN _⟩,trivial⟩
    | true=>
      rw[e1] at h58' hstp
      rw[if_pos rfl] at hstp
      obtain⟨i,s,hi,hsi,hso⟩:=hst' e1
      have h59'':=h59' i s hi hsi
      rw[hso] at hstp
      clear h59' hst'
      generalize asksV ⟨l,m⟩ s ⟨d1,d2,d3,d4⟩ cs ⟨x1,x2,x3,x4,x5,x6,x7,x8,x9⟩=r at h59'' hstp
      obtain⟨⟨t1,t2,t3,t4,t5,t6,t7,t8,t9,t10⟩,b⟩:=r
      try simp only at h59'' hstp
      cases b with
      | false=>
        rw[if_neg (by simp),List.append_nil] at hstp
        repeat' (first
  |refine gK ?_|refine aE ?_ ?_
  | ((first
   |((with_reducible refine kQ 116 ?_);refine cL h58' c116 ?_)
   |((with_reducible refine kQ 167 ?_);refine cV h59'' c167 ?_))<;>with_reducible refine wK ?_)
  |apply trivial)
        refine NextK.mk (k+1) (by omega) (by omega) ⟨⟨rfl,rfl⟩,⟨⟨rfl,rfl⟩,⟨rfl,by rw[hstp]⟩,rfl,rfl,by show((k+1:Nat):Int)=(k:Int)+1;omega,trivial⟩,⟨⟨rfl,rfl,rfl,rfl,rfl,rfl,rfl,rfl,trivial⟩,trivial⟩,⟨by rw[hstp];exact .refl (noRef_duesN _),noRef_duesN _⟩,trivial⟩
      | true=>
        rw[if_pos rfl] at hstp
        repeat' (first
  |refine gK ?_|refine aE ?_ ?_
  | ((first
   |((with_reducible refine kQ 116 ?_);refine cL h58' c116 ?_)
   |((with_reducible refine kQ 167 ?_);refine cV h59'' c167 ?_)
   |((with_reducible show AppK _ _ _ _ _ _ _ _ _ _);refine AppK.mk ((ks k).map oDueN) [eDueN ⟨x2,⟨t1,t2,t3,t4,t5,t6,t7,t8,t9,t10⟩⟩] ⟨rfl,(List.length_map ..).symm,rfl⟩ ⟨rfl,rfl,rfl⟩ rfl (by simp;omega) (by simp;omega) ?_))<;>with_reducible refine wK ?_)
  | apply trivial)
        refine NextK.mk (k+1) (by omega) (by omega) ⟨⟨rfl,rfl⟩,⟨⟨rfl,rfl⟩,⟨rfl,by rw[hstp];simp⟩,rfl,rfl,by show((k+1:Nat):Int)=(k:Int)+1;omega,trivial⟩,⟨⟨rfl,rfl,rfl,rfl,rfl,rfl,rfl,rfl,trivial⟩,trivial⟩,⟨by rw[hstp,List.map_append];exact .refl (by rw[←List.map_append];exact noRef_duesN _),noRef_duesN _⟩,trivial⟩
   ·have hkn:k=ns.length:=by simp only[decide_eq_false_iff_not] at h1;omega
    subst hkn
    (refine eK ?_ ?_<;>with_reducible repeat' (first|exact trivial|(show _∧_;refine aK ?_ ?_)))
    all_goals exact frz_duesN rfl rfl rfl rfl
def firstA (c:ClassM)(n:Int)(a:AttrM):List DueN:=if watchesC c a.name=true then[⟨n,⟨4,0,a.name,false,true,⟨#[]⟩,a.value,0,0,false⟩⟩] else[]
def cameT (b:Bool)(n:Int):List DueN:=if b=true then[⟨n,⟨1,0,⟨#[]⟩,false,false,⟨#[]⟩,⟨#[]⟩,0,0,false⟩⟩] else[]
theorem firstA_len (c:ClassM)(n:Int)(a:AttrM):(firstA c n a).length≤1:=by
 unfold firstA
 split<;>simp
def firstC (f:ForM)(c:ClassM)(n:Int):List DueN:=(nd f.nodes n).attrs.flatMap (firstA c n)++cameT (hearsC c 1&&conF f n) n
def firstL (f:ForM)(st:List StateM)(d:DeskM)(cs:List ClassM)(n:Int):List DueN:=
 if((lookV f st d&&elemV f.nodes n)&&classB (stOf st n) d cs)=true then firstC f (classV (stOf st n) d cs) n else[]
theorem f49_ok (f:ForM)(hs:SmallN f.nodes)(st:List StateM)(d:DeskM)(hd:SmallD d)(cs:List ClassM)(hc:SmallC cs)(n:Int):FnOK Tryz.prog 49 [] [eFor f,eStates st,eDesk d,eClasses cs,eInt n] [] (eDuesN (firstL f st d cs n)):=by
 have h57:=f115_ok f hs st d hd cs
 have h58:=f116_ok ⟨f,st,d,cs⟩ n
 have h40:=f120_ok f hs n
 unfold firstL
 cases e0:lookV f st d with
 | false=>
   rw[e0] at h57
   obtain⟨l,m⟩:=f
   obtain⟨d1,d2,d3,d4⟩:=d
   try simp only at h57
   refine FnOK.startC (rvs:=[.tmp 10]) G G_good Tryz.func49 rfl Tryz.ntmps49 rfl rfl ?_;with_reducible refine wD ?_
   repeat' (first
  |refine gK ?_|refine aE ?_ ?_
  |(((with_reducible refine kQ 115 ?_);refine cV h57 c115 ?_)<;>with_reducible refine wK ?_)
  | apply trivial)
   all_goals exact .inr (.inr ⟨_,rfl⟩)
 | true =>
   rw[e0] at h57
   have hle:st.length=f.nodes.length:=by unfold lookV at e0;simp only[Bool.and_eq_true,decide_eq_true_eq] at e0;exact e0.1.1
   cases e1:elemV f.nodes n with
   | false=>
     rw[e1] at h58
     obtain⟨l,m⟩:=f
     obtain⟨d1,d2,d3,d4⟩:=d
     try simp only at h57 h58
     refine FnOK.startC (rvs:=[.tmp 10]) G G_good Tryz.func49 rfl Tryz.ntmps49 rfl rfl ?_;with_reducible refine wD ?_
     repeat' (first
  |refine gK ?_|refine aE ?_ ?_
  | ((first
   |((with_reducible refine kQ 115 ?_);refine cV h57 c115 ?_)
   |((with_reducible refine kQ 116 ?_);refine cL h58 c116 ?_))<;>with_reducible refine wK ?_)
  | apply trivial)
     all_goals exact .inr (.inr ⟨_,rfl⟩)
   | true=>
     rw[e1] at h58
     obtain⟨i,s,rfl,hsi,hso⟩:=elem_at e1 hle
     rw[hso]
     obtain⟨y,hy,hny⟩:∃y,f.nodes[i]? =some y∧nd f.nodes i=y:=⟨_,List.getElem?_eq_getElem (by have:=(List.getElem?_eq_some_iff.1 hsi).1;omega),nd_get (List.getElem?_eq_getElem _)⟩
     have hya:=hs.attrs y (List.mem_of_getElem? hy)
     have h32:=f117_ok s d cs
     have hcv:=small_classV hc s d
     have h27:=fun n=>f118_ok (classV s d cs) hcv.hooks hcv.watch n
     have h25:=f119_ok (classV s d cs) hcv.hooks 1
     unfold firstC
     rw[hny]
     generalize classV s d cs=c at h32 h27 h25 ⊢
     cases e2:classB s d cs with
     | false=>
       rw[e2] at h32
       obtain⟨l,m⟩:=f
       obtain⟨d1,d2,d3,d4⟩:=d
       obtain⟨s1,s2,s3,s4⟩:=s
       obtain⟨c1,c2,c3,c4,c5⟩:=c
       try simp only at h57 h58 hy h32
       refine FnOK.startC (rvs:=[.tmp 10]) G G_good Tryz.func49 rfl Tryz.ntmps49 rfl rfl ?_;with_reducible refine wD ?_
       repeat' (first
  |refine gK ?_|refine aE ?_ ?_
  | ((first
   |((with_reducible refine kQ 115 ?_);refine cV h57 c115 ?_)
   |((with_reducible refine kQ 116 ?_);refine cL h58 c116 ?_)
   |((with_reducible show IdxK _ _ _ _ _);refine IdxK.mk i (eState _) rfl (state_get hsi) ?_)
   |((with_reducible refine kQ 117 ?_);refine cV h32 c117 ?_))<;>with_reducible refine wK ?_)
  |apply trivial)
       all_goals exact .inr (.inr ⟨_,rfl⟩)
     | true=>
       rw[e2] at h32
       rw[show((true&&true)&&true)=true from rfl,if_pos rfl]
       obtain⟨ks,hks⟩:∃ks:Nat→List DueN,ks=fun k=>(y.attrs.take k).flatMap (firstA c i):=⟨_,rfl⟩
       have hkl:∀k,(ks k).length≤k:=fun k=>by
        rw[hks];exact Nat.le_trans (flat_len _ (firstA_len c i) _) (by rw[List.length_take];omega)
       have hk0:ks 0=[]:=by rw[hks];rfl
       have hke:ks y.attrs.length=y.attrs.flatMap (firstA c i):=by rw[hks];show List.flatMap _ (y.attrs.take y.attrs.length)=_;rw[List.take_length]
       have hstep:∀ (k:Nat) (x:AttrM),y.attrs[k]? =some x→ks (k+1)=ks k++firstA c i x:=fun k x hx=>by rw[hks];exact flat_step _ hx
       rw[←hke]
       unfold firstA at hstep
       clear hks hke e1
       obtain⟨l,m⟩:=f
       obtain⟨d1,d2,d3,d4⟩:=d
       obtain⟨s1,s2,s3,s4⟩:=s
       obtain⟨a1,a2,a3,a4,a5,a6,a7,a8,a9,a10⟩:=y
       try simp only at h57 h58 hy h32 hkl hstep hya h40 ⊢
       generalize hearsC c 1=hb at h25 ⊢
       generalize conF ⟨l,m⟩ i=hcn at h40 ⊢
       generalize watchesC c=wf at h27 hstep
       obtain⟨c1,c2,c3,c4,c5⟩:=c
       have hlm:(a5.map oAttr).length=a5.length:=List.length_map ..
       refine FnOK.startC (rvs:=[.tmp 10]) G G_good Tryz.func49 rfl Tryz.ntmps49 rfl rfl ?_;with_reducible refine wD ?_
       repeat' (first
  |refine gK ?_|refine aE ?_ ?_
  | ((first
   |((with_reducible refine kQ 115 ?_);refine cV h57 c115 ?_)
   |((with_reducible refine kQ 116 ?_);refine cL h58 c116 ?_)
   |((with_reducible show IdxK _ _ _ _ _);first|refine IdxK.mk i (eState _) rfl (state_get hsi) ?_|refine IdxK.mk i (eNode _) rfl (node_get hy) ?_)
   |((with_reducible refine kQ 117 ?_);refine cV h32 c117 ?_))<;>with_reducible refine wK ?_)
  |apply  trivial)
       refine LoopK.ghost 14 141 11 rfl rfl ?_
       refine LoopK.use G G_good (fun(k:Nat)=>[(4,eInt i),(5,.ptr 50 0 0),(13,.ptr 130 0 0),(14,.own 141 0 (ks k).length),(50,eAttrs a5),(51,eInt a5.length),(52,eInt k)])
        (fun k=>[(50,.live 2 [eFor ⟨l,m⟩] false),(130,.live 5 [eClass ⟨c1,c2,c3,c4,c5⟩] false),(141,rDuesN (ks k))]) (fun k=>k≤a5.length) (fun k=>a5.length-k) 0 (Nat.zero_le _)
        (by rw[hk0];exact⟨⟨rfl,rfl⟩,⟨rfl,⟨rfl,rfl⟩,⟨rfl,rfl⟩,⟨rfl,rfl⟩,rfl,by show(a5.length:Int)=((a5.map oAttr).length:Int);rw[hlm],rfl,trivial⟩,⟨⟨rfl,rfl,trivial⟩,trivial⟩,⟨⟨rfl,rfl,rfl,rfl,rfl,trivial⟩,trivial⟩,⟨.refl rfl,noRef_duesN _⟩,trivial⟩) ?_
       intro k hk
       with_reducible refine wK ?_
       have hkk:=hkl k
       refine IfK.mk (fun h1=>?_) (fun h1=>?_)<;>(try simp only[castN] at h1)<;>with_reducible refine wK ?_
       ·have hk':k<a5.length:=by simp only[decide_eq_true_eq] at h1;omega
        obtain⟨⟨u1,u2⟩,hx⟩:∃x,a5[k]? =some x:=⟨_,List.getElem?_eq_getElem hk'⟩
        have hstp:=hstep k _ hx
        have h27':=h27 u1
        try simp only at hstp
        clear hstep h27
        generalize wf u1=wb at h27' hstp
        refine IdxK.mk k (eAttr _) rfl (attr_get hx) ?_;with_reducible refine wK ?_
        refine cL h27' c118 ?_;with_reducible refine wK ?_
        cases wb with
        | false=>
          rw[if_neg (by simp),List.append_nil] at hstp
          repeat' (first
  |refine gK ?_|refine aE ?_ ?_
  |apply  trivial)
          refine NextK.mk (k+1) (by omega) (by omega) ⟨⟨rfl,rfl⟩,⟨rfl,⟨rfl,rfl⟩,⟨rfl,rfl⟩,⟨rfl,by rw[hstp]⟩,rfl,rfl,by show((k+1:Nat):Int)=(k:Int)+1;omega,trivial⟩,⟨⟨rfl,rfl,trivial⟩,trivial⟩,⟨⟨rfl,rfl,rfl,rfl,rfl,trivial⟩,trivial⟩,⟨by rw[hstp];exact .refl (noRef_duesN _),noRef_duesN _⟩,trivial⟩
        | true=>
          rw[if_pos rfl] at hstp
          repeat' (first
  |refine gK ?_|refine aE ?_ ?_
  |(((with_reducible show AppK _ _ _ _ _ _ _ _ _ _);refine AppK.mk ((ks k).map oDueN) [eDueN ⟨(i:Int),⟨4,0,u1,false,true,⟨#[]⟩,u2,0,0,false⟩⟩] ⟨rfl,(List.length_map ..).symm,rfl⟩ ⟨rfl,rfl,rfl⟩ rfl (by simp;omega) (by simp;omega) ?_)<;>with_reducible refine wK ?_)
  |apply  trivial)
          refine NextK.mk (k+1) (by omega) (by omega) ⟨⟨rfl,rfl⟩,⟨rfl,⟨rfl,rfl⟩,⟨rfl,rfl⟩,⟨rfl,by rw[hstp];simp⟩,rfl,rfl,by show((k+1:Nat):Int)=(k:Int)+1;omega,trivial⟩,⟨⟨rfl,rfl,trivial⟩,trivial⟩,⟨⟨rfl,rfl,rfl,rfl,rfl,trivial⟩,trivial⟩,⟨by rw[hstp,List.map_append];exact .refl (by rw[←List.map_append];exact noRef_duesN _),noRef_duesN _⟩,trivial⟩
       ·have hkn:k=a5.length:=by simp only[decide_eq_false_iff_not] at h1;omega
        subst hkn
        clear hstep h27
        unfold cameT
        refine cL h25 c119 ?_;with_reducible refine wK ?_
        cases hb with
        | false=>
          rw[Bool.false_and,if_neg (by simp),List.append_nil]
          repeat' (first
  |refine gK ?_|refine aE ?_ ?_
  |apply  trivial)
          all_goals exact frz_duesN rfl rfl rfl rfl
        | true=>
          rw[Bool.true_and]
          repeat' (first
  |refine gK ?_|refine aE ?_ ?_
  |(((with_reducible refine kQ 120 ?_);refine cL h40 c120 ?_)<;>with_reducible refine wK ?_)
  |apply  trivial)
          cases hcn with
          | false=>
            rw[if_neg (by simp),List.append_nil]
            repeat' (first
  |refine gK ?_|refine aE ?_ ?_
  |apply  trivial)
            all_goals exact frz_duesN rfl rfl rfl rfl
          | true=>
            rw[if_pos rfl]
            repeat' (first
  |refine gK ?_|refine aE ?_ ?_
  |(((with_reducible show AppK _ _ _ _ _ _ _ _ _ _);refine AppK.mk ((ks a5.length).map oDueN) [eDueN ⟨(i:Int),⟨1,0,⟨#[]⟩,false,false,⟨#[]⟩,⟨#[]⟩,0,0,false⟩⟩] ⟨rfl,(List.length_map ..).symm,rfl⟩ ⟨rfl,rfl,rfl⟩ rfl (by simp;omega) (by simp;omega) ?_)<;>with_reducible refine wK ?_)
  |apply trivial)
            all_goals exact frz_duesN rfl rfl (by rw[List.map_append];rfl) (by simp)
theorem bytes_inj {a b:ByteArray}(h:a.toList=b.toList):a=b:=by
 rw[ByteArray.toList_eq,ByteArray.toList_eq] at h
 cases a;cases b
 simp only[ByteArray.mk.injEq]
 exact Array.toList_inj.1 h
@[reducible] def vOp (a : OpM) : Value := .agg #[.int .i64 a.kind, .int .i64 a.a, .int .i64 a.b, .int .i64 a.c, .string a.s, .string a.t, .bool a.must]
def opEq (t u:OpM):Bool:=(t.kind==u.kind)&&((t.a==u.a)&&((t.b==u.b)&&((t.c==u.c)&&((t.s.toList==u.s.toList)&&((t.t.toList==u.t.toList)&&(t.must==u.must))))))
theorem opEq_iff (t u:OpM):opEq t u=decide (t=u):=by
 rw[Bool.eq_iff_iff,decide_eq_true_eq]
 unfold opEq
 simp only[Bool.and_eq_true,beq_iff_eq]
 constructor
 ·rintro⟨a,b,c,d,e,f,g⟩
  cases t;cases u
  simp only at*
  subst a;subst b;subst c;subst d;subst g
  rw[bytes_inj e,bytes_inj f]
 ·rintro rfl;simp
theorem op_eq (t u:OpM)(w:World):(Op.equalIn 10000 274 (vOp t) (vOp u)).run Tryz.prog w=.ok (decide (t=u)) w:=by
 have hS:Tryz.prog.underlying 274=some (.struct (Tryz.prog.fieldsOf 274)):=by kernel_rfl
 have hp:Tryz.prog.stoodInHeld 274=false:=by kernel_rfl
 have u3:=Tryz.underlying3
 have a3:=Tryz.isAgg3
 have z3:=Tryz.sizeOf3
 have u4:=Tryz.underlying4
 have a4:=Tryz.isAgg4
 have z4:=Tryz.sizeOf4
 have u9:=Tryz.underlying9
 have a9:=Tryz.isAgg9
 have z9:=Tryz.sizeOf9
 rw[←opEq_iff,show(10000:Nat)=9999+1 from rfl,run_equalIn_agg w 9999 274 _ _ hS hp]
 simp only[Program.fieldsOf,Tryz.underlying274]
 go_simp
 clear hS hp u3 a3 z3 u4 a4 z4 u9 a9 z9
 unfold opEq
 by_cases h1:t.kind=u.kind<;>by_cases h2:t.a=u.a<;>by_cases h3:t.b=u.b<;>simp[h1,h2,h3]
 by_cases h1:t.c=u.c<;>by_cases h2:t.s.toList=u.s.toList<;>by_cases h3:t.t.toList=u.t.toList<;>simp[h1,h2,h3]
 by_cases h1:t.must=u.must<;>simp[h1]
theorem op_neq (a b:OpM)(y z:Operand)(w:World):((do eqGuard .neq 274 y z (vOp a) (vOp b);binOp .neq 274 (vOp a) (vOp b):Sem Value)).run Tryz.prog w=.ok (.bool (!decide (a=b))) w:=by
 rw[Sem.run_bind,run_eqGuard_agg w .neq 274 y z _ _ (by kernel_rfl),Result.andThen_ok,run_neq_struct,op_eq];rfl
theorem f179_ok (a b:List OpM)(ha:a.length≤100000):FnOK Tryz.prog 179 [] [eOps a,eOps b] [] (eBool (decide (a=b))):=by
 have hlm:(a.map oOp).length=a.length:=List.length_map ..
 have hlm':(b.map oOp).length=b.length:=List.length_map ..
 refine FnOK.startC (rvs:=[.tmp 4]) G G_good Tryz.func179 rfl Tryz.ntmps179 rfl rfl ?_;with_reducible refine wD ?_
 by_cases g1:a.length=b.length
 ·(have fct:=And.intro hlm (And.intro hlm' (g1));(repeat' (first
  |refine gF ?_|refine aE ?_ ?_
  |apply trivial));all_goals clear fct)
  refine LoopK.use G G_good (fun(k:Nat)=>[(0,eOps a),(1,eOps b),(5,eInt k)]) (fun _=>[]) (fun k=>k≤a.length∧∀j,j<k→a[j]? =b[j]?) (fun k=>a.length-k) 0 ⟨Nat.zero_le _,fun j hj=>by omega⟩
   ⟨⟨rfl,rfl⟩,⟨rfl,rfl,rfl,trivial⟩,trivial⟩ ?_
  intro k ⟨hk,hno⟩
  with_reducible refine wK ?_
  refine IfK.mk (fun h1=>?_) (fun h1=>?_)<;>(try simp only[castN] at h1)<;>with_reducible refine wK ?_
  ·simp only[hlm,decide_eq_true_eq] at h1
   have hk':k<a.length:=by omega
   obtain⟨⟨x1,x2,x3,x4,x5,x6,x7⟩,hx⟩:∃x,a[k]? =some x:=⟨_,List.getElem?_eq_getElem hk'⟩
   obtain⟨⟨y1,y2,y3,y4,y5,y6,y7⟩,hy⟩:∃y,b[k]? =some y:=⟨_,List.getElem?_eq_getElem (by omega)⟩
   refine IdxK.mk k (eOp ⟨x1,x2,x3,x4,x5,x6,x7⟩) rfl (op_get hx) ?_;with_reducible refine wK ?_
   refine IdxK.mk k (eOp ⟨y1,y2,y3,y4,y5,y6,y7⟩) rfl (op_get hy) ?_;with_reducible refine wK ?_
   refine EqK.mk _ (fun y z w=>op_neq ⟨x1,x2,x3,x4,x5,x6,x7⟩ ⟨y1,y2,y3,y4,y5,y6,y7⟩ y z w) ?_;with_reducible refine wK ?_
   by_cases e:(⟨x1,x2,x3,x4,x5,x6,x7⟩:OpM)=⟨y1,y2,y3,y4,y5,y6,y7⟩
   ·have e':=hx.trans ((congrArg some e).trans hy.symm)
    rw[decide_eq_true e]
    repeat' (first
  |refine gK ?_|refine aE ?_ ?_
  |(((with_reducible show NextK _ _);refine NextK.mk (k+1) ⟨by omega,same_succ hno e'⟩ (by omega) ⟨⟨rfl,rfl⟩,⟨rfl,rfl,by show((k+1:Nat):Int)=(k:Int)+1;omega,trivial⟩,trivial⟩)<;>with_reducible refine wK ?_)
  | apply trivial)
   ·rw[show decide (a=b)=false from decide_eq_false fun h=>e (by rw[h] at hx;rw[hx] at hy;exact Option.some.inj hy),decide_eq_false e]
    repeat' (first
  |refine gK ?_|refine aE ?_ ?_
  |apply trivial)
  ·have hkl:k=a.length:=by simp only[hlm,decide_eq_false_iff_not] at h1;omega
   subst hkl
   rw[show decide (a=b)=true from decide_eq_true (list_same g1 hno)]
   (have fct:=hlm;(repeat' (first
  |refine gF ?_|refine aE ?_ ?_
  |apply trivial));all_goals clear fct)
 ·rw[show decide (a=b)=false from decide_eq_false fun h=>g1 (by rw[h])]
  (have fct:=And.intro hlm (And.intro hlm' (g1));(repeat' (first
  |refine gF ?_|refine aE ?_ ?_
  |apply trivial));all_goals clear fct)
theorem f108_ok (a b:ClassM)(ha:SmallK a):FnOK Tryz.prog 108 [] [eClass a,eClass b] [] (eBool (decide (a=b))):=by
 have h29p:=f179_ok a.peek b.peek ha.peek
 have h29m:=f179_ok a.make b.make ha.make
 have hpr:=ha.progs
 have hal:=ha.watch
 have hah:=ha.hooks
 have hne:∀ {p:Prop},p→(p→a≠b)→decide (a=b)=false:=fun h g=>decide_eq_false (g h)
 obtain⟨a1,a2,a3,a4,a5⟩:=a
 obtain⟨b1,b2,b3,b4,b5⟩:=b
 simp only at h29p h29m hpr hal hah
 have n2:(a2.map oStr).length=a2.length:=List.length_map ..
 have m2:(b2.map oStr).length=b2.length:=List.length_map ..
 have n5:(a5.map oHook).length=a5.length:=List.length_map ..
 have m5:(b5.map oHook).length=b5.length:=List.length_map ..
 refine FnOK.startC (rvs:=[.tmp 4]) G G_good Tryz.func108 rfl Tryz.ntmps108 rfl rfl ?_;with_reducible refine wD ?_
 by_cases g1:a1=b1
 case neg=>
  rw[hne g1 fun g e=>g (congrArg ClassM.form e)]
  (have fct:=(eq_false g1);(repeat' (first
  |refine gF ?_|refine aE ?_ ?_
  |apply trivial));all_goals clear fct)
 subst g1
 by_cases g2:a2.length=b2.length
 case neg=>
  rw[hne g2 fun g e=>g (congrArg (fun c=>c.watch.length) e)]
  (have fct:=And.intro n2 (And.intro m2 ((eq_false g2)));(repeat' (first
  |refine gF ?_|refine aE ?_ ?_
  |apply trivial));all_goals clear fct)
 by_cases g3:a3=b3
 case neg=>
  rw[hne g3 fun g e=>g (congrArg ClassM.peek e)]
  rw[decide_eq_false g3] at h29p
  (have fct:=And.intro n2 (And.intro m2 (g2));(repeat' (first
  |refine gF ?_|refine aE ?_ ?_
  |(((with_reducible refine kQ 179 ?_);refine cL h29p c179 ?_)<;>with_reducible refine wK ?_)
  |apply trivial));all_goals clear fct)
 rw[decide_eq_true g3] at h29p
 by_cases g4:a4=b4
 case neg=>
  rw[hne g4 fun g e=>g (congrArg ClassM.make e)]
  rw[decide_eq_false g4] at h29m
  (have fct:=And.intro n2 (And.intro m2 (g2));(repeat' (first
  |refine gF ?_|refine aE ?_ ?_
  |(((with_reducible refine kQ 179 ?_);first|refine cL h29p c179 ?_|refine cL h29m c179 ?_)<;>with_reducible refine wK ?_)
  |apply trivial));all_goals clear fct)
 rw[decide_eq_true g4] at h29m
 by_cases g5:a5.length=b5.length
 case neg=>
  rw[hne g5 fun g e=>g (congrArg (fun c=>c.hooks.length) e)]
  (have fct:=And.intro n2 (And.intro m2 (And.intro g2 (And.intro n5 (And.intro m5 ((eq_false g5))))));(repeat' (first
  |refine gF ?_|refine aE ?_ ?_
  |(((with_reducible refine kQ 179 ?_);first|refine cL h29p c179 ?_|refine cL h29m c179 ?_)<;>with_reducible refine wK ?_)
  |apply trivial));all_goals clear fct)
 (have fct:=And.intro n2 (And.intro m2 (And.intro g2 (And.intro n5 (And.intro m5 (g5)))));(repeat' (first
  |refine gF ?_|refine aE ?_ ?_
  |(((with_reducible refine kQ 179 ?_);first|refine cL h29p c179 ?_|refine cL h29m c179 ?_)<;>with_reducible refine wK ?_)
  |apply trivial));all_goals clear fct)
 refine LoopK.use G G_good (fun(k:Nat)=>[(2,.ptr 20 0 0),(3,.ptr 30 0 0),(5,eInt k)]) (fun _=>[(20,.live 5 [eClass ⟨a1,a2,a3,a4,a5⟩] false),(30,.live 5 [eClass ⟨a1,b2,b3,b4,b5⟩] false)]) (fun k=>k≤a2.length∧∀j,j<k→a2[j]? =b2[j]?) (fun k=>a2.length-k) 0 ⟨Nat.zero_le _,fun j hj=>by omega⟩
  ⟨⟨rfl,rfl⟩,⟨⟨rfl,rfl⟩,⟨rfl,rfl⟩,rfl,trivial⟩,⟨⟨rfl,rfl,rfl,rfl,rfl,trivial⟩,trivial⟩,⟨⟨rfl,rfl,rfl,rfl,rfl,trivial⟩,trivial⟩,trivial⟩ ?_
 intro k ⟨hk,hno⟩
 with_reducible refine wK ?_
 refine IfK.mk (fun h1=>?_) (fun h1=>?_)<;>(try simp only[castN] at h1)<;>with_reducible refine wK ?_
 ·simp only[n2,decide_eq_true_eq] at h1
  obtain⟨x,hx⟩:∃x,a2[k]? =some x:=⟨_,List.getElem?_eq_getElem (by omega)⟩
  obtain⟨y,hy⟩:∃y,b2[k]? =some y:=⟨_,List.getElem?_eq_getElem (by omega)⟩
  refine IdxK.mk k (eStr x) rfl (strs_get hx) ?_;with_reducible refine wK ?_
  refine IdxK.mk k (eStr y) rfl (strs_get hy) ?_;with_reducible refine wK ?_
  by_cases e:x=y
  ·have e':=hx.trans ((congrArg some e).trans hy.symm)
   (have fct:=e;(repeat' (first
  |refine gF ?_|refine aE ?_ ?_
  |(((with_reducible show NextK _ _);refine NextK.mk (k+1) ⟨by omega,same_succ hno e'⟩ (by omega) ⟨⟨rfl,rfl⟩,⟨⟨rfl,rfl⟩,⟨rfl,rfl⟩,by show((k+1:Nat):Int)=(k:Int)+1;omega,trivial⟩,⟨⟨rfl,rfl,rfl,rfl,rfl,trivial⟩,trivial⟩,⟨⟨rfl,rfl,rfl,rfl,rfl,trivial⟩,trivial⟩,trivial⟩)<;>with_reducible refine wK ?_)
  |apply trivial));all_goals clear fct)
  ·rw[hne e fun g h=>g (by have h2:=congrArg ClassM.watch h;simp only at h2;rw[h2,hy] at hx;exact(Option.some.inj hx).symm)]
   (have fct:=(eq_false e);(repeat' (first
  |refine gF ?_|refine aE ?_ ?_
  |apply trivial));all_goals clear fct)
 ·have hkl:k=a2.length:=by simp only[n2,decide_eq_false_iff_not] at h1;omega
  subst hkl
  have e2:=list_same g2 hno
  refine LoopK.use G G_good (fun(k:Nat)=>[(2,.ptr 20 0 0),(3,.ptr 30 0 0),(6,eInt k)]) (fun _=>[(20,.live 5 [eClass ⟨a1,a2,a3,a4,a5⟩] false),(30,.live 5 [eClass ⟨a1,b2,b3,b4,b5⟩] false)]) (fun k=>k≤a5.length∧∀j,j<k→a5[j]? =b5[j]?) (fun k=>a5.length-k) 0 ⟨Nat.zero_le _,fun j hj=>by omega⟩
   ⟨⟨rfl,rfl⟩,⟨⟨rfl,rfl⟩,⟨rfl,rfl⟩,rfl,trivial⟩,⟨⟨rfl,rfl,rfl,rfl,rfl,trivial⟩,trivial⟩,⟨⟨rfl,rfl,rfl,rfl,rfl,trivial⟩,trivial⟩,trivial⟩ ?_
  intro k ⟨hk,hno⟩
  with_reducible refine wK ?_
  refine IfK.mk (fun h1=>?_) (fun h1=>?_)<;>(try simp only[castN] at h1)<;>with_reducible refine wK ?_
  ·simp only[n5,decide_eq_true_eq] at h1
   obtain⟨⟨x1,x2⟩,hx⟩:∃x,a5[k]? =some x:=⟨_,List.getElem?_eq_getElem (by omega)⟩
   obtain⟨⟨y1,y2⟩,hy⟩:∃y,b5[k]? =some y:=⟨_,List.getElem?_eq_getElem (by omega)⟩
   have h29:=f179_ok x2 y2 (hpr _ (List.mem_of_getElem? hx))
   have hb:¬ ((⟨x1,x2⟩:HookM)=⟨y1,y2⟩)→decide ((⟨a1,a2,a3,a4,a5⟩:ClassM)=⟨a1,b2,b3,b4,b5⟩)=false:=fun e=>hne e fun g h=>g (by have h2:=congrArg ClassM.hooks h;simp only at h2;rw[h2,hy] at hx;exact(Option.some.inj hx).symm)
   refine IdxK.mk k (eHook ⟨x1,x2⟩) rfl (hook_get hx) ?_;with_reducible refine wK ?_
   refine IdxK.mk k (eHook ⟨y1,y2⟩) rfl (hook_get hy) ?_;with_reducible refine wK ?_
   by_cases e:x1=y1
   ·by_cases e3:x2=y2
    ·have e':=hx.trans ((congrArg some (show(⟨x1,x2⟩:HookM)=⟨y1,y2⟩ by rw[e,e3])).trans hy.symm)
     rw[decide_eq_true e3] at h29
     (have fct:=e;(repeat' (first
  |refine gF ?_|refine aE ?_ ?_
  | ((first
   |((with_reducible show IdxK _ _ _ _ _);first|refine IdxK.mk k (eHook ⟨x1,x2⟩) rfl (hook_get hx) ?_|refine IdxK.mk k (eHook ⟨y1,y2⟩) rfl (hook_get hy) ?_)
   |((with_reducible refine kQ 179 ?_);refine cL h29 c179 ?_)
   |((with_reducible show NextK _ _);refine NextK.mk (k+1) ⟨by omega,same_succ hno e'⟩ (by omega) ⟨⟨rfl,rfl⟩,⟨⟨rfl,rfl⟩,⟨rfl,rfl⟩,by show((k+1:Nat):Int)=(k:Int)+1;omega,trivial⟩,⟨⟨rfl,rfl,rfl,rfl,rfl,trivial⟩,trivial⟩,⟨⟨rfl,rfl,rfl,rfl,rfl,trivial⟩,trivial⟩,trivial⟩))<;>with_reducible refine wK ?_)
  | apply trivial));all_goals clear fct)
    ·rw[hb fun h=>e3 (congrArg HookM.prog h)]
     rw[decide_eq_false e3] at h29
     (have fct:=e;(repeat' (first
  |refine gF ?_|refine aE ?_ ?_
  | ((first
   |((with_reducible show IdxK _ _ _ _ _);first|refine IdxK.mk k (eHook ⟨x1,x2⟩) rfl (hook_get hx) ?_|refine IdxK.mk k (eHook ⟨y1,y2⟩) rfl (hook_get hy) ?_)
   |((with_reducible refine kQ 179 ?_);refine cL h29 c179 ?_))<;>with_reducible refine wK ?_)
  | apply trivial));all_goals clear fct)
   ·rw[hb fun h=>e (congrArg HookM.kind h)]
    (have fct:=(eq_false e);(repeat' (first
  |refine gF ?_|refine aE ?_ ?_
  |apply trivial));all_goals clear fct)
  ·have hkl:k=a5.length:=by simp only[n5,decide_eq_false_iff_not] at h1;omega
   subst hkl
   rw[show decide ((⟨a1,a2,a3,a4,a5⟩:ClassM)=⟨a1,b2,b3,b4,b5⟩)=true from decide_eq_true (by rw[e2,g3,g4,list_same g5 hno])]
   repeat' (first
  |refine gK ?_|refine aE ?_ ?_
  |apply trivial)
def shortH (h:HookM):Bool:=decide (h.prog.length≤80)
def shortK (c:ClassM):Bool:=(((decide (c.watch.length≤20)&&decide (c.hooks.length≤20))&&decide (c.peek.length≤80))&&decide (c.make.length≤80))&&c.hooks.all shortH
def shortC (cs:List ClassM):Bool:=decide (cs.length≤14)&&cs.all shortK
theorem small_of_shortC {cs:List ClassM}(h:shortC cs=true):SmallC cs:=by
 intro c hc
 unfold shortC at h
 rw[Bool.and_eq_true,List.all_eq_true] at h
 have h2:=h.2 c hc
 unfold shortK at h2
 simp only[Bool.and_eq_true,decide_eq_true_eq,List.all_eq_true] at h2
 obtain⟨⟨⟨⟨h3,h4⟩,h5⟩,h6⟩,h7⟩:=h2
 exact⟨by omega,by omega,by omega,by omega,fun x hx=>by have:=h7 x hx;unfold shortH at this;simp only[decide_eq_true_eq] at this;omega⟩
theorem f70_ok (cs:List ClassM):FnOK Tryz.prog 70 [] [eClasses cs] [] (eBool (shortC cs)):=by
 unfold shortC
 have hlm:(cs.map oClass).length=cs.length:=List.length_map ..
 refine FnOK.startC (rvs:=[.tmp 2]) G G_good Tryz.func70 rfl Tryz.ntmps70 rfl rfl ?_;with_reducible refine wD ?_
 by_cases e0:(14:Int)< (cs.length:Int)
 ·rw[decide_eq_false (show ¬cs.length≤14 by omega)]
  (have fct:=And.intro hlm (e0);(repeat' (first
  |refine gF ?_|refine aE ?_ ?_
  |apply trivial));all_goals clear fct)
  all_goals rfl
 rw[decide_eq_true (show cs.length≤14 by omega),Bool.true_and]
 (have fct:=And.intro hlm ((eq_false e0));(repeat' (first
  |refine gF ?_|refine aE ?_ ?_
  |apply trivial));all_goals clear fct)
 refine LoopK.use G G_good (fun(k:Nat)=>[(0,eClasses cs),(3,eInt k)]) (fun _=>[])
  (fun k=>k≤cs.length∧∀ (j:Nat) (y:ClassM),j<k→cs[j]? =some y→shortK y=true) (fun k=>cs.length-k) 0 ⟨Nat.zero_le _,fun j y h=>by omega⟩
  ⟨⟨rfl,rfl⟩,⟨rfl,rfl,trivial⟩,trivial⟩ ?_
 rintro k ⟨hk,hok⟩
 with_reducible refine wK ?_
 refine IfK.mk (fun h1=>?_) (fun h1=>?_)<;>(try simp only[castN] at h1)<;>with_reducible refine wK ?_
 ·have hk':k<cs.length:=by simp only[decide_eq_true_eq] at h1;omega
  obtain⟨x,hx⟩:∃x,cs[k]? =some x:=⟨_,List.getElem?_eq_getElem hk'⟩
  have bad:shortK x=false→cs.all shortK=false:=fun h=>all_no hx h
  have good:shortK x=true→∀ (j:Nat) (y:ClassM),j<k+1→cs[j]? =some y→shortK y=true:=fun h j y hj hy=>by
   rcases Nat.lt_or_ge j k with h6|h6
   ·exact hok j y h6 hy
   ·have:j=k:=by omega
    subst this
    rw[hx] at hy;cases hy;exact h
  obtain⟨c1,c2,c3,c4,c5⟩:=x
  have n2:(c2.map oStr).length=c2.length:=List.length_map ..
  have n3:(c3.map oOp).length=c3.length:=List.length_map ..
  have n4:(c4.map oOp).length=c4.length:=List.length_map ..
  have n5:(c5.map oHook).length=c5.length:=List.length_map ..
  have sk:shortK ⟨c1,c2,c3,c4,c5⟩=((((decide (c2.length≤20)&&decide (c5.length≤20))&&decide (c3.length≤80))&&decide (c4.length≤80))&&c5.all shortH):=rfl
  rw[sk] at bad good
  refine IdxK.mk k (eClass ⟨c1,c2,c3,c4,c5⟩) rfl (class_get hx) ?_;with_reducible refine wK ?_
  by_cases e1:(20:Int)< (c2.length:Int)
  ·rw[bad (by rw[decide_eq_false (show ¬c2.length≤20 by omega)];rfl)]
   (have fct:=And.intro n2 (e1);(repeat' (first
  |refine gF ?_|refine aE ?_ ?_
  |apply trivial));all_goals clear fct)
  by_cases e2:(20:Int)< (c5.length:Int)
  ·rw[bad (by rw[decide_eq_false (show ¬c5.length≤20 by omega),Bool.and_false];rfl)]
   (have fct:=And.intro n2 (And.intro n5 (And.intro (eq_false e1) (e2)));(repeat' (first
  |refine gF ?_|refine aE ?_ ?_
  |apply trivial));all_goals clear fct)
  by_cases e3:(80:Int)< (c3.length:Int)
  ·rw[bad (by rw[decide_eq_false (show ¬c3.length≤80 by omega),Bool.and_false];rfl)]
   (have fct:=And.intro n2 (And.intro n5 (And.intro n3 (And.intro (eq_false e1) (And.intro (eq_false e2) (e3)))));(repeat' (first
  |refine gF ?_|refine aE ?_ ?_
  |apply trivial));all_goals clear fct)
  by_cases e4:(80:Int)< (c4.length:Int)
  ·rw[bad (by rw[decide_eq_false (show ¬c4.length≤80 by omega),Bool.and_false];rfl)]
   (have fct:=And.intro n2 (And.intro n5 (And.intro n3 (And.intro n4 (And.intro (eq_false e1) (And.intro (eq_false e2) (And.intro (eq_false e3) (e4)))))));(repeat' (first
  |refine gF ?_|refine aE ?_ ?_
  |apply trivial));all_goals clear fct)
  rw[decide_eq_true (show c2.length≤20 by omega),decide_eq_true (show c5.length≤20 by omega),decide_eq_true (show c3.length≤80 by omega),decide_eq_true (show c4.length≤80 by omega)] at bad good
  simp only[Bool.true_and] at bad good
  (have fct:=And.intro n2 (And.intro n5 (And.intro n3 (And.intro n4 (And.intro (eq_false e1) (And.intro (eq_false e2) (And.intro (eq_false e3) ((eq_false e4))))))));(repeat' (first
  |refine gF ?_|refine aE ?_ ?_
  |apply trivial));all_goals clear fct)
  refine LoopK.use G G_good (fun(j:Nat)=>[(0,eClasses cs),(3,eInt k),(4,.ptr 40 0 0),(5,eInt j)]) (fun _=>[(40,.live 5 [eClass ⟨c1,c2,c3,c4,c5⟩] false)])
   (fun j=>j≤c5.length∧∀ (i:Nat) (y:HookM),i<j→c5[i]? =some y→shortH y=true) (fun j=>c5.length-j) 0 ⟨Nat.zero_le _,fun j y h=>by omega⟩
   ⟨⟨rfl,rfl⟩,⟨rfl,rfl,⟨rfl,rfl⟩,rfl,trivial⟩,⟨⟨rfl,rfl,rfl,rfl,rfl,trivial⟩,trivial⟩,trivial⟩ ?_
  rintro j ⟨hj,hoj⟩
  with_reducible refine wK ?_
  refine IfK.mk (fun h2=>?_) (fun h2=>?_)<;>(try simp only[castN] at h2)<;>with_reducible refine wK ?_
  ·have hj':j<c5.length:=by simp only[decide_eq_true_eq] at h2;omega
   obtain⟨⟨u1,u2⟩,hu⟩:∃x,c5[j]? =some x:=⟨_,List.getElem?_eq_getElem hj'⟩
   have nu:(u2.map oOp).length=u2.length:=List.length_map ..
   refine IdxK.mk j (eHook ⟨u1,u2⟩) rfl (hook_get hu) ?_;with_reducible refine wK ?_
   by_cases e:(80:Int)< (u2.length:Int)
   ·rw[bad (all_no hu (decide_eq_false (show ¬u2.length≤80 by omega)))]
    (have fct:=And.intro nu (e);(repeat' (first
  |refine gF ?_|refine aE ?_ ?_
  | apply trivial));all_goals clear fct)
   ·have hnx:∀ (i:Nat) (y:HookM),i<j+1→c5[i]? =some y→shortH y=true:=fun i y hi hy=>by
     rcases Nat.lt_or_ge i j with h6|h6
     ·exact hoj i y h6 hy
     ·have:i=j:=by omega
      subst this
      rw[hu] at hy;cases hy;exact decide_eq_true (show u2.length≤80 by omega)
    (have fct:=And.intro nu ((eq_false e));(repeat' (first
  |refine gF ?_|refine aE ?_ ?_
  |(((with_reducible show NextK _ _);refine NextK.mk (j+1) ⟨by omega,hnx⟩ (by omega) ⟨⟨rfl,rfl⟩,⟨rfl,rfl,⟨rfl,rfl⟩,by show((j+1:Nat):Int)=(j:Int)+1;omega,trivial⟩,⟨⟨rfl,rfl,rfl,rfl,rfl,trivial⟩,trivial⟩,trivial⟩)<;>with_reducible refine wK ?_)
  |apply trivial));all_goals clear fct)
  ·have hjl:j=c5.length:=by simp only[decide_eq_false_iff_not] at h2;omega
   have hnx:=good (all_yes fun i y hy=>hoj i y (by have:=(List.getElem?_eq_some_iff.1 hy).1;omega) hy)
   repeat' (first
  |refine gK ?_|refine aE ?_ ?_
  |(((with_reducible show NextK _ _);refine NextK.mk (k+1) ⟨by omega,hnx⟩ (by omega) ⟨⟨rfl,rfl⟩,⟨rfl,by show((k+1:Nat):Int)=(k:Int)+1;omega,trivial⟩,trivial⟩)<;>with_reducible refine wK ?_)
  |apply trivial)
 ·have hkl:k=cs.length:=by simp only[decide_eq_false_iff_not] at h1;omega
  rw[all_yes fun j y hy=>hok j y (by have:=(List.getElem?_eq_some_iff.1 hy).1;omega) hy]
  (refine eK ?_ ?_<;>with_reducible repeat' (first|exact trivial|(show _∧_;refine aK ?_ ?_)))

theorem dueL_len (f:ForM)(st:List StateM)(d:DeskM)(cs:List ClassM)(ns:List NoteM):(dueL f st d cs ns).length≤ns.length:=by
 unfold dueL
 split
 ·exact flat_len _ (dueV_len f st d cs) _
 ·simp
def noState:StateM:=⟨0,0,0,false⟩
def sAt (st:List StateM)(n:Nat):StateM:=(st[n]?).getD noState
theorem sAt_of {st:List StateM}{n:Nat}{s:StateM}(h:st[n]? =some s):sAt st n=s:=by unfold sAt;rw[h];rfl
def dutyB (f:ForM)(d:DeskM)(cs:List ClassM)(n:Int)(s:StateM):Bool:=((classB s d cs&&(classV s d cs).form)&&decide (s.phase=3))&&decide ((nd f.nodes n).kind=1)
def ownedT (was now:Int):TodoM:=⟨5,0,⟨#[]⟩,false,false,⟨#[]⟩,⟨#[]⟩,was,now,false⟩
def barredT (on:Bool):TodoM:=⟨6,0,⟨#[]⟩,false,false,⟨#[]⟩,⟨#[]⟩,0,0,on⟩
def tellD (c:ClassM)(n:Int)(t:TodoM):List DueN:=if hearsC c t.kind=true then[⟨n,t⟩] else[]
def toldS (f:ForM)(d:DeskM)(cs:List ClassM)(n:Int)(s:StateM):StateM:=if dutyB f d cs n s=true then⟨s.phase,s.df,ownN f.nodes n,barN f.nodes n⟩ else s
def toldD (f:ForM)(d:DeskM)(cs:List ClassM)(n:Int)(s:StateM):List DueN:=
 if dutyB f d cs n s=true then
  (if s.owner=ownN f.nodes n then[] else tellD (classV s d cs) n (ownedT s.owner (ownN f.nodes n)))++ (if s.barred=barN f.nodes n then[] else tellD (classV s d cs) n (barredT (barN f.nodes n)))
 else[]
def tSt (f:ForM)(d:DeskM)(cs:List ClassM)(st:List StateM)(k:Nat):List StateM:=(List.range st.length).map fun n:Nat=>if n<k then toldS f d cs (n:Int) (sAt st n) else sAt st n
def tDu (f:ForM)(d:DeskM)(cs:List ClassM)(st:List StateM)(k:Nat):List DueN:=(List.range k).flatMap fun n:Nat=>toldD f d cs (n:Int) (sAt st n)
theorem tSt_len (f:ForM)(d:DeskM)(cs:List ClassM)(st:List StateM)(k:Nat):(tSt f d cs st k).length=st.length:=by unfold tSt;simp
theorem tSt_get {f:ForM}{d:DeskM}{cs:List ClassM}{st:List StateM}{k n:Nat}(h:n<st.length):(tSt f d cs st k)[n]? =some (if n<k then toldS f d cs (n:Int) (sAt st n) else sAt st n):=by
 unfold tSt
 rw[List.getElem?_map,List.getElem?_range h];rfl
theorem tSt_zero (f:ForM)(d:DeskM)(cs:List ClassM)(st:List StateM):tSt f d cs st 0=st:=by
 apply List.ext_getElem?
 intro n
 by_cases h:n<st.length
 ·rw[tSt_get h,if_neg (by omega)]
  unfold sAt
  rw[List.getElem?_eq_getElem h];rfl
 ·rw[List.getElem?_eq_none (l:=tSt f d cs st 0) (by rw[tSt_len];omega),List.getElem?_eq_none (l:=st) (by omega)]
theorem tSt_step (f:ForM)(d:DeskM)(cs:List ClassM)(st:List StateM){k:Nat}(h:k<st.length):tSt f d cs st (k+1)=(tSt f d cs st k).set k (toldS f d cs (k:Int) (sAt st k)):=by
 apply List.ext_getElem?
 intro n
 rw[List.getElem?_set]
 by_cases hn:n<st.length
 ·rw[tSt_get hn]
  by_cases e:k=n
  ·subst e;rw[if_pos rfl,if_pos (by omega),if_pos (by rw[tSt_len];exact h)]
  ·rw[if_neg e,tSt_get hn]
   by_cases e2:n<k
   ·rw[if_pos (by omega),if_pos e2]
   ·rw[if_neg (by omega),if_neg e2]
 ·rw[List.getElem?_eq_none (l:=tSt f d cs st (k+1)) (by rw[tSt_len];omega),if_neg (by omega),List.getElem?_eq_none (l:=tSt f d cs st k) (by rw[tSt_len];omega)]
theorem tSt_same (f:ForM)(d:DeskM)(cs:List ClassM)(st:List StateM){k:Nat}(h:k<st.length)(hs:toldS f d cs (k:Int) (sAt st k)=sAt st k):tSt f d cs st (k+1)=tSt f d cs st k:=by
 rw[tSt_step f d cs st h,hs]
 apply List.ext_getElem?
 intro n
 rw[List.getElem?_set]
 by_cases e:k=n
 ·subst e;rw[if_pos rfl,if_pos (by rw[tSt_len];exact h),tSt_get h,if_neg (by omega)]
 ·rw[if_neg e]
theorem tDu_step (f:ForM)(d:DeskM)(cs:List ClassM)(st:List StateM)(k:Nat):tDu f d cs st (k+1)=tDu f d cs st k++toldD f d cs (k:Int) (sAt st k):=by
 unfold tDu;rw[List.range_succ,List.flatMap_append];simp
theorem tellD_len (c:ClassM)(n:Int)(t:TodoM):(tellD c n t).length≤1:=by unfold tellD;split<;>simp
theorem toldD_len (f:ForM)(d:DeskM)(cs:List ClassM)(n:Int)(s:StateM):(toldD f d cs n s).length≤2:=by
 unfold toldD
 split
 ·rw[List.length_append]
  have h1:=tellD_len (classV s d cs) n (ownedT s.owner (ownN f.nodes n))
  have h2:=tellD_len (classV s d cs) n (barredT (barN f.nodes n))
  have h3:∀ (p:Prop) [Decidable p] (l:List DueN),(if p then[] else l).length≤l.length:=fun p _ l=>by split<;>simp
  have h4:=h3 (s.owner=ownN f.nodes n) (tellD (classV s d cs) n (ownedT s.owner (ownN f.nodes n)))
  have h5:=h3 (s.barred=barN f.nodes n) (tellD (classV s d cs) n (barredT (barN f.nodes n)))
  omega
 ·simp
theorem tDu_len (f:ForM)(d:DeskM)(cs:List ClassM)(st:List StateM):∀k,(tDu f d cs st k).length≤2*k
 |0=>Nat.le_refl _
 | k+1=>by
   rw[tDu_step,List.length_append]
   have:=tDu_len f d cs st k
   have:=toldD_len f d cs (k:Int) (sAt st k)
   omega
def toldSt (f:ForM)(st:List StateM)(d:DeskM)(cs:List ClassM):List StateM:=if lookV f st d=true then tSt f d cs st st.length else st
def toldDu (f:ForM)(st:List StateM)(d:DeskM)(cs:List ClassM):List DueN:=if lookV f st d=true then tDu f d cs st st.length else[]

theorem f252_ok (x:NodeM):FnOK Tryz.prog 252 [] [eNode x] [] (eBool (isForm x)):=by
 obtain⟨a1,a2,a3,a4,a5,a6,a7,a8,a9,a10⟩:=x
 unfold isForm
 refine FnOK.startC (rvs:=[.tmp 2]) G G_good Tryz.func252 rfl Tryz.ntmps252 rfl rfl ?_;with_reducible refine wD ?_
 by_cases e:a1=1
 ·(have fct:=(eq_true e);(repeat' (first
  |refine gF ?_|refine aE ?_ ?_
  |apply trivial));all_goals clear fct)
  all_goals simp[e]
 ·(have fct:=(eq_false e);(repeat' (first
  |refine gF ?_|refine aE ?_ ?_
  |apply trivial));all_goals clear fct)
  all_goals simp[e]
theorem f267_ok (f:ForM)(T:Tree f.nodes)(n:Int)(hn:thereN f.nodes n=true):FnOK Tryz.prog 267 [] [eFor f,eInt n] [] (eInt (rootN f.nodes n)):=by
 have hstep:=fun n h1 h2=>root_step T (n:=n) h1 h2
 have htop:=fun n h1 h2=>root_top T (n:=n) h1 h2
 have hwst:=fun n h1 h2=>way_step T (n:=n) h1 h2
 have hpar:∀n,thereN f.nodes n=true→(nd f.nodes n).parent=-1∨thereN f.nodes (nd f.nodes n).parent=true:=fun n hn=>by
  by_cases h:(nd f.nodes n).parent=-1
  ·exact .inl h
  ·exact .inr (T.par n hn h).1
 obtain⟨l,m⟩:=f
 simp only at hn hstep htop hpar hwst ⊢
 refine FnOK.startC (rvs:=[.tmp 4]) G G_good Tryz.func267 rfl Tryz.ntmps267 rfl rfl ?_;with_reducible refine wD ?_
 refine LoopK.use G G_good (fun(c:Int)=>[(1,eInt c),(2,.ptr 20 0 0)]) (fun _=>[(20,.live 2 [eFor ⟨l,m⟩] false)])
  (fun c=>thereN l c=true∧rootN l c=rootN l n) (fun c=>(wayN l c).length) n ⟨hn,rfl⟩
  ⟨⟨rfl,rfl⟩,⟨rfl,⟨rfl,rfl⟩,trivial⟩,⟨⟨rfl,rfl,trivial⟩,trivial⟩,trivial⟩ ?_
 rintro c ⟨hc,hr⟩
 with_reducible refine wK ?_
 obtain⟨i,y,e,hy,hny⟩:=there_iff.1 hc
 have hpc:=hpar c hc
 have hst:=hstep c hc
 have htp:=htop c hc
 have hws:=hwst c hc
 rw[hny] at hpc hst htp hws
 obtain⟨b1,b2,b3,b4,b5,b6,b7,b8,b9,b10⟩:=y
 simp only at hpc hst htp hws
 by_cases e6:b6=-1
 ·rw[←hr,htp e6]
  (have fct:=(eq_true e6);(repeat' (first
  |refine gF ?_|refine aE ?_ ?_
  |((refine IdxK.mk i (eNode _) e (node_get hy) ?_)<;>with_reducible refine wK ?_)
  |apply trivial));all_goals clear fct)
  all_goals rfl
 ·(have fct:=(eq_false e6);(repeat' (first
  |refine gF ?_|refine aE ?_ ?_
  | ((first
   |(refine IdxK.mk i (eNode _) e (node_get hy) ?_)
   |((with_reducible show NextK _ _);refine NextK.mk b6 ⟨hpc.resolve_left e6,by rw[←hst e6,hr]⟩ (by rw[hws e6];simp) ⟨⟨rfl,rfl⟩,⟨rfl,⟨rfl,rfl⟩,trivial⟩,⟨⟨rfl,rfl,trivial⟩,trivial⟩,trivial⟩))<;>with_reducible refine wK ?_)
  |apply trivial));all_goals clear fct)
theorem asked_one (f:ForM)(n:Int):(rightF f&& !decide (0≤idxI (fun n=> !thereN f.nodes n) [n]))=(rightF f&&thereN f.nodes n):=by
 congr 1
 unfold idxI
 cases h:thereN f.nodes n<;>simp[List.findIdx?_cons,h]
theorem f251_ok (f:ForM)(hs:SmallN f.nodes)(hr:rightF f=true)(n:Int)(hn:thereN f.nodes n=true):FnOK Tryz.prog 251 [] [eFor f,eInt n] [] (eInt (rootN f.nodes n)):=by
 have h76:=f266_ok f hs [n] (by simp)
 rw[asked_one,hr,hn] at h76
 have h77:=f267_ok f (tree_of hr) n hn
 obtain⟨l,m⟩:=f
 refine FnOK.startC (rvs:=[.tmp 4]) G G_good Tryz.func251 rfl Tryz.ntmps251 rfl rfl ?_;with_reducible refine wD ?_
 refine CallK.lit [71] h76 c266 ⟨⟨rfl,rfl,trivial⟩,frz_ints (l:=[n]) rfl rfl rfl rfl,trivial⟩ rfl rfl ?_;with_reducible refine wK ?_
 repeat' (first
  |refine gK ?_|refine aE ?_ ?_
  |(((with_reducible refine kQ 267 ?_);refine cL h77 c267 ?_)<;>with_reducible refine wK ?_)
  |apply trivial)
 all_goals rfl
end Go.Proofs.Heir
section
namespace Go.Proofs.Heir
open Go Go.Am Go.RowKit Go.Lib
set_option maxRecDepth 100000
set_option maxHeartbeats 8000000
namespace V
variable {l : List NodeM}
theorem ord_more (T:Tree l):∀ (m:Nat) (n:Int),thereN l n=true→l.length+1≤m+ (wayN l n).length→ordN l (m+1) n=ordN l m n
 |0,n,_,h=>by have:=way_len (l:=l) n;omega
 | m+1,n,hn,h=>by
   rw[ordN,ordN]
   congr 1
   refine flatMap_congrI fun k hk=>?_
   refine ord_more T m k (T.kid n hn k hk).1 ?_
   rw[way_kid T hn hk];simp;omega
theorem ord_eq (T:Tree l){n:Int}(hn:thereN l n=true):ordN l l.length n=n::(nd l n).kids.flatMap (ordN l l.length):=by
 have h0:=there_pos hn
 obtain⟨m,hm⟩:∃m,l.length=m+1:=⟨l.length-1,by omega⟩
 have h1:∀k∈ (nd l n).kids,ordN l l.length k=ordN l m k:=fun k hk=>by
  rw[hm]
  refine ord_more T m k (T.kid n hn k hk).1 ?_
  obtain⟨r,hr⟩:=way_head T hn
  rw[way_kid T hn hk,hr];simp;omega
 conv=>lhs;rw[hm,ordN]
 congr 1
 exact flatMap_congrI fun k hk=>(h1 k hk).symm
def rest (l:List NodeM)(st:List Int):List Int:=st.reverse.flatMap (ordN l l.length)
theorem rest_pop (T:Tree l){st:List Int}{t:Int}(ht:thereN l t=true):rest l (st++ [t])=t::rest l (st++ (nd l t).kids.reverse):=by
 unfold rest
 rw[List.reverse_append,List.reverse_append,List.reverse_reverse]
 simp only[List.reverse_cons,List.reverse_nil,List.nil_append,List.cons_append,List.flatMap_cons,List.flatMap_append]
 rw[ord_eq T ht];rfl
theorem rest_len (T:Tree l):∀ {st:List Int},(∀c∈st,thereN l c=true)→st.length≤ (rest l st).length:=by
 intro st h
 unfold rest
 have:∀s:List Int,(∀c∈s,thereN l c=true)→s.length≤ (s.flatMap (ordN l l.length)).length:=by
  intro s
  induction s with
  |nil=>intro _;exact Nat.le_refl _
  | cons a r ih=>
    intro h
    have h1:=ih fun c hc=>h c (List.mem_cons_of_mem _ hc)
    rw[List.flatMap_cons,List.length_append,ord_eq T (h a List.mem_cons_self),List.length_cons,List.length_cons]
    omega
 have:=this st.reverse fun c hc=>h c (by simpa using hc)
 simpa using this
end V
def ordF (f:ForM)(n:Int):List Int:=if(rightF f&&thereN f.nodes n)=true then ordN f.nodes f.nodes.length n else[]
end Go.Proofs.Heir
end
namespace Go.Proofs.Heir
open Go Go.Am Go.RowKit Go.Lib
set_option maxRecDepth 100000
set_option maxHeartbeats 8000000
theorem f265_own (f:ForM)(hs:SmallN f.nodes)(n:Int)(e0:(rightF f&&thereN f.nodes n)=true):FnOK Tryz.prog 265 [] [eFor f,eInt n] [rInts (ordN f.nodes f.nodes.length n)] (.own 0 0 (ordN f.nodes f.nodes.length n).length):=by
 have h76:=f266_ok f hs [n] (by simp)
 rw[asked_one] at h76
 obtain⟨l,m⟩:=f
 simp only at h76 e0 ⊢
 have hlm:(l.map oNode).length=l.length:=List.length_map ..
 refine FnOK.startC (rvs:=[.tmp 4]) G G_good Tryz.func265 rfl Tryz.ntmps265 rfl rfl ?_;delta List.toArray;(with_reducible ((conv=>whnf);(conv=>congr<;>reduce);repeat((first|refine hK ?_|refine sK ?_);(conv=>whnf);(conv=>congr<;>reduce))))
 rw[e0] at h76
 refine CallK.lit [131] h76 c266 ⟨⟨rfl,rfl,trivial⟩,frz_ints (l:=[n]) rfl rfl rfl rfl,trivial⟩ rfl rfl ?_;(with_reducible ((conv=>whnf);(conv=>congr<;>reduce);repeat((first|refine hK ?_|refine sK ?_);(conv=>whnf);(conv=>congr<;>reduce))))
 obtain⟨hr,hn⟩:rightF ⟨l,m⟩=true∧thereN l n=true:=by simpa using e0
 have T:=tree_of hr
 have hol:=ord_len T l.length hn
 simp only at T hol
 repeat' (first
  |(first
  |((with_reducible show IfK _ _ _ _);first|refine IfK.ff ?_|refine IfK.tt ?_|refine IfK.no (by first|exact qA|((try simp only[castN]);first|(simp[];done)|(simp[];omega))) ?_|refine IfK.yes (by first|exact qA|((try simp only[castN]);first|(simp[];done)|(simp[];omega))) ?_)
  |((with_reducible show NeedK _ _ _ _);refine nK ?_)
  |((with_reducible show DrawK _ _ _ _);refine dK ?_))<;>(with_reducible ((conv=>whnf);(conv=>congr<;>reduce);repeat((first|refine hK ?_|refine sK ?_);(conv=>whnf);(conv=>congr<;>reduce))))
  |((with_reducible show(_∧_)∧_∧_);refine⟨⟨rfl,rfl⟩,?_,?_⟩<;>with_reducible ((conv=>whnf)<;>repeat' (first|exact trivial|(refine And.intro ?_ ?_<;>(conv=>whnf))))))
 refine LoopK.ghost 5 51 1 rfl rfl ?_
 refine LoopK.use G G_good (fun(i:List Int×List Int×List Int)=>[(2,.ptr 20 0 0),(5,.own 51 0 i.1.length),(6,.ptr 60 0 0)])
  (fun i=>[(20,.live 2 [eFor ⟨l,m⟩] false),(51,rInts i.1),(60,.live 1 [.own 171 0 i.2.1.length] false),(171,rInts (i.2.1++i.2.2))])
  (fun i=>ordN l l.length n=i.1++V.rest l i.2.1∧∀c∈i.2.1,thereN l c=true) (fun i=>l.length-i.1.length) ([],[n],[]) ⟨by simp[V.rest],fun c hc=>by rw[List.mem_singleton] at hc;subst hc;exact hn⟩
  (by refine⟨⟨rfl,rfl⟩,⟨⟨rfl,rfl⟩,⟨rfl,rfl⟩,⟨rfl,rfl⟩,trivial⟩,⟨⟨rfl,rfl,trivial⟩,trivial⟩,⟨.refl rfl,noRef_ints _⟩,⟨⟨rfl,rfl⟩,trivial⟩,⟨.refl rfl,noRef_ints _⟩,trivial⟩) ?_
 rintro⟨out,st,sp⟩ ⟨ho,hst⟩
 simp only at ho hst
 (with_reducible ((conv=>whnf);(conv=>congr<;>reduce);repeat((first|refine hK ?_|refine sK ?_);(conv=>whnf);(conv=>congr<;>reduce))))
 have hoL:=congrArg List.length ho
 rw[List.length_append] at hoL
 have hol':out.length=(out.map oInt).length:=(List.length_map ..).symm
 have hrl:=V.rest_len T hst
 have hl60:=hs.len
 simp only at hl60
 obtain h|⟨st',t,h⟩:=List.eq_nil_or_concat st<;>(try rw[List.concat_eq_append] at h)<;>subst h
 ·repeat' (first
  |(first
  |((with_reducible show IfK _ _ _ _);first|refine IfK.ff ?_|refine IfK.tt ?_|refine IfK.no (by first|exact qA|((try simp only[castN]);first|(simp[];done)|(simp[];omega))) ?_|refine IfK.yes (by first|exact qA|((try simp only[castN]);first|(simp[];done)|(simp[];omega))) ?_)
  |((with_reducible show NeedK _ _ _ _);refine nK ?_)
  |((with_reducible show DrawK _ _ _ _);refine dK ?_))<;>(with_reducible ((conv=>whnf);(conv=>congr<;>reduce);repeat((first|refine hK ?_|refine sK ?_);(conv=>whnf);(conv=>congr<;>reduce))))
  |((with_reducible show(_∧_)∧_∧_);refine⟨⟨rfl,rfl⟩,?_,?_⟩<;>with_reducible ((conv=>whnf)<;>repeat' (first|exact trivial|(refine And.intro ?_ ?_<;>(conv=>whnf))))))
  all_goals have ho':ordN l l.length n=out:=by rw[ho];simp[V.rest]
  all_goals clear ho hoL
  all_goals subst ho'
  all_goals first
   |rfl
   |exact MFL_refl (noRef_ints _)
 ·have ht:=hst t (by simp)
  have hlen:(st'++ [t]).length=st'.length+1:=by simp
  obtain⟨k,x,rfl,hx,hnx⟩:=there_iff.1 ht
  rw[hlen]
  rw[hlen] at hrl
  repeat' (first
  |(first
  |((with_reducible show IfK _ _ _ _);first|refine IfK.ff ?_|refine IfK.tt ?_|refine IfK.no (by first|exact qA|((try simp only[castN]);first|(simp[];done)|(simp[];omega))) ?_|refine IfK.yes (by first|exact qA|((try simp only[castN]);first|(simp[];done)|(simp[];omega))) ?_)
  |((with_reducible show NeedK _ _ _ _);refine nK ?_)
  |((with_reducible show DrawK _ _ _ _);refine dK ?_))<;>(with_reducible ((conv=>whnf);(conv=>congr<;>reduce);repeat((first|refine hK ?_|refine sK ?_);(conv=>whnf);(conv=>congr<;>reduce))))
  |((with_reducible show(_∧_)∧_∧_);refine⟨⟨rfl,rfl⟩,?_,?_⟩<;>with_reducible ((conv=>whnf)<;>repeat' (first|exact trivial|(refine And.intro ?_ ?_<;>(conv=>whnf))))))
  refine LtK.mk st'.length (by(try simp only[castN]);omega) (by omega) ?_;(with_reducible ((conv=>whnf);(conv=>congr<;>reduce);repeat((first|refine hK ?_|refine sK ?_);(conv=>whnf);(conv=>congr<;>reduce))))
  refine ElemK.mk (eInt (k:Int)) (by rw[Nat.zero_add,List.getElem?_map,List.append_assoc,List.getElem?_append_right (Nat.le_refl _),Nat.sub_self];rfl) ?_;(with_reducible ((conv=>whnf);(conv=>congr<;>reduce);repeat((first|refine hK ?_|refine sK ?_);(conv=>whnf);(conv=>congr<;>reduce))))
  repeat' (first
  |(first
  |((with_reducible show IfK _ _ _ _);first|refine IfK.ff ?_|refine IfK.tt ?_|refine IfK.no (by first|exact qA|((try simp only[castN]);first|(simp[];done)|(simp[];omega))) ?_|refine IfK.yes (by first|exact qA|((try simp only[castN]);first|(simp[];done)|(simp[];omega))) ?_)
  |((with_reducible show NeedK _ _ _ _);refine nK ?_)
  |((with_reducible show DrawK _ _ _ _);refine dK ?_))<;>(with_reducible ((conv=>whnf);(conv=>congr<;>reduce);repeat((first|refine hK ?_|refine sK ?_);(conv=>whnf);(conv=>congr<;>reduce))))
  |((with_reducible show(_∧_)∧_∧_);refine⟨⟨rfl,rfl⟩,?_,?_⟩<;>with_reducible ((conv=>whnf)<;>repeat' (first|exact trivial|(refine And.intro ?_ ?_<;>(conv=>whnf))))))
  refine CutK.mk 0 st'.length rfl (by(try simp only[castN]);omega) (by omega) ?_;(with_reducible ((conv=>whnf);(conv=>congr<;>reduce);repeat((first|refine hK ?_|refine sK ?_);(conv=>whnf);(conv=>congr<;>reduce))))
  repeat' (first
  |(first
  |((with_reducible show IfK _ _ _ _);first|refine IfK.ff ?_|refine IfK.tt ?_|refine IfK.no (by first|exact qA|((try simp only[castN]);first|(simp[];done)|(simp[];omega))) ?_|refine IfK.yes (by first|exact qA|((try simp only[castN]);first|(simp[];done)|(simp[];omega))) ?_)
  |((with_reducible show NeedK _ _ _ _);refine nK ?_)
  |((with_reducible show DrawK _ _ _ _);refine dK ?_))<;>(with_reducible ((conv=>whnf);(conv=>congr<;>reduce);repeat((first|refine hK ?_|refine sK ?_);(conv=>whnf);(conv=>congr<;>reduce))))
  |((with_reducible show(_∧_)∧_∧_);refine⟨⟨rfl,rfl⟩,?_,?_⟩<;>with_reducible ((conv=>whnf)<;>repeat' (first|exact trivial|(refine And.intro ?_ ?_<;>(conv=>whnf))))))
  refine AppK.mk (out.map oInt) [eInt (k:Int)] ⟨rfl,hol',rfl⟩ ⟨rfl,rfl,rfl⟩ rfl (by simp;omega) (by simp;omega) ?_;(with_reducible ((conv=>whnf);(conv=>congr<;>reduce);repeat((first|refine hK ?_|refine sK ?_);(conv=>whnf);(conv=>congr<;>reduce))))
  repeat' (first
  |(first
  |((with_reducible show IfK _ _ _ _);first|refine IfK.ff ?_|refine IfK.tt ?_|refine IfK.no (by first|exact qA|((try simp only[castN]);first|(simp[];done)|(simp[];omega))) ?_|refine IfK.yes (by first|exact qA|((try simp only[castN]);first|(simp[];done)|(simp[];omega))) ?_)
  |((with_reducible show NeedK _ _ _ _);refine nK ?_)
  |((with_reducible show DrawK _ _ _ _);refine dK ?_))<;>(with_reducible ((conv=>whnf);(conv=>congr<;>reduce);repeat((first|refine hK ?_|refine sK ?_);(conv=>whnf);(conv=>congr<;>reduce))))
  |((with_reducible show(_∧_)∧_∧_);refine⟨⟨rfl,rfl⟩,?_,?_⟩<;>with_reducible ((conv=>whnf)<;>repeat' (first|exact trivial|(refine And.intro ?_ ?_<;>(conv=>whnf))))))
  obtain⟨a1,a2,a3,a4,a5,a6,a7,a8,a9,a10⟩:=x
  refine IdxK.mk k (eNode _) rfl (node_get hx) ?_;(with_reducible ((conv=>whnf);(conv=>congr<;>reduce);repeat((first|refine hK ?_|refine sK ?_);(conv=>whnf);(conv=>congr<;>reduce))))
  repeat' (first
  |(first
  |((with_reducible show IfK _ _ _ _);first|refine IfK.ff ?_|refine IfK.tt ?_|refine IfK.no (by first|exact qA|((try simp only[castN]);first|(simp[];done)|(simp[];omega))) ?_|refine IfK.yes (by first|exact qA|((try simp only[castN]);first|(simp[];done)|(simp[];omega))) ?_)
  |((with_reducible show NeedK _ _ _ _);refine nK ?_)
  |((with_reducible show DrawK _ _ _ _);refine dK ?_))<;>(with_reducible ((conv=>whnf);(conv=>congr<;>reduce);repeat((first|refine hK ?_|refine sK ?_);(conv=>whnf);(conv=>congr<;>reduce))))
  |((with_reducible show(_∧_)∧_∧_);refine⟨⟨rfl,rfl⟩,?_,?_⟩<;>with_reducible ((conv=>whnf)<;>repeat' (first|exact trivial|(refine And.intro ?_ ?_<;>(conv=>whnf))))))
  refine cV (f276_ok a7) c276 ?_;(with_reducible ((conv=>whnf);(conv=>congr<;>reduce);repeat((first|refine hK ?_|refine sK ?_);(conv=>whnf);(conv=>congr<;>reduce))))
  repeat' (first
  |(first
  |((with_reducible show IfK _ _ _ _);first|refine IfK.ff ?_|refine IfK.tt ?_|refine IfK.no (by first|exact qA|((try simp only[castN]);first|(simp[];done)|(simp[];omega))) ?_|refine IfK.yes (by first|exact qA|((try simp only[castN]);first|(simp[];done)|(simp[];omega))) ?_)
  |((with_reducible show NeedK _ _ _ _);refine nK ?_)
  |((with_reducible show DrawK _ _ _ _);refine dK ?_))<;>(with_reducible ((conv=>whnf);(conv=>congr<;>reduce);repeat((first|refine hK ?_|refine sK ?_);(conv=>whnf);(conv=>congr<;>reduce))))
  |((with_reducible show(_∧_)∧_∧_);refine⟨⟨rfl,rfl⟩,?_,?_⟩<;>with_reducible ((conv=>whnf)<;>repeat' (first|exact trivial|(refine And.intro ?_ ?_<;>(conv=>whnf))))))
  obtain⟨spF,hs0,hs1⟩:∃spF:Nat→List Int,spF 0=(k:Int)::sp∧∀j,spF (j+1)=[]:=⟨fun j=>match j with|0=>(k:Int)::sp|_+1=>[],rfl,fun _=>rfl⟩
  have hk7:=hs.kids _ (List.mem_of_getElem? hx)
  simp only at hk7
  refine LoopK.range G G_good 3 [(2,.ptr 1 0 0),(5,.own 2 0 (out.length+1)),(6,.ptr 0 0 0),(41,.clo (.func 283) [] [.fptr (eInts a7) 0])]
   (fun j=>[(0,.live 1 [.own 171 0 (st'.length+j)] false),(1,.live 2 [eFor ⟨l,m⟩] false),(2,rInts (out++ [(k:Int)])),(171,rInts (st'++a7.reverse.take j++spF j))])
   (back_it a7 (by omega)) c283 ?_ rfl ⟨⟨rfl,rfl⟩,rfl⟩ (fun _ _=>rfl) (fun _ _=>rfl) ⟨⟨rfl,rfl⟩,rfl,rfl⟩ ?_ ?_
  ·refine⟨⟨rfl,rfl⟩,?_⟩
   (with_reducible conv=>whnf)
   repeat' (first|(with_reducible exact trivial)|(with_reducible refine And.intro ?_ ?_<;>with_reducible conv=>whnf))
   all_goals try rfl
   ·simp
   ·exact⟨.refl rfl,rfl⟩
   ·refine⟨?_,noRef_ints _⟩
    rw[←show(out++ [(k:Int)]).map oInt=out.map oInt++ [AV.lit (.int .i64 k)] by simp;rfl]
    exact .refl (noRef_ints _)
   ·refine⟨?_,noRef_ints _⟩
    rw[hs0,List.take_zero,List.append_nil,show st'++ [(k:Int)]++sp=st'++ (k:Int)::sp by simp];exact .refl (noRef_ints _)
  ·intro j hj
   (with_reducible ((conv=>whnf);(conv=>congr<;>reduce);repeat((first|refine hK ?_|refine sK ?_);(conv=>whnf);(conv=>congr<;>reduce))))
   refine BodyK.mk rfl ?_;(with_reducible ((conv=>whnf);(conv=>congr<;>reduce);repeat((first|refine hK ?_|refine sK ?_);(conv=>whnf);(conv=>congr<;>reduce))))
   repeat' (first
  |(first
  |((with_reducible show IfK _ _ _ _);first|refine IfK.ff ?_|refine IfK.tt ?_|refine IfK.no (by first|exact qA|((try simp only[castN]);first|(simp[];done)|(simp[];omega))) ?_|refine IfK.yes (by first|exact qA|((try simp only[castN]);first|(simp[];done)|(simp[];omega))) ?_)
  |((with_reducible show NeedK _ _ _ _);refine nK ?_)
  |((with_reducible show DrawK _ _ _ _);refine dK ?_))<;>(with_reducible ((conv=>whnf);(conv=>congr<;>reduce);repeat((first|refine hK ?_|refine sK ?_);(conv=>whnf);(conv=>congr<;>reduce))))
  | ((with_reducible show(_∧_)∧_∧_);refine⟨⟨rfl,rfl⟩,?_,?_⟩<;>with_reducible ((conv=>whnf)<;>repeat' (first|exact trivial|(refine And.intro ?_ ?_<;>(conv=>whnf))))))
   refine AppK.take ((st'++a7.reverse.take j).map oInt) [oInt ((a7.reverse[j]?).getD 0)] ⟨rfl,by simp;omega,by rw[List.map_append (l₂:=spF j),List.take_left' (by simp;omega)]⟩ ⟨rfl,rfl,rfl⟩ rfl (by simp;omega) (by simp;omega) ?_
   (with_reducible ((conv=>whnf);(conv=>congr<;>reduce);repeat((first|refine hK ?_|refine sK ?_);(conv=>whnf);(conv=>congr<;>reduce))))
   repeat' (first
  |(first
  |((with_reducible show IfK _ _ _ _);first|refine IfK.ff ?_|refine IfK.tt ?_|refine IfK.no (by first|exact qA|((try simp only[castN]);first|(simp[];done)|(simp[];omega))) ?_|refine IfK.yes (by first|exact qA|((try simp only[castN]);first|(simp[];done)|(simp[];omega))) ?_)
  |((with_reducible show NeedK _ _ _ _);refine nK ?_)
  |((with_reducible show DrawK _ _ _ _);refine dK ?_))<;>(with_reducible ((conv=>whnf);(conv=>congr<;>reduce);repeat((first|refine hK ?_|refine sK ?_);(conv=>whnf);(conv=>congr<;>reduce))))
  | ((with_reducible show(_∧_)∧_∧_);refine⟨⟨rfl,rfl⟩,?_,?_⟩<;>with_reducible ((conv=>whnf)<;>repeat' (first|exact trivial|(refine And.intro ?_ ?_<;>(conv=>whnf))))))
   refine TurnK.mk ?_
   obtain⟨c,hc⟩:∃c,a7.reverse[j]? =some c:=⟨_,List.getElem?_eq_getElem (by simpa using hj)⟩
   have htk:a7.reverse.take (j+1)=a7.reverse.take j++ [c]:=by rw[List.take_add_one,hc];rfl
   rw[hc,Option.getD_some]
   refine⟨⟨rfl,rfl⟩,?_⟩
   (with_reducible conv=>whnf)
   repeat' (first|(with_reducible exact trivial)|(with_reducible refine And.intro ?_ ?_<;>with_reducible conv=>whnf))
   all_goals try rfl
   ·simp;omega
   ·exact⟨.refl rfl,rfl⟩
   ·exact⟨.refl (noRef_ints _),noRef_ints _⟩
   ·refine⟨?_,noRef_ints _⟩
    rw[hs1,htk,List.append_nil,←List.append_assoc,List.map_append (l₂:=[c])];exact .refl (by rw[←List.map_append];exact noRef_ints _)
  ·(with_reducible ((conv=>whnf);(conv=>congr<;>reduce);repeat((first|refine hK ?_|refine sK ?_);(conv=>whnf);(conv=>congr<;>reduce))))
   have hT:nd l k=⟨a1,a2,a3,a4,a5,a6,a7,a8,a9,a10⟩:=hnx
   have hch:(nd l k).kids=a7:=by rw[hT]
   have hpop:=V.rest_pop T (st:=st') ht
   rw[hch] at hpop
   have hkid:∀c∈a7,thereN l c=true:=fun c hc=>(T.kid k ht c (by rw[hch];exact hc)).1
   have hta:a7.reverse.take a7.length=a7.reverse:=List.take_of_length_le (by simp)
   refine NextK.mk (out++ [(k:Int)],st'++a7.reverse,spF a7.length) ⟨?_,?_⟩ ?_ ?_
   ·rw[ho,hpop];simp
   ·intro c hc
    rcases List.mem_append.1 hc with h|h
    ·exact hst c (by simp[h])
    ·exact hkid c (by simpa using h)
   ·simp only[List.length_append,List.length_singleton];omega
   ·refine⟨⟨rfl,rfl⟩,?_⟩
    (with_reducible conv=>whnf)
    repeat' (first|(with_reducible exact trivial)|(with_reducible refine And.intro ?_ ?_<;>with_reducible conv=>whnf))
    all_goals try rfl
    ·simp
    ·exact⟨.refl (noRef_ints _),noRef_ints _⟩
    ·simp
    ·refine⟨?_,noRef_ints _⟩
     rw[hta];exact .refl (noRef_ints _)
theorem wide_ints (l:List Int):wideM [(0,rInts l)]=true:=by
 have:wideB 1 (l.map oInt)=true:=List.all_eq_true.2 fun x hx=>by
  obtain⟨n,_,rfl⟩:=List.mem_map.1 hx;rfl
 show(wideB 1 (l.map oInt)&&true)=true
 rw[this];rfl
theorem f265_ok (f:ForM)(hs:SmallN f.nodes)(n:Int):FnOK Tryz.prog 265 [] [eFor f,eInt n] [] (eInts (ordF f n)):=by
 cases e0:(rightF f&&thereN f.nodes n) with
 | true=>
   unfold ordF
   rw[if_pos e0]
   refine FnOK.frozen [(0,rInts (ordN f.nodes f.nodes.length n))] ?_ (wide_ints _) (f265_own f hs n e0) (frz_ints rfl rfl rfl rfl)
   funext t
   match t with
   |0=>rfl
   |n+1=>rfl
 | false=>
   have h76:=f266_ok f hs [n] (by simp)
   rw[asked_one,e0] at h76
   unfold ordF
   rw[e0]
   obtain⟨l,m⟩:=f
   refine FnOK.startC (rvs:=[.tmp 4]) G G_good Tryz.func265 rfl Tryz.ntmps265 rfl rfl ?_;delta List.toArray;(with_reducible ((conv=>whnf);(conv=>congr<;>reduce);repeat((first|refine hK ?_|refine sK ?_);(conv=>whnf);(conv=>congr<;>reduce))))
   refine CallK.lit [131] h76 c266 ⟨⟨rfl,rfl,trivial⟩,frz_ints (l:=[n]) rfl rfl rfl rfl,trivial⟩ rfl rfl ?_;(with_reducible ((conv=>whnf);(conv=>congr<;>reduce);repeat((first|refine hK ?_|refine sK ?_);(conv=>whnf);(conv=>congr<;>reduce))))
   repeat' (first
  |(first
  |((with_reducible show IfK _ _ _ _);first|refine IfK.ff ?_|refine IfK.tt ?_|refine IfK.no (by first|exact qA|((try simp only[castN]);first|(simp[];done)|(simp[];omega))) ?_|refine IfK.yes (by first|exact qA|((try simp only[castN]);first|(simp[];done)|(simp[];omega))) ?_)
  |((with_reducible show NeedK _ _ _ _);refine nK ?_)
  |((with_reducible show DrawK _ _ _ _);refine dK ?_))<;>(with_reducible ((conv=>whnf);(conv=>congr<;>reduce);repeat((first|refine hK ?_|refine sK ?_);(conv=>whnf);(conv=>congr<;>reduce))))
  | ((with_reducible show(_∧_)∧_∧_);refine⟨⟨rfl,rfl⟩,?_,?_⟩<;>with_reducible ((conv=>whnf)<;>repeat' (first|exact trivial|(refine And.intro ?_ ?_<;>(conv=>whnf))))))
   all_goals exact .inr (.inr ⟨1,rfl⟩)
@[reducible] def eIds (t : List (ByteArray × Int)) : AV := .fmap (tRows Value.string oInt t)
def oIds (t:List (ByteArray×Int)):AV:=eIds t
@[reducible] def idRows (c : List (Int × List (ByteArray × Int))) : List AV := tRows vInt oIds c
@[reducible] def idsM (c : List (Int × List (ByteArray × Int))) : MS := .live 2 (idRows c) false
theorem mt114:MapTy Tryz.prog 263 (.int .i64) (.map none):=⟨3,183,by kernel_rfl,by kernel_rfl,fun w=>Tryz.zeroValue183 w⟩
theorem noRef_tRows {K α:Type}(kv:K→Value)(e:α→AV)(h:∀a,noRef (e a)=true)(l:List (K×α)):noRefL (tRows kv e l)=true:=by
 rw[noRefL_iff];intro x hx
 obtain⟨p,_,rfl⟩:=List.mem_map.1 hx
 simp[entry,noRef,noRefL,h]
theorem noRef_ids (c:List (Int×List (ByteArray×Int))):noRefL (idRows c)=true:=noRef_tRows _ _ (fun _=>rfl) c
theorem noRef_idT (t:List (ByteArray×Int)):noRefL (tRows Value.string oInt t)=true:=noRef_tRows _ _ (fun _=>rfl) t
structure IdsOK (l:List NodeM) (c:List (Int×List (ByteArray×Int))):Prop where
 is:∀r t,tget r c=some t→t=idTab l r
 len:c.length≤1000
def keepT (l:List NodeM)(c:List (Int×List (ByteArray×Int)))(r:Int):List (Int×List (ByteArray×Int)):=match tget r c with
 |some _=>c
 |none=>c++ [(r,idTab l r)]
def stepC (l:List NodeM)(c:List (Int×List (ByteArray×Int)))(n:Int):List (Int×List (ByteArray×Int)):=
 if(nd l n).kind=1 then
  match attV (nd l n) formW with
  |some _=>if conN l n=true then keepT l c (rootN l n) else c
  |none=>c
 else c
theorem keepT_is {l:List NodeM}{c:List (Int×List (ByteArray×Int))}(h:∀r t,tget r c=some t→t=idTab l r)(r:Int):∀q t,tget q (keepT l c r)=some t→t=idTab l q:=by
 intro q t
 unfold keepT
 cases hg:tget r c with
 |some x=>exact h q t
 | none=>
   rw[←tput_new hg,tget_put]
   by_cases e:r=q
   ·rw[if_pos e];intro ht;cases ht;rw[e]
   ·rw[if_neg e];exact h q t
theorem keepT_len (l:List NodeM)(c:List (Int×List (ByteArray×Int)))(r:Int):(keepT l c r).length≤c.length+1:=by
 unfold keepT;split<;>simp
theorem stepC_is {l:List NodeM}{c:List (Int×List (ByteArray×Int))}(h:∀r t,tget r c=some t→t=idTab l r)(n:Int):∀q t,tget q (stepC l c n)=some t→t=idTab l q:=by
 unfold stepC
 split
 ·split
  ·split
   ·exact keepT_is h _
   ·exact h
  ·exact h
 ·exact h
theorem stepC_len (l:List NodeM)(c:List (Int×List (ByteArray×Int)))(n:Int):(stepC l c n).length≤c.length+1:=by
 unfold stepC
 split
 ·split
  ·split
   ·exact keepT_len _ _ _
   ·omega
  ·omega
 ·omega
theorem f249_ok (l:List NodeM)(m:Int)(c:List (Int×List (ByteArray×Int)))(T:Tree l)(n:Int)(hn:thereN l n=true):
  FnOK Tryz.prog 249 [] [.agg [eNodes l,eInt m,.fmap (idRows c)],eInt n] [] (eInt (nearN l n)):=by
 have hstep:=fun n h1 h2=>find_step T (fun p=>isForm (nd l p)) (n:=n) h1 h2
 have htop:=fun n h1 h2=>find_top T (fun p=>isForm (nd l p)) (n:=n) h1 h2
 have hwst:=fun n h1 h2=>way_step T (n:=n) h1 h2
 have hpar:∀n,thereN l n=true→(nd l n).parent=-1∨thereN l (nd l n).parent=true:=fun n hn=>by
  by_cases h:(nd l n).parent=-1
  ·exact .inl h
  ·exact .inr (T.par n hn h).1
 unfold nearN
 obtain⟨q,hq⟩:∃q:Int→Bool,(fun p=>isForm (nd l p))=q:=⟨_,rfl⟩
 rw[hq] at hstep htop ⊢
 have hqe:∀p,q p=isForm (nd l p):=fun p=>by rw[←hq]
 have step:∀p y,thereN l p=true→nd l p=y→(y.parent=-1∧nearBy l q p=-1)∨(thereN l y.parent=true∧y.parent≠-1∧(nearBy l q p=if isForm (nd l y.parent)=true then y.parent else nearBy l q y.parent)∧(wayN l y.parent).length< (wayN l p).length):=by
  rintro p y hp rfl
  by_cases e:(nd l p).parent=-1
  ·exact .inl ⟨e,htop p hp e⟩
  ·exact .inr ⟨(hpar p hp).resolve_left e,e,(hstep p hp e).trans (by first|rfl|rw[hqe]),by rw[hwst p hp e];simp⟩
 clear hstep htop hwst hpar
 refine FnOK.startC (rvs:=[.tmp 4]) G G_good Tryz.func249 rfl Tryz.ntmps249 rfl rfl ?_;with_reducible refine wD ?_
 obtain⟨i,y,e,hy,hny⟩:=there_iff.1 hn
 have hst:=step n y hn hny
 obtain⟨b1,b2,b3,b4,b5,b6,b7,b8,b9,b10⟩:=y
 simp only at hst
 refine IdxK.mk i (eNode _) e (node_get hy) ?_;with_reducible refine wK ?_
 refine LoopK.use G G_good (fun(p:Int)=>[(1,eInt p),(2,.ptr 20 0 0)]) (fun _=>[(20,.live 3 [.agg [eNodes l,eInt m,.fmap (idRows c)]] false)])
  (fun p=>(p=-1∧nearBy l q n=-1)∨(thereN l p=true∧p≠-1∧nearBy l q n=if isForm (nd l p)=true then p else nearBy l q p)) (fun p=>if p=-1 then 0 else(wayN l p).length) b6
  (by rcases hst with h|⟨h1,h2,h3,_⟩;exact .inl h;exact .inr ⟨h1,h2,h3⟩) (by(refine fK ?_;(with_reducible repeat' (first|exact trivial|(show _∧_;refine aK ?_ ?_)));(all_goals try rfl))) ?_
 intro p hp
 with_reducible refine wK ?_
 rcases hp with⟨rfl,h1⟩|⟨h1,h2,h3⟩
 ·rw[h1]
  repeat' (first
  |refine gK ?_|refine aE ?_ ?_
  |apply trivial)
  all_goals rfl
 ·obtain⟨j,z,e',hz,hnz⟩:=there_iff.1 h1
  have hst:=step p z h1 hnz
  rw[hnz] at h3
  have h81:=f252_ok z
  obtain⟨c1,c2,c3,c4,c5,c6,c7,c8,c9,c10⟩:=z
  simp only at hst
  cases hf:isForm ⟨c1,c2,c3,c4,c5,c6,c7,c8,c9,c10⟩ with
  | true=>
    rw[hf] at h81 h3
    rw[h3,if_pos rfl]
    (have fct:=(eq_false h2);(repeat' (first
  |refine gF ?_|refine aE ?_ ?_
  | ((first
   |((with_reducible refine kQ 252 ?_);refine cL h81 c252 ?_)
   |(refine IdxK.mk j (eNode ⟨c1,c2,c3,c4,c5,c6,c7,c8,c9,c10⟩) e' (node_get hz) ?_))<;>with_reducible refine wK ?_)
  | apply trivial));all_goals clear fct)
    all_goals rfl
  | false=>
    rw[hf] at h81 h3
    rw[if_neg (by simp)] at h3
    (have fct:=(eq_false h2);(repeat' (first
  |refine gF ?_|refine aE ?_ ?_
  | ((first
   |((with_reducible refine kQ 252 ?_);refine cL h81 c252 ?_)
   |(refine IdxK.mk j (eNode ⟨c1,c2,c3,c4,c5,c6,c7,c8,c9,c10⟩) e' (node_get hz) ?_))<;>with_reducible refine wK ?_)
  | apply trivial));all_goals clear fct)
    refine NextK.mk c6 ?_ ?_ ?_
    ·rw[h3]
     rcases hst with h|⟨g1,g2,g3,_⟩
     ·exact .inl h
     ·exact .inr ⟨g1,g2,g3⟩
    ·rw[if_neg h2]
     rcases hst with⟨h,_⟩|⟨_,g2,_,g4⟩
     ·rw[if_pos h]
      obtain⟨r,hr⟩:=way_head T h1
      rw[hr];simp
     ·rw[if_neg g2];exact g4
    ·(refine fK ?_;(with_reducible repeat' (first|exact trivial|(show _∧_;refine aK ?_ ?_)));(all_goals try rfl))
theorem f219_ok (f:ForM):FnOK Tryz.prog 219 [] [eFor f] [idsM []] (.agg [eNodes f.nodes,eInt f.most,.mapr 0]):=by
 obtain⟨l,m⟩:=f
 refine FnOK.startC (rvs:=[.cell 2 265]) G G_good Tryz.func219 rfl Tryz.ntmps219 rfl rfl ?_;with_reducible refine wD ?_
 repeat' (first
  |refine gK ?_|refine aE ?_ ?_
  |apply trivial)
 all_goals first|rfl|trivial
theorem rows_snoc {R:AV→AV→Prop}{a b:List AV}{x y:AV}(h:RowsM R a b)(k:R x y):RowsM R (a++ [x]) (b++ [y]):=by
 refine⟨by simp[h.1],fun i u v hu hv=>?_⟩
 rw[List.getElem?_append] at hu hv
 rw[h.1] at hu
 by_cases hi:i<b.length
 ·rw[if_pos hi] at hu hv;exact h.2 i u v hu hv
 ·rw[if_neg hi] at hu hv
  rw[List.getElem?_singleton] at hu hv
  split at hu
  ·rename_i h0;rw[if_pos h0] at hv;cases hu;cases hv;exact k
  ·cases hu
theorem MFL_of {R:AV→AV→Prop}:∀ {a b:List AV},RowsM R a b→MFL R a b
 |[],[],_=>trivial
 |x::xs,y::ys,h=>⟨h.2 0 x y rfl rfl,MFL_of ⟨by have:=h.1;simpa using this,fun i u v hu hv=>h.2 (i+1) u v (by simpa using hu) (by simpa using hv)⟩⟩
 |[],_::_,h=>by have:=h.1;simp at this
 |_::_,[],h=>by have:=h.1;simp at this
theorem ids_snoc (c:List (Int×List (ByteArray×Int)))(r:Int)(t:List (ByteArray×Int)):idRows (c++ [(r,t)])=idRows c++ [entry (vInt r) (eIds t)]:=by
 unfold idRows tRows;rw[List.map_append];rfl
theorem frz_idT {m:ML}{fz:Nat→Bool}{k:Nat}{ro:Bool}{rows:List AV}{t:List (ByteArray×Int)}(h1:lkM m k=.live 2 rows ro)(h2:fz k=true)(h3:rows=tRows Value.string oInt t):FrzMK m fz (eIds t) k:=by
 subst h3
 refine⟨2,_,ro,h1,h2,rfl,fun x hx=>?_⟩
 obtain⟨p,_,rfl⟩:=List.mem_map.1 hx
 exact⟨_,_,rfl,rfl⟩
theorem f250_ok (l:List NodeM)(m:Int)(hs:SmallN l)(hrt:rightF ⟨l,m⟩=true)(c:List (Int×List (ByteArray×Int)))(hc:IdsOK l c)(r:Int)(hr:thereN l r=true):
  FnOK Tryz.prog 250 [idsM c] [.agg [eNodes l,eInt m,.mapr 0],eInt r] [idsM (keepT l c r)] (eIds (idTab l r)):=by
 have T:Tree l:=tree_of hrt
 have h78:=f265_ok ⟨l,m⟩ hs r
 have e78:ordF ⟨l,m⟩ r=ordN l l.length r:=by unfold ordF;rw[if_pos (by rw[hrt,hr];rfl)]
 rw[e78] at h78
 have hol:=ord_len T l.length hr
 have h60:=hs.len
 have hot:∀k∈ordN l l.length r,thereN l k=true:=fun k hk=>(ord_root T hr hk).1
 have hci:=hc.is r
 have hcl:=hc.len
 obtain⟨kt,hkt⟩:∃kt,keepT l c r=kt:=⟨_,rfl⟩
 rw[hkt]
 unfold keepT at hkt
 unfold idTab at hkt hci ⊢
 have hci:=hci
 generalize ordN l l.length r=ks at h78 hol hot hci hkt ⊢
 have hkm:(ks.map oInt).length=ks.length:=List.length_map ..
 refine FnOK.startC (rvs:=[.tmp 4]) G G_good Tryz.func250 rfl Tryz.ntmps250 rfl rfl ?_;with_reducible refine wD ?_
 refine LookK.tab vInt oIds c (k:=r) (zv:=.lit (.map none)) mt114 ⟨_,_,rfl⟩ key_int inj_int rfl rfl (fun x hx=>?_) (fun hx=>?_)
 ·rw[hx] at hkt
  dsimp only at hkt
  subst hkt
  rw[show oIds x=eIds x from rfl]
  have hxe:=hci x hx
  with_reducible refine wK ?_
  repeat' (first
  |refine gK ?_|refine aE ?_ ?_
  |apply trivial)
  all_goals first
   |exact MFL_refl (noRef_ids c)
   |rfl
   |exact(congrArg eIds hxe).symm
   |skip
 ·rw [hx] at hkt
  dsimp only at hkt
  subst hkt
  with_reducible refine wK ?_
  repeat' (first
  |refine gK ?_|refine aE ?_ ?_
  |(((with_reducible refine kQ 265 ?_);refine cV h78 c265 ?_)<;>with_reducible refine wK ?_)
  |apply trivial)
  refine LoopK.use G G_good (fun(j:Nat)=>[(1,eInt r),(2,.ptr 20 0 0),(7,.mapr 71),(27,eInts ks),(28,eInt ks.length),(29,eInt j)])
   (fun j=>[(0,idsM c),(20,.live 3 [.agg [eNodes l,eInt m,.mapr 0]] false),(71,.live 2 (tRows Value.string oInt ((ks.take j).foldl (addId l) [])) false)])
   (fun j=>j≤ks.length) (fun j=>ks.length-j) 0 (Nat.zero_le _) ?_ ?_
  ·(refine fK ?_;(with_reducible repeat' (first|exact trivial|(show _∧_;refine aK ?_ ?_)));(all_goals try rfl))
   all_goals first
    |exact MFL_refl (noRef_ids c)
    |exact hkm
    |(show(ks.length:Int)=_;rw[hkm])
    |(show ObjK _ [] [];exact⟨.refl rfl,rfl⟩)
    |skip
  intro j hj
  with_reducible refine wK ?_
  refine IfK.mk (fun h1=>?_) (fun h1=>?_)<;>(try simp only[castN] at h1)<;>with_reducible refine wK ?_
  ·have hj':j<ks.length:=by simp only[decide_eq_true_eq] at h1;omega
   obtain⟨k,hk⟩:∃k,ks[j]? =some k:=⟨_,List.getElem?_eq_getElem hj'⟩
   obtain⟨i,y,e,hy,hny⟩:=there_iff.1 (hot k (List.mem_of_getElem? hk))
   have h47:=f248_ok y.attrs (by have:=hs.attrs y (List.mem_of_getElem? hy);omega) idW
   have hst:(ks.take (j+1)).foldl (addId l) []=addId l ((ks.take j).foldl (addId l) []) k:=by
    rw[List.take_add_one,hk,List.foldl_append];rfl
   have hfl:=fold_len l (ks.take j) []
   rw[List.length_nil,List.length_take] at hfl
   generalize(ks.take j).foldl (addId l) []=t at hst hfl ⊢
   have ha:addId l t k=if 0≤findP y.attrs idW∧tget (getS y.attrs idW) t=none then tput (getS y.attrs idW) k t else t:=by
    unfold addId attV
    rw[hny]
    by_cases e1:0≤findP y.attrs idW
    ·rw[if_pos e1]
     simp only
     cases e2:tget (getS y.attrs idW) t with
     |none=>rw[if_pos ⟨e1,rfl⟩]
     |some z=>rw[if_neg (fun h=>by cases h.2)]
    ·rw[if_neg e1,if_neg (fun h=>e1 h.1)]
   rw[ha] at hst
   generalize hg:getS y.attrs idW=gs at h47 hst
   obtain⟨ok,hok⟩:∃ok,decide (0≤findP y.attrs idW)=ok:=⟨_,rfl⟩
   rw[hok] at h47
   have hst':(ks.take (j+1)).foldl (addId l) []=if ok=true∧tget gs t=none then tput gs k t else t:=by rw[hst];simp only[←hok,decide_eq_true_eq]
   clear ha hst hg hok
   obtain⟨b1,b2,b3,b4,b5,b6,b7,b8,b9,b10⟩:=y
   simp only at h47
   refine IdxK.mk j (eInt k) rfl (int_get hk) ?_;with_reducible refine wK ?_
   refine IdxK.mk i (eNode _) e (node_get hy) ?_;with_reducible refine wK ?_
   refine cL h47 c248 ?_;with_reducible refine wK ?_
   refine LookK.tab Value.string oInt t (k:=gs) (zv:=eInt 0) map62 ⟨_,_,rfl⟩ key_str inj_str rfl rfl (fun x hx2=>?_) (fun hx2=>?_)
   ·rw[hx2,if_neg (fun h=>by cases h.2)] at hst'
    rw[show oInt x=eInt x from rfl]
    with_reducible refine wK ?_
    cases ok<;>(
     repeat' (first
  |refine gK ?_|refine aE ?_ ?_
  | apply trivial)
     refine NextK.mk (j+1) (by omega) (by omega) ?_
     rw[hst']
     (refine fK ?_;(with_reducible repeat' (first|exact trivial|(show _∧_;refine aK ?_ ?_)));(all_goals try rfl))
     all_goals first
      |exact MFL_refl (noRef_ids c)
      |exact⟨.refl (noRef_idT t),noRef_idT t⟩
      |skip)
   ·rw [hx2] at hst'
    with_reducible refine wK ?_
    cases ok with
    | false=>
      rw[if_neg (fun h=>by cases h.1)] at hst'
      repeat' (first
  |refine gK ?_|refine aE ?_ ?_
  | apply trivial)
      refine NextK.mk (j+1) (by omega) (by omega) ?_
      rw[hst']
      (refine fK ?_;(with_reducible repeat' (first|exact trivial|(show _∧_;refine aK ?_ ?_)));(all_goals try rfl))
      all_goals first
       |exact MFL_refl (noRef_ids c)
       |exact⟨.refl (noRef_idT t),noRef_idT t⟩
       |skip
    | true=>
      rw[if_pos ⟨rfl,rfl⟩] at hst'
      repeat' (first
  |refine gK ?_|refine aE ?_ ?_
  |apply trivial)
      refine PutK.tab Value.string oInt t k map62 rfl key_str inj_str (by unfold maxLen;omega) rfl ?_;with_reducible refine wK ?_
      repeat' (first
  |refine gK ?_|refine aE ?_ ?_
  |apply trivial)
      refine NextK.mk (j+1) (by omega) (by omega) ?_
      rw[hst']
      (refine fK ?_;(with_reducible repeat' (first|exact trivial|(show _∧_;refine aK ?_ ?_)));(all_goals try rfl))
      all_goals first
       |exact MFL_refl (noRef_ids c)
       |exact⟨.refl (noRef_idT _),noRef_idT _⟩
       |skip
  ·have hjl:j=ks.length:=by simp only[decide_eq_false_iff_not] at h1;omega
   subst hjl
   rw[List.take_length]
   generalize hT:ks.foldl (addId l) []=t
   repeat' (first
  |refine gK ?_|refine aE ?_ ?_
  | apply trivial)
   refine PutK.new mt114 rfl (key_int r) (tRows_ents key_int) (tRows_no inj_int hx) (by simp[idRows,tRows,maxLen];omega) rfl rfl ?_;with_reducible refine wK ?_
   repeat' (first
  |refine gK ?_|refine aE ?_ ?_
  | apply trivial)
   all_goals first
    |exact frz_idT rfl rfl rfl
    |skip
   rw[ids_snoc]
   refine MFL_of (rows_snoc (.refl (noRef_ids c)) ?_)
   exact⟨rfl,⟨frz_idT rfl rfl rfl,trivial⟩,trivial⟩
theorem frz_ids {m:ML}{fz:Nat→Bool}{k:Nat}{ro:Bool}{rows:List AV}{c:List (Int×List (ByteArray×Int))}(h1:lkM m k=.live 2 rows ro)(h2:fz k=true)(h3:rows=idRows c):FrzMK m fz (.fmap (idRows c)) k:=by
 subst h3
 refine⟨2,_,ro,h1,h2,rfl,fun x hx=>?_⟩
 obtain⟨p,_,rfl⟩:=List.mem_map.1 hx
 exact⟨_,_,rfl,rfl⟩
theorem att_get {x:NodeM}{w:ByteArray}:attV x w=if 0≤findP x.attrs w then some (getS x.attrs w) else none:=rfl
theorem conF_eq {l:List NodeM}{m:Int}(hr:rightF ⟨l,m⟩=true){n:Int}(hn:thereN l n=true):conF ⟨l,m⟩ n=conN l n:=by
 unfold conF conN;rw[hr,show thereN (ForM.mk l m).nodes n=true from hn];rfl
theorem f220_ok (l:List NodeM)(m:Int)(hs:SmallN l)(hrt:rightF ⟨l,m⟩=true)(c:List (Int×List (ByteArray×Int)))(hc:IdsOK l c)(n:Int)(hn:thereN l n=true):
  FnOK Tryz.prog 220 [idsM c] [.agg [eNodes l,eInt m,.mapr 0],eInt n] [idsM (stepC l c n)] (eInt (ownN l n)):=by
 have T:Tree l:=tree_of hrt
 have h21:=f120_ok ⟨l,m⟩ hs n
 rw[conF_eq hrt hn] at h21
 have h116:=f249_ok l m c T n hn
 have h48:=f251_ok ⟨l,m⟩ hs hrt n hn
 have hrth:=(root_there T n hn).1
 have h117:=f250_ok l m hs hrt c hc (rootN l n) hrth
 have hfst:=fun v k=> @first_some l (rootN l n) v k
 have hord:=fun k hk=>(ord_root T hrth (n:=k) hk).1
 obtain⟨i,x,e,hx,hnx⟩:=there_iff.1 hn
 have h47:=f248_ok x.attrs (by have:=hs.attrs x (List.mem_of_getElem? hx);omega) formW
 unfold ownN stepC byId
 rw[hnx,att_get]
 simp only at h48
 have hig:=fun v=>idTab_get l (rootN l n) v
 generalize rootN l n=r at h48 h117 hfst hord hig ⊢
 generalize nearN l n=nr at h116 ⊢
 generalize conN l n=cn at h21 ⊢
 generalize hgs:getS x.attrs formW=v at h47 ⊢
 obtain⟨ok,hok⟩:∃ok,decide (0≤findP x.attrs formW)=ok:=⟨_,rfl⟩
 rw[hok] at h47
 have hok':(0≤findP x.attrs formW)=(ok=true):=by rw[←hok];simp
 simp only[hok']
 clear hok hok' hgs
 obtain⟨a1,a2,a3,a4,a5,a6,a7,a8,a9,a10⟩:=x
 simp only at h47 ⊢
 refine FnOK.startC (rvs:=[.tmp 4]) G G_good Tryz.func220 rfl Tryz.ntmps220 rfl rfl ?_;with_reducible refine wD ?_
 refine IdxK.mk i (eNode _) e (node_get hx) ?_;with_reducible refine wK ?_
 by_cases e1:a1=1
 ·rw [if_pos e1,if_pos e1]
  refine IfK.no (by rw[e1];rfl) ?_;with_reducible refine wK ?_
  cases ok with
  | false=>
    rw[if_neg (by simp)]
    repeat' (first
  |refine gK ?_|refine aE ?_ ?_
  | ((first
   |((with_reducible refine kQ 248 ?_);refine cL h47 c248 ?_)
   |((with_reducible refine kQ 120 ?_);refine cL h21 c120 ?_)
   |((with_reducible refine kQ 249 ?_);refine CallK.lit [0] h116 c249 ⟨⟨rfl,rfl,frz_ids rfl rfl rfl,trivial⟩,rfl,trivial⟩ rfl rfl ?_))<;>with_reducible refine wK ?_)
  | apply trivial)
    all_goals first|rfl|exact MFL_refl (noRef_ids c)
  | true=>
    rw[if_pos rfl]
    simp only
    cases cn with
    | false=>
      rw[if_neg (by simp),if_neg (by simp)]
      repeat' (first
  |refine gK ?_|refine aE ?_ ?_
  | ((first
   |((with_reducible refine kQ 248 ?_);refine cL h47 c248 ?_)
   |((with_reducible refine kQ 120 ?_);refine cL h21 c120 ?_)
   |((with_reducible refine kQ 249 ?_);refine CallK.lit [0] h116 c249 ⟨⟨rfl,rfl,frz_ids rfl rfl rfl,trivial⟩,rfl,trivial⟩ rfl rfl ?_))<;>with_reducible refine wK ?_)
  | apply trivial)
      all_goals first|rfl|exact MFL_refl (noRef_ids c)
    | true=>
      rw[if_pos rfl,if_pos rfl]
      repeat' (first
  |refine gK ?_|refine aE ?_ ?_
  | ((first
   |((with_reducible refine kQ 248 ?_);refine cL h47 c248 ?_)
   |((with_reducible refine kQ 120 ?_);refine cL h21 c120 ?_)
   |((with_reducible refine kQ 251 ?_);refine cL h48 c251 ?_))<;>with_reducible refine wK ?_)
  |apply trivial)
      refine CallK.lend (news:=[idsM (keepT l c r)]) [0] [] h117 c250 ⟨⟨rfl,rfl,trivial,trivial⟩,rfl,trivial⟩ ⟨⟨rfl,.inl ⟨rfl,noRef_ids c⟩⟩,trivial⟩ rfl ⟨⟨rfl,rfl⟩,rfl⟩ rfl ⟨⟨rfl,.inl ⟨rfl,noRef_ids _⟩⟩,trivial⟩ rfl rfl ?_
      with_reducible refine wK ?_
      refine LookK.tab Value.string oInt (idTab l r) (k:=v) (zv:=eInt 0) map62 rfl key_str inj_str rfl rfl (fun k hk=>?_) (fun hk=>?_)
      ·rw[hig] at hk
       rw[hk,show oInt k=eInt k from rfl]
       simp only
       obtain⟨j,y,e',hy,hny⟩:=there_iff.1 (hord k (hfst v k hk).1)
       rw[hny]
       have h81:=f252_ok y
       obtain⟨b1,b2,b3,b4,b5,b6,b7,b8,b9,b10⟩:=y
       obtain⟨fm,hfm⟩:∃fm,isForm ⟨b1,b2,b3,b4,b5,b6,b7,b8,b9,b10⟩=fm:=⟨_,rfl⟩
       rw[hfm] at h81 ⊢
       with_reducible refine wK ?_
       by_cases ev:v=⟨#[]⟩
       ·rw[if_neg (fun h=>h.1 ev)]
        have ev':v=⟨⟨[]⟩⟩:=ev
        (have fct:=ev';(repeat' (first
  |refine gF ?_|refine aE ?_ ?_
  |(((with_reducible show DrawK _ _ _ _);refine dK ?_)<;>with_reducible refine wK ?_)
  |apply  trivial));all_goals clear fct)
        all_goals first|rfl|exact MFL_refl (noRef_ids _)
       ·have ev':¬v=⟨⟨[]⟩⟩:=ev
        cases fm with
        | true=>
          rw[if_pos ⟨ev,rfl⟩]
          (have fct:=ev';(repeat' (first
  |refine gF ?_|refine aE ?_ ?_
  | ((first
   |((with_reducible show DrawK _ _ _ _);refine dK ?_)
   |(refine IdxK.mk j (eNode ⟨b1,b2,b3,b4,b5,b6,b7,b8,b9,b10⟩) e' (node_get hy) ?_)
   |((with_reducible refine kQ 252 ?_);refine cL h81 c252 ?_))<;>with_reducible refine wK ?_)
  |apply  trivial));all_goals clear fct)
          all_goals first|rfl|exact MFL_refl (noRef_ids _)
        | false=>
          rw[if_neg (fun h=>by cases h.2)]
          (have fct:=ev';(repeat' (first
  |refine gF ?_|refine aE ?_ ?_
  | ((first
   |((with_reducible show DrawK _ _ _ _);refine dK ?_)
   |(refine IdxK.mk j (eNode ⟨b1,b2,b3,b4,b5,b6,b7,b8,b9,b10⟩) e' (node_get hy) ?_)
   |((with_reducible refine kQ 252 ?_);refine cL h81 c252 ?_))<;>with_reducible refine wK ?_)
  |apply  trivial));all_goals clear fct)
          all_goals first|rfl|exact MFL_refl (noRef_ids _)
      ·rw[hig] at hk
       rw[hk]
       with_reducible refine wK ?_
       repeat' (first
  |refine gK ?_|refine aE ?_ ?_
  |(((with_reducible show DrawK _ _ _ _);refine dK ?_)<;>with_reducible refine wK ?_)
  |apply trivial)
       all_goals first|rfl|exact MFL_refl (noRef_ids _)
 ·rw[if_neg e1,if_neg e1]
  (have fct:=(eq_false e1);(repeat' (first
  |refine gF ?_|refine aE ?_ ?_
  |apply trivial));all_goals clear fct)
  all_goals first|rfl|exact MFL_refl (noRef_ids c)
theorem idsOK_nil (l:List NodeM):IdsOK l []:=⟨fun r t h=>(by cases h),(by simp)⟩
def ownTo (l:List NodeM)(k:Nat):List Int:=(List.range k).map fun n:Nat=>ownN l (n:Int)
def keepTo (l:List NodeM):Nat→List (Int×List (ByteArray×Int))
 |0=>[]
 |k+1=>stepC l (keepTo l k) (k:Int)
theorem keepTo_ok (l:List NodeM):∀k,k≤64→IdsOK l (keepTo l k)∧(keepTo l k).length≤k
 |0,_=>⟨idsOK_nil l,Nat.le_refl _⟩
 | k+1,h=>by
   obtain⟨h1,h2⟩:=keepTo_ok l k (by omega)
   have h3:=stepC_len l (keepTo l k) (k:Int)
   exact⟨⟨stepC_is h1.is _,by show(stepC l (keepTo l k) (k:Int)).length≤_;omega⟩,by show(stepC l (keepTo l k) (k:Int)).length≤_;omega⟩
theorem ownTo_step (l:List NodeM)(k:Nat):ownTo l (k+1)=ownTo l k++ [ownN l (k:Int)]:=by unfold ownTo;rw[List.range_succ,List.map_append];rfl
theorem ownTo_len (l:List NodeM)(k:Nat):(ownTo l k).length=k:=by unfold ownTo;simp
def allF (f:ForM):List Int:=if rightF f=true then ownTo f.nodes f.nodes.length else[]
theorem f169_ok (f:ForM)(hs:SmallN f.nodes):FnOK Tryz.prog 169 [] [eFor f] [] (eInts (allF f)):=by
 have h15:=f100_ok f hs
 have h73:=f219_ok f
 have h60:=hs.len
 obtain⟨l,m⟩:=f
 unfold allF
 simp only at h73 h60 ⊢
 have hlm:(l.map oNode).length=l.length:=List.length_map ..
 obtain⟨o,ho⟩:∃o,(if rightF ⟨l,m⟩=true then ownTo l l.length else[])=o:=⟨_,rfl⟩
 rw[ho]
 refine FnOK.startC (rvs:=[.tmp 2]) G G_good Tryz.func169 rfl Tryz.ntmps169 rfl rfl ?_;with_reducible refine wD ?_
 cases hr:rightF ⟨l,m⟩ with
 | false=>
   rw[hr] at h15
   rw[hr,if_neg (by simp)] at ho
   subst ho
   repeat' (first
  |refine gK ?_|refine aE ?_ ?_
  |(((with_reducible refine kQ 100 ?_);refine cL h15 c100 ?_)<;>with_reducible refine wK ?_)
  | apply trivial)
   all_goals exact .inr (.inr ⟨1,rfl⟩)
 | true=>
   rw[hr] at h15
   rw[hr,if_pos rfl] at ho
   subst ho
   have hstep:=fun k=>ownTo_step l k
   have hlen:=fun k=>ownTo_len l k
   have hcall:∀k,k<l.length→FnOK Tryz.prog 220 [idsM (keepTo l k)] [.agg [eNodes l,eInt m,.mapr 0],eInt (k:Int)] [idsM (keepTo l (k+1))] (eInt (ownN l (k:Int))):=fun k hk=>
    f220_ok l m hs hr (keepTo l k) (keepTo_ok l k (by omega)).1 k (there_get (List.getElem?_eq_getElem hk))
   have hk0:keepTo l 0=[]:=rfl
   have ho0:ownTo l 0=[]:=rfl
   generalize keepTo l=kt at hcall hk0
   generalize ownTo l=ot at hstep hlen ho0 ⊢
   repeat' (first
  |refine gK ?_|refine aE ?_ ?_
  | ((first
   |((with_reducible refine kQ 100 ?_);refine cL h15 c100 ?_)
   |((with_reducible refine kQ 219 ?_);refine CallK.new 101 [] h73 c219 ⟨⟨rfl,rfl,trivial⟩,trivial⟩ rfl rfl rfl ⟨.nil _,rfl,trivial⟩ rfl ?_))<;>with_reducible refine wK ?_)
  | apply trivial)
   refine LoopK.ghost 3 31 1 rfl rfl ?_
   refine LoopK.use G G_good (fun(k:Nat)=>[(1,.ptr 10 0 0),(3,.own 31 0 k),(4,.ptr 40 0 0),(13,eInt l.length),(14,eInt k)])
    (fun k=>[(10,.live 2 [eFor ⟨l,m⟩] false),(31,rInts (ot k)),(40,.live 3 [.agg [eNodes l,eInt m,.mapr 101]] false),(101,idsM (kt k))])
    (fun k=>k≤l.length) (fun k=>l.length-k) 0 (Nat.zero_le _) ?_ ?_
   ·(refine fK ?_;(with_reducible repeat' (first|exact trivial|(show _∧_;refine aK ?_ ?_)));(all_goals try rfl))
    all_goals first
     |(show(l.length:Int)=_;rw[hlm])
     |(rw[ho0];exact⟨.refl rfl,rfl⟩)
     |(rw[hk0];exact⟨.refl rfl,rfl⟩)
     |skip
   intro k hk
   have hkl:=hlen k
   have hkm:((ot k).map oInt).length=k:=by rw[List.length_map,hkl]
   with_reducible refine wK ?_
   refine IfK.mk (fun h1=>?_) (fun h1=>?_)<;>(try simp only[castN] at h1)<;>with_reducible refine wK ?_
   ·have hk':k<l.length:=by simp only[decide_eq_true_eq] at h1;omega
    have h74:=hcall k hk'
    have hst:=hstep k
    generalize ownN l (k:Int)=o at h74 hst
    repeat' (first
  |refine gK ?_|refine aE ?_ ?_
  | ((first
   |((with_reducible refine kQ 220 ?_);refine CallK.lend (news:=[idsM (kt (k+1))]) [101] [] h74 c220 ⟨⟨rfl,rfl,trivial,trivial⟩,rfl,trivial⟩ ⟨⟨rfl,.inl ⟨rfl,noRef_ids _⟩⟩,trivial⟩ rfl ⟨⟨rfl,rfl⟩,rfl⟩ rfl ⟨⟨rfl,.inl ⟨rfl,noRef_ids _⟩⟩,trivial⟩ rfl rfl ?_)
   |((with_reducible show AppK _ _ _ _ _ _ _ _ _ _);refine AppK.mk ((ot k).map oInt) [eInt o] ⟨rfl,hkm.symm,rfl⟩ ⟨rfl,rfl,rfl⟩ rfl (by simp;omega) (by simp;omega) ?_)
   |((with_reducible show DrawK _ _ _ _);refine dK ?_))<;>with_reducible refine wK ?_)
  | apply trivial)
    refine NextK.mk (k+1) (by omega) (by omega) ?_
    rw[hst]
    (refine fK ?_;(with_reducible repeat' (first|exact trivial|(show _∧_;refine aK ?_ ?_)));(all_goals try rfl))
    all_goals first
     |(simp[hkl];done)
     |(refine⟨?_,noRef_ints _⟩;rw[List.map_append];exact .refl (by rw[←List.map_append];exact noRef_ints _))
     |exact⟨.refl (noRef_ids _),noRef_ids _⟩
     |skip
   ·have hjl:k=l.length:=by simp only[decide_eq_false_iff_not] at h1;omega
    subst hjl
    repeat' (first
  |refine gK ?_|refine aE ?_ ?_
  | apply trivial)
    all_goals exact frz_ints rfl rfl rfl hkl.symm
theorem fin_succ {l:List NodeM}{m:Nat}{n:Int}:finN l (m+1) n=if(nd l n).parent=-1 then true else finN l m (nd l n).parent:=rfl
theorem walk_succ {l:List NodeM}{m:Nat}{b:Int}:walkB l (m+1) b=if(nd l b).parent=-1 then false else(condB l (nd l b).parent b||walkB l m (nd l b).parent):=rfl
theorem f221_ok (f:ForM)(hs:SmallN f.nodes)(T:Tree f.nodes)(k:Nat)(x:NodeM)(hx:f.nodes[k]? =some x):FnOK Tryz.prog 221 [] [eFor f,eInt k] [] (eBool (barN f.nodes k)):=by
 have h28:∀x∈f.nodes,FnOK Tryz.prog 253 [] [eNode x] [] (eBool (disX x)):=fun x hx=>f253_ok x (by have:=hs.attrs x hx;omega)
 have h20:∀ (k:Nat) (x:NodeM),f.nodes[k]? =some x→FnOK Tryz.prog 254 [] [eFor f,eInt k] [] (eInt (legN f.nodes k)):=fun k x hx=>f254_ok f hs k x hx fun c hc=>by
  have:=T.kid k (there_get hx) c
  rw[nd_get hx] at this
  exact(this hc).1
 have hfin:=T.fin k (there_get hx)
 have hpar:=T.par
 have hk:=(List.getElem?_eq_some_iff.1 hx).1
 obtain⟨l,m⟩:=f
 unfold barN
 simp only at h28 h20 hx hfin hpar hk ⊢
 rw[nd_get hx]
 have hx':=hx
 have h28x:=h28 x (List.mem_of_getElem? hx)
 have hw:disX x=false→x.kind=1→∀b:Bool,walkB l l.length k=b→(disX x||(decide (x.kind=1)&&walkB l l.length k))=b:=fun h1 h2 b h=>by rw[h1,h2,h];simp
 have hwn:disX x=false→x.kind≠1→(disX x||(decide (x.kind=1)&&walkB l l.length k))=false:=fun h1 h2=>by rw[h1,decide_eq_false h2];rfl
 have hwy:disX x=true→(disX x||(decide (x.kind=1)&&walkB l l.length k))=true:=fun h1=>by rw[h1];rfl
 have hdk:=@dis_kind x
 obtain⟨a1,a2,a3,a4,a5,a6,a7,a8,a9,a10⟩:=x
 have hxp:(nd l k).parent=a6:=by rw[nd_get hx]
 simp only at hw hwn hwy hdk ⊢
 refine FnOK.startC (rvs:=[.tmp 4]) G G_good Tryz.func221 rfl Tryz.ntmps221 rfl rfl ?_;with_reducible refine wD ?_
 refine IdxK.mk k (eNode _) rfl (node_get hx) ?_;with_reducible refine wK ?_
 refine cL h28x c253 ?_;with_reducible refine wK ?_
 cases d0:disX ⟨a1,a2,a3,a4,a5,a6,a7,a8,a9,a10⟩ with
 | true=>
   have e1:=hdk d0
   rw[Bool.true_or]
   (have fct:=And.intro d0 (e1);(repeat' (first
  |refine gF ?_|refine aE ?_ ?_
  |((refine IdxK.mk k (eNode _) rfl (node_get hx) ?_)<;>with_reducible refine wK ?_)
  | apply trivial));all_goals clear fct)
   all_goals simp[e1]
 | false =>
   by_cases e1:¬a1=1
   ·rw[decide_eq_false e1]
    (have fct:=And.intro d0 ((eq_false e1));(repeat' (first
  |refine gF ?_|refine aE ?_ ?_
  |((refine IdxK.mk k (eNode _) rfl (node_get hx) ?_)<;>with_reducible refine wK ?_)
  | apply trivial));all_goals clear fct)
    all_goals simp
   have e1:=Decidable.not_not.1 e1
   rw[decide_eq_true e1,Bool.false_or,Bool.true_and]
   (have fct:=And.intro d0 (e1);(repeat' (first
  |refine gF ?_|refine aE ?_ ?_
  |((refine IdxK.mk k (eNode _) rfl (node_get hx) ?_)<;>with_reducible refine wK ?_)
  | apply trivial));all_goals clear fct)
   refine LoopK.use G G_good (fun(i:Nat×Nat)=>[(2,.ptr 20 0 0),(5,eInt i.2),(6,eInt (nd l i.2).parent)]) (fun _=>[(20,.live 2 [eFor ⟨l,m⟩] false)])
    (fun i=>i.2<l.length∧finN l i.1 i.2=true∧walkB l l.length k=walkB l i.1 i.2) (fun i=>i.1) (l.length,k) ⟨hk,hfin,rfl⟩
    ⟨⟨rfl,rfl⟩,⟨⟨rfl,rfl⟩,rfl,hxp,trivial⟩,⟨⟨rfl,rfl,trivial⟩,trivial⟩,trivial⟩ ?_
   rintro⟨n,b⟩ ⟨hb,hf,hwk⟩
   simp only at hb hf hwk
   obtain⟨y,hy⟩:∃y,l[b]? =some y:=⟨_,List.getElem?_eq_getElem hb⟩
   have hpb:=hpar b (there_get hy)
   cases n with
   |zero=>simp[finN] at hf
   |succ n=>
   rw[fin_succ] at hf
   rw[walk_succ] at hwk
   rw[nd_get hy] at hf hwk hpb
   with_reducible refine wK ?_
   simp only[nd_get hy]
   obtain⟨b1,b2,b3,b4,b5,b6,b7,b8,b9,b10⟩:=y
   simp only at hf hwk hpb ⊢
   by_cases p1:b6=-1
   ·rw[if_pos p1] at hwk
    rw[hwk]
    (have fct:=p1;(repeat' (first
  |refine gF ?_|refine aE ?_ ?_
  | apply trivial));all_goals clear fct)
   ·rw [if_neg p1] at hf hwk
    obtain⟨i,z,rfl,hz,hnz⟩:=there_iff.1 (hpb p1).1
    have h28z:=h28 z (List.mem_of_getElem? hz)
    have h20z:=h20 i z hz
    have hi:=(List.getElem?_eq_some_iff.1 hz).1
    have hzp:(nd l i).parent=z.parent:=by rw[hnz]
    unfold condB at hwk
    rw[hnz] at hwk
    obtain⟨z1,z2,z3,z4,z5,z6,z7,z8,z9,z10⟩:=z
    simp only at hwk hzp
    have hne:¬ ((i:Int)=-1):=p1
    refine IfK.yes (by simp[hne]) ?_;with_reducible refine wK ?_
    refine IdxK.mk i (eNode ⟨z1,z2,z3,z4,z5,z6,z7,z8,z9,z10⟩) rfl (node_get hz) ?_;with_reducible refine wK ?_
    by_cases f1:z2=fldW
    ·cases d1:disX ⟨z1,z2,z3,z4,z5,z6,z7,z8,z9,z10⟩ with
     | true=>
       by_cases g1:legN l i=b
       ·rw[d1,decide_eq_false (fun h:legN l i≠b=>h g1),Bool.and_false,Bool.and_false,Bool.false_or] at hwk
        (have fct:=And.intro f1 (And.intro d1 (g1));(repeat' (first
  |refine gF ?_|refine aE ?_ ?_
  | ((first
   |((with_reducible refine kQ 253 ?_);refine cL h28z c253 ?_)
   |((with_reducible refine kQ 254 ?_);refine cL h20z c254 ?_)
   |(refine IdxK.mk i (eNode ⟨z1,z2,z3,z4,z5,z6,z7,z8,z9,z10⟩) rfl (node_get hz) ?_)
   |((with_reducible show NextK _ _);refine NextK.mk (n,i) ⟨hi,hf,hwk⟩ (Nat.lt_succ_self n) ⟨⟨rfl,rfl⟩,⟨⟨rfl,rfl⟩,rfl,hzp,trivial⟩,⟨⟨rfl,rfl,trivial⟩,trivial⟩,trivial⟩))<;>with_reducible refine wK ?_)
  |apply trivial));all_goals clear fct)
       ·rw[d1,decide_eq_true f1,decide_eq_true (show legN l i≠b from g1)] at hwk
        rw[hwk]
        (have fct:=And.intro f1 (And.intro d1 ((eq_false g1)));(repeat' (first
  |refine gF ?_|refine aE ?_ ?_
  | ((first
   |((with_reducible refine kQ 253 ?_);refine cL h28z c253 ?_)
   |((with_reducible refine kQ 254 ?_);refine cL h20z c254 ?_))<;>with_reducible refine wK ?_)
  |apply trivial));all_goals clear fct)
        all_goals simp
     | false=>
       rw[d1,Bool.false_and,Bool.and_false,Bool.false_or] at hwk
       (have fct:=And.intro f1 (d1);(repeat' (first
  |refine gF ?_|refine aE ?_ ?_
  | ((first
   |((with_reducible refine kQ 253 ?_);refine cL h28z c253 ?_)
   |(refine IdxK.mk i (eNode ⟨z1,z2,z3,z4,z5,z6,z7,z8,z9,z10⟩) rfl (node_get hz) ?_)
   |((with_reducible show NextK _ _);refine NextK.mk (n,i) ⟨hi,hf,hwk⟩ (Nat.lt_succ_self n) ⟨⟨rfl,rfl⟩,⟨⟨rfl,rfl⟩,rfl,hzp,trivial⟩,⟨⟨rfl,rfl,trivial⟩,trivial⟩,trivial⟩))<;>with_reducible refine wK ?_)
  | apply trivial));all_goals clear fct)
    ·rw[decide_eq_false f1,Bool.false_and,Bool.false_or] at hwk
     (have fct:=(eq_false f1);(repeat' (first
  |refine gF ?_|refine aE ?_ ?_
  | ((first
   |(refine IdxK.mk i (eNode ⟨z1,z2,z3,z4,z5,z6,z7,z8,z9,z10⟩) rfl (node_get hz) ?_)
   |((with_reducible show NextK _ _);refine NextK.mk (n,i) ⟨hi,hf,hwk⟩ (Nat.lt_succ_self n) ⟨⟨rfl,rfl⟩,⟨⟨rfl,rfl⟩,rfl,hzp,trivial⟩,⟨⟨rfl,rfl,trivial⟩,trivial⟩,trivial⟩))<;>with_reducible refine wK ?_)
  |apply trivial));all_goals clear fct)
theorem f172_ok (f:ForM)(hs:SmallN f.nodes)(n:Int):FnOK Tryz.prog 172 [] [eFor f,eInt n] [] (eBool (thereN f.nodes n&&(rightF f&&barN f.nodes n))):=by
 have h13:=f100_ok f hs
 have h18:rightF f=true→∀ (k:Nat) (x:NodeM),f.nodes[k]? =some x→FnOK Tryz.prog 221 [] [eFor f,eInt k] [] (eBool (barN f.nodes k)):=fun hr k x hx=>f221_ok f hs (tree_of hr) k x hx
 obtain⟨l,m⟩:=f
 simp only at h13 h18 ⊢
 have hlm:(l.map oNode).length=l.length:=List.length_map ..
 refine FnOK.startC (rvs:=[.tmp 4]) G G_good Tryz.func172 rfl Tryz.ntmps172 rfl rfl ?_;with_reducible refine wD ?_
 by_cases e0:¬0≤n
 ·have ht:thereN l n=false:=by unfold thereN;simp[e0]
  rw[ht]
  (have fct:=(eq_false e0);(repeat' (first
  |refine gF ?_|refine aE ?_ ?_
  |apply trivial));all_goals clear fct)
  all_goals simp
 have e0:=Decidable.not_not.1 e0
 by_cases e1:¬n< (l.length:Int)
 ·have ht:thereN l n=false:=by unfold thereN;simp[e1]
  rw[ht]
  (have fct:=And.intro e0 (And.intro hlm ((eq_false e1)));(repeat' (first
  |refine gF ?_|refine aE ?_ ?_
  |apply trivial));all_goals clear fct)
  all_goals simp
 have e1:=Decidable.not_not.1 e1
 have ht:thereN l n=true:=by unfold thereN;simp[e0,e1]
 obtain⟨k,x,rfl,hx,_⟩:=there_iff.1 ht
 rw[ht]
 cases hr:rightF ⟨l,m⟩ with
 | false=>
   (have fct:=And.intro hlm (And.intro e0 (And.intro e1 (hr)));(repeat' (first
  |refine gF ?_|refine aE ?_ ?_
  |(((with_reducible refine kQ 100 ?_);refine cL h13 c100 ?_)<;>with_reducible refine wK ?_)
  | apply trivial));all_goals clear fct)
   all_goals simp
 | true=>
   have h18':=h18 hr k x hx
   (have fct:=And.intro hlm (And.intro e0 (And.intro e1 (hr)));(repeat' (first
  |refine gF ?_|refine aE ?_ ?_
  | ((first
   |((with_reducible refine kQ 100 ?_);refine cL h13 c100 ?_)
   |((with_reducible refine kQ 221 ?_);refine cL h18' c221 ?_))<;>with_reducible refine wK ?_)
  | apply trivial));all_goals clear fct)
   all_goals simp
@[reducible] def mStates (l : List StateM) : MS := .live 4 (l.map oState) false
theorem noRef_states (l:List StateM):noRefL (l.map oState)=true:=noRefL_map oState (fun _=>rfl) l
theorem one_states (l:List StateM):oneL (flat (l.map oState))=true:=oneL_map oState (fun _=>rfl) l
theorem states_outs (l:List StateM):okOuts [mStates l]:=⟨Wide.of_mem fun r hr=>by
 obtain⟨a,_,rfl⟩:=List.mem_map.1 hr
 rfl,noRef_states l,trivial⟩
theorem frz_states {m:ML}{fz:Nat→Bool}{tab:List (Nat×Nat)}{n t len:Nat}{ro:Bool}{rows:List AV}{l:List StateM}(h1:lkM m t=.live 4 rows ro)(h2:fz t=true)(h3:rows=l.map oState)(h4:len=l.length):FrzK m fz (MF tab fz m n) (eStates l) t 0 len:=by
 subst h3;subst h4
 have e:(l.map oState).length=l.length:=List.length_map ..
 exact .cut h1 h2 (by omega) (by rw[List.drop_zero,List.take_of_length_le (by omega)]) (noRef_states l)
theorem f102_ok (l:List StateM)(hl:l.length≤100000):FnOK Tryz.prog 102 [] [eStates l] [mStates l] (.own 0 0 l.length):=by
 have hlm:(l.map oState).length=l.length:=List.length_map ..
 refine FnOK.startC (rvs:=[.tmp 2]) G G_good Tryz.func102 rfl Tryz.ntmps102 rfl rfl ?_;with_reducible refine wD ?_
 refine GuessK.mk (fun h=>?_) (fun _=>?_)<;>with_reducible refine wK ?_
 ·obtain rfl:l=[]:=by simpa using h
  (refine eK ?_ ?_<;>with_reducible repeat' (first|exact trivial|(show _∧_;refine aK ?_ ?_)))
  all_goals first|rfl|trivial
 ·refine AppK.mk [] (l.map oState) ⟨rfl,rfl,rfl⟩ ⟨rfl,rfl,rfl⟩ (one_states l) (by simp;omega) (by simp;omega) ?_;with_reducible refine wK ?_
  (refine eK ?_ ?_<;>with_reducible repeat' (first|exact trivial|(show _∧_;refine aK ?_ ?_)))
  ·exact hlm.symm
  ·exact MFL_refl (noRef_states l)
theorem snoc_duesN (l:List DueN)(x:DueN):l.map oDueN++ [eDueN x]=(l++ [x]).map oDueN:=by rw[List.map_append];rfl
@[reducible] def eHall (f : ForM) (x : AV) (d : DeskM) (cs : List ClassM) (y : AV) : AV := .agg [eNodes f.nodes, eInt f.most, x, eDefs d.defs, eWaits d.waits, eInt d.next, eBool d.busy, eClasses cs, y]
@[reducible] def mHall (f : ForM) (x : AV) (d : DeskM) (cs : List ClassM) (y : AV) : MS := .live 9 [eHall f x d cs y] false
@[reducible] def nilA : AV := .lit (.slice none 0 0)
theorem f168_ok (f:ForM)(hs:SmallN f.nodes)(st:List StateM)(hst:st.length≤100000)(d:DeskM)(hd:SmallD d)(cs:List ClassM):
  FnOK Tryz.prog 168 [] [eFor f,eStates st,eDesk d,eClasses cs] [mHall f (.own 1 0 st.length) d cs nilA,mStates st] (.tup [.ptr 0 0 0,eBool (lookV f st d)]):=by
 have h15:=f100_ok f hs
 have h71:=f144_ok d hd
 have h108:=f102_ok st hst
 have hsm:(st.map oState).length=st.length:=List.length_map ..
 have hlm:=(show(f.nodes.map oNode).length=f.nodes.length from List.length_map ..)
 unfold lookV
 obtain⟨l,m⟩:=f
 obtain⟨d1,d2,d3,d4⟩:=d
 simp only at h15 h71 hlm ⊢
 refine FnOK.startC (rvs:=[.tmp 8,.tmp 9]) G G_good Tryz.func168 rfl Tryz.ntmps168 rfl rfl ?_;with_reducible refine wD ?_
 refine CallK.new 131 [] h108 c102 ⟨rfl,trivial⟩ rfl rfl rfl (states_outs st) rfl ?_;with_reducible refine wK ?_
 by_cases e1:st.length=l.length
 ·cases e2:rightF ⟨l,m⟩<;>rw[e2] at h15
  ·(have fct:=And.intro hsm (And.intro hlm ((eq_true e1)));(repeat' (first
  |refine gF ?_|refine aE ?_ ?_
  | ((first
   |((with_reducible refine kQ 100 ?_);refine cL h15 c100 ?_)
   |((with_reducible show DrawK _ _ _ _);refine dK ?_))<;>with_reducible refine wK ?_)
  | apply trivial));all_goals clear fct)
   all_goals first|(simp[e1];done)|exact⟨.refl (noRef_states st),noRef_states st⟩|exact .inl rfl|rfl
  ·cases e3:rightD ⟨d1,d2,d3,d4⟩<;>rw[e3] at h71
   all_goals ((have fct:=And.intro hsm (And.intro hlm ((eq_true e1)));(repeat' (first
  |refine gF ?_|refine aE ?_ ?_
  | ((first
   |((with_reducible refine kQ 100 ?_);refine cL h15 c100 ?_)
   |((with_reducible refine kQ 144 ?_);refine cL h71 c144 ?_)
   |((with_reducible show DrawK _ _ _ _);refine dK ?_))<;>with_reducible refine wK ?_)
  | apply trivial));all_goals clear fct))
   all_goals first|(simp[e1];done)|exact⟨.refl (noRef_states st),noRef_states st⟩|exact .inl rfl|rfl
 ·(have fct:=And.intro hsm (And.intro hlm ((eq_false e1)));(repeat' (first
  |refine gF ?_|refine aE ?_ ?_
  |(((with_reducible show DrawK _ _ _ _);refine dK ?_)<;>with_reducible refine wK ?_)
  |apply trivial));all_goals clear fct)
  all_goals first|(simp[e1];done)|exact⟨.refl (noRef_states st),noRef_states st⟩|exact .inl rfl|rfl
theorem f171_yes (f:ForM)(st:List StateM)(d:DeskM)(cs:List ClassM)(due:List DueN)(hdl:due.length≤100000)(c:ClassM)(hc:c.hooks.length≤100000)(n:Int)(t:TodoM)(hh:hearsC c t.kind=true):
  FnOK Tryz.prog 171 [mHall f (.own 1 0 st.length) d cs (.own 2 0 due.length),mStates st,rDuesN due] [.ptr 0 0 0,eClass c,eInt n,eTodo t]
   [mHall f (.own 1 0 st.length) d cs (.own 3 0 (due.length+1)),mStates st,.dead,rDuesN (due++ [⟨n,t⟩])] (.tup []):=by
 have h37:=f119_ok c hc t.kind
 rw[hh] at h37
 have hdm:(due.map oDueN).length=due.length:=List.length_map ..
 obtain⟨l,m⟩:=f
 obtain⟨d1,d2,d3,d4⟩:=d
 obtain⟨c1,c2,c3,c4,c5⟩:=c
 obtain⟨t1,t2,t3,t4,t5,t6,t7,t8,t9,t10⟩:=t
 simp only at h37
 refine FnOK.startB (rvs:=[]) G G_good Tryz.func171 rfl Tryz.ntmps171 rfl rfl ?_;with_reducible refine wD ?_
 repeat' (first
  |refine gK ?_|refine aE ?_ ?_
  | ((first
   |((with_reducible refine kQ 119 ?_);refine cL h37 c119 ?_)
   |((with_reducible show AppK _ _ _ _ _ _ _ _ _ _);refine AppK.mk (due.map oDueN) [eDueN ⟨n,⟨t1,t2,t3,t4,t5,t6,t7,t8,t9,t10⟩⟩] ⟨rfl,hdm.symm,rfl⟩ ⟨rfl,rfl,rfl⟩ rfl (by simp;omega) (by simp;omega) ?_)
   |((with_reducible show DrawK _ _ _ _);refine dK ?_))<;>with_reducible refine wK ?_)
  |apply trivial)
 all_goals first
  |(simp;done)
  |exact⟨.refl (noRef_states st),noRef_states st⟩
  |(show ObjK _ ((due++ ([⟨n,⟨t1,t2,t3,t4,t5,t6,t7,t8,t9,t10⟩⟩]:List DueN)).map oDueN) (due.map oDueN++ [eDueN ⟨n,⟨t1,t2,t3,t4,t5,t6,t7,t8,t9,t10⟩⟩]);rw[snoc_duesN];exact⟨.refl (noRef_duesN _),noRef_duesN _⟩)
theorem f171_no (f:ForM)(st:List StateM)(d:DeskM)(cs:List ClassM)(due:List DueN)(c:ClassM)(hc:c.hooks.length≤100000)(n:Int)(t:TodoM)(hh:hearsC c t.kind=false):
  FnOK Tryz.prog 171 [mHall f (.own 1 0 st.length) d cs (.own 2 0 due.length),mStates st,rDuesN due] [.ptr 0 0 0,eClass c,eInt n,eTodo t]
   [mHall f (.own 1 0 st.length) d cs (.own 2 0 due.length),mStates st,rDuesN due] (.tup []):=by
 have h37:=f119_ok c hc t.kind
 rw[hh] at h37
 obtain⟨l,m⟩:=f
 obtain⟨d1,d2,d3,d4⟩:=d
 obtain⟨c1,c2,c3,c4,c5⟩:=c
 obtain⟨t1,t2,t3,t4,t5,t6,t7,t8,t9,t10⟩:=t
 simp only at h37
 refine FnOK.startC (rvs:=[]) G G_good Tryz.func171 rfl Tryz.ntmps171 rfl rfl ?_;with_reducible refine wD ?_
 repeat' (first
  |refine gK ?_|refine aE ?_ ?_
  |(((with_reducible refine kQ 119 ?_);refine cL h37 c119 ?_)<;>with_reducible refine wK ?_)
  |apply trivial)
 all_goals first
  |exact⟨.refl (noRef_states st),noRef_states st⟩
  |exact⟨.refl (noRef_duesN due),noRef_duesN due⟩
section
variable {m : ML} {b s e : Nat} {f : ForM} {st st' : List StateM} {d : DeskM} {cs : List ClassM} {due due' : List DueN} {k k' n n' : Nat}
theorem ins_hall (hb:lkM m b=mHall f (.own s 0 n) d cs (.own e 0 k))(hs:lkM m s=mStates st)(he:lkM m e=rDuesN due){r:List Nat}:InsM (tabR 3 0 (b::s::e::r)) [] m [mHall f (.own 1 0 n) d cs (.own 2 0 k),mStates st,rDuesN due] (b::s::e::r):=by
 simp only[InsM,hb,hs,he]
 refine⟨⟨trivial,.inr ⟨⟨⟨rfl,rfl,?_,rfl,rfl,rfl,rfl,rfl,?_,trivial⟩,trivial⟩,rfl⟩⟩,⟨trivial,.inl ⟨rfl,noRef_states _⟩⟩,⟨trivial,.inl ⟨rfl,noRef_duesN _⟩⟩,trivial⟩
 all_goals (simp[MF,tabR,lkN,Nat.beq_refl])
theorem news_hall:NewsM [b,s,e] [mHall f (.own 1 0 n) d cs (.own 2 0 k),mStates st,rDuesN due] [mHall f (.own s 0 n) d cs (.own e 0 k),mStates st,rDuesN due]:=
 ⟨⟨rfl,.inr ⟨rfl,rfl,rfl⟩⟩,⟨rfl,.inl ⟨rfl,noRef_states _⟩⟩,⟨rfl,.inl ⟨rfl,noRef_duesN _⟩⟩,trivial⟩
theorem news_tell {q:Nat}:NewsM [b,s,e,q] [mHall f (.own 1 0 n) d cs (.own 3 0 k),mStates st,.dead,rDuesN due] [mHall f (.own s 0 n) d cs (.own q 0 k),mStates st,.dead,rDuesN due]:=
 ⟨⟨rfl,.inr ⟨rfl,rfl,rfl⟩⟩,⟨rfl,.inl ⟨rfl,noRef_states _⟩⟩,⟨rfl,.inl ⟨rfl,noRef_duesN _⟩⟩,trivial⟩
end
theorem set_st (l:List StateM)(k:Nat)(y:StateM):(l.map oState).set (0+k) (eState y)=(l.set k y).map oState:=by rw[Nat.zero_add,List.map_set];rfl
theorem f170_own (f:ForM)(st:List StateM)(ns:Nat)(hns:st.length=ns)(d:DeskM)(cs:List ClassM)(due:List DueN)(k:Nat)(s:StateM)(hk:st[k]? =some s)(ht:thereN f.nodes (k:Int)=true):
  FnOK Tryz.prog 170 [mHall f (.own 1 0 ns) d cs (.own 2 0 due.length),mStates st,rDuesN due] [.ptr 0 0 0,eInt k] [mHall f (.own 1 0 ns) d cs (.own 2 0 due.length),mStates st,rDuesN due] (.tup [eClass (classV s d cs),eBool (dutyB f d cs k s)]):=by
 have hkl:=(List.getElem?_eq_some_iff.1 hk).1
 have h36:=f117_ok s d cs
 unfold dutyB
 obtain⟨i,x,e,hx,hnx⟩:=there_iff.1 ht
 rw[hnx]
 obtain⟨l,m⟩:=f
 obtain⟨d1,d2,d3,d4⟩:=d
 obtain⟨cv,hcv⟩:∃cv,classV s ⟨d1,d2,d3,d4⟩ cs=cv:=⟨_,rfl⟩
 obtain⟨cb,hcb⟩:∃cb,classB s ⟨d1,d2,d3,d4⟩ cs=cb:=⟨_,rfl⟩
 rw[hcv,hcb] at h36 ⊢
 obtain⟨s1,s2,s3,s4⟩:=s
 obtain⟨c1,c2,c3,c4,c5⟩:=cv
 obtain⟨a1,a2,a3,a4,a5,a6,a7,a8,a9,a10⟩:=x
 simp only at hx
 clear hcv hcb
 refine FnOK.startC (rvs:=[.cell 4 53,.tmp 5]) G G_good Tryz.func170 rfl Tryz.ntmps170 rfl rfl ?_;with_reducible refine wD ?_
 repeat' (first
  |refine gK ?_|refine aE ?_ ?_
  | ((first
   |(refine IdxK.mk i (eNode _) e (node_get hx) ?_)
   |((with_reducible show LtK _ _ _ _ _);refine LtK.mk k rfl (by omega) ?_)
   |((with_reducible show ElemK _ _ _ _ _);refine ElemK.mk (eState ⟨s1,s2,s3,s4⟩) (by rw[Nat.zero_add];exact state_get hk) ?_)
   |((with_reducible refine kQ 117 ?_);refine cV h36 c117 ?_)
   |((with_reducible show DrawK _ _ _ _);refine dK ?_))<;>with_reducible refine wK ?_)
  |apply trivial)
 cases cb with
 | false=>
   repeat' (first
  |refine gK ?_|refine aE ?_ ?_
  |(((with_reducible show DrawK _ _ _ _);refine dK ?_)<;>with_reducible refine wK ?_)
  | apply trivial)
   all_goals first
    |rfl
    |exact⟨.refl (noRef_states st),noRef_states st⟩
    |exact⟨.refl (noRef_duesN due),noRef_duesN due⟩
    |(simp[*];done)
 | true =>
   cases c1 with
   | false=>
     repeat' (first
  |refine gK ?_|refine aE ?_ ?_
  |(((with_reducible show DrawK _ _ _ _);refine dK ?_)<;>with_reducible refine wK ?_)
  | apply trivial)
     all_goals first
      |rfl
      |exact⟨.refl (noRef_states st),noRef_states st⟩
      |exact⟨.refl (noRef_duesN due),noRef_duesN due⟩
      |(simp[*];done)
   | true=>
     by_cases e1:s1=3
     ·(have fct:=(eq_true e1);(repeat' (first
  |refine gF ?_|refine aE ?_ ?_
  | ((first
   |(refine IdxK.mk i (eNode _) e (node_get hx) ?_)
   |((with_reducible show DrawK _ _ _ _);refine dK ?_))<;>with_reducible refine wK ?_)
  |apply trivial));all_goals clear fct)
      all_goals first
       |rfl
       |exact⟨.refl (noRef_states st),noRef_states st⟩
       |exact⟨.refl (noRef_duesN due),noRef_duesN due⟩
       |(simp[*];done)
     ·(have fct:=(eq_false e1);(repeat' (first
  |refine gF ?_|refine aE ?_ ?_
  |(((with_reducible show DrawK _ _ _ _);refine dK ?_)<;>with_reducible refine wK ?_)
  |apply trivial));all_goals clear fct)
      all_goals first
       |rfl
       |exact⟨.refl (noRef_states st),noRef_states st⟩
       |exact⟨.refl (noRef_duesN due),noRef_duesN due⟩
       |(simp[*];done)
theorem tellD_yes {c:ClassM}{n:Int}{t:TodoM}(h:hearsC c t.kind=true):tellD c n t=[⟨n,t⟩]:=by unfold tellD;rw[if_pos h]
theorem tellD_no {c:ClassM}{n:Int}{t:TodoM}(h:hearsC c t.kind=false):tellD c n t=[]:=by unfold tellD;rw[if_neg (by simp[h])]
theorem classV_hooks {cs:List ClassM}(h:∀c∈cs,c.hooks.length≤100000)(s:StateM)(d:DeskM):(classV s d cs).hooks.length≤100000:=by
 unfold classV
 split
 ·cases hg:cs[(classAt s d cs.length).toNat]? with
  |none=>show(0:Nat)≤_;omega
  |some c=>exact h c (List.mem_of_getElem? hg)
 ·show(0:Nat)≤_;omega
theorem f104_ok (f:ForM)(hs:SmallN f.nodes)(st:List StateM)(hst:st.length≤1000)(d:DeskM)(hd:SmallD d)(cs:List ClassM)(hcs:∀c∈cs,c.hooks.length≤100000):
  FnOK Tryz.prog 104 [] [eFor f,eStates st,eDesk d,eClasses cs] [] (.tup [eStates (toldSt f st d cs),eDuesN (toldDu f st d cs)]):=by
 have h64:=f168_ok f hs st (by omega) d hd cs
 obtain⟨os',hos'⟩:∃x,toldSt f st d cs=x:=⟨_,rfl⟩
 obtain⟨od,hod⟩:∃x,toldDu f st d cs=x:=⟨_,rfl⟩
 rw[hos',hod]
 unfold toldSt at hos'
 unfold toldDu at hod
 obtain⟨lv,hlv⟩:∃lv,lookV f st d=lv:=⟨_,rfl⟩
 rw[hlv] at h64 hos' hod
 cases lv with
 | false=>
   rw[if_neg (by simp)] at hos' hod
   subst hos'
   subst hod
   obtain⟨l,m⟩:=f
   obtain⟨d1,d2,d3,d4⟩:=d
   refine FnOK.startC (rvs:=[.tmp 8,.tmp 9]) G G_good Tryz.func104 rfl Tryz.ntmps104 rfl rfl ?_;with_reducible refine wD ?_
   refine CallK.lend (news:=[mHall ⟨l,m⟩ (.own 241 0 st.length) ⟨d1,d2,d3,d4⟩ cs nilA,mStates st]) [240,241] [] h64 c168 ⟨⟨rfl,rfl,trivial⟩,rfl,⟨rfl,rfl,rfl,rfl,trivial⟩,rfl,trivial⟩ trivial rfl ⟨⟨rfl,rfl⟩,rfl⟩ rfl ⟨⟨rfl,.inr ⟨rfl,rfl,rfl⟩⟩,⟨rfl,.inl ⟨rfl,noRef_states _⟩⟩,trivial⟩ rfl rfl ?_
   with_reducible refine wK ?_
   repeat' (first
  |refine gK ?_|refine aE ?_ ?_
  | apply trivial)
   all_goals first|exact frz_states rfl rfl rfl rfl|exact .inr (.inr ⟨_,rfl⟩)
 | true =>
   rw[if_pos rfl] at hos' hod
   have hlv':=hlv
   unfold lookV at hlv'
   obtain⟨⟨hlen,hr⟩,hrd⟩:(st.length=f.nodes.length∧rightF f=true)∧rightD d=true:=by simpa using hlv'
   have h42:=f169_ok f hs
   have e42:allF f=ownTo f.nodes f.nodes.length:=by unfold allF;rw[if_pos hr]
   rw[e42] at h42
   have h39:=fun n=>f172_ok f hs n
   have hhk:=fun s=>classV_hooks hcs s d
   have h60:=hs.len
   have hos:∀k,k<st.length→(ownTo f.nodes f.nodes.length)[k]? =some (ownN f.nodes (k:Int)):=fun k hk=>by
    unfold ownTo;rw[List.getElem?_map,List.getElem?_range (by omega)];rfl
   have hol:=ownTo_len f.nodes f.nodes.length
   have hth:∀k,k<st.length→thereN f.nodes (k:Int)=true:=fun k hk=>there_get (List.getElem?_eq_getElem (by omega))
   have htl:=fun k=>tSt_len f d cs st k
   have htg:∀k,k<st.length→(tSt f d cs st k)[k]? =some (sAt st k):=fun k hk=>by rw[tSt_get hk,if_neg (by omega)]
   have hts:=fun k hk=>tSt_step f d cs st (k:=k) hk
   have htm:=fun k hk=>tSt_same f d cs st (k:=k) hk
   have htd:=fun k=>tDu_step f d cs st k
   have htdl:=fun k=>tDu_len f d cs st k
   have ht0:=tSt_zero f d cs st
   have hd0:tDu f d cs st 0=[]:=rfl
   have hSd:∀k s,toldS f d cs k s=if dutyB f d cs k s=true then⟨s.phase,s.df,ownN f.nodes k,barN f.nodes k⟩ else s:=fun k s=>rfl
   have hDd:∀k s,toldD f d cs k s=if dutyB f d cs k s=true then
    (if s.owner=ownN f.nodes k then[] else tellD (classV s d cs) k (ownedT s.owner (ownN f.nodes k)))++ (if s.barred=barN f.nodes k then[] else tellD (classV s d cs) k (barredT (barN f.nodes k))) else[]:=fun k s=>rfl
   have h65:=fun(st':List StateM) (due:List DueN) (k:Nat) (s:StateM) (h1:st'.length=st.length) (h2:st'[k]? =some s) (h3:thereN f.nodes (k:Int)=true)=>f170_own f st' st.length h1 d cs due k s h2 h3
   generalize tSt f d cs st=ts at hos' htl htg hts htm ht0
   generalize tDu f d cs st=td at hod htd htdl hd0
   subst hos'
   subst hod
   generalize ownTo f.nodes f.nodes.length=ol at h42 hos hol
   have hom:(ol.map oInt).length=ol.length:=List.length_map ..
   obtain⟨l,m⟩:=f
   obtain⟨d1,d2,d3,d4⟩:=d
   simp only at hlen h60 hol
   refine FnOK.startC (rvs:=[.tmp 8,.tmp 9]) G G_good Tryz.func104 rfl Tryz.ntmps104 rfl rfl ?_;with_reducible refine wD ?_
   refine CallK.lend (news:=[mHall ⟨l,m⟩ (.own 241 0 st.length) ⟨d1,d2,d3,d4⟩ cs nilA,mStates st]) [240,241] [] h64 c168 ⟨⟨rfl,rfl,trivial⟩,rfl,⟨rfl,rfl,rfl,rfl,trivial⟩,rfl,trivial⟩ trivial rfl ⟨⟨rfl,rfl⟩,rfl⟩ rfl ⟨⟨rfl,.inr ⟨rfl,rfl,rfl⟩⟩,⟨rfl,.inl ⟨rfl,noRef_states _⟩⟩,trivial⟩ rfl rfl ?_
   with_reducible refine wK ?_
   repeat' (first
  |refine gK ?_|refine aE ?_ ?_
  |(((with_reducible refine kQ 169 ?_);refine cV h42 c169 ?_)<;>with_reducible refine wK ?_)
  | apply trivial)
   refine LoopK.ghostRow 10 240 248 11 0 8 (eHall ⟨l,m⟩ (.own 241 0 st.length) ⟨d1,d2,d3,d4⟩ cs nilA) (eHall ⟨l,m⟩ (.own 241 0 st.length) ⟨d1,d2,d3,d4⟩ cs (.own 248 0 0)) rfl rfl rfl rfl rfl rfl ?_
   refine LoopK.use G G_good (fun(k:Nat)=>[(4,.ptr 40 0 0),(10,.ptr 240 0 0),(34,eInts ol),(35,eInt ol.length),(36,eInt k)])
    (fun k=>[(40,.live 2 [eFor ⟨l,m⟩] false),(240,mHall ⟨l,m⟩ (.own 241 0 st.length) ⟨d1,d2,d3,d4⟩ cs (.own 248 0 (td k).length)),(241,mStates (ts k)),(248,rDuesN (td k))])
    (fun k=>k≤st.length) (fun k=>st.length-k) 0 (Nat.zero_le _) ?_ ?_
   ·rw[ht0,hd0]
    (refine fK ?_;(with_reducible repeat' (first|exact trivial|(show _∧_;refine aK ?_ ?_)));(all_goals try rfl))
    all_goals first
     |(show(ol.length:Int)=_;rw[hom])
     |exact⟨⟨rfl,rfl,⟨rfl,rfl⟩,rfl,rfl,rfl,rfl,rfl,⟨rfl,rfl⟩,trivial⟩,trivial⟩
     |exact⟨.refl (noRef_states st),noRef_states st⟩
     |(show ObjK _ [] [];exact⟨.refl rfl,rfl⟩)
   intro k hk
   have hdl:=htdl k
   have htk:=htl k
   with_reducible refine wK ?_
   refine IfK.mk (fun h1=>?_) (fun h1=>?_)<;>(try simp only[castN] at h1)<;>with_reducible refine wK ?_
   ·have hk':k<st.length:=by simp only[decide_eq_true_eq] at h1;omega
    have hok:=hos k hk'
    have hgk:=htg k hk'
    have h65:=h65 (ts k) (td k) k (sAt st k) htk hgk (hth k hk')
    have h39:=h39 (k:Int)
    rw[hth k hk',hr,Bool.true_and,Bool.true_and] at h39
    have hts:=hts k hk'
    have htm:=htm k hk'
    have htd:=htd k
    have hhk:=hhk (sAt st k)
    have hSd:=hSd k (sAt st k)
    have hDd:=hDd k (sAt st k)
    have htl1:=htl (k+1)
    clear hos htl htg htdl h64 h42 hth
    generalize sAt st k=s at*
    obtain⟨dy,hdy⟩:∃dy,dutyB ⟨l,m⟩ ⟨d1,d2,d3,d4⟩ cs (k:Int) s=dy:=⟨_,rfl⟩
    rw[hdy] at h65 hSd hDd
    generalize hcv:classV s ⟨d1,d2,d3,d4⟩ cs=cv at*
    generalize ownN l (k:Int)=o at*
    generalize barN l (k:Int)=b at*
    generalize ts k=X at*
    generalize td k=D at*
    obtain⟨s1,s2,s3,s4⟩:=s
    obtain⟨c1,c2,c3,c4,c5⟩:=cv
    refine IdxK.mk k (eInt o) rfl (int_get hok) ?_;with_reducible refine wK ?_
    refine CallK.lend (news:=[mHall ⟨l,m⟩ (.own 241 0 st.length) ⟨d1,d2,d3,d4⟩ cs (.own 248 0 D.length),mStates X,rDuesN D]) [240,241,248] [] h65 c170 ⟨⟨rfl,rfl⟩,rfl,trivial⟩ (ins_hall rfl rfl rfl) rfl ⟨⟨rfl,rfl⟩,rfl⟩ rfl news_hall rfl rfl ?_
    with_reducible refine wK ?_
    cases dy with
    | false=>
      rw[if_neg (by simp)] at hSd hDd
      rw[hSd] at htm
      rw[hDd,List.append_nil] at htd
      repeat' (first
  |refine gK ?_|refine aE ?_ ?_
  | apply trivial)
      refine NextK.mk (k+1) (by omega) (by omega) ?_
      rw[htd,htm rfl]
      (refine fK ?_;(with_reducible repeat' (first|exact trivial|(show _∧_;refine aK ?_ ?_)));(all_goals try rfl))
      all_goals first
       |exact⟨.refl (noRef_states _),noRef_states _⟩
       |exact⟨.refl (noRef_duesN _),noRef_duesN _⟩
       |(simp;done)
    | true=>
      rw[if_pos rfl] at hSd hDd
      simp only at hSd hDd
      rw[hSd] at hts htm
      rw[hDd] at htd
      have hXk:X[k]? =some ⟨s1,s2,s3,s4⟩:=hgk
      have h66y:∀ (Z:List StateM) (E:List DueN) (t:TodoM),Z.length=st.length→E.length≤1000→hearsC ⟨c1,c2,c3,c4,c5⟩ t.kind=true→
        FnOK Tryz.prog 171 [mHall ⟨l,m⟩ (.own 1 0 st.length) ⟨d1,d2,d3,d4⟩ cs (.own 2 0 E.length),mStates Z,rDuesN E] [.ptr 0 0 0,eClass ⟨c1,c2,c3,c4,c5⟩,eInt (k:Int),eTodo t]
         [mHall ⟨l,m⟩ (.own 1 0 st.length) ⟨d1,d2,d3,d4⟩ cs (.own 3 0 (E.length+1)),mStates Z,.dead,rDuesN (E++ [⟨(k:Int),t⟩])] (.tup []):=fun Z E t hz he hh=>by
       have:=f171_yes ⟨l,m⟩ Z ⟨d1,d2,d3,d4⟩ cs E (by omega) ⟨c1,c2,c3,c4,c5⟩ hhk (k:Int) t hh
       rwa [hz] at this
      have h66n:∀ (Z:List StateM) (E:List DueN) (t:TodoM),Z.length=st.length→hearsC ⟨c1,c2,c3,c4,c5⟩ t.kind=false→
        FnOK Tryz.prog 171 [mHall ⟨l,m⟩ (.own 1 0 st.length) ⟨d1,d2,d3,d4⟩ cs (.own 2 0 E.length),mStates Z,rDuesN E] [.ptr 0 0 0,eClass ⟨c1,c2,c3,c4,c5⟩,eInt (k:Int),eTodo t]
         [mHall ⟨l,m⟩ (.own 1 0 st.length) ⟨d1,d2,d3,d4⟩ cs (.own 2 0 E.length),mStates Z,rDuesN E] (.tup []):=fun Z E t hz hh=>by
       have:=f171_no ⟨l,m⟩ Z ⟨d1,d2,d3,d4⟩ cs E ⟨c1,c2,c3,c4,c5⟩ hhk (k:Int) t hh
       rwa [hz] at this
      have hDl:D.length≤500:=by omega
      clear h65 hSd hDd hhk
      by_cases e1:s3=o
      ·obtain rfl:=e1.symm
       rw[if_pos rfl,List.nil_append] at htd
       by_cases e2:s4=b
       ·obtain rfl:=e2.symm
        rw[if_pos rfl,List.append_nil] at htd
        repeat' (first
  |refine gK ?_|refine aE ?_ ?_
  | ((first
   |((with_reducible show LtK _ _ _ _ _);refine LtK.mk k rfl (by omega) ?_)
   |((with_reducible show ElemK _ _ _ _ _);refine ElemK.mk (eState ⟨s1,s2,o,b⟩) (by rw[Nat.zero_add];exact state_get hXk) ?_)
   |((with_reducible refine kQ 172 ?_);refine cL h39 c172 ?_))<;>with_reducible refine wK ?_)
  |apply  trivial)
        refine NextK.mk (k+1) (by omega) (by omega) ?_
        rw[htd,htm rfl]
        (refine fK ?_;(with_reducible repeat' (first|exact trivial|(show _∧_;refine aK ?_ ?_)));(all_goals try rfl))
        all_goals first
         |exact⟨.refl (noRef_states _),noRef_states _⟩
         |exact⟨.refl (noRef_duesN _),noRef_duesN _⟩
         |(simp;done)
       ·rw[if_neg e2] at htd
        have e2':(b==s4)=false:=by cases b<;>cases s4<;>simp at e2 ⊢
        (have fct:=e2';(repeat' (first
  |refine gF ?_|refine aE ?_ ?_
  | ((first
   |((with_reducible show LtK _ _ _ _ _);refine LtK.mk k rfl (by omega) ?_)
   |((with_reducible show ElemK _ _ _ _ _);refine ElemK.mk (eState ⟨s1,s2,o,s4⟩) (by rw[Nat.zero_add];exact state_get hXk) ?_)
   |((with_reducible refine kQ 172 ?_);refine cL h39 c172 ?_))<;>with_reducible refine wK ?_)
  |apply  trivial));all_goals clear fct)
        have htk2:(X.set k ⟨s1,s2,o,b⟩).length=st.length:=by simp[htk]
        rw[set_st X k ⟨s1,s2,o,b⟩]
        cases hw2:hearsC ⟨c1,c2,c3,c4,c5⟩ 6 with
        | true=>
          rw[tellD_yes (show hearsC _ (barredT b).kind=true from hw2)] at htd
          have hFl:(D++ ([⟨(k:Int),barredT b⟩]:List DueN)).length=D.length+1:=by simp
          refine CallK.lend (news:=[mHall ⟨l,m⟩ (.own 241 0 st.length) ⟨d1,d2,d3,d4⟩ cs (.own 911 0 (D.length+1)),mStates (X.set k ⟨s1,s2,o,b⟩),.dead,rDuesN (D++ [⟨(k:Int),barredT b⟩])]) [240,241,248,911] [] (h66y (X.set k ⟨s1,s2,o,b⟩) D (barredT b) (by simp;omega) (by omega) hw2) c171 ⟨⟨rfl,rfl⟩,⟨rfl,rfl,rfl,rfl,rfl,trivial⟩,rfl,⟨rfl,rfl,rfl,rfl,rfl,rfl,rfl,rfl,rfl,rfl,trivial⟩,trivial⟩ (ins_hall rfl rfl rfl) rfl ⟨⟨rfl,rfl⟩,rfl⟩ rfl news_tell rfl rfl ?_
          with_reducible refine wK ?_
          repeat' (first
  |refine gK ?_|refine aE ?_ ?_
  |apply  trivial)
          refine NextK.mk (k+1) (by omega) (by omega) ?_
          rw[htd,hts]
          (refine fK ?_;(with_reducible repeat' (first|exact trivial|(show _∧_;refine aK ?_ ?_)));(all_goals try rfl))
          all_goals first
           |exact⟨.refl (noRef_states _),noRef_states _⟩
           |exact⟨.refl (noRef_duesN _),noRef_duesN _⟩
           |(simp;done)
        | false=>
          rw[tellD_no (show hearsC _ (barredT b).kind=false from hw2),List.append_nil] at htd
          refine CallK.lend (news:=[mHall ⟨l,m⟩ (.own 241 0 st.length) ⟨d1,d2,d3,d4⟩ cs (.own 248 0 D.length),mStates (X.set k ⟨s1,s2,o,b⟩),rDuesN D]) [240,241,248] [] (h66n (X.set k ⟨s1,s2,o,b⟩) D (barredT b) (by simp;omega) hw2) c171 ⟨⟨rfl,rfl⟩,⟨rfl,rfl,rfl,rfl,rfl,trivial⟩,rfl,⟨rfl,rfl,rfl,rfl,rfl,rfl,rfl,rfl,rfl,rfl,trivial⟩,trivial⟩ (ins_hall rfl rfl rfl) rfl ⟨⟨rfl,rfl⟩,rfl⟩ rfl news_hall rfl rfl ?_
          with_reducible refine wK ?_
          repeat' (first
  |refine gK ?_|refine aE ?_ ?_
  |apply  trivial)
          refine NextK.mk (k+1) (by omega) (by omega) ?_
          rw[htd,hts]
          (refine fK ?_;(with_reducible repeat' (first|exact trivial|(show _∧_;refine aK ?_ ?_)));(all_goals try rfl))
          all_goals first
           |exact⟨.refl (noRef_states _),noRef_states _⟩
           |exact⟨.refl (noRef_duesN _),noRef_duesN _⟩
           |(simp;done)
      ·rw[if_neg e1] at htd
       have hYk:(X.set k ⟨s1,s2,o,s4⟩)[k]? =some ⟨s1,s2,o,s4⟩:=by rw[List.getElem?_set_self (by omega)]
       have hYl:(X.set k ⟨s1,s2,o,s4⟩).length=st.length:=by simp[htk]
       have hset:(X.set k ⟨s1,s2,o,s4⟩).set k ⟨s1,s2,o,b⟩=X.set k ⟨s1,s2,o,b⟩:=List.set_set ..
       rw[←hset] at hts
       (have fct:=(eq_false e1);(repeat' (first
  |refine gF ?_|refine aE ?_ ?_
  | ((first
   |((with_reducible show LtK _ _ _ _ _);refine LtK.mk k rfl (by omega) ?_)
   |((with_reducible show ElemK _ _ _ _ _);refine ElemK.mk (eState ⟨s1,s2,s3,s4⟩) (by rw[Nat.zero_add];exact state_get hXk) ?_))<;>with_reducible refine wK ?_)
  |apply  trivial));all_goals clear fct)
       rw[set_st X k ⟨s1,s2,o,s4⟩]
       generalize X.set k ⟨s1,s2,o,s4⟩=Y at*
       cases hw:hearsC ⟨c1,c2,c3,c4,c5⟩ 5 with
       | true=>
         rw[tellD_yes (show hearsC _ (ownedT s3 o).kind=true from hw),←List.append_assoc] at htd
         have hEl:(D++ ([⟨(k:Int),ownedT s3 o⟩]:List DueN)).length=D.length+1:=by simp
         refine CallK.lend (news:=[mHall ⟨l,m⟩ (.own 241 0 st.length) ⟨d1,d2,d3,d4⟩ cs (.own 721 0 (D.length+1)),mStates Y,.dead,rDuesN (D++ [⟨(k:Int),ownedT s3 o⟩])]) [240,241,248,721] [] (h66y Y D (ownedT s3 o) hYl (by omega) hw) c171 ⟨⟨rfl,rfl⟩,⟨rfl,rfl,rfl,rfl,rfl,trivial⟩,rfl,⟨rfl,rfl,rfl,rfl,rfl,rfl,rfl,rfl,rfl,rfl,trivial⟩,trivial⟩ (ins_hall rfl rfl rfl) rfl ⟨⟨rfl,rfl⟩,rfl⟩ rfl news_tell rfl rfl ?_
         rw[←hEl]
         generalize D++ ([⟨(k:Int),ownedT s3 o⟩]:List DueN)=E at*
         have hEl':E.length≤501:=by omega
         with_reducible refine wK ?_
         by_cases e2:s4=b
         ·obtain rfl:=e2.symm
          rw[if_pos rfl,List.append_nil] at htd
          have hYs:Y.set k ⟨s1,s2,o,b⟩=Y:=by
           apply List.ext_getElem?
           intro n
           rw[List.getElem?_set]
           by_cases e:k=n
           ·subst e;rw[if_pos rfl,if_pos (by omega),hYk]
           ·rw[if_neg e]
          rw[hYs] at hts
          repeat' (first
  |refine gK ?_|refine aE ?_ ?_
  | ((first
   |((with_reducible show LtK _ _ _ _ _);refine LtK.mk k rfl (by omega) ?_)
   |((with_reducible show ElemK _ _ _ _ _);refine ElemK.mk (eState ⟨s1,s2,o,b⟩) (by rw[Nat.zero_add];exact state_get hYk) ?_)
   |((with_reducible refine kQ 172 ?_);refine cL h39 c172 ?_))<;>with_reducible refine wK ?_)
  |apply  trivial)
          refine NextK.mk (k+1) (by omega) (by omega) ?_
          rw[htd,hts]
          (refine fK ?_;(with_reducible repeat' (first|exact trivial|(show _∧_;refine aK ?_ ?_)));(all_goals try rfl))
          all_goals first
           |exact⟨.refl (noRef_states _),noRef_states _⟩
           |exact⟨.refl (noRef_duesN _),noRef_duesN _⟩
           |(simp;done)
         ·rw[if_neg e2] at htd
          have e2':(b==s4)=false:=by cases b<;>cases s4<;>simp at e2 ⊢
          (have fct:=e2';(repeat' (first
  |refine gF ?_|refine aE ?_ ?_
  | ((first
   |((with_reducible show LtK _ _ _ _ _);refine LtK.mk k rfl (by omega) ?_)
   |((with_reducible show ElemK _ _ _ _ _);refine ElemK.mk (eState ⟨s1,s2,o,s4⟩) (by rw[Nat.zero_add];exact state_get hYk) ?_)
   |((with_reducible refine kQ 172 ?_);refine cL h39 c172 ?_))<;>with_reducible refine wK ?_)
  |apply  trivial));all_goals clear fct)
          rw[set_st Y k ⟨s1,s2,o,b⟩]
          cases hw2:hearsC ⟨c1,c2,c3,c4,c5⟩ 6 with
          | true=>
            rw[tellD_yes (show hearsC _ (barredT b).kind=true from hw2)] at htd
            have hFl:(E++ ([⟨(k:Int),barredT b⟩]:List DueN)).length=E.length+1:=by simp
            refine CallK.lend (news:=[mHall ⟨l,m⟩ (.own 241 0 st.length) ⟨d1,d2,d3,d4⟩ cs (.own 911 0 (E.length+1)),mStates (Y.set k ⟨s1,s2,o,b⟩),.dead,rDuesN (E++ [⟨(k:Int),barredT b⟩])]) [240,241,721,911] [] (h66y (Y.set k ⟨s1,s2,o,b⟩) E (barredT b) (by simp;omega) (by omega) hw2) c171 ⟨⟨rfl,rfl⟩,⟨rfl,rfl,rfl,rfl,rfl,trivial⟩,rfl,⟨rfl,rfl,rfl,rfl,rfl,rfl,rfl,rfl,rfl,rfl,trivial⟩,trivial⟩ (ins_hall rfl rfl rfl) rfl ⟨⟨rfl,rfl⟩,rfl⟩ rfl news_tell rfl rfl ?_
            with_reducible refine wK ?_
            repeat' (first
  |refine gK ?_|refine aE ?_ ?_
  |apply  trivial)
            refine NextK.mk (k+1) (by omega) (by omega) ?_
            rw[htd,hts]
            (refine fK ?_;(with_reducible repeat' (first|exact trivial|(show _∧_;refine aK ?_ ?_)));(all_goals try rfl))
            all_goals first
             |exact⟨.refl (noRef_states _),noRef_states _⟩
             |exact⟨.refl (noRef_duesN _),noRef_duesN _⟩
             |(simp;done)
          | false=>
            rw[tellD_no (show hearsC _ (barredT b).kind=false from hw2),List.append_nil] at htd
            refine CallK.lend (news:=[mHall ⟨l,m⟩ (.own 241 0 st.length) ⟨d1,d2,d3,d4⟩ cs (.own 721 0 E.length),mStates (Y.set k ⟨s1,s2,o,b⟩),rDuesN E]) [240,241,721] [] (h66n (Y.set k ⟨s1,s2,o,b⟩) E (barredT b) (by simp;omega) hw2) c171 ⟨⟨rfl,rfl⟩,⟨rfl,rfl,rfl,rfl,rfl,trivial⟩,rfl,⟨rfl,rfl,rfl,rfl,rfl,rfl,rfl,rfl,rfl,rfl,trivial⟩,trivial⟩ (ins_hall rfl rfl rfl) rfl ⟨⟨rfl,rfl⟩,rfl⟩ rfl news_hall rfl rfl ?_
            with_reducible refine wK ?_
            repeat' (first
  |refine gK ?_|refine aE ?_ ?_
  |apply  trivial)
            refine NextK.mk (k+1) (by omega) (by omega) ?_
            rw[htd,hts]
            (refine fK ?_;(with_reducible repeat' (first|exact trivial|(show _∧_;refine aK ?_ ?_)));(all_goals try rfl))
            all_goals first
             |exact⟨.refl (noRef_states _),noRef_states _⟩
             |exact⟨.refl (noRef_duesN _),noRef_duesN _⟩
             |(simp;done)
       | false=>
         rw[tellD_no (show hearsC _ (ownedT s3 o).kind=false from hw),List.nil_append] at htd
         refine CallK.lend (news:=[mHall ⟨l,m⟩ (.own 241 0 st.length) ⟨d1,d2,d3,d4⟩ cs (.own 248 0 D.length),mStates Y,rDuesN D]) [240,241,248] [] (h66n Y D (ownedT s3 o) hYl hw) c171 ⟨⟨rfl,rfl⟩,⟨rfl,rfl,rfl,rfl,rfl,trivial⟩,rfl,⟨rfl,rfl,rfl,rfl,rfl,rfl,rfl,rfl,rfl,rfl,trivial⟩,trivial⟩ (ins_hall rfl rfl rfl) rfl ⟨⟨rfl,rfl⟩,rfl⟩ rfl news_hall rfl rfl ?_
         with_reducible refine wK ?_
         by_cases e2:s4=b
         ·obtain rfl:=e2.symm
          rw[if_pos rfl,List.append_nil] at htd
          have hYs:Y.set k ⟨s1,s2,o,b⟩=Y:=by
           apply List.ext_getElem?
           intro n
           rw[List.getElem?_set]
           by_cases e:k=n
           ·subst e;rw[if_pos rfl,if_pos (by omega),hYk]
           ·rw[if_neg e]
          rw[hYs] at hts
          repeat' (first
  |refine gK ?_|refine aE ?_ ?_
  | ((first
   |((with_reducible show LtK _ _ _ _ _);refine LtK.mk k rfl (by omega) ?_)
   |((with_reducible show ElemK _ _ _ _ _);refine ElemK.mk (eState ⟨s1,s2,o,b⟩) (by rw[Nat.zero_add];exact state_get hYk) ?_)
   |((with_reducible refine kQ 172 ?_);refine cL h39 c172 ?_))<;>with_reducible refine wK ?_)
  |apply  trivial)
          refine NextK.mk (k+1) (by omega) (by omega) ?_
          rw[htd,hts]
          (refine fK ?_;(with_reducible repeat' (first|exact trivial|(show _∧_;refine aK ?_ ?_)));(all_goals try rfl))
          all_goals first
           |exact⟨.refl (noRef_states _),noRef_states _⟩
           |exact⟨.refl (noRef_duesN _),noRef_duesN _⟩
           |(simp;done)
         ·rw[if_neg e2] at htd
          have e2':(b==s4)=false:=by cases b<;>cases s4<;>simp at e2 ⊢
          (have fct:=e2';(repeat' (first
  |refine gF ?_|refine aE ?_ ?_
  | ((first
   |((with_reducible show LtK _ _ _ _ _);refine LtK.mk k rfl (by omega) ?_)
   |((with_reducible show ElemK _ _ _ _ _);refine ElemK.mk (eState ⟨s1,s2,o,s4⟩) (by rw[Nat.zero_add];exact state_get hYk) ?_)
   |((with_reducible refine kQ 172 ?_);refine cL h39 c172 ?_))<;>with_reducible refine wK ?_)
  |apply  trivial));all_goals clear fct)
          rw[set_st Y k ⟨s1,s2,o,b⟩]
          cases hw2:hearsC ⟨c1,c2,c3,c4,c5⟩ 6 with
          | true=>
            rw[tellD_yes (show hearsC _ (barredT b).kind=true from hw2)] at htd
            have hFl:(D++ ([⟨(k:Int),barredT b⟩]:List DueN)).length=D.length+1:=by simp
            refine CallK.lend (news:=[mHall ⟨l,m⟩ (.own 241 0 st.length) ⟨d1,d2,d3,d4⟩ cs (.own 911 0 (D.length+1)),mStates (Y.set k ⟨s1,s2,o,b⟩),.dead,rDuesN (D++ [⟨(k:Int),barredT b⟩])]) [240,241,248,911] [] (h66y (Y.set k ⟨s1,s2,o,b⟩) D (barredT b) (by simp;omega) (by omega) hw2) c171 ⟨⟨rfl,rfl⟩,⟨rfl,rfl,rfl,rfl,rfl,trivial⟩,rfl,⟨rfl,rfl,rfl,rfl,rfl,rfl,rfl,rfl,rfl,rfl,trivial⟩,trivial⟩ (ins_hall rfl rfl rfl) rfl ⟨⟨rfl,rfl⟩,rfl⟩ rfl news_tell rfl rfl ?_
            with_reducible refine wK ?_
            repeat' (first
  |refine gK ?_|refine aE ?_ ?_
  |apply  trivial)
            refine NextK.mk (k+1) (by omega) (by omega) ?_
            rw[htd,hts]
            (refine fK ?_;(with_reducible repeat' (first|exact trivial|(show _∧_;refine aK ?_ ?_)));(all_goals try rfl))
            all_goals first
             |exact⟨.refl (noRef_states _),noRef_states _⟩
             |exact⟨.refl (noRef_duesN _),noRef_duesN _⟩
             |(simp;done)
          | false=>
            rw[tellD_no (show hearsC _ (barredT b).kind=false from hw2),List.append_nil] at htd
            refine CallK.lend (news:=[mHall ⟨l,m⟩ (.own 241 0 st.length) ⟨d1,d2,d3,d4⟩ cs (.own 248 0 D.length),mStates (Y.set k ⟨s1,s2,o,b⟩),rDuesN D]) [240,241,248] [] (h66n (Y.set k ⟨s1,s2,o,b⟩) D (barredT b) (by simp;omega) hw2) c171 ⟨⟨rfl,rfl⟩,⟨rfl,rfl,rfl,rfl,rfl,trivial⟩,rfl,⟨rfl,rfl,rfl,rfl,rfl,rfl,rfl,rfl,rfl,rfl,trivial⟩,trivial⟩ (ins_hall rfl rfl rfl) rfl ⟨⟨rfl,rfl⟩,rfl⟩ rfl news_hall rfl rfl ?_
            with_reducible refine wK ?_
            repeat' (first
  |refine gK ?_|refine aE ?_ ?_
  | apply trivial)
            refine NextK.mk (k+1) (by omega) (by omega) ?_
            rw[htd,hts]
            (refine fK ?_;(with_reducible repeat' (first|exact trivial|(show _∧_;refine aK ?_ ?_)));(all_goals try rfl))
            all_goals first
             |exact⟨.refl (noRef_states _),noRef_states _⟩
             |exact⟨.refl (noRef_duesN _),noRef_duesN _⟩
             |(simp;done)
   ·have hjl:k=st.length:=by simp only[decide_eq_false_iff_not] at h1;omega
    subst hjl
    repeat' (first
  |refine gK ?_|refine aE ?_ ?_
  |(((with_reducible show DrawK _ _ _ _);refine dK ?_)<;>with_reducible refine wK ?_)
  | apply trivial)
    all_goals first|exact frz_states rfl rfl rfl htk.symm|exact frz_duesN rfl rfl rfl rfl
end Go.Proofs.Heir
namespace Go.Proofs.Heir
open Go Go.Am Go.RowKit Go.Lib
set_option maxRecDepth 100000
set_option maxHeartbeats 8000000
set_option maxHeartbeats 8000000
def oTodo (x:TodoM):AV:=eTodo x
@[reducible] def eTodos (l : List TodoM) : AV := .sl 10 (l.map oTodo)
def oTodos (l:List TodoM):AV:=eTodos l
@[reducible] def eTodoss (l : List (List TodoM)) : AV := .sl 1 (l.map oTodos)
def oInts (l:List Int):AV:=eInts l
@[reducible] def eIntss (l : List (List Int)) : AV := .sl 1 (l.map oInts)
structure LineM where
 todos:List (List TodoM)
 stack:List (List Int)
 back:List Int
 busy:Bool
structure TaskM where
 kind:Int
 ticket:Int
 df:Int
 deriving DecidableEq
structure BuildM where
 df:Int
 node:Int
 deriving DecidableEq
structure WorldM where
 f:ForM
 states:List StateM
 desk:DeskM
 line:LineM
 tasks:List TaskM
 builds:List BuildM
 classes:List ClassM
@[reducible] def eLine (l : LineM) : AV := .agg [eTodoss l.todos, eIntss l.stack, eInts l.back, eBool l.busy]
@[reducible] def eTask (x : TaskM) : AV := .agg [eInt x.kind, eInt x.ticket, eInt x.df]
def oTask (x:TaskM):AV:=eTask x
@[reducible] def eTasks (l : List TaskM) : AV := .sl 3 (l.map oTask)
@[reducible] def eBuild (x : BuildM) : AV := .agg [eInt x.df, eInt x.node]
def oBuild (x:BuildM):AV:=eBuild x
@[reducible] def eBuilds (l : List BuildM) : AV := .sl 2 (l.map oBuild)
@[reducible] def eWorld (w : WorldM) : AV := .agg [eNodes w.f.nodes, eInt w.f.most, eStates w.states, eDefs w.desk.defs, eWaits w.desk.waits, eInt w.desk.next, eBool w.desk.busy, eTodoss w.line.todos, eIntss w.line.stack, eInts w.line.back, eBool w.line.busy, eTasks w.tasks, eBuilds w.builds, eClasses w.classes]
theorem todo_get {l:List TodoM}{k:Nat}{x:TodoM}(h:l[k]? =some x):(l.map oTodo)[k]? =some (eTodo x):=by rw[List.getElem?_map,h];rfl
theorem todos_get {l:List (List TodoM)}{k:Nat}{x:List TodoM}(h:l[k]? =some x):(l.map oTodos)[k]? =some (eTodos x):=by rw[List.getElem?_map,h];rfl
theorem ints_get {l:List (List Int)}{k:Nat}{x:List Int}(h:l[k]? =some x):(l.map oInts)[k]? =some (eInts x):=by rw[List.getElem?_map,h];rfl
theorem task_get {l:List TaskM}{k:Nat}{x:TaskM}(h:l[k]? =some x):(l.map oTask)[k]? =some (eTask x):=by rw[List.getElem?_map,h];rfl
theorem build_get {l:List BuildM}{k:Nat}{x:BuildM}(h:l[k]? =some x):(l.map oBuild)[k]? =some (eBuild x):=by rw[List.getElem?_map,h];rfl
theorem noRef_todos1 (l:List TodoM):noRefL (l.map oTodo)=true:=noRefL_map oTodo (fun _=>rfl) l
theorem noRef_todos2 (l:List (List TodoM)):noRefL (l.map oTodos)=true:=noRefL_map oTodos (fun x=>by simp only[oTodos,noRef,noRef_todos1]) l
theorem noRef_stack (l:List (List Int)):noRefL (l.map oInts)=true:=noRefL_map oInts (fun x=>by simp only[oInts,noRef,noRefL_map eInt (fun _=>rfl) x]) l
theorem noRef_tasks (l:List TaskM):noRefL (l.map oTask)=true:=noRefL_map oTask (fun _=>rfl) l
theorem noRef_builds (l:List BuildM):noRefL (l.map oBuild)=true:=noRefL_map oBuild (fun _=>rfl) l
theorem noRef_classes (l:List ClassM):noRefL (l.map oClass)=true:=noRefL_map oClass (fun _=>rfl) l
def inLn (l:LineM)(n:Int):Bool:=decide (0≤n)&&decide (n< (l.todos.length:Int))
def lnR (l:LineM):Bool:=l.stack.all (fun s=>s.all (inLn l))&&l.back.all (inLn l)
def tdAt (l:LineM)(n:Int):List TodoM:=(l.todos[n.toNat]?).getD []
def lnIdle (l:LineM):Bool:=((!l.busy&&decide (l.stack.length=0))&&decide (l.back.length=0))&& !(l.todos.any fun t=>decide (0<t.length))
def lnGrow (l:LineM):LineM:=⟨l.todos++ [[]],l.stack,l.back,l.busy⟩
def stTop (l:LineM):List Int:=(l.stack[l.stack.length-1]?).getD []
def lnAdd (l:LineM)(n:Int)(t:TodoM):LineM:=
 if l.stack=[] then⟨l.todos.set n.toNat (tdAt l n++ [t]),l.stack,l.back++ [n],true⟩
 else⟨l.todos.set n.toNat (tdAt l n++ [t]),l.stack.set (l.stack.length-1) (stTop l++ [n]),l.back,l.busy⟩
def lnTell (l:LineM):Bool:=decide (l.stack=[])&& !l.busy
def lnDrop (l:LineM)(n:Int):LineM:=⟨l.todos.set n.toNat [],l.stack,l.back,l.busy⟩
structure SmL (B:Nat) (l:LineM):Prop where
 todos:l.todos.length≤B
 todo:∀t∈l.todos,t.length≤B
 stack:l.stack.length≤B
 list:∀t∈l.stack,t.length≤B
 back:l.back.length≤B
theorem SmL.mono {B C:Nat}{l:LineM}(h:SmL B l)(hc:B≤C):SmL C l:=
 ⟨Nat.le_trans h.1 hc,fun t ht=>Nat.le_trans (h.2 t ht) hc,Nat.le_trans h.3 hc,fun t ht=>Nat.le_trans (h.4 t ht) hc,Nat.le_trans h.5 hc⟩
theorem tdAt_get {l:LineM}{n:Int}{k:Nat}{t:List TodoM}(hn:n=k)(h:l.todos[k]? =some t):tdAt l n=t:=by unfold tdAt;rw[hn,Int.toNat_natCast,h];rfl
theorem in_get {l:LineM}{n:Int}(h:inLn l n=true):∃ (k:Nat) (t:List TodoM),n=k∧k<l.todos.length∧l.todos[k]? =some t∧tdAt l n=t:=by
 unfold inLn at h
 simp only[Bool.and_eq_true,decide_eq_true_eq] at h
 have hk:n.toNat<l.todos.length:=by omega
 exact⟨n.toNat,l.todos[n.toNat],by omega,hk,List.getElem?_eq_getElem hk,by unfold tdAt;rw[List.getElem?_eq_getElem hk];rfl⟩
theorem mem_setL {α:Type}{l:List α}{k:Nat}{x y:α}(h:y∈l.set k x):y∈l∨y=x:=List.mem_or_eq_of_mem_set h
theorem tdAt_len {B:Nat}{l:LineM}(h:SmL B l)(n:Int):(tdAt l n).length≤B:=by
 unfold tdAt
 cases e:l.todos[n.toNat]? with
 |none=>exact Nat.zero_le _
 |some t=>exact h.todo t (List.mem_of_getElem? e)
theorem stTop_len {B:Nat}{l:LineM}(h:SmL B l):(stTop l).length≤B:=by
 unfold stTop
 cases e:l.stack[l.stack.length-1]? with
 |none=>exact Nat.zero_le _
 |some t=>exact h.list t (List.mem_of_getElem? e)
theorem lnAdd_todos (l:LineM)(n:Int)(t:TodoM):(lnAdd l n t).todos=l.todos.set n.toNat (tdAt l n++ [t]):=by unfold lnAdd;split<;>rfl
theorem lnAdd_stack (l:LineM)(n:Int)(t:TodoM):(lnAdd l n t).stack=l.stack.set (l.stack.length-1) (stTop l++ [n]):=by
 unfold lnAdd;split
 ·rename_i h;rw[h];rfl
 ·rfl
theorem lnAdd_back (l:LineM)(n:Int)(t:TodoM):(lnAdd l n t).back=if l.stack=[] then l.back++ [n] else l.back:=by unfold lnAdd;split<;>rfl
theorem lnAdd_busy (l:LineM)(n:Int)(t:TodoM):(lnAdd l n t).busy=(decide (l.stack=[])||l.busy):=by
 unfold lnAdd;split
 ·rename_i h;rw[decide_eq_true h];rfl
 ·rename_i h;rw[decide_eq_false h];rfl
theorem lnAdd_sm {B:Nat}{l:LineM}(h:SmL B l)(n:Int)(t:TodoM):SmL (B+1) (lnAdd l n t):=by
 refine⟨?_,?_,?_,?_,?_⟩
 ·rw[lnAdd_todos,List.length_set];exact Nat.le_succ_of_le h.1
 ·intro x hx
  rw[lnAdd_todos] at hx
  rcases mem_setL hx with e|e
  ·exact Nat.le_succ_of_le (h.todo x e)
  ·subst e;have:=tdAt_len h n;rw[List.length_append,List.length_singleton];omega
 ·rw[lnAdd_stack,List.length_set];exact Nat.le_succ_of_le h.3
 ·intro x hx
  rw[lnAdd_stack] at hx
  rcases mem_setL hx with e|e
  ·exact Nat.le_succ_of_le (h.list x e)
  ·subst e;have:=stTop_len h;rw[List.length_append,List.length_singleton];omega
 ·rw[lnAdd_back]
  have:=h.back
  split
  ·rw[List.length_append,List.length_singleton];omega
  ·omega
def allowedC (c:ClassM):Bool:=
 ((((decide (c.watch.length≤12)&& !(c.watch.any fun s=> !(rightS s&&decide (lowS s=s))))&&decide (c.hooks.length≤12))&& !(c.hooks.any fun h=>decide (h.kind<1)||decide (8<h.kind)||decide (60<h.prog.length)))&&decide (c.peek.length≤60))&&decide (c.make.length≤60)
def defG (w:WorldM)(n:Int):Bool:=decide (0≤n)&&decide (n< (w.desk.defs.length:Int))
def todoG (w:WorldM)(t:TodoM):Bool:=(decide (1≤t.kind)&&decide (t.kind<9))||(decide (t.kind=9)&&defG w t.df)
def stateOK (w:WorldM)(x:NodeM)(s:StateM):Bool:=
 if x.kind=1 then
  (decide (s.owner=-1)||thereN w.f.nodes s.owner)&&(if s.phase=2∨s.phase=3 then defG w s.df else(decide (s.phase=0)||decide (s.phase=1)||decide (s.phase=4))&&(decide (s.df=-1)||defG w s.df))
 else decide (s=⟨0,-1,-1,false⟩)
def stateG (w:WorldM)(n:Int):Bool:=stateOK w (nd w.f.nodes n) (stOf w.states n)
def taskG (w:WorldM)(t:TaskM):Bool:=if t.kind=1 then decide (t.ticket=0)&&decide (t.df=0) else if t.kind=2 then decide (0≤t.ticket)&&defG w t.df else false
def buildG (w:WorldM)(b:BuildM):Bool:=defG w b.df&&(decide (b.node=-4)||elemV w.f.nodes b.node)
def classesG (w:WorldM):Bool:=(decide (w.classes.length≤12)&& !(w.classes.any fun c=> !allowedC c))&& !(w.desk.defs.any fun d=>decide ((w.classes.length:Int)≤d.cls))
def nodeG (w:WorldM)(n:Int):Bool:=stateG w n&& !((tdAt w.line n).any fun t=> !todoG w t)
def headG (w:WorldM):Bool:=(((((decide (w.states.length=w.f.nodes.length)&&decide (w.line.todos.length=w.f.nodes.length))&&classesG w)&&rightF w.f)&&rightD w.desk)&&lnR w.line)
def tailG (w:WorldM):Bool:=!(w.tasks.any fun t=> !taskG w t)&& !(w.builds.any fun b=> !buildG w b)
def rightG (w:WorldM):Bool:=headG w&&((List.range w.line.todos.length).all (fun n:Nat=>nodeG w n)&&tailG w)
def bornS (x:NodeM):StateM:=⟨if x.kind=1 then bornM x.name x.is else 0,-1,-1,false⟩
def drainT:TaskM:=⟨1,0,0⟩
def enl1 (w:WorldM)(d:DueN):WorldM:={w with line:=lnAdd w.line d.node d.todo,tasks:=if lnTell w.line=true then w.tasks++ [drainT] else w.tasks}
def enlW (w:WorldM)(due:List DueN):WorldM:=due.foldl enl1 w
def dueOK (w:WorldM)(d:DueN):Bool:=thereN w.f.nodes d.node&&todoG w d.todo
def enlistOK (w:WorldM)(due:List DueN):Bool:=rightG w&& !(due.any fun d=> !dueOK w d)
def enlistW (w:WorldM)(due:List DueN):WorldM×Int:=if enlistOK w due=true then(enlW w due,0) else(w,1)
def followsW (w:WorldM)(f:ForM):Bool:=(decide (f.most=w.f.most)&&decide (w.f.nodes.length≤f.nodes.length))&&(List.range w.f.nodes.length).all fun n:Nat=>decide ((nd f.nodes n).kind=(nd w.f.nodes n).kind)
def growW (w:WorldM)(f:ForM)(k:Nat):WorldM:={w with states:=w.states++ ((f.nodes.drop w.f.nodes.length).take k).map bornS,line:=⟨w.line.todos++List.replicate k [],w.line.stack,w.line.back,w.line.busy⟩}
def nowW (w:WorldM)(f:ForM):WorldM:={growW w f (f.nodes.length-w.f.nodes.length) with f:=f}
def tellG (w:WorldM)(f:ForM)(ns:List NoteM):WorldM:=
 let x:=nowW w f
 let y:=enlW x (dueL f x.states x.desk x.classes ns)
 enlW {y with states:=toldSt f x.states x.desk x.classes} (toldDu f x.states x.desk x.classes)
def tellOK (w:WorldM)(f:ForM):Bool:=(rightG w&&rightF f)&&followsW w f
def tellW (w:WorldM)(f:ForM)(ns:List NoteM):WorldM×Int:=if tellOK w f=true then(tellG w f ns,0) else(w,1)
def restG (w:WorldM):Bool:=((lnIdle w.line&&decide (w.tasks.length=0))&&decide (w.builds.length=0))&& !w.desk.busy
def shortL (l:LineM):Bool:=(((decide (l.todos.length≤60)&&decide (l.stack.length≤30))&&decide (l.back.length≤60))&&l.todos.all fun t=>decide (t.length≤60))&&l.stack.all fun t=>decide (t.length≤60)
def namedC (cs:List ClassM):Bool:=cs.all fun c=>c.watch.all fun s=>decide (s.size≤300)
def shortG (w:WorldM):Bool:=((((((shortF w.f&&decide (w.states.length≤60))&&shortB w.desk)&&shortL w.line)&&decide (w.tasks.length≤60))&&decide (w.builds.length≤60))&&shortC w.classes)&&namedC w.classes
end Go.Proofs.Heir
namespace Go.Proofs.Heir
open Go Go.Am Go.RowKit Go.Lib
set_option maxRecDepth 100000
set_option maxHeartbeats 8000000
theorem asks_cases {f:ForM}{s:StateM}{d:DeskM}{cs:List ClassM}{x:NoteM}(h:(asksV f s d cs x).2=true):
  (s.phase=1∧x.kind=1∧fateF f x.node d≠-1∧(asksV f s d cs x).1=⟨9,fateF f x.node d,⟨#[]⟩,false,false,⟨#[]⟩,⟨#[]⟩,0,0,false⟩)∨
  (s.phase=3∧(asksV f s d cs x).1=callT x∧classB s d cs=true∧hearsC (classV s d cs) x.kind=true∧(x.kind=4→watchesC (classV s d cs) x.name=true)∧1≤x.kind∧x.kind≤4):=by
 unfold asksV at h ⊢
 by_cases h1:s.phase=1
 ·rw[if_pos h1] at h ⊢
  simp only[Bool.and_eq_true,decide_eq_true_eq,Bool.not_eq_true',decide_eq_false_iff_not] at h
  exact .inl ⟨h1,h.1,h.2,rfl⟩
 rw[if_neg h1] at h ⊢
 by_cases h3:s.phase=3
 ·rw [if_pos h3] at h ⊢
  by_cases k4:x.kind=4
  ·rw[if_pos k4] at h ⊢
   simp only[Bool.and_eq_true] at h
   exact .inr ⟨h3,rfl,h.1.1,h.2,fun _=>h.1.2,by omega,by omega⟩
  ·rw[if_neg k4] at h ⊢
   by_cases k:x.kind=1∨x.kind=2∨x.kind=3
   ·rw[if_pos k] at h ⊢
    simp only[Bool.and_eq_true] at h
    exact .inr ⟨h3,rfl,h.1,h.2,fun e=>absurd e k4,by omega,by omega⟩
   ·rw[if_neg k] at h;cases h
 ·rw[if_neg h3] at h;cases h
theorem due_cases {f:ForM}{st:List StateM}{d:DeskM}{cs:List ClassM}(hl:st.length=f.nodes.length)(x:NoteM):dueV f st d cs x=[]∨∃ (i:Nat) (s:StateM) (y:NodeM),x.node=i∧st[i]? =some s∧f.nodes[i]? =some y∧y.kind=1∧dueV f st d cs x=[⟨x.node,(asksV f s d cs x).1⟩]∧(asksV f s d cs x).2=true:=by
 unfold dueV
 by_cases he:elemV f.nodes x.node=true
 ·rw[if_pos he]
  obtain⟨i,s,hi,hs,hso⟩:=elem_at he hl
  rw[hso]
  by_cases ha:(asksV f s d cs x).2=true
  ·rw[if_pos ha]
   have hil:=(List.getElem?_eq_some_iff.1 hs).1
   have hy:f.nodes[i]? =some f.nodes[i]:=List.getElem?_eq_getElem (by omega)
   refine .inr ⟨i,s,_,hi,hs,hy,?_,rfl,ha⟩
   unfold elemV at he
   rw[hi,nd_get hy] at he
   simp only[Bool.and_eq_true,decide_eq_true_eq] at he
   exact he.2
  ·rw[if_neg ha];exact .inl rfl
 ·rw[if_neg he];exact .inl rfl
end Go.Proofs.Heir
namespace Go.Proofs.Heir
open Go Go.Am Go.RowKit Go.Lib
set_option maxRecDepth 100000
set_option maxHeartbeats 8000000
set_option maxHeartbeats 8000000
theorem told_get {f:ForM}{st:List StateM}{d:DeskM}{cs:List ClassM}(h:lookV f st d=true){n:Nat}(hn:n<st.length):(toldSt f st d cs)[n]? =some (toldS f d cs (n:Int) (sAt st n)):=by
 unfold toldSt
 rw[if_pos h,tSt_get hn,if_pos hn]
theorem told_len {f:ForM}{st:List StateM}{d:DeskM}{cs:List ClassM}:(toldSt f st d cs).length=st.length:=by
 unfold toldSt
 split
 ·exact tSt_len ..
 ·rfl
theorem enl_nil (w:WorldM):enlW w []=w:=rfl
theorem enl_cons (w:WorldM)(d:DueN)(r:List DueN):enlW w (d::r)=enlW (enl1 w d) r:=rfl
theorem enl_app (w:WorldM)(a b:List DueN):enlW w (a++b)=enlW (enlW w a) b:=List.foldl_append
theorem enl_step {w:WorldM}{due:List DueN}{k:Nat}{x:DueN}(h:due[k]? =some x):enlW w (due.take (k+1))=enl1 (enlW w (due.take k)) x:=by rw[take_snocI h,enl_app];rfl
theorem enl_f (due:List DueN):∀w,(enlW w due).f=w.f:=by induction due with
 |nil=>intro w;rfl
 |cons d r ih=>intro w;rw[enl_cons,ih];rfl
theorem enl_states (due:List DueN):∀w,(enlW w due).states=w.states:=by induction due with
 |nil=>intro w;rfl
 |cons d r ih=>intro w;rw[enl_cons,ih];rfl
theorem enl_desk (due:List DueN):∀w,(enlW w due).desk=w.desk:=by induction due with
 |nil=>intro w;rfl
 |cons d r ih=>intro w;rw[enl_cons,ih];rfl
theorem enl_builds (due:List DueN):∀w,(enlW w due).builds=w.builds:=by induction due with
 |nil=>intro w;rfl
 |cons d r ih=>intro w;rw[enl_cons,ih];rfl
theorem enl_classes (due:List DueN):∀w,(enlW w due).classes=w.classes:=by induction due with
 |nil=>intro w;rfl
 |cons d r ih=>intro w;rw[enl_cons,ih];rfl
theorem stack_nil {l:LineM}{n:Int}{t:TodoM}:(lnAdd l n t).stack=[]↔l.stack=[]:=by rw[lnAdd_stack,←List.length_eq_zero_iff,List.length_set,List.length_eq_zero_iff]
theorem lnTell_add (l:LineM)(n:Int)(t:TodoM):lnTell (lnAdd l n t)=false:=by
 unfold lnTell
 rw[lnAdd_busy]
 by_cases h:l.stack=[]
 ·rw[decide_eq_true h];simp
 ·rw[decide_eq_false (fun e=>h (stack_nil.1 e))];rfl
theorem enl_tasks (due:List DueN):∀w,(enlW w due).tasks=w.tasks++ (if due≠ []∧lnTell w.line=true then[drainT] else[]):=by
 induction due with
 |nil=>intro w;rw[if_neg (fun h=>h.1 rfl),List.append_nil];rfl
 | cons d r ih=>
  intro w
  rw[enl_cons,ih]
  rw[if_neg (fun h=>by have:=h.2;rw[show(enl1 w d).line=lnAdd w.line d.node d.todo from rfl,lnTell_add] at this;cases this),List.append_nil]
  show(if lnTell w.line=true then w.tasks++ [drainT] else w.tasks)=_
  by_cases h:lnTell w.line=true
  ·rw[if_pos h,if_pos ⟨List.cons_ne_nil _ _,h⟩]
  ·rw[if_neg h,if_neg (fun e=>h e.2),List.append_nil]
theorem enl_tell (due:List DueN):∀w,due≠ []→lnTell (enlW w due).line=false:=by
 induction due with
 |nil=>intro w h;exact absurd rfl h
 | cons d r ih=>
  intro w _
  rw[enl_cons]
  by_cases h:r=[]
  ·subst h;exact lnTell_add ..
  ·exact ih _ h
theorem tdAt_add {l:LineM}{m n:Int}(t:TodoM)(hm:inLn l m=true)(hn:inLn l n=true):tdAt (lnAdd l m t) n=tdAt l n++if m=n then[t] else[]:=by
 obtain⟨i,a,rfl,hi,ha,_⟩:=in_get hm
 obtain⟨j,b,rfl,hj,hb,_⟩:=in_get hn
 unfold tdAt
 rw[lnAdd_todos,List.getElem?_set]
 simp only[Int.toNat_natCast]
 by_cases e:i=j
 ·subst e;rw[if_pos rfl,if_pos hi,if_pos rfl];rfl
 ·rw[if_neg e,if_neg (by omega),List.append_nil]
theorem in_enl {w:WorldM}{d:DueN}{n:Int}:inLn (enl1 w d).line n=inLn w.line n:=by
 unfold inLn
 show(_&&decide (n< ((lnAdd w.line d.node d.todo).todos.length:Int)))=_
 rw[lnAdd_todos,List.length_set]
theorem enl_td (due:List DueN):∀ (w:WorldM) (n:Int),(∀d∈due,inLn w.line d.node=true)→inLn w.line n=true→tdAt (enlW w due).line n=tdAt w.line n++ (due.filter fun d=>decide (d.node=n)).map DueN.todo:=by
 induction due with
 |nil=>intro w n _ _;simp[enl_nil]
 | cons d r ih=>
  intro w n hd hn
  rw[enl_cons,ih _ n (fun e he=>by rw[in_enl];exact hd e (List.mem_cons_of_mem _ he)) (by rw[in_enl];exact hn)]
  show tdAt (lnAdd w.line d.node d.todo) n++_=_
  rw[tdAt_add _ (hd d List.mem_cons_self) hn,List.filter_cons]
  by_cases e:d.node=n
  ·rw[if_pos e,if_pos (decide_eq_true e)];simp
  ·rw[if_neg e,if_neg (by simp[e])];simp
theorem enl_sm (due:List DueN):∀ (w:WorldM) (B:Nat),SmL B w.line→SmL (B+due.length) (enlW w due).line:=by
 induction due with
 |nil=>intro w B h;exact h
 | cons d r ih=>
  intro w B h
  rw[enl_cons]
  have:=ih (enl1 w d) (B+1) (lnAdd_sm h _ _)
  rw[List.length_cons]
  exact this.mono (by omega)
structure RightG (w:WorldM):Prop where
 sl:w.states.length=w.f.nodes.length
 tl:w.line.todos.length=w.f.nodes.length
 cl:classesG w=true
 rf:rightF w.f=true
 rd:rightD w.desk=true
 ln:lnR w.line=true
 st:∀ (n:Nat) (x:NodeM) (s:StateM),w.f.nodes[n]? =some x→w.states[n]? =some s→stateOK w x s=true
 td:∀l∈w.line.todos,∀t∈l,todoG w t=true
 ta:∀t∈w.tasks,taskG w t=true
 bu:∀b∈w.builds,buildG w b=true
theorem stOf_get {st:List StateM}{n:Nat}{s:StateM}(h:st[n]? =some s):stOf st (n:Int)=s:=by unfold stOf;rw[Int.toNat_natCast,h];rfl
theorem any_not {α:Type}{p:α→Bool}{l:List α}:(!(l.any fun t=> !p t))=true↔ ∀t∈l,p t=true:=by
 rw[Bool.not_eq_true',List.any_eq_false]
 constructor
 ·intro h t ht
  have:=h t ht
  simpa using this
 ·intro h t ht
  rw[h t ht];simp
theorem rightG_iff {w:WorldM}:rightG w=true↔RightG w:=by
 unfold rightG headG tailG
 rw[Bool.and_eq_true,Bool.and_eq_true,Bool.and_eq_true,Bool.and_eq_true,Bool.and_eq_true,Bool.and_eq_true,Bool.and_eq_true,Bool.and_eq_true,any_not,any_not,decide_eq_true_eq,decide_eq_true_eq,List.all_eq_true]
 constructor
 ·rintro⟨⟨⟨⟨⟨⟨h1,h2⟩,h3⟩,h4⟩,h5⟩,h6⟩,h7,h8,h9⟩
  have key:∀n:Nat,n<w.f.nodes.length→stateG w n=true∧∀t∈tdAt w.line n,todoG w t=true:=fun n hn=>by
   have h:=h7 n (List.mem_range.2 (by omega))
   unfold nodeG at h
   rw[Bool.and_eq_true,any_not] at h
   exact h
  refine⟨h1,h2,h3,h4,h5,h6,?_,?_,h8,h9⟩
  ·intro n x s hx hs
   have hn:=(List.getElem?_eq_some_iff.1 hx).1
   have h:=(key n hn).1
   unfold stateG at h
   rwa [nd_get hx,stOf_get hs] at h
  ·intro l hl t ht
   obtain⟨n,hn⟩:=List.getElem?_of_mem hl
   have hn':=(List.getElem?_eq_some_iff.1 hn).1
   refine(key n (by omega)).2 t ?_
   rw[tdAt_get rfl hn];exact ht
 ·rintro⟨h1,h2,h3,h4,h5,h6,h7,h8,h9,h10⟩
  refine⟨⟨⟨⟨⟨⟨h1,h2⟩,h3⟩,h4⟩,h5⟩,h6⟩,?_,h9,h10⟩
  intro n hn
  rw[List.mem_range] at hn
  unfold nodeG
  rw[Bool.and_eq_true,any_not]
  have hx:w.f.nodes[n]? =some w.f.nodes[n]:=List.getElem?_eq_getElem (by omega)
  have hs:w.states[n]? =some w.states[n]:=List.getElem?_eq_getElem (by omega)
  have ht:w.line.todos[n]? =some w.line.todos[n]:=List.getElem?_eq_getElem (by omega)
  refine⟨?_,?_⟩
  ·unfold stateG;rw[nd_get hx,stOf_get hs];exact h7 n _ _ hx hs
  ·rw[tdAt_get rfl ht];exact h8 _ (List.getElem_mem _)
theorem in_node {w:WorldM}(R:RightG w)(n:Int):inLn w.line n=thereN w.f.nodes n:=by unfold inLn thereN;rw[R.tl]
theorem stTop_mem {l:LineM}(h:l.stack≠ []):stTop l∈l.stack:=by
 have hp:0<l.stack.length:=List.length_pos_iff.2 h
 unfold stTop
 rw[List.getElem?_eq_getElem (by omega)]
 exact List.getElem_mem _
theorem lnR_add {l:LineM}{n:Int}{t:TodoM}(h:lnR l=true)(hn:inLn l n=true):lnR (lnAdd l n t)=true:=by
 unfold lnR at h ⊢
 rw[Bool.and_eq_true,List.all_eq_true,List.all_eq_true] at h ⊢
 have hi:∀m,inLn (lnAdd l n t) m=inLn l m:=fun m=>by unfold inLn;rw[lnAdd_todos,List.length_set]
 refine⟨fun s hs=>?_,fun m hm=>?_⟩
 ·rw[List.all_eq_true]
  intro m hm
  rw[hi]
  rw[lnAdd_stack] at hs
  by_cases hz:l.stack=[]
  ·rw[hz] at hs;cases hs
  rcases mem_setL hs with e|e
  ·exact(List.all_eq_true.1 (h.1 s e)) m hm
  ·subst e
   rcases List.mem_append.1 hm with e|e
   ·exact(List.all_eq_true.1 (h.1 _ (stTop_mem hz))) m e
   ·rw[List.mem_singleton.1 e];exact hn
 ·rw[hi]
  rw[lnAdd_back] at hm
  split at hm
  ·rcases List.mem_append.1 hm with e|e
   ·exact h.2 m e
   ·rw[List.mem_singleton.1 e];exact hn
  ·exact h.2 m hm
theorem enl1_right {w:WorldM}{d:DueN}(R:RightG w)(h:dueOK w d=true):RightG (enl1 w d):=by
 unfold dueOK at h
 rw[Bool.and_eq_true] at h
 have hi:inLn w.line d.node=true:=by rw[in_node R];exact h.1
 refine⟨R.sl,?_,R.cl,R.rf,R.rd,lnR_add R.ln hi,R.st,?_,?_,R.bu⟩
 ·show(lnAdd w.line d.node d.todo).todos.length=_
  rw[lnAdd_todos,List.length_set];exact R.tl
 ·intro l hl t ht
  have hl:l∈ (lnAdd w.line d.node d.todo).todos:=hl
  rw[lnAdd_todos] at hl
  rcases mem_setL hl with e|e
  ·exact R.td l e t ht
  ·subst e
   rcases List.mem_append.1 ht with e|e
   ·obtain⟨k,b,hk,_,hb,e2⟩:=in_get hi
    rw[e2] at e
    exact R.td b (List.mem_of_getElem? hb) t e
   ·rw[List.mem_singleton.1 e];exact h.2
 ·intro t ht
  have ht:t∈ (if lnTell w.line=true then w.tasks++ [drainT] else w.tasks):=ht
  split at ht
  ·rcases List.mem_append.1 ht with e|e
   ·exact R.ta t e
   ·rw[List.mem_singleton.1 e];rfl
  ·exact R.ta t ht
theorem dueOK_enl (w:WorldM)(d e:DueN):dueOK (enl1 w d) e=dueOK w e:=rfl
theorem enl_right (due:List DueN):∀w,RightG w→(∀d∈due,dueOK w d=true)→RightG (enlW w due):=by
 induction due with
 |nil=>intro w R _;exact R
 | cons d r ih=>
  intro w R h
  rw[enl_cons]
  exact ih _ (enl1_right R (h d List.mem_cons_self)) (fun e he=>by rw[dueOK_enl];exact h e (List.mem_cons_of_mem _ he))
theorem enlistOK_iff {w:WorldM}{due:List DueN}:enlistOK w due=true↔RightG w∧∀d∈due,dueOK w d=true:=by
 unfold enlistOK;rw[Bool.and_eq_true,any_not,rightG_iff]
end Go.Proofs.Heir
