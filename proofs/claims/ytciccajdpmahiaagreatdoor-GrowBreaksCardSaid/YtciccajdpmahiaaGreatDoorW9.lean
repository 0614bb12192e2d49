/- Models, plain laws and contracts of functions of the given program; conditions as stated in each theorem. By an AI agent. -/
import Derived.Test.YtciccajdpmahiaaGreatDoorW7
import Derived.Test.YtciccajdpmahiaaGreatDoorW8
import Derived.Test.YtciccajdpmahiaaGreatDoorW5
import Derived.Test.YtciccajdpmahiaaGreatDoorW6
set_option linter.unusedSimpArgs false
set_option linter.unusedVariables false
namespace Go.Proofs.Heir
open Go Go.Am Go.RowKit Go.Lib
set_option maxRecDepth 100000
set_option maxHeartbeats 8000000
structure ShortG (w:WorldM):Prop where
 f:shortF w.f=true
 st:w.states.length≤60
 d:shortB w.desk=true
 l:shortL w.line=true
 ta:w.tasks.length≤60
 bu:w.builds.length≤60
 c:shortC w.classes=true
 n:namedC w.classes=true
theorem shortG_iff {w:WorldM}:shortG w=true↔ShortG w:=by
 unfold shortG
 simp only[Bool.and_eq_true,decide_eq_true_eq]
 exact⟨fun⟨⟨⟨⟨⟨⟨⟨a,b⟩,c⟩,d⟩,e⟩,f⟩,g⟩,h⟩=>⟨a,b,c,d,e,f,g,h⟩,fun h=>⟨⟨⟨⟨⟨⟨⟨h.f,h.st⟩,h.d⟩,h.l⟩,h.ta⟩,h.bu⟩,h.c⟩,h.n⟩⟩
theorem sml_of {l:LineM}(h:shortL l=true):SmL 60 l:=by
 unfold shortL at h
 simp only[Bool.and_eq_true,decide_eq_true_eq,List.all_eq_true] at h
 obtain⟨⟨⟨⟨h1,h2⟩,h3⟩,h4⟩,h5⟩:=h
 exact⟨h1,h4,by omega,h5,h3⟩
theorem ShortG.small {w:WorldM}(h:ShortG w):SmallW w:=by
 have hc:=h.c
 unfold shortC at hc
 simp only[Bool.and_eq_true,decide_eq_true_eq] at hc
 have hn:=h.n
 unfold namedC at hn
 simp only[List.all_eq_true,decide_eq_true_eq] at hn
 have h1:=h.st
 have h2:=h.ta
 have h3:=h.bu
 exact⟨shortF_small h.f,by omega,(shortB_iff.1 h.d).small,(sml_of h.l).mono (by omega),by omega,by omega,by omega,small_of_shortC h.c,hn⟩
theorem rlShort_ok (l:LineM):FnOK Tryz.prog 69 [] [eLine l] [] (eBool (shortL l)):=by
 unfold shortL
 obtain⟨a,b,c,d⟩:=l
 simp only
 have ham:(a.map oTodos).length=a.length:=List.length_map ..
 have hbm:(b.map oInts).length=b.length:=List.length_map ..
 have hcm:(c.map oInt).length=c.length:=List.length_map ..
 refine FnOK.startC (rvs:=[.tmp 2]) G G_good Tryz.func69 rfl Tryz.ntmps69 rfl rfl ?_;with_reducible refine wD ?_
 by_cases e1:(60:Int)< (a.length:Int)
 ·rw[decide_eq_false (show ¬a.length≤60 by omega)]
  (have fct:=And.intro ham (e1);(repeat' (first
  |refine gF ?_|refine aE ?_ ?_
  |apply trivial));all_goals clear fct)
  all_goals first|rfl|(simp;done)
 by_cases e2:(30:Int)< (b.length:Int)
 ·rw[decide_eq_false (show ¬b.length≤30 by omega),Bool.and_false]
  (have fct:=And.intro ham (And.intro hbm (And.intro (eq_false e1) (e2)));(repeat' (first
  |refine gF ?_|refine aE ?_ ?_
  |apply trivial));all_goals clear fct)
  all_goals first|rfl|(simp;done)
 by_cases e3:(60:Int)< (c.length:Int)
 ·rw[decide_eq_false (show ¬c.length≤60 by omega),Bool.and_false]
  (have fct:=And.intro ham (And.intro hbm (And.intro hcm (And.intro (eq_false e1) (And.intro (eq_false e2) (e3)))));(repeat' (first
  |refine gF ?_|refine aE ?_ ?_
  |apply trivial));all_goals clear fct)
  all_goals first|rfl|(simp;done)
 rw[decide_eq_true (show a.length≤60 by omega),decide_eq_true (show b.length≤30 by omega),decide_eq_true (show c.length≤60 by omega)]
 simp only[Bool.true_and]
 (have fct:=And.intro ham (And.intro hbm (And.intro hcm (And.intro (eq_false e1) (And.intro (eq_false e2) ((eq_false e3))))));(repeat' (first
  |refine gF ?_|refine aE ?_ ?_
  |apply trivial));all_goals clear fct)
 refine LoopK.use G G_good (fun(k:Nat)=>[(1,.ptr 10 0 0),(3,eInt k)]) (fun _=>[(10,mLn ⟨a,b,c,d⟩)]) (fun k=>k≤a.length∧∀ (j:Nat) x,j<k→a[j]? =some x→decide (x.length≤60)=true) (fun k=>a.length-k) 0 ⟨Nat.zero_le _,fun j x h=>by omega⟩
  ⟨⟨rfl,rfl⟩,⟨⟨rfl,rfl⟩,rfl,trivial⟩,⟨⟨rfl,rfl,rfl,rfl,trivial⟩,trivial⟩,trivial⟩ ?_
 rintro k ⟨hk,hok⟩
 with_reducible refine wK ?_
 refine IfK.mk (fun h2=>?_) (fun h2=>?_)<;>(try simp only[castN] at h2)<;>with_reducible refine wK ?_
 ·have hk':k<a.length:=by simp only[decide_eq_true_eq] at h2;omega
  obtain⟨x,hx⟩:∃x,a[k]? =some x:=⟨_,List.getElem?_eq_getElem hk'⟩
  have hxm:(x.map oTodo).length=x.length:=List.length_map ..
  clear h2
  by_cases e:(60:Int)< (x.length:Int)
  ·rw[all_no hx (decide_eq_false (show ¬x.length≤60 by omega)),Bool.false_and]
   (have fct:=And.intro hxm (e);(repeat' (first
  |refine gF ?_|refine aE ?_ ?_
  |(((with_reducible show IdxK _ _ _ _ _);refine IdxK.mk k (eTodos x) rfl (todos_get hx) ?_)<;>with_reducible refine wK ?_)
  |apply trivial));all_goals clear fct)
  ·(have fct:=And.intro hxm ((eq_false e));(repeat' (first
  |refine gF ?_|refine aE ?_ ?_
  |(((with_reducible show IdxK _ _ _ _ _);refine IdxK.mk k (eTodos x) rfl (todos_get hx) ?_)<;>with_reducible refine wK ?_)
  | apply trivial));all_goals clear fct)
   refine NextK.mk (k+1) ⟨by omega,fun j y hj hy=>?_⟩ (by omega) ⟨⟨rfl,rfl⟩,⟨⟨rfl,rfl⟩,by show((k+1:Nat):Int)=(k:Int)+1;omega,trivial⟩,⟨⟨rfl,rfl,rfl,rfl,trivial⟩,trivial⟩,trivial⟩
   rcases Nat.lt_or_ge j k with h6|h6
   ·exact hok j y h6 hy
   ·have:j=k:=by omega
    subst this
    rw[hx] at hy;cases hy;exact decide_eq_true (by omega)
 ·rw [all_yes fun j y hy=>hok j y (by have:=(List.getElem?_eq_some_iff.1 hy).1;simp only[decide_eq_false_iff_not] at h2;omega) hy,Bool.true_and]
  clear h2
  repeat' (first
  |refine gK ?_|refine aE ?_ ?_
  |apply trivial)
  refine LoopK.use G G_good (fun(k:Nat)=>[(1,.ptr 10 0 0),(4,eInt k)]) (fun _=>[(10,mLn ⟨a,b,c,d⟩)]) (fun k=>k≤b.length∧∀ (j:Nat) x,j<k→b[j]? =some x→decide (x.length≤60)=true) (fun k=>b.length-k) 0 ⟨Nat.zero_le _,fun j x h=>by omega⟩
   ⟨⟨rfl,rfl⟩,⟨⟨rfl,rfl⟩,rfl,trivial⟩,⟨⟨rfl,rfl,rfl,rfl,trivial⟩,trivial⟩,trivial⟩ ?_
  rintro q ⟨hq,hoq⟩
  with_reducible refine wK ?_
  refine IfK.mk (fun h2=>?_) (fun h2=>?_)<;>(try simp only[castN] at h2)<;>with_reducible refine wK ?_
  ·have hk':q<b.length:=by simp only[decide_eq_true_eq] at h2;omega
   obtain⟨x,hx⟩:∃x,b[q]? =some x:=⟨_,List.getElem?_eq_getElem hk'⟩
   have hxm:(x.map oInt).length=x.length:=List.length_map ..
   clear h2
   by_cases e:(60:Int)< (x.length:Int)
   ·rw[all_no hx (decide_eq_false (show ¬x.length≤60 by omega))]
    (have fct:=And.intro hxm (e);(repeat' (first
  |refine gF ?_|refine aE ?_ ?_
  |(((with_reducible show IdxK _ _ _ _ _);refine IdxK.mk q (eInts x) rfl (ints_get hx) ?_)<;>with_reducible refine wK ?_)
  | apply trivial));all_goals clear fct)
   ·(have fct:=And.intro hxm ((eq_false e));(repeat' (first
  |refine gF ?_|refine aE ?_ ?_
  |(((with_reducible show IdxK _ _ _ _ _);refine IdxK.mk q (eInts x) rfl (ints_get hx) ?_)<;>with_reducible refine wK ?_)
  | apply trivial));all_goals clear fct)
    refine NextK.mk (q+1) ⟨by omega,fun j y hj hy=>?_⟩ (by omega) ⟨⟨rfl,rfl⟩,⟨⟨rfl,rfl⟩,by show((q+1:Nat):Int)=(q:Int)+1;omega,trivial⟩,⟨⟨rfl,rfl,rfl,rfl,trivial⟩,trivial⟩,trivial⟩
    rcases Nat.lt_or_ge j q with h6|h6
    ·exact hoq j y h6 hy
    ·have:j=q:=by omega
     subst this
     rw[hx] at hy;cases hy;exact decide_eq_true (by omega)
  ·rw[all_yes fun j y hy=>hoq j y (by have:=(List.getElem?_eq_some_iff.1 hy).1;simp only[decide_eq_false_iff_not] at h2;omega) hy]
   clear h2
   repeat' (first
  |refine gK ?_|refine aE ?_ ?_
  |apply trivial)
theorem rNamed_ok (cs:List ClassM)(h1:cs.length≤100000)(h2:∀c∈cs,c.watch.length≤100000):FnOK Tryz.prog 71 [] [eClasses cs] [] (eBool (namedC cs)):=by
 unfold namedC
 have hcl:=h1
 clear h1
 have hlm:(cs.map oClass).length=cs.length:=List.length_map ..
 refine FnOK.startC (rvs:=[.tmp 2]) G G_good Tryz.func71 rfl Tryz.ntmps71 rfl rfl ?_;with_reducible refine wD ?_
 refine LoopK.use G G_good (fun(k:Nat)=>[(0,eClasses cs),(3,eInt k)]) (fun _=>[])
  (fun k=>k≤cs.length∧∀ (j:Nat) (y:ClassM),j<k→cs[j]? =some y→(y.watch.all fun s=>decide (s.size≤300))=true) (fun k=>cs.length-k) 0 ⟨Nat.zero_le _,fun j y h=>by omega⟩
  ⟨⟨rfl,rfl⟩,⟨rfl,rfl,trivial⟩,trivial⟩ ?_
 rintro k ⟨hk,hok⟩
 with_reducible refine wK ?_
 refine IfK.mk (fun h1=>?_) (fun h1=>?_)<;>(try simp only[castN] at h1)<;>with_reducible refine wK ?_
 ·have hk':k<cs.length:=by simp only[decide_eq_true_eq] at h1;omega
  obtain⟨x,hx⟩:∃x,cs[k]? =some x:=⟨_,List.getElem?_eq_getElem hk'⟩
  have hwl:=h2 x (List.mem_of_getElem? hx)
  have bad:(x.watch.all fun s=>decide (s.size≤300))=false→(cs.all fun c=>c.watch.all fun s=>decide (s.size≤300))=false:=fun h=>all_no hx h
  have good:(x.watch.all fun s=>decide (s.size≤300))=true→∀ (j:Nat) (y:ClassM),j<k+1→cs[j]? =some y→(y.watch.all fun s=>decide (s.size≤300))=true:=fun h j y hj hy=>by
   rcases Nat.lt_or_ge j k with h6|h6
   ·exact hok j y h6 hy
   ·have:j=k:=by omega
    subst this
    rw[hx] at hy;cases hy;exact h
  clear h1
  obtain⟨c1,c2,c3,c4,c5⟩:=x
  have n2:(c2.map oStr).length=c2.length:=List.length_map ..
  simp only at bad good hwl
  repeat' (first
  |refine gK ?_|refine aE ?_ ?_
  |apply trivial)
  refine LoopK.use G G_good (fun(j:Nat)=>[(0,eClasses cs),(3,eInt k),(4,eInt j)]) (fun _=>[])
   (fun j=>j≤c2.length∧∀ (i:Nat) (y:ByteArray),i<j→c2[i]? =some y→decide (y.size≤300)=true) (fun j=>c2.length-j) 0 ⟨Nat.zero_le _,fun j y h=>by omega⟩
   ⟨⟨rfl,rfl⟩,⟨rfl,rfl,rfl,trivial⟩,trivial⟩ ?_
  rintro j ⟨hj,hoj⟩
  with_reducible refine wK ?_
  repeat' (first
  |refine gK ?_|refine aE ?_ ?_
  |(((with_reducible show IdxK _ _ _ _ _);refine IdxK.mk k (eClass ⟨c1,c2,c3,c4,c5⟩) rfl (class_get hx) ?_)<;>with_reducible refine wK ?_)
  |apply trivial)
  refine IfK.mk (fun h2=>?_) (fun h2=>?_)<;>(try simp only[castN] at h2)<;>with_reducible refine wK ?_
  ·have hj':j<c2.length:=by simp only[decide_eq_true_eq] at h2;omega
   obtain⟨s,hs⟩:∃x,c2[j]? =some x:=⟨_,List.getElem?_eq_getElem hj'⟩
   clear h2
   by_cases e:(300:Int)< (s.size:Int)
   ·rw[bad (all_no hs (decide_eq_false (show ¬s.size≤300 by omega)))]
    (have fct:=e;(repeat' (first
  |refine gF ?_|refine aE ?_ ?_
  |(((with_reducible show IdxK _ _ _ _ _);first|refine IdxK.mk k (eClass ⟨c1,c2,c3,c4,c5⟩) rfl (class_get hx) ?_|refine IdxK.mk j (eStr s) rfl (strs_get hs) ?_)<;>with_reducible refine wK ?_)
  | apply trivial));all_goals clear fct)
   ·(have fct:=(eq_false e);(repeat' (first
  |refine gF ?_|refine aE ?_ ?_
  |(((with_reducible show IdxK _ _ _ _ _);first|refine IdxK.mk k (eClass ⟨c1,c2,c3,c4,c5⟩) rfl (class_get hx) ?_|refine IdxK.mk j (eStr s) rfl (strs_get hs) ?_)<;>with_reducible refine wK ?_)
  | apply trivial));all_goals clear fct)
    refine NextK.mk (j+1) ⟨by omega,fun i y hi hy=>?_⟩ (by omega) ⟨⟨rfl,rfl⟩,⟨rfl,rfl,by show((j+1:Nat):Int)=(j:Int)+1;omega,trivial⟩,trivial⟩
    rcases Nat.lt_or_ge i j with h6|h6
    ·exact hoj i y h6 hy
    ·have:i=j:=by omega
     subst this
     rw[hs] at hy;cases hy;exact decide_eq_true (by omega)
  ·have hnx:=good (all_yes fun i y hy=>hoj i y (by have:=(List.getElem?_eq_some_iff.1 hy).1;simp only[decide_eq_false_iff_not] at h2;omega) hy)
   clear h2
   repeat' (first
  |refine gK ?_|refine aE ?_ ?_
  | apply trivial)
   refine NextK.mk (k+1) ⟨by omega,hnx⟩ (by omega) ⟨⟨rfl,rfl⟩,⟨rfl,by show((k+1:Nat):Int)=(k:Int)+1;omega,trivial⟩,trivial⟩
 ·rw[all_yes fun j y hy=>hok j y (by have:=(List.getElem?_eq_some_iff.1 hy).1;simp only[decide_eq_false_iff_not] at h1;omega) hy]
  clear h1
  repeat' (first
  |refine gK ?_|refine aE ?_ ?_
  |apply trivial)
theorem rShort_ok (w:WorldM):FnOK Tryz.prog 16 [] [eWorld w] [] (eBool (shortG w)):=by
 have h17:=f17_ok w.f
 have h68:=f68_ok w.desk
 have h69:=rlShort_ok w.line
 have h70:=f70_ok w.classes
 have h71:shortC w.classes=true→FnOK Tryz.prog 71 [] [eClasses w.classes] [] (eBool (namedC w.classes)):=fun h=>by
  have hc:=small_of_shortC h
  unfold shortC at h
  simp only[Bool.and_eq_true,decide_eq_true_eq] at h
  exact rNamed_ok w.classes (by omega) fun c hc'=>(hc c hc').watch
 unfold shortG
 generalize shortF w.f=g1 at*
 generalize shortB w.desk=g2 at*
 generalize shortL w.line=g3 at*
 generalize shortC w.classes=g4 at*
 generalize namedC w.classes=g5 at*
 obtain⟨⟨l,m⟩,st,⟨d1,d2,d3,d4⟩,⟨a,b,c,d⟩,ta,bu,cs⟩:=w
 simp only at h17 h68 h69 h70 h71 ⊢
 have n1:(st.map oState).length=st.length:=List.length_map ..
 have n2:(ta.map oTask).length=ta.length:=List.length_map ..
 have n3:(bu.map oBuild).length=bu.length:=List.length_map ..
 obtain⟨p1,q1⟩:∃p,decide (st.length≤60)=p:=⟨_,rfl⟩
 obtain⟨p2,q2⟩:∃p,decide (ta.length≤60)=p:=⟨_,rfl⟩
 obtain⟨p3,q3⟩:∃p,decide (bu.length≤60)=p:=⟨_,rfl⟩
 have r1:decide (((st.map oState).length:Int)≤60)=p1:=by rw[←q1,decide_eq_decide];omega
 have r2:decide (((ta.map oTask).length:Int)≤60)=p2:=by rw[←q2,decide_eq_decide];omega
 have r3:decide (((bu.map oBuild).length:Int)≤60)=p3:=by rw[←q3,decide_eq_decide];omega
 rw[q1,q2,q3]
 clear q1 q2 q3
 refine FnOK.startC (rvs:=[.tmp 2]) G G_good Tryz.func16 rfl Tryz.ntmps16 rfl rfl ?_;with_reducible refine wD ?_
 cases g1
 ·repeat' (first
  |refine gK ?_|refine aE ?_ ?_
  |(((with_reducible refine kQ 17 ?_);refine cL h17 c17 ?_)<;>with_reducible refine wK ?_)
  |apply trivial)
  all_goals first|rfl|(simp;done)
 cases p1
 ·repeat' (first
  |refine gK ?_|refine aE ?_ ?_
  |(((with_reducible refine kQ 17 ?_);refine cL h17 c17 ?_)<;>with_reducible refine wK ?_)
  |apply trivial)
  all_goals first|rfl|(simp;done)|(simp[r1];done)
 cases g4
 case true=>
  have h71:=h71 rfl
  cases g2<;>cases g3<;>cases p2<;>cases p3
  all_goals
   repeat' (first
  |refine gK ?_|refine aE ?_ ?_
  | ((first
   |((with_reducible refine kQ 17 ?_);refine cL h17 c17 ?_)
   |((with_reducible refine kQ 68 ?_);refine cL h68 c68 ?_)
   |((with_reducible refine kQ 69 ?_);refine cL h69 c69 ?_)
   |((with_reducible refine kQ 70 ?_);refine cL h70 c70 ?_)
   |((with_reducible refine kQ 71 ?_);refine cL h71 c71 ?_))<;>with_reducible refine wK ?_)
  | apply trivial)
   all_goals first|rfl|(simp;done)|(simp[r2];done)|(simp[r3];done)
 cases g2<;>cases g3<;>cases p2<;>cases p3
 all_goals
  repeat' (first
  |refine gK ?_|refine aE ?_ ?_
  | ((first
   |((with_reducible refine kQ 17 ?_);refine cL h17 c17 ?_)
   |((with_reducible refine kQ 68 ?_);refine cL h68 c68 ?_)
   |((with_reducible refine kQ 69 ?_);refine cL h69 c69 ?_)
   |((with_reducible refine kQ 70 ?_);refine cL h70 c70 ?_))<;>with_reducible refine wK ?_)
  |apply trivial)
  all_goals first|rfl|(simp;done)|(simp[r2];done)|(simp[r3];done)
theorem noRef_nodeN (x:NodeM):noRef (oNode x)=true:=by
 show noRef (.agg [eInt x.kind,eStr x.name,eStr x.is,eStr x.data,eAttrs x.attrs,eInt x.parent,eInts x.kids,eInt x.host,eInt x.under,eInt x.doc])=true
 have h1:noRefL (x.attrs.map oAttr)=true:=noRefL_map oAttr (fun _=>rfl) _
 have h2:noRefL (x.kids.map oInt)=true:=noRefL_map oInt (fun _=>rfl) _
 simp[noRef,noRefL,h1,h2]
theorem noRef_nodes (l:List NodeM):noRefL (l.map oNode)=true:=noRefL_map oNode noRef_nodeN l
@[reducible] def mNodes (l : List NodeM) : MS := .live 10 (l.map oNode) false
theorem nodes_outs (l:List NodeM):okOuts [mNodes l]:=⟨Wide.of_mem fun x hx=>by
 obtain⟨a,_,rfl⟩:=List.mem_map.1 hx;rfl,noRef_nodes l,trivial⟩
theorem one_nodes (l:List NodeM):oneL (flat (l.map oNode))=true:=oneL_map oNode (fun _=>rfl) l
theorem frz_nodes {m:ML}{fz:Nat→Bool}{tab:List (Nat×Nat)}{n t len:Nat}{ro:Bool}{rows:List AV}{l:List NodeM}(h1:lkM m t=.live 10 rows ro)(h2:fz t=true)(h3:rows=l.map oNode)(h4:len=l.length):FrzK m fz (MF tab fz m n) (eNodes l) t 0 len:=by
 subst h3;subst h4
 have e:(l.map oNode).length=l.length:=List.length_map ..
 exact .cut h1 h2 (by omega) (by rw[List.drop_zero,List.take_of_length_le (by omega)]) (noRef_nodes l)
theorem fBare_ok (k d:Int):FnOK Tryz.prog 135 [] [eInt k,eInt d] [] (eNode (bareN k d)):=by
 refine FnOK.startC (rvs:=[.cell 4 80]) G G_good Tryz.func135 rfl Tryz.ntmps135 rfl rfl ?_;with_reducible refine wD ?_
 repeat' (first
  |refine gK ?_|refine aE ?_ ?_
  |apply trivial)
 all_goals first|rfl|exact .inr (.inr ⟨_,rfl⟩)
@[reducible] def forest0 (most : Int) : ForM := ⟨[bareN 0 0], most⟩
@[reducible] def zN : NodeM := ⟨0, ⟨#[]⟩, ⟨#[]⟩, ⟨#[]⟩, [], 0, [], 0, 0, 0⟩
@[reducible] def world0 (cs : List ClassM) (most : Int) : WorldM := ⟨forest0 most, [bornS zN], ⟨[], [], 0, false⟩, lnGrow ⟨[], [], [], false⟩, [], [], cs⟩
@[reducible] def zeroWM : WorldM := ⟨⟨[], 0⟩, [], ⟨[], [], 0, false⟩, ⟨[], [], [], false⟩, [], [], []⟩
theorem small0 (most:Int):SmallN (forest0 most).nodes:=⟨by show 1≤64;decide,fun x hx=>by rw[List.mem_singleton.1 hx];decide,fun x hx=>by rw[List.mem_singleton.1 hx];decide,fun x hx=>by rw[List.mem_singleton.1 hx];decide⟩
theorem smallL0:SmL 60 (lnGrow ⟨[],[],[],false⟩):=⟨by decide,by decide,by decide,by decide,by decide⟩
theorem small_world0 {cs:List ClassM}(most:Int)(hc:cs.length≤1000)(hcs:SmallC cs)(hnm:∀c∈cs,∀s∈c.watch,s.size≤300):SmallW (world0 cs most):=⟨small0 most,by show 1≤1000;decide,⟨Nat.zero_le _,Nat.zero_le _⟩,smallL0.mono (by decide),Nat.zero_le _,Nat.zero_le _,hc,hcs,hnm⟩
theorem fNew_ok (most:Int):FnOK Tryz.prog 88 [] [eInt most] [] (.tup [eFor (if rightF (forest0 most)=true then forest0 most else⟨[],0⟩),eInt (if rightF (forest0 most)=true then 0 else 1)]):=by
 have hb:=fBare_ok 0 0
 have hr:=f100_ok (forest0 most) (small0 most)
 cases e:rightF (forest0 most) with
 | true=>
   rw[e] at hr
   rw[if_pos rfl,if_pos rfl]
   refine FnOK.startC (rvs:=[.cell 2 24,.tmp 3]) G G_good Tryz.func88 rfl Tryz.ntmps88 rfl rfl ?_;with_reducible refine wD ?_
   repeat' (first
  |refine gK ?_|refine aE ?_ ?_
  | ((first
   |((with_reducible refine kQ 135 ?_);refine cV hb c135 ?_)
   |((with_reducible refine kQ 100 ?_);refine CallK.lit [61] hr c100 ⟨⟨frz_nodes (l:=[bareN 0 0]) rfl rfl rfl rfl,rfl,trivial⟩,trivial⟩ rfl rfl ?_))<;>with_reducible refine wK ?_)
  | apply trivial)
   all_goals first|rfl|exact frz_nodes (l:=[bareN 0 0]) rfl rfl rfl rfl
 | false=>
   rw[e] at hr
   rw[if_neg (by simp),if_neg (by simp)]
   refine FnOK.startC (rvs:=[.cell 2 24,.tmp 3]) G G_good Tryz.func88 rfl Tryz.ntmps88 rfl rfl ?_;with_reducible refine wD ?_
   repeat' (first
  |refine gK ?_|refine aE ?_ ?_
  | ((first
   |((with_reducible refine kQ 135 ?_);refine cV hb c135 ?_)
   |((with_reducible refine kQ 100 ?_);refine CallK.lit [61] hr c100 ⟨⟨frz_nodes (l:=[bareN 0 0]) rfl rfl rfl rfl,rfl,trivial⟩,trivial⟩ rfl rfl ?_))<;>with_reducible refine wK ?_)
  | apply trivial)
   all_goals first|rfl|exact .inr (.inr ⟨_,rfl⟩)
def newW (cs:List ClassM)(most:Int):WorldM×Int:=if rightG (world0 cs most)=true then(world0 cs most,0) else(zeroWM,1)
theorem wNew_ok (cs:List ClassM)(most:Int)(hc:cs.length≤1000)(hcs:SmallC cs)(hnm:∀c∈cs,∀s∈c.watch,s.size≤300):FnOK Tryz.prog 28 [] [eClasses cs,eInt most] [] (.tup [eWorld (newW cs most).1,eInt (newW cs most).2]):=by
 have hsw:=small_world0 most hc hcs hnm
 have hf:=fNew_ok most
 have hb:=wBorn_ok zN
 have hg:=lnGrow_ok ⟨[],[],[],false⟩ ⟨by decide,by decide,by decide,by decide,by decide⟩
 have hcl:=clclasses_ok cs (by omega)
 have hR:=wRight_ok (world0 cs most) hsw
 have hRF:rightG (world0 cs most)=true→rightF (forest0 most)=true:=fun h=>(rightG_iff.1 h).rf
 unfold newW
 generalize hr:rightG (world0 cs most)=r at*
 unfold world0 at hR ⊢
 generalize hl:lnGrow ⟨[],[],[],false⟩=L at*
 obtain⟨la,lb,lc,ld⟩:=L
 generalize hs:bornS zN=s at*
 obtain⟨s1,s2,s3,s4⟩:=s
 clear hsw hr hl hs
 cases e:rightF (forest0 most) with
 | false=>
   cases r with
   |true=>rw[hRF rfl] at e;cases e
   | false=>
     rw[e] at hf
     rw[if_neg (by simp),if_neg (by simp)] at hf
     rw[if_neg (by simp)]
     refine FnOK.startC (rvs:=[.cell 4 39,.tmp 5]) G G_good Tryz.func28 rfl Tryz.ntmps28 rfl rfl ?_;with_reducible refine wD ?_
     repeat' (first
  |refine gK ?_|refine aE ?_ ?_
  | ((first
   |((with_reducible refine kQ 88 ?_);refine cV hf c88 ?_)
   |((with_reducible refine kQ 89 ?_);refine CallK.lit [] hb c89 ⟨⟨rfl,rfl,rfl,rfl,.inr (.inr ⟨_,rfl⟩),rfl,.inr (.inr ⟨_,rfl⟩),rfl,rfl,rfl,trivial⟩,trivial⟩ rfl rfl ?_)
   |((with_reducible refine kQ 90 ?_);refine CallK.val [] hg c90 ⟨⟨.inr (.inr ⟨_,rfl⟩),.inr (.inr ⟨_,rfl⟩),.inr (.inr ⟨_,rfl⟩),rfl,trivial⟩,trivial⟩ rfl rfl rfl ?_)
   |((with_reducible refine kQ 91 ?_);refine CallK.new 211 [] hcl c91 ⟨rfl,trivial⟩ rfl rfl rfl (outs_classes _) rfl ?_))<;>with_reducible refine wK ?_)
  |apply trivial)
     all_goals first|rfl|exact .inr (.inr ⟨_,rfl⟩)
 | true=>
   rw[e] at hf
   rw[if_pos rfl,if_pos rfl] at hf
   cases r
   all_goals
    refine FnOK.startC (rvs:=[.cell 4 39,.tmp 5]) G G_good Tryz.func28 rfl Tryz.ntmps28 rfl rfl ?_;with_reducible refine wD ?_
    repeat' (first
  |refine gK ?_|refine aE ?_ ?_
  | ((first
   |((with_reducible refine kQ 88 ?_);refine cV hf c88 ?_)
   |((with_reducible refine kQ 89 ?_);refine CallK.lit [] hb c89 ⟨⟨rfl,rfl,rfl,rfl,.inr (.inr ⟨_,rfl⟩),rfl,.inr (.inr ⟨_,rfl⟩),rfl,rfl,rfl,trivial⟩,trivial⟩ rfl rfl ?_)
   |((with_reducible refine kQ 90 ?_);refine CallK.val [] hg c90 ⟨⟨.inr (.inr ⟨_,rfl⟩),.inr (.inr ⟨_,rfl⟩),.inr (.inr ⟨_,rfl⟩),rfl,trivial⟩,trivial⟩ rfl rfl rfl ?_)
   |((with_reducible refine kQ 91 ?_);refine CallK.new 211 [] hcl c91 ⟨rfl,trivial⟩ rfl rfl rfl (outs_classes _) rfl ?_)
   |((with_reducible refine kQ 19 ?_);refine CallK.lit [171,211] hR c19 ⟨⟨rfl,rfl,frz_states (l:=[⟨s1,s2,s3,s4⟩]) rfl rfl rfl rfl,.inr (.inr ⟨_,rfl⟩),.inr (.inr ⟨_,rfl⟩),rfl,rfl,rfl,rfl,rfl,rfl,.inr (.inr ⟨_,rfl⟩),.inr (.inr ⟨_,rfl⟩),frz_classes rfl rfl rfl rfl,trivial⟩,trivial⟩ rfl rfl ?_))<;>with_reducible refine wK ?_)
  | apply trivial)
    all_goals first
     |rfl
     |exact frz_states (l:=[⟨s1,s2,s3,s4⟩]) rfl rfl rfl rfl
     |exact frz_classes rfl rfl rfl rfl
     |exact .inr (.inr ⟨_,rfl⟩)
theorem clattrs_fr (l:List AttrM)(hl:l.length≤100000):FnOK Tryz.prog 136 [] [eAttrs l] [] (eAttrs l):=by
 have hlm:(l.map oAttr).length=l.length:=List.length_map ..
 refine FnOK.startC (rvs:=[.tmp 2]) G G_good Tryz.func136 rfl Tryz.ntmps136 rfl rfl ?_;with_reducible refine wD ?_
 refine GuessK.mk (fun h=>?_) (fun _=>?_)<;>with_reducible refine wK ?_
 ·obtain rfl:l=[]:=by simpa using h
  (refine eK ?_ ?_<;>with_reducible repeat' (first|exact trivial|(show _∧_;refine aK ?_ ?_)))
  all_goals first|rfl|exact .inr (.inr ⟨2,rfl⟩)
 ·refine AppK.mk [] (l.map oAttr) ⟨rfl,rfl,rfl⟩ ⟨rfl,rfl,rfl⟩ (oneL_map oAttr (fun _=>rfl) l) (by simp;omega) (by simp;omega) ?_;with_reducible refine wK ?_
  (refine eK ?_ ?_<;>with_reducible repeat' (first|exact trivial|(show _∧_;refine aK ?_ ?_)))
  all_goals first|exact frz_attrs rfl rfl rfl rfl|(refine frz_attrs rfl rfl ?_ ?_<;>simp)
theorem clnodes_ok (l:List NodeM)(hl:l.length≤100000):FnOK Tryz.prog 140 [] [eNodes l] [mNodes l] (.own 0 0 l.length):=by
 have hlm:(l.map oNode).length=l.length:=List.length_map ..
 refine FnOK.startC (rvs:=[.tmp 2]) G G_good Tryz.func140 rfl Tryz.ntmps140 rfl rfl ?_;with_reducible refine wD ?_
 refine GuessK.mk (fun h=>?_) (fun _=>?_)<;>with_reducible refine wK ?_
 ·obtain rfl:l=[]:=by simpa using h
  (refine eK ?_ ?_<;>with_reducible repeat' (first|exact trivial|(show _∧_;refine aK ?_ ?_)))
  all_goals first|rfl|trivial
 ·refine AppK.mk [] (l.map oNode) ⟨rfl,rfl,rfl⟩ ⟨rfl,rfl,rfl⟩ (one_nodes l) (by simp;omega) (by simp;omega) ?_;with_reducible refine wK ?_
  (refine eK ?_ ?_<;>with_reducible repeat' (first|exact trivial|(show _∧_;refine aK ?_ ?_)))
  ·exact hlm.symm
  ·exact MFL_refl (noRef_nodes l)
theorem makeF_no {f:ForM}{x:NodeM}(h:makeOK f x=false):makeF f x=(f,-1,1):=by unfold makeF;rw[h];rfl
theorem makeF_full {f:ForM}{x:NodeM}(h:makeOK f x=true)(h2:(f.nodes.length:Int)=f.most):makeF f x=(f,-1,8):=by unfold makeF;rw[if_pos h,if_pos h2]
theorem makeF_yes {f:ForM}{x:NodeM}(h:makeOK f x=true)(h2:¬ (f.nodes.length:Int)=f.most):makeF f x=(⟨f.nodes++ [madeN f x],f.most⟩,(f.nodes.length:Int),0):=by unfold makeF;rw[if_pos h,if_neg h2]
theorem fMake_ok (f:ForM)(hs:SmallN f.nodes)(x:NodeM)(hx:x.attrs.length≤100000)(hk:x.kind=1):FnOK Tryz.prog 67 [] [eFor f,eNode x] [] (.tup [eFor (makeF f x).1,eInt (makeF f x).2.1,eInt (makeF f x).2.2]):=by
 have hb:=fBare_ok x.kind x.doc
 have hcl:=clattrs_fr x.attrs hx
 have hr:=f137_ok f hs
 have hn:=f138_ok (madeN f x) hx
 have hi:=f139_ok f x.doc 0
 have hcn:=clnodes_ok f.nodes (by have:=hs.len;omega)
 have hlen:=hs.len
 have hno:=makeF_no (f:=f) (x:=x)
 have hfu:=makeF_full (f:=f) (x:=x)
 have hye:=makeF_yes (f:=f) (x:=x)
 have hok:makeOK f x=((rightF f&&namedN (madeN f x))&&(!decide (x.kind=4)&&(decide (x.kind=0)||isN f.nodes x.doc 0))):=rfl
 rw[hok] at hno hfu hye
 clear hok
 unfold madeN at hn hno hfu hye
 obtain⟨l,m⟩:=f
 obtain⟨x0,x1,x2,x3,x4,x5,x6,x7,x8,x9⟩:=x
 simp only at hb hcl hr hn hi hcn hlen hno hfu hye hk
 subst hk
 unfold bareN at hb
 rw[if_neg (by decide)] at hn hno hfu hye
 have hlm:(l.map oNode).length=l.length:=List.length_map ..
 generalize namedN ⟨1,x1,x2,x3,x4,-1,[],-1,-1,x9⟩=g2 at*
 generalize rightF ⟨l,m⟩=g1 at*
 generalize isN l x9 0=g3 at*
 by_cases e:(l.length:Int)=m
 ·have hfu:=fun h=>hfu h e
  clear hye
  cases g1<;>cases g2<;>cases g3
  case true.true.true=>
   rw[hfu rfl]
   refine FnOK.startC (rvs:=[.cell 4 24,.tmp 5,.tmp 6]) G G_good Tryz.func67 rfl Tryz.ntmps67 rfl rfl ?_;with_reducible refine wD ?_
   (have fct:=And.intro hlm ((eq_true e));(repeat' (first
  |refine gF ?_|refine aE ?_ ?_
  | ((first
   |((with_reducible refine kQ 135 ?_);refine cV hb c135 ?_)
   |((with_reducible refine kQ 136 ?_);refine cV hcl c136 ?_)
   |((with_reducible refine kQ 137 ?_);refine cL hr c137 ?_)
   |((with_reducible refine kQ 138 ?_);refine cL hn c138 ?_)
   |((with_reducible refine kQ 139 ?_);refine cL hi c139 ?_))<;>with_reducible refine wK ?_)
  | apply trivial));all_goals clear fct)
   all_goals trace_state
  all_goals
   rw[hno rfl]
   refine FnOK.startC (rvs:=[.cell 4 24,.tmp 5,.tmp 6]) G G_good Tryz.func67 rfl Tryz.ntmps67 rfl rfl ?_;with_reducible refine wD ?_
   (have fct:=hlm;(repeat' (first
  |refine gF ?_|refine aE ?_ ?_
  | ((first
   |((with_reducible refine kQ 135 ?_);refine cV hb c135 ?_)
   |((with_reducible refine kQ 136 ?_);refine cV hcl c136 ?_)
   |((with_reducible refine kQ 137 ?_);refine cL hr c137 ?_)
   |((with_reducible refine kQ 138 ?_);refine cL hn c138 ?_)
   |((with_reducible refine kQ 139 ?_);refine cL hi c139 ?_))<;>with_reducible refine wK ?_)
  | apply trivial));all_goals clear fct)
   all_goals trace_state
 ·have hye:=fun h=>hye h e
  clear hfu
  cases g1<;>cases g2<;>cases g3
  case true.true.true=>
   rw[hye rfl]
   refine FnOK.startC (rvs:=[.cell 4 24,.tmp 5,.tmp 6]) G G_good Tryz.func67 rfl Tryz.ntmps67 rfl rfl ?_;with_reducible refine wD ?_
   (have fct:=And.intro hlm ((eq_false e));(repeat' (first
  |refine gF ?_|refine aE ?_ ?_
  | ((first
   |((with_reducible refine kQ 135 ?_);refine cV hb c135 ?_)
   |((with_reducible refine kQ 136 ?_);refine cV hcl c136 ?_)
   |((with_reducible refine kQ 137 ?_);refine cL hr c137 ?_)
   |((with_reducible refine kQ 138 ?_);refine cL hn c138 ?_)
   |((with_reducible refine kQ 139 ?_);refine cL hi c139 ?_)
   |((with_reducible refine kQ 140 ?_);refine CallK.new 731 [] hcn c140 ⟨rfl,trivial⟩ rfl rfl rfl (nodes_outs _) rfl ?_)
   |((with_reducible show AppK _ _ _ _ _ _ _ _ _ _);refine AppK.mk (l.map oNode) [.agg [eInt 1,eStr x1,eStr x2,eStr x3,eAttrs x4,eInt (-1),eInts [],eInt (-1),eInt (-1),eInt x9]] ⟨rfl,by simp,rfl⟩ ⟨rfl,rfl,rfl⟩ rfl (by simp;omega) (by simp;omega) ?_))<;>with_reducible refine wK ?_)
  | apply trivial));all_goals clear fct)
   all_goals first
    |exact frz_snoc oNode (y:=⟨1,x1,x2,x3,x4,-1,[],-1,-1,x9⟩) rfl rfl rfl (by simp) noRef_nodes ⟨rfl,rfl,rfl,rfl,rfl,rfl,rfl,rfl,rfl,rfl,trivial⟩
    |(show(l.length:Int)=_;rw[hlm])
  all_goals
   rw[hno rfl]
   refine FnOK.startC (rvs:=[.cell 4 24,.tmp 5,.tmp 6]) G G_good Tryz.func67 rfl Tryz.ntmps67 rfl rfl ?_;with_reducible refine wD ?_
   (have fct:=hlm;(repeat' (first
  |refine gF ?_|refine aE ?_ ?_
  | ((first
   |((with_reducible refine kQ 135 ?_);refine cV hb c135 ?_)
   |((with_reducible refine kQ 136 ?_);refine cV hcl c136 ?_)
   |((with_reducible refine kQ 137 ?_);refine cL hr c137 ?_)
   |((with_reducible refine kQ 138 ?_);refine cL hn c138 ?_)
   |((with_reducible refine kQ 139 ?_);refine cL hi c139 ?_))<;>with_reducible refine wK ?_)
  | apply trivial));all_goals clear fct)
   all_goals trace_state
@[reducible] def qA1 : ByteArray := ⟨#[97]⟩
@[reducible] def qXA : ByteArray := ⟨#[120, 45, 97]⟩
@[reducible] def qE : ByteArray := ⟨#[]⟩
@[reducible] def qC : ClassM := ⟨false, [qA1], [], [], []⟩
@[reducible] def qN0 : NodeM := ⟨0, qE, qE, qE, [], -1, [], -1, -1, 0⟩
@[reducible] def qN1 : NodeM := ⟨1, qXA, qE, qE, [], -1, [], -1, -1, 0⟩
@[reducible] def qM : NodeM := ⟨1, qXA, qE, qE, [], 0, [], 0, 0, 0⟩
@[reducible] def qF0 : ForM := ⟨[qN0], 5⟩
@[reducible] def qF1 : ForM := ⟨[qN0, qN1], 5⟩
@[reducible] def qD : DeskM := ⟨[], [], 0, false⟩
@[reducible] def qS0 : StateM := ⟨0, -1, -1, false⟩
@[reducible] def qS1 : StateM := ⟨1, -1, -1, false⟩
@[reducible] def qT : TodoM := ⟨1, 0, qE, false, false, qE, qE, 0, 0, false⟩
@[reducible] def qW : WorldM := ⟨qF0, [qS0], qD, ⟨[[]], [], [], false⟩, [], [], [qC]⟩
@[reducible] def qV : WorldM := ⟨qF1, [qS0, qS1], qD, ⟨[[], []], [], [], false⟩, [], [], [qC]⟩
@[reducible] def qX : WorldM := ⟨qF1, [qS0, qS1], qD, ⟨[[], [qT]], [], [1], true⟩, [⟨1, 0, 0⟩], [], [qC]⟩
theorem q1:newW [qC] 5=(qW,0):=by kernel_rfl
theorem q2:makeF qF0 qM=(qF1,1,0):=by kernel_rfl
theorem q3:tellW qW qF1 []=(qV,0):=by kernel_rfl
theorem q4:enlistW qV [⟨1,qT⟩]=(qX,0):=by kernel_rfl
theorem q5:enlistW qV [⟨2,qT⟩]=(qV,1):=by kernel_rfl
theorem q6:restG qV=true:=by kernel_rfl
theorem qsN {l:List NodeM}(h:(decide (l.length≤60)&&l.all fun x=>decide (x.kids.length≤60)&&decide (x.attrs.length≤60)&&decide (x.name.size≤300))=true):SmallN l:=shortF_small (f:=⟨l,0⟩) h
theorem tellG_small {w:WorldM}(hs:SmallW w){B:Nat}(hl:SmL B w.line)(hB:B≤70000)(hta:w.tasks.length≤70000){f:ForM}(hf:SmallN f.nodes){ns:List NoteM}(hn:ns.length≤1000)(R:RightG w)(e2:rightF f=true)(e3:followsW w f=true):SmallW (tellG w f ns)∧SmL (B+1300) (tellG w f ns).line∧(tellG w f ns).tasks.length≤w.tasks.length+1:=by
 have TF:=tellF R e2 e3 ns
 have hfl:=hf.len
 have hX:=small_now hs (hl.mono (by omega)) hf R
 have hXl:SmL (B+64) (nowW w f).line:=(grow_line_sm f hl).mono (by omega)
 have hY0:SmallW (enlW (nowW w f) (dueL f (nowW w f).states w.desk w.classes ns)):=small_enl hX hXl (by show w.tasks.length≤_;omega) _ (by have:=TF.l1;omega)
 have hYl:=enl_sm (dueL f (nowW w f).states w.desk w.classes ns) (nowW w f) _ hXl
 have hY:SmallW {enlW (nowW w f) (dueL f (nowW w f).states w.desk w.classes ns) with states:=toldSt f (nowW w f).states w.desk w.classes}:=⟨hY0.f,by show(toldSt f (nowW w f).states w.desk w.classes).length≤_;rw[told_len];exact hX.st,hY0.d,hY0.l,hY0.ta,hY0.bu,hY0.cl,hY0.cs,hY0.nm⟩
 have ht:=enl_tlen2 (nowW w f) (dueL f (nowW w f).states w.desk w.classes ns)
 have h1:=TF.l1
 have h2:=TF.l2
 obtain⟨r,q1,q2⟩:=tell_tasks w f ns
 have q0:(nowW w f).tasks.length=w.tasks.length:=rfl
 have q3:{enlW (nowW w f) (dueL f (nowW w f).states w.desk w.classes ns) with states:=toldSt f (nowW w f).states w.desk w.classes:WorldM}.tasks.length=(enlW (nowW w f) (dueL f (nowW w f).states w.desk w.classes ns)).tasks.length:=rfl
 refine⟨small_enl hY (B:=B+64+ (dueL f (nowW w f).states w.desk w.classes ns).length) hYl (by rw[q3];omega) (toldDu f (nowW w f).states w.desk w.classes) (by omega),?_,by rw[q1,List.length_append];omega⟩
 exact(enl_sm (toldDu f (nowW w f).states w.desk w.classes) {enlW (nowW w f) (dueL f (nowW w f).states w.desk w.classes ns) with states:=toldSt f (nowW w f).states w.desk w.classes} _ hYl).mono (by omega)
end Go.Proofs.Heir
namespace Go.Proofs.Heir
open Go Go.Am Go.RowKit Go.Lib
set_option maxRecDepth 100000
set_option maxHeartbeats 8000000
set_option maxHeartbeats 8000000
theorem put_small {w:WorldM}(hs:SmallW w)(n ph df:Int):SmallW (putG w n ph df):=⟨hs.f,by show(w.states.set _ _).length≤_;rw[List.length_set];exact hs.st,hs.d,hs.l,hs.ta,hs.bu,hs.cl,hs.cs,hs.nm⟩
theorem drop_sm {B:Nat}{l:LineM}(h:SmL B l)(n:Int):SmL B (lnDrop l n):=⟨by show(l.todos.set _ _).length≤_;rw[List.length_set];exact h.1,fun t ht=>by
 have ht:t∈l.todos.set n.toNat []:=ht
 rcases mem_setL ht with e|e
 ·exact h.todo t e
 ·subst e;exact Nat.zero_le _,h.3,h.list,h.back⟩
theorem spoil_small {w:WorldM}(hs:SmallW w)(n:Int):SmallW (spoilG w n):=⟨hs.f,(put_small hs n 4 (-1)).st,hs.d,drop_sm hs.l n,hs.ta,hs.bu,hs.cl,hs.cs,hs.nm⟩
theorem builds_small {w:WorldM}(hs:SmallW w){l:List BuildM}(h:l.length≤90000):SmallW {w with builds:=l}:=⟨hs.f,hs.st,hs.d,hs.l,hs.ta,h,hs.cl,hs.cs,hs.nm⟩
theorem spoil_spoil {w:WorldM}{k:Nat}{s:StateM}(hs:w.states[k]? =some s):spoilG (spoilG w k) k=spoilG w k:=by
 have e:stOf (spoilG w k).states k=setS s 4 (-1):=by
  refine stOf_get ?_
  have:=put_get hs 4 (-1) k
  rw[if_pos rfl] at this;exact this
 have e1:(spoilG w k).states.set (k:Int).toNat (setS (stOf (spoilG w k).states k) 4 (-1))=(spoilG w k).states:=by
  rw[e]
  show(w.states.set _ (setS (stOf w.states k) 4 (-1))).set _ _=w.states.set _ (setS (stOf w.states k) 4 (-1))
  rw[List.set_set,stOf_get hs];rfl
 have e2:lnDrop (spoilG w k).line k=(spoilG w k).line:=by
  show lnDrop (lnDrop w.line k) k=lnDrop w.line k
  unfold lnDrop
  simp only[List.set_set]
 have e3:spoilG (spoilG w k) k=⟨(spoilG w k).f,(spoilG w k).states.set (k:Int).toNat (setS (stOf (spoilG w k).states k) 4 (-1)),(spoilG w k).desk,lnDrop (spoilG w k).line k,(spoilG w k).tasks,(spoilG w k).builds,(spoilG w k).classes⟩:=rfl
 rw[e3,e1,e2]
theorem spoil_get {w:WorldM}{k:Nat}{s:StateM}(hs:w.states[k]? =some s)(hl:k<w.line.todos.length)(m:Nat):(spoilG w k).states[m]? =(if k=m then some (setS s 4 (-1)) else w.states[m]?)∧(spoilG w k).line.todos[m]? =(if k=m then some [] else w.line.todos[m]?):=by
 refine⟨put_get hs 4 (-1) m,?_⟩
 show(w.line.todos.set (k:Int).toNat [])[m]? =_
 rw[Int.toNat_natCast,List.getElem?_set]
 by_cases e:k=m
 ·rw[if_pos e,if_pos e,if_pos hl]
 ·rw[if_neg e,if_neg e]
theorem nd_attrs {l:List NodeM}(h:SmallN l)(n:Int):(nd l n).attrs.length≤60:=by
 unfold nd
 cases e:l[n.toNat]? with
 |none=>exact Nat.zero_le _
 |some x=>exact h.attrs x (List.mem_of_getElem? e)
theorem first_len {f:ForM}(hf:SmallN f.nodes)(st:List StateM)(d:DeskM)(cs:List ClassM)(n:Int):(firstL f st d cs n).length≤61:=by
 unfold firstL
 split
 ·unfold firstC
  rw[List.length_append]
  have h1:=flat_len (firstA (classV (stOf st n) d cs) n) (firstA_len _ n) (nd f.nodes n).attrs
  have h2:=nd_attrs hf n
  have h3:(cameT (hearsC (classV (stOf st n) d cs) 1&&conF f n) n).length≤1:=by unfold cameT;split<;>simp
  omega
 ·exact Nat.zero_le _
theorem duty_born (f:ForM)(d:DeskM)(cs:List ClassM)(n:Int)(x:NodeM):dutyB f d cs n (bornS x)=false:=by
 unfold dutyB bornS
 rw[Bool.eq_false_iff]
 intro h
 simp only[Bool.and_eq_true,decide_eq_true_eq] at h
 have:=h.1.2
 split at this
 ·rcases born_cases x.name x.is with q|q<;>rw[q] at this<;>cases this
 ·cases this
theorem tellD_node {c:ClassM}{n:Int}{t:TodoM}{x:DueN}(h:x∈tellD c n t):x.node=n:=by
 unfold tellD at h
 split at h
 ·rw[List.mem_singleton.1 h]
 ·cases h
theorem toldD_node {f:ForM}{d:DeskM}{cs:List ClassM}{n:Int}{s:StateM}{x:DueN}(h:x∈toldD f d cs n s):x.node=n∧dutyB f d cs n s=true:=by
 unfold toldD at h
 split at h
 ·rename_i e
  refine⟨?_,e⟩
  rcases List.mem_append.1 h with q|q
  ·split at q
   ·cases q
   ·exact tellD_node q
  ·split at q
   ·cases q
   ·exact tellD_node q
 ·cases h
theorem new_todo {w:WorldM}{f:ForM}(R:RightG w)(hf:rightF f=true)(hw:followsW w f=true){n:Nat}{x:NodeM}(h:w.states.length≤n)(hx:f.nodes[n]? =some x):(tellG w f []).line.todos[n]? =some []:=by
 have N:=now_right R hf hw
 have V:=tell_right R hf hw []
 have hn:=(List.getElem?_eq_some_iff.1 hx).1
 have tl:=V.tl
 rw[tell_f] at tl
 have hg:(tellG w f []).line.todos[n]? =some ((tellG w f []).line.todos[n]'(by omega)):=List.getElem?_eq_getElem _
 have e:tdAt (tellG w f []).line (n:Int)=[]:=by
  have h2:=(follows_iff.1 hw).2.1
  have hi:inLn (nowW w f).line n=true:=by rw[in_node N];exact there_get hx
  have d0:dueL f (nowW w f).states w.desk w.classes []=[]:=by unfold dueL;split<;>rfl
  have d2:∀d∈toldDu f (nowW w f).states w.desk w.classes,inLn (nowW w f).line d.node=true:=fun d hd=>by
   have:=toldDu_ok N d hd
   unfold dueOK at this
   rw[Bool.and_eq_true] at this
   rw[in_node N];exact this.1
  have eq:tellG w f []=enlW {enlW (nowW w f) (dueL f (nowW w f).states w.desk w.classes []) with states:=toldSt f (nowW w f).states w.desk w.classes} (toldDu f (nowW w f).states w.desk w.classes):=rfl
  rw[eq,d0,enl_nil,enl_td (toldDu f (nowW w f).states w.desk w.classes) _ (n:Int) (fun d hd=>by show inLn (nowW w f).line d.node=true;exact d2 d hd) (by show inLn (nowW w f).line n=true;exact hi),filter_no]
  ·show tdAt (nowW w f).line n++ []=[]
   rw[List.append_nil]
   refine tdAt_get rfl ?_
   have ht:=R.tl
   have hl:=R.sl
   show(w.line.todos++List.replicate (f.nodes.length-w.f.nodes.length) [])[n]? =some []
   rw[List.getElem?_append_right (by omega),List.getElem?_replicate,if_pos (by omega)]
  ·intro d hd
   refine decide_eq_false fun hdn=>?_
   unfold toldDu at hd
   split at hd
   ·unfold tDu at hd
    obtain⟨m,_,hm⟩:=List.mem_flatMap.1 hd
    obtain⟨q1,q2⟩:=toldD_node hm
    have hmn:m=n:=by omega
    subst hmn
    rw[sAt_of (now_new R.sl h hx),duty_born] at q2
    cases q2
   ·cases hd
 rw[tdAt_get rfl hg] at e
 rw[hg,e]
theorem more_small {l:List NodeM}(h:SmallN l)(hl:l.length≤63){y:NodeM}(h1:y.kids.length≤60)(h2:y.attrs.length≤60)(h3:y.name.size≤300):SmallN (l++ [y]):=⟨by rw[List.length_append,List.length_singleton];omega,fun x hx=>by
 rcases List.mem_append.1 hx with e|e
 ·exact h.kids x e
 ·rw[List.mem_singleton.1 e];exact h1,fun x hx=>by
 rcases List.mem_append.1 hx with e|e
 ·exact h.attrs x e
 ·rw[List.mem_singleton.1 e];exact h2,fun x hx=>by
 rcases List.mem_append.1 hx with e|e
 ·exact h.name x e
 ·rw[List.mem_singleton.1 e];exact h3⟩
theorem startOK_iff {w:WorldM}{n df:Int}:startOK w n df=true↔ (RightG w∧elemV w.f.nodes n=true)∧defG w df=true∧(stOf w.states n).phase=1:=by
 unfold startOK elemG
 simp only[Bool.and_eq_true,decide_eq_true_eq,rightG_iff,and_assoc]
theorem noRef_world (w:WorldM):noRef (eWorld w)=true:=by
 have h1:=noRef_nodes w.f.nodes
 have h2:noRefL (w.states.map oState)=true:=noRef_states w.states
 have h3:noRefL (w.desk.defs.map oDef)=true:=noRefL_map oDef (fun _=>rfl) _
 have h4:noRefL (w.desk.waits.map oWait)=true:=noRefL_map oWait (fun _=>rfl) _
 have h5:=noRef_todos2 w.line.todos
 have h6:=noRef_stack w.line.stack
 have h7:noRefL (w.line.back.map oInt)=true:=noRefL_map oInt (fun _=>rfl) _
 have h8:=noRef_tasks w.tasks
 have h9:=noRef_builds w.builds
 have h10:=noRef_classes w.classes
 simp[noRef,noRefL,h1,h2,h3,h4,h5,h6,h7,h8,h9,h10]
theorem outs_w (w:WorldM):okOuts [mW w]:=⟨Wide.of_mem fun x hx=>by rw[List.mem_singleton.1 hx];rfl,by simp[noRefL,noRef_world],trivial⟩
theorem gOpen_ok (w:WorldM)(hs:SmallW w)(n:Int):FnOK Tryz.prog 112 [] [eWorld w,eInt n] [mW w] (.tup [.ptr 0 0 0,eBool (elemG w n)]):=by
 have hR:=wRight_ok w hs
 have hlm:(w.f.nodes.map oNode).length=w.f.nodes.length:=List.length_map ..
 obtain⟨g,hg⟩:∃g,elemG w n=g:=⟨_,rfl⟩
 rw[hg]
 unfold elemG elemV thereN at hg
 cases e:rightG w with
 | false=>
   rw[e] at hR hg
   obtain rfl:false=g:=hg
   obtain⟨⟨l,m⟩,st,⟨d1,d2,d3,d4⟩,⟨a,b,c,d⟩,ta,bu,cs⟩:=w
   refine FnOK.startC (rvs:=[.tmp 4,.tmp 5]) G G_good Tryz.func112 rfl Tryz.ntmps112 rfl rfl ?_;with_reducible refine wD ?_
   repeat' (first
  |refine gK ?_|refine aE ?_ ?_
  | (((with_reducible refine kQ 19 ?_);refine CallK.lit [] hR c19 ⟨
   ⟨rfl,rfl,rfl,rfl,rfl,rfl,rfl,rfl,rfl,rfl,rfl,rfl,rfl,rfl,trivial⟩
   ,trivial⟩ rfl rfl ?_)<;>with_reducible refine wK ?_)
  | apply trivial)
   all_goals first|rfl|trivial
 | true=>
   rw[e] at hR hg
   by_cases e1:0≤n
   ·by_cases e2:n< (w.f.nodes.length:Int)
    ·rw[decide_eq_true e1,decide_eq_true e2] at hg
     obtain⟨k,rfl⟩:∃k:Nat,n=k:=⟨n.toNat,by omega⟩
     obtain⟨x,hx⟩:∃x,w.f.nodes[k]? =some x:=⟨_,List.getElem?_eq_getElem (by omega)⟩
     rw[nd_get hx] at hg
     obtain⟨x0,x1,x2,x3,x4,x5,x6,x7,x8,x9⟩:=x
     obtain rfl:decide (x0=1)=g:=by simpa using hg
     clear hg
     obtain⟨⟨l,m⟩,st,⟨d1,d2,d3,d4⟩,⟨a,b,c,d⟩,ta,bu,cs⟩:=w
     simp only at hx hlm e2
     refine FnOK.startC (rvs:=[.tmp 4,.tmp 5]) G G_good Tryz.func112 rfl Tryz.ntmps112 rfl rfl ?_;with_reducible refine wD ?_
     (have fct:=And.intro hlm (And.intro (eq_true e1) ((eq_true e2)));(repeat' (first
  |refine gF ?_|refine aE ?_ ?_
  | ((first
   | ((with_reducible refine kQ 19 ?_);refine CallK.lit [] hR c19 ⟨
     ⟨rfl,rfl,rfl,rfl,rfl,rfl,rfl,rfl,rfl,rfl,rfl,rfl,rfl,rfl,trivial⟩
     ,trivial⟩ rfl rfl ?_)
   |((with_reducible show IdxK _ _ _ _ _);refine IdxK.mk k (eNode ⟨x0,x1,x2,x3,x4,x5,x6,x7,x8,x9⟩) rfl (node_get hx) ?_))<;>with_reducible refine wK ?_)
  | apply trivial));all_goals clear fct)
     all_goals first|rfl|trivial
    ·rw[decide_eq_true e1,decide_eq_false e2] at hg
     obtain rfl:false=g:=hg
     obtain⟨⟨l,m⟩,st,⟨d1,d2,d3,d4⟩,⟨a,b,c,d⟩,ta,bu,cs⟩:=w
     simp only at hlm e2
     refine FnOK.startC (rvs:=[.tmp 4,.tmp 5]) G G_good Tryz.func112 rfl Tryz.ntmps112 rfl rfl ?_;with_reducible refine wD ?_
     (have fct:=And.intro hlm (And.intro (eq_true e1) ((eq_false e2)));(repeat' (first
  |refine gF ?_|refine aE ?_ ?_
  | (((with_reducible refine kQ 19 ?_);refine CallK.lit [] hR c19 ⟨
     ⟨rfl,rfl,rfl,rfl,rfl,rfl,rfl,rfl,rfl,rfl,rfl,rfl,rfl,rfl,trivial⟩
     ,trivial⟩ rfl rfl ?_)<;>with_reducible refine wK ?_)
  | apply trivial));all_goals clear fct)
     all_goals first|rfl|trivial
   ·rw[decide_eq_false e1] at hg
    obtain rfl:false=g:=hg
    obtain⟨⟨l,m⟩,st,⟨d1,d2,d3,d4⟩,⟨a,b,c,d⟩,ta,bu,cs⟩:=w
    refine FnOK.startC (rvs:=[.tmp 4,.tmp 5]) G G_good Tryz.func112 rfl Tryz.ntmps112 rfl rfl ?_;with_reducible refine wD ?_
    (have fct:=(eq_false e1);(repeat' (first
  |refine gF ?_|refine aE ?_ ?_
  | (((with_reducible refine kQ 19 ?_);refine CallK.lit [] hR c19 ⟨
    ⟨rfl,rfl,rfl,rfl,rfl,rfl,rfl,rfl,rfl,rfl,rfl,rfl,rfl,rfl,trivial⟩
    ,trivial⟩ rfl rfl ?_)<;>with_reducible refine wK ?_)
  | apply trivial));all_goals clear fct)
    all_goals first|rfl|trivial
end Go.Proofs.Heir
namespace Go.Proofs.Heir
open Go Go.Am Go.RowKit Go.Lib
set_option maxRecDepth 100000
set_option maxHeartbeats 8000000
set_option maxHeartbeats 16000000
theorem gPut_ok (w:WorldM)(hst:w.states.length≤100000)(k:Nat)(ph df:Int)(hk:k<w.states.length):FnOK Tryz.prog 113 [mW w] [.ptr 0 0 0,eInt k,eInt ph,eInt df] [mW (putG w k ph df)] (.tup []):=by
 have hcl:=f102_ok w.states hst
 obtain⟨⟨s1,s2,s3,s4⟩,hs⟩:∃x,w.states[k]? =some x:=⟨_,List.getElem?_eq_getElem hk⟩
 have hq:putG w k ph df={w with states:=w.states.set k ⟨ph,df,s3,s4⟩}:=by
  unfold putG;rw[stOf_get hs,Int.toNat_natCast];rfl
 rw[hq]
 clear hq
 obtain⟨⟨l,m⟩,st,⟨d1,d2,d3,d4⟩,⟨a,b,c,d⟩,ta,bu,cs⟩:=w
 simp only at hcl hs hk ⊢
 have hlm:(st.map oState).length=st.length:=List.length_map ..
 refine FnOK.startC (rvs:=[]) G G_good Tryz.func113 rfl Tryz.ntmps113 rfl rfl ?_;with_reducible refine wD ?_
 (have fct:=hlm;(repeat' (first
  |refine gF ?_|refine aE ?_ ?_
  | ((first
   |((with_reducible refine kQ 102 ?_);refine CallK.new 141 [] hcl c102 ⟨rfl,trivial⟩ rfl rfl rfl (states_outs _) rfl ?_)
   |((with_reducible show LtK _ _ _ _ _);refine LtK.mk k rfl (by omega) ?_)
   |((with_reducible show ElemK _ _ _ _ _);first|refine ElemK.mk (eState ⟨s1,s2,s3,s4⟩) (by rw[Nat.zero_add];exact state_get hs) ?_|refine ElemK.mk (eState ⟨ph,s2,s3,s4⟩) (by rw[Nat.zero_add,List.getElem?_set_self (by omega)]) ?_))<;>with_reducible refine wK ?_)
  |apply trivial));all_goals clear fct)
 all_goals first
  |rfl
  | (refine frz_states rfl rfl ?_ ?_
     ·simp only[Nat.zero_add,List.set_set,List.map_set];rfl
     ·simp)
theorem gSpoil_ok (w:WorldM)(hs:SmallW w)(R:RightG w)(k:Nat)(hk:k<w.states.length):FnOK Tryz.prog 123 [mW w] [.ptr 0 0 0,eInt k] [mW (spoilG w k)] (.tup []):=by
 have hq:=gPut_ok w (by have:=hs.st;omega) k 4 (-1) hk
 have hd:=lnDrop_ok w.line (hs.l.mono (by omega)) k
 have hi:inLn w.line k=true:=by
  have h1:=R.tl
  have h2:=R.sl
  unfold inLn;simp;omega
 rw[dropW_yes (by rw[R.ln,hi];rfl)] at hd
 have e:spoilG w k={w with states:=(putG w k 4 (-1)).states,line:=lnDrop w.line k}:=rfl
 have e2:putG w k 4 (-1)={w with states:=(putG w k 4 (-1)).states}:=rfl
 rw[e2] at hq
 rw[e]
 clear e e2 R hs hi
 generalize(putG w k 4 (-1)).states=st' at*
 generalize lnDrop w.line k=v at*
 obtain⟨a',b',c',d'⟩:=v
 obtain⟨⟨l,m⟩,st,⟨d1,d2,d3,d4⟩,⟨a,b,c,d⟩,ta,bu,cs⟩:=w
 simp only at hq hd ⊢
 refine FnOK.startC (rvs:=[]) G G_good Tryz.func123 rfl Tryz.ntmps123 rfl rfl ?_;with_reducible refine wD ?_
 repeat' (first
  |refine gK ?_|refine aE ?_ ?_
  | ((first
   | ((with_reducible refine kQ 113 ?_);refine CallK.lend (news:=[mW ⟨⟨l,m⟩,st',⟨d1,d2,d3,d4⟩,⟨a,b,c,d⟩,ta,bu,cs⟩]) [0] [] hq c113 ⟨⟨rfl,rfl⟩,rfl,rfl,rfl,trivial⟩ ⟨⟨rfl,.inr ⟨⟨
    ⟨rfl,rfl,rfl,rfl,rfl,rfl,rfl,rfl,rfl,rfl,rfl,rfl,rfl,rfl,trivial⟩
    ,trivial⟩,rfl⟩⟩,trivial⟩ rfl ⟨⟨rfl,rfl⟩,rfl⟩ rfl ⟨⟨rfl,.inr ⟨rfl,rfl,rfl⟩⟩,trivial⟩ rfl rfl ?_)
   |((with_reducible refine kQ 191 ?_);refine cV hd c191 ?_))<;>with_reducible refine wK ?_)
  |apply trivial)
 all_goals first|rfl|trivial
theorem gDone_ok (w:WorldM)(hs:SmallW w)(hl:SmL 80000 w.line)(ht:w.tasks.length≤80000)(k:Nat)(hk:k<w.states.length):FnOK Tryz.prog 124 [mW w] [.ptr 0 0 0,eInt k] [mW (doneG w k)] (.tup []):=by
 have hq:=gPut_ok w (by have:=hs.st;omega) k 3 (stOf w.states k).df hk
 have hT:=wTell_ok (putG w k 3 (stOf w.states k).df) (put_small hs k 3 _) hl ht w.f hs.f [] (by decide)
 have e:doneG w k=(tellW (putG w k 3 (stOf w.states k).df) w.f []).1:=rfl
 rw[e]
 clear e
 generalize tellW (putG w k 3 (stOf w.states k).df) w.f []=T at*
 obtain⟨v,er⟩:=T
 simp only at hT ⊢
 have e2:putG w k 3 (stOf w.states k).df={w with states:=(putG w k 3 (stOf w.states k).df).states}:=rfl
 rw[e2] at hq hT
 clear e2 hs hl ht
 obtain⟨⟨s1,s2,s3,s4⟩,hg⟩:∃x,w.states[k]? =some x:=⟨_,List.getElem?_eq_getElem hk⟩
 rw[stOf_get hg] at hq hT
 simp only at hq hT
 generalize(putG w k 3 s2).states=sx at*
 obtain⟨⟨l',m'⟩,st',⟨d1',d2',d3',d4'⟩,⟨a',b',c',d'⟩,ta',bu',cs'⟩:=v
 obtain⟨⟨l,m⟩,st,⟨d1,d2,d3,d4⟩,⟨a,b,c,d⟩,ta,bu,cs⟩:=w
 simp only at hq hT hg hk ⊢
 refine FnOK.startC (rvs:=[]) G G_good Tryz.func124 rfl Tryz.ntmps124 rfl rfl ?_;with_reducible refine wD ?_
 repeat' (first
  |refine gK ?_|refine aE ?_ ?_
  | ((first
   |((with_reducible show IdxK _ _ _ _ _);refine IdxK.mk k (eState ⟨s1,s2,s3,s4⟩) rfl (state_get hg) ?_)
   | ((with_reducible refine kQ 113 ?_);refine CallK.lend (news:=[mW ⟨⟨l,m⟩,sx,⟨d1,d2,d3,d4⟩,⟨a,b,c,d⟩,ta,bu,cs⟩]) [0] [] hq c113 ⟨⟨rfl,rfl⟩,rfl,rfl,rfl,trivial⟩ ⟨⟨rfl,.inr ⟨⟨
    ⟨rfl,rfl,rfl,rfl,rfl,rfl,rfl,rfl,rfl,rfl,rfl,rfl,rfl,rfl,trivial⟩
    ,trivial⟩,rfl⟩⟩,trivial⟩ rfl ⟨⟨rfl,rfl⟩,rfl⟩ rfl ⟨⟨rfl,.inr ⟨rfl,rfl,rfl⟩⟩,trivial⟩ rfl rfl ?_)
   |((with_reducible refine kQ 33 ?_);refine CallK.val [] hT c33 ⟨
   ⟨rfl,rfl,rfl,rfl,rfl,rfl,rfl,rfl,rfl,rfl,rfl,rfl,rfl,rfl,trivial⟩
   ,⟨rfl,rfl,trivial⟩,.inr (.inr ⟨_,rfl⟩),trivial⟩ rfl rfl rfl ?_))<;>with_reducible refine wK ?_)
  |apply trivial)
 all_goals first|rfl|trivial
theorem elemG_iff {w:WorldM}{n:Int}:elemG w n=true↔RightG w∧elemV w.f.nodes n=true:=by
 unfold elemG;rw[Bool.and_eq_true,rightG_iff]
theorem elem_st {w:WorldM}(R:RightG w){n:Int}(h:elemV w.f.nodes n=true):∃ (k:Nat) (x:NodeM) (s:StateM),n=k∧w.f.nodes[k]? =some x∧x.kind=1∧w.states[k]? =some s∧k<w.states.length∧stOf w.states n=s:=by
 obtain⟨k,x,rfl,hx,_,hk⟩:=elem_get h
 have h1:=(List.getElem?_eq_some_iff.1 hx).1
 have h2:=R.sl
 have hs:w.states[k]? =some w.states[k]:=List.getElem?_eq_getElem (by omega)
 exact⟨k,x,_,rfl,hx,hk,hs,by omega,stOf_get hs⟩
theorem gBreak_ok (w:WorldM)(hs:SmallW w)(n:Int):FnOK Tryz.prog 54 [] [eWorld w,eInt n] [] (.tup [eWorld (breakW w n).1,eInt (breakW w n).2]):=by
 have ho:=gOpen_ok w hs n
 cases e:elemG w n with
 | false=>
   rw[e] at ho
   have hb:breakW w n=(w,1):=by unfold breakW;rw[e];rfl
   rw[hb]
   clear hs hb e
   obtain⟨⟨l,m⟩,st,⟨d1,d2,d3,d4⟩,⟨a,b,c,d⟩,ta,bu,cs⟩:=w
   refine FnOK.startC (rvs:=[.cell 4 39,.tmp 5]) G G_good Tryz.func54 rfl Tryz.ntmps54 rfl rfl ?_;with_reducible refine wD ?_
   repeat' (first
  |refine gK ?_|refine aE ?_ ?_
  | (((with_reducible refine kQ 112 ?_);refine CallK.new 110 [] ho c112 ⟨
   ⟨rfl,rfl,rfl,rfl,rfl,rfl,rfl,rfl,rfl,rfl,rfl,rfl,rfl,rfl,trivial⟩
   ,rfl,trivial⟩ rfl rfl rfl (outs_w _) rfl ?_)<;>with_reducible refine wK ?_)
  | apply trivial)
   all_goals first|rfl|trivial
 | true=>
   rw[e] at ho
   obtain⟨R,he⟩:=elemG_iff.1 e
   obtain⟨k,x,⟨s1,s2,s3,s4⟩,rfl,_,_,hg,hk,hst⟩:=elem_st R he
   by_cases e3:s1=3
   ·have hb:breakW w k=(w,1):=by unfold breakW;rw[e,hst,decide_eq_true (show(StateM.mk s1 s2 s3 s4).phase=3 from e3)];rfl
    rw[hb]
    clear hs hb e R he hst
    obtain⟨⟨l,m⟩,st,⟨d1,d2,d3,d4⟩,⟨a,b,c,d⟩,ta,bu,cs⟩:=w
    simp only at hg
    refine FnOK.startC (rvs:=[.cell 4 39,.tmp 5]) G G_good Tryz.func54 rfl Tryz.ntmps54 rfl rfl ?_;with_reducible refine wD ?_
    (have fct:=e3;(repeat' (first
  |refine gF ?_|refine aE ?_ ?_
  | ((first
   | ((with_reducible refine kQ 112 ?_);refine CallK.new 110 [] ho c112 ⟨
    ⟨rfl,rfl,rfl,rfl,rfl,rfl,rfl,rfl,rfl,rfl,rfl,rfl,rfl,rfl,trivial⟩
    ,rfl,trivial⟩ rfl rfl rfl (outs_w _) rfl ?_)
   |((with_reducible show IdxK _ _ _ _ _);refine IdxK.mk k (eState ⟨s1,s2,s3,s4⟩) rfl (state_get hg) ?_))<;>with_reducible refine wK ?_)
  | apply trivial));all_goals clear fct)
    all_goals first|rfl|trivial
   ·have hb:breakW w k=(spoilG w k,0):=by unfold breakW;rw[e,hst,decide_eq_false (show ¬ (StateM.mk s1 s2 s3 s4).phase=3 from e3)];rfl
    have hq:=gSpoil_ok w hs R k hk
    rw[hb]
    clear hs hb e R he hst
    generalize spoilG w k=v at*
    obtain⟨⟨l',m'⟩,st',⟨d1',d2',d3',d4'⟩,⟨a',b',c',d'⟩,ta',bu',cs'⟩:=v
    obtain⟨⟨l,m⟩,st,⟨d1,d2,d3,d4⟩,⟨a,b,c,d⟩,ta,bu,cs⟩:=w
    simp only at hg
    refine FnOK.startC (rvs:=[.cell 4 39,.tmp 5]) G G_good Tryz.func54 rfl Tryz.ntmps54 rfl rfl ?_;with_reducible refine wD ?_
    (have fct:=(eq_false e3);(repeat' (first
  |refine gF ?_|refine aE ?_ ?_
  | ((first
   | ((with_reducible refine kQ 112 ?_);refine CallK.new 110 [] ho c112 ⟨
    ⟨rfl,rfl,rfl,rfl,rfl,rfl,rfl,rfl,rfl,rfl,rfl,rfl,rfl,rfl,trivial⟩
    ,rfl,trivial⟩ rfl rfl rfl (outs_w _) rfl ?_)
   |((with_reducible show IdxK _ _ _ _ _);refine IdxK.mk k (eState ⟨s1,s2,s3,s4⟩) rfl (state_get hg) ?_)
   | ((with_reducible refine kQ 123 ?_);refine CallK.lend (news:=[mW ⟨⟨l',m'⟩,st',⟨d1',d2',d3',d4'⟩,⟨a',b',c',d'⟩,ta',bu',cs'⟩]) [110] [] hq c123 ⟨⟨rfl,rfl⟩,rfl,trivial⟩ ⟨⟨rfl,.inr ⟨⟨
     ⟨rfl,rfl,rfl,rfl,rfl,rfl,rfl,rfl,rfl,rfl,rfl,rfl,rfl,rfl,trivial⟩
     ,trivial⟩,rfl⟩⟩,trivial⟩ rfl ⟨⟨rfl,rfl⟩,rfl⟩ rfl ⟨⟨rfl,.inr ⟨rfl,rfl,rfl⟩⟩,trivial⟩ rfl rfl ?_))<;>with_reducible refine wK ?_)
  | apply trivial));all_goals clear fct)
    all_goals first|rfl|trivial
end Go.Proofs.Heir
namespace Go.Proofs.Heir
open Go Go.Am Go.RowKit Go.Lib
set_option maxRecDepth 100000
set_option maxHeartbeats 8000000
set_option maxHeartbeats 32000000
theorem startW_no {w:WorldM}{n df:Int}(h:startOK w n df=false):startW w n df=(w,false):=by unfold startW;rw[h];rfl
theorem enlist_builds (w:WorldM)(due:List DueN):(enlistW w due).1.builds=w.builds:=by
 unfold enlistW
 split
 ·exact enl_builds ..
 ·rfl
theorem gStart_ok (w:WorldM)(hs:SmallW w)(n df:Int):FnOK Tryz.prog 47 [] [eWorld w,eInt n,eInt df] [] (.tup [eWorld (startW w n df).1,eBool (startW w n df).2]):=by
 have ho:=gOpen_ok w hs n
 have hdm:(w.desk.defs.map oDef).length=w.desk.defs.length:=List.length_map ..
 cases e:elemG w n with
 | false=>
   rw[e] at ho
   rw[startW_no (by unfold startOK;rw[e];rfl)]
   clear hs e
   obtain⟨⟨l,m⟩,st,⟨d1,d2,d3,d4⟩,⟨a,b,c,d⟩,ta,bu,cs⟩:=w
   refine FnOK.startC (rvs:=[.cell 6 39,.tmp 7]) G G_good Tryz.func47 rfl Tryz.ntmps47 rfl rfl ?_;with_reducible refine wD ?_
   repeat' (first
  |refine gK ?_|refine aE ?_ ?_
  | (((with_reducible refine kQ 112 ?_);refine CallK.new 130 [] ho c112 ⟨
      ⟨rfl,rfl,rfl,rfl,rfl,rfl,rfl,rfl,rfl,rfl,rfl,rfl,rfl,rfl,trivial⟩
      ,rfl,trivial⟩ rfl rfl rfl (outs_w _) rfl ?_)<;>with_reducible refine wK ?_)
  | apply trivial)
   all_goals first|rfl|trivial
 | true =>
   rw[e] at ho
   obtain⟨R,he⟩:=elemG_iff.1 e
   obtain⟨k,x,⟨s1,s2,s3,s4⟩,rfl,_,_,hg,hk,hst⟩:=elem_st R he
   by_cases e1:0≤df
   ·by_cases e2:df< (w.desk.defs.length:Int)
    ·by_cases e3:s1=1
     ·have hok:startOK w k df=true:=startOK_iff.2 ⟨⟨R,he⟩,by unfold defG;rw[decide_eq_true e1,decide_eq_true e2];rfl,by rw[hst];exact e3⟩
      have hw:startW w k df=(startG w k df,true):=by unfold startW;rw[if_pos hok]
      rw[hw]
      have e9:startG w k df={ (enlistW (putG w k 2 df) (firstL w.f (putG w k 2 df).states w.desk w.classes k)).1 with builds:=(enlistW (putG w k 2 df) (firstL w.f (putG w k 2 df).states w.desk w.classes k)).1.builds++ [⟨df,k⟩]}:=rfl
      rw[e9]
      have hq:=gPut_ok w (by have:=hs.st;omega) k 2 df hk
      have hF:=f49_ok w.f hs.f (putG w k 2 df).states w.desk hs.d w.classes hs.cs k
      have hE:=wEnlist_ok (putG w k 2 df) (put_small hs k 2 df) (firstL w.f (putG w k 2 df).states w.desk w.classes k) (by have:=first_len hs.f (putG w k 2 df).states w.desk w.classes k;omega)
      have hB:=enlist_builds (putG w k 2 df) (firstL w.f (putG w k 2 df).states w.desk w.classes k)
      have hbl:(putG w k 2 df).builds.length≤90000:=hs.bu
      rw[←hB] at hbl
      have e8:putG w k 2 df={w with states:=(putG w k 2 df).states}:=rfl
      generalize enlistW (putG w k 2 df) (firstL w.f (putG w k 2 df).states w.desk w.classes k)=E at*
      generalize firstL w.f (putG w k 2 df).states w.desk w.classes k=D at*
      rw[e8] at hq hE
      clear hs e R he hst hok hw e9 e8 hB
      generalize(putG w k 2 df).states=sx at*
      obtain⟨v,er⟩:=E
      simp only at hE hbl
      have hcl:=clbuilds_ok v.builds (by omega)
      obtain⟨⟨l',m'⟩,st',⟨d1',d2',d3',d4'⟩,⟨a',b',c',d'⟩,ta',bu',cs'⟩:=v
      obtain⟨⟨l,m⟩,st,⟨d1,d2,d3,d4⟩,⟨a,b,c,d⟩,ta,bu,cs⟩:=w
      simp only at hdm hg e2 hq hF hE hcl hbl ⊢
      have hbm:(bu'.map oBuild).length=bu'.length:=List.length_map ..
      refine FnOK.startC (rvs:=[.cell 6 39,.tmp 7]) G G_good Tryz.func47 rfl Tryz.ntmps47 rfl rfl ?_;with_reducible refine wD ?_
      (have fct:=And.intro hdm (And.intro (eq_true e1) (And.intro (eq_true e2) (e3)));(repeat' (first
  |refine gF ?_|refine aE ?_ ?_
  | ((first
   |((with_reducible refine kQ 112 ?_);refine CallK.new 130 [] ho c112 ⟨
         ⟨rfl,rfl,rfl,rfl,rfl,rfl,rfl,rfl,rfl,rfl,rfl,rfl,rfl,rfl,trivial⟩
         ,rfl,trivial⟩ rfl rfl rfl (outs_w _) rfl ?_)
   |((with_reducible show IdxK _ _ _ _ _);refine IdxK.mk k (eState ⟨s1,s2,s3,s4⟩) rfl (state_get hg) ?_)
   | ((with_reducible refine kQ 113 ?_);refine CallK.lend (news:=[mW ⟨⟨l,m⟩,sx,⟨d1,d2,d3,d4⟩,⟨a,b,c,d⟩,ta,bu,cs⟩]) [130] [] hq c113 ⟨⟨rfl,rfl⟩,rfl,rfl,rfl,trivial⟩
       ⟨⟨rfl,.inr ⟨⟨
            ⟨rfl,rfl,rfl,rfl,rfl,rfl,rfl,rfl,rfl,rfl,rfl,rfl,rfl,rfl,trivial⟩
            ,trivial⟩,rfl⟩⟩,trivial⟩ rfl ⟨⟨rfl,rfl⟩,rfl⟩ rfl ⟨⟨rfl,.inr ⟨rfl,rfl,rfl⟩⟩,trivial⟩ rfl rfl ?_))<;>with_reducible refine wK ?_)
  |apply trivial));all_goals clear fct)
      repeat' (first
  |refine gK ?_|refine aE ?_ ?_
  | ((first
   |((with_reducible refine kQ 49 ?_);refine cV hF c49 ?_)
   | ((with_reducible refine kQ 31 ?_);refine CallK.val [] hE c31 ⟨
       ⟨rfl,rfl,rfl,rfl,rfl,rfl,rfl,rfl,rfl,rfl,rfl,rfl,rfl,rfl,trivial⟩
       ,rfl,trivial⟩ rfl rfl rfl ?_)
   |((with_reducible refine kQ 114 ?_);refine CallK.new 831 [] hcl c114 ⟨rfl,trivial⟩ rfl rfl rfl (outs_builds _) rfl ?_)
   |((with_reducible show AppK _ _ _ _ _ _ _ _ _ _);refine AppK.mk (bu'.map oBuild) [eBuild ⟨df,k⟩] ⟨rfl,hbm.symm,rfl⟩ ⟨rfl,rfl,rfl⟩ rfl (by simp;omega) (by simp;omega) ?_))<;>with_reducible refine wK ?_)
  |apply  trivial)
      all_goals first
       |rfl
       | (refine frz_builds rfl rfl ?_ ?_
          ·rw[List.map_append];rfl
          ·simp)
       |trivial
     ·rw[startW_no (by rw[Bool.eq_false_iff];intro h;have:=(startOK_iff.1 h).2.2;rw[hst] at this;exact e3 this)]
      clear hs e R he hst
      obtain⟨⟨l,m⟩,st,⟨d1,d2,d3,d4⟩,⟨a,b,c,d⟩,ta,bu,cs⟩:=w
      simp only at hdm hg e2
      refine FnOK.startC (rvs:=[.cell 6 39,.tmp 7]) G G_good Tryz.func47 rfl Tryz.ntmps47 rfl rfl ?_;with_reducible refine wD ?_
      (have fct:=And.intro hdm (And.intro (eq_true e1) (And.intro (eq_true e2) ((eq_false e3))));(repeat' (first
  |refine gF ?_|refine aE ?_ ?_
  | ((first
   |((with_reducible refine kQ 112 ?_);refine CallK.new 130 [] ho c112 ⟨
         ⟨rfl,rfl,rfl,rfl,rfl,rfl,rfl,rfl,rfl,rfl,rfl,rfl,rfl,rfl,trivial⟩
         ,rfl,trivial⟩ rfl rfl rfl (outs_w _) rfl ?_)
   |((with_reducible show IdxK _ _ _ _ _);refine IdxK.mk k (eState ⟨s1,s2,s3,s4⟩) rfl (state_get hg) ?_))<;>with_reducible refine wK ?_)
  | apply trivial));all_goals clear fct)
      all_goals first|rfl|trivial
    ·rw[startW_no (by rw[Bool.eq_false_iff];intro h;have:=(startOK_iff.1 h).2.1;unfold defG at this;simp at this;omega)]
     clear hs e R he hst
     obtain⟨⟨l,m⟩,st,⟨d1,d2,d3,d4⟩,⟨a,b,c,d⟩,ta,bu,cs⟩:=w
     simp only at hdm e2
     refine FnOK.startC (rvs:=[.cell 6 39,.tmp 7]) G G_good Tryz.func47 rfl Tryz.ntmps47 rfl rfl ?_;with_reducible refine wD ?_
     (have fct:=And.intro hdm (And.intro (eq_true e1) ((eq_false e2)));(repeat' (first
  |refine gF ?_|refine aE ?_ ?_
  |(((with_reducible refine kQ 112 ?_);refine CallK.new 130 [] ho c112 ⟨
        ⟨rfl,rfl,rfl,rfl,rfl,rfl,rfl,rfl,rfl,rfl,rfl,rfl,rfl,rfl,trivial⟩
        ,rfl,trivial⟩ rfl rfl rfl (outs_w _) rfl ?_)<;>with_reducible refine wK ?_)
  | apply trivial));all_goals clear fct)
     all_goals first|rfl|trivial
   ·rw[startW_no (by rw[Bool.eq_false_iff];intro h;have:=(startOK_iff.1 h).2.1;unfold defG at this;simp at this;omega)]
    clear hs e R he hst
    obtain⟨⟨l,m⟩,st,⟨d1,d2,d3,d4⟩,⟨a,b,c,d⟩,ta,bu,cs⟩:=w
    refine FnOK.startC (rvs:=[.cell 6 39,.tmp 7]) G G_good Tryz.func47 rfl Tryz.ntmps47 rfl rfl ?_;with_reducible refine wD ?_
    (have fct:=(eq_false e1);(repeat' (first
  |refine gF ?_|refine aE ?_ ?_
  | (((with_reducible refine kQ 112 ?_);refine CallK.new 130 [] ho c112 ⟨
       ⟨rfl,rfl,rfl,rfl,rfl,rfl,rfl,rfl,rfl,rfl,rfl,rfl,rfl,rfl,trivial⟩
       ,rfl,trivial⟩ rfl rfl rfl (outs_w _) rfl ?_)<;>with_reducible refine wK ?_)
  | apply trivial));all_goals clear fct)
    all_goals first|rfl|trivial
theorem fit_no {w:WorldM}{n:Int}{s:ByteArray}{doc:Int}{k:Nat}{x:NodeM}(hr:rightG w=true)(hn:n=k)(hx:w.f.nodes[k]? =some x):fitW w n s doc=if fitN x s doc=true then 0 else 5:=by
 subst hn
 unfold fitW
 rw[hr,there_get hx,nd_get hx];rfl
theorem gFit_ok (w:WorldM)(hs:SmallW w)(n:Int)(s:ByteArray)(doc:Int):FnOK Tryz.prog 56 [] [eWorld w,eInt n,eStr s,eInt doc] [] (eInt (fitW w n s doc)):=by
 have hR:=wRight_ok w hs
 have hlm:(w.f.nodes.map oNode).length=w.f.nodes.length:=List.length_map ..
 cases e:rightG w with
 | false=>
   rw[e] at hR
   have hf:fitW w n s doc=1:=by unfold fitW;rw[e];rfl
   rw[hf]
   clear hs e hf
   obtain⟨⟨l,m⟩,st,⟨d1,d2,d3,d4⟩,⟨a,b,c,d⟩,ta,bu,cs⟩:=w
   refine FnOK.startC (rvs:=[.tmp 8]) G G_good Tryz.func56 rfl Tryz.ntmps56 rfl rfl ?_;with_reducible refine wD ?_
   repeat' (first
  |refine gK ?_|refine aE ?_ ?_
  | (((with_reducible refine kQ 19 ?_);refine CallK.lit [] hR c19 ⟨
   ⟨rfl,rfl,rfl,rfl,rfl,rfl,rfl,rfl,rfl,rfl,rfl,rfl,rfl,rfl,trivial⟩
   ,trivial⟩ rfl rfl ?_)<;>with_reducible refine wK ?_)
  |apply trivial)
 | true =>
   rw[e] at hR
   by_cases e1:0≤n
   ·by_cases e2:n< (w.f.nodes.length:Int)
    ·obtain⟨k,rfl⟩:∃k:Nat,n=k:=⟨n.toNat,by omega⟩
     obtain⟨x,hx⟩:∃x,w.f.nodes[k]? =some x:=⟨_,List.getElem?_eq_getElem (by omega)⟩
     rw[fit_no e rfl hx]
     obtain⟨g,hg⟩:∃g,fitN x s doc=g:=⟨_,rfl⟩
     rw[hg]
     unfold fitN at hg
     obtain⟨x0,x1,x2,x3,x4,x5,x6,x7,x8,x9⟩:=x
     simp only at hg
     have h4:(x4.map oAttr).length=x4.length:=List.length_map ..
     have h6:(x6.map oInt).length=x6.length:=List.length_map ..
     have k4:decide (x4.length=0)=!decide ((0:Int)< (x4.length:Int)):=by
      by_cases q:x4.length=0
      ·rw[decide_eq_true q,decide_eq_false (by omega)];rfl
      ·rw[decide_eq_false q,decide_eq_true (by omega)];rfl
     have k6:decide (x6.length=0)=!decide ((0:Int)< (x6.length:Int)):=by
      by_cases q:x6.length=0
      ·rw[decide_eq_true q,decide_eq_false (by omega)];rfl
      ·rw[decide_eq_false q,decide_eq_true (by omega)];rfl
     rw[k4,k6] at hg
     clear hs e k4 k6
     obtain⟨⟨l,m⟩,st,⟨d1,d2,d3,d4⟩,⟨a,b,c,d⟩,ta,bu,cs⟩:=w
     simp only at hx hlm e2
     refine FnOK.startC (rvs:=[.tmp 8]) G G_good Tryz.func56 rfl Tryz.ntmps56 rfl rfl ?_;with_reducible refine wD ?_
     (have fct:=And.intro hlm (And.intro h4 (And.intro h6 (And.intro (eq_true e1) ((eq_true e2)))));(repeat' (first
  |refine gF ?_|refine aE ?_ ?_
  | ((first
   | ((with_reducible refine kQ 19 ?_);refine CallK.lit [] hR c19 ⟨
     ⟨rfl,rfl,rfl,rfl,rfl,rfl,rfl,rfl,rfl,rfl,rfl,rfl,rfl,rfl,trivial⟩
     ,trivial⟩ rfl rfl ?_)
   |((with_reducible show IdxK _ _ _ _ _);refine IdxK.mk k (eNode ⟨x0,x1,x2,x3,x4,x5,x6,x7,x8,x9⟩) rfl (node_get hx) ?_))<;>with_reducible refine wK ?_)
  |apply  trivial));all_goals clear fct)
     by_cases c1:x0=1
     ·by_cases c2:x1=s
      ·by_cases c3:x9=doc
       ·by_cases c4:(0:Int)< (x4.length:Int)
        ·obtain rfl:false=g:=by rw[←hg,decide_eq_true c4];simp
         have g4:decide ((0:Int)< ((x4.map oAttr).length:Int))=true:=decide_eq_true (by omega)
         (have fct:=And.intro h4 (And.intro h6 (And.intro (eq_true c1) (And.intro (eq_true c2) (And.intro (eq_true c3) ((eq_true c4))))));(repeat' (first
  |refine gF ?_|refine aE ?_ ?_
  |apply  trivial));all_goals clear fct)
         all_goals first|rfl|(simp;done)
        ·have g4:decide ((0:Int)< ((x4.map oAttr).length:Int))=false:=decide_eq_false (by omega)
         by_cases c5:(0:Int)< (x6.length:Int)
         ·have g5:decide ((0:Int)< ((x6.map oInt).length:Int))=true:=decide_eq_true (by omega)
          obtain rfl:false=g:=by rw[←hg,decide_eq_true c5];simp
          (have fct:=And.intro h4 (And.intro h6 (And.intro (eq_true c1) (And.intro (eq_true c2) (And.intro (eq_true c3) (And.intro (eq_false c4) ((eq_true c5)))))));(repeat' (first
  |refine gF ?_|refine aE ?_ ?_
  |apply  trivial));all_goals clear fct)
          all_goals first|rfl|(simp;done)
         ·have g5:decide ((0:Int)< ((x6.map oInt).length:Int))=false:=decide_eq_false (by omega)
          by_cases c6:x5=-1
          ·obtain rfl:true=g:=by rw[←hg,decide_eq_true c1,decide_eq_true c2,decide_eq_true c3,decide_eq_false c4,decide_eq_false c5,decide_eq_true c6];rfl
           (have fct:=And.intro h4 (And.intro h6 (And.intro (eq_true c1) (And.intro (eq_true c2) (And.intro (eq_true c3) (And.intro (eq_false c4) (And.intro (eq_false c5) ((eq_true c6))))))));(repeat' (first
  |refine gF ?_|refine aE ?_ ?_
  |apply  trivial));all_goals clear fct)
           all_goals first|rfl|(simp;done)
          ·obtain rfl:false=g:=by rw[←hg,decide_eq_false c6];simp
           (have fct:=And.intro h4 (And.intro h6 (And.intro (eq_true c1) (And.intro (eq_true c2) (And.intro (eq_true c3) (And.intro (eq_false c4) (And.intro (eq_false c5) ((eq_false c6))))))));(repeat' (first
  |refine gF ?_|refine aE ?_ ?_
  |apply trivial));all_goals clear fct)
           all_goals first|rfl|(simp;done)
       ·obtain rfl:false=g:=by rw[←hg,decide_eq_false c3];simp
        (have fct:=And.intro (eq_true c1) (And.intro (eq_true c2) ((eq_false c3)));(repeat' (first
  |refine gF ?_|refine aE ?_ ?_
  |apply trivial));all_goals clear fct)
        all_goals first|rfl|(simp;done)
      ·obtain rfl:false=g:=by rw[←hg,decide_eq_false c2];simp
       (have fct:=And.intro (eq_true c1) ((eq_false c2));(repeat' (first
  |refine gF ?_|refine aE ?_ ?_
  |apply trivial));all_goals clear fct)
       all_goals first|rfl|(simp;done)
     ·obtain rfl:false=g:=by rw[←hg,decide_eq_false c1];simp
      (have fct:=(eq_false c1);(repeat' (first
  |refine gF ?_|refine aE ?_ ?_
  | apply trivial));all_goals clear fct)
      all_goals first|rfl|(simp;done)
    ·have hf:fitW w n s doc=1:=by unfold fitW thereN;rw[decide_eq_false e2,Bool.and_false,Bool.and_false];rfl
     rw[hf]
     clear hs e hf
     obtain⟨⟨l,m⟩,st,⟨d1,d2,d3,d4⟩,⟨a,b,c,d⟩,ta,bu,cs⟩:=w
     simp only at hlm e2
     refine FnOK.startC (rvs:=[.tmp 8]) G G_good Tryz.func56 rfl Tryz.ntmps56 rfl rfl ?_;with_reducible refine wD ?_
     (have fct:=And.intro hlm (And.intro (eq_true e1) ((eq_false e2)));(repeat' (first
  |refine gF ?_|refine aE ?_ ?_
  | (((with_reducible refine kQ 19 ?_);refine CallK.lit [] hR c19 ⟨
     ⟨rfl,rfl,rfl,rfl,rfl,rfl,rfl,rfl,rfl,rfl,rfl,rfl,rfl,rfl,trivial⟩
     ,trivial⟩ rfl rfl ?_)<;>with_reducible refine wK ?_)
  | apply trivial));all_goals clear fct)
   ·have hf:fitW w n s doc=1:=by unfold fitW thereN;rw[decide_eq_false e1,Bool.false_and,Bool.and_false];rfl
    rw[hf]
    clear hs e hf
    obtain⟨⟨l,m⟩,st,⟨d1,d2,d3,d4⟩,⟨a,b,c,d⟩,ta,bu,cs⟩:=w
    refine FnOK.startC (rvs:=[.tmp 8]) G G_good Tryz.func56 rfl Tryz.ntmps56 rfl rfl ?_;with_reducible refine wD ?_
    (have fct:=(eq_false e1);(repeat' (first
  |refine gF ?_|refine aE ?_ ?_
  | (((with_reducible refine kQ 19 ?_);refine CallK.lit [] hR c19 ⟨
    ⟨rfl,rfl,rfl,rfl,rfl,rfl,rfl,rfl,rfl,rfl,rfl,rfl,rfl,rfl,trivial⟩
    ,trivial⟩ rfl rfl ?_)<;>with_reducible refine wK ?_)
  |apply trivial));all_goals clear fct)
theorem make_small {f:ForM}(h:SmallN f.nodes)(hl:f.nodes.length≤63){s is:ByteArray}{doc:Int}(hz:(lowS s).size≤300):SmallN (makeF f (bearN s is doc)).1.nodes:=by
 unfold makeF
 split
 ·split
  ·exact h
  ·exact more_small h hl (y:=madeN f (bearN s is doc)) (Nat.zero_le _) (Nat.zero_le _) hz
 ·exact h
theorem gBear_ok (w:WorldM)(hs:SmallW w)(h63:w.f.nodes.length≤63)(hl:SmL 80000 w.line)(ht:w.tasks.length≤80000)(s is:ByteArray)(hz:(lowS s).size≤300)(doc:Int):
  FnOK Tryz.prog 55 [] [eWorld w,eStr s,eStr is,eInt doc] [] (.tup [eWorld (bearW w s is doc).1,eInt (bearW w s is doc).2.1,eInt (bearW w s is doc).2.2]):=by
 have hR:=wRight_ok w hs
 have h81:=f81_ok s
 have h41:=f41_ok ⟨#[]⟩ is
 have h109:=f109_ok is
 have hlm:(w.f.nodes.map oNode).length=w.f.nodes.length:=List.length_map ..
 cases e:rightG w with
 | false=>
   rw[e] at hR
   have hb:bearW w s is doc=(w,-1,1):=by unfold bearW;rw[e];rfl
   rw[hb]
   clear hs e hb hl ht h63
   obtain⟨⟨l,m⟩,st,⟨d1,d2,d3,d4⟩,⟨a,b,c,d⟩,ta,bu,cs⟩:=w
   refine FnOK.startC (rvs:=[.cell 8 39,.tmp 9,.tmp 10]) G G_good Tryz.func55 rfl Tryz.ntmps55 rfl rfl ?_;with_reducible refine wD ?_
   repeat' (first
  |refine gK ?_|refine aE ?_ ?_
  | ((first
   |((with_reducible refine kQ 81 ?_);refine cV h81 c81 ?_)
   | ((with_reducible refine kQ 19 ?_);refine CallK.lit [] hR c19 ⟨
       ⟨rfl,rfl,rfl,rfl,rfl,rfl,rfl,rfl,rfl,rfl,rfl,rfl,rfl,rfl,trivial⟩
       ,trivial⟩ rfl rfl ?_))<;>with_reducible refine wK ?_)
  | apply trivial)
   all_goals first|rfl|trivial
 | true =>
   rw[e] at hR
   by_cases e1:0≤doc
   ·by_cases e2:doc< (w.f.nodes.length:Int)
    ·obtain⟨k,rfl⟩:∃k:Nat,doc=k:=⟨doc.toNat,by omega⟩
     obtain⟨x,hx⟩:∃x,w.f.nodes[k]? =some x:=⟨_,List.getElem?_eq_getElem (by omega)⟩
     have hb0:bearW w s is k=if x.kind=0 then(if bearOK s is=true then(if(makeF w.f (bearN s is k)).2.2=0 then((tellW w (makeF w.f (bearN s is k)).1 []).1,(makeF w.f (bearN s is k)).2.1,(tellW w (makeF w.f (bearN s is k)).1 []).2) else(w,-1,(makeF w.f (bearN s is k)).2.2)) else(w,-1,4)) else(w,-1,5):=by
      unfold bearW;rw[e,there_get hx,nd_get hx];rfl
     rw[hb0]
     clear hb0
     obtain⟨x0,x1,x2,x3,x4,x5,x6,x7,x8,x9⟩:=x
     simp only
     by_cases e3:x0=0
     ·rw [if_pos e3]
      obtain⟨bo,hbo⟩:∃bo,bornM ⟨#[]⟩ is=bo:=⟨_,rfl⟩
      obtain⟨cu,hcu⟩:∃cu,customS is=cu:=⟨_,rfl⟩
      obtain⟨rs,hrs⟩:∃rs,rightS s=rs:=⟨_,rfl⟩
      have hbo0:bearOK s is=(rs&& !(decide (bo=1)&& !cu)):=by unfold bearOK;rw[hbo,hcu,hrs]
      rw[hbo] at h41
      rw[hcu] at h109
      rw[hrs] at h81
      have hM:=fMake_ok w.f hs.f (bearN s is k) (Nat.zero_le _) rfl
      have hMs:=make_small hs.f h63 (is:=is) (doc:=k) hz
      have hT:=wTell_ok w hs hl ht (makeF w.f (bearN s is k)).1 hMs [] (by decide)
      clear hMs hbo hcu hrs
      unfold bearN at hM
      cases rs with
      | false=>
        rw[if_neg (by rw[hbo0];simp)]
        clear hs e hl ht h63 hM hT hbo0
        obtain⟨⟨l,m⟩,st,⟨d1,d2,d3,d4⟩,⟨a,b,c,d⟩,ta,bu,cs⟩:=w
        simp only at hx hlm e2
        refine FnOK.startC (rvs:=[.cell 8 39,.tmp 9,.tmp 10]) G G_good Tryz.func55 rfl Tryz.ntmps55 rfl rfl ?_;with_reducible refine wD ?_
        (have fct:=And.intro hlm (And.intro (eq_true e1) (And.intro (eq_true e2) (e3)));(repeat' (first
  |refine gF ?_|refine aE ?_ ?_
  | ((first
   |((with_reducible refine kQ 81 ?_);refine cV h81 c81 ?_)
   |((with_reducible refine kQ 19 ?_);refine CallK.lit [] hR c19 ⟨
           ⟨rfl,rfl,rfl,rfl,rfl,rfl,rfl,rfl,rfl,rfl,rfl,rfl,rfl,rfl,trivial⟩
           ,trivial⟩ rfl rfl ?_)
   |((with_reducible show IdxK _ _ _ _ _);refine IdxK.mk k (eNode ⟨x0,x1,x2,x3,x4,x5,x6,x7,x8,x9⟩) rfl (node_get hx) ?_)
   |((with_reducible refine kQ 41 ?_);refine cL h41 c41 ?_)
   |((with_reducible refine kQ 109 ?_);refine cL h109 c109 ?_))<;>with_reducible refine wK ?_)
  |apply  trivial));all_goals clear fct)
        all_goals first|rfl|trivial
      | true=>
        by_cases hok:(decide (bo=1)&& !cu)=true
        ·rw[if_neg (by rw[hbo0,hok];simp)]
         obtain⟨hk1,hk2⟩:bo=1∧cu=false:=by simpa using hok
         subst hk2
         clear hs e hl ht h63 hM hT hbo0 hok
         obtain⟨⟨l,m⟩,st,⟨d1,d2,d3,d4⟩,⟨a,b,c,d⟩,ta,bu,cs⟩:=w
         simp only at hx hlm e2
         refine FnOK.startC (rvs:=[.cell 8 39,.tmp 9,.tmp 10]) G G_good Tryz.func55 rfl Tryz.ntmps55 rfl rfl ?_;with_reducible refine wD ?_
         (have fct:=And.intro hlm (And.intro (eq_true e1) (And.intro (eq_true e2) (And.intro e3 (hk1))));(repeat' (first
  |refine gF ?_|refine aE ?_ ?_
  | ((first
   |((with_reducible refine kQ 81 ?_);refine cV h81 c81 ?_)
   |((with_reducible refine kQ 19 ?_);refine CallK.lit [] hR c19 ⟨
            ⟨rfl,rfl,rfl,rfl,rfl,rfl,rfl,rfl,rfl,rfl,rfl,rfl,rfl,rfl,trivial⟩
            ,trivial⟩ rfl rfl ?_)
   |((with_reducible show IdxK _ _ _ _ _);refine IdxK.mk k (eNode ⟨x0,x1,x2,x3,x4,x5,x6,x7,x8,x9⟩) rfl (node_get hx) ?_)
   |((with_reducible refine kQ 41 ?_);refine cL h41 c41 ?_)
   |((with_reducible refine kQ 109 ?_);refine cL h109 c109 ?_))<;>with_reducible refine wK ?_)
  |apply  trivial));all_goals clear fct)
         all_goals first|rfl|trivial
        ·rw [if_pos (by rw[hbo0,Bool.eq_false_iff.2 hok];rfl)]
         have hkk:¬bo=1∨bo=1∧cu=true:=by
          by_cases q:bo=1
          ·cases cu with
           |true=>exact .inr ⟨q,rfl⟩
           |false=>exact absurd (by rw[q];rfl) hok
          ·exact .inl q
         clear hs e hl ht h63 hbo0 hok
         generalize hGM:makeF w.f ⟨1,lowS s,is,⟨#[]⟩,[],0,[],0,0,(k:Int)⟩=M at*
         have hGM2:makeF w.f (bearN s is k)=M:=hGM
         rw[hGM2] at hT ⊢
         clear hGM hGM2
         generalize tellW w M.1 []=T at*
         obtain⟨⟨fl,fm⟩,mn,me⟩:=M
         obtain⟨v,te⟩:=T
         simp only at hM hT ⊢
         by_cases e5:me=0
         ·rw[if_pos e5]
          obtain⟨⟨l',m'⟩,st',⟨d1',d2',d3',d4'⟩,⟨a',b',c',d'⟩,ta',bu',cs'⟩:=v
          obtain⟨⟨l,m⟩,st,⟨d1,d2,d3,d4⟩,⟨a,b,c,d⟩,ta,bu,cs⟩:=w
          simp only at hx hlm e2 hM hT
          rcases hkk with q|⟨q,rfl⟩
          ·refine FnOK.startC (rvs:=[.cell 8 39,.tmp 9,.tmp 10]) G G_good Tryz.func55 rfl Tryz.ntmps55 rfl rfl ?_;with_reducible refine wD ?_
           (have fct:=And.intro hlm (And.intro (eq_true e1) (And.intro (eq_true e2) (And.intro e3 (And.intro (eq_false q) (e5)))));(repeat' (first
  |refine gF ?_|refine aE ?_ ?_
  | ((first
   |((with_reducible refine kQ 81 ?_);refine cV h81 c81 ?_)
   |((with_reducible refine kQ 19 ?_);refine CallK.lit [] hR c19 ⟨
              ⟨rfl,rfl,rfl,rfl,rfl,rfl,rfl,rfl,rfl,rfl,rfl,rfl,rfl,rfl,trivial⟩
              ,trivial⟩ rfl rfl ?_)
   |((with_reducible show IdxK _ _ _ _ _);refine IdxK.mk k (eNode ⟨x0,x1,x2,x3,x4,x5,x6,x7,x8,x9⟩) rfl (node_get hx) ?_)
   |((with_reducible refine kQ 41 ?_);refine cL h41 c41 ?_)
   |((with_reducible refine kQ 109 ?_);refine cL h109 c109 ?_)
   |((with_reducible refine kQ 67 ?_);refine CallK.val [] hM c67 ⟨⟨rfl,rfl,trivial⟩,⟨rfl,rfl,rfl,rfl,.inr (.inr ⟨_,rfl⟩),rfl,.inr (.inr ⟨_,rfl⟩),rfl,rfl,rfl,trivial⟩,trivial⟩ rfl rfl rfl ?_)
   |((with_reducible refine kQ 33 ?_);refine CallK.val [] hT c33 ⟨
           ⟨rfl,rfl,rfl,rfl,rfl,rfl,rfl,rfl,rfl,rfl,rfl,rfl,rfl,rfl,trivial⟩
           ,⟨rfl,rfl,trivial⟩,.inr (.inr ⟨_,rfl⟩),trivial⟩ rfl rfl rfl ?_))<;>with_reducible refine wK ?_)
  |apply  trivial));all_goals clear fct)
           all_goals first|rfl|trivial
          ·refine FnOK.startC (rvs:=[.cell 8 39,.tmp 9,.tmp 10]) G G_good Tryz.func55 rfl Tryz.ntmps55 rfl rfl ?_;with_reducible refine wD ?_
           (have fct:=And.intro hlm (And.intro (eq_true e1) (And.intro (eq_true e2) (And.intro e3 (And.intro q (e5)))));(repeat' (first
  |refine gF ?_|refine aE ?_ ?_
  | ((first
   |((with_reducible refine kQ 81 ?_);refine cV h81 c81 ?_)
   |((with_reducible refine kQ 19 ?_);refine CallK.lit [] hR c19 ⟨
              ⟨rfl,rfl,rfl,rfl,rfl,rfl,rfl,rfl,rfl,rfl,rfl,rfl,rfl,rfl,trivial⟩
              ,trivial⟩ rfl rfl ?_)
   |((with_reducible show IdxK _ _ _ _ _);refine IdxK.mk k (eNode ⟨x0,x1,x2,x3,x4,x5,x6,x7,x8,x9⟩) rfl (node_get hx) ?_)
   |((with_reducible refine kQ 41 ?_);refine cL h41 c41 ?_)
   |((with_reducible refine kQ 109 ?_);refine cL h109 c109 ?_)
   |((with_reducible refine kQ 67 ?_);refine CallK.val [] hM c67 ⟨⟨rfl,rfl,trivial⟩,⟨rfl,rfl,rfl,rfl,.inr (.inr ⟨_,rfl⟩),rfl,.inr (.inr ⟨_,rfl⟩),rfl,rfl,rfl,trivial⟩,trivial⟩ rfl rfl rfl ?_)
   |((with_reducible refine kQ 33 ?_);refine CallK.val [] hT c33 ⟨
           ⟨rfl,rfl,rfl,rfl,rfl,rfl,rfl,rfl,rfl,rfl,rfl,rfl,rfl,rfl,trivial⟩
           ,⟨rfl,rfl,trivial⟩,.inr (.inr ⟨_,rfl⟩),trivial⟩ rfl rfl rfl ?_))<;>with_reducible refine wK ?_)
  |apply  trivial));all_goals clear fct)
           all_goals first|rfl|trivial
         ·rw[if_neg e5]
          clear hT
          obtain⟨⟨l,m⟩,st,⟨d1,d2,d3,d4⟩,⟨a,b,c,d⟩,ta,bu,cs⟩:=w
          simp only at hx hlm e2 hM
          rcases hkk with q|⟨q,rfl⟩
          ·refine FnOK.startC (rvs:=[.cell 8 39,.tmp 9,.tmp 10]) G G_good Tryz.func55 rfl Tryz.ntmps55 rfl rfl ?_;with_reducible refine wD ?_
           (have fct:=And.intro hlm (And.intro (eq_true e1) (And.intro (eq_true e2) (And.intro e3 (And.intro (eq_false q) ((eq_false e5))))));(repeat' (first
  |refine gF ?_|refine aE ?_ ?_
  | ((first
   |((with_reducible refine kQ 81 ?_);refine cV h81 c81 ?_)
   |((with_reducible refine kQ 19 ?_);refine CallK.lit [] hR c19 ⟨
              ⟨rfl,rfl,rfl,rfl,rfl,rfl,rfl,rfl,rfl,rfl,rfl,rfl,rfl,rfl,trivial⟩
              ,trivial⟩ rfl rfl ?_)
   |((with_reducible show IdxK _ _ _ _ _);refine IdxK.mk k (eNode ⟨x0,x1,x2,x3,x4,x5,x6,x7,x8,x9⟩) rfl (node_get hx) ?_)
   |((with_reducible refine kQ 41 ?_);refine cL h41 c41 ?_)
   |((with_reducible refine kQ 109 ?_);refine cL h109 c109 ?_)
   |((with_reducible refine kQ 67 ?_);refine CallK.val [] hM c67 ⟨⟨rfl,rfl,trivial⟩,⟨rfl,rfl,rfl,rfl,.inr (.inr ⟨_,rfl⟩),rfl,.inr (.inr ⟨_,rfl⟩),rfl,rfl,rfl,trivial⟩,trivial⟩ rfl rfl rfl ?_))<;>with_reducible refine wK ?_)
  |apply  trivial));all_goals clear fct)
           all_goals first|rfl|trivial
          ·refine FnOK.startC (rvs:=[.cell 8 39,.tmp 9,.tmp 10]) G G_good Tryz.func55 rfl Tryz.ntmps55 rfl rfl ?_;with_reducible refine wD ?_
           (have fct:=And.intro hlm (And.intro (eq_true e1) (And.intro (eq_true e2) (And.intro e3 (And.intro q ((eq_false e5))))));(repeat' (first
  |refine gF ?_|refine aE ?_ ?_
  | ((first
   |((with_reducible refine kQ 81 ?_);refine cV h81 c81 ?_)
   |((with_reducible refine kQ 19 ?_);refine CallK.lit [] hR c19 ⟨
              ⟨rfl,rfl,rfl,rfl,rfl,rfl,rfl,rfl,rfl,rfl,rfl,rfl,rfl,rfl,trivial⟩
              ,trivial⟩ rfl rfl ?_)
   |((with_reducible show IdxK _ _ _ _ _);refine IdxK.mk k (eNode ⟨x0,x1,x2,x3,x4,x5,x6,x7,x8,x9⟩) rfl (node_get hx) ?_)
   |((with_reducible refine kQ 41 ?_);refine cL h41 c41 ?_)
   |((with_reducible refine kQ 109 ?_);refine cL h109 c109 ?_)
   |((with_reducible refine kQ 67 ?_);refine CallK.val [] hM c67 ⟨⟨rfl,rfl,trivial⟩,⟨rfl,rfl,rfl,rfl,.inr (.inr ⟨_,rfl⟩),rfl,.inr (.inr ⟨_,rfl⟩),rfl,rfl,rfl,trivial⟩,trivial⟩ rfl rfl rfl ?_))<;>with_reducible refine wK ?_)
  |apply trivial));all_goals clear fct)
           all_goals first|rfl|trivial
     ·rw[if_neg e3]
      clear hs e hl ht h63
      obtain⟨⟨l,m⟩,st,⟨d1,d2,d3,d4⟩,⟨a,b,c,d⟩,ta,bu,cs⟩:=w
      simp only at hx hlm e2
      refine FnOK.startC (rvs:=[.cell 8 39,.tmp 9,.tmp 10]) G G_good Tryz.func55 rfl Tryz.ntmps55 rfl rfl ?_;with_reducible refine wD ?_
      (have fct:=And.intro hlm (And.intro (eq_true e1) (And.intro (eq_true e2) ((eq_false e3))));(repeat' (first
  |refine gF ?_|refine aE ?_ ?_
  | ((first
   |((with_reducible refine kQ 81 ?_);refine cV h81 c81 ?_)
   |((with_reducible refine kQ 19 ?_);refine CallK.lit [] hR c19 ⟨
          ⟨rfl,rfl,rfl,rfl,rfl,rfl,rfl,rfl,rfl,rfl,rfl,rfl,rfl,rfl,trivial⟩
          ,trivial⟩ rfl rfl ?_)
   |((with_reducible show IdxK _ _ _ _ _);refine IdxK.mk k (eNode ⟨x0,x1,x2,x3,x4,x5,x6,x7,x8,x9⟩) rfl (node_get hx) ?_)
   |((with_reducible refine kQ 41 ?_);refine cL h41 c41 ?_)
   |((with_reducible refine kQ 109 ?_);refine cL h109 c109 ?_))<;>with_reducible refine wK ?_)
  | apply trivial));all_goals clear fct)
      all_goals first|rfl|trivial
    ·have hb:bearW w s is doc=(w,-1,1):=by unfold bearW thereN;rw[decide_eq_false e2,Bool.and_false,Bool.and_false];rfl
     rw[hb]
     clear hs e hb hl ht h63
     obtain⟨⟨l,m⟩,st,⟨d1,d2,d3,d4⟩,⟨a,b,c,d⟩,ta,bu,cs⟩:=w
     simp only at hlm e2
     refine FnOK.startC (rvs:=[.cell 8 39,.tmp 9,.tmp 10]) G G_good Tryz.func55 rfl Tryz.ntmps55 rfl rfl ?_;with_reducible refine wD ?_
     (have fct:=And.intro hlm (And.intro (eq_true e1) ((eq_false e2)));(repeat' (first
  |refine gF ?_|refine aE ?_ ?_
  | ((first
   |((with_reducible refine kQ 81 ?_);refine cV h81 c81 ?_)
   |((with_reducible refine kQ 19 ?_);refine CallK.lit [] hR c19 ⟨
         ⟨rfl,rfl,rfl,rfl,rfl,rfl,rfl,rfl,rfl,rfl,rfl,rfl,rfl,rfl,trivial⟩
         ,trivial⟩ rfl rfl ?_))<;>with_reducible refine wK ?_)
  | apply trivial));all_goals clear fct)
     all_goals first|rfl|trivial
   ·have hb:bearW w s is doc=(w,-1,1):=by unfold bearW thereN;rw[decide_eq_false e1,Bool.false_and,Bool.and_false];rfl
    rw[hb]
    clear hs e hb hl ht h63
    obtain⟨⟨l,m⟩,st,⟨d1,d2,d3,d4⟩,⟨a,b,c,d⟩,ta,bu,cs⟩:=w
    refine FnOK.startC (rvs:=[.cell 8 39,.tmp 9,.tmp 10]) G G_good Tryz.func55 rfl Tryz.ntmps55 rfl rfl ?_;with_reducible refine wD ?_
    (have fct:=(eq_false e1);(repeat' (first
  |refine gF ?_|refine aE ?_ ?_
  | ((first
   |((with_reducible refine kQ 81 ?_);refine cV h81 c81 ?_)
   |((with_reducible refine kQ 19 ?_);refine CallK.lit [] hR c19 ⟨
        ⟨rfl,rfl,rfl,rfl,rfl,rfl,rfl,rfl,rfl,rfl,rfl,rfl,rfl,rfl,trivial⟩
        ,trivial⟩ rfl rfl ?_))<;>with_reducible refine wK ?_)
  | apply trivial));all_goals clear fct)
    all_goals first|rfl|trivial
end Go.Proofs.Heir
namespace Go.Proofs.Heir
open Go Go.Am Go.RowKit Go.Shelf
set_option maxRecDepth 100000
set_option maxHeartbeats 8000000
theorem backB_it (l:List BuildM)(hl:l.length≤100000):ItOK Tryz.prog 237 [.fptr (eBuilds l) 0] l.length (fun k=>[oInt ((l.length:Int)-1-k),eBuild ((l.reverse[k]?).getD ⟨0,0⟩)]):=by
 intro vals y J Jx hJ hJm hJxm _ hY Wn w h0
 obtain⟨⟨μ,hr⟩,_⟩:=hJ 0 Wn w h0
 obtain⟨vb,us,rfl,hvb,hus⟩:=RepL.uncons hr
 obtain rfl:=RepL.unnil hus
 obtain⟨b,o,rfl⟩:∃b o,vb=.pointer (some ⟨b,o,none⟩):=by cases hvb;exact⟨_,_,rfl⟩
 have box:∀k Wn W,J k Wn W→∃ad cap,W.cell? ⟨b,o,none⟩=some (.slice ad l.length cap)∧l.length≤cap∧∀ (j:Nat) (x:BuildM),l[j]? =some x→∃b2 o2,ad=some ⟨b2,o2,none⟩∧W.cell? ⟨b2,o2+j*2,none⟩=some (.int .i64 x.df)∧W.cell? ⟨b2,o2+j*2+1,none⟩=some (.int .i64 x.node):=by
  intro k Wn W hJk
  obtain⟨⟨μ,hr⟩,_⟩:=hJ k Wn W hJk
  obtain⟨v1,us,e,hv1,_⟩:=RepL.uncons hr
  cases e
  obtain⟨ad,cap,h1,h2,h3⟩:=rows_box hv1
  rw[List.length_map] at h1 h2
  refine⟨ad,cap,h1,h2,fun j x hx=>?_⟩
  obtain⟨b2,o2,vs,e,hlen,hc,hrep⟩:=h3 j _ (build_get hx)
  obtain⟨v0,v1,rfl⟩:=list2 hlen
  have r0:=hrep 0 _ _ rfl rfl
  have r1:=hrep 1 _ _ rfl rfl
  have c0:=hc 0 _ rfl
  have c1:=hc 1 _ rfl
  obtain rfl:=r0.val
  obtain rfl:=r1.val
  exact⟨b2,o2,e,c0,c1⟩
 refine(callsIn_wide (n:=1)).1 ?_
 refine callsIn_of_wp Tryz.func237 rfl trivial ?_ rfl
 simp only[Tryz.ntmps237,List.size_toArray,List.length_cons,List.length_nil,Nat.reduceAdd,Nat.reduceSub,Array.replicate_succ,Array.replicate_zero,List.push_toArray,List.append_toArray,List.nil_append,List.cons_append]
 obtain⟨ad,cap,hbx,hcap,hel⟩:=box 0 Wn w h0
 gi_wp2
 gi_loopw [3] (fun i wr=> ∃k:Nat,k≤l.length∧i=.int .i64 ((l.length:Int)-1-k)∧∃Wn,J k Wn wr) (fun i _=>(intOf i+1).toNat)
 case atStart=>exact⟨0,Nat.zero_le _,by simp,Wn,h0⟩
 case round=>
  obtain⟨k,hk,rfl,Wn',hJk⟩:=hrel
  obtain⟨ad',cap',hbx',hcap',hel'⟩:=box k Wn' wr hJk
  by_cases hlt:k<l.length
  ·have hix:l.length-1-k<l.length:=by omega
   obtain⟨⟨x1,x2⟩,hx⟩:∃x,l[l.length-1-k]? =some x:=⟨_,List.getElem?_eq_getElem hix⟩
   obtain⟨b2,o2,rfl,hc0,hc1⟩:=hel' _ _ hx
   simp only at hc0 hc1
   have hrev:(l.reverse[k]?).getD ⟨0,0⟩=⟨x1,x2⟩:=by
    rw[List.getElem?_reverse (by omega),hx];rfl
   obtain⟨fn,tmps,assign,body,hy,hR⟩:=hY k Wn' wr [.int .i64 ((l.length:Int)-1-k),.agg #[.int .i64 x1,.int .i64 x2]] hlt hJk (fun Wn'' μ'' hrA=>by
    rw[hrev]
    refine .cons .lit (.cons (Rep.agg (vs:=[.int .i64 x1,.int .i64 x2]) rfl ?_) .nil)
    rintro(_|_|j) c v hc hv
    ·cases hc;cases hv;exact .lit
    ·cases hc;cases hv;exact .lit
    ·simp at hv)
   have hz:((l.length:Int)-1-k).toNat=l.length-1-k:=by omega
   gi_wp2
   refine hR.mono ?_
   rintro e W3 (⟨rfl,Wn3,hJ3,_⟩|⟨rfl,hJx3⟩)
   ·gi_wp2
    go_roundw
    case rel=>exact⟨k+1,by omega,by congr 1;omega,Wn3,hJ3⟩
    case measure=>simp[intOf];omega
   ·gi_wp2
    refine bodyPost_ret (results_none rfl _ _ _) rfl ?_
    exact⟨⟨_,rfl⟩,.inr hJx3⟩
  ·obtain rfl:k=l.length:=by omega
   gi_wp2
   go_end0
   exact⟨⟨_,rfl⟩,.inl ⟨_,hJk⟩⟩
theorem backB_ok (l:List BuildM):FnOK Tryz.prog 189 [] [eBuilds l] [] (.clo (.func 237) [] [.fptr (eBuilds l) 0]):=by
 refine FnOK.startC (rvs:=[.tmp 2]) G G_good Tryz.func189 rfl Tryz.ntmps189 rfl rfl ?_;with_reducible refine wD ?_
 refine⟨⟨rfl,rfl⟩,⟨rfl,trivial,⟨_,_,_,_,_,rfl,rfl,rfl,rfl,rfl,rfl⟩,trivial⟩,?_⟩
 exact trivial
end Go.Proofs.Heir
