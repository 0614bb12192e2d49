/- Models, plain laws and contracts of functions of the given program; conditions as stated in each theorem. By an AI agent. -/
import Derived.Test.YtciccajdpmahiaaGreatDoorW9
import Derived.Test.YtciccajdpmahiaaGreatDoorW10
import Derived.Test.YtciccajdpmahiaaGreatDoorW6
import Derived.Test.YtciccajdpmahiaaGreatDoorW2
import Derived.Test.YtciccajdpmahiaaGreatDoorRows
import Derived.ProofKit
import Derived.LaidMore
import Derived.OpenShut
import Derived.Stop.Joined
import Derived.Lib.LaidTab
import Derived.MakeChecks
set_option linter.unusedSimpArgs false
set_option linter.unusedVariables false
namespace Go.Proofs.Heir
open Go Go.Am Go.RowKit Go.Lib
set_option maxRecDepth 100000
set_option maxHeartbeats 8000000
set_option maxHeartbeats 32000000
theorem last_no {l:List BuildM}{df:Int}(h:∀ (j:Nat) y,l.reverse[j]? =some y→y.df≠df):lastB l df=-1:=by
 unfold lastB
 have:(l.reverse.findIdx? fun b=>decide (b.df=df))=none:=by
  rw[List.findIdx?_eq_none_iff]
  intro x hx
  obtain⟨j,hj⟩:=List.getElem?_of_mem hx
  exact decide_eq_false (h j x hj)
 rw[this]
theorem last_yes {l:List BuildM}{df:Int}{k:Nat}{y:BuildM}(hk:l.reverse[k]? =some y)(e:y.df=df)(h:∀ (j:Nat) z,j<k→l.reverse[j]? =some z→z.df≠df):lastB l df=(l.length:Int)-1-k:=by
 unfold lastB
 have hkl:=(List.getElem?_eq_some_iff.1 hk).1
 have:(l.reverse.findIdx? fun b=>decide (b.df=df))=some k:=by
  rw[List.findIdx?_eq_some_iff_getElem]
  refine⟨hkl,?_,fun j hj=>?_⟩
  ·rw[(List.getElem?_eq_some_iff.1 hk).2];exact decide_eq_true e
  ·rw[decide_eq_false (h j _ hj (List.getElem?_eq_getElem (by omega)))];simp
 rw[this]
theorem last_cases (l:List BuildM)(df:Int):lastB l df=-1∨∃ (j:Nat) (b:BuildM),lastB l df=j∧l[j]? =some b:=by
 by_cases h:∀ (j:Nat) y,l.reverse[j]? =some y→y.df≠df
 ·exact .inl (last_no h)
 ·unfold lastB
  cases e:(l.reverse.findIdx? fun b=>decide (b.df=df)) with
  |none=>exact .inl rfl
  | some i=>
    have hi:=(List.findIdx?_eq_some_iff_getElem.1 e).1
    rw[List.length_reverse] at hi
    exact .inr ⟨l.length-1-i,l[l.length-1-i],by show(l.length:Int)-1-i=_;omega,List.getElem?_eq_getElem (by omega)⟩
theorem gLast_ok (w:WorldM)(hb:w.builds.length≤100000)(df:Int):FnOK Tryz.prog 121 [mW w] [.ptr 0 0 0,eInt df] [mW w] (eInt (lastB w.builds df)):=by
 have hit:=backB_it w.builds hb
 have hbk:=backB_ok w.builds
 have hno:=last_no (l:=w.builds) (df:=df)
 have hyes:=fun k y h1 h2 h3=>last_yes (l:=w.builds) (df:=df) (k:=k) (y:=y) h1 h2 h3
 generalize lastB w.builds df=r at*
 obtain⟨⟨l,m⟩,st,⟨d1,d2,d3,d4⟩,⟨a,b,c,d⟩,ta,bu,cs⟩:=w
 simp only at hit hbk hno hyes
 have hbm:(bu.map oBuild).length=bu.length:=List.length_map ..
 refine FnOK.startC (rvs:=[.cell 4 3]) G G_good Tryz.func121 rfl Tryz.ntmps121 rfl rfl ?_;with_reducible refine wD ?_
 repeat' (first
  |refine gK ?_|refine aE ?_ ?_
  |(((with_reducible refine kQ 189 ?_);refine cV hbk c189 ?_)<;>with_reducible refine wK ?_)
  |apply trivial)
 refine LoopK.rangeI G G_good 3 [(0,.ptr 0 0 0),(3,.ptr 1 0 0),(4,.ptr 2 0 0),(12,.clo (.func 237) [] [.fptr (eBuilds bu) 0])]
  (fun _=>[(0,mW ⟨⟨l,m⟩,st,⟨d1,d2,d3,d4⟩,⟨a,b,c,d⟩,ta,bu,cs⟩),(1,.live 1 [eInt df] false),(2,.live 1 [eInt 0] false)])
  (fun k=> ∀ (j:Nat) y,j<k→bu.reverse[j]? =some y→y.df≠df) (fun j y h=>by omega)
  hit c237 ?_ rfl ⟨⟨rfl,rfl⟩,rfl⟩ (fun _ _=>rfl) (fun _ _=>rfl) ⟨⟨rfl,rfl⟩,rfl,rfl⟩ ?_ ?_
 ·(refine fK ?_;(with_reducible repeat' (first|exact trivial|(show _∧_;refine aK ?_ ?_)));(all_goals try rfl))
  all_goals first|exact⟨.refl rfl,rfl⟩
 ·intro k hk hIk
  obtain⟨⟨x1,x2⟩,hx⟩:∃x,bu.reverse[k]? =some x:=⟨_,List.getElem?_eq_getElem (by rw[List.length_reverse];exact hk)⟩
  rw[hx,Option.getD_some]
  rw[show oInt ((bu.length:Int)-1-k)=eInt ((bu.length:Int)-1-k) from rfl]
  with_reducible refine wK ?_
  refine BodyK.mk rfl ?_;with_reducible refine wK ?_
  by_cases e:x1=df
  ·have hr:=hyes k _ hx e (fun j z hj hz=>hIk j z hj hz)
   rw[hr]
   (have fct:=e;(repeat' (first
  |refine gF ?_|refine aE ?_ ?_
  |(((with_reducible show ElemK _ _ _ _ _);refine ElemK.mk _ rfl ?_)<;>with_reducible refine wK ?_)
  | apply trivial));all_goals clear fct)
   refine QuitK.mk [(0,mW ⟨⟨l,m⟩,st,⟨d1,d2,d3,d4⟩,⟨a,b,c,d⟩,ta,bu,cs⟩),(1,.live 1 [eInt df] false),(2,.live 1 [eInt ((bu.length:Int)-1-k)] false)] ?_ ?_
   ·(refine fK ?_;(with_reducible repeat' (first|exact trivial|(show _∧_;refine aK ?_ ?_)));(all_goals try rfl))
    all_goals first|exact⟨.refl rfl,rfl⟩
   ·with_reducible refine wK ?_
    repeat' (first
  |refine gK ?_|refine aE ?_ ?_
  | apply trivial)
    all_goals first|rfl
  ·(have fct:=(eq_false e);(repeat' (first
  |refine gF ?_|refine aE ?_ ?_
  |(((with_reducible show ElemK _ _ _ _ _);refine ElemK.mk _ rfl ?_)<;>with_reducible refine wK ?_)
  | apply trivial));all_goals clear fct)
   refine TurnI.mk ?_ (fun j y hj hy=>?_)
   ·(refine fK ?_;(with_reducible repeat' (first|exact trivial|(show _∧_;refine aK ?_ ?_)));(all_goals try rfl))
    all_goals first|exact⟨.refl rfl,rfl⟩
   ·by_cases q:j=k
    ·subst q
     rw[hx] at hy;cases hy;exact e
    ·exact hIk j y (by omega) hy
 ·intro hIn
  rw[hno (fun j y hy=>hIn j y (by have:=(List.getElem?_eq_some_iff.1 hy).1;rwa [List.length_reverse] at this) hy)]
  with_reducible refine wK ?_
  refine ElemK.mk _ rfl ?_;with_reducible refine wK ?_
  dsimp only[List.set];with_reducible refine wK ?_
  repeat' (first
  |refine gK ?_|refine aE ?_ ?_
  |apply trivial)
  all_goals first|rfl
theorem gClassed_ok (d:DeskM)(h:SmallD d)(s:Int):FnOK Tryz.prog 51 [] [eDesk d,eInt s] [] (eInt (classedD d s)):=by
 have h29:=f122_ok d h.defs h.waits
 have hrd:=@right_defs d
 unfold classedD
 obtain⟨r,hr⟩:∃r,rightD d=r:=⟨_,rfl⟩
 rw[hr] at h29 hrd ⊢
 obtain⟨l,ws,nx,bz⟩:=d
 refine FnOK.startC (rvs:=[.tmp 4]) G G_good Tryz.func51 rfl Tryz.ntmps51 rfl rfl ?_;with_reducible refine wD ?_
 refine CallK.new 111 [] h29 c122 ⟨⟨rfl,rfl,rfl,rfl,trivial⟩,trivial⟩ rfl rfl rfl (outs_read _) rfl ?_;with_reducible refine wK ?_
 refine LookK.tab vInt oInt (ixT kC (procL l)) (k:=s) (zv:=eInt 0) map63 ⟨_,_,rfl⟩ key_int inj_int rfl rfl (fun x hxx=>?_) (fun hxx=>?_)
 ·rw [show oInt x=eInt x from rfl]
  with_reducible refine wK ?_
  cases r with
  |false=>((have fct:=hr;(repeat' (first
  |refine gF ?_|refine aE ?_ ?_
  |apply trivial));all_goals clear fct))<;>rfl
  | true=>
    (have fct:=hr;(repeat' (first
  |refine gF ?_|refine aE ?_ ?_
  | apply trivial));all_goals clear fct)
    rcases tgetQ (hrd rfl) s with⟨a1,_⟩|⟨j,y,a1,a2,_⟩
    ·rw[hxx] at a1;cases a1
    ·rw[hxx] at a1;cases a1;simp only;rw[a2];rfl
 ·with_reducible refine wK ?_
  cases r with
  |false=>((have fct:=hr;(repeat' (first
  |refine gF ?_|refine aE ?_ ?_
  |apply trivial));all_goals clear fct))<;>rfl
  | true=>
    (have fct:=hr;(repeat' (first
  |refine gF ?_|refine aE ?_ ?_
  | apply trivial));all_goals clear fct)
    rcases tgetQ (hrd rfl) s with⟨_,a1⟩|⟨j,y,a1,_⟩
    ·simp only;rw[a1];rfl
    ·rw[hxx] at a1;cases a1
theorem bear_yes {w:WorldM}{s is:ByteArray}{doc:Int}(h:(bearW w s is doc).2.2=0):RightG w∧thereN w.f.nodes doc=true∧(nd w.f.nodes doc).kind=0∧bearOK s is=true∧(w.f.nodes.length:Int)≠w.f.most:=by
 unfold bearW at h
 split at h
 ·rename_i h1
  rw[Bool.and_eq_true,rightG_iff] at h1
  split at h
  ·rename_i h2
   split at h
   ·rename_i h3
    refine⟨h1.1,h1.2,h2,h3,fun e=>?_⟩
    have hm:makeF w.f (bearN s is doc)=(w.f,-1,8):=makeF_full (bear_make h1.1.rf h1.2 h2 h3) e
    rw[hm] at h
    simp at h
   ·simp at h
  ·simp at h
 ·simp at h
theorem bear_st {w:WorldM}{s is:ByteArray}{doc:Int}(h:(bearW w s is doc).2.2=0):(bearW w s is doc).2.1=(w.f.nodes.length:Int)∧(bearW w s is doc).1.states.length=w.f.nodes.length+1:=by
 obtain⟨R,h1,h2,h3,h4⟩:=bear_yes h
 have V:=bear_right R h1 h2 h3 h4
 rw[bear_eq R h1 h2 h3,if_neg h4]
 refine⟨rfl,?_⟩
 have:=V.sl
 rw[tell_f] at this
 rw[this]
 show(w.f.nodes++ [_]).length=_
 rw[List.length_append,List.length_singleton]
theorem classed_cases (d:DeskM)(c:Int):classedD d c=-1∨∃ (j:Nat) (x:DefM),classedD d c=j∧d.defs[j]? =some x:=by
 unfold classedD
 split
 ·unfold posC
  rcases ixI_cases (hasC c) d.defs with⟨h,_⟩|⟨k,x,h1,h2,_⟩
  ·exact .inl h
  ·exact .inr ⟨k,x,h1,h2⟩
 ·exact .inl rfl
theorem super_no {w:WorldM}{cl:Int}(h:superOK w cl=false):superW w cl=(w,-1,false,1):=by unfold superW;rw[h];rfl
theorem super_yes {w:WorldM}{cl:Int}(h:superOK w cl=true):superW w cl=if classedD w.desk cl=-1 then(w,-1,false,6) else if lastB w.builds (classedD w.desk cl)<0 then freshW w (classedD w.desk cl) else takeB w (classedD w.desk cl):=by unfold superW;rw[if_pos h]
theorem gSuper_ok (w:WorldM)(hs:SmallW w)(h63:w.f.nodes.length≤63)(hl:SmL 80000 w.line)(ht:w.tasks.length≤80000)(hz:∀x∈w.desk.defs,(lowS x.locl).size≤300)(cl:Int):
  FnOK Tryz.prog 50 [] [eWorld w,eInt cl] [] (.tup [eWorld (superW w cl).1,eInt (superW w cl).2.1,eBool (superW w cl).2.2.1,eInt (superW w cl).2.2.2]):=by
 have hR:=wRight_ok w hs
 have hcm:(w.classes.map oClass).length=w.classes.length:=List.length_map ..
 obtain⟨ok,hok⟩:∃ok,superOK w cl=ok:=⟨_,rfl⟩
 have hok':=hok
 unfold superOK at hok'
 cases e:rightG w with
 | false=>
   rw[e] at hR hok'
   obtain rfl:false=ok:=hok'
   rw[super_no hok]
   clear hs e hl ht h63 hz hok
   obtain⟨⟨l,m⟩,st,⟨d1,d2,d3,d4⟩,⟨a,b,c,d⟩,ta,bu,cs⟩:=w
   refine FnOK.startC (rvs:=[.cell 4 39,.tmp 5,.tmp 6,.tmp 7]) G G_good Tryz.func50 rfl Tryz.ntmps50 rfl rfl ?_;with_reducible refine wD ?_
   repeat' (first
  |refine gK ?_|refine aE ?_ ?_
  | (((with_reducible refine kQ 19 ?_);refine CallK.lit [] hR c19 ⟨
   ⟨rfl,rfl,rfl,rfl,rfl,rfl,rfl,rfl,rfl,rfl,rfl,rfl,rfl,rfl,trivial⟩
   ,trivial⟩ rfl rfl ?_)<;>with_reducible refine wK ?_)
  | apply trivial)
   all_goals first|rfl|trivial
 |true=>
 rw[e] at hR hok'
 by_cases e1:0≤cl
 rotate_left
 ·rw[decide_eq_false e1] at hok'
  obtain rfl:false=ok:=hok'
  rw[super_no hok]
  clear hs e hl ht h63 hz hok
  obtain⟨⟨l,m⟩,st,⟨d1,d2,d3,d4⟩,⟨a,b,c,d⟩,ta,bu,cs⟩:=w
  refine FnOK.startC (rvs:=[.cell 4 39,.tmp 5,.tmp 6,.tmp 7]) G G_good Tryz.func50 rfl Tryz.ntmps50 rfl rfl ?_;with_reducible refine wD ?_
  (have fct:=(eq_false e1);(repeat' (first
  |refine gF ?_|refine aE ?_ ?_
  | (((with_reducible refine kQ 19 ?_);refine CallK.lit [] hR c19 ⟨
   ⟨rfl,rfl,rfl,rfl,rfl,rfl,rfl,rfl,rfl,rfl,rfl,rfl,rfl,rfl,trivial⟩
   ,trivial⟩ rfl rfl ?_)<;>with_reducible refine wK ?_)
  |apply trivial));all_goals clear fct)
  all_goals first|rfl|trivial
 by_cases e2:cl< (w.classes.length:Int)
 rotate_left
 ·rw[decide_eq_true e1,decide_eq_false e2] at hok'
  obtain rfl:false=ok:=hok'
  rw[super_no hok]
  clear hs e hl ht h63 hz hok
  obtain⟨⟨l,m⟩,st,⟨d1,d2,d3,d4⟩,⟨a,b,c,d⟩,ta,bu,cs⟩:=w
  simp only at hcm e2
  refine FnOK.startC (rvs:=[.cell 4 39,.tmp 5,.tmp 6,.tmp 7]) G G_good Tryz.func50 rfl Tryz.ntmps50 rfl rfl ?_;with_reducible refine wD ?_
  (have fct:=And.intro hcm (And.intro (eq_true e1) ((eq_false e2)));(repeat' (first
  |refine gF ?_|refine aE ?_ ?_
  | (((with_reducible refine kQ 19 ?_);refine CallK.lit [] hR c19 ⟨
   ⟨rfl,rfl,rfl,rfl,rfl,rfl,rfl,rfl,rfl,rfl,rfl,rfl,rfl,rfl,trivial⟩
   ,trivial⟩ rfl rfl ?_)<;>with_reducible refine wK ?_)
  |apply trivial));all_goals clear fct)
  all_goals first|rfl|trivial
 rw[decide_eq_true e1,decide_eq_true e2] at hok'
 obtain rfl:true=ok:=hok'
 rw[super_yes hok]
 have h51:=gClassed_ok w.desk hs.d cl
 rcases classed_cases w.desk cl with hc|⟨k,⟨x1,x2,x3⟩,hc,hx⟩
 ·rw[hc] at h51
  rw[if_pos hc]
  clear hs e hl ht h63 hz hok hc
  obtain⟨⟨l,m⟩,st,⟨d1,d2,d3,d4⟩,⟨a,b,c,d⟩,ta,bu,cs⟩:=w
  simp only at hcm e2 h51
  refine FnOK.startC (rvs:=[.cell 4 39,.tmp 5,.tmp 6,.tmp 7]) G G_good Tryz.func50 rfl Tryz.ntmps50 rfl rfl ?_;with_reducible refine wD ?_
  (have fct:=And.intro hcm (And.intro (eq_true e1) ((eq_true e2)));(repeat' (first
  |refine gF ?_|refine aE ?_ ?_
  | ((first
   |((with_reducible refine kQ 19 ?_);refine CallK.lit [] hR c19 ⟨
   ⟨rfl,rfl,rfl,rfl,rfl,rfl,rfl,rfl,rfl,rfl,rfl,rfl,rfl,rfl,trivial⟩
   ,trivial⟩ rfl rfl ?_)
   |((with_reducible refine kQ 51 ?_);refine cL h51 c51 ?_))<;>with_reducible refine wK ?_)
  |apply trivial));all_goals clear fct)
  all_goals first|rfl|trivial
 rw[hc] at h51
 rw[hc,if_neg (by omega)]
 have hk1:¬ (k:Int)=-1:=by omega
 have hla:=gLast_ok w (by have:=hs.bu;omega) k
 have hda:defAt w.desk k=⟨x1,x2,x3⟩:=by unfold defAt;rw[Int.toNat_natCast,hx];rfl
 rcases last_cases w.builds k with hn|⟨j,⟨y1,y2⟩,hn,hy⟩
 ·rw [hn] at hla
  rw[hn,if_pos (by omega)]
  unfold freshW
  rw[hda]
  have hB:=gBear_ok w hs h63 hl ht x2 (isOf ⟨x1,x2,x3⟩) (hz _ (List.mem_of_getElem? hx)) 0
  have hS:=bear_st (w:=w) (s:=x2) (is:=isOf ⟨x1,x2,x3⟩) (doc:=0)
  obtain⟨is,his⟩:∃is,isOf ⟨x1,x2,x3⟩=is:=⟨_,rfl⟩
  rw[his] at hB hS
  have hio:(x2=x1∧is=⟨#[]⟩)∨(¬x2=x1∧is=x1):=by
   unfold isOf at his
   by_cases q:x2=x1
   ·rw[if_pos q] at his;exact .inl ⟨q,his.symm⟩
   ·rw[if_neg q] at his;exact .inr ⟨q,his.symm⟩
  simp only
  rw[his]
  generalize bearW w x2 is 0=B at*
  obtain⟨v,bn,be⟩:=B
  simp only at hB hS ⊢
  by_cases e5:be=0
  ·rw[if_pos e5]
   obtain⟨hs1,hs2⟩:=hS e5
   have hq:=gPut_ok v (by omega) w.f.nodes.length 2 k (by omega)
   rw[←hs1] at hq
   have e8:putG v bn 2 k={v with states:=(putG v bn 2 k).states}:=rfl
   rw[e8] at hq ⊢
   clear hs e hl ht h63 hz hok hc hda his e8 hn hs1 hs2 hS
   generalize(putG v bn 2 k).states=sx at*
   obtain⟨⟨l',m'⟩,st',⟨d1',d2',d3',d4'⟩,⟨a',b',c',d'⟩,ta',bu',cs'⟩:=v
   obtain⟨⟨l,m⟩,st,⟨d1,d2,d3,d4⟩,⟨a,b,c,d⟩,ta,bu,cs⟩:=w
   simp only at hcm e2 h51 hla hx hB hq ⊢
   rcases hio with⟨c1,rfl⟩|⟨c1,rfl⟩
   ·refine FnOK.startC (rvs:=[.cell 4 39,.tmp 5,.tmp 6,.tmp 7]) G G_good Tryz.func50 rfl Tryz.ntmps50 rfl rfl ?_;with_reducible refine wD ?_
    (have fct:=And.intro hcm (And.intro (eq_true e1) (And.intro (eq_true e2) (And.intro (eq_false hk1) (And.intro c1 (e5)))));(repeat' (first
  |refine gF ?_|refine aE ?_ ?_
  | ((first
   |((with_reducible refine kQ 19 ?_);refine CallK.lit [] hR c19 ⟨
         ⟨rfl,rfl,rfl,rfl,rfl,rfl,rfl,rfl,rfl,rfl,rfl,rfl,rfl,rfl,trivial⟩
         ,trivial⟩ rfl rfl ?_)
   |((with_reducible refine kQ 51 ?_);refine cL h51 c51 ?_)
   |((with_reducible refine kQ 121 ?_);refine CallK.lend (news:=[mW ⟨⟨l,m⟩,st,⟨d1,d2,d3,d4⟩,⟨a,b,c,d⟩,ta,bu,cs⟩]) [410] [] hla c121 ⟨⟨rfl,rfl⟩,rfl,trivial⟩
             ⟨⟨rfl,.inr ⟨⟨
                  ⟨rfl,rfl,rfl,rfl,rfl,rfl,rfl,rfl,rfl,rfl,rfl,rfl,rfl,rfl,trivial⟩
                  ,trivial⟩,rfl⟩⟩,trivial⟩ rfl ⟨⟨rfl,rfl⟩,rfl⟩ rfl ⟨⟨rfl,.inr ⟨rfl,rfl,rfl⟩⟩,trivial⟩ rfl rfl ?_)
   |((with_reducible show IdxK _ _ _ _ _);refine IdxK.mk k (eDef ⟨x1,x2,x3⟩) rfl (def_get hx) ?_)
   | ((with_reducible refine kQ 55 ?_);refine CallK.val [] hB c55 ⟨
      ⟨rfl,rfl,rfl,rfl,rfl,rfl,rfl,rfl,rfl,rfl,rfl,rfl,rfl,rfl,trivial⟩
      ,rfl,rfl,rfl,trivial⟩ rfl rfl rfl ?_)
   | ((with_reducible refine kQ 113 ?_);refine CallK.lend (news:=[mW ⟨⟨l',m'⟩,sx,⟨d1',d2',d3',d4'⟩,⟨a',b',c',d'⟩,ta',bu',cs'⟩]) [410] [] hq c113 ⟨⟨rfl,rfl⟩,rfl,rfl,rfl,trivial⟩
          ⟨⟨rfl,.inr ⟨⟨
               ⟨rfl,rfl,rfl,rfl,rfl,rfl,rfl,rfl,rfl,rfl,rfl,rfl,rfl,rfl,trivial⟩
               ,trivial⟩,rfl⟩⟩,trivial⟩ rfl ⟨⟨rfl,rfl⟩,rfl⟩ rfl ⟨⟨rfl,.inr ⟨rfl,rfl,rfl⟩⟩,trivial⟩ rfl rfl ?_))<;>with_reducible refine wK ?_)
  | apply trivial));all_goals clear fct)
    all_goals first|rfl|trivial
   ·refine FnOK.startC (rvs:=[.cell 4 39,.tmp 5,.tmp 6,.tmp 7]) G G_good Tryz.func50 rfl Tryz.ntmps50 rfl rfl ?_;with_reducible refine wD ?_
    (have fct:=And.intro hcm (And.intro (eq_true e1) (And.intro (eq_true e2) (And.intro (eq_false hk1) (And.intro (eq_false c1) (e5)))));(repeat' (first
  |refine gF ?_|refine aE ?_ ?_
  | ((first
   |((with_reducible refine kQ 19 ?_);refine CallK.lit [] hR c19 ⟨
         ⟨rfl,rfl,rfl,rfl,rfl,rfl,rfl,rfl,rfl,rfl,rfl,rfl,rfl,rfl,trivial⟩
         ,trivial⟩ rfl rfl ?_)
   |((with_reducible refine kQ 51 ?_);refine cL h51 c51 ?_)
   |((with_reducible refine kQ 121 ?_);refine CallK.lend (news:=[mW ⟨⟨l,m⟩,st,⟨d1,d2,d3,d4⟩,⟨a,b,c,d⟩,ta,bu,cs⟩]) [410] [] hla c121 ⟨⟨rfl,rfl⟩,rfl,trivial⟩
             ⟨⟨rfl,.inr ⟨⟨
                  ⟨rfl,rfl,rfl,rfl,rfl,rfl,rfl,rfl,rfl,rfl,rfl,rfl,rfl,rfl,trivial⟩
                  ,trivial⟩,rfl⟩⟩,trivial⟩ rfl ⟨⟨rfl,rfl⟩,rfl⟩ rfl ⟨⟨rfl,.inr ⟨rfl,rfl,rfl⟩⟩,trivial⟩ rfl rfl ?_)
   |((with_reducible show IdxK _ _ _ _ _);refine IdxK.mk k (eDef ⟨is,x2,x3⟩) rfl (def_get hx) ?_)
   | ((with_reducible refine kQ 55 ?_);refine CallK.val [] hB c55 ⟨
      ⟨rfl,rfl,rfl,rfl,rfl,rfl,rfl,rfl,rfl,rfl,rfl,rfl,rfl,rfl,trivial⟩
      ,rfl,rfl,rfl,trivial⟩ rfl rfl rfl ?_)
   | ((with_reducible refine kQ 113 ?_);refine CallK.lend (news:=[mW ⟨⟨l',m'⟩,sx,⟨d1',d2',d3',d4'⟩,⟨a',b',c',d'⟩,ta',bu',cs'⟩]) [410] [] hq c113 ⟨⟨rfl,rfl⟩,rfl,rfl,rfl,trivial⟩
          ⟨⟨rfl,.inr ⟨⟨
               ⟨rfl,rfl,rfl,rfl,rfl,rfl,rfl,rfl,rfl,rfl,rfl,rfl,rfl,rfl,trivial⟩
               ,trivial⟩,rfl⟩⟩,trivial⟩ rfl ⟨⟨rfl,rfl⟩,rfl⟩ rfl ⟨⟨rfl,.inr ⟨rfl,rfl,rfl⟩⟩,trivial⟩ rfl rfl ?_))<;>with_reducible refine wK ?_)
  | apply trivial));all_goals clear fct)
    all_goals first|rfl|trivial
  ·rw[if_neg e5]
   clear hs e hl ht h63 hz hok hc hda his hn hS
   obtain⟨⟨l',m'⟩,st',⟨d1',d2',d3',d4'⟩,⟨a',b',c',d'⟩,ta',bu',cs'⟩:=v
   obtain⟨⟨l,m⟩,st,⟨d1,d2,d3,d4⟩,⟨a,b,c,d⟩,ta,bu,cs⟩:=w
   simp only at hcm e2 h51 hla hx hB ⊢
   rcases hio with⟨c1,rfl⟩|⟨c1,rfl⟩
   ·refine FnOK.startC (rvs:=[.cell 4 39,.tmp 5,.tmp 6,.tmp 7]) G G_good Tryz.func50 rfl Tryz.ntmps50 rfl rfl ?_;with_reducible refine wD ?_
    (have fct:=And.intro hcm (And.intro (eq_true e1) (And.intro (eq_true e2) (And.intro (eq_false hk1) (And.intro c1 ((eq_false e5))))));(repeat' (first
  |refine gF ?_|refine aE ?_ ?_
  | ((first
   |((with_reducible refine kQ 19 ?_);refine CallK.lit [] hR c19 ⟨
         ⟨rfl,rfl,rfl,rfl,rfl,rfl,rfl,rfl,rfl,rfl,rfl,rfl,rfl,rfl,trivial⟩
         ,trivial⟩ rfl rfl ?_)
   |((with_reducible refine kQ 51 ?_);refine cL h51 c51 ?_)
   |((with_reducible refine kQ 121 ?_);refine CallK.lend (news:=[mW ⟨⟨l,m⟩,st,⟨d1,d2,d3,d4⟩,⟨a,b,c,d⟩,ta,bu,cs⟩]) [410] [] hla c121 ⟨⟨rfl,rfl⟩,rfl,trivial⟩
             ⟨⟨rfl,.inr ⟨⟨
                  ⟨rfl,rfl,rfl,rfl,rfl,rfl,rfl,rfl,rfl,rfl,rfl,rfl,rfl,rfl,trivial⟩
                  ,trivial⟩,rfl⟩⟩,trivial⟩ rfl ⟨⟨rfl,rfl⟩,rfl⟩ rfl ⟨⟨rfl,.inr ⟨rfl,rfl,rfl⟩⟩,trivial⟩ rfl rfl ?_)
   |((with_reducible show IdxK _ _ _ _ _);refine IdxK.mk k (eDef ⟨x1,x2,x3⟩) rfl (def_get hx) ?_)
   | ((with_reducible refine kQ 55 ?_);refine CallK.val [] hB c55 ⟨
      ⟨rfl,rfl,rfl,rfl,rfl,rfl,rfl,rfl,rfl,rfl,rfl,rfl,rfl,rfl,trivial⟩
      ,rfl,rfl,rfl,trivial⟩ rfl rfl rfl ?_))<;>with_reducible refine wK ?_)
  | apply trivial));all_goals clear fct)
    all_goals first|rfl|trivial
   ·refine FnOK.startC (rvs:=[.cell 4 39,.tmp 5,.tmp 6,.tmp 7]) G G_good Tryz.func50 rfl Tryz.ntmps50 rfl rfl ?_;with_reducible refine wD ?_
    (have fct:=And.intro hcm (And.intro (eq_true e1) (And.intro (eq_true e2) (And.intro (eq_false hk1) (And.intro (eq_false c1) ((eq_false e5))))));(repeat' (first
  |refine gF ?_|refine aE ?_ ?_
  | ((first
   |((with_reducible refine kQ 19 ?_);refine CallK.lit [] hR c19 ⟨
         ⟨rfl,rfl,rfl,rfl,rfl,rfl,rfl,rfl,rfl,rfl,rfl,rfl,rfl,rfl,trivial⟩
         ,trivial⟩ rfl rfl ?_)
   |((with_reducible refine kQ 51 ?_);refine cL h51 c51 ?_)
   |((with_reducible refine kQ 121 ?_);refine CallK.lend (news:=[mW ⟨⟨l,m⟩,st,⟨d1,d2,d3,d4⟩,⟨a,b,c,d⟩,ta,bu,cs⟩]) [410] [] hla c121 ⟨⟨rfl,rfl⟩,rfl,trivial⟩
             ⟨⟨rfl,.inr ⟨⟨
                  ⟨rfl,rfl,rfl,rfl,rfl,rfl,rfl,rfl,rfl,rfl,rfl,rfl,rfl,rfl,trivial⟩
                  ,trivial⟩,rfl⟩⟩,trivial⟩ rfl ⟨⟨rfl,rfl⟩,rfl⟩ rfl ⟨⟨rfl,.inr ⟨rfl,rfl,rfl⟩⟩,trivial⟩ rfl rfl ?_)
   |((with_reducible show IdxK _ _ _ _ _);refine IdxK.mk k (eDef ⟨is,x2,x3⟩) rfl (def_get hx) ?_)
   | ((with_reducible refine kQ 55 ?_);refine CallK.val [] hB c55 ⟨
      ⟨rfl,rfl,rfl,rfl,rfl,rfl,rfl,rfl,rfl,rfl,rfl,rfl,rfl,rfl,trivial⟩
      ,rfl,rfl,rfl,trivial⟩ rfl rfl rfl ?_))<;>with_reducible refine wK ?_)
  | apply trivial));all_goals clear fct)
    all_goals first|rfl|trivial
 ·rw [hn] at hla
  rw[hn,if_neg (by omega)]
  have hj1:¬ (j:Int)<0:=by omega
  have hjl:=(List.getElem?_eq_some_iff.1 hy).1
  have hba:buildAt w.builds j=⟨y1,y2⟩:=by unfold buildAt;rw[Int.toNat_natCast,hy];rfl
  have hcl:=clbuilds_ok w.builds (by have:=hs.bu;omega)
  have hbm:(w.builds.map oBuild).length=w.builds.length:=List.length_map ..
  unfold takeB
  rw[hn,hba,Int.toNat_natCast]
  simp only
  clear hs e hl ht h63 hz hok hc hda hn hba hx
  by_cases e5:y2=-4
  ·rw[if_pos e5]
   obtain⟨⟨l,m⟩,st,⟨d1,d2,d3,d4⟩,⟨a,b,c,d⟩,ta,bu,cs⟩:=w
   simp only at hcm e2 h51 hla hy hjl hcl hbm
   refine FnOK.startC (rvs:=[.cell 4 39,.tmp 5,.tmp 6,.tmp 7]) G G_good Tryz.func50 rfl Tryz.ntmps50 rfl rfl ?_;with_reducible refine wD ?_
   (have fct:=And.intro hcm (And.intro (eq_true e1) (And.intro (eq_true e2) (And.intro (eq_false hk1) (And.intro (eq_false hj1) (e5)))));(repeat' (first
  |refine gF ?_|refine aE ?_ ?_
  | ((first
   |((with_reducible refine kQ 19 ?_);refine CallK.lit [] hR c19 ⟨
        ⟨rfl,rfl,rfl,rfl,rfl,rfl,rfl,rfl,rfl,rfl,rfl,rfl,rfl,rfl,trivial⟩
        ,trivial⟩ rfl rfl ?_)
   |((with_reducible refine kQ 51 ?_);refine cL h51 c51 ?_)
   |((with_reducible refine kQ 121 ?_);refine CallK.lend (news:=[mW ⟨⟨l,m⟩,st,⟨d1,d2,d3,d4⟩,⟨a,b,c,d⟩,ta,bu,cs⟩]) [410] [] hla c121 ⟨⟨rfl,rfl⟩,rfl,trivial⟩
            ⟨⟨rfl,.inr ⟨⟨
                 ⟨rfl,rfl,rfl,rfl,rfl,rfl,rfl,rfl,rfl,rfl,rfl,rfl,rfl,rfl,trivial⟩
                 ,trivial⟩,rfl⟩⟩,trivial⟩ rfl ⟨⟨rfl,rfl⟩,rfl⟩ rfl ⟨⟨rfl,.inr ⟨rfl,rfl,rfl⟩⟩,trivial⟩ rfl rfl ?_)
   |((with_reducible show IdxK _ _ _ _ _);refine IdxK.mk j (eBuild ⟨y1,y2⟩) rfl (build_get hy) ?_))<;>with_reducible refine wK ?_)
  | apply trivial));all_goals clear fct)
   all_goals first|rfl|trivial
  ·rw[if_neg e5]
   obtain⟨⟨l,m⟩,st,⟨d1,d2,d3,d4⟩,⟨a,b,c,d⟩,ta,bu,cs⟩:=w
   simp only at hcm e2 h51 hla hy hjl hcl hbm ⊢
   refine FnOK.startC (rvs:=[.cell 4 39,.tmp 5,.tmp 6,.tmp 7]) G G_good Tryz.func50 rfl Tryz.ntmps50 rfl rfl ?_;with_reducible refine wD ?_
   (have fct:=And.intro hcm (And.intro (eq_true e1) (And.intro (eq_true e2) (And.intro (eq_false hk1) (And.intro (eq_false hj1) ((eq_false e5))))));(repeat' (first
  |refine gF ?_|refine aE ?_ ?_
  | ((first
   |((with_reducible refine kQ 19 ?_);refine CallK.lit [] hR c19 ⟨
        ⟨rfl,rfl,rfl,rfl,rfl,rfl,rfl,rfl,rfl,rfl,rfl,rfl,rfl,rfl,trivial⟩
        ,trivial⟩ rfl rfl ?_)
   |((with_reducible refine kQ 51 ?_);refine cL h51 c51 ?_)
   |((with_reducible refine kQ 121 ?_);refine CallK.lend (news:=[mW ⟨⟨l,m⟩,st,⟨d1,d2,d3,d4⟩,⟨a,b,c,d⟩,ta,bu,cs⟩]) [410] [] hla c121 ⟨⟨rfl,rfl⟩,rfl,trivial⟩
            ⟨⟨rfl,.inr ⟨⟨
                 ⟨rfl,rfl,rfl,rfl,rfl,rfl,rfl,rfl,rfl,rfl,rfl,rfl,rfl,rfl,trivial⟩
                 ,trivial⟩,rfl⟩⟩,trivial⟩ rfl ⟨⟨rfl,rfl⟩,rfl⟩ rfl ⟨⟨rfl,.inr ⟨rfl,rfl,rfl⟩⟩,trivial⟩ rfl rfl ?_)
   |((with_reducible show IdxK _ _ _ _ _);refine IdxK.mk j (eBuild ⟨y1,y2⟩) rfl (build_get hy) ?_)
   |((with_reducible show LtK _ _ _ _ _);refine LtK.mk j rfl (by omega) ?_)
   |((with_reducible show ElemK _ _ _ _ _);refine ElemK.mk (eBuild ⟨y1,y2⟩) (by rw[Nat.zero_add];exact build_get hy) ?_)
   |((with_reducible refine kQ 114 ?_);refine CallK.new 981 [] hcl c114 ⟨rfl,trivial⟩ rfl rfl rfl (outs_builds _) rfl ?_))<;>with_reducible refine wK ?_)
  | apply trivial));all_goals clear fct)
   all_goals first
    |rfl
    | (refine frz_builds rfl rfl ?_ ?_
       ·simp only[Nat.zero_add,List.map_set];rfl
       ·simp)
    |trivial
end Go.Proofs.Heir
namespace Go.Proofs.Heir
open Go Go.Am Go.RowKit Go.Lib
set_option maxRecDepth 100000
set_option maxHeartbeats 8000000
set_option maxHeartbeats 16000000
theorem finish_no {w:WorldM}{n an er:Int}(h:finishOK w n=false):finishW w n an er=(w,1):=by unfold finishW;rw[h];rfl
theorem finish_yes {w:WorldM}{n an er:Int}(h:finishOK w n=true):finishW w n an er=if er≠0 then(spoilG (popG w) n,er) else if an≠n then(spoilG (popG w) n,7) else(doneG (popG w) n,0):=by unfold finishW;rw[if_pos h]
theorem pop_right {w:WorldM}(R:RightG w){bl:List BuildM}{b:BuildM}(h:w.builds=bl++ [b]):popG w={w with builds:=bl}∧RightG {w with builds:=bl}:=by
 refine⟨by unfold popG;rw[h,List.dropLast_concat],builds_right R fun x hx=>R.bu x (by rw[h];exact List.mem_append_left _ hx)⟩
theorem finishOK_snoc {w:WorldM}{n:Int}(e:elemG w n=true){s:StateM}(hst:stOf w.states n=s){bl:List BuildM}{b:BuildM}(h:w.builds=bl++ [b]):finishOK w n=(decide (s.phase=2)&&decide (b.df=s.df)):=by
 unfold finishOK
 rw[e,hst,h]
 simp
theorem gFinish_snoc (w:WorldM)(hs:SmallW w)(hl:SmL 80000 w.line)(ht:w.tasks.length≤80000)(k:Nat)(an er:Int)(e:elemG w k=true)(bl:List BuildM)(b1 b2:Int)(h0:w.builds=bl++ [⟨b1,b2⟩]):FnOK Tryz.prog 52 [] [eWorld w,eInt k,eInt an,eInt er] [] (.tup [eWorld (finishW w k an er).1,eInt (finishW w k an er).2]):=by
 have ho:=gOpen_ok w hs k
 rw[e] at ho
 have hbu:(w.builds.map oBuild).length≤90000:=by rw[List.length_map];exact hs.bu
 obtain⟨R,he⟩:=elemG_iff.1 e
 obtain⟨k',x,⟨s1,s2,s3,s4⟩,hkk,_,_,hg,hk,hst⟩:=elem_st R he
 obtain rfl:k=k':=by omega
 have hf:=finishOK_snoc e hst h0
 have hbk:w.builds[bl.length]? =some ⟨b1,b2⟩:=by rw[h0,List.getElem?_append_right (Nat.le_refl _),Nat.sub_self];rfl
 have cut:bl.map oBuild=((w.builds.map oBuild).drop 0).take bl.length:=by rw[h0,List.drop_zero,←List.map_take,List.take_left' rfl]
 have hbl:(w.builds.map oBuild).length=bl.length+1:=by rw[h0];simp
 have htop:¬ ((bl.length:Int)<0):=by omega
 have htp:(bl.length:Int)+1-1=bl.length:=by omega
 by_cases e3:s1=2
 ·by_cases e4:b1=s2
  ·obtain⟨hpo,PR⟩:=pop_right R h0
   rw[show decide ((StateM.mk s1 s2 s3 s4).phase=2)=true from decide_eq_true e3,show decide ((BuildM.mk b1 b2).df=(StateM.mk s1 s2 s3 s4).df)=true from decide_eq_true e4] at hf
   rw[finish_yes hf,hpo]
   have hps:SmallW {w with builds:=bl}:=builds_small hs (by have:=hs.bu;rw[h0,List.length_append] at this;omega)
   by_cases e5:er=0
   ·rw[if_neg (by simpa using e5)]
    by_cases e6:an=k
    ·rw[if_neg (by simpa using e6)]
     have hq:=gDone_ok {w with builds:=bl} hps hl ht k hk
     clear hs e hl ht R he hst hf hpo PR hps
     generalize doneG {w with builds:=bl} k=v at*
     obtain⟨⟨l',m'⟩,st',⟨d1',d2',d3',d4'⟩,⟨a',b',c',d'⟩,ta',bu',cs'⟩:=v
     obtain⟨⟨l,m⟩,st,⟨d1,d2,d3,d4⟩,⟨a,b,c,d⟩,ta,bu,cs⟩:=w
     simp only at hbu hg hbk cut hbl hq h0
     clear h0 hkk
     refine FnOK.startC (rvs:=[.cell 8 39,.tmp 9]) G G_good Tryz.func52 rfl Tryz.ntmps52 rfl rfl ?_;with_reducible refine wD ?_
     (have fct:=And.intro hbl (And.intro (eq_true e3) (And.intro (eq_true e4) (And.intro (eq_false htop) (And.intro (eq_true e5) ((eq_true e6))))));(repeat' (first
  |refine gF ?_|refine aE ?_ ?_
  | ((first
   |((with_reducible refine kQ 112 ?_);refine CallK.new 160 [] ho c112 ⟨
          ⟨rfl,rfl,rfl,rfl,rfl,rfl,rfl,rfl,rfl,rfl,rfl,rfl,rfl,rfl,trivial⟩
          ,rfl,trivial⟩ rfl rfl rfl (outs_w _) rfl ?_)
   |((with_reducible show IdxK _ _ _ _ _);first|refine IdxK.mk k (eState ⟨s1,s2,s3,s4⟩) rfl (state_get hg) ?_|refine IdxK.mk bl.length (eBuild ⟨b1,b2⟩) (by(try simp only[castN]);omega) (build_get hbk) ?_)
   |((with_reducible show CutFK _ _ _ _ _ _);refine CutFK.mk 0 bl.length (bl.map oBuild) rfl (by(try simp only[castN]);omega) (by omega) cut ?_)
   | ((with_reducible refine kQ 124 ?_);refine CallK.lend (news:=[mW ⟨⟨l',m'⟩,st',⟨d1',d2',d3',d4'⟩,⟨a',b',c',d'⟩,ta',bu',cs'⟩]) [160] [] hq c124
           ⟨⟨rfl,rfl⟩,rfl,trivial⟩ ⟨⟨rfl,.inr ⟨⟨
                ⟨rfl,rfl,rfl,rfl,rfl,rfl,rfl,rfl,rfl,rfl,rfl,rfl,rfl,rfl,trivial⟩
                ,trivial⟩,rfl⟩⟩,trivial⟩ rfl ⟨⟨rfl,rfl⟩,rfl⟩ rfl ⟨⟨rfl,.inr ⟨rfl,rfl,rfl⟩⟩,trivial⟩ rfl rfl ?_))<;>with_reducible refine wK ?_)
  | apply trivial));all_goals clear fct)
     all_goals first|rfl|trivial
    ·rw[if_pos (by simpa using e6)]
     have hq:=gSpoil_ok {w with builds:=bl} hps PR k hk
     clear hs e hl ht R he hst hf hpo PR hps
     generalize spoilG {w with builds:=bl} k=v at*
     obtain⟨⟨l',m'⟩,st',⟨d1',d2',d3',d4'⟩,⟨a',b',c',d'⟩,ta',bu',cs'⟩:=v
     obtain⟨⟨l,m⟩,st,⟨d1,d2,d3,d4⟩,⟨a,b,c,d⟩,ta,bu,cs⟩:=w
     simp only at hbu hg hbk cut hbl hq h0
     clear h0 hkk
     refine FnOK.startC (rvs:=[.cell 8 39,.tmp 9]) G G_good Tryz.func52 rfl Tryz.ntmps52 rfl rfl ?_;with_reducible refine wD ?_
     (have fct:=And.intro hbl (And.intro (eq_true e3) (And.intro (eq_true e4) (And.intro (eq_false htop) (And.intro (eq_true e5) ((eq_false e6))))));(repeat' (first
  |refine gF ?_|refine aE ?_ ?_
  | ((first
   |((with_reducible refine kQ 112 ?_);refine CallK.new 160 [] ho c112 ⟨
          ⟨rfl,rfl,rfl,rfl,rfl,rfl,rfl,rfl,rfl,rfl,rfl,rfl,rfl,rfl,trivial⟩
          ,rfl,trivial⟩ rfl rfl rfl (outs_w _) rfl ?_)
   |((with_reducible show IdxK _ _ _ _ _);first|refine IdxK.mk k (eState ⟨s1,s2,s3,s4⟩) rfl (state_get hg) ?_|refine IdxK.mk bl.length (eBuild ⟨b1,b2⟩) (by(try simp only[castN]);omega) (build_get hbk) ?_)
   |((with_reducible show CutFK _ _ _ _ _ _);refine CutFK.mk 0 bl.length (bl.map oBuild) rfl (by(try simp only[castN]);omega) (by omega) cut ?_)
   | ((with_reducible refine kQ 123 ?_);refine CallK.lend (news:=[mW ⟨⟨l',m'⟩,st',⟨d1',d2',d3',d4'⟩,⟨a',b',c',d'⟩,ta',bu',cs'⟩]) [160] [] hq c123
           ⟨⟨rfl,rfl⟩,rfl,trivial⟩ ⟨⟨rfl,.inr ⟨⟨
                ⟨rfl,rfl,rfl,rfl,rfl,rfl,rfl,rfl,rfl,rfl,rfl,rfl,rfl,rfl,trivial⟩
                ,trivial⟩,rfl⟩⟩,trivial⟩ rfl ⟨⟨rfl,rfl⟩,rfl⟩ rfl ⟨⟨rfl,.inr ⟨rfl,rfl,rfl⟩⟩,trivial⟩ rfl rfl ?_))<;>with_reducible refine wK ?_)
  | apply trivial));all_goals clear fct)
     all_goals first|rfl|trivial
   ·rw[if_pos (by simpa using e5)]
    have hq:=gSpoil_ok {w with builds:=bl} hps PR k hk
    clear hs e hl ht R he hst hf hpo PR hps
    generalize spoilG {w with builds:=bl} k=v at*
    obtain⟨⟨l',m'⟩,st',⟨d1',d2',d3',d4'⟩,⟨a',b',c',d'⟩,ta',bu',cs'⟩:=v
    obtain⟨⟨l,m⟩,st,⟨d1,d2,d3,d4⟩,⟨a,b,c,d⟩,ta,bu,cs⟩:=w
    simp only at hbu hg hbk cut hbl hq h0
    clear h0 hkk
    refine FnOK.startC (rvs:=[.cell 8 39,.tmp 9]) G G_good Tryz.func52 rfl Tryz.ntmps52 rfl rfl ?_;with_reducible refine wD ?_
    (have fct:=And.intro hbl (And.intro (eq_true e3) (And.intro (eq_true e4) (And.intro (eq_false htop) ((eq_false e5)))));(repeat' (first
  |refine gF ?_|refine aE ?_ ?_
  | ((first
   |((with_reducible refine kQ 112 ?_);refine CallK.new 160 [] ho c112 ⟨
         ⟨rfl,rfl,rfl,rfl,rfl,rfl,rfl,rfl,rfl,rfl,rfl,rfl,rfl,rfl,trivial⟩
         ,rfl,trivial⟩ rfl rfl rfl (outs_w _) rfl ?_)
   |((with_reducible show IdxK _ _ _ _ _);first|refine IdxK.mk k (eState ⟨s1,s2,s3,s4⟩) rfl (state_get hg) ?_|refine IdxK.mk bl.length (eBuild ⟨b1,b2⟩) (by(try simp only[castN]);omega) (build_get hbk) ?_)
   |((with_reducible show CutFK _ _ _ _ _ _);refine CutFK.mk 0 bl.length (bl.map oBuild) rfl (by(try simp only[castN]);omega) (by omega) cut ?_)
   | ((with_reducible refine kQ 123 ?_);refine CallK.lend (news:=[mW ⟨⟨l',m'⟩,st',⟨d1',d2',d3',d4'⟩,⟨a',b',c',d'⟩,ta',bu',cs'⟩]) [160] [] hq c123
          ⟨⟨rfl,rfl⟩,rfl,trivial⟩ ⟨⟨rfl,.inr ⟨⟨
               ⟨rfl,rfl,rfl,rfl,rfl,rfl,rfl,rfl,rfl,rfl,rfl,rfl,rfl,rfl,trivial⟩
               ,trivial⟩,rfl⟩⟩,trivial⟩ rfl ⟨⟨rfl,rfl⟩,rfl⟩ rfl ⟨⟨rfl,.inr ⟨rfl,rfl,rfl⟩⟩,trivial⟩ rfl rfl ?_))<;>with_reducible refine wK ?_)
  | apply trivial));all_goals clear fct)
    all_goals first|rfl|trivial
  ·rw[show decide ((BuildM.mk b1 b2).df=(StateM.mk s1 s2 s3 s4).df)=false from decide_eq_false e4,Bool.and_false] at hf
   rw[finish_no hf]
   clear hs e hl ht R he hst hf
   obtain⟨⟨l,m⟩,st,⟨d1,d2,d3,d4⟩,⟨a,b,c,d⟩,ta,bu,cs⟩:=w
   simp only at hbu hg hbk cut hbl h0
   clear h0 hkk
   refine FnOK.startC (rvs:=[.cell 8 39,.tmp 9]) G G_good Tryz.func52 rfl Tryz.ntmps52 rfl rfl ?_;with_reducible refine wD ?_
   (have fct:=And.intro hbl (And.intro (eq_true e3) (And.intro (eq_false e4) ((eq_false htop))));(repeat' (first
  |refine gF ?_|refine aE ?_ ?_
  | ((first
   |((with_reducible refine kQ 112 ?_);refine CallK.new 160 [] ho c112 ⟨
        ⟨rfl,rfl,rfl,rfl,rfl,rfl,rfl,rfl,rfl,rfl,rfl,rfl,rfl,rfl,trivial⟩
        ,rfl,trivial⟩ rfl rfl rfl (outs_w _) rfl ?_)
   |((with_reducible show IdxK _ _ _ _ _);first|refine IdxK.mk k (eState ⟨s1,s2,s3,s4⟩) rfl (state_get hg) ?_|refine IdxK.mk bl.length (eBuild ⟨b1,b2⟩) (by(try simp only[castN]);omega) (build_get hbk) ?_)
   |((with_reducible show CutFK _ _ _ _ _ _);refine CutFK.mk 0 bl.length (bl.map oBuild) rfl (by(try simp only[castN]);omega) (by omega) cut ?_))<;>with_reducible refine wK ?_)
  | apply trivial));all_goals clear fct)
   all_goals first|rfl|trivial
 ·rw[show decide ((StateM.mk s1 s2 s3 s4).phase=2)=false from decide_eq_false e3,Bool.false_and] at hf
  rw[finish_no hf]
  clear hs e hl ht R he hst hf
  obtain⟨⟨l,m⟩,st,⟨d1,d2,d3,d4⟩,⟨a,b,c,d⟩,ta,bu,cs⟩:=w
  simp only at hbu hg hbk cut hbl h0
  clear h0 hkk
  refine FnOK.startC (rvs:=[.cell 8 39,.tmp 9]) G G_good Tryz.func52 rfl Tryz.ntmps52 rfl rfl ?_;with_reducible refine wD ?_
  (have fct:=And.intro hbl ((eq_false e3));(repeat' (first
  |refine gF ?_|refine aE ?_ ?_
  | ((first
   | ((with_reducible refine kQ 112 ?_);refine CallK.new 160 [] ho c112 ⟨
       ⟨rfl,rfl,rfl,rfl,rfl,rfl,rfl,rfl,rfl,rfl,rfl,rfl,rfl,rfl,trivial⟩
       ,rfl,trivial⟩ rfl rfl rfl (outs_w _) rfl ?_)
   |((with_reducible show IdxK _ _ _ _ _);first|refine IdxK.mk k (eState ⟨s1,s2,s3,s4⟩) rfl (state_get hg) ?_|refine IdxK.mk bl.length (eBuild ⟨b1,b2⟩) (by(try simp only[castN]);omega) (build_get hbk) ?_)
   |((with_reducible show CutFK _ _ _ _ _ _);refine CutFK.mk 0 bl.length (bl.map oBuild) rfl (by(try simp only[castN]);omega) (by omega) cut ?_))<;>with_reducible refine wK ?_)
  |apply trivial));all_goals clear fct)
  all_goals first|rfl|trivial
theorem gFinish_ok (w:WorldM)(hs:SmallW w)(hl:SmL 80000 w.line)(ht:w.tasks.length≤80000)(n an er:Int):FnOK Tryz.prog 52 [] [eWorld w,eInt n,eInt an,eInt er] [] (.tup [eWorld (finishW w n an er).1,eInt (finishW w n an er).2]):=by
 have ho:=gOpen_ok w hs n
 have hbm:(w.builds.map oBuild).length=w.builds.length:=List.length_map ..
 have hbu:(w.builds.map oBuild).length≤90000:=by rw[List.length_map];exact hs.bu
 cases e:elemG w n with
 | false=>
   rw[e] at ho
   rw[finish_no (by unfold finishOK;rw[e];rfl)]
   clear hs e hl ht
   obtain⟨⟨l,m⟩,st,⟨d1,d2,d3,d4⟩,⟨a,b,c,d⟩,ta,bu,cs⟩:=w
   simp only at hbm hbu
   refine FnOK.startC (rvs:=[.cell 8 39,.tmp 9]) G G_good Tryz.func52 rfl Tryz.ntmps52 rfl rfl ?_;with_reducible refine wD ?_
   (have fct:=hbm;(repeat' (first
  |refine gF ?_|refine aE ?_ ?_
  | (((with_reducible refine kQ 112 ?_);refine CallK.new 160 [] ho c112 ⟨
   ⟨rfl,rfl,rfl,rfl,rfl,rfl,rfl,rfl,rfl,rfl,rfl,rfl,rfl,rfl,trivial⟩
   ,rfl,trivial⟩ rfl rfl rfl (outs_w _) rfl ?_)<;>with_reducible refine wK ?_)
  | apply trivial));all_goals clear fct)
   all_goals first|rfl|trivial
 | true=>
   rw[e] at ho
   obtain⟨R,he⟩:=elemG_iff.1 e
   obtain⟨k,x,⟨s1,s2,s3,s4⟩,rfl,_,_,hg,hk,hst⟩:=elem_st R he
   rcases List.eq_nil_or_concat w.builds with h0|⟨bl,⟨b1,b2⟩,h0⟩
   rotate_left
   ·rw[List.concat_eq_append] at h0
    exact gFinish_snoc w hs hl ht k an er e bl b1 b2 h0
   ·have hf:finishOK w k=false:=by unfold finishOK;rw[h0];simp
    rw[finish_no hf]
    clear hs e hl ht R he hst hf
    obtain⟨⟨l,m⟩,st,⟨d1,d2,d3,d4⟩,⟨a,b,c,d⟩,ta,bu,cs⟩:=w
    simp only at h0 hbm hg hbu
    have hbz:(bu.map oBuild).length=0:=by rw[h0];rfl
    clear h0 hbm
    by_cases e3:s1=2
    ·refine FnOK.startC (rvs:=[.cell 8 39,.tmp 9]) G G_good Tryz.func52 rfl Tryz.ntmps52 rfl rfl ?_;with_reducible refine wD ?_
     (have fct:=And.intro hbz (e3);(repeat' (first
  |refine gF ?_|refine aE ?_ ?_
  | ((first
   | ((with_reducible refine kQ 112 ?_);refine CallK.new 160 [] ho c112 ⟨
     ⟨rfl,rfl,rfl,rfl,rfl,rfl,rfl,rfl,rfl,rfl,rfl,rfl,rfl,rfl,trivial⟩
     ,rfl,trivial⟩ rfl rfl rfl (outs_w _) rfl ?_)
   |((with_reducible show IdxK _ _ _ _ _);refine IdxK.mk k (eState ⟨s1,s2,s3,s4⟩) rfl (state_get hg) ?_))<;>with_reducible refine wK ?_)
  | apply trivial));all_goals clear fct)
     all_goals first|rfl|trivial
    ·refine FnOK.startC (rvs:=[.cell 8 39,.tmp 9]) G G_good Tryz.func52 rfl Tryz.ntmps52 rfl rfl ?_;with_reducible refine wD ?_
     (have fct:=And.intro hbz ((eq_false e3));(repeat' (first
  |refine gF ?_|refine aE ?_ ?_
  | ((first
   | ((with_reducible refine kQ 112 ?_);refine CallK.new 160 [] ho c112 ⟨
     ⟨rfl,rfl,rfl,rfl,rfl,rfl,rfl,rfl,rfl,rfl,rfl,rfl,rfl,rfl,trivial⟩
     ,rfl,trivial⟩ rfl rfl rfl (outs_w _) rfl ?_)
   |((with_reducible show IdxK _ _ _ _ _);refine IdxK.mk k (eState ⟨s1,s2,s3,s4⟩) rfl (state_get hg) ?_))<;>with_reducible refine wK ?_)
  |apply trivial));all_goals clear fct)
     all_goals first|rfl|trivial
end Go.Proofs.Heir
namespace Go.Proofs.Heir
open Go Go.Am Go.RowKit Go.Lib
set_option maxRecDepth 100000
set_option maxHeartbeats 8000000
set_option maxHeartbeats 32000000
theorem frz_defs {m:ML}{fz:Nat→Bool}{tab:List (Nat×Nat)}{n t len:Nat}{ro:Bool}{rows:List AV}{l:List DefM}(h1:lkM m t=.live 3 rows ro)(h2:fz t=true)(h3:rows=l.map oDef)(h4:len=l.length):FrzK m fz (MF tab fz m n) (eDefs l) t 0 len:=by
 subst h3;subst h4
 have e:(l.map oDef).length=l.length:=List.length_map ..
 exact .cut h1 h2 (by omega) (by rw[List.drop_zero,List.take_of_length_le (by omega)]) (noRefL_map oDef (fun _=>rfl) l)
theorem gOthers_ok (v w:WorldM)(n:Nat)(h0:v.states.length≤100000)(h1:v.states.length=w.states.length)(h2:v.line.todos.length=w.line.todos.length)(h3:v.states.length=v.line.todos.length)(hsz:∀t∈w.line.todos,t.length≤99000)
  (h:∀j,j≠n→v.states[j]? =w.states[j]? ∧v.line.todos[j]? =w.line.todos[j]?):FnOK Tryz.prog 48 [] [eWorld v,eWorld w,eInt n] [] (eBool true):=by
 obtain⟨⟨l',m'⟩,st',⟨d1',d2',d3',d4'⟩,⟨a',b',c',d'⟩,ta',bu',cs'⟩:=v
 obtain⟨⟨l,m⟩,st,⟨d1,d2,d3,d4⟩,⟨a,b,c,d⟩,ta,bu,cs⟩:=w
 simp only at h0 h1 h2 h3 hsz h
 have n1:(st'.map oState).length=st'.length:=List.length_map ..
 have n2:(st.map oState).length=st'.length:=by rw[List.length_map,h1]
 have n3:(a'.map oTodos).length=a'.length:=List.length_map ..
 have n4:(a.map oTodos).length=a'.length:=by rw[List.length_map,h2]
 refine FnOK.startC (rvs:=[.tmp 6]) G G_good Tryz.func48 rfl Tryz.ntmps48 rfl rfl ?_;with_reducible refine wD ?_
 (have fct:=And.intro n1 (And.intro n2 (And.intro n3 (n4)));(repeat' (first
  |refine gF ?_|refine aE ?_ ?_
  |apply trivial));all_goals clear fct)
 refine LoopK.use G G_good (fun(k:Nat)=>[(2,eInt n),(3,.ptr 30 0 0),(4,.ptr 40 0 0),(7,eInt k)]) (fun _=>[(30,mW ⟨⟨l',m'⟩,st',⟨d1',d2',d3',d4'⟩,⟨a',b',c',d'⟩,ta',bu',cs'⟩),(40,mW ⟨⟨l,m⟩,st,⟨d1,d2,d3,d4⟩,⟨a,b,c,d⟩,ta,bu,cs⟩)])
  (fun k=>k≤st'.length) (fun k=>st'.length-k) 0 (Nat.zero_le _) ?_ ?_
 ·(refine fK ?_;(with_reducible repeat' (first|exact trivial|(show _∧_;refine aK ?_ ?_)));(all_goals try rfl))
  all_goals first|rfl
 intro k hk
 with_reducible refine wK ?_
 refine IfK.mk (fun h9=>?_) (fun h9=>?_)<;>(try simp only[castN] at h9)<;>with_reducible refine wK ?_
 ·have hk':k<st'.length:=by simp only[decide_eq_true_eq] at h9;omega
  clear h9
  by_cases e:(k:Int)=(n:Int)
  ·(have fct:=(eq_true e);(repeat' (first
  |refine gF ?_|refine aE ?_ ?_
  | apply trivial));all_goals clear fct)
   refine NextK.mk (k+1) (by omega) (by omega) ?_
   (refine fK ?_;(with_reducible repeat' (first|exact trivial|(show _∧_;refine aK ?_ ?_)));(all_goals try rfl))
   all_goals first|(simp;done)
  ·obtain⟨q1,q2⟩:=h k (by omega)
   obtain⟨⟨s1,s2,s3,s4⟩,hs⟩:∃x,st'[k]? =some x:=⟨_,List.getElem?_eq_getElem hk'⟩
   obtain⟨y,hy⟩:∃x,a'[k]? =some x:=⟨_,List.getElem?_eq_getElem (by omega)⟩
   rw[hs] at q1
   rw[hy] at q2
   have q1:=q1.symm
   have q2:=q2.symm
   have ht:=todos_same y (by have:=hsz y (List.mem_of_getElem? q2);omega)
   (have fct:=(eq_false e);(repeat' (first
  |refine gF ?_|refine aE ?_ ?_
  | ((first
   |((with_reducible show IdxK _ _ _ _ _);first|refine IdxK.mk k (eState ⟨s1,s2,s3,s4⟩) rfl (state_get hs) ?_|refine IdxK.mk k (eState ⟨s1,s2,s3,s4⟩) rfl (state_get q1) ?_|refine IdxK.mk k (eTodos y) rfl (todos_get hy) ?_|refine IdxK.mk k (eTodos y) rfl (todos_get q2) ?_)
   |((with_reducible show EqK _ _ _ _ _ _ _ _);refine EqK.mk _ (fun y z w=>state_neq ⟨s1,s2,s3,s4⟩ ⟨s1,s2,s3,s4⟩ y z w) ?_)
   |((with_reducible refine kQ 43 ?_);refine cL ht c43 ?_)
   |((with_reducible show DrawK _ _ _ _);refine dK ?_))<;>with_reducible refine wK ?_)
  | apply trivial));all_goals clear fct)
   refine NextK.mk (k+1) (by omega) (by omega) ?_
   (refine fK ?_;(with_reducible repeat' (first|exact trivial|(show _∧_;refine aK ?_ ?_)));(all_goals try rfl))
   all_goals first|(simp;done)
 ·clear h9
  repeat' (first
  |refine gK ?_|refine aE ?_ ?_
  |apply trivial)
@[reducible] def pP : ByteArray := ⟨#[112]⟩
@[reducible] def pPP : ByteArray := ⟨#[80]⟩
@[reducible] def pC : ClassM := ⟨false, [], [], [], []⟩
@[reducible] def pD : DeskM := ⟨[⟨qXA, pP, 0⟩], [], 0, false⟩
@[reducible] def pN1 : NodeM := ⟨1, pP, qXA, qE, [], -1, [], -1, -1, 0⟩
@[reducible] def pF1 : ForM := ⟨[qN0, pN1], 5⟩
@[reducible] def pF2 : ForM := ⟨[qN0, pN1, pN1], 5⟩
@[reducible] def pW0 : WorldM := ⟨qF0, [qS0], qD, ⟨[[]], [], [], false⟩, [], [], [pC]⟩
@[reducible] def pW : WorldM := ⟨qF0, [qS0], pD, ⟨[[]], [], [], false⟩, [], [], [pC]⟩
@[reducible] def pV : WorldM := ⟨pF1, [qS0, qS1], pD, ⟨[[], []], [], [], false⟩, [], [], [pC]⟩
@[reducible] def pU : WorldM := ⟨pF1, [qS0, ⟨2, 0, -1, false⟩], pD, ⟨[[], []], [], [], false⟩, [], [⟨0, 1⟩], [pC]⟩
@[reducible] def pT : WorldM := ⟨pF1, [qS0, ⟨2, 0, -1, false⟩], pD, ⟨[[], []], [], [], false⟩, [], [⟨0, -4⟩], [pC]⟩
@[reducible] def pS : WorldM := ⟨pF1, [qS0, ⟨3, 0, -1, false⟩], pD, ⟨[[], []], [], [], false⟩, [], [], [pC]⟩
@[reducible] def pR : WorldM := ⟨pF2, [qS0, ⟨3, 0, -1, false⟩, ⟨2, 0, -1, false⟩], pD, ⟨[[], [], []], [], [], false⟩, [], [], [pC]⟩
@[reducible] def pQ : WorldM := ⟨pF1, [qS0, ⟨4, -1, -1, false⟩], pD, ⟨[[], []], [], [], false⟩, [], [], [pC]⟩
theorem p1:newW [pC] 5=(pW0,0):=by kernel_rfl
theorem p2:bearW pW pPP qXA 0=(pV,1,0):=by kernel_rfl
theorem p3:startW pV 1 0=(pU,true):=by kernel_rfl
theorem p4:superW pU 0=(pT,1,false,0):=by kernel_rfl
theorem p5:superW pT 0=(pT,-1,false,7):=by kernel_rfl
theorem p6:finishW pT 1 1 0=(pS,0):=by kernel_rfl
theorem p7:superW pS 0=(pR,2,true,0):=by kernel_rfl
theorem p8:finishW pT 1 0 0=(pQ,7):=by kernel_rfl
theorem p9:fitW pS 1 pP 0=0:=by kernel_rfl
theorem p10:fitW pS 0 pP 0=5:=by kernel_rfl
theorem psC:SmallC [pC]:=fun c hc=>by rw[List.mem_singleton.1 hc];exact⟨by decide,by decide,by decide,by decide,by decide⟩
theorem psM:∀c∈ [pC],∀s∈c.watch,s.size≤300:=fun c hc s hs=>by rw[List.mem_singleton.1 hc] at hs;cases hs
theorem psG {w:WorldM}(h:(decide (w.f.nodes.length≤60)&&w.f.nodes.all fun x=>decide (x.kids.length≤60)&&decide (x.attrs.length≤60)&&decide (x.name.size≤300))=true)(h2:(decide (w.states.length≤60)&&(decide (w.desk.defs.length≤60)&&(decide (w.desk.waits.length≤60)&&(decide (w.tasks.length≤60)&&decide (w.builds.length≤60)))))=true)
  (h3:shortL w.line=true) (h4:w.classes=[pC]):SmallW w∧SmL 80000 w.line∧w.tasks.length≤80000∧w.f.nodes.length≤63:=by
 simp only[Bool.and_eq_true,decide_eq_true_eq] at h2
 obtain⟨a1,a2,a3,a4,a5⟩:=h2
 have hn:=qsN h
 have hl:=sml_of h3
 have hl6:w.f.nodes.length≤60:=by
  rw[Bool.and_eq_true,decide_eq_true_eq] at h;exact h.1
 exact⟨⟨hn,by omega,⟨by omega,by omega⟩,hl.mono (by decide),by omega,by omega,by rw[h4];decide,by rw[h4];exact psC,by rw[h4];exact psM⟩,hl.mono (by decide),by omega,by omega⟩
theorem psZ:∀x∈pD.defs,(lowS x.locl).size≤300:=fun x hx=>by rw[List.mem_singleton.1 hx];decide
theorem gAwake_ok:FnOK Tryz.prog 46 [] [] [] (eBool true):=by
 have a1:=wNew_ok [pC] 5 (by decide) psC psM
 rw[p1] at a1
 have sW:=psG (w:=pW) (by kernel_rfl) (by kernel_rfl) (by kernel_rfl) rfl
 have sV:=psG (w:=pV) (by kernel_rfl) (by kernel_rfl) (by kernel_rfl) rfl
 have sU:=psG (w:=pU) (by kernel_rfl) (by kernel_rfl) (by kernel_rfl) rfl
 have sT:=psG (w:=pT) (by kernel_rfl) (by kernel_rfl) (by kernel_rfl) rfl
 have sS:=psG (w:=pS) (by kernel_rfl) (by kernel_rfl) (by kernel_rfl) rfl
 have a2:=gBear_ok pW sW.1 sW.2.2.2 sW.2.1 sW.2.2.1 pPP qXA (by decide) 0
 rw[p2] at a2
 have a3:=gStart_ok pV sV.1 1 0
 rw[p3] at a3
 have a4:=gSuper_ok pU sU.1 sU.2.2.2 sU.2.1 sU.2.2.1 psZ 0
 rw[p4] at a4
 have a5:=gSuper_ok pT sT.1 sT.2.2.2 sT.2.1 sT.2.2.1 psZ 0
 rw[p5] at a5
 have a6:=gFinish_ok pT sT.1 sT.2.1 sT.2.2.1 1 1 0
 rw[p6] at a6
 have a7:=gSuper_ok pS sS.1 sS.2.2.2 sS.2.1 sS.2.2.1 psZ 0
 rw[p7] at a7
 have a8:=gFinish_ok pT sT.1 sT.2.1 sT.2.2.1 1 0 0
 rw[p8] at a8
 have a9:=gFit_ok pS sS.1 1 pP 0
 rw[p9] at a9
 have a10:=gFit_ok pS sS.1 0 pP 0
 rw[p10] at a10
 clear sW sV sU sT sS
 refine FnOK.startC (rvs:=[.tmp 0]) G G_good Tryz.func46 rfl Tryz.ntmps46 rfl rfl ?_;with_reducible refine wD ?_
 refine CallK.val [261] a1 c28 ⟨?_,rfl,trivial⟩ rfl rfl rfl ?_
 ·refine⟨5,_,_,[oClass pC],rfl,rfl,rfl,by decide,rfl,RowsM.of ⟨?_,trivial⟩⟩
  exact⟨rfl,.inr (.inr ⟨_,rfl⟩),.inr (.inr ⟨_,rfl⟩),.inr (.inr ⟨_,rfl⟩),.inr (.inr ⟨_,rfl⟩),trivial⟩
 with_reducible refine wK ?_
 repeat' (first
  |refine gK ?_|refine aE ?_ ?_
  | ((first
   |((with_reducible refine kQ 55 ?_);refine CallK.val [311] a2 c55 ⟨⟨rfl,rfl,rfl,frz_defs (l:=[⟨qXA,pP,0⟩]) rfl rfl rfl rfl,rfl,rfl,rfl,rfl,rfl,rfl,rfl,rfl,rfl,rfl,trivial⟩,rfl,rfl,rfl,trivial⟩ rfl rfl rfl ?_)
   |((with_reducible refine kQ 47 ?_);refine CallK.val [] a3 c47 ⟨
   ⟨rfl,rfl,rfl,rfl,rfl,rfl,rfl,rfl,rfl,rfl,rfl,rfl,rfl,rfl,trivial⟩
   ,rfl,rfl,trivial⟩ rfl rfl rfl ?_)
   |((with_reducible refine kQ 50 ?_);first
   | refine CallK.val [] a4 c50 ⟨
    ⟨rfl,rfl,rfl,rfl,rfl,rfl,rfl,rfl,rfl,rfl,rfl,rfl,rfl,rfl,trivial⟩
    ,rfl,trivial⟩ rfl rfl rfl ?_
   | refine CallK.val [] a5 c50 ⟨
    ⟨rfl,rfl,rfl,rfl,rfl,rfl,rfl,rfl,rfl,rfl,rfl,rfl,rfl,rfl,trivial⟩
    ,rfl,trivial⟩ rfl rfl rfl ?_
   | refine CallK.val [] a7 c50 ⟨
    ⟨rfl,rfl,rfl,rfl,rfl,rfl,rfl,rfl,rfl,rfl,rfl,rfl,rfl,rfl,trivial⟩
    ,rfl,trivial⟩ rfl rfl rfl ?_)
   |((with_reducible refine kQ 52 ?_);first
   | refine CallK.val [] a6 c52 ⟨
    ⟨rfl,rfl,rfl,rfl,rfl,rfl,rfl,rfl,rfl,rfl,rfl,rfl,rfl,rfl,trivial⟩
    ,rfl,rfl,rfl,trivial⟩ rfl rfl rfl ?_
   | refine CallK.val [] a8 c52 ⟨
    ⟨rfl,rfl,rfl,rfl,rfl,rfl,rfl,rfl,rfl,rfl,rfl,rfl,rfl,rfl,trivial⟩
    ,rfl,rfl,rfl,trivial⟩ rfl rfl rfl ?_))<;>with_reducible refine wK ?_)
  |apply trivial)
 dsimp only[List.append];with_reducible refine wK ?_
 repeat' (first
  |refine gK ?_|refine aE ?_ ?_
  | ((first
   |((with_reducible show IdxK _ _ _ _ _);first|refine IdxK.mk 1 (eState ⟨3,0,-1,false⟩) rfl rfl ?_|refine IdxK.mk 1 (eState ⟨4,-1,-1,false⟩) rfl rfl ?_)
   |((with_reducible show EqK _ _ _ _ _ _ _ _);refine EqK.mk _ (fun y z w=>state_eql ⟨4,-1,-1,false⟩ ⟨4,-1,-1,false⟩ y z w) ?_)
   |((with_reducible refine kQ 56 ?_);first
   | refine CallK.lit [] a9 c56 ⟨
    ⟨rfl,rfl,rfl,rfl,rfl,rfl,rfl,rfl,rfl,rfl,rfl,rfl,rfl,rfl,trivial⟩
    ,rfl,rfl,rfl,trivial⟩ rfl rfl ?_
   | refine CallK.lit [] a10 c56 ⟨
    ⟨rfl,rfl,rfl,rfl,rfl,rfl,rfl,rfl,rfl,rfl,rfl,rfl,rfl,rfl,trivial⟩
    ,rfl,rfl,rfl,trivial⟩ rfl rfl ?_))<;>with_reducible refine wK ?_)
  |apply trivial)
 all_goals first|rfl
theorem wrap_g {a:Int}(h:0≤a∧a<256):IntKind.i64.wrap a=a:=IntWalk.i64_in _ (by omega)
theorem bear_no {w:WorldM}{s is:ByteArray}{doc:Int}(h:(bearW w s is doc).2.2≠0):bearW w s is doc=(w,-1,(bearW w s is doc).2.2):=by
 by_cases c1:(rightG w&&thereN w.f.nodes doc)=true
 ·have c1':=c1
  rw[Bool.and_eq_true,rightG_iff] at c1'
  by_cases c2:(nd w.f.nodes doc).kind=0
  ·by_cases c3:bearOK s is=true
   ·rw[bear_eq c1'.1 c1'.2 c2 c3] at h ⊢
    by_cases c4:(w.f.nodes.length:Int)=w.f.most
    ·rw[if_pos c4]
    ·rw[if_neg c4] at h;exact absurd rfl h
   ·unfold bearW;rw[if_pos c1,if_pos c2,if_neg c3]
  ·unfold bearW;rw[if_pos c1,if_neg c2]
 ·unfold bearW;rw[if_neg c1]
structure BornF (w:WorldM) (s is:ByteArray) (x:WorldM):Prop where
 r:RightG x
 sm:SmallW x
 st:x.states[w.f.nodes.length]? =some ⟨bornM (lowS s) is,-1,-1,false⟩
 td:x.line.todos[w.f.nodes.length]? =some []
 nd:x.f.nodes[w.f.nodes.length]? =some ⟨1,lowS s,is,⟨#[]⟩,[],-1,[],-1,-1,0⟩
theorem bear_born {w:WorldM}(S:SmallW w)(h63:w.f.nodes.length≤63){B:Nat}(hl:SmL B w.line)(hB:B≤70000)(ht:w.tasks.length≤70000){s is:ByteArray}(hz:(lowS s).size≤300)(h:(bearW w s is 0).2.2=0):(bearW w s is 0).2.1=(w.f.nodes.length:Int)∧BornF w s is (bearW w s is 0).1:=by
 obtain⟨R,h1,h2,h3,h4⟩:=bear_yes h
 have V:=bear_right R h1 h2 h3 h4
 have hrf:=make_right (bear_make R.rf h1 h2 h3) h4
 have hfo:=more_follows w (madeN w.f (bearN s is 0))
 have hsm:SmallN (moreF w.f (madeN w.f (bearN s is 0))).nodes:=more_small S.f h63 (y:=madeN w.f (bearN s is 0)) (Nat.zero_le _) (Nat.zero_le _) hz
 have hx:(moreF w.f (madeN w.f (bearN s is 0))).nodes[w.f.nodes.length]? =some (madeN w.f (bearN s is 0)):=by
  show(w.f.nodes++ [_])[w.f.nodes.length]? =_
  rw[List.getElem?_append_right (Nat.le_refl _),Nat.sub_self];rfl
 rw[bear_eq R h1 h2 h3,if_neg h4]
 refine⟨rfl,V,(tellG_small S hl hB ht hsm (ns:=[]) (by decide) R hrf hfo).1,?_,?_,?_⟩
 ·exact tell_new R hrf hfo [] (Nat.le_of_eq R.sl) hx
 ·exact new_todo R hrf hfo (Nat.le_of_eq R.sl) hx
 ·show(tellG w (moreF w.f (madeN w.f (bearN s is 0))) []).f.nodes[w.f.nodes.length]? =_
  rw[tell_f];exact hx
theorem BornF.fit {w:WorldM}{s is:ByteArray}{x:WorldM}(h:BornF w s is x):fitW x w.f.nodes.length (lowS s) 0=0:=by
 rw[fit_no (rightG_iff.2 h.r) rfl h.nd,if_pos]
 unfold fitN
 simp
theorem f11_ok (w:WorldM)(cut:Int)(hc:0≤cut∧cut<256)(s is:ByteArray):FnOK Tryz.prog 11 [] [eWorld w,.lit (.int .u8 cut),eStr s,eStr is] [] (eBool true):=by
 have h15:=gAwake_ok
 have h16:=rShort_ok w
 cases e1:shortG w with
 | false=>
   rw[e1] at h16
   obtain⟨⟨l,m⟩,st,⟨d1,d2,d3,d4⟩,⟨a,b,c,d⟩,ta,bu,cs⟩:=w
   refine FnOK.startC (rvs:=[.tmp 8]) G G_good Tryz.func11 rfl Tryz.ntmps11 rfl rfl ?_;with_reducible refine wD ?_
   repeat' (first
  |refine gK ?_|refine aE ?_ ?_
  | ((first
   |((with_reducible refine kQ 46 ?_);refine cL h15 c46 ?_)
   | ((with_reducible refine kQ 16 ?_);refine CallK.lit [] h16 c16 ⟨
       ⟨rfl,rfl,rfl,rfl,rfl,rfl,rfl,rfl,rfl,rfl,rfl,rfl,rfl,rfl,trivial⟩
       ,trivial⟩ rfl rfl ?_))<;>with_reducible refine wK ?_)
  |apply trivial)
 |true=>
 rw[e1] at h16
 have S:=shortG_iff.1 e1
 by_cases e2:(300:Int)< (s.size:Int)
 ·clear S e1
  obtain⟨⟨l,m⟩,st,⟨d1,d2,d3,d4⟩,⟨a,b,c,d⟩,ta,bu,cs⟩:=w
  refine FnOK.startC (rvs:=[.tmp 8]) G G_good Tryz.func11 rfl Tryz.ntmps11 rfl rfl ?_;with_reducible refine wD ?_
  (have fct:=e2;(repeat' (first
  |refine gF ?_|refine aE ?_ ?_
  | ((first
   |((with_reducible refine kQ 46 ?_);refine cL h15 c46 ?_)
   | ((with_reducible refine kQ 16 ?_);refine CallK.lit [] h16 c16 ⟨
       ⟨rfl,rfl,rfl,rfl,rfl,rfl,rfl,rfl,rfl,rfl,rfl,rfl,rfl,rfl,trivial⟩
       ,trivial⟩ rfl rfl ?_))<;>with_reducible refine wK ?_)
  |apply trivial));all_goals clear fct)
 by_cases e2b:(300:Int)< (is.size:Int)
 ·clear S e1
  obtain⟨⟨l,m⟩,st,⟨d1,d2,d3,d4⟩,⟨a,b,c,d⟩,ta,bu,cs⟩:=w
  refine FnOK.startC (rvs:=[.tmp 8]) G G_good Tryz.func11 rfl Tryz.ntmps11 rfl rfl ?_;with_reducible refine wD ?_
  (have fct:=And.intro (eq_false e2) (e2b);(repeat' (first
  |refine gF ?_|refine aE ?_ ?_
  | ((first
   |((with_reducible refine kQ 46 ?_);refine cL h15 c46 ?_)
   | ((with_reducible refine kQ 16 ?_);refine CallK.lit [] h16 c16 ⟨
       ⟨rfl,rfl,rfl,rfl,rfl,rfl,rfl,rfl,rfl,rfl,rfl,rfl,rfl,rfl,trivial⟩
       ,trivial⟩ rfl rfl ?_))<;>with_reducible refine wK ?_)
  |apply trivial));all_goals clear fct)
 have h19:=wRight_ok w S.small
 cases e3:rightG w with
 | false=>
   rw[e3] at h19
   clear S e1
   obtain⟨⟨l,m⟩,st,⟨d1,d2,d3,d4⟩,⟨a,b,c,d⟩,ta,bu,cs⟩:=w
   refine FnOK.startC (rvs:=[.tmp 8]) G G_good Tryz.func11 rfl Tryz.ntmps11 rfl rfl ?_;with_reducible refine wD ?_
   (have fct:=And.intro (eq_false e2) ((eq_false e2b));(repeat' (first
  |refine gF ?_|refine aE ?_ ?_
  | ((first
   |((with_reducible refine kQ 46 ?_);refine cL h15 c46 ?_)
   | ((with_reducible refine kQ 16 ?_);refine CallK.lit [] h16 c16 ⟨
       ⟨rfl,rfl,rfl,rfl,rfl,rfl,rfl,rfl,rfl,rfl,rfl,rfl,rfl,rfl,trivial⟩
       ,trivial⟩ rfl rfl ?_)
   | ((with_reducible refine kQ 19 ?_);refine CallK.lit [] h19 c19 ⟨
       ⟨rfl,rfl,rfl,rfl,rfl,rfl,rfl,rfl,rfl,rfl,rfl,rfl,rfl,rfl,trivial⟩
       ,trivial⟩ rfl rfl ?_))<;>with_reducible refine wK ?_)
  |apply trivial));all_goals clear fct)
 |true=>
 rw[e3] at h19
 have R:=rightG_iff.1 e3
 have hsm:=S.small
 have hn1:1≤w.f.nodes.length:=by
  have:=R.rf
  unfold rightF headOK at this
  simp only[Bool.and_eq_true,decide_eq_true_eq] at this
  exact this.1.1.1.2
 have hn2:w.f.nodes.length≤60:=by
  have:=S.f
  unfold shortF at this
  rw[Bool.and_eq_true,decide_eq_true_eq] at this;exact this.1
 have hsl:=R.sl
 have htl:=R.tl
 obtain⟨k,hk⟩:∃k:Nat,cut% (w.states.length:Int)=k:=⟨_,(Int.toNat_of_nonneg (Int.emod_nonneg _ (by omega))).symm⟩
 have hkl:k<w.states.length:=by
  have:=Int.emod_lt_of_pos cut (show(0:Int)< (w.states.length:Int) by omega)
  omega
 have hl6:=sml_of S.l
 have hBk:=gBreak_ok w hsm k
 have hB:=gBear_ok w hsm (by omega) (hl6.mono (by decide)) (by have:=S.ta;omega) s is (by rw[lowS_size];omega) 0
 have hSw:=world_same w hsm
 have hno:=bear_no (w:=w) (s:=s) (is:=is) (doc:=0)
 have hye:=bear_born hsm (by omega) hl6 (by decide) (by have:=S.ta;omega) (s:=s) (is:=is) (by rw[lowS_size];omega)
 obtain⟨⟨x0,x1,x2,x3,x4,x5,x6,x7,x8,x9⟩,hx⟩:∃x,w.f.nodes[k]? =some x:=⟨_,List.getElem?_eq_getElem (by omega)⟩
 obtain⟨⟨s1,s2,s3,s4⟩,hs⟩:∃x,w.states[k]? =some x:=⟨_,List.getElem?_eq_getElem hkl⟩
 have hel:elemG w k=decide (x0=1):=by unfold elemG elemV;rw[e3,there_get hx,nd_get hx];rfl
 have hstm:(w.states.map oState).length=w.states.length:=List.length_map ..
 generalize hBg:bearW w s is 0=B at*
 clear hBg
 obtain⟨x,bn,be⟩:=B
 simp only at hB hno hye
 by_cases ca:x0=1∧¬s1=3
 ·have hbw:breakW w k=(spoilG w k,0):=by
   unfold breakW
   rw[hel,decide_eq_true ca.1,stOf_get hs,decide_eq_false (show ¬ (StateM.mk s1 s2 s3 s4).phase=3 from ca.2)];rfl
  have he:elemV w.f.nodes k=true:=by unfold elemV;rw[there_get hx,nd_get hx];exact decide_eq_true ca.1
  have V:=spoil_right R he
  have Vs:=spoil_small hsm k
  have hg:=fun j=>spoil_get hs (show k<w.line.todos.length by omega) j
  have hvs:=(hg k).1
  have hvt:=(hg k).2
  rw[if_pos rfl] at hvs hvt
  have hbv:=gBreak_ok (spoilG w k) Vs k
  have hbvw:breakW (spoilG w k) k=(spoilG w k,0):=by
   unfold breakW
   rw[show elemG (spoilG w k) k=true from by unfold elemG;rw[rightG_iff.2 V];exact he,stOf_get hvs,spoil_spoil hs]
   rfl
  rw[hbvw] at hbv
  rw[hbw] at hBk
  have hSv:=world_same (spoilG w k) Vs
  have hRv:=wRight_ok (spoilG w k) Vs
  rw[rightG_iff.2 V] at hRv
  have hov:=gOthers_ok (spoilG w k) w k (by have:=Vs.st;omega) (by show(w.states.set _ _).length=_;rw[List.length_set]) (by show(w.line.todos.set _ _).length=_;rw[List.length_set]) (by have:=V.sl;have:=V.tl;omega) (fun t ht=>by have:=hl6.todo t ht;omega) (fun j hj=>by
   have:=hg j
   rw[if_neg (fun q=>hj q.symm),if_neg (fun q=>hj q.symm)] at this
   exact this)
  have hfs:=for_same w.f hsm.f
  have hvf:(spoilG w k).f=w.f:=rfl
  have hva:setS ⟨s1,s2,s3,s4⟩ 4 (-1)=⟨4,-1,s3,s4⟩:=rfl
  rw[hva] at hvs
  have hvm:((spoilG w k).states.map oState).length=w.states.length:=by rw[List.length_map];exact(List.length_set ..)
  clear hg V Vs hbw hbvw he hva hel
  generalize spoilG w k=v at*
  obtain⟨c1,c2⟩:=ca
  by_cases eb:be=0
  ·obtain⟨hbn,F⟩:=hye eb
   have hRb:=wRight_ok x F.sm
   rw[rightG_iff.2 F.r] at hRb
   have hfb:=gFit_ok x F.sm w.f.nodes.length (lowS s) 0
   rw[F.fit] at hfb
   have hbr:=f41_ok (lowS s) is
   have q1:=F.st
   have q2:=F.td
   have q3:=F.nd
   have hbn':bn=(w.states.length:Int):=by rw[hbn,hsl]
   rw[hbn] at hB
   have hln:(w.f.nodes.length:Int)=((w.states.map oState).length:Int):=by rw[hstm,hsl]
   clear F hno hye S R hsm hl6 e1 e3 hbn hbn' htl hn2 hkl
   generalize hbo:bornM (lowS s) is=bo at*
   generalize lowS s=ls at*
   generalize w.f.nodes.length=K at*
   obtain⟨⟨l'',m''⟩,st'',⟨d1'',d2'',d3'',d4''⟩,⟨a'',b'',c'',d''⟩,ta'',bu'',cs''⟩:=x
   obtain⟨⟨l',m'⟩,st',⟨d1',d2',d3',d4'⟩,⟨a',b',c',d'⟩,ta',bu',cs'⟩:=v
   obtain⟨⟨l,m⟩,st,⟨d1,d2,d3,d4⟩,⟨a,b,c,d⟩,ta,bu,cs⟩:=w
   simp only at*
   obtain⟨rfl,rfl⟩:l'=l∧m'=m:=by cases hvf;exact⟨rfl,rfl⟩
   refine FnOK.startC (rvs:=[.tmp 8]) G G_good Tryz.func11 rfl Tryz.ntmps11 rfl rfl ?_;with_reducible refine wD ?_
   (have fct:=And.intro (eq_false e2) ((eq_false e2b));(repeat' (first
  |refine gF ?_|refine aE ?_ ?_
  | ((first
   |((with_reducible refine kQ 46 ?_);refine cL h15 c46 ?_)
   | ((with_reducible refine kQ 16 ?_);refine CallK.lit [] h16 c16 ⟨
     ⟨rfl,rfl,rfl,rfl,rfl,rfl,rfl,rfl,rfl,rfl,rfl,rfl,rfl,rfl,trivial⟩
     ,trivial⟩ rfl rfl ?_)
   | ((with_reducible refine kQ 19 ?_);refine CallK.lit [] h19 c19 ⟨
     ⟨rfl,rfl,rfl,rfl,rfl,rfl,rfl,rfl,rfl,rfl,rfl,rfl,rfl,rfl,trivial⟩
     ,trivial⟩ rfl rfl ?_))<;>with_reducible refine wK ?_)
  | apply trivial));all_goals clear fct)
   refine ConvK.int (by kernel_rfl) (by kernel_rfl) (wrap_g hc) ?_;with_reducible refine wK ?_
   repeat' (first
  |refine gK ?_|refine aE ?_ ?_
  | apply trivial)
   refine HandK.rem hc.1 (show 0< ((st.map oState).length:Int) by omega) rfl rfl rfl rfl ?_;with_reducible refine wK ?_
   rw[hstm,hk]
   (have fct:=And.intro c1 (And.intro (eq_false c2) (And.intro eb (And.intro hstm (hsl))));(repeat' (first
  |refine gF ?_|refine aE ?_ ?_
  | ((first
   | ((with_reducible refine kQ 54 ?_);refine CallK.val [] hBk c54 ⟨
    ⟨rfl,rfl,rfl,rfl,rfl,rfl,rfl,rfl,rfl,rfl,rfl,rfl,rfl,rfl,trivial⟩
    ,rfl,trivial⟩ rfl rfl rfl ?_)
   |((with_reducible show IdxK _ _ _ _ _);first|refine IdxK.mk k (eNode ⟨x0,x1,x2,x3,x4,x5,x6,x7,x8,x9⟩) rfl (node_get hx) ?_|refine IdxK.mk k (eState ⟨s1,s2,s3,s4⟩) rfl (state_get hs) ?_|refine IdxK.mk k (eState ⟨4,-1,s3,s4⟩) rfl (state_get hvs) ?_|refine IdxK.mk k (eTodos []) rfl (todos_get hvt) ?_|refine IdxK.mk K (eState ⟨bo,-1,-1,false⟩) rfl (state_get q1) ?_|refine IdxK.mk K (eTodos []) rfl (todos_get q2) ?_|refine IdxK.mk K (eNode ⟨1,ls,is,⟨#[]⟩,[],-1,[],-1,-1,0⟩) rfl (node_get q3) ?_)
   |((with_reducible refine kQ 54 ?_);refine CallK.val [] hbv c54 ⟨
        ⟨rfl,rfl,rfl,rfl,rfl,rfl,rfl,rfl,rfl,rfl,rfl,rfl,rfl,rfl,trivial⟩
        ,rfl,trivial⟩ rfl rfl rfl ?_)
   |((with_reducible refine kQ 23 ?_);refine CallK.lit [] hSv c23 ⟨
        ⟨rfl,rfl,rfl,rfl,rfl,rfl,rfl,rfl,rfl,rfl,rfl,rfl,rfl,rfl,trivial⟩
        ,
        ⟨rfl,rfl,rfl,rfl,rfl,rfl,rfl,rfl,rfl,rfl,rfl,rfl,rfl,rfl,trivial⟩
        ,trivial⟩ rfl rfl ?_)
   |((with_reducible refine kQ 19 ?_);refine CallK.lit [] hRv c19 ⟨
        ⟨rfl,rfl,rfl,rfl,rfl,rfl,rfl,rfl,rfl,rfl,rfl,rfl,rfl,rfl,trivial⟩
        ,trivial⟩ rfl rfl ?_)
   |((with_reducible refine kQ 48 ?_);refine CallK.lit [] hov c48 ⟨
        ⟨rfl,rfl,rfl,rfl,rfl,rfl,rfl,rfl,rfl,rfl,rfl,rfl,rfl,rfl,trivial⟩
        ,
        ⟨rfl,rfl,rfl,rfl,rfl,rfl,rfl,rfl,rfl,rfl,rfl,rfl,rfl,rfl,trivial⟩
        ,rfl,trivial⟩ rfl rfl ?_)
   |((with_reducible refine kQ 37 ?_);refine cL hfs c37 ?_)
   |((with_reducible refine kQ 55 ?_);refine CallK.val [] hB c55 ⟨
        ⟨rfl,rfl,rfl,rfl,rfl,rfl,rfl,rfl,rfl,rfl,rfl,rfl,rfl,rfl,trivial⟩
        ,rfl,rfl,rfl,trivial⟩ rfl rfl rfl ?_)
   |((with_reducible refine kQ 23 ?_);refine CallK.lit [] hSw c23 ⟨
        ⟨rfl,rfl,rfl,rfl,rfl,rfl,rfl,rfl,rfl,rfl,rfl,rfl,rfl,rfl,trivial⟩
        ,
        ⟨rfl,rfl,rfl,rfl,rfl,rfl,rfl,rfl,rfl,rfl,rfl,rfl,rfl,rfl,trivial⟩
        ,trivial⟩ rfl rfl ?_)
   |((with_reducible refine kQ 19 ?_);refine CallK.lit [] hRb c19 ⟨
        ⟨rfl,rfl,rfl,rfl,rfl,rfl,rfl,rfl,rfl,rfl,rfl,rfl,rfl,rfl,trivial⟩
        ,trivial⟩ rfl rfl ?_)
   |((with_reducible refine kQ 41 ?_);refine cL hbr c41 ?_)
   |((with_reducible refine kQ 56 ?_);refine CallK.lit [] hfb c56 ⟨
        ⟨rfl,rfl,rfl,rfl,rfl,rfl,rfl,rfl,rfl,rfl,rfl,rfl,rfl,rfl,trivial⟩
        ,rfl,rfl,rfl,trivial⟩ rfl rfl ?_))<;>with_reducible refine wK ?_)
  | apply trivial));all_goals clear fct)
   all_goals first|rfl
  ·have hxw:x=w∧bn=-1:=by
    have:=hno eb
    simp only[Prod.mk.injEq] at this
    exact⟨this.1,this.2.1⟩
   rw[hxw.1,hxw.2] at hB
   clear hno hye S R hsm hl6 e1 e3 htl hn2 hkl hxw x
   obtain⟨⟨l',m'⟩,st',⟨d1',d2',d3',d4'⟩,⟨a',b',c',d'⟩,ta',bu',cs'⟩:=v
   obtain⟨⟨l,m⟩,st,⟨d1,d2,d3,d4⟩,⟨a,b,c,d⟩,ta,bu,cs⟩:=w
   simp only at*
   obtain⟨rfl,rfl⟩:l'=l∧m'=m:=by cases hvf;exact⟨rfl,rfl⟩
   refine FnOK.startC (rvs:=[.tmp 8]) G G_good Tryz.func11 rfl Tryz.ntmps11 rfl rfl ?_;with_reducible refine wD ?_
   (have fct:=And.intro (eq_false e2) ((eq_false e2b));(repeat' (first
  |refine gF ?_|refine aE ?_ ?_
  | ((first
   |((with_reducible refine kQ 46 ?_);refine cL h15 c46 ?_)
   | ((with_reducible refine kQ 16 ?_);refine CallK.lit [] h16 c16 ⟨
     ⟨rfl,rfl,rfl,rfl,rfl,rfl,rfl,rfl,rfl,rfl,rfl,rfl,rfl,rfl,trivial⟩
     ,trivial⟩ rfl rfl ?_)
   | ((with_reducible refine kQ 19 ?_);refine CallK.lit [] h19 c19 ⟨
     ⟨rfl,rfl,rfl,rfl,rfl,rfl,rfl,rfl,rfl,rfl,rfl,rfl,rfl,rfl,trivial⟩
     ,trivial⟩ rfl rfl ?_))<;>with_reducible refine wK ?_)
  | apply trivial));all_goals clear fct)
   refine ConvK.int (by kernel_rfl) (by kernel_rfl) (wrap_g hc) ?_;with_reducible refine wK ?_
   repeat' (first
  |refine gK ?_|refine aE ?_ ?_
  | apply trivial)
   refine HandK.rem hc.1 (show 0< ((st.map oState).length:Int) by omega) rfl rfl rfl rfl ?_;with_reducible refine wK ?_
   rw[hstm,hk]
   (have fct:=And.intro c1 (And.intro (eq_false c2) (And.intro (eq_false eb) (And.intro hstm (hsl))));(repeat' (first
  |refine gF ?_|refine aE ?_ ?_
  | ((first
   | ((with_reducible refine kQ 54 ?_);refine CallK.val [] hBk c54 ⟨
    ⟨rfl,rfl,rfl,rfl,rfl,rfl,rfl,rfl,rfl,rfl,rfl,rfl,rfl,rfl,trivial⟩
    ,rfl,trivial⟩ rfl rfl rfl ?_)
   |((with_reducible show IdxK _ _ _ _ _);first|refine IdxK.mk k (eNode ⟨x0,x1,x2,x3,x4,x5,x6,x7,x8,x9⟩) rfl (node_get hx) ?_|refine IdxK.mk k (eState ⟨s1,s2,s3,s4⟩) rfl (state_get hs) ?_|refine IdxK.mk k (eState ⟨4,-1,s3,s4⟩) rfl (state_get hvs) ?_|refine IdxK.mk k (eTodos []) rfl (todos_get hvt) ?_)
   |((with_reducible refine kQ 54 ?_);refine CallK.val [] hbv c54 ⟨
        ⟨rfl,rfl,rfl,rfl,rfl,rfl,rfl,rfl,rfl,rfl,rfl,rfl,rfl,rfl,trivial⟩
        ,rfl,trivial⟩ rfl rfl rfl ?_)
   |((with_reducible refine kQ 23 ?_);refine CallK.lit [] hSv c23 ⟨
        ⟨rfl,rfl,rfl,rfl,rfl,rfl,rfl,rfl,rfl,rfl,rfl,rfl,rfl,rfl,trivial⟩
        ,
        ⟨rfl,rfl,rfl,rfl,rfl,rfl,rfl,rfl,rfl,rfl,rfl,rfl,rfl,rfl,trivial⟩
        ,trivial⟩ rfl rfl ?_)
   |((with_reducible refine kQ 19 ?_);refine CallK.lit [] hRv c19 ⟨
        ⟨rfl,rfl,rfl,rfl,rfl,rfl,rfl,rfl,rfl,rfl,rfl,rfl,rfl,rfl,trivial⟩
        ,trivial⟩ rfl rfl ?_)
   |((with_reducible refine kQ 48 ?_);refine CallK.lit [] hov c48 ⟨
        ⟨rfl,rfl,rfl,rfl,rfl,rfl,rfl,rfl,rfl,rfl,rfl,rfl,rfl,rfl,trivial⟩
        ,
        ⟨rfl,rfl,rfl,rfl,rfl,rfl,rfl,rfl,rfl,rfl,rfl,rfl,rfl,rfl,trivial⟩
        ,rfl,trivial⟩ rfl rfl ?_)
   |((with_reducible refine kQ 37 ?_);refine cL hfs c37 ?_)
   |((with_reducible refine kQ 55 ?_);refine CallK.val [] hB c55 ⟨
        ⟨rfl,rfl,rfl,rfl,rfl,rfl,rfl,rfl,rfl,rfl,rfl,rfl,rfl,rfl,trivial⟩
        ,rfl,rfl,rfl,trivial⟩ rfl rfl rfl ?_)
   |((with_reducible refine kQ 23 ?_);refine CallK.lit [] hSw c23 ⟨
        ⟨rfl,rfl,rfl,rfl,rfl,rfl,rfl,rfl,rfl,rfl,rfl,rfl,rfl,rfl,trivial⟩
        ,
        ⟨rfl,rfl,rfl,rfl,rfl,rfl,rfl,rfl,rfl,rfl,rfl,rfl,rfl,rfl,trivial⟩
        ,trivial⟩ rfl rfl ?_))<;>with_reducible refine wK ?_)
  | apply trivial));all_goals clear fct)
   all_goals first|rfl
 ·have hca:¬x0=1∨x0=1∧s1=3:=by
   by_cases q:x0=1
   ·exact .inr ⟨q,Classical.byContradiction fun z=>ca ⟨q,z⟩⟩
   ·exact .inl q
  have hbw:breakW w k=(w,1):=by
   unfold breakW
   rw[hel,stOf_get hs]
   rcases hca with q|⟨q,z⟩
   ·rw[decide_eq_false q];rfl
   ·rw[decide_eq_true (show(StateM.mk s1 s2 s3 s4).phase=3 from z),decide_eq_true q];rfl
  rw[hbw] at hBk
  clear hbw hel ca
  by_cases eb:be=0
  ·obtain⟨hbn,F⟩:=hye eb
   have hRb:=wRight_ok x F.sm
   rw[rightG_iff.2 F.r] at hRb
   have hfb:=gFit_ok x F.sm w.f.nodes.length (lowS s) 0
   rw[F.fit] at hfb
   have hbr:=f41_ok (lowS s) is
   have q1:=F.st
   have q2:=F.td
   have q3:=F.nd
   rw[hbn] at hB
   clear F hno hye S R hsm hl6 e1 e3 hbn htl hn2 hkl
   generalize hbo:bornM (lowS s) is=bo at*
   generalize lowS s=ls at*
   generalize w.f.nodes.length=K at*
   obtain⟨⟨l'',m''⟩,st'',⟨d1'',d2'',d3'',d4''⟩,⟨a'',b'',c'',d''⟩,ta'',bu'',cs''⟩:=x
   obtain⟨⟨l,m⟩,st,⟨d1,d2,d3,d4⟩,⟨a,b,c,d⟩,ta,bu,cs⟩:=w
   simp only at*
   rcases hca with c1|⟨c1,c2⟩
   ·skip
    refine FnOK.startC (rvs:=[.tmp 8]) G G_good Tryz.func11 rfl Tryz.ntmps11 rfl rfl ?_;with_reducible refine wD ?_
    (have fct:=And.intro (eq_false e2) ((eq_false e2b));(repeat' (first
  |refine gF ?_|refine aE ?_ ?_
  | ((first
   |((with_reducible refine kQ 46 ?_);refine cL h15 c46 ?_)
   | ((with_reducible refine kQ 16 ?_);refine CallK.lit [] h16 c16 ⟨
      ⟨rfl,rfl,rfl,rfl,rfl,rfl,rfl,rfl,rfl,rfl,rfl,rfl,rfl,rfl,trivial⟩
      ,trivial⟩ rfl rfl ?_)
   | ((with_reducible refine kQ 19 ?_);refine CallK.lit [] h19 c19 ⟨
      ⟨rfl,rfl,rfl,rfl,rfl,rfl,rfl,rfl,rfl,rfl,rfl,rfl,rfl,rfl,trivial⟩
      ,trivial⟩ rfl rfl ?_))<;>with_reducible refine wK ?_)
  | apply trivial));all_goals clear fct)
    refine ConvK.int (by kernel_rfl) (by kernel_rfl) (wrap_g hc) ?_;with_reducible refine wK ?_
    repeat' (first
  |refine gK ?_|refine aE ?_ ?_
  | apply trivial)
    refine HandK.rem hc.1 (show 0< ((st.map oState).length:Int) by omega) rfl rfl rfl rfl ?_;with_reducible refine wK ?_
    rw[hstm,hk]
    (have fct:=And.intro (eq_false c1) (And.intro eb (And.intro hstm (hsl)));(repeat' (first
  |refine gF ?_|refine aE ?_ ?_
  | ((first
   | ((with_reducible refine kQ 54 ?_);refine CallK.val [] hBk c54 ⟨
     ⟨rfl,rfl,rfl,rfl,rfl,rfl,rfl,rfl,rfl,rfl,rfl,rfl,rfl,rfl,trivial⟩
     ,rfl,trivial⟩ rfl rfl rfl ?_)
   |((with_reducible show IdxK _ _ _ _ _);first|refine IdxK.mk k (eNode ⟨x0,x1,x2,x3,x4,x5,x6,x7,x8,x9⟩) rfl (node_get hx) ?_|refine IdxK.mk k (eState ⟨s1,s2,s3,s4⟩) rfl (state_get hs) ?_|refine IdxK.mk K (eState ⟨bo,-1,-1,false⟩) rfl (state_get q1) ?_|refine IdxK.mk K (eTodos []) rfl (todos_get q2) ?_|refine IdxK.mk K (eNode ⟨1,ls,is,⟨#[]⟩,[],-1,[],-1,-1,0⟩) rfl (node_get q3) ?_)
   |((with_reducible refine kQ 55 ?_);refine CallK.val [] hB c55 ⟨
         ⟨rfl,rfl,rfl,rfl,rfl,rfl,rfl,rfl,rfl,rfl,rfl,rfl,rfl,rfl,trivial⟩
         ,rfl,rfl,rfl,trivial⟩ rfl rfl rfl ?_)
   |((with_reducible refine kQ 23 ?_);refine CallK.lit [] hSw c23 ⟨
         ⟨rfl,rfl,rfl,rfl,rfl,rfl,rfl,rfl,rfl,rfl,rfl,rfl,rfl,rfl,trivial⟩
         ,
         ⟨rfl,rfl,rfl,rfl,rfl,rfl,rfl,rfl,rfl,rfl,rfl,rfl,rfl,rfl,trivial⟩
         ,trivial⟩ rfl rfl ?_)
   |((with_reducible refine kQ 19 ?_);refine CallK.lit [] hRb c19 ⟨
         ⟨rfl,rfl,rfl,rfl,rfl,rfl,rfl,rfl,rfl,rfl,rfl,rfl,rfl,rfl,trivial⟩
         ,trivial⟩ rfl rfl ?_)
   |((with_reducible refine kQ 41 ?_);refine cL hbr c41 ?_)
   |((with_reducible refine kQ 56 ?_);refine CallK.lit [] hfb c56 ⟨
         ⟨rfl,rfl,rfl,rfl,rfl,rfl,rfl,rfl,rfl,rfl,rfl,rfl,rfl,rfl,trivial⟩
         ,rfl,rfl,rfl,trivial⟩ rfl rfl ?_))<;>with_reducible refine wK ?_)
  | apply trivial));all_goals clear fct)
    all_goals first|rfl
   ·skip
    refine FnOK.startC (rvs:=[.tmp 8]) G G_good Tryz.func11 rfl Tryz.ntmps11 rfl rfl ?_;with_reducible refine wD ?_
    (have fct:=And.intro (eq_false e2) ((eq_false e2b));(repeat' (first
  |refine gF ?_|refine aE ?_ ?_
  | ((first
   |((with_reducible refine kQ 46 ?_);refine cL h15 c46 ?_)
   | ((with_reducible refine kQ 16 ?_);refine CallK.lit [] h16 c16 ⟨
      ⟨rfl,rfl,rfl,rfl,rfl,rfl,rfl,rfl,rfl,rfl,rfl,rfl,rfl,rfl,trivial⟩
      ,trivial⟩ rfl rfl ?_)
   | ((with_reducible refine kQ 19 ?_);refine CallK.lit [] h19 c19 ⟨
      ⟨rfl,rfl,rfl,rfl,rfl,rfl,rfl,rfl,rfl,rfl,rfl,rfl,rfl,rfl,trivial⟩
      ,trivial⟩ rfl rfl ?_))<;>with_reducible refine wK ?_)
  | apply trivial));all_goals clear fct)
    refine ConvK.int (by kernel_rfl) (by kernel_rfl) (wrap_g hc) ?_;with_reducible refine wK ?_
    repeat' (first
  |refine gK ?_|refine aE ?_ ?_
  | apply trivial)
    refine HandK.rem hc.1 (show 0< ((st.map oState).length:Int) by omega) rfl rfl rfl rfl ?_;with_reducible refine wK ?_
    rw[hstm,hk]
    (have fct:=And.intro c1 (And.intro c2 (And.intro eb (And.intro hstm (hsl))));(repeat' (first
  |refine gF ?_|refine aE ?_ ?_
  | ((first
   | ((with_reducible refine kQ 54 ?_);refine CallK.val [] hBk c54 ⟨
     ⟨rfl,rfl,rfl,rfl,rfl,rfl,rfl,rfl,rfl,rfl,rfl,rfl,rfl,rfl,trivial⟩
     ,rfl,trivial⟩ rfl rfl rfl ?_)
   |((with_reducible show IdxK _ _ _ _ _);first|refine IdxK.mk k (eNode ⟨x0,x1,x2,x3,x4,x5,x6,x7,x8,x9⟩) rfl (node_get hx) ?_|refine IdxK.mk k (eState ⟨s1,s2,s3,s4⟩) rfl (state_get hs) ?_|refine IdxK.mk K (eState ⟨bo,-1,-1,false⟩) rfl (state_get q1) ?_|refine IdxK.mk K (eTodos []) rfl (todos_get q2) ?_|refine IdxK.mk K (eNode ⟨1,ls,is,⟨#[]⟩,[],-1,[],-1,-1,0⟩) rfl (node_get q3) ?_)
   |((with_reducible refine kQ 55 ?_);refine CallK.val [] hB c55 ⟨
         ⟨rfl,rfl,rfl,rfl,rfl,rfl,rfl,rfl,rfl,rfl,rfl,rfl,rfl,rfl,trivial⟩
         ,rfl,rfl,rfl,trivial⟩ rfl rfl rfl ?_)
   |((with_reducible refine kQ 23 ?_);refine CallK.lit [] hSw c23 ⟨
         ⟨rfl,rfl,rfl,rfl,rfl,rfl,rfl,rfl,rfl,rfl,rfl,rfl,rfl,rfl,trivial⟩
         ,
         ⟨rfl,rfl,rfl,rfl,rfl,rfl,rfl,rfl,rfl,rfl,rfl,rfl,rfl,rfl,trivial⟩
         ,trivial⟩ rfl rfl ?_)
   |((with_reducible refine kQ 19 ?_);refine CallK.lit [] hRb c19 ⟨
         ⟨rfl,rfl,rfl,rfl,rfl,rfl,rfl,rfl,rfl,rfl,rfl,rfl,rfl,rfl,trivial⟩
         ,trivial⟩ rfl rfl ?_)
   |((with_reducible refine kQ 41 ?_);refine cL hbr c41 ?_)
   |((with_reducible refine kQ 56 ?_);refine CallK.lit [] hfb c56 ⟨
         ⟨rfl,rfl,rfl,rfl,rfl,rfl,rfl,rfl,rfl,rfl,rfl,rfl,rfl,rfl,trivial⟩
         ,rfl,rfl,rfl,trivial⟩ rfl rfl ?_))<;>with_reducible refine wK ?_)
  | apply trivial));all_goals clear fct)
    all_goals first|rfl
  ·have hxw:x=w∧bn=-1:=by
    have:=hno eb
    simp only[Prod.mk.injEq] at this
    exact⟨this.1,this.2.1⟩
   rw[hxw.1,hxw.2] at hB
   clear hno hye S R hsm hl6 e1 e3 htl hn2 hkl hxw x
   obtain⟨⟨l,m⟩,st,⟨d1,d2,d3,d4⟩,⟨a,b,c,d⟩,ta,bu,cs⟩:=w
   simp only at*
   rcases hca with c1|⟨c1,c2⟩
   ·skip
    refine FnOK.startC (rvs:=[.tmp 8]) G G_good Tryz.func11 rfl Tryz.ntmps11 rfl rfl ?_;with_reducible refine wD ?_
    (have fct:=And.intro (eq_false e2) ((eq_false e2b));(repeat' (first
  |refine gF ?_|refine aE ?_ ?_
  | ((first
   |((with_reducible refine kQ 46 ?_);refine cL h15 c46 ?_)
   | ((with_reducible refine kQ 16 ?_);refine CallK.lit [] h16 c16 ⟨
      ⟨rfl,rfl,rfl,rfl,rfl,rfl,rfl,rfl,rfl,rfl,rfl,rfl,rfl,rfl,trivial⟩
      ,trivial⟩ rfl rfl ?_)
   | ((with_reducible refine kQ 19 ?_);refine CallK.lit [] h19 c19 ⟨
      ⟨rfl,rfl,rfl,rfl,rfl,rfl,rfl,rfl,rfl,rfl,rfl,rfl,rfl,rfl,trivial⟩
      ,trivial⟩ rfl rfl ?_))<;>with_reducible refine wK ?_)
  | apply trivial));all_goals clear fct)
    refine ConvK.int (by kernel_rfl) (by kernel_rfl) (wrap_g hc) ?_;with_reducible refine wK ?_
    repeat' (first
  |refine gK ?_|refine aE ?_ ?_
  | apply trivial)
    refine HandK.rem hc.1 (show 0< ((st.map oState).length:Int) by omega) rfl rfl rfl rfl ?_;with_reducible refine wK ?_
    rw[hstm,hk]
    (have fct:=And.intro (eq_false c1) (And.intro (eq_false eb) (And.intro hstm (hsl)));(repeat' (first
  |refine gF ?_|refine aE ?_ ?_
  | ((first
   | ((with_reducible refine kQ 54 ?_);refine CallK.val [] hBk c54 ⟨
     ⟨rfl,rfl,rfl,rfl,rfl,rfl,rfl,rfl,rfl,rfl,rfl,rfl,rfl,rfl,trivial⟩
     ,rfl,trivial⟩ rfl rfl rfl ?_)
   |((with_reducible show IdxK _ _ _ _ _);first|refine IdxK.mk k (eNode ⟨x0,x1,x2,x3,x4,x5,x6,x7,x8,x9⟩) rfl (node_get hx) ?_|refine IdxK.mk k (eState ⟨s1,s2,s3,s4⟩) rfl (state_get hs) ?_)
   |((with_reducible refine kQ 55 ?_);refine CallK.val [] hB c55 ⟨
         ⟨rfl,rfl,rfl,rfl,rfl,rfl,rfl,rfl,rfl,rfl,rfl,rfl,rfl,rfl,trivial⟩
         ,rfl,rfl,rfl,trivial⟩ rfl rfl rfl ?_)
   |((with_reducible refine kQ 23 ?_);refine CallK.lit [] hSw c23 ⟨
         ⟨rfl,rfl,rfl,rfl,rfl,rfl,rfl,rfl,rfl,rfl,rfl,rfl,rfl,rfl,trivial⟩
         ,
         ⟨rfl,rfl,rfl,rfl,rfl,rfl,rfl,rfl,rfl,rfl,rfl,rfl,rfl,rfl,trivial⟩
         ,trivial⟩ rfl rfl ?_))<;>with_reducible refine wK ?_)
  | apply trivial));all_goals clear fct)
    all_goals first|rfl
   ·skip
    refine FnOK.startC (rvs:=[.tmp 8]) G G_good Tryz.func11 rfl Tryz.ntmps11 rfl rfl ?_;with_reducible refine wD ?_
    (have fct:=And.intro (eq_false e2) ((eq_false e2b));(repeat' (first
  |refine gF ?_|refine aE ?_ ?_
  | ((first
   |((with_reducible refine kQ 46 ?_);refine cL h15 c46 ?_)
   | ((with_reducible refine kQ 16 ?_);refine CallK.lit [] h16 c16 ⟨
      ⟨rfl,rfl,rfl,rfl,rfl,rfl,rfl,rfl,rfl,rfl,rfl,rfl,rfl,rfl,trivial⟩
      ,trivial⟩ rfl rfl ?_)
   | ((with_reducible refine kQ 19 ?_);refine CallK.lit [] h19 c19 ⟨
      ⟨rfl,rfl,rfl,rfl,rfl,rfl,rfl,rfl,rfl,rfl,rfl,rfl,rfl,rfl,trivial⟩
      ,trivial⟩ rfl rfl ?_))<;>with_reducible refine wK ?_)
  | apply trivial));all_goals clear fct)
    refine ConvK.int (by kernel_rfl) (by kernel_rfl) (wrap_g hc) ?_;with_reducible refine wK ?_
    repeat' (first
  |refine gK ?_|refine aE ?_ ?_
  | apply trivial)
    refine HandK.rem hc.1 (show 0< ((st.map oState).length:Int) by omega) rfl rfl rfl rfl ?_;with_reducible refine wK ?_
    rw[hstm,hk]
    (have fct:=And.intro c1 (And.intro c2 (And.intro (eq_false eb) (And.intro hstm (hsl))));(repeat' (first
  |refine gF ?_|refine aE ?_ ?_
  | ((first
   | ((with_reducible refine kQ 54 ?_);refine CallK.val [] hBk c54 ⟨
     ⟨rfl,rfl,rfl,rfl,rfl,rfl,rfl,rfl,rfl,rfl,rfl,rfl,rfl,rfl,trivial⟩
     ,rfl,trivial⟩ rfl rfl rfl ?_)
   |((with_reducible show IdxK _ _ _ _ _);first|refine IdxK.mk k (eNode ⟨x0,x1,x2,x3,x4,x5,x6,x7,x8,x9⟩) rfl (node_get hx) ?_|refine IdxK.mk k (eState ⟨s1,s2,s3,s4⟩) rfl (state_get hs) ?_)
   |((with_reducible refine kQ 55 ?_);refine CallK.val [] hB c55 ⟨
         ⟨rfl,rfl,rfl,rfl,rfl,rfl,rfl,rfl,rfl,rfl,rfl,rfl,rfl,rfl,trivial⟩
         ,rfl,rfl,rfl,trivial⟩ rfl rfl rfl ?_)
   |((with_reducible refine kQ 23 ?_);refine CallK.lit [] hSw c23 ⟨
         ⟨rfl,rfl,rfl,rfl,rfl,rfl,rfl,rfl,rfl,rfl,rfl,rfl,rfl,rfl,trivial⟩
         ,
         ⟨rfl,rfl,rfl,rfl,rfl,rfl,rfl,rfl,rfl,rfl,rfl,rfl,rfl,rfl,trivial⟩
         ,trivial⟩ rfl rfl ?_))<;>with_reducible refine wK ?_)
  | apply trivial));all_goals clear fct)
    all_goals first|rfl
end Go.Proofs.Heir
namespace Go.Proofs.Heir
open Go Go.Am Go.RowKit Go.Lib
set_option maxRecDepth 100000
set_option maxHeartbeats 8000000
theorem rStr:Reads Tryz.prog 9 1 eStr (fun s=>s.size≤maxLen):=Reads.str Tryz.underlying9 (by kernel_rfl)
theorem rInt:Reads Tryz.prog 3 1 oInt (fun _=>True):=(Reads.int Tryz.underlying3 (by kernel_rfl)).conv id id (fun _=>rfl) (fun _=>rfl) (fun _ _=>trivial)
theorem rBool:Reads Tryz.prog 4 1 (fun b:Bool=>.lit (.bool b)) (fun _=>True):=Reads.bool Tryz.underlying4 (by kernel_rfl)
theorem rDef:Reads Tryz.prog 95 3 oDef (fun _=>True):=
 (Reads.struct (l:=[(0,9),(1,9),(2,3)]) Tryz.underlying95 (by kernel_rfl) rfl (.cons rStr (.cons rStr (.cons rInt .nil)))).conv
  (fun(a,b,c,_)=>⟨a,b,c⟩) (fun t=>(t.name,t.locl,t.cls,())) (fun _=>rfl) (fun _=>rfl) (fun _ _=>trivial)
theorem rWait:Reads Tryz.prog 162 2 oWait (fun _=>True):=
 (Reads.struct (l:=[(0,9),(1,3)]) Tryz.underlying162 (by kernel_rfl) rfl (.cons rStr (.cons rInt .nil))).conv
  (fun(a,b,_)=>⟨a,b⟩) (fun t=>(t.name,t.ticket,())) (fun _=>rfl) (fun _=>rfl) (fun _ _=>trivial)
theorem rDefs1:Reads Tryz.prog 26 1 eDefs (fun _=>True):=(Reads.slice Tryz.underlying26 (by kernel_rfl) rDef (by omega)).conv id id (fun _=>rfl) (fun _=>rfl) (fun _ _=>trivial)
theorem rWaits1:Reads Tryz.prog 27 1 eWaits (fun _=>True):=(Reads.slice Tryz.underlying27 (by kernel_rfl) rWait (by omega)).conv id id (fun _=>rfl) (fun _=>rfl) (fun _ _=>trivial)
theorem rDesk:Reads Tryz.prog 29 4 eDesk (fun _=>True):=
 (Reads.struct (l:=[(0,26),(1,27),(2,3),(3,4)]) Tryz.underlying29 (by kernel_rfl) rfl (.cons rDefs1 (.cons rWaits1 (.cons rInt (.cons rBool .nil))))).conv
  (fun(a,b,c,e,_)=>⟨a,b,c,e⟩) (fun t=>(t.defs,t.waits,t.next,t.busy,())) (fun _=>rfl) (fun _=>rfl) (fun _ _=>trivial)
theorem rAttr:Reads Tryz.prog 179 2 oAttr (fun _=>True):=
 (Reads.struct (l:=[(0,9),(1,9)]) Tryz.underlying179 (by kernel_rfl) rfl (.cons rStr (.cons rStr .nil))).conv
  (fun(a,b,_)=>⟨a,b⟩) (fun t=>(t.name,t.value,())) (fun _=>rfl) (fun _=>rfl) (fun _ _=>trivial)
theorem rAttrs1:Reads Tryz.prog 78 1 eAttrs (fun _=>True):=(Reads.slice Tryz.underlying78 (by kernel_rfl) rAttr (by omega)).conv id id (fun _=>rfl) (fun _=>rfl) (fun _ _=>trivial)
theorem rInts1:Reads Tryz.prog 32 1 eInts (fun _=>True):=(Reads.slice Tryz.underlying32 (by kernel_rfl) rInt (by omega)).conv id id (fun _=>rfl) (fun _=>rfl) (fun _ _=>trivial)
theorem rNode:Reads Tryz.prog 80 10 oNode (fun _=>True):=
 (Reads.struct (l:=[(0,3),(1,9),(2,9),(3,9),(4,78),(5,3),(6,32),(7,3),(8,3),(9,3)]) Tryz.underlying80 (by kernel_rfl) rfl
  (.cons rInt (.cons rStr (.cons rStr (.cons rStr (.cons rAttrs1 (.cons rInt (.cons rInts1 (.cons rInt (.cons rInt (.cons rInt .nil))))))))))).conv
  (fun(a,b,c,d,e,f,g,h,i,j,_)=>⟨a,b,c,d,e,f,g,h,i,j⟩)
  (fun t=>(t.kind,t.name,t.is,t.data,t.attrs,t.parent,t.kids,t.host,t.under,t.doc,())) (fun _=>rfl) (fun _=>rfl) (fun _ _=>trivial)
theorem rNodes1:Reads Tryz.prog 22 1 eNodes (fun _=>True):=(Reads.slice Tryz.underlying22 (by kernel_rfl) rNode (by omega)).conv id id (fun _=>rfl) (fun _=>rfl) (fun _ _=>trivial)
theorem rFor:Reads Tryz.prog 24 2 eFor (fun _=>True):=
 (Reads.struct (l:=[(0,22),(1,3)]) Tryz.underlying24 (by kernel_rfl) rfl (.cons rNodes1 (.cons rInt .nil))).conv
  (fun(a,b,_)=>⟨a,b⟩) (fun t=>(t.nodes,t.most,())) (fun _=>rfl) (fun _=>rfl) (fun _ _=>trivial)
theorem laid:Go.laidOutB Tryz.prog=true:=by kernel_rfl
abbrev laidRows:List (String×DataW Unit):=[("unicode.White_Space",Go.Proofs.YtciccajdpmahiaaGreatDoor.Rows.laid_unicode_White_Space),("strings.asciiSpace",Go.Proofs.YtciccajdpmahiaaGreatDoor.Rows.laid_strings_asciiSpace)]
theorem tab_eq:(Go.Proofs.YtciccajdpmahiaaGreatDoor.Rows.laid_strings_asciiSpace:DataW Unit)=Lib.tabData .u8 Lib.asciiSpaceTab:=by kernel_rfl
theorem door_met (os:Os)(args:Array Value):laidMetH Tryz.prog laidRows ((World.doorLaid Tryz.prog 33 os).forCall (fun _ _=>0) ⟨#[],args,[]⟩).memory:=
 laidMetH_of_parts3 (fuel:=8) (laidMet_of_run' 8 (by kernel_rfl) (by kernel_rfl)) (by kernel_rfl) (by kernel_rfl)
theorem gSp:Tryz.prog.globalNamed "strings.asciiSpace" =some 1:=by kernel_rfl
theorem tySp:(Tryz.prog.globals[1]?).map (·.type)=some 307:=by kernel_rfl
theorem tabs_of_laid {W:World}(h:laidMetH Tryz.prog laidRows W):Tabs Tryz.prog W fun _=>none:=by
 rw[MakeChecks.laidMetH_plain _ _ _ (by kernel_rfl)] at h
 obtain⟨ps,⟨g0,t0,cs0,f0,p0,q0,hg0,ht0,hv0,hd0,⟨g1,t1,cs1,f1,p1,q1,hg1,ht1,hv1,hd1,_,_⟩,_⟩,_⟩:=h
 intro g hg
 obtain rfl:=Option.some.inj (hg.symm.trans hg1)
 have e:g=1:=Option.some.inj (hg.symm.trans gSp)
 have ht:(Tryz.prog.globals[g]?).map (·.type)=some 307:=by rw[e];exact tySp
 obtain rfl:=Option.some.inj (ht.symm.trans ht1)
 rw[tab_eq] at hd1
 have hc:=Lib.cells_of_tab Tryz.underlying307 Tryz.underlying5 (by kernel_rfl) (by kernel_rfl) hd1
 have htab:Lib.TabIs Tryz.prog W "strings.asciiSpace" .u8 Lib.asciiSpaceTab:=by
  unfold Lib.TabIs
  rw[hv1,←hc]
 have hcell:∀c:Nat,c<256→W.cell? ⟨g,c,none⟩=some (.int .u8 (if Lib.isSp (UInt8.ofNat c) then 1 else 0)):=fun c hc=>by
  rw[htab.cell hg c (by rw[Lib.asciiSpaceTab_length];exact hc),Lib.asciiSpaceTab_at c hc]
 refine⟨(by rintro⟨_,_,h,_⟩;cases h),World.block_lt_of_cell? _ _ (hcell 0 (by omega)),hcell⟩
theorem rOp:Reads Tryz.prog 274 7 oOp (fun _=>True):=
 (Reads.struct (l:=[(0,3),(1,3),(2,3),(3,3),(4,9),(5,9),(6,4)]) Tryz.underlying274 (by kernel_rfl) rfl (.cons rInt (.cons rInt (.cons rInt (.cons rInt (.cons rStr (.cons rStr (.cons rBool .nil)))))))).conv
  (fun(a,b,c,d,e,f,g,_)=>⟨a,b,c,d,e,f,g⟩) (fun t=>(t.kind,t.a,t.b,t.c,t.s,t.t,t.must,())) (fun _=>rfl) (fun _=>rfl) (fun _ _=>trivial)
theorem rOps1:Reads Tryz.prog 50 1 eOps (fun _=>True):=(Reads.slice Tryz.underlying50 (by kernel_rfl) rOp (by omega)).conv id id (fun _=>rfl) (fun _=>rfl) (fun _ _=>trivial)
theorem rHook:Reads Tryz.prog 138 2 oHook (fun _=>True):=
 (Reads.struct (l:=[(0,3),(1,50)]) Tryz.underlying138 (by kernel_rfl) rfl (.cons rInt (.cons rOps1 .nil))).conv
  (fun(a,b,_)=>⟨a,b⟩) (fun t=>(t.kind,t.prog,())) (fun _=>rfl) (fun _=>rfl) (fun _ _=>trivial)
theorem rHooks1:Reads Tryz.prog 51 1 eHooks (fun _=>True):=(Reads.slice Tryz.underlying51 (by kernel_rfl) rHook (by omega)).conv id id (fun _=>rfl) (fun _=>rfl) (fun _ _=>trivial)
theorem rStrO:Reads Tryz.prog 9 1 oStr (fun s=>s.size≤maxLen):=rStr.conv id id (fun _=>rfl) (fun _=>rfl) (fun _ h=>h)
theorem rStrs1:Reads Tryz.prog 49 1 eStrs (fun _=>True):=(Reads.slice Tryz.underlying49 (by kernel_rfl) rStrO (by omega)).conv id id (fun _=>rfl) (fun _=>rfl) (fun _ _=>trivial)
theorem rClass:Reads Tryz.prog 53 5 oClass (fun _=>True):=
 (Reads.struct (l:=[(0,4),(1,49),(2,50),(3,50),(4,51)]) Tryz.underlying53 (by kernel_rfl) rfl (.cons rBool (.cons rStrs1 (.cons rOps1 (.cons rOps1 (.cons rHooks1 .nil)))))).conv
  (fun(a,b,c,d,e,_)=>⟨a,b,c,d,e⟩) (fun t=>(t.form,t.watch,t.peek,t.make,t.hooks,())) (fun _=>rfl) (fun _=>rfl) (fun _ _=>trivial)
theorem rClasses:Reads Tryz.prog 37 1 eClasses (fun _=>True):=(Reads.slice Tryz.underlying37 (by kernel_rfl) rClass (by omega)).conv id id (fun _=>rfl) (fun _=>rfl) (fun _ _=>trivial)
theorem rState:Reads Tryz.prog 75 4 oState (fun _=>True):=
 (Reads.struct (l:=[(0,3),(1,3),(2,3),(3,4)]) Tryz.underlying75 (by kernel_rfl) rfl (.cons rInt (.cons rInt (.cons rInt (.cons rBool .nil))))).conv
  (fun(a,b,c,d,_)=>⟨a,b,c,d⟩) (fun t=>(t.phase,t.df,t.owner,t.barred,())) (fun _=>rfl) (fun _=>rfl) (fun _ _=>trivial)
theorem rStates:Reads Tryz.prog 25 1 eStates (fun _=>True):=(Reads.slice Tryz.underlying25 (by kernel_rfl) rState (by omega)).conv id id (fun _=>rfl) (fun _=>rfl) (fun _ _=>trivial)
theorem rTodo:Reads Tryz.prog 59 10 oTodo (fun _=>True):=
 (Reads.struct (l:=[(0,3),(1,3),(2,9),(3,4),(4,4),(5,9),(6,9),(7,3),(8,3),(9,4)]) Tryz.underlying59 (by kernel_rfl) rfl
  (.cons rInt (.cons rInt (.cons rStr (.cons rBool (.cons rBool (.cons rStr (.cons rStr (.cons rInt (.cons rInt (.cons rBool .nil))))))))))).conv
  (fun(a,b,c,d,e,f,g,h,i,j,_)=>⟨a,b,c,d,e,f,g,h,i,j⟩)
  (fun t=>(t.kind,t.df,t.name,t.had,t.has,t.old,t.new,t.src,t.dst,t.on,())) (fun _=>rfl) (fun _=>rfl) (fun _ _=>trivial)
theorem rTodos1:Reads Tryz.prog 77 1 oTodos (fun _=>True):=(Reads.slice Tryz.underlying77 (by kernel_rfl) rTodo (by omega)).conv id id (fun _=>rfl) (fun _=>rfl) (fun _ _=>trivial)
theorem rTodoss1:Reads Tryz.prog 30 1 eTodoss (fun _=>True):=(Reads.slice Tryz.underlying30 (by kernel_rfl) rTodos1 (by omega)).conv id id (fun _=>rfl) (fun _=>rfl) (fun _ _=>trivial)
theorem rIntsO:Reads Tryz.prog 32 1 oInts (fun _=>True):=rInts1.conv id id (fun _=>rfl) (fun _=>rfl) (fun _ h=>h)
theorem rIntss1:Reads Tryz.prog 31 1 eIntss (fun _=>True):=(Reads.slice Tryz.underlying31 (by kernel_rfl) rIntsO (by omega)).conv id id (fun _=>rfl) (fun _=>rfl) (fun _ _=>trivial)
theorem rLine:Reads Tryz.prog 34 4 eLine (fun _=>True):=
 (Reads.struct (l:=[(0,30),(1,31),(2,32),(3,4)]) Tryz.underlying34 (by kernel_rfl) rfl (.cons rTodoss1 (.cons rIntss1 (.cons rInts1 (.cons rBool .nil))))).conv
  (fun(a,b,c,d,_)=>⟨a,b,c,d⟩) (fun t=>(t.todos,t.stack,t.back,t.busy,())) (fun _=>rfl) (fun _=>rfl) (fun _ _=>trivial)
theorem rTask:Reads Tryz.prog 73 3 oTask (fun _=>True):=
 (Reads.struct (l:=[(0,3),(1,3),(2,3)]) Tryz.underlying73 (by kernel_rfl) rfl (.cons rInt (.cons rInt (.cons rInt .nil)))).conv
  (fun(a,b,c,_)=>⟨a,b,c⟩) (fun t=>(t.kind,t.ticket,t.df,())) (fun _=>rfl) (fun _=>rfl) (fun _ _=>trivial)
theorem rTasks1:Reads Tryz.prog 35 1 eTasks (fun _=>True):=(Reads.slice Tryz.underlying35 (by kernel_rfl) rTask (by omega)).conv id id (fun _=>rfl) (fun _=>rfl) (fun _ _=>trivial)
theorem rBuild:Reads Tryz.prog 92 2 oBuild (fun _=>True):=
 (Reads.struct (l:=[(0,3),(1,3)]) Tryz.underlying92 (by kernel_rfl) rfl (.cons rInt (.cons rInt .nil))).conv
  (fun(a,b,_)=>⟨a,b⟩) (fun t=>(t.df,t.node,())) (fun _=>rfl) (fun _=>rfl) (fun _ _=>trivial)
theorem rBuilds1:Reads Tryz.prog 36 1 eBuilds (fun _=>True):=(Reads.slice Tryz.underlying36 (by kernel_rfl) rBuild (by omega)).conv id id (fun _=>rfl) (fun _=>rfl) (fun _ _=>trivial)
theorem rWorld:Reads Tryz.prog 39 14 eWorld (fun _=>True):=
 (Reads.struct (l:=[(0,24),(2,25),(3,29),(7,34),(11,35),(12,36),(13,37)]) Tryz.underlying39 (by kernel_rfl) rfl
  (.cons rFor (.cons rStates (.cons rDesk (.cons rLine (.cons rTasks1 (.cons rBuilds1 (.cons rClasses .nil)))))))).conv
  (fun(a,b,c,d,e,f,g,_)=>⟨a,b,c,d,e,f,g⟩) (fun t=>(t.f,t.states,t.desk,t.line,t.tasks,t.builds,t.classes,())) (fun _=>rfl) (fun _=>rfl) (fun _ _=>trivial)
end Go.Proofs.Heir
