/- Models, plain laws and contracts of functions of the given program; conditions as stated in each theorem. By an AI agent. -/
import Derived.Test.YtciccajdpmahiaaGreatDoorW8
import Derived.Test.YtciccajdpmahiaaGreatDoorW9
import Derived.Test.YtciccajdpmahiaaGreatDoorW5
import Derived.Test.YtciccajdpmahiaaGreatDoorW2
import Derived.Test.YtciccajdpmahiaaGreatDoorRows
import Derived.ProofKit
import Derived.LaidMore
import Derived.OpenShut
import Derived.Stop.Joined
import Derived.Lib.LaidTab
import Derived.MakeChecks
set_option linter.unusedSimpArgs false
set_option linter.unusedVariables false
namespace Go.Proofs.Heir
open Go Go.Am Go.RowKit Go.Lib
set_option maxRecDepth 100000
set_option maxHeartbeats 8000000
set_option maxHeartbeats 32000000
theorem EW {l:List aY}{df:Int}(h:∀ (j:Nat) y,l.reverse[j]? =some y→y.df≠df):je l df=-1:=by
 unfold je
 have:(l.reverse.findIdx? fun b=>decide (b.df=df))=none:=by
  rw[List.findIdx?_eq_none_iff]
  intro x hx
  obtain⟨j,hj⟩:=List.getElem?_of_mem hx
  exact decide_eq_false (h j x hj)
 rw[this]
theorem I3 {l:List aY}{df:Int}{k:Nat}{y:aY}(hk:l.reverse[k]? =some y)(e:y.df=df)(h:∀ (j:Nat) z,j<k→l.reverse[j]? =some z→z.df≠df):je l df=(l.length:Int)-1-k:=by
 unfold je
 have hkl:=(List.getElem?_eq_some_iff.1 hk).1
 have:(l.reverse.findIdx? fun b=>decide (b.df=df))=some k:=by
  rw[List.findIdx?_eq_some_iff_getElem]
  refine⟨hkl,?_,fun j hj=>?_⟩
  ·rw[(List.getElem?_eq_some_iff.1 hk).2];exact decide_eq_true e
  ·rw[decide_eq_false (h j _ hj (List.getElem?_eq_getElem (by omega)))];simp
 rw[this]
theorem last_cases (l:List aY)(df:Int):je l df=-1∨∃ (j:Nat) (b:aY),je l df=j∧l[j]? =some b:=by
 by_cases h:∀ (j:Nat) y,l.reverse[j]? =some y→y.df≠df
 ·exact .inl (EW h)
 ·unfold je
  cases e:(l.reverse.findIdx? fun b=>decide (b.df=df)) with
  |none=>exact .inl rfl
  | some i=>
    have hi:=(List.findIdx?_eq_some_iff_getElem.1 e).1
    rw[List.length_reverse] at hi
    exact .inr ⟨l.length-1-i,l[l.length-1-i],by show(l.length:Int)-1-i=_;omega,List.getElem?_eq_getElem (by omega)⟩
theorem IZ (w:ai)(hb:w.builds.length≤100000)(df:Int):ah Tryz.prog 121 [mW w] [.ptr 0 0 0,aq df] [mW w] (aq (je w.builds df)):=by
 have hit:=Ig w.builds hb
 have hbk:=JJ w.builds
 have hno:=EW (l:=w.builds) (df:=df)
 have hyes:=fun k y h1 h2 h3=>I3 (l:=w.builds) (df:=df) (k:=k) (y:=y) h1 h2 h3
 generalize je w.builds df=r at*
 obtain⟨⟨l,m⟩,st,⟨d1,d2,d3,d4⟩,⟨a,b,c,d⟩,ta,bu,cs⟩:=w
 simp only at hit hbk hno hyes
 have hbm:(bu.map bM).length=bu.length:=List.length_map ..
 refine ah.af (rvs:=[.cell 4 3]) G aa Tryz.func121 rfl Tryz.ntmps121 rfl rfl ?_;with_reducible refine wD ?_
 repeat' (first
  |refine gK ?_|refine aE ?_ ?_
  |(((with_reducible refine kQ 189 ?_);refine cV hbk Rh ?_)<;>with_reducible refine wK ?_)
  |apply trivial)
 refine aU.Eb G aa 3 [(0,.ptr 0 0 0),(3,.ptr 1 0 0),(4,.ptr 2 0 0),(12,.clo (.func 237) [] [.fptr (gL bu) 0])]
  (fun _=>[(0,mW ⟨⟨l,m⟩,st,⟨d1,d2,d3,d4⟩,⟨a,b,c,d⟩,ta,bu,cs⟩),(1,.live 1 [aq df] false),(2,.live 1 [aq 0] false)])
  (fun k=> ∀ (j:Nat) y,j<k→bu.reverse[j]? =some y→y.df≠df) (fun j y h=>by omega)
  hit Qp ?_ rfl ⟨⟨rfl,rfl⟩,rfl⟩ (fun _ _=>rfl) (fun _ _=>rfl) ⟨⟨rfl,rfl⟩,rfl,rfl⟩ ?_ ?_
 ·(refine fK ?_;(with_reducible repeat' (first|exact trivial|(show _∧_;refine aK ?_ ?_)));(all_goals try rfl))
  all_goals first|exact⟨.refl rfl,rfl⟩
 ·intro k hk hIk
  obtain⟨⟨x1,x2⟩,hx⟩:∃x,bu.reverse[k]? =some x:=⟨_,List.getElem?_eq_getElem (by rw[List.length_reverse];exact hk)⟩
  rw[hx,Option.getD_some]
  rw[show bF ((bu.length:Int)-1-k)=aq ((bu.length:Int)-1-k) from rfl]
  with_reducible refine wK ?_
  refine wS.mk rfl ?_;with_reducible refine wK ?_
  by_cases e:x1=df
  ·have hr:=hyes k _ hx e (fun j z hj hz=>hIk j z hj hz)
   rw[hr]
   (have fct:=e;(repeat' (first
  |refine gF ?_|refine aE ?_ ?_
  |(((with_reducible show cB _ _ _ _ _);refine cB.mk _ rfl ?_)<;>with_reducible refine wK ?_)
  | apply trivial));all_goals clear fct)
   refine xJ.mk [(0,mW ⟨⟨l,m⟩,st,⟨d1,d2,d3,d4⟩,⟨a,b,c,d⟩,ta,bu,cs⟩),(1,.live 1 [aq df] false),(2,.live 1 [aq ((bu.length:Int)-1-k)] false)] ?_ ?_
   ·(refine fK ?_;(with_reducible repeat' (first|exact trivial|(show _∧_;refine aK ?_ ?_)));(all_goals try rfl))
    all_goals first|exact⟨.refl rfl,rfl⟩
   ·with_reducible refine wK ?_
    repeat' (first
  |refine gK ?_|refine aE ?_ ?_
  | apply trivial)
    all_goals first|rfl
  ·(have fct:=(eq_false e);(repeat' (first
  |refine gF ?_|refine aE ?_ ?_
  |(((with_reducible show cB _ _ _ _ _);refine cB.mk _ rfl ?_)<;>with_reducible refine wK ?_)
  | apply trivial));all_goals clear fct)
   refine Fl.mk ?_ (fun j y hj hy=>?_)
   ·(refine fK ?_;(with_reducible repeat' (first|exact trivial|(show _∧_;refine aK ?_ ?_)));(all_goals try rfl))
    all_goals first|exact⟨.refl rfl,rfl⟩
   ·by_cases q:j=k
    ·subst q
     rw[hx] at hy;cases hy;exact e
    ·exact hIk j y (by omega) hy
 ·intro hIn
  rw[hno (fun j y hy=>hIn j y (by have:=(List.getElem?_eq_some_iff.1 hy).1;rwa [List.length_reverse] at this) hy)]
  with_reducible refine wK ?_
  refine cB.mk _ rfl ?_;with_reducible refine wK ?_
  dsimp only[List.set];with_reducible refine wK ?_
  repeat' (first
  |refine gK ?_|refine aE ?_ ?_
  |apply trivial)
  all_goals first|rfl
theorem uI (d:aZ)(h:iS d)(s:Int):ah Tryz.prog 51 [] [gi d,aq s] [] (aq (eo d s)):=by
 have h29:=AU d h.defs h.waits
 have hrd:=@rD d
 unfold eo
 obtain⟨r,hr⟩:∃r,eW d=r:=⟨_,rfl⟩
 rw[hr] at h29 hrd ⊢
 obtain⟨l,ws,nx,bz⟩:=d
 refine ah.af (rvs:=[.tmp 4]) G aa Tryz.func51 rfl Tryz.ntmps51 rfl rfl ?_;with_reducible refine wD ?_
 refine aj.new 111 [] h29 NH ⟨⟨rfl,rfl,rfl,rfl,trivial⟩,trivial⟩ rfl rfl rfl (qg _) rfl ?_;with_reducible refine wK ?_
 refine jc.ck oD bF (mX kC (iA l)) (k:=s) (zv:=aq 0) C7 ⟨_,_,rfl⟩ ju j4 rfl rfl (fun x hxx=>?_) (fun hxx=>?_)
 ·rw [show bF x=aq x from rfl]
  with_reducible refine wK ?_
  cases r with
  |false=>((have fct:=hr;(repeat' (first
  |refine gF ?_|refine aE ?_ ?_
  |apply trivial));all_goals clear fct))<;>rfl
  | true=>
    (have fct:=hr;(repeat' (first
  |refine gF ?_|refine aE ?_ ?_
  | apply trivial));all_goals clear fct)
    rcases Na (hrd rfl) s with⟨a1,_⟩|⟨j,y,a1,a2,_⟩
    ·rw[hxx] at a1;cases a1
    ·rw[hxx] at a1;cases a1;simp only;rw[a2];rfl
 ·with_reducible refine wK ?_
  cases r with
  |false=>((have fct:=hr;(repeat' (first
  |refine gF ?_|refine aE ?_ ?_
  |apply trivial));all_goals clear fct))<;>rfl
  | true=>
    (have fct:=hr;(repeat' (first
  |refine gF ?_|refine aE ?_ ?_
  | apply trivial));all_goals clear fct)
    rcases Na (hrd rfl) s with⟨_,a1⟩|⟨j,y,a1,_⟩
    ·simp only;rw[a1];rfl
    ·rw[hxx] at a1;cases a1
theorem JY {w:ai}{s is:ByteArray}{doc:Int}(h:(gb w s is doc).2.2=0):aP w∧ak w.f.nodes doc=true∧(nd w.f.nodes doc).kind=0∧kZ s is=true∧(w.f.nodes.length:Int)≠w.f.most:=by
 unfold gb at h
 split at h
 ·rename_i h1
  rw[Bool.and_eq_true,bH] at h1
  split at h
  ·rename_i h2
   split at h
   ·rename_i h3
    refine⟨h1.1,h1.2,h2,h3,fun e=>?_⟩
    have hm:eX w.f (cE s is doc)=(w.f,-1,8):=w7 (mB h1.1.rf h1.2 h2 h3) e
    rw[hm] at h
    simp at h
   ·simp at h
  ·simp at h
 ·simp at h
theorem K2 {w:ai}{s is:ByteArray}{doc:Int}(h:(gb w s is doc).2.2=0):(gb w s is doc).2.1=(w.f.nodes.length:Int)∧(gb w s is doc).1.states.length=w.f.nodes.length+1:=by
 obtain⟨R,h1,h2,h3,h4⟩:=JY h
 have V:=xH R h1 h2 h3 h4
 rw[FV R h1 h2 h3,if_neg h4]
 refine⟨rfl,?_⟩
 have:=V.sl
 rw[DD] at this
 rw[this]
 show(w.f.nodes++ [_]).length=_
 rw[List.length_append,List.length_singleton]
theorem yq (d:aZ)(c:Int):eo d c=-1∨∃ (j:Nat) (x:bD),eo d c=j∧d.defs[j]? =some x:=by
 unfold eo
 split
 ·unfold BE
  rcases jn (HU c) d.defs with⟨h,_⟩|⟨k,x,h1,h2,_⟩
  ·exact .inl h
  ·exact .inr ⟨k,x,h1,h2⟩
 ·exact .inl rfl
theorem xQ {w:ai}{cl:Int}(h:mO w cl=false):gq w cl=(w,-1,false,1):=by unfold gq;rw[h];rfl
theorem zJ {w:ai}{cl:Int}(h:mO w cl=true):gq w cl=if eo w.desk cl=-1 then(w,-1,false,6) else if je w.builds (eo w.desk cl)<0 then A3 w (eo w.desk cl) else takeB w (eo w.desk cl):=by unfold gq;rw[if_pos h]
theorem iE (w:ai)(hs:bh w)(h63:w.f.nodes.length≤63)(hl:kV 80000 w.line)(ht:w.tasks.length≤80000)(hz:∀x∈w.desk.defs,(ek x.locl).size≤300)(cl:Int):
  ah Tryz.prog 50 [] [aT w,aq cl] [] (.tup [aT (gq w cl).1,aq (gq w cl).2.1,aA (gq w cl).2.2.1,aq (gq w cl).2.2.2]):=by
 have hR:=cr w hs
 have hcm:(w.classes.map dM).length=w.classes.length:=List.length_map ..
 obtain⟨ok,hok⟩:∃ok,mO w cl=ok:=⟨_,rfl⟩
 have hok':=hok
 unfold mO at hok'
 cases e:cf w with
 | false=>
   rw[e] at hR hok'
   obtain rfl:false=ok:=hok'
   rw[xQ hok]
   clear hs e hl ht h63 hz hok
   obtain⟨⟨l,m⟩,st,⟨d1,d2,d3,d4⟩,⟨a,b,c,d⟩,ta,bu,cs⟩:=w
   refine ah.af (rvs:=[.cell 4 39,.tmp 5,.tmp 6,.tmp 7]) G aa Tryz.func50 rfl Tryz.ntmps50 rfl rfl ?_;with_reducible refine wD ?_
   repeat' (first
  |refine gK ?_|refine aE ?_ ?_
  | (((with_reducible refine kQ 19 ?_);refine aj.lit [] hR gZ ⟨
   ⟨rfl,rfl,rfl,rfl,rfl,rfl,rfl,rfl,rfl,rfl,rfl,rfl,rfl,rfl,trivial⟩
   ,trivial⟩ rfl rfl ?_)<;>with_reducible refine wK ?_)
  | apply trivial)
   all_goals first|rfl|trivial
 |true=>
 rw[e] at hR hok'
 by_cases e1:0≤cl
 rotate_left
 ·rw[decide_eq_false e1] at hok'
  obtain rfl:false=ok:=hok'
  rw[xQ hok]
  clear hs e hl ht h63 hz hok
  obtain⟨⟨l,m⟩,st,⟨d1,d2,d3,d4⟩,⟨a,b,c,d⟩,ta,bu,cs⟩:=w
  refine ah.af (rvs:=[.cell 4 39,.tmp 5,.tmp 6,.tmp 7]) G aa Tryz.func50 rfl Tryz.ntmps50 rfl rfl ?_;with_reducible refine wD ?_
  (have fct:=(eq_false e1);(repeat' (first
  |refine gF ?_|refine aE ?_ ?_
  | (((with_reducible refine kQ 19 ?_);refine aj.lit [] hR gZ ⟨
   ⟨rfl,rfl,rfl,rfl,rfl,rfl,rfl,rfl,rfl,rfl,rfl,rfl,rfl,rfl,trivial⟩
   ,trivial⟩ rfl rfl ?_)<;>with_reducible refine wK ?_)
  |apply trivial));all_goals clear fct)
  all_goals first|rfl|trivial
 by_cases e2:cl< (w.classes.length:Int)
 rotate_left
 ·rw[decide_eq_true e1,decide_eq_false e2] at hok'
  obtain rfl:false=ok:=hok'
  rw[xQ hok]
  clear hs e hl ht h63 hz hok
  obtain⟨⟨l,m⟩,st,⟨d1,d2,d3,d4⟩,⟨a,b,c,d⟩,ta,bu,cs⟩:=w
  simp only at hcm e2
  refine ah.af (rvs:=[.cell 4 39,.tmp 5,.tmp 6,.tmp 7]) G aa Tryz.func50 rfl Tryz.ntmps50 rfl rfl ?_;with_reducible refine wD ?_
  (have fct:=And.intro hcm (And.intro (eq_true e1) ((eq_false e2)));(repeat' (first
  |refine gF ?_|refine aE ?_ ?_
  | (((with_reducible refine kQ 19 ?_);refine aj.lit [] hR gZ ⟨
   ⟨rfl,rfl,rfl,rfl,rfl,rfl,rfl,rfl,rfl,rfl,rfl,rfl,rfl,rfl,trivial⟩
   ,trivial⟩ rfl rfl ?_)<;>with_reducible refine wK ?_)
  |apply trivial));all_goals clear fct)
  all_goals first|rfl|trivial
 rw[decide_eq_true e1,decide_eq_true e2] at hok'
 obtain rfl:true=ok:=hok'
 rw[zJ hok]
 have h51:=uI w.desk hs.d cl
 rcases yq w.desk cl with hc|⟨k,⟨x1,x2,x3⟩,hc,hx⟩
 ·rw[hc] at h51
  rw[if_pos hc]
  clear hs e hl ht h63 hz hok hc
  obtain⟨⟨l,m⟩,st,⟨d1,d2,d3,d4⟩,⟨a,b,c,d⟩,ta,bu,cs⟩:=w
  simp only at hcm e2 h51
  refine ah.af (rvs:=[.cell 4 39,.tmp 5,.tmp 6,.tmp 7]) G aa Tryz.func50 rfl Tryz.ntmps50 rfl rfl ?_;with_reducible refine wD ?_
  (have fct:=And.intro hcm (And.intro (eq_true e1) ((eq_true e2)));(repeat' (first
  |refine gF ?_|refine aE ?_ ?_
  | ((first
   |((with_reducible refine kQ 19 ?_);refine aj.lit [] hR gZ ⟨
   ⟨rfl,rfl,rfl,rfl,rfl,rfl,rfl,rfl,rfl,rfl,rfl,rfl,rfl,rfl,trivial⟩
   ,trivial⟩ rfl rfl ?_)
   |((with_reducible refine kQ 51 ?_);refine cL h51 M8 ?_))<;>with_reducible refine wK ?_)
  |apply trivial));all_goals clear fct)
  all_goals first|rfl|trivial
 rw[hc] at h51
 rw[hc,if_neg (by omega)]
 have hk1:¬ (k:Int)=-1:=by omega
 have hla:=IZ w (by have:=hs.bu;omega) k
 have hda:iO w.desk k=⟨x1,x2,x3⟩:=by unfold iO;rw[Int.toNat_natCast,hx];rfl
 rcases last_cases w.builds k with hn|⟨j,⟨y1,y2⟩,hn,hy⟩
 ·rw [hn] at hla
  rw[hn,if_pos (by omega)]
  unfold A3
  rw[hda]
  have hB:=Co w hs h63 hl ht x2 (iw ⟨x1,x2,x3⟩) (hz _ (List.mem_of_getElem? hx)) 0
  have hS:=K2 (w:=w) (s:=x2) (is:=iw ⟨x1,x2,x3⟩) (doc:=0)
  obtain⟨is,his⟩:∃is,iw ⟨x1,x2,x3⟩=is:=⟨_,rfl⟩
  rw[his] at hB hS
  have hio:(x2=x1∧is=⟨#[]⟩)∨(¬x2=x1∧is=x1):=by
   unfold iw at his
   by_cases q:x2=x1
   ·rw[if_pos q] at his;exact .inl ⟨q,his.symm⟩
   ·rw[if_neg q] at his;exact .inr ⟨q,his.symm⟩
  simp only
  rw[his]
  generalize gb w x2 is 0=B at*
  obtain⟨v,bn,be⟩:=B
  simp only at hB hS ⊢
  by_cases e5:be=0
  ·rw[if_pos e5]
   obtain⟨hs1,hs2⟩:=hS e5
   have hq:=vq v (by omega) w.f.nodes.length 2 k (by omega)
   rw[←hs1] at hq
   have e8:bE v bn 2 k={v with states:=(bE v bn 2 k).states}:=rfl
   rw[e8] at hq ⊢
   clear hs e hl ht h63 hz hok hc hda his e8 hn hs1 hs2 hS
   generalize(bE v bn 2 k).states=sx at*
   obtain⟨⟨l',m'⟩,st',⟨d1',d2',d3',d4'⟩,⟨a',b',c',d'⟩,ta',bu',cs'⟩:=v
   obtain⟨⟨l,m⟩,st,⟨d1,d2,d3,d4⟩,⟨a,b,c,d⟩,ta,bu,cs⟩:=w
   simp only at hcm e2 h51 hla hx hB hq ⊢
   rcases hio with⟨c1,rfl⟩|⟨c1,rfl⟩
   ·refine ah.af (rvs:=[.cell 4 39,.tmp 5,.tmp 6,.tmp 7]) G aa Tryz.func50 rfl Tryz.ntmps50 rfl rfl ?_;with_reducible refine wD ?_
    (have fct:=And.intro hcm (And.intro (eq_true e1) (And.intro (eq_true e2) (And.intro (eq_false hk1) (And.intro c1 (e5)))));(repeat' (first
  |refine gF ?_|refine aE ?_ ?_
  | ((first
   |((with_reducible refine kQ 19 ?_);refine aj.lit [] hR gZ ⟨
         ⟨rfl,rfl,rfl,rfl,rfl,rfl,rfl,rfl,rfl,rfl,rfl,rfl,rfl,rfl,trivial⟩
         ,trivial⟩ rfl rfl ?_)
   |((with_reducible refine kQ 51 ?_);refine cL h51 M8 ?_)
   |((with_reducible refine kQ 121 ?_);refine aj.gd (news:=[mW ⟨⟨l,m⟩,st,⟨d1,d2,d3,d4⟩,⟨a,b,c,d⟩,ta,bu,cs⟩]) [410] [] hla Hx ⟨⟨rfl,rfl⟩,rfl,trivial⟩
             ⟨⟨rfl,.inr ⟨⟨
                  ⟨rfl,rfl,rfl,rfl,rfl,rfl,rfl,rfl,rfl,rfl,rfl,rfl,rfl,rfl,trivial⟩
                  ,trivial⟩,rfl⟩⟩,trivial⟩ rfl ⟨⟨rfl,rfl⟩,rfl⟩ rfl ⟨⟨rfl,.inr ⟨rfl,rfl,rfl⟩⟩,trivial⟩ rfl rfl ?_)
   |((with_reducible show ay _ _ _ _ _);refine ay.mk k (jH ⟨x1,x2,x3⟩) rfl (dD hx) ?_)
   | ((with_reducible refine kQ 55 ?_);refine aj.val [] hB OK ⟨
      ⟨rfl,rfl,rfl,rfl,rfl,rfl,rfl,rfl,rfl,rfl,rfl,rfl,rfl,rfl,trivial⟩
      ,rfl,rfl,rfl,trivial⟩ rfl rfl rfl ?_)
   |((with_reducible refine kQ 113 ?_);refine aj.gd (news:=[mW ⟨⟨l',m'⟩,sx,⟨d1',d2',d3',d4'⟩,⟨a',b',c',d'⟩,ta',bu',cs'⟩]) [410] [] hq Iv ⟨⟨rfl,rfl⟩,rfl,rfl,rfl,trivial⟩
          ⟨⟨rfl,.inr ⟨⟨
               ⟨rfl,rfl,rfl,rfl,rfl,rfl,rfl,rfl,rfl,rfl,rfl,rfl,rfl,rfl,trivial⟩
               ,trivial⟩,rfl⟩⟩,trivial⟩ rfl ⟨⟨rfl,rfl⟩,rfl⟩ rfl ⟨⟨rfl,.inr ⟨rfl,rfl,rfl⟩⟩,trivial⟩ rfl rfl ?_))<;>with_reducible refine wK ?_)
  | apply trivial));all_goals clear fct)
    all_goals first|rfl|trivial
   ·refine ah.af (rvs:=[.cell 4 39,.tmp 5,.tmp 6,.tmp 7]) G aa Tryz.func50 rfl Tryz.ntmps50 rfl rfl ?_;with_reducible refine wD ?_
    (have fct:=And.intro hcm (And.intro (eq_true e1) (And.intro (eq_true e2) (And.intro (eq_false hk1) (And.intro (eq_false c1) (e5)))));(repeat' (first
  |refine gF ?_|refine aE ?_ ?_
  | ((first
   |((with_reducible refine kQ 19 ?_);refine aj.lit [] hR gZ ⟨
         ⟨rfl,rfl,rfl,rfl,rfl,rfl,rfl,rfl,rfl,rfl,rfl,rfl,rfl,rfl,trivial⟩
         ,trivial⟩ rfl rfl ?_)
   |((with_reducible refine kQ 51 ?_);refine cL h51 M8 ?_)
   |((with_reducible refine kQ 121 ?_);refine aj.gd (news:=[mW ⟨⟨l,m⟩,st,⟨d1,d2,d3,d4⟩,⟨a,b,c,d⟩,ta,bu,cs⟩]) [410] [] hla Hx ⟨⟨rfl,rfl⟩,rfl,trivial⟩
             ⟨⟨rfl,.inr ⟨⟨
                  ⟨rfl,rfl,rfl,rfl,rfl,rfl,rfl,rfl,rfl,rfl,rfl,rfl,rfl,rfl,trivial⟩
                  ,trivial⟩,rfl⟩⟩,trivial⟩ rfl ⟨⟨rfl,rfl⟩,rfl⟩ rfl ⟨⟨rfl,.inr ⟨rfl,rfl,rfl⟩⟩,trivial⟩ rfl rfl ?_)
   |((with_reducible show ay _ _ _ _ _);refine ay.mk k (jH ⟨is,x2,x3⟩) rfl (dD hx) ?_)
   | ((with_reducible refine kQ 55 ?_);refine aj.val [] hB OK ⟨
      ⟨rfl,rfl,rfl,rfl,rfl,rfl,rfl,rfl,rfl,rfl,rfl,rfl,rfl,rfl,trivial⟩
      ,rfl,rfl,rfl,trivial⟩ rfl rfl rfl ?_)
   |((with_reducible refine kQ 113 ?_);refine aj.gd (news:=[mW ⟨⟨l',m'⟩,sx,⟨d1',d2',d3',d4'⟩,⟨a',b',c',d'⟩,ta',bu',cs'⟩]) [410] [] hq Iv ⟨⟨rfl,rfl⟩,rfl,rfl,rfl,trivial⟩
          ⟨⟨rfl,.inr ⟨⟨
               ⟨rfl,rfl,rfl,rfl,rfl,rfl,rfl,rfl,rfl,rfl,rfl,rfl,rfl,rfl,trivial⟩
               ,trivial⟩,rfl⟩⟩,trivial⟩ rfl ⟨⟨rfl,rfl⟩,rfl⟩ rfl ⟨⟨rfl,.inr ⟨rfl,rfl,rfl⟩⟩,trivial⟩ rfl rfl ?_))<;>with_reducible refine wK ?_)
  | apply trivial));all_goals clear fct)
    all_goals first|rfl|trivial
  ·rw[if_neg e5]
   clear hs e hl ht h63 hz hok hc hda his hn hS
   obtain⟨⟨l',m'⟩,st',⟨d1',d2',d3',d4'⟩,⟨a',b',c',d'⟩,ta',bu',cs'⟩:=v
   obtain⟨⟨l,m⟩,st,⟨d1,d2,d3,d4⟩,⟨a,b,c,d⟩,ta,bu,cs⟩:=w
   simp only at hcm e2 h51 hla hx hB ⊢
   rcases hio with⟨c1,rfl⟩|⟨c1,rfl⟩
   ·refine ah.af (rvs:=[.cell 4 39,.tmp 5,.tmp 6,.tmp 7]) G aa Tryz.func50 rfl Tryz.ntmps50 rfl rfl ?_;with_reducible refine wD ?_
    (have fct:=And.intro hcm (And.intro (eq_true e1) (And.intro (eq_true e2) (And.intro (eq_false hk1) (And.intro c1 ((eq_false e5))))));(repeat' (first
  |refine gF ?_|refine aE ?_ ?_
  | ((first
   |((with_reducible refine kQ 19 ?_);refine aj.lit [] hR gZ ⟨
         ⟨rfl,rfl,rfl,rfl,rfl,rfl,rfl,rfl,rfl,rfl,rfl,rfl,rfl,rfl,trivial⟩
         ,trivial⟩ rfl rfl ?_)
   |((with_reducible refine kQ 51 ?_);refine cL h51 M8 ?_)
   |((with_reducible refine kQ 121 ?_);refine aj.gd (news:=[mW ⟨⟨l,m⟩,st,⟨d1,d2,d3,d4⟩,⟨a,b,c,d⟩,ta,bu,cs⟩]) [410] [] hla Hx ⟨⟨rfl,rfl⟩,rfl,trivial⟩
             ⟨⟨rfl,.inr ⟨⟨
                  ⟨rfl,rfl,rfl,rfl,rfl,rfl,rfl,rfl,rfl,rfl,rfl,rfl,rfl,rfl,trivial⟩
                  ,trivial⟩,rfl⟩⟩,trivial⟩ rfl ⟨⟨rfl,rfl⟩,rfl⟩ rfl ⟨⟨rfl,.inr ⟨rfl,rfl,rfl⟩⟩,trivial⟩ rfl rfl ?_)
   |((with_reducible show ay _ _ _ _ _);refine ay.mk k (jH ⟨x1,x2,x3⟩) rfl (dD hx) ?_)
   | ((with_reducible refine kQ 55 ?_);refine aj.val [] hB OK ⟨
      ⟨rfl,rfl,rfl,rfl,rfl,rfl,rfl,rfl,rfl,rfl,rfl,rfl,rfl,rfl,trivial⟩
      ,rfl,rfl,rfl,trivial⟩ rfl rfl rfl ?_))<;>with_reducible refine wK ?_)
  | apply trivial));all_goals clear fct)
    all_goals first|rfl|trivial
   ·refine ah.af (rvs:=[.cell 4 39,.tmp 5,.tmp 6,.tmp 7]) G aa Tryz.func50 rfl Tryz.ntmps50 rfl rfl ?_;with_reducible refine wD ?_
    (have fct:=And.intro hcm (And.intro (eq_true e1) (And.intro (eq_true e2) (And.intro (eq_false hk1) (And.intro (eq_false c1) ((eq_false e5))))));(repeat' (first
  |refine gF ?_|refine aE ?_ ?_
  | ((first
   |((with_reducible refine kQ 19 ?_);refine aj.lit [] hR gZ ⟨
         ⟨rfl,rfl,rfl,rfl,rfl,rfl,rfl,rfl,rfl,rfl,rfl,rfl,rfl,rfl,trivial⟩
         ,trivial⟩ rfl rfl ?_)
   |((with_reducible refine kQ 51 ?_);refine cL h51 M8 ?_)
   |((with_reducible refine kQ 121 ?_);refine aj.gd (news:=[mW ⟨⟨l,m⟩,st,⟨d1,d2,d3,d4⟩,⟨a,b,c,d⟩,ta,bu,cs⟩]) [410] [] hla Hx ⟨⟨rfl,rfl⟩,rfl,trivial⟩
             ⟨⟨rfl,.inr ⟨⟨
                  ⟨rfl,rfl,rfl,rfl,rfl,rfl,rfl,rfl,rfl,rfl,rfl,rfl,rfl,rfl,trivial⟩
                  ,trivial⟩,rfl⟩⟩,trivial⟩ rfl ⟨⟨rfl,rfl⟩,rfl⟩ rfl ⟨⟨rfl,.inr ⟨rfl,rfl,rfl⟩⟩,trivial⟩ rfl rfl ?_)
   |((with_reducible show ay _ _ _ _ _);refine ay.mk k (jH ⟨is,x2,x3⟩) rfl (dD hx) ?_)
   | ((with_reducible refine kQ 55 ?_);refine aj.val [] hB OK ⟨
      ⟨rfl,rfl,rfl,rfl,rfl,rfl,rfl,rfl,rfl,rfl,rfl,rfl,rfl,rfl,trivial⟩
      ,rfl,rfl,rfl,trivial⟩ rfl rfl rfl ?_))<;>with_reducible refine wK ?_)
  | apply trivial));all_goals clear fct)
    all_goals first|rfl|trivial
 ·rw [hn] at hla
  rw[hn,if_neg (by omega)]
  have hj1:¬ (j:Int)<0:=by omega
  have hjl:=(List.getElem?_eq_some_iff.1 hy).1
  have hba:ny w.builds j=⟨y1,y2⟩:=by unfold ny;rw[Int.toNat_natCast,hy];rfl
  have hcl:=uQ w.builds (by have:=hs.bu;omega)
  have hbm:(w.builds.map bM).length=w.builds.length:=List.length_map ..
  unfold takeB
  rw[hn,hba,Int.toNat_natCast]
  simp only
  clear hs e hl ht h63 hz hok hc hda hn hba hx
  by_cases e5:y2=-4
  ·rw[if_pos e5]
   obtain⟨⟨l,m⟩,st,⟨d1,d2,d3,d4⟩,⟨a,b,c,d⟩,ta,bu,cs⟩:=w
   simp only at hcm e2 h51 hla hy hjl hcl hbm
   refine ah.af (rvs:=[.cell 4 39,.tmp 5,.tmp 6,.tmp 7]) G aa Tryz.func50 rfl Tryz.ntmps50 rfl rfl ?_;with_reducible refine wD ?_
   (have fct:=And.intro hcm (And.intro (eq_true e1) (And.intro (eq_true e2) (And.intro (eq_false hk1) (And.intro (eq_false hj1) (e5)))));(repeat' (first
  |refine gF ?_|refine aE ?_ ?_
  | ((first
   |((with_reducible refine kQ 19 ?_);refine aj.lit [] hR gZ ⟨
        ⟨rfl,rfl,rfl,rfl,rfl,rfl,rfl,rfl,rfl,rfl,rfl,rfl,rfl,rfl,trivial⟩
        ,trivial⟩ rfl rfl ?_)
   |((with_reducible refine kQ 51 ?_);refine cL h51 M8 ?_)
   |((with_reducible refine kQ 121 ?_);refine aj.gd (news:=[mW ⟨⟨l,m⟩,st,⟨d1,d2,d3,d4⟩,⟨a,b,c,d⟩,ta,bu,cs⟩]) [410] [] hla Hx ⟨⟨rfl,rfl⟩,rfl,trivial⟩
            ⟨⟨rfl,.inr ⟨⟨
                 ⟨rfl,rfl,rfl,rfl,rfl,rfl,rfl,rfl,rfl,rfl,rfl,rfl,rfl,rfl,trivial⟩
                 ,trivial⟩,rfl⟩⟩,trivial⟩ rfl ⟨⟨rfl,rfl⟩,rfl⟩ rfl ⟨⟨rfl,.inr ⟨rfl,rfl,rfl⟩⟩,trivial⟩ rfl rfl ?_)
   |((with_reducible show ay _ _ _ _ _);refine ay.mk j (fA ⟨y1,y2⟩) rfl (ef hy) ?_))<;>with_reducible refine wK ?_)
  | apply trivial));all_goals clear fct)
   all_goals first|rfl|trivial
  ·rw[if_neg e5]
   obtain⟨⟨l,m⟩,st,⟨d1,d2,d3,d4⟩,⟨a,b,c,d⟩,ta,bu,cs⟩:=w
   simp only at hcm e2 h51 hla hy hjl hcl hbm ⊢
   refine ah.af (rvs:=[.cell 4 39,.tmp 5,.tmp 6,.tmp 7]) G aa Tryz.func50 rfl Tryz.ntmps50 rfl rfl ?_;with_reducible refine wD ?_
   (have fct:=And.intro hcm (And.intro (eq_true e1) (And.intro (eq_true e2) (And.intro (eq_false hk1) (And.intro (eq_false hj1) ((eq_false e5))))));(repeat' (first
  |refine gF ?_|refine aE ?_ ?_
  | ((first
   |((with_reducible refine kQ 19 ?_);refine aj.lit [] hR gZ ⟨
        ⟨rfl,rfl,rfl,rfl,rfl,rfl,rfl,rfl,rfl,rfl,rfl,rfl,rfl,rfl,trivial⟩
        ,trivial⟩ rfl rfl ?_)
   |((with_reducible refine kQ 51 ?_);refine cL h51 M8 ?_)
   |((with_reducible refine kQ 121 ?_);refine aj.gd (news:=[mW ⟨⟨l,m⟩,st,⟨d1,d2,d3,d4⟩,⟨a,b,c,d⟩,ta,bu,cs⟩]) [410] [] hla Hx ⟨⟨rfl,rfl⟩,rfl,trivial⟩
            ⟨⟨rfl,.inr ⟨⟨
                 ⟨rfl,rfl,rfl,rfl,rfl,rfl,rfl,rfl,rfl,rfl,rfl,rfl,rfl,rfl,trivial⟩
                 ,trivial⟩,rfl⟩⟩,trivial⟩ rfl ⟨⟨rfl,rfl⟩,rfl⟩ rfl ⟨⟨rfl,.inr ⟨rfl,rfl,rfl⟩⟩,trivial⟩ rfl rfl ?_)
   |((with_reducible show ay _ _ _ _ _);refine ay.mk j (fA ⟨y1,y2⟩) rfl (ef hy) ?_)
   |((with_reducible show nZ _ _ _ _ _);refine nZ.mk j rfl (by omega) ?_)
   |((with_reducible show cB _ _ _ _ _);refine cB.mk (fA ⟨y1,y2⟩) (by rw[Nat.zero_add];exact ef hy) ?_)
   |((with_reducible refine kQ 114 ?_);refine aj.new 981 [] hcl Ps ⟨rfl,trivial⟩ rfl rfl rfl (uZ _) rfl ?_))<;>with_reducible refine wK ?_)
  | apply trivial));all_goals clear fct)
   all_goals first
    |rfl
    | (refine vU rfl rfl ?_ ?_
       ·simp only[Nat.zero_add,List.map_set];rfl
       ·simp)
    |trivial
end Go.Proofs.Heir
namespace Go.Proofs.Heir
open Go Go.Am Go.RowKit Go.Lib
set_option maxRecDepth 100000
set_option maxHeartbeats 8000000
set_option maxHeartbeats 16000000
theorem pM {w:ai}{n an er:Int}(h:gG w n=false):iJ w n an er=(w,1):=by unfold iJ;rw[h];rfl
theorem nw {w:ai}{n an er:Int}(h:gG w n=true):iJ w n an er=if er≠0 then(di (Bt w) n,er) else if an≠n then(di (Bt w) n,7) else(eC (Bt w) n,0):=by unfold iJ;rw[if_pos h]
theorem pA {w:ai}(R:aP w){bl:List aY}{b:aY}(h:w.builds=bl++ [b]):Bt w={w with builds:=bl}∧aP {w with builds:=bl}:=by
 refine⟨by unfold Bt;rw[h,List.dropLast_concat],j6 R fun x hx=>R.bu x (by rw[h];exact List.mem_append_left _ hx)⟩
theorem jy {w:ai}{n:Int}(e:jd w n=true){s:StateM}(hst:eI w.states n=s){bl:List aY}{b:aY}(h:w.builds=bl++ [b]):gG w n=(decide (s.phase=2)&&decide (b.df=s.df)):=by
 unfold gG
 rw[e,hst,h]
 simp
theorem Bi (w:ai)(hs:bh w)(hl:kV 80000 w.line)(ht:w.tasks.length≤80000)(k:Nat)(an er:Int)(e:jd w k=true)(bl:List aY)(b1 b2:Int)(h0:w.builds=bl++ [⟨b1,b2⟩]):ah Tryz.prog 52 [] [aT w,aq k,aq an,aq er] [] (.tup [aT (iJ w k an er).1,aq (iJ w k an er).2]):=by
 have ho:=sI w hs k
 rw[e] at ho
 have hbu:(w.builds.map bM).length≤90000:=by rw[List.length_map];exact hs.bu
 obtain⟨R,he⟩:=iB.1 e
 obtain⟨k',x,⟨s1,s2,s3,s4⟩,hkk,_,_,hg,hk,hst⟩:=sN R he
 obtain rfl:k=k':=by omega
 have hf:=jy e hst h0
 have hbk:w.builds[bl.length]? =some ⟨b1,b2⟩:=by rw[h0,List.getElem?_append_right (Nat.le_refl _),Nat.sub_self];rfl
 have cut:bl.map bM=((w.builds.map bM).drop 0).take bl.length:=by rw[h0,List.drop_zero,←List.map_take,List.take_left' rfl]
 have hbl:(w.builds.map bM).length=bl.length+1:=by rw[h0];simp
 have htop:¬ ((bl.length:Int)<0):=by omega
 have htp:(bl.length:Int)+1-1=bl.length:=by omega
 by_cases e3:s1=2
 ·by_cases e4:  b1=s2
  ·obtain⟨hpo,PR⟩:=pA R h0
   rw[show decide ((StateM.mk s1 s2 s3 s4).phase=2)=true from decide_eq_true e3,show decide ((aY.mk b1 b2).df=(StateM.mk s1 s2 s3 s4).df)=true from decide_eq_true e4] at hf
   rw[nw hf,hpo]
   have hps:bh {w with builds:=bl}:=fW hs (by have:=hs.bu;rw[h0,List.length_append] at this;omega)
   by_cases e5:er=0
   ·rw[if_neg (by simpa using e5)]
    by_cases e6:an=k
    ·rw[if_neg (by simpa using e6)]
     have hq:=B8 {w with builds:=bl} hps hl ht k hk
     clear hs e hl ht R he hst hf hpo PR hps
     generalize eC {w with builds:=bl} k=v at*
     obtain⟨⟨l',m'⟩,st',⟨d1',d2',d3',d4'⟩,⟨a',b',c',d'⟩,ta',bu',cs'⟩:=v
     obtain⟨⟨l,m⟩,st,⟨d1,d2,d3,d4⟩,⟨a,b,c,d⟩,ta,bu,cs⟩:=w
     simp only at hbu hg hbk cut hbl hq h0
     clear h0 hkk
     refine ah.af (rvs:=[.cell 8 39,.tmp 9]) G aa Tryz.func52 rfl Tryz.ntmps52 rfl rfl ?_;with_reducible refine wD ?_
     (have fct:=And.intro hbl (And.intro (eq_true e3) (And.intro (eq_true e4) (And.intro (eq_false htop) (And.intro (eq_true e5) ((eq_true e6))))));(repeat' (first
  |refine gF ?_|refine aE ?_ ?_
  | ((first
   |((with_reducible refine kQ 112 ?_);refine aj.new 160 [] ho oW ⟨
          ⟨rfl,rfl,rfl,rfl,rfl,rfl,rfl,rfl,rfl,rfl,rfl,rfl,rfl,rfl,trivial⟩
          ,rfl,trivial⟩ rfl rfl rfl (gB _) rfl ?_)
   |((with_reducible show ay _ _ _ _ _);first|refine ay.mk k (aX ⟨s1,s2,s3,s4⟩) rfl (aM hg) ?_|refine ay.mk bl.length (fA ⟨b1,b2⟩) (by(try simp only[aF]);omega) (ef hbk) ?_)
   |((with_reducible show k9 _ _ _ _ _ _);refine k9.mk 0 bl.length (bl.map bM) rfl (by(try simp only[aF]);omega) (by omega) cut ?_)
   |((with_reducible refine kQ 124 ?_);refine aj.gd (news:=[mW ⟨⟨l',m'⟩,st',⟨d1',d2',d3',d4'⟩,⟨a',b',c',d'⟩,ta',bu',cs'⟩]) [160] [] hq PJ
           ⟨⟨rfl,rfl⟩,rfl,trivial⟩ ⟨⟨rfl,.inr ⟨⟨
                ⟨rfl,rfl,rfl,rfl,rfl,rfl,rfl,rfl,rfl,rfl,rfl,rfl,rfl,rfl,trivial⟩
                ,trivial⟩,rfl⟩⟩,trivial⟩ rfl ⟨⟨rfl,rfl⟩,rfl⟩ rfl ⟨⟨rfl,.inr ⟨rfl,rfl,rfl⟩⟩,trivial⟩ rfl rfl ?_))<;>with_reducible refine wK ?_)
  | apply trivial));all_goals clear fct)
     all_goals first|rfl|trivial
    ·rw[if_pos (by simpa using e6)]
     have hq:=uq {w with builds:=bl} hps PR k hk
     clear hs e hl ht R he hst hf hpo PR hps
     generalize di {w with builds:=bl} k=v at*
     obtain⟨⟨l',m'⟩,st',⟨d1',d2',d3',d4'⟩,⟨a',b',c',d'⟩,ta',bu',cs'⟩:=v
     obtain⟨⟨l,m⟩,st,⟨d1,d2,d3,d4⟩,⟨a,b,c,d⟩,ta,bu,cs⟩:=w
     simp only at hbu hg hbk cut hbl hq h0
     clear h0 hkk
     refine ah.af (rvs:=[.cell 8 39,.tmp 9]) G aa Tryz.func52 rfl Tryz.ntmps52 rfl rfl ?_;with_reducible refine wD ?_
     (have fct:=And.intro hbl (And.intro (eq_true e3) (And.intro (eq_true e4) (And.intro (eq_false htop) (And.intro (eq_true e5) ((eq_false e6))))));(repeat' (first
  |refine gF ?_|refine aE ?_ ?_
  | ((first
   |((with_reducible refine kQ 112 ?_);refine aj.new 160 [] ho oW ⟨
          ⟨rfl,rfl,rfl,rfl,rfl,rfl,rfl,rfl,rfl,rfl,rfl,rfl,rfl,rfl,trivial⟩
          ,rfl,trivial⟩ rfl rfl rfl (gB _) rfl ?_)
   |((with_reducible show ay _ _ _ _ _);first|refine ay.mk k (aX ⟨s1,s2,s3,s4⟩) rfl (aM hg) ?_|refine ay.mk bl.length (fA ⟨b1,b2⟩) (by(try simp only[aF]);omega) (ef hbk) ?_)
   |((with_reducible show k9 _ _ _ _ _ _);refine k9.mk 0 bl.length (bl.map bM) rfl (by(try simp only[aF]);omega) (by omega) cut ?_)
   |((with_reducible refine kQ 123 ?_);refine aj.gd (news:=[mW ⟨⟨l',m'⟩,st',⟨d1',d2',d3',d4'⟩,⟨a',b',c',d'⟩,ta',bu',cs'⟩]) [160] [] hq Ok
           ⟨⟨rfl,rfl⟩,rfl,trivial⟩ ⟨⟨rfl,.inr ⟨⟨
                ⟨rfl,rfl,rfl,rfl,rfl,rfl,rfl,rfl,rfl,rfl,rfl,rfl,rfl,rfl,trivial⟩
                ,trivial⟩,rfl⟩⟩,trivial⟩ rfl ⟨⟨rfl,rfl⟩,rfl⟩ rfl ⟨⟨rfl,.inr ⟨rfl,rfl,rfl⟩⟩,trivial⟩ rfl rfl ?_))<;>with_reducible refine wK ?_)
  | apply trivial));all_goals clear fct)
     all_goals first|rfl|trivial
   ·rw[if_pos (by simpa using e5)]
    have hq:=uq {w with builds:=bl} hps PR k hk
    clear hs e hl ht R he hst hf hpo PR hps
    generalize di {w with builds:=bl} k=v at*
    obtain⟨⟨l',m'⟩,st',⟨d1',d2',d3',d4'⟩,⟨a',b',c',d'⟩,ta',bu',cs'⟩:=v
    obtain⟨⟨l,m⟩,st,⟨d1,d2,d3,d4⟩,⟨a,b,c,d⟩,ta,bu,cs⟩:=w
    simp only at hbu hg hbk cut hbl hq h0
    clear h0 hkk
    refine ah.af (rvs:=[.cell 8 39,.tmp 9]) G aa Tryz.func52 rfl Tryz.ntmps52 rfl rfl ?_;with_reducible refine wD ?_
    (have fct:=And.intro hbl (And.intro (eq_true e3) (And.intro (eq_true e4) (And.intro (eq_false htop) ((eq_false e5)))));(repeat' (first
  |refine gF ?_|refine aE ?_ ?_
  | ((first
   |((with_reducible refine kQ 112 ?_);refine aj.new 160 [] ho oW ⟨
         ⟨rfl,rfl,rfl,rfl,rfl,rfl,rfl,rfl,rfl,rfl,rfl,rfl,rfl,rfl,trivial⟩
         ,rfl,trivial⟩ rfl rfl rfl (gB _) rfl ?_)
   |((with_reducible show ay _ _ _ _ _);first|refine ay.mk k (aX ⟨s1,s2,s3,s4⟩) rfl (aM hg) ?_|refine ay.mk bl.length (fA ⟨b1,b2⟩) (by(try simp only[aF]);omega) (ef hbk) ?_)
   |((with_reducible show k9 _ _ _ _ _ _);refine k9.mk 0 bl.length (bl.map bM) rfl (by(try simp only[aF]);omega) (by omega) cut ?_)
   |((with_reducible refine kQ 123 ?_);refine aj.gd (news:=[mW ⟨⟨l',m'⟩,st',⟨d1',d2',d3',d4'⟩,⟨a',b',c',d'⟩,ta',bu',cs'⟩]) [160] [] hq Ok
          ⟨⟨rfl,rfl⟩,rfl,trivial⟩ ⟨⟨rfl,.inr ⟨⟨
               ⟨rfl,rfl,rfl,rfl,rfl,rfl,rfl,rfl,rfl,rfl,rfl,rfl,rfl,rfl,trivial⟩
               ,trivial⟩,rfl⟩⟩,trivial⟩ rfl ⟨⟨rfl,rfl⟩,rfl⟩ rfl ⟨⟨rfl,.inr ⟨rfl,rfl,rfl⟩⟩,trivial⟩ rfl rfl ?_))<;>with_reducible refine wK ?_)
  | apply trivial));all_goals clear fct)
    all_goals first|rfl|trivial
  ·rw[show decide ((aY.mk b1 b2).df=(StateM.mk s1 s2 s3 s4).df)=false from decide_eq_false e4,Bool.and_false] at hf
   rw[pM hf]
   clear hs e hl ht R he hst hf
   obtain⟨⟨l,m⟩,st,⟨d1,d2,d3,d4⟩,⟨a,b,c,d⟩,ta,bu,cs⟩:=w
   simp only at hbu hg hbk cut hbl h0
   clear h0 hkk
   refine ah.af (rvs:=[.cell 8 39,.tmp 9]) G aa Tryz.func52 rfl Tryz.ntmps52 rfl rfl ?_;with_reducible refine wD ?_
   (have fct:=And.intro hbl (And.intro (eq_true e3) (And.intro (eq_false e4) ((eq_false htop))));(repeat' (first
  |refine gF ?_|refine aE ?_ ?_
  | ((first
   |((with_reducible refine kQ 112 ?_);refine aj.new 160 [] ho oW ⟨
        ⟨rfl,rfl,rfl,rfl,rfl,rfl,rfl,rfl,rfl,rfl,rfl,rfl,rfl,rfl,trivial⟩
        ,rfl,trivial⟩ rfl rfl rfl (gB _) rfl ?_)
   |((with_reducible show ay _ _ _ _ _);first|refine ay.mk k (aX ⟨s1,s2,s3,s4⟩) rfl (aM hg) ?_|refine ay.mk bl.length (fA ⟨b1,b2⟩) (by(try simp only[aF]);omega) (ef hbk) ?_)
   |((with_reducible show k9 _ _ _ _ _ _);refine k9.mk 0 bl.length (bl.map bM) rfl (by(try simp only[aF]);omega) (by omega) cut ?_))<;>with_reducible refine wK ?_)
  | apply trivial));all_goals clear fct)
   all_goals first|rfl|trivial
 ·rw[show decide ((StateM.mk s1 s2 s3 s4).phase=2)=false from decide_eq_false e3,Bool.false_and] at hf
  rw[pM hf]
  clear hs e hl ht R he hst hf
  obtain⟨⟨l,m⟩,st,⟨d1,d2,d3,d4⟩,⟨a,b,c,d⟩,ta,bu,cs⟩:=w
  simp only at hbu hg hbk cut hbl h0
  clear h0 hkk
  refine ah.af (rvs:=[.cell 8 39,.tmp 9]) G aa Tryz.func52 rfl Tryz.ntmps52 rfl rfl ?_;with_reducible refine wD ?_
  (have fct:=And.intro hbl ((eq_false e3));(repeat' (first
  |refine gF ?_|refine aE ?_ ?_
  | ((first
   | ((with_reducible refine kQ 112 ?_);refine aj.new 160 [] ho oW ⟨
       ⟨rfl,rfl,rfl,rfl,rfl,rfl,rfl,rfl,rfl,rfl,rfl,rfl,rfl,rfl,trivial⟩
       ,rfl,trivial⟩ rfl rfl rfl (gB _) rfl ?_)
   |((with_reducible show ay _ _ _ _ _);first|refine ay.mk k (aX ⟨s1,s2,s3,s4⟩) rfl (aM hg) ?_|refine ay.mk bl.length (fA ⟨b1,b2⟩) (by(try simp only[aF]);omega) (ef hbk) ?_)
   |((with_reducible show k9 _ _ _ _ _ _);refine k9.mk 0 bl.length (bl.map bM) rfl (by(try simp only[aF]);omega) (by omega) cut ?_))<;>with_reducible refine wK ?_)
  |apply trivial));all_goals clear fct)
  all_goals first|rfl|trivial
theorem jq (w:ai)(hs:bh w)(hl:kV 80000 w.line)(ht:w.tasks.length≤80000)(n an er:Int):ah Tryz.prog 52 [] [aT w,aq n,aq an,aq er] [] (.tup [aT (iJ w n an er).1,aq (iJ w n an er).2]):=by
 have ho:=sI w hs n
 have hbm:(w.builds.map bM).length=w.builds.length:=List.length_map ..
 have hbu:(w.builds.map bM).length≤90000:=by rw[List.length_map];exact hs.bu
 cases e:jd w n with
 | false=>
   rw[e] at ho
   rw[pM (by unfold gG;rw[e];rfl)]
   clear hs e hl ht
   obtain⟨⟨l,m⟩,st,⟨d1,d2,d3,d4⟩,⟨a,b,c,d⟩,ta,bu,cs⟩:=w
   simp only at hbm hbu
   refine ah.af (rvs:=[.cell 8 39,.tmp 9]) G aa Tryz.func52 rfl Tryz.ntmps52 rfl rfl ?_;with_reducible refine wD ?_
   (have fct:=hbm;(repeat' (first
  |refine gF ?_|refine aE ?_ ?_
  | (((with_reducible refine kQ 112 ?_);refine aj.new 160 [] ho oW ⟨
   ⟨rfl,rfl,rfl,rfl,rfl,rfl,rfl,rfl,rfl,rfl,rfl,rfl,rfl,rfl,trivial⟩
   ,rfl,trivial⟩ rfl rfl rfl (gB _) rfl ?_)<;>with_reducible refine wK ?_)
  | apply trivial));all_goals clear fct)
   all_goals first|rfl|trivial
 | true=>
   rw[e] at ho
   obtain⟨R,he⟩:=iB.1 e
   obtain⟨k,x,⟨s1,s2,s3,s4⟩,rfl,_,_,hg,hk,hst⟩:=sN R he
   rcases List.eq_nil_or_concat w.builds with h0|⟨bl,⟨b1,b2⟩,h0⟩
   rotate_left
   ·rw[List.concat_eq_append] at h0
    exact Bi w hs hl ht k an er e bl b1 b2 h0
   ·have hf:gG w k=false:=by unfold gG;rw[h0];simp
    rw[pM hf]
    clear hs e hl ht R he hst hf
    obtain⟨⟨l,m⟩,st,⟨d1,d2,d3,d4⟩,⟨a,b,c,d⟩,ta,bu,cs⟩:=w
    simp only at h0 hbm hg hbu
    have hbz:(bu.map bM).length=0:=by rw[h0];rfl
    clear h0 hbm
    by_cases e3:s1=2
    ·refine ah.af (rvs:=[.cell 8 39,.tmp 9]) G aa Tryz.func52 rfl Tryz.ntmps52 rfl rfl ?_;with_reducible refine wD ?_
     (have fct:=And.intro hbz (e3);(repeat' (first
  |refine gF ?_|refine aE ?_ ?_
  | ((first
   | ((with_reducible refine kQ 112 ?_);refine aj.new 160 [] ho oW ⟨
     ⟨rfl,rfl,rfl,rfl,rfl,rfl,rfl,rfl,rfl,rfl,rfl,rfl,rfl,rfl,trivial⟩
     ,rfl,trivial⟩ rfl rfl rfl (gB _) rfl ?_)
   |((with_reducible show ay _ _ _ _ _);refine ay.mk k (aX ⟨s1,s2,s3,s4⟩) rfl (aM hg) ?_))<;>with_reducible refine wK ?_)
  | apply trivial));all_goals clear fct)
     all_goals first|rfl|trivial
    ·refine ah.af (rvs:=[.cell 8 39,.tmp 9]) G aa Tryz.func52 rfl Tryz.ntmps52 rfl rfl ?_;with_reducible refine wD ?_
     (have fct:=And.intro hbz ((eq_false e3));(repeat' (first
  |refine gF ?_|refine aE ?_ ?_
  | ((first
   | ((with_reducible refine kQ 112 ?_);refine aj.new 160 [] ho oW ⟨
     ⟨rfl,rfl,rfl,rfl,rfl,rfl,rfl,rfl,rfl,rfl,rfl,rfl,rfl,rfl,trivial⟩
     ,rfl,trivial⟩ rfl rfl rfl (gB _) rfl ?_)
   |((with_reducible show ay _ _ _ _ _);refine ay.mk k (aX ⟨s1,s2,s3,s4⟩) rfl (aM hg) ?_))<;>with_reducible refine wK ?_)
  |apply trivial));all_goals clear fct)
     all_goals first|rfl|trivial
end Go.Proofs.Heir
namespace Go.Proofs.Heir
open Go Go.Am Go.RowKit Go.Lib
set_option maxRecDepth 100000
set_option maxHeartbeats 8000000
set_option maxHeartbeats 32000000
theorem It {m:ML}{fz:Nat→Bool}{ck:List (Nat×Nat)}{n t len:Nat}{ro:Bool}{rows:List AV}{l:List bD}(h1:ej m t=.live 3 rows ro)(h2:fz t=true)(h3:rows=l.map fH)(h4:len=l.length):nq m fz (MF ck fz m n) (nY l) t 0 len:=by
 subst h3;subst h4
 have e:(l.map fH).length=l.length:=List.length_map ..
 exact .cut h1 h2 (by omega) (by rw[List.drop_zero,List.take_of_length_le (by omega)]) (cj fH (fun _=>rfl) l)
theorem vQ (v w:ai)(n:Nat)(h0:v.states.length≤100000)(h1:v.states.length=w.states.length)(h2:v.line.todos.length=w.line.todos.length)(h3:v.states.length=v.line.todos.length)(hsz:∀t∈w.line.todos,t.length≤99000)
  (h:∀j,j≠n→v.states[j]? =w.states[j]? ∧v.line.todos[j]? =w.line.todos[j]?):ah Tryz.prog 48 [] [aT v,aT w,aq n] [] (aA true):=by
 obtain⟨⟨l',m'⟩,st',⟨d1',d2',d3',d4'⟩,⟨a',b',c',d'⟩,ta',bu',cs'⟩:=v
 obtain⟨⟨l,m⟩,st,⟨d1,d2,d3,d4⟩,⟨a,b,c,d⟩,ta,bu,cs⟩:=w
 simp only at h0 h1 h2 h3 hsz h
 have n1:(st'.map bG).length=st'.length:=List.length_map ..
 have n2:(st.map bG).length=st'.length:=by rw[List.length_map,h1]
 have n3:(a'.map cI).length=a'.length:=List.length_map ..
 have n4:(a.map cI).length=a'.length:=by rw[List.length_map,h2]
 refine ah.af (rvs:=[.tmp 6]) G aa Tryz.func48 rfl Tryz.ntmps48 rfl rfl ?_;with_reducible refine wD ?_
 (have fct:=And.intro n1 (And.intro n2 (And.intro n3 (n4)));(repeat' (first
  |refine gF ?_|refine aE ?_ ?_
  |apply trivial));all_goals clear fct)
 refine aU.use G aa (fun(k:Nat)=>[(2,aq n),(3,.ptr 30 0 0),(4,.ptr 40 0 0),(7,aq k)]) (fun _=>[(30,mW ⟨⟨l',m'⟩,st',⟨d1',d2',d3',d4'⟩,⟨a',b',c',d'⟩,ta',bu',cs'⟩),(40,mW ⟨⟨l,m⟩,st,⟨d1,d2,d3,d4⟩,⟨a,b,c,d⟩,ta,bu,cs⟩)])
  (fun k=>k≤st'.length) (fun k=>st'.length-k) 0 (Nat.zero_le _) ?_ ?_
 ·(refine fK ?_;(with_reducible repeat' (first|exact trivial|(show _∧_;refine aK ?_ ?_)));(all_goals try rfl))
  all_goals first|rfl
 intro k hk
 with_reducible refine wK ?_
 refine bq.mk (fun h9=>?_) (fun h9=>?_)<;>(try simp only[aF] at h9)<;>with_reducible refine wK ?_
 ·have hk':k<st'.length:=by simp only[decide_eq_true_eq] at h9;omega
  clear h9
  by_cases e:(k:Int)=(n:Int)
  ·(have fct:=(eq_true e);(repeat' (first
  |refine gF ?_|refine aE ?_ ?_
  | apply trivial));all_goals clear fct)
   refine aL.mk (k+1) (by omega) (by omega) ?_
   (refine fK ?_;(with_reducible repeat' (first|exact trivial|(show _∧_;refine aK ?_ ?_)));(all_goals try rfl))
   all_goals first|(simp;done)
  ·obtain⟨q1,q2⟩:=h k (by omega)
   obtain⟨⟨s1,s2,s3,s4⟩,hs⟩:∃x,st'[k]? =some x:=⟨_,List.getElem?_eq_getElem hk'⟩
   obtain⟨y,hy⟩:∃x,a'[k]? =some x:=⟨_,List.getElem?_eq_getElem (by omega)⟩
   rw[hs] at q1
   rw[hy] at q2
   have q1:=q1.symm
   have q2:=q2.symm
   have ht:=mN y (by have:=hsz y (List.mem_of_getElem? q2);omega)
   (have fct:=(eq_false e);(repeat' (first
  |refine gF ?_|refine aE ?_ ?_
  | ((first
   |((with_reducible show ay _ _ _ _ _);first|refine ay.mk k (aX ⟨s1,s2,s3,s4⟩) rfl (aM hs) ?_|refine ay.mk k (aX ⟨s1,s2,s3,s4⟩) rfl (aM q1) ?_|refine ay.mk k (cF y) rfl (cz hy) ?_|refine ay.mk k (cF y) rfl (cz q2) ?_)
   |((with_reducible show tB _ _ _ _ _ _ _ _);refine tB.mk _ (fun y z w=>Aj ⟨s1,s2,s3,s4⟩ ⟨s1,s2,s3,s4⟩ y z w) ?_)
   |((with_reducible refine kQ 43 ?_);refine cL ht Qe ?_)
   |((with_reducible show bI _ _ _ _);refine dK ?_))<;>with_reducible refine wK ?_)
  | apply trivial));all_goals clear fct)
   refine aL.mk (k+1) (by omega) (by omega) ?_
   (refine fK ?_;(with_reducible repeat' (first|exact trivial|(show _∧_;refine aK ?_ ?_)));(all_goals try rfl))
   all_goals first|(simp;done)
 ·clear h9
  repeat' (first
  |refine gK ?_|refine aE ?_ ?_
  |apply trivial)
@[reducible] def pP : ByteArray := ⟨#[112]⟩
@[reducible] def Sd : ByteArray := ⟨#[80]⟩
@[reducible] def pC : aH := ⟨false, [], [], [], []⟩
@[reducible] def pD : aZ := ⟨[⟨Oi, pP, 0⟩], [], 0, false⟩
@[reducible] def QJ : au := ⟨1, pP, Oi, qE, [], -1, [], -1, -1, 0⟩
@[reducible] def OM : ForM := ⟨[Qb, QJ], 5⟩
@[reducible] def Sx : ForM := ⟨[Qb, QJ, QJ], 5⟩
@[reducible] def Sh : ai := ⟨Pa, [HR], qD, ⟨[[]], [], [], false⟩, [], [], [pC]⟩
@[reducible] def pW : ai := ⟨Pa, [HR], pD, ⟨[[]], [], [], false⟩, [], [], [pC]⟩
@[reducible] def pV : ai := ⟨OM, [HR, Pq], pD, ⟨[[], []], [], [], false⟩, [], [], [pC]⟩
@[reducible] def pU : ai := ⟨OM, [HR, ⟨2, 0, -1, false⟩], pD, ⟨[[], []], [], [], false⟩, [], [⟨0, 1⟩], [pC]⟩
@[reducible] def pT : ai := ⟨OM, [HR, ⟨2, 0, -1, false⟩], pD, ⟨[[], []], [], [], false⟩, [], [⟨0, -4⟩], [pC]⟩
@[reducible] def pS : ai := ⟨OM, [HR, ⟨3, 0, -1, false⟩], pD, ⟨[[], []], [], [], false⟩, [], [], [pC]⟩
@[reducible] def pR : ai := ⟨Sx, [HR, ⟨3, 0, -1, false⟩, ⟨2, 0, -1, false⟩], pD, ⟨[[], [], []], [], [], false⟩, [], [], [pC]⟩
@[reducible] def pQ : ai := ⟨OM, [HR, ⟨4, -1, -1, false⟩], pD, ⟨[[], []], [], [], false⟩, [], [], [pC]⟩
theorem p1:II [pC] 5=(Sh,0):=by kernel_rfl
theorem p2:gb pW Sd Oi 0=(pV,1,0):=by kernel_rfl
theorem p3:gm pV 1 0=(pU,true):=by kernel_rfl
theorem p4:gq pU 0=(pT,1,false,0):=by kernel_rfl
theorem p5:gq pT 0=(pT,-1,false,7):=by kernel_rfl
theorem p6:iJ pT 1 1 0=(pS,0):=by kernel_rfl
theorem p7:gq pS 0=(pR,2,true,0):=by kernel_rfl
theorem p8:iJ pT 1 0 0=(pQ,7):=by kernel_rfl
theorem p9:rU pS 1 pP 0=0:=by kernel_rfl
theorem P6:rU pS 0 pP 0=5:=by kernel_rfl
theorem R7:lz [pC]:=fun c hc=>by rw[List.mem_singleton.1 hc];exact⟨by decide,by decide,by decide,by decide,by decide⟩
theorem R1:∀c∈ [pC],∀s∈c.watch,s.size≤300:=fun c hc s hs=>by rw[List.mem_singleton.1 hc] at hs;cases hs
theorem PN {w:ai}(h:(decide (w.f.nodes.length≤60)&&w.f.nodes.all fun x=>decide (x.kids.length≤60)&&decide (x.attrs.length≤60)&&decide (x.name.size≤300))=true)(h2:(decide (w.states.length≤60)&&(decide (w.desk.defs.length≤60)&&(decide (w.desk.waits.length≤60)&&(decide (w.tasks.length≤60)&&decide (w.builds.length≤60)))))=true)
  (h3:oo w.line=true) (h4:w.classes=[pC]):bh w∧kV 80000 w.line∧w.tasks.length≤80000∧w.f.nodes.length≤63:=by
 simp only[Bool.and_eq_true,decide_eq_true_eq] at h2
 obtain⟨a1,a2,a3,a4,a5⟩:=h2
 have hn:=OB h
 have hl:=mP h3
 have hl6:w.f.nodes.length≤60:=by
  rw[Bool.and_eq_true,decide_eq_true_eq] at h;exact h.1
 exact⟨⟨hn,by omega,⟨by omega,by omega⟩,hl.mono (by decide),by omega,by omega,by rw[h4];decide,by rw[h4];exact R7,by rw[h4];exact R1⟩,hl.mono (by decide),by omega,by omega⟩
theorem Qm:∀x∈pD.defs,(ek x.locl).size≤300:=fun x hx=>by rw[List.mem_singleton.1 hx];decide
theorem mH:ah Tryz.prog 46 [] [] [] (aA true):=by
 have a1:=FI [pC] 5 (by decide) R7 R1
 rw[p1] at a1
 have sW:=PN (w:=pW) (by kernel_rfl) (by kernel_rfl) (by kernel_rfl) rfl
 have sV:=PN (w:=pV) (by kernel_rfl) (by kernel_rfl) (by kernel_rfl) rfl
 have sU:=PN (w:=pU) (by kernel_rfl) (by kernel_rfl) (by kernel_rfl) rfl
 have sT:=PN (w:=pT) (by kernel_rfl) (by kernel_rfl) (by kernel_rfl) rfl
 have sS:=PN (w:=pS) (by kernel_rfl) (by kernel_rfl) (by kernel_rfl) rfl
 have a2:=Co pW sW.1 sW.2.2.2 sW.2.1 sW.2.2.1 Sd Oi (by decide) 0
 rw[p2] at a2
 have a3:=iG pV sV.1 1 0
 rw[p3] at a3
 have a4:=iE pU sU.1 sU.2.2.2 sU.2.1 sU.2.2.1 Qm 0
 rw[p4] at a4
 have a5:=iE pT sT.1 sT.2.2.2 sT.2.1 sT.2.2.1 Qm 0
 rw[p5] at a5
 have a6:=jq pT sT.1 sT.2.1 sT.2.2.1 1 1 0
 rw[p6] at a6
 have a7:=iE pS sS.1 sS.2.2.2 sS.2.1 sS.2.2.1 Qm 0
 rw[p7] at a7
 have a8:=jq pT sT.1 sT.2.1 sT.2.2.1 1 0 0
 rw[p8] at a8
 have a9:=Br pS sS.1 1 pP 0
 rw[p9] at a9
 have a10:=Br pS sS.1 0 pP 0
 rw[P6] at a10
 clear sW sV sU sT sS
 refine ah.af (rvs:=[.tmp 0]) G aa Tryz.func46 rfl Tryz.ntmps46 rfl rfl ?_;with_reducible refine wD ?_
 refine aj.val [261] a1 RU ⟨?_,rfl,trivial⟩ rfl rfl rfl ?_
 ·refine⟨5,_,_,[dM pC],rfl,rfl,rfl,by decide,rfl,kS.of ⟨?_,trivial⟩⟩
  exact⟨rfl,.inr (.inr ⟨_,rfl⟩),.inr (.inr ⟨_,rfl⟩),.inr (.inr ⟨_,rfl⟩),.inr (.inr ⟨_,rfl⟩),trivial⟩
 with_reducible refine wK ?_
 repeat' (first
  |refine gK ?_|refine aE ?_ ?_
  | ((first
   |((with_reducible refine kQ 55 ?_);refine aj.val [311] a2 OK ⟨⟨rfl,rfl,rfl,It (l:=[⟨Oi,pP,0⟩]) rfl rfl rfl rfl,rfl,rfl,rfl,rfl,rfl,rfl,rfl,rfl,rfl,rfl,trivial⟩,rfl,rfl,rfl,trivial⟩ rfl rfl rfl ?_)
   |((with_reducible refine kQ 47 ?_);refine aj.val [] a3 Eg ⟨
   ⟨rfl,rfl,rfl,rfl,rfl,rfl,rfl,rfl,rfl,rfl,rfl,rfl,rfl,rfl,trivial⟩
   ,rfl,rfl,trivial⟩ rfl rfl rfl ?_)
   |((with_reducible refine kQ 50 ?_);first
   | refine aj.val [] a4 KS ⟨
    ⟨rfl,rfl,rfl,rfl,rfl,rfl,rfl,rfl,rfl,rfl,rfl,rfl,rfl,rfl,trivial⟩
    ,rfl,trivial⟩ rfl rfl rfl ?_
   | refine aj.val [] a5 KS ⟨
    ⟨rfl,rfl,rfl,rfl,rfl,rfl,rfl,rfl,rfl,rfl,rfl,rfl,rfl,rfl,trivial⟩
    ,rfl,trivial⟩ rfl rfl rfl ?_
   | refine aj.val [] a7 KS ⟨
    ⟨rfl,rfl,rfl,rfl,rfl,rfl,rfl,rfl,rfl,rfl,rfl,rfl,rfl,rfl,trivial⟩
    ,rfl,trivial⟩ rfl rfl rfl ?_)
   |((with_reducible refine kQ 52 ?_);first
   | refine aj.val [] a6 Oz ⟨
    ⟨rfl,rfl,rfl,rfl,rfl,rfl,rfl,rfl,rfl,rfl,rfl,rfl,rfl,rfl,trivial⟩
    ,rfl,rfl,rfl,trivial⟩ rfl rfl rfl ?_
   | refine aj.val [] a8 Oz ⟨
    ⟨rfl,rfl,rfl,rfl,rfl,rfl,rfl,rfl,rfl,rfl,rfl,rfl,rfl,rfl,trivial⟩
    ,rfl,rfl,rfl,trivial⟩ rfl rfl rfl ?_))<;>with_reducible refine wK ?_)
  |apply trivial)
 dsimp only[List.append];with_reducible refine wK ?_
 repeat' (first
  |refine gK ?_|refine aE ?_ ?_
  | ((first
   |((with_reducible show ay _ _ _ _ _);first|refine ay.mk 1 (aX ⟨3,0,-1,false⟩) rfl rfl ?_|refine ay.mk 1 (aX ⟨4,-1,-1,false⟩) rfl rfl ?_)
   |((with_reducible show tB _ _ _ _ _ _ _ _);refine tB.mk _ (fun y z w=>zk ⟨4,-1,-1,false⟩ ⟨4,-1,-1,false⟩ y z w) ?_)
   |((with_reducible refine kQ 56 ?_);first
   | refine aj.lit [] a9 P1 ⟨
    ⟨rfl,rfl,rfl,rfl,rfl,rfl,rfl,rfl,rfl,rfl,rfl,rfl,rfl,rfl,trivial⟩
    ,rfl,rfl,rfl,trivial⟩ rfl rfl ?_
   | refine aj.lit [] a10 P1 ⟨
    ⟨rfl,rfl,rfl,rfl,rfl,rfl,rfl,rfl,rfl,rfl,rfl,rfl,rfl,rfl,trivial⟩
    ,rfl,rfl,rfl,trivial⟩ rfl rfl ?_))<;>with_reducible refine wK ?_)
  |apply trivial)
 all_goals first|rfl
theorem dH {a:Int}(h:0≤a∧a<256):IntKind.i64.wrap a=a:=IntWalk.i64_in _ (by omega)
theorem nk {w:ai}(R:aP w){k:Nat}{s:StateM}(hs:w.states[k]? =some s)(h:s.phase≠0):elemV w.f.nodes k=true:=by
 have hk:=(List.getElem?_eq_some_iff.1 hs).1
 have hsl:=R.sl
 have hx:w.f.nodes[k]? =some w.f.nodes[k]:=List.getElem?_eq_getElem (by omega)
 have:=R.st k _ s hx hs
 unfold gy at this
 unfold elemV
 rw[dj hx,cZ hx]
 by_cases e:w.f.nodes[k].kind=1
 ·exact decide_eq_true e
 ·rw[if_neg e,decide_eq_true_eq] at this
  rw[this] at h
  exact absurd rfl h
theorem qQ {w:ai}(R:aP w){k:Nat}{s:StateM}(hs:w.states[k]? =some s){df:Int}(hd:dO w df=true):cD w k df=decide (s.phase=1):=by
 by_cases e:s.phase=1
 ·rw[decide_eq_true e]
  exact eO.2 ⟨⟨R,nk R hs (by omega)⟩,hd,by rw[bX hs];exact e⟩
 ·rw[decide_eq_false e,Bool.eq_false_iff]
  intro h
  have:=(eO.1 h).2.2
  rw[bX hs] at this;exact e this
theorem mo {w:ai}(R:aP w):1≤w.f.nodes.length:=by
 have:=R.rf
 unfold aV wV at this
 simp only[Bool.and_eq_true,decide_eq_true_eq] at this
 exact this.1.1.1.2
theorem oR {w:ai}(S:uw w):w.f.nodes.length≤60:=by
 have:=S.f
 unfold pq at this
 rw[Bool.and_eq_true,decide_eq_true_eq] at this;exact this.1
structure xh (w:ai) (k:Nat) (df:Int) (s:StateM) (D:List bB) (v:ai):Prop where
 r:aP v
 sm:bh v
 f:v.f=w.f
 d:v.desk=w.desk
 cl:v.classes=w.classes
 bu:v.builds=w.builds++ [⟨df,k⟩]
 st:v.states[k]? =some ⟨2,df,s.owner,s.barred⟩
 ot:∀j,j≠k→v.states[j]? =w.states[j]? ∧v.line.todos[j]? =w.line.todos[j]?
 ls:v.states.length=w.states.length
 lt:v.line.todos.length=w.line.todos.length
 td:∀y,w.line.todos[k]? =some y→v.line.todos[k]? =some (y++D.map bB.todo)
theorem lM {w:ai}{k:Nat}{df:Int}{s:StateM}(h:cD w k df=true)(hs:w.states[k]? =some s)(S:bh w){B:Nat}(hl:kV B w.line)(hB:B≤80000)(ht:w.tasks.length≤80000)(hb:w.builds.length≤80000):xh w k df s (cC w.f (bE w k 2 df).states w.desk w.classes k) (bg w k df):=by
 obtain⟨P,e,V⟩:=start_eq h
 obtain⟨q1,q2,q3,q4,q5⟩:=we h
 have R:=(eO.1 h).1.1
 have ts:∀ (m:Nat) y,w.line.todos[m]? =some y→(bg w k df).line.todos[m]? =some (y++if(m:Int)=k then(cC w.f (bE w k 2 df).states w.desk w.classes k).map bB.todo else[]):=fun m y hy=>by
  have hm:=(List.getElem?_eq_some_iff.1 hy).1
  have tl:=R.tl
  have vl:=V.tl
  rw[q2] at vl
  have hg:(bg w k df).line.todos[m]? =some ((bg w k df).line.todos[m]'(by omega)):=List.getElem?_eq_getElem _
  have:=Jm h (m:=(m:Int)) (by unfold ak;simp;omega)
  rw[kG rfl hg,kG rfl hy] at this
  rw[hg,this]
 have pl:(bg w k df).states.length=w.states.length:=by rw[q1];exact List.length_set ..
 have tl2:(bg w k df).line.todos.length=w.line.todos.length:=by have h1:=V.tl;have h2:=R.tl;rw[q2] at h1;omega
 refine⟨V,(lO h S hl hB ht hb).1,q2,q3,q4,q5,?_,?_,pl,tl2,?_⟩
 ·rw[q1]
  have:=pX hs 2 df k
  rw[if_pos rfl] at this;exact this
 ·intro j hj
  constructor
  ·rw[q1]
   have:=pX hs 2 df j
   rw[if_neg (fun q=>hj q.symm)] at this;exact this
  ·by_cases hjl:j<w.line.todos.length
   ·have hy:w.line.todos[j]? =some w.line.todos[j]:=List.getElem?_eq_getElem hjl
    have:=ts j _ hy
    rw[if_neg (by omega),List.append_nil] at this
    rw[this,hy]
   ·rw[List.getElem?_eq_none (by omega),List.getElem?_eq_none (by omega)]
 ·intro y hy
  have:=ts k y hy
  rwa [if_pos rfl] at this
theorem OW (w:ai)(x y:Int)(hx:0≤x∧x<256)(hy:0≤y∧y<256):ah Tryz.prog 8 [] [aT w,.lit (.int .u8 x),.lit (.int .u8 y)] [] (aA true):=by
 have h15:=mH
 have h16:=kp w
 have hdm:(w.desk.defs.map fH).length=w.desk.defs.length:=List.length_map ..
 cases e1:nj w with
 | false=>
   rw[e1] at h16
   obtain⟨⟨l,m⟩,st,⟨d1,d2,d3,d4⟩,⟨a,b,c,d⟩,ta,bu,cs⟩:=w
   refine ah.af (rvs:=[.tmp 6]) G aa Tryz.func8 rfl Tryz.ntmps8 rfl rfl ?_;with_reducible refine wD ?_
   repeat' (first
  |refine gK ?_|refine aE ?_ ?_
  | ((first
   |((with_reducible refine kQ 46 ?_);refine cL h15 rT ?_)
   | ((with_reducible refine kQ 16 ?_);refine aj.lit [] h16 rM ⟨
       ⟨rfl,rfl,rfl,rfl,rfl,rfl,rfl,rfl,rfl,rfl,rfl,rfl,rfl,rfl,trivial⟩
       ,trivial⟩ rfl rfl ?_))<;>with_reducible refine wK ?_)
  |apply trivial)
 |true=>
 rw[e1] at h16
 have S:=jg.1 e1
 have h19:=cr w S.small
 cases e3:cf w with
 | false=>
   rw[e3] at h19
   clear S e1
   obtain⟨⟨l,m⟩,st,⟨d1,d2,d3,d4⟩,⟨a,b,c,d⟩,ta,bu,cs⟩:=w
   refine ah.af (rvs:=[.tmp 6]) G aa Tryz.func8 rfl Tryz.ntmps8 rfl rfl ?_;with_reducible refine wD ?_
   repeat' (first
  |refine gK ?_|refine aE ?_ ?_
  | ((first
   |((with_reducible refine kQ 46 ?_);refine cL h15 rT ?_)
   | ((with_reducible refine kQ 16 ?_);refine aj.lit [] h16 rM ⟨
       ⟨rfl,rfl,rfl,rfl,rfl,rfl,rfl,rfl,rfl,rfl,rfl,rfl,rfl,rfl,trivial⟩
       ,trivial⟩ rfl rfl ?_)
   | ((with_reducible refine kQ 19 ?_);refine aj.lit [] h19 gZ ⟨
       ⟨rfl,rfl,rfl,rfl,rfl,rfl,rfl,rfl,rfl,rfl,rfl,rfl,rfl,rfl,trivial⟩
       ,trivial⟩ rfl rfl ?_))<;>with_reducible refine wK ?_)
  |apply trivial)
 |true=>
 rw[e3] at h19
 by_cases e2:(w.desk.defs.length:Int)=0
 ·clear S e1 e3
  obtain⟨⟨l,m⟩,st,⟨d1,d2,d3,d4⟩,⟨a,b,c,d⟩,ta,bu,cs⟩:=w
  simp only at hdm e2
  refine ah.af (rvs:=[.tmp 6]) G aa Tryz.func8 rfl Tryz.ntmps8 rfl rfl ?_;with_reducible refine wD ?_
  (have fct:=And.intro hdm (e2);(repeat' (first
  |refine gF ?_|refine aE ?_ ?_
  | ((first
   |((with_reducible refine kQ 46 ?_);refine cL h15 rT ?_)
   | ((with_reducible refine kQ 16 ?_);refine aj.lit [] h16 rM ⟨
       ⟨rfl,rfl,rfl,rfl,rfl,rfl,rfl,rfl,rfl,rfl,rfl,rfl,rfl,rfl,trivial⟩
       ,trivial⟩ rfl rfl ?_)
   | ((with_reducible refine kQ 19 ?_);refine aj.lit [] h19 gZ ⟨
       ⟨rfl,rfl,rfl,rfl,rfl,rfl,rfl,rfl,rfl,rfl,rfl,rfl,rfl,rfl,trivial⟩
       ,trivial⟩ rfl rfl ?_))<;>with_reducible refine wK ?_)
  |apply trivial));all_goals clear fct)
 have hg2:decide (((w.desk.defs.map fH).length:Int)=0)=false:=decide_eq_false (by omega)
 have R:=bH.1 e3
 have hsm:=S.small
 have hn1:=mo R
 have hsl:=R.sl
 have htl:=R.tl
 obtain⟨k,hk⟩:∃k:Nat,x% (w.states.length:Int)=k:=⟨_,(Int.toNat_of_nonneg (Int.emod_nonneg _ (by omega))).symm⟩
 have hkl:k<w.states.length:=by
  have:=Int.emod_lt_of_pos x (show(0:Int)< (w.states.length:Int) by omega)
  omega
 obtain⟨j,hj⟩:∃j:Nat,y% (w.desk.defs.length:Int)=j:=⟨_,(Int.toNat_of_nonneg (Int.emod_nonneg _ (by omega))).symm⟩
 have hjl:j<w.desk.defs.length:=by
  have:=Int.emod_lt_of_pos y (show(0:Int)< (w.desk.defs.length:Int) by omega)
  omega
 have hd:dO w j=true:=by unfold dO;simp;omega
 have hl6:=mP S.l
 have hstm:(w.states.map bG).length=w.states.length:=List.length_map ..
 have hdpos:0<w.desk.defs.length:=by omega
 have hspos:0<w.states.length:=by omega
 obtain⟨⟨s1,s2,s3,s4⟩,hs⟩:∃x,w.states[k]? =some x:=⟨_,List.getElem?_eq_getElem hkl⟩
 have hok:=qQ R hs hd
 have hSt:=iG w hsm k j
 cases e5:cD w k j with
 | false=>
   rw[jo e5] at hSt
   rw[e5] at hok
   have hp:¬s1=1:=of_decide_eq_false hok.symm
   have hSw:=nJ w hsm
   clear S R hsm e1 e3 hl6 hok e5 hd hsl htl hn1
   obtain⟨⟨l,m⟩,st,⟨d1,d2,d3,d4⟩,⟨a,b,c,d⟩,ta,bu,cs⟩:=w
   simp only at*
   refine ah.af (rvs:=[.tmp 6]) G aa Tryz.func8 rfl Tryz.ntmps8 rfl rfl ?_;with_reducible refine wD ?_
   (have fct:=And.intro hdm ((eq_false e2));(repeat' (first
  |refine gF ?_|refine aE ?_ ?_
  | ((first
   |((with_reducible refine kQ 46 ?_);refine cL h15 rT ?_)
   | ((with_reducible refine kQ 16 ?_);refine aj.lit [] h16 rM ⟨
    ⟨rfl,rfl,rfl,rfl,rfl,rfl,rfl,rfl,rfl,rfl,rfl,rfl,rfl,rfl,trivial⟩
    ,trivial⟩ rfl rfl ?_)
   | ((with_reducible refine kQ 19 ?_);refine aj.lit [] h19 gZ ⟨
    ⟨rfl,rfl,rfl,rfl,rfl,rfl,rfl,rfl,rfl,rfl,rfl,rfl,rfl,rfl,trivial⟩
    ,trivial⟩ rfl rfl ?_))<;>with_reducible refine wK ?_)
  | apply trivial));all_goals clear fct)
   refine dA.int (by kernel_rfl) (by kernel_rfl) (dH hx) ?_;with_reducible refine wK ?_
   repeat' (first
  |refine gK ?_|refine aE ?_ ?_
  | apply trivial)
   refine aW.rem hx.1 (show 0< ((st.map bG).length:Int) by omega) rfl rfl rfl rfl ?_;with_reducible refine wK ?_
   rw[hstm,hk]
   repeat' (first
  |refine gK ?_|refine aE ?_ ?_
  | apply trivial)
   refine dA.int (by kernel_rfl) (by kernel_rfl) (dH hy) ?_;with_reducible refine wK ?_
   repeat' (first
  |refine gK ?_|refine aE ?_ ?_
  | apply trivial)
   refine aW.rem hy.1 (show 0< ((d1.map fH).length:Int) by omega) rfl rfl rfl rfl ?_;with_reducible refine wK ?_
   rw[hdm,hj]
   (have fct:=(eq_false hp);(repeat' (first
  |refine gF ?_|refine aE ?_ ?_
  | ((first
   |((with_reducible refine kQ 47 ?_);refine aj.val [] hSt Eg ⟨
   ⟨rfl,rfl,rfl,rfl,rfl,rfl,rfl,rfl,rfl,rfl,rfl,rfl,rfl,rfl,trivial⟩
   ,rfl,rfl,trivial⟩ rfl rfl rfl ?_)
   |((with_reducible show ay _ _ _ _ _);refine ay.mk k (aX ⟨s1,s2,s3,s4⟩) rfl (aM hs) ?_)
   | ((with_reducible refine kQ 23 ?_);refine aj.lit [] hSw Qi ⟨
    ⟨rfl,rfl,rfl,rfl,rfl,rfl,rfl,rfl,rfl,rfl,rfl,rfl,rfl,rfl,trivial⟩
    ,
    ⟨rfl,rfl,rfl,rfl,rfl,rfl,rfl,rfl,rfl,rfl,rfl,rfl,rfl,rfl,trivial⟩
    ,trivial⟩ rfl rfl ?_))<;>with_reducible refine wK ?_)
  | apply trivial));all_goals clear fct)
   all_goals first|rfl
 | true=>
   have hw:gm w k j=(bg w k j,true):=by unfold gm;rw[if_pos e5]
   rw[hw] at hSt
   rw[e5] at hok
   have hp:s1=1:=of_decide_eq_true hok.symm
   have F:=lM e5 hs hsm hl6 (by decide) (by have:=S.ta;omega) (by have:=S.bu;omega)
   have hDl:=tR hsm.f (bE w k 2 j).states w.desk w.classes k
   have hFi:=HY w.f hsm.f (bg w k j).states w.desk hsm.d w.classes hsm.cs k
   rw[(we e5).1] at hFi
   generalize hD:cC w.f (bE w k 2 j).states w.desk w.classes k=D at*
   have hst1:(bE w k 2 j).states=(bg w k j).states:=(we e5).1.symm
   rw[hst1] at hFi
   have hRv:=cr (bg w k j) F.sm
   rw[bH.2 F.r] at hRv
   have hSv:=nJ (bg w k j) F.sm
   have hfs:=oV w.f hsm.f
   have hds:=yI w.desk hsm.d
   have hov:=vQ (bg w k j) w k (by have:=F.sm.st;omega) F.ls F.lt (by have:=F.r.sl;have:=F.r.tl;omega) (fun t ht=>by have:=hl6.todo t ht;omega) F.ot
   have hS2:=iG (bg w k j) F.sm k j
   rw[xV (by rw[bX F.st];show(2:Int)≠1;decide)] at hS2
   obtain⟨y0,hy0⟩:∃z,w.line.todos[k]? =some z:=⟨_,List.getElem?_eq_getElem (by omega)⟩
   have hy0l:=hl6.todo y0 (List.mem_of_getElem? hy0)
   have hvt:=F.td y0 hy0
   have hTd:=mN (y0++D.map bB.todo) (by rw[List.length_append,List.length_map];omega)
   have hvs:=F.st
   have hvb:(bg w k j).builds[w.builds.length]? =some ⟨j,k⟩:=by rw[F.bu,List.getElem?_append_right (Nat.le_refl _),Nat.sub_self];rfl
   have hvbl:(bg w k j).builds.length=w.builds.length+1:=by rw[F.bu];simp
   have hbu9:=S.bu
   have h1:=F.f
   have h2:=F.d
   have h3:=F.cl
   clear F S R hsm e1 e3 hl6 hok e5 hd hsl htl hn1 hw hst1 hD
   generalize bg w k j=v at*
   simp only at hvs
   obtain⟨⟨l',m'⟩,st',⟨d1',d2',d3',d4'⟩,⟨a',b',c',d'⟩,ta',bu',cs'⟩:=v
   obtain⟨⟨l,m⟩,st,⟨d1,d2,d3,d4⟩,⟨a,b,c,d⟩,ta,bu,cs⟩:=w
   simp only at*
   obtain⟨rfl,rfl⟩:l=l'∧m=m':=by cases h1;exact⟨rfl,rfl⟩
   obtain⟨rfl,rfl,rfl,rfl⟩:d1=d1'∧d2=d2'∧d3=d3'∧d4=d4':=by cases h2;exact⟨rfl,rfl,rfl,rfl⟩
   obtain rfl:cs=cs':=h3.symm
   clear h1 h2
   have hbm:(bu.map bM).length=bu.length:=List.length_map ..
   have hbm2:(bu'.map bM).length=bu.length+1:=by rw[List.length_map,hvbl]
   have hDm:(D.map gV).length=D.length:=List.length_map ..
   have hym:(y0.map eM).length=y0.length:=List.length_map ..
   refine ah.af (rvs:=[.tmp 6]) G aa Tryz.func8 rfl Tryz.ntmps8 rfl rfl ?_;with_reducible refine wD ?_
   (have fct:=And.intro hdm ((eq_false e2));(repeat' (first
  |refine gF ?_|refine aE ?_ ?_
  | ((first
   |((with_reducible refine kQ 46 ?_);refine cL h15 rT ?_)
   | ((with_reducible refine kQ 16 ?_);refine aj.lit [] h16 rM ⟨
    ⟨rfl,rfl,rfl,rfl,rfl,rfl,rfl,rfl,rfl,rfl,rfl,rfl,rfl,rfl,trivial⟩
    ,trivial⟩ rfl rfl ?_)
   | ((with_reducible refine kQ 19 ?_);refine aj.lit [] h19 gZ ⟨
    ⟨rfl,rfl,rfl,rfl,rfl,rfl,rfl,rfl,rfl,rfl,rfl,rfl,rfl,rfl,trivial⟩
    ,trivial⟩ rfl rfl ?_))<;>with_reducible refine wK ?_)
  | apply trivial));all_goals clear fct)
   refine dA.int (by kernel_rfl) (by kernel_rfl) (dH hx) ?_;with_reducible refine wK ?_
   repeat' (first
  |refine gK ?_|refine aE ?_ ?_
  | apply trivial)
   refine aW.rem hx.1 (show 0< ((st.map bG).length:Int) by omega) rfl rfl rfl rfl ?_;with_reducible refine wK ?_
   rw[hstm,hk]
   repeat' (first
  |refine gK ?_|refine aE ?_ ?_
  | apply trivial)
   refine dA.int (by kernel_rfl) (by kernel_rfl) (dH hy) ?_;with_reducible refine wK ?_
   repeat' (first
  |refine gK ?_|refine aE ?_ ?_
  | apply trivial)
   refine aW.rem hy.1 (show 0< ((d1.map fH).length:Int) by omega) rfl rfl rfl rfl ?_;with_reducible refine wK ?_
   rw[hdm,hj]
   (have fct:=(eq_true hp);(repeat' (first
  |refine gF ?_|refine aE ?_ ?_
  | ((first
   |((with_reducible refine kQ 47 ?_);refine aj.val [] hSt Eg ⟨
   ⟨rfl,rfl,rfl,rfl,rfl,rfl,rfl,rfl,rfl,rfl,rfl,rfl,rfl,rfl,trivial⟩
   ,rfl,rfl,trivial⟩ rfl rfl rfl ?_)
   |((with_reducible show ay _ _ _ _ _);first|refine ay.mk k (aX ⟨s1,s2,s3,s4⟩) rfl (aM hs) ?_|refine ay.mk k (aX ⟨2,j,s3,s4⟩) rfl (aM hvs) ?_|refine ay.mk k (cF y0) rfl (cz hy0) ?_)
   | ((with_reducible refine kQ 19 ?_);refine aj.lit [] hRv gZ ⟨
    ⟨rfl,rfl,rfl,rfl,rfl,rfl,rfl,rfl,rfl,rfl,rfl,rfl,rfl,rfl,trivial⟩
    ,trivial⟩ rfl rfl ?_)
   | ((with_reducible refine kQ 48 ?_);refine aj.lit [] hov Q6 ⟨
    ⟨rfl,rfl,rfl,rfl,rfl,rfl,rfl,rfl,rfl,rfl,rfl,rfl,rfl,rfl,trivial⟩
    ,
    ⟨rfl,rfl,rfl,rfl,rfl,rfl,rfl,rfl,rfl,rfl,rfl,rfl,rfl,rfl,trivial⟩
    ,rfl,trivial⟩ rfl rfl ?_)
   |((with_reducible refine kQ 37 ?_);refine cL hfs OH ?_)
   |((with_reducible refine kQ 38 ?_);refine cL hds R6 ?_)
   |((with_reducible refine kQ 49 ?_);refine cV hFi RV ?_)
   |((with_reducible show dI _ _ _ _ _ _ _ _ _ _);refine dI.mk [] (y0.map eM) ⟨rfl,rfl,rfl⟩ ⟨rfl,rfl,rfl⟩ (gj eM (fun _=>rfl) y0) (by simp;omega) (by simp;omega) ?_))<;>with_reducible refine wK ?_)
  | apply trivial));all_goals clear fct)
   clear hov hfs hds hFi hRv hSt
   obtain⟨W,hW⟩:∃W:Nat→List br,W=fun q=>y0++ (D.take q).map bB.todo:=⟨_,rfl⟩
   have hW0:W 0=y0:=by rw[hW];simp
   have hWs:∀ (q:Nat) z,D[q]? =some z→W (q+1)=W q++ [z.todo]:=fun q z hz=>by
    rw[hW];show y0++ (D.take (q+1)).map bB.todo=y0++ (D.take q).map bB.todo++ [z.todo]
    rw[List.take_add_one,hz,List.map_append,List.append_assoc];rfl
   have hWl:∀q,q≤D.length→(W q).length=y0.length+q:=fun q hq=>by
    rw[hW];show(y0++ (D.take q).map bB.todo).length=_;simp;omega
   have hWe:W D.length=y0++D.map bB.todo:=by rw[hW];show y0++ (D.take D.length).map bB.todo=_;rw[List.take_length]
   rw[←hWe] at hvt hTd
   clear hW hWe
   refine aU.use G aa (fun(q:Nat)=>[(3,.ptr 30 0 0),(7,aq k),(8,aq j),(9,.ptr 90 0 0),(11,jM D),(12,.own 121 0 (y0.length+q)),(13,aq q)])
    (fun q=>[(30,mW ⟨⟨l,m⟩,st,⟨d1,d2,d3,d4⟩,⟨a,b,c,d⟩,ta,bu,cs⟩),(90,mW ⟨⟨l,m⟩,st',⟨d1,d2,d3,d4⟩,⟨a',b',c',d'⟩,ta',bu',cs⟩),(121,AR (W q))])
    (fun q=>q≤D.length) (fun q=>D.length-q) 0 (Nat.zero_le _) ?_ ?_
   ·rw[hW0]
    (refine fK ?_;(with_reducible repeat' (first|exact trivial|(show _∧_;refine aK ?_ ?_)));(all_goals try rfl))
    all_goals first
     |rfl
     |(simp;done)
     |exact⟨.refl (dV _),dV _⟩
   intro q hq
   with_reducible refine wK ?_
   refine bq.mk (fun h9=>?_) (fun h9=>?_)<;>(try simp only[aF] at h9)<;>with_reducible refine wK ?_
   ·have hq':q<D.length:=by simp only[decide_eq_true_eq] at h9;omega
    obtain⟨⟨z0,⟨z1,z2,z3,z4,z5,z6,z7,z8,z9,z10⟩⟩,hz⟩:∃z,D[q]? =some z:=⟨_,List.getElem?_eq_getElem hq'⟩
    have hwl:=hWl q hq
    have hwm:((W q).map eM).length=(W q).length:=List.length_map ..
    have hws:=hWs q _ hz
    have e3:(W q).map eM++ [iD ⟨z1,z2,z3,z4,z5,z6,z7,z8,z9,z10⟩]=(W (q+1)).map eM:=by rw[hws,List.map_append];rfl
    have e4:=hWl (q+1) (by omega)
    generalize hWn:W (q+1)=W2 at*
    clear hWs hWl hW0
    clear h9
    repeat' (first
  |refine gK ?_|refine aE ?_ ?_
  | ((first
   |((with_reducible show ay _ _ _ _ _);refine ay.mk q (kE ⟨z0,⟨z1,z2,z3,z4,z5,z6,z7,z8,z9,z10⟩⟩) rfl (oU hz) ?_)
   |((with_reducible show dI _ _ _ _ _ _ _ _ _ _);refine dI.mk ((W q).map eM) [iD ⟨z1,z2,z3,z4,z5,z6,z7,z8,z9,z10⟩] ⟨rfl,by omega,rfl⟩ ⟨rfl,rfl,rfl⟩ rfl (by simp;omega) (by simp;omega) ?_))<;>with_reducible refine wK ?_)
  | apply trivial)
    refine aL.mk (q+1) (by omega) (by omega) ?_
    rw[hWn,e3]
    (refine fK ?_;(with_reducible repeat' (first|exact trivial|(show _∧_;refine aK ?_ ?_)));(all_goals try rfl))
    all_goals first
     |rfl
     |(simp;done)
     |(simp;omega)
     |exact⟨.refl (dV _),dV _⟩
     |(rw[List.length_map,e4];done)
     |(rw[List.length_map];omega)
   ·have hqe:q=D.length:=by simp only[decide_eq_false_iff_not] at h9;omega
    subst hqe
    have hwl:=hWl D.length hq
    clear h9 hWs hWl hW0
    generalize W D.length=W2 at*
    (have fct:=And.intro hbm (hbm2);(repeat' (first
  |refine gF ?_|refine aE ?_ ?_
  | ((first
   |((with_reducible show ay _ _ _ _ _);first|refine ay.mk k (cF W2) rfl (cz hvt) ?_|refine ay.mk bu.length (fA ⟨j,k⟩) (by(try simp only[aF]);omega) (ef hvb) ?_)
   |((with_reducible show tB _ _ _ _ _ _ _ _);refine tB.mk _ (fun y z w=>qU ⟨j,k⟩ y z w) ?_)
   |((with_reducible refine kQ 43 ?_);refine aj.lit [121] hTd Qe ⟨rfl,qf rfl rfl rfl hwl.symm,trivial⟩ rfl rfl ?_)
   | ((with_reducible refine kQ 47 ?_);refine aj.val [] hS2 Eg ⟨
     ⟨rfl,rfl,rfl,rfl,rfl,rfl,rfl,rfl,rfl,rfl,rfl,rfl,rfl,rfl,trivial⟩
     ,rfl,rfl,trivial⟩ rfl rfl rfl ?_)
   | ((with_reducible refine kQ 23 ?_);refine aj.lit [] hSv Qi ⟨
     ⟨rfl,rfl,rfl,rfl,rfl,rfl,rfl,rfl,rfl,rfl,rfl,rfl,rfl,rfl,trivial⟩
     ,
     ⟨rfl,rfl,rfl,rfl,rfl,rfl,rfl,rfl,rfl,rfl,rfl,rfl,rfl,rfl,trivial⟩
     ,trivial⟩ rfl rfl ?_)
   |((with_reducible show bI _ _ _ _);refine dK ?_))<;>with_reducible refine wK ?_)
  | apply trivial));all_goals clear fct)
    all_goals first|rfl
def fP (v:ai)(bl:List aY)(df:Int):ai:={v with builds:=bl++ [⟨df,-4⟩]}
theorem CD {w v:ai}{k:Nat}{df:Int}{s:StateM}{D:List bB}(F:xh w k df s D v)(hd:dO w df=true):gq v (iO w.desk df).cls=(fP v w.builds df,(k:Int),false,0):=by
 have h1:=qS F.r F.bu (by unfold dO at hd ⊢;rw[F.d];exact hd)
 rw[F.d] at h1
 rw[show(aY.mk df k).df=df from rfl] at h1
 rw[h1]
 exact zC F.bu (by show(k:Int)≠-4;omega)
theorem w5 {w v:ai}{k:Nat}{df:Int}{s:StateM}{D:List bB}(F:xh w k df s D v)(R:aP w)(hd:dO w df=true):aP (fP v w.builds df):=by
 refine j6 F.r fun b hb=>?_
 rcases List.mem_append.1 hb with q|q
 ·exact F.r.bu b (by rw[F.bu];exact List.mem_append_left _ q)
 ·rw[List.mem_singleton.1 q]
  unfold gS
  have:dO v df=true:=by unfold dO at hd ⊢;rw[F.d];exact hd
  rw[this];rfl
theorem DB {w v:ai}{k:Nat}{df:Int}{s:StateM}{D:List bB}(F:xh w k df s D v)(R:aP w)(hd:dO w df=true):gq (fP v w.builds df) (iO w.desk df).cls=(fP v w.builds df,-1,false,7):=by
 have h1:=qS (w:=fP v w.builds df) (b:=⟨df,-4⟩) (w5 F R hd) rfl (by show dO v df=true;unfold dO at hd ⊢;rw[F.d];exact hd)
 rw[show(fP v w.builds df).desk=w.desk from F.d] at h1
 rw[show(aY.mk df (-4)).df=df from rfl] at h1
 rw[h1]
 exact ED (w:=fP v w.builds df) (b:=⟨df,-4⟩) rfl rfl
theorem v8 {w v:ai}{k:Nat}{df:Int}{s:StateM}{D:List bB}(F:xh w k df s D v):elemV v.f.nodes k=true:=nk F.r F.st (by show(2:Int)≠0;decide)
theorem Pb (w:ai)(x y:Int)(hx:0≤x∧x<256)(hy:0≤y∧y<256):ah Tryz.prog 9 [] [aT w,.lit (.int .u8 x),.lit (.int .u8 y)] [] (aA true):=by
 have h15:=mH
 have h16:=kp w
 have hdm:(w.desk.defs.map fH).length=w.desk.defs.length:=List.length_map ..
 cases e1:nj w with
 | false=>
   rw[e1] at h16
   obtain⟨⟨l,m⟩,st,⟨d1,d2,d3,d4⟩,⟨a,b,c,d⟩,ta,bu,cs⟩:=w
   refine ah.af (rvs:=[.tmp 6]) G aa Tryz.func9 rfl Tryz.ntmps9 rfl rfl ?_;with_reducible refine wD ?_
   repeat' (first
  |refine gK ?_|refine aE ?_ ?_
  | ((first
   |((with_reducible refine kQ 46 ?_);refine cL h15 rT ?_)
   | ((with_reducible refine kQ 16 ?_);refine aj.lit [] h16 rM ⟨
       ⟨rfl,rfl,rfl,rfl,rfl,rfl,rfl,rfl,rfl,rfl,rfl,rfl,rfl,rfl,trivial⟩
       ,trivial⟩ rfl rfl ?_))<;>with_reducible refine wK ?_)
  |apply trivial)
 |true=>
 rw[e1] at h16
 have S:=jg.1 e1
 have h19:=cr w S.small
 cases e3:cf w with
 | false=>
   rw[e3] at h19
   clear S e1
   obtain⟨⟨l,m⟩,st,⟨d1,d2,d3,d4⟩,⟨a,b,c,d⟩,ta,bu,cs⟩:=w
   refine ah.af (rvs:=[.tmp 6]) G aa Tryz.func9 rfl Tryz.ntmps9 rfl rfl ?_;with_reducible refine wD ?_
   repeat' (first
  |refine gK ?_|refine aE ?_ ?_
  | ((first
   |((with_reducible refine kQ 46 ?_);refine cL h15 rT ?_)
   | ((with_reducible refine kQ 16 ?_);refine aj.lit [] h16 rM ⟨
       ⟨rfl,rfl,rfl,rfl,rfl,rfl,rfl,rfl,rfl,rfl,rfl,rfl,rfl,rfl,trivial⟩
       ,trivial⟩ rfl rfl ?_)
   | ((with_reducible refine kQ 19 ?_);refine aj.lit [] h19 gZ ⟨
       ⟨rfl,rfl,rfl,rfl,rfl,rfl,rfl,rfl,rfl,rfl,rfl,rfl,rfl,rfl,trivial⟩
       ,trivial⟩ rfl rfl ?_))<;>with_reducible refine wK ?_)
  |apply trivial)
 |true=>
 rw[e3] at h19
 by_cases e2:(w.desk.defs.length:Int)=0
 ·clear S e1 e3
  obtain⟨⟨l,m⟩,st,⟨d1,d2,d3,d4⟩,⟨a,b,c,d⟩,ta,bu,cs⟩:=w
  simp only at hdm e2
  refine ah.af (rvs:=[.tmp 6]) G aa Tryz.func9 rfl Tryz.ntmps9 rfl rfl ?_;with_reducible refine wD ?_
  (have fct:=And.intro hdm (e2);(repeat' (first
  |refine gF ?_|refine aE ?_ ?_
  | ((first
   |((with_reducible refine kQ 46 ?_);refine cL h15 rT ?_)
   | ((with_reducible refine kQ 16 ?_);refine aj.lit [] h16 rM ⟨
       ⟨rfl,rfl,rfl,rfl,rfl,rfl,rfl,rfl,rfl,rfl,rfl,rfl,rfl,rfl,trivial⟩
       ,trivial⟩ rfl rfl ?_)
   | ((with_reducible refine kQ 19 ?_);refine aj.lit [] h19 gZ ⟨
       ⟨rfl,rfl,rfl,rfl,rfl,rfl,rfl,rfl,rfl,rfl,rfl,rfl,rfl,rfl,trivial⟩
       ,trivial⟩ rfl rfl ?_))<;>with_reducible refine wK ?_)
  |apply trivial));all_goals clear fct)
 have hg2:decide (((w.desk.defs.map fH).length:Int)=0)=false:=decide_eq_false (by omega)
 have R:=bH.1 e3
 have hsm:=S.small
 have hn1:=mo R
 have hsl:=R.sl
 have htl:=R.tl
 obtain⟨k,hk⟩:∃k:Nat,x% (w.states.length:Int)=k:=⟨_,(Int.toNat_of_nonneg (Int.emod_nonneg _ (by omega))).symm⟩
 have hkl:k<w.states.length:=by
  have:=Int.emod_lt_of_pos x (show(0:Int)< (w.states.length:Int) by omega)
  omega
 obtain⟨j,hj⟩:∃j:Nat,y% (w.desk.defs.length:Int)=j:=⟨_,(Int.toNat_of_nonneg (Int.emod_nonneg _ (by omega))).symm⟩
 have hjl:j<w.desk.defs.length:=by
  have:=Int.emod_lt_of_pos y (show(0:Int)< (w.desk.defs.length:Int) by omega)
  omega
 have hd:dO w j=true:=by unfold dO;simp;omega
 have hl6:=mP S.l
 have hstm:(w.states.map bG).length=w.states.length:=List.length_map ..
 have hdpos:0<w.desk.defs.length:=by omega
 have hspos:0<w.states.length:=by omega
 obtain⟨⟨s1,s2,s3,s4⟩,hs⟩:∃x,w.states[k]? =some x:=⟨_,List.getElem?_eq_getElem hkl⟩
 have hok:=qQ R hs hd
 have hSt:=iG w hsm k j
 cases e5:cD w k j with
 | false=>
   rw[jo e5] at hSt
   rw[e5] at hok
   have hp:¬s1=1:=of_decide_eq_false hok.symm
   clear S R hsm e1 e3 hl6 hok e5 hd hsl htl hn1
   obtain⟨⟨l,m⟩,st,⟨d1,d2,d3,d4⟩,⟨a,b,c,d⟩,ta,bu,cs⟩:=w
   simp only at*
   refine ah.af (rvs:=[.tmp 6]) G aa Tryz.func9 rfl Tryz.ntmps9 rfl rfl ?_;with_reducible refine wD ?_
   (have fct:=And.intro hdm ((eq_false e2));(repeat' (first
  |refine gF ?_|refine aE ?_ ?_
  | ((first
   |((with_reducible refine kQ 46 ?_);refine cL h15 rT ?_)
   | ((with_reducible refine kQ 16 ?_);refine aj.lit [] h16 rM ⟨
    ⟨rfl,rfl,rfl,rfl,rfl,rfl,rfl,rfl,rfl,rfl,rfl,rfl,rfl,rfl,trivial⟩
    ,trivial⟩ rfl rfl ?_)
   | ((with_reducible refine kQ 19 ?_);refine aj.lit [] h19 gZ ⟨
    ⟨rfl,rfl,rfl,rfl,rfl,rfl,rfl,rfl,rfl,rfl,rfl,rfl,rfl,rfl,trivial⟩
    ,trivial⟩ rfl rfl ?_))<;>with_reducible refine wK ?_)
  | apply trivial));all_goals clear fct)
   refine dA.int (by kernel_rfl) (by kernel_rfl) (dH hx) ?_;with_reducible refine wK ?_
   repeat' (first
  |refine gK ?_|refine aE ?_ ?_
  | apply trivial)
   refine aW.rem hx.1 (show 0< ((st.map bG).length:Int) by omega) rfl rfl rfl rfl ?_;with_reducible refine wK ?_
   rw[hstm,hk]
   repeat' (first
  |refine gK ?_|refine aE ?_ ?_
  | apply trivial)
   refine dA.int (by kernel_rfl) (by kernel_rfl) (dH hy) ?_;with_reducible refine wK ?_
   repeat' (first
  |refine gK ?_|refine aE ?_ ?_
  | apply trivial)
   refine aW.rem hy.1 (show 0< ((d1.map fH).length:Int) by omega) rfl rfl rfl rfl ?_;with_reducible refine wK ?_
   rw[hdm,hj]
   (have fct:=(eq_false hp);(repeat' (first
  |refine gF ?_|refine aE ?_ ?_
  | ((first
   |((with_reducible refine kQ 47 ?_);refine aj.val [] hSt Eg ⟨
   ⟨rfl,rfl,rfl,rfl,rfl,rfl,rfl,rfl,rfl,rfl,rfl,rfl,rfl,rfl,trivial⟩
   ,rfl,rfl,trivial⟩ rfl rfl rfl ?_)
   |((with_reducible show ay _ _ _ _ _);refine ay.mk k (aX ⟨s1,s2,s3,s4⟩) rfl (aM hs) ?_))<;>with_reducible refine wK ?_)
  | apply trivial));all_goals clear fct)
   all_goals first|rfl|(rw[decide_eq_false hp];rfl)
 | true=>
   have hw:gm w k j=(bg w k j,true):=by unfold gm;rw[if_pos e5]
   rw[hw] at hSt
   rw[e5] at hok
   have hp:s1=1:=of_decide_eq_true hok.symm
   have hB:(60:Nat)≤80000:=by decide
   have hta:=S.ta
   have hbu9:=S.bu
   have F:=lM e5 hs hsm hl6 hB (by omega) (by omega)
   have FS:=lO e5 hsm hl6 hB (by omega) (by omega)
   have SD:=kT.1 S.d
   obtain⟨kd,⟨y1,y2,y3⟩,hkd,hyd,hda,_,_,hcl,_⟩:=tu R hd
   obtain rfl:j=kd:=by omega
   have hsu:=CD F hd
   have hsu2:=DB F R hd
   rw[hda] at hsu hsu2
   simp only at hsu hsu2 hcl
   have hn60:=oR S
   have hzs:∀x∈ (bg w k j).desk.defs,(ek x.locl).size≤300:=fun x hx=>by rw[F.d] at hx;rw[tS];exact(SD.names x hx).2
   have Us:bh (fP (bg w k j) w.builds j):=fW F.sm (by rw[List.length_append,List.length_singleton];omega)
   have UR:=w5 F R hd
   have hfl:(bg w k j).f.nodes.length≤63:=by rw[F.f];omega
   have hSu:=iE (bg w k j) F.sm hfl (FS.2.1.mono (by decide)) (by omega) hzs y3
   rw[hsu] at hSu
   have hSu2:=iE (fP (bg w k j) w.builds j) Us hfl (FS.2.1.mono (by decide)) (by show(bg w k j).tasks.length≤_;omega) hzs y3
   rw[hsu2] at hSu2
   have hRu:=cr (fP (bg w k j) w.builds j) Us
   rw[bH.2 UR] at hRu
   have h51:=uI w.desk hsm.d y3
   rw[hcl] at h51
   have hbe:=v8 F
   have hue:jd (fP (bg w k j) w.builds j) k=true:=iB.2 ⟨UR,hbe⟩
   have hust:eI (fP (bg w k j) w.builds j).states k=⟨2,j,s3,s4⟩:=bX F.st
   have hfo:gG (fP (bg w k j) w.builds j) k=true:=by
    rw[jy hue hust (b:=⟨j,-4⟩) rfl]
    show(decide ((2:Int)=2)&&decide ((j:Int)=j))=true
    simp
   obtain⟨hpo,PR⟩:=pA UR (b:=⟨j,-4⟩) rfl
   have hFin:=jq (fP (bg w k j) w.builds j) Us (FS.2.1.mono (by decide)) (by show(bg w k j).tasks.length≤_;omega) k k 0
   rw[nw hfo,if_neg (by simp),if_neg (by simp),hpo] at hFin
   obtain⟨P,hP⟩:∃P:ai,P={fP (bg w k j) w.builds j with builds:=w.builds}:=⟨_,rfl⟩
   rw[←hP] at hFin PR
   have hPs:bh P:=by rw[hP];exact fW Us (by have:=hsm.bu;omega)
   have hPst:P.states[k]? =some ⟨2,j,s3,s4⟩:=by rw[hP];exact F.st
   have hPe:elemV P.f.nodes k=true:=by rw[hP];exact hbe
   have DG:=xA PR hPe hPst (.inl rfl)
   have DS:=rE PR hPe (by rw[bX hPst];exact .inl rfl) hPs (B:=121) (by rw[hP];exact FS.2.1) (by decide) (by rw[hP];show(bg w k j).tasks.length≤_;omega)
   obtain⟨⟨u1,u2,u3,u4⟩,hu,hu1,hu2⟩:=DG.2.2 k _ hPst
   rw[if_pos rfl] at hu1
   simp only at hu1 hu2
   subst hu1
   subst hu2
   have htf:(eC P k).f=w.f:=by rw[DG.2.1.1,hP];exact F.f
   have htb:(eC P k).builds=w.builds:=by rw[DG.2.1.2.2.1,hP]
   have hRt:=cr (eC P k) DS.1
   rw[bH.2 DG.1] at hRt
   have hS2:=iG (eC P k) DS.1 k j
   rw[xV (by rw[bX hu];show(3:Int)≠1;decide)] at hS2
   have hfs:=oV w.f hsm.f
   clear hbe DS DG PR hPe hPst hPs hP hpo hfo hust hue UR Us hfl hzs hsu hsu2 FS F S R SD hsm e1 e3 hl6 hok e5 hd hsl htl hn1 hw hn60 hda hkd
   generalize eC P k=t at*
   generalize fP (bg w k j) w.builds j=u at*
   generalize bg w k j=v at*
   obtain⟨⟨l',m'⟩,st',⟨d1',d2',d3',d4'⟩,⟨a',b',c',d'⟩,ta',bu',cs'⟩:=v
   obtain⟨⟨ul,um⟩,ust,⟨ud1,ud2,ud3,ud4⟩,⟨ua,ub,uc,ud⟩,uta,ubu,ucs⟩:=u
   obtain⟨⟨tl,tm⟩,tst,⟨td1,td2,td3,td4⟩,⟨ta1,tb1,tc1,td5⟩,tta,tbu,tcs⟩:=t
   obtain⟨⟨l,m⟩,st,⟨d1,d2,d3,d4⟩,⟨a,b,c,d⟩,ta,bu,cs⟩:=w
   simp only at*
   obtain⟨rfl,rfl⟩:l=tl∧m=tm:=by cases htf;exact⟨rfl,rfl⟩
   obtain rfl:bu=tbu:=htb.symm
   clear htf htb
   have hbm:(bu.map bM).length=bu.length:=List.length_map ..
   refine ah.af (rvs:=[.tmp 6]) G aa Tryz.func9 rfl Tryz.ntmps9 rfl rfl ?_;with_reducible refine wD ?_
   (have fct:=And.intro hdm ((eq_false e2));(repeat' (first
  |refine gF ?_|refine aE ?_ ?_
  | ((first
   |((with_reducible refine kQ 46 ?_);refine cL h15 rT ?_)
   | ((with_reducible refine kQ 16 ?_);refine aj.lit [] h16 rM ⟨
    ⟨rfl,rfl,rfl,rfl,rfl,rfl,rfl,rfl,rfl,rfl,rfl,rfl,rfl,rfl,trivial⟩
    ,trivial⟩ rfl rfl ?_)
   | ((with_reducible refine kQ 19 ?_);refine aj.lit [] h19 gZ ⟨
    ⟨rfl,rfl,rfl,rfl,rfl,rfl,rfl,rfl,rfl,rfl,rfl,rfl,rfl,rfl,trivial⟩
    ,trivial⟩ rfl rfl ?_))<;>with_reducible refine wK ?_)
  | apply trivial));all_goals clear fct)
   refine dA.int (by kernel_rfl) (by kernel_rfl) (dH hx) ?_;with_reducible refine wK ?_
   repeat' (first
  |refine gK ?_|refine aE ?_ ?_
  | apply trivial)
   refine aW.rem hx.1 (show 0< ((st.map bG).length:Int) by omega) rfl rfl rfl rfl ?_;with_reducible refine wK ?_
   rw[hstm,hk]
   repeat' (first
  |refine gK ?_|refine aE ?_ ?_
  | apply trivial)
   refine dA.int (by kernel_rfl) (by kernel_rfl) (dH hy) ?_;with_reducible refine wK ?_
   repeat' (first
  |refine gK ?_|refine aE ?_ ?_
  | apply trivial)
   refine aW.rem hy.1 (show 0< ((d1.map fH).length:Int) by omega) rfl rfl rfl rfl ?_;with_reducible refine wK ?_
   rw[hdm,hj]
   repeat' (first
  |refine gK ?_|refine aE ?_ ?_
  | ((first
   |((with_reducible refine kQ 47 ?_);refine aj.val [] hSt Eg ⟨
   ⟨rfl,rfl,rfl,rfl,rfl,rfl,rfl,rfl,rfl,rfl,rfl,rfl,rfl,rfl,trivial⟩
   ,rfl,rfl,trivial⟩ rfl rfl rfl ?_)
   |((with_reducible show ay _ _ _ _ _);first|refine ay.mk j (jH ⟨y1,y2,y3⟩) rfl (dD hyd) ?_|refine ay.mk k (aX ⟨3,j,u3,u4⟩) rfl (aM hu) ?_)
   | ((with_reducible refine kQ 50 ?_);first
    | refine aj.val [] hSu KS ⟨
     ⟨rfl,rfl,rfl,rfl,rfl,rfl,rfl,rfl,rfl,rfl,rfl,rfl,rfl,rfl,trivial⟩
     ,rfl,trivial⟩ rfl rfl rfl ?_
    | refine aj.val [] hSu2 KS ⟨
     ⟨rfl,rfl,rfl,rfl,rfl,rfl,rfl,rfl,rfl,rfl,rfl,rfl,rfl,rfl,trivial⟩
     ,rfl,trivial⟩ rfl rfl rfl ?_)
   | ((with_reducible refine kQ 19 ?_);first
    | refine aj.lit [] hRu gZ ⟨
     ⟨rfl,rfl,rfl,rfl,rfl,rfl,rfl,rfl,rfl,rfl,rfl,rfl,rfl,rfl,trivial⟩
     ,trivial⟩ rfl rfl ?_
    | refine aj.lit [] hRt gZ ⟨
     ⟨rfl,rfl,rfl,rfl,rfl,rfl,rfl,rfl,rfl,rfl,rfl,rfl,rfl,rfl,trivial⟩
     ,trivial⟩ rfl rfl ?_)
   |((with_reducible refine kQ 51 ?_);refine cL h51 M8 ?_)
   | ((with_reducible refine kQ 52 ?_);refine aj.val [] hFin Oz ⟨
    ⟨rfl,rfl,rfl,rfl,rfl,rfl,rfl,rfl,rfl,rfl,rfl,rfl,rfl,rfl,trivial⟩
    ,rfl,rfl,rfl,trivial⟩ rfl rfl rfl ?_)
   |((with_reducible refine kQ 37 ?_);refine cL hfs OH ?_)
   |((with_reducible show bI _ _ _ _);refine dK ?_))<;>with_reducible refine wK ?_)
  | apply trivial)
   clear hSt hSu hSu2 hRu hRt h51 hFin hfs
   refine aU.use G aa (fun(q:Nat)=>[(3,.ptr 30 0 0),(7,aq k),(8,aq j),(20,.ptr 200 0 0),(22,aq q)])
    (fun q=>[(30,mW ⟨⟨l,m⟩,st,⟨d1,d2,d3,d4⟩,⟨a,b,c,d⟩,ta,bu,cs⟩),(200,mW ⟨⟨l,m⟩,tst,⟨td1,td2,td3,td4⟩,⟨ta1,tb1,tc1,td5⟩,tta,bu,tcs⟩)])
    (fun q=>q≤bu.length) (fun q=>bu.length-q) 0 (Nat.zero_le _) ?_ ?_
   ·(refine fK ?_;(with_reducible repeat' (first|exact trivial|(show _∧_;refine aK ?_ ?_)));(all_goals try rfl))
    all_goals first|rfl|(simp;done)
   intro q hq
   with_reducible refine wK ?_
   refine bq.mk (fun h9=>?_) (fun h9=>?_)<;>(try simp only[aF] at h9)<;>with_reducible refine wK ?_
   ·have hq':q<bu.length:=by simp only[decide_eq_true_eq] at h9;omega
    obtain⟨⟨z0,z1⟩,hz⟩:∃z,bu[q]? =some z:=⟨_,List.getElem?_eq_getElem hq'⟩
    clear h9
    repeat' (first
  |refine gK ?_|refine aE ?_ ?_
  | ((first
   |((with_reducible show ay _ _ _ _ _);refine ay.mk q (fA ⟨z0,z1⟩) rfl (ef hz) ?_)
   |((with_reducible show tB _ _ _ _ _ _ _ _);refine tB.mk _ (fun y z w=>qU ⟨z0,z1⟩ y z w) ?_)
   |((with_reducible show bI _ _ _ _);refine dK ?_))<;>with_reducible refine wK ?_)
  | apply trivial)
    refine aL.mk (q+1) (by omega) (by omega) ?_
    (refine fK ?_;(with_reducible repeat' (first|exact trivial|(show _∧_;refine aK ?_ ?_)));(all_goals try rfl))
    all_goals first|rfl|(simp;done)
   ·clear h9
    repeat' (first
  |refine gK ?_|refine aE ?_ ?_
  | (((with_reducible refine kQ 47 ?_);refine aj.val [] hS2 Eg ⟨
    ⟨rfl,rfl,rfl,rfl,rfl,rfl,rfl,rfl,rfl,rfl,rfl,rfl,rfl,rfl,trivial⟩
    ,rfl,rfl,trivial⟩ rfl rfl rfl ?_)<;>with_reducible refine wK ?_)
  | apply trivial)
    all_goals first|rfl
theorem HA {w:ai}{n:Int}{good:Bool}(h:(eI w.states n).phase≠2):gN w n good=(w,1):=by
 unfold gN
 rw[decide_eq_false h,Bool.and_false,if_neg (by simp)]
theorem Oa (w:ai)(x y:Int)(hx:0≤x∧x<256)(hy:0≤y∧y<256)(an z:Int)(hz:0≤z∧z<256):ah Tryz.prog 12 [] [aT w,.lit (.int .u8 x),.lit (.int .u8 y),aq an,.lit (.int .u8 z)] [] (aA true):=by
 have h15:=mH
 have h16:=kp w
 have hdm:(w.desk.defs.map fH).length=w.desk.defs.length:=List.length_map ..
 cases e1:nj w with
 | false=>
   rw[e1] at h16
   obtain⟨⟨l,m⟩,st,⟨d1,d2,d3,d4⟩,⟨a,b,c,d⟩,ta,bu,cs⟩:=w
   refine ah.af (rvs:=[.tmp 10]) G aa Tryz.func12 rfl Tryz.ntmps12 rfl rfl ?_;with_reducible refine wD ?_
   repeat' (first
  |refine gK ?_|refine aE ?_ ?_
  | ((first
   |((with_reducible refine kQ 46 ?_);refine cL h15 rT ?_)
   | ((with_reducible refine kQ 16 ?_);refine aj.lit [] h16 rM ⟨
       ⟨rfl,rfl,rfl,rfl,rfl,rfl,rfl,rfl,rfl,rfl,rfl,rfl,rfl,rfl,trivial⟩
       ,trivial⟩ rfl rfl ?_))<;>with_reducible refine wK ?_)
  |apply trivial)
 |true=>
 rw[e1] at h16
 have S:=jg.1 e1
 have h19:=cr w S.small
 cases e3:cf w with
 | false=>
   rw[e3] at h19
   clear S e1
   obtain⟨⟨l,m⟩,st,⟨d1,d2,d3,d4⟩,⟨a,b,c,d⟩,ta,bu,cs⟩:=w
   refine ah.af (rvs:=[.tmp 10]) G aa Tryz.func12 rfl Tryz.ntmps12 rfl rfl ?_;with_reducible refine wD ?_
   repeat' (first
  |refine gK ?_|refine aE ?_ ?_
  | ((first
   |((with_reducible refine kQ 46 ?_);refine cL h15 rT ?_)
   | ((with_reducible refine kQ 16 ?_);refine aj.lit [] h16 rM ⟨
       ⟨rfl,rfl,rfl,rfl,rfl,rfl,rfl,rfl,rfl,rfl,rfl,rfl,rfl,rfl,trivial⟩
       ,trivial⟩ rfl rfl ?_)
   | ((with_reducible refine kQ 19 ?_);refine aj.lit [] h19 gZ ⟨
       ⟨rfl,rfl,rfl,rfl,rfl,rfl,rfl,rfl,rfl,rfl,rfl,rfl,rfl,rfl,trivial⟩
       ,trivial⟩ rfl rfl ?_))<;>with_reducible refine wK ?_)
  |apply trivial)
 |true=>
 rw[e3] at h19
 by_cases e2:(w.desk.defs.length:Int)=0
 ·clear S e1 e3
  obtain⟨⟨l,m⟩,st,⟨d1,d2,d3,d4⟩,⟨a,b,c,d⟩,ta,bu,cs⟩:=w
  simp only at hdm e2
  refine ah.af (rvs:=[.tmp 10]) G aa Tryz.func12 rfl Tryz.ntmps12 rfl rfl ?_;with_reducible refine wD ?_
  (have fct:=And.intro hdm (e2);(repeat' (first
  |refine gF ?_|refine aE ?_ ?_
  | ((first
   |((with_reducible refine kQ 46 ?_);refine cL h15 rT ?_)
   | ((with_reducible refine kQ 16 ?_);refine aj.lit [] h16 rM ⟨
       ⟨rfl,rfl,rfl,rfl,rfl,rfl,rfl,rfl,rfl,rfl,rfl,rfl,rfl,rfl,trivial⟩
       ,trivial⟩ rfl rfl ?_)
   | ((with_reducible refine kQ 19 ?_);refine aj.lit [] h19 gZ ⟨
       ⟨rfl,rfl,rfl,rfl,rfl,rfl,rfl,rfl,rfl,rfl,rfl,rfl,rfl,rfl,trivial⟩
       ,trivial⟩ rfl rfl ?_))<;>with_reducible refine wK ?_)
  |apply trivial));all_goals clear fct)
 have hg2:decide (((w.desk.defs.map fH).length:Int)=0)=false:=decide_eq_false (by omega)
 have R:=bH.1 e3
 have hsm:=S.small
 have hn1:=mo R
 have hsl:=R.sl
 have htl:=R.tl
 obtain⟨k,hk⟩:∃k:Nat,x% (w.states.length:Int)=k:=⟨_,(Int.toNat_of_nonneg (Int.emod_nonneg _ (by omega))).symm⟩
 have hkl:k<w.states.length:=by
  have:=Int.emod_lt_of_pos x (show(0:Int)< (w.states.length:Int) by omega)
  omega
 obtain⟨j,hj⟩:∃j:Nat,y% (w.desk.defs.length:Int)=j:=⟨_,(Int.toNat_of_nonneg (Int.emod_nonneg _ (by omega))).symm⟩
 have hjl:j<w.desk.defs.length:=by
  have:=Int.emod_lt_of_pos y (show(0:Int)< (w.desk.defs.length:Int) by omega)
  omega
 have hd:dO w j=true:=by unfold dO;simp;omega
 have hl6:=mP S.l
 have hstm:(w.states.map bG).length=w.states.length:=List.length_map ..
 have hdpos:0<w.desk.defs.length:=by omega
 have hspos:0<w.states.length:=by omega
 obtain⟨⟨s1,s2,s3,s4⟩,hs⟩:∃x,w.states[k]? =some x:=⟨_,List.getElem?_eq_getElem hkl⟩
 have hok:=qQ R hs hd
 have hSt:=iG w hsm k j
 obtain⟨er,her⟩:∃er,z%11=er:=⟨_,rfl⟩
 have her2:0≤er∧er<256:=by omega
 cases e5:cD w k j with
 | false=>
   rw[jo e5] at hSt
   rw[e5] at hok
   have hp:¬s1=1:=of_decide_eq_false hok.symm
   clear S R hsm e1 e3 hl6 hok e5 hd hsl htl hn1
   obtain⟨⟨l,m⟩,st,⟨d1,d2,d3,d4⟩,⟨a,b,c,d⟩,ta,bu,cs⟩:=w
   simp only at*
   refine ah.af (rvs:=[.tmp 10]) G aa Tryz.func12 rfl Tryz.ntmps12 rfl rfl ?_;with_reducible refine wD ?_
   (have fct:=And.intro hdm ((eq_false e2));(repeat' (first
  |refine gF ?_|refine aE ?_ ?_
  | ((first
   |((with_reducible refine kQ 46 ?_);refine cL h15 rT ?_)
   | ((with_reducible refine kQ 16 ?_);refine aj.lit [] h16 rM ⟨
    ⟨rfl,rfl,rfl,rfl,rfl,rfl,rfl,rfl,rfl,rfl,rfl,rfl,rfl,rfl,trivial⟩
    ,trivial⟩ rfl rfl ?_)
   | ((with_reducible refine kQ 19 ?_);refine aj.lit [] h19 gZ ⟨
    ⟨rfl,rfl,rfl,rfl,rfl,rfl,rfl,rfl,rfl,rfl,rfl,rfl,rfl,rfl,trivial⟩
    ,trivial⟩ rfl rfl ?_))<;>with_reducible refine wK ?_)
  | apply trivial));all_goals clear fct)
   refine dA.int (by kernel_rfl) (by kernel_rfl) (dH hx) ?_;with_reducible refine wK ?_
   repeat' (first
  |refine gK ?_|refine aE ?_ ?_
  | apply trivial)
   refine aW.rem hx.1 (show 0< ((st.map bG).length:Int) by omega) rfl rfl rfl rfl ?_;with_reducible refine wK ?_
   rw[hstm,hk]
   repeat' (first
  |refine gK ?_|refine aE ?_ ?_
  | apply trivial)
   refine dA.int (by kernel_rfl) (by kernel_rfl) (dH hy) ?_;with_reducible refine wK ?_
   repeat' (first
  |refine gK ?_|refine aE ?_ ?_
  | apply trivial)
   refine aW.rem hy.1 (show 0< ((d1.map fH).length:Int) by omega) rfl rfl rfl rfl ?_;with_reducible refine wK ?_
   rw[hdm,hj]
   repeat' (first
  |refine gK ?_|refine aE ?_ ?_
  | (((with_reducible refine kQ 47 ?_);refine aj.val [] hSt Eg ⟨
   ⟨rfl,rfl,rfl,rfl,rfl,rfl,rfl,rfl,rfl,rfl,rfl,rfl,rfl,rfl,trivial⟩
   ,rfl,rfl,trivial⟩ rfl rfl rfl ?_)<;>with_reducible refine wK ?_)
  | apply trivial)
   refine aW.rem hz.1 (show(0:Int)<11 by decide) rfl rfl rfl rfl ?_;with_reducible refine wK ?_
   rw[her]
   refine dA.int (by kernel_rfl) (by kernel_rfl) (dH her2) ?_;with_reducible refine wK ?_
   (have fct:=(eq_false hp);(repeat' (first
  |refine gF ?_|refine aE ?_ ?_
  |(((with_reducible show ay _ _ _ _ _);refine ay.mk k (aX ⟨s1,s2,s3,s4⟩) rfl (aM hs) ?_)<;>with_reducible refine wK ?_)
  | apply trivial));all_goals clear fct)
   all_goals first|rfl|(rw[decide_eq_false hp];rfl)
 | true=>
   have hw:gm w k j=(bg w k j,true):=by unfold gm;rw[if_pos e5]
   rw[hw] at hSt
   by_cases e7:er=0∧an=k
   ·obtain⟨e7,e8⟩:=e7
    clear S R hsm e1 e3 hl6 hok e5 hd hsl htl hn1 hw
    generalize bg w k j=v at*
    obtain⟨⟨l',m'⟩,st',⟨d1',d2',d3',d4'⟩,⟨a',b',c',d'⟩,ta',bu',cs'⟩:=v
    obtain⟨⟨l,m⟩,st,⟨d1,d2,d3,d4⟩,⟨a,b,c,d⟩,ta,bu,cs⟩:=w
    simp only at*
    refine ah.af (rvs:=[.tmp 10]) G aa Tryz.func12 rfl Tryz.ntmps12 rfl rfl ?_;with_reducible refine wD ?_
    (have fct:=And.intro hdm ((eq_false e2));(repeat' (first
  |refine gF ?_|refine aE ?_ ?_
  | ((first
   |((with_reducible refine kQ 46 ?_);refine cL h15 rT ?_)
   | ((with_reducible refine kQ 16 ?_);refine aj.lit [] h16 rM ⟨
     ⟨rfl,rfl,rfl,rfl,rfl,rfl,rfl,rfl,rfl,rfl,rfl,rfl,rfl,rfl,trivial⟩
     ,trivial⟩ rfl rfl ?_)
   | ((with_reducible refine kQ 19 ?_);refine aj.lit [] h19 gZ ⟨
     ⟨rfl,rfl,rfl,rfl,rfl,rfl,rfl,rfl,rfl,rfl,rfl,rfl,rfl,rfl,trivial⟩
     ,trivial⟩ rfl rfl ?_))<;>with_reducible refine wK ?_)
  | apply trivial));all_goals clear fct)
    refine dA.int (by kernel_rfl) (by kernel_rfl) (dH hx) ?_;with_reducible refine wK ?_
    repeat' (first
  |refine gK ?_|refine aE ?_ ?_
  | apply trivial)
    refine aW.rem hx.1 (show 0< ((st.map bG).length:Int) by omega) rfl rfl rfl rfl ?_;with_reducible refine wK ?_
    rw[hstm,hk]
    repeat' (first
  |refine gK ?_|refine aE ?_ ?_
  | apply trivial)
    refine dA.int (by kernel_rfl) (by kernel_rfl) (dH hy) ?_;with_reducible refine wK ?_
    repeat' (first
  |refine gK ?_|refine aE ?_ ?_
  | apply trivial)
    refine aW.rem hy.1 (show 0< ((d1.map fH).length:Int) by omega) rfl rfl rfl rfl ?_;with_reducible refine wK ?_
    rw[hdm,hj]
    repeat' (first
  |refine gK ?_|refine aE ?_ ?_
  | (((with_reducible refine kQ 47 ?_);refine aj.val [] hSt Eg ⟨
    ⟨rfl,rfl,rfl,rfl,rfl,rfl,rfl,rfl,rfl,rfl,rfl,rfl,rfl,rfl,trivial⟩
    ,rfl,rfl,trivial⟩ rfl rfl rfl ?_)<;>with_reducible refine wK ?_)
  | apply trivial)
    refine aW.rem hz.1 (show(0:Int)<11 by decide) rfl rfl rfl rfl ?_;with_reducible refine wK ?_
    rw[her]
    refine dA.int (by kernel_rfl) (by kernel_rfl) (dH her2) ?_;with_reducible refine wK ?_
    (have fct:=And.intro e7 (e8);(repeat' (first
  |refine gF ?_|refine aE ?_ ?_
  |(((with_reducible show ay _ _ _ _ _);refine ay.mk k (aX ⟨s1,s2,s3,s4⟩) rfl (aM hs) ?_)<;>with_reducible refine wK ?_)
  | apply trivial));all_goals clear fct)
    all_goals first|rfl
   have hB:(60:Nat)≤80000:=by decide
   have hta:=S.ta
   have hbu9:=S.bu
   have F:=lM e5 hs hsm hl6 hB (by omega) (by omega)
   have FS:=lO e5 hsm hl6 hB (by omega) (by omega)
   have hbe:=v8 F
   have hve:jd (bg w k j) k=true:=iB.2 ⟨F.r,hbe⟩
   have hvst:eI (bg w k j).states k=⟨2,j,s3,s4⟩:=bX F.st
   have hfo:gG (bg w k j) k=true:=by
    rw[jy hve hvst F.bu]
    show(decide ((2:Int)=2)&&decide ((j:Int)=j))=true
    simp
   obtain⟨hpo,PR⟩:=pA F.r F.bu
   have hFin:=jq (bg w k j) F.sm (FS.2.1.mono (by decide)) (by omega) k an er
   rw[nw hfo,hpo] at hFin
   obtain⟨P,hP⟩:∃P:ai,P={bg w k j with builds:=w.builds}:=⟨_,rfl⟩
   rw[←hP] at hFin PR
   have hPs:bh P:=by rw[hP];exact fW F.sm (by have:=hsm.bu;omega)
   have hPst:P.states[k]? =some ⟨2,j,s3,s4⟩:=by rw[hP];exact F.st
   have hPe:elemV P.f.nodes k=true:=by rw[hP];exact hbe
   have hPt:P.line.todos.length=w.line.todos.length:=by rw[hP];exact F.lt
   have hPl:P.states.length=w.states.length:=by rw[hP];exact F.ls
   have hPo:∀i,i≠k→P.states[i]? =w.states[i]? ∧P.line.todos[i]? =w.line.todos[i]? :=by rw[hP];exact F.ot
   have hPf:P.f=w.f:=by rw[hP];exact F.f
   have hPb:P.builds=w.builds:=by rw[hP]
   obtain⟨fr,hfr1,hfr⟩:∃fr,(if er≠0 then(di P k,er) else if an≠k then(di P k,(7:Int)) else(eC P k,0))=(di P k,fr)∧((¬er=0∧fr=er)∨(er=0∧fr=7)):=by
    by_cases c:er=0
    ·refine⟨7,?_,.inr ⟨c,rfl⟩⟩
     rw[if_neg (by simpa using c),if_pos (fun q=>e7 ⟨c,q⟩)]
    ·exact⟨er,by rw[if_pos c],.inl ⟨c,rfl⟩⟩
   rw[hfr1] at hFin
   clear hfr1
   have V:=u6 PR hPe
   have Vs:=uF hPs k
   have hg:=fun i=>Af hPst (show k<P.line.todos.length by omega) i
   have hvs:=(hg k).1
   have hvt:=(hg k).2
   rw[if_pos rfl] at hvs hvt
   have hva:IG ⟨2,j,s3,s4⟩ 4 (-1)=⟨4,-1,s3,s4⟩:=rfl
   rw[hva] at hvs
   have hRu:=cr (di P k) Vs
   rw[bH.2 V] at hRu
   have hov:=vQ (di P k) w k (by have:=Vs.st;omega) (by show(P.states.set _ _).length=_;rw[List.length_set];exact hPl) (by show(P.line.todos.set _ _).length=_;rw[List.length_set];exact hPt) (by have:=V.sl;have:=V.tl;omega) (fun t ht=>by have:=hl6.todo t ht;omega) (fun i hi=>by
   have:=hg i
   rw[if_neg (fun q=>hi q.symm),if_neg (fun q=>hi q.symm)] at this
   rw[this.1,this.2];exact hPo i hi)
   have hfs:=oV w.f hsm.f
   have huf:(di P k).f=w.f:=hPf
   have hub:(di P k).builds=w.builds:=hPb
   have hS2:=fun d=>iG (di P k) Vs k d
   have hS3:∀d,gm (di P k) k d=(di P k,false):=fun d=>xV (by rw[bX hvs];show(4:Int)≠1;decide)
   simp only[hS3] at hS2
   have hSe:=xS (di P k) Vs ((FG (by rw[hP];exact FS.2.1) k:kV 121 (di P k).line).mono (by decide)) (by show P.tasks.length≤_;rw[hP];show(bg w k j).tasks.length≤_;omega) k true
   rw[HA (by rw[bX hvs];show(4:Int)≠2;decide)] at hSe
   have hdl:w.desk.defs.length≤100000:=hsm.d.defs
   have hvs2:=hvs
   clear hva hS3 hg V Vs hPst hPe hPt hPl hPo hPf hPb hPs hpo PR hfo hvst hve hbe FS F S R hsm e1 e3 hl6 hok e5 hd hsl htl hn1 hw
   generalize di P k=u at*
   clear hP P
   generalize bg w k j=v at*
   obtain⟨⟨l',m'⟩,st',⟨d1',d2',d3',d4'⟩,⟨a',b',c',d'⟩,ta',bu',cs'⟩:=v
   obtain⟨⟨ul,um⟩,ust,⟨ud1,ud2,ud3,ud4⟩,⟨ua,ub,uc,ud⟩,uta,ubu,ucs⟩:=u
   obtain⟨⟨l,m⟩,st,⟨d1,d2,d3,d4⟩,⟨a,b,c,d⟩,ta,bu,cs⟩:=w
   simp only at*
   obtain⟨rfl,rfl⟩:l=ul∧m=um:=by cases huf;exact⟨rfl,rfl⟩
   obtain rfl:bu=ubu:=hub.symm
   clear huf hub
   have e9:er=0→¬an=k:=fun c q=>e7 ⟨c,q⟩
   have hd1:(d1.map fH).length=d1.length:=List.length_map ..
   rcases hfr with⟨c1,rfl⟩|⟨c1,rfl⟩
   ·--
    refine ah.af (rvs:=[.tmp 10]) G aa Tryz.func12 rfl Tryz.ntmps12 rfl rfl ?_;with_reducible refine wD ?_
    (have fct:=And.intro hdm ((eq_false e2));(repeat' (first
  |refine gF ?_|refine aE ?_ ?_
  | ((first
   |((with_reducible refine kQ 46 ?_);refine cL h15 rT ?_)
   | ((with_reducible refine kQ 16 ?_);refine aj.lit [] h16 rM ⟨
     ⟨rfl,rfl,rfl,rfl,rfl,rfl,rfl,rfl,rfl,rfl,rfl,rfl,rfl,rfl,trivial⟩
     ,trivial⟩ rfl rfl ?_)
   | ((with_reducible refine kQ 19 ?_);refine aj.lit [] h19 gZ ⟨
     ⟨rfl,rfl,rfl,rfl,rfl,rfl,rfl,rfl,rfl,rfl,rfl,rfl,rfl,rfl,trivial⟩
     ,trivial⟩ rfl rfl ?_))<;>with_reducible refine wK ?_)
  | apply trivial));all_goals clear fct)
    refine dA.int (by kernel_rfl) (by kernel_rfl) (dH hx) ?_;with_reducible refine wK ?_
    repeat' (first
  |refine gK ?_|refine aE ?_ ?_
  | apply trivial)
    refine aW.rem hx.1 (show 0< ((st.map bG).length:Int) by omega) rfl rfl rfl rfl ?_;with_reducible refine wK ?_
    rw[hstm,hk]
    repeat' (first
  |refine gK ?_|refine aE ?_ ?_
  | apply trivial)
    refine dA.int (by kernel_rfl) (by kernel_rfl) (dH hy) ?_;with_reducible refine wK ?_
    repeat' (first
  |refine gK ?_|refine aE ?_ ?_
  | apply trivial)
    refine aW.rem hy.1 (show 0< ((d1.map fH).length:Int) by omega) rfl rfl rfl rfl ?_;with_reducible refine wK ?_
    rw[hdm,hj]
    repeat' (first
  |refine gK ?_|refine aE ?_ ?_
  | (((with_reducible refine kQ 47 ?_);refine aj.val [] hSt Eg ⟨
    ⟨rfl,rfl,rfl,rfl,rfl,rfl,rfl,rfl,rfl,rfl,rfl,rfl,rfl,rfl,trivial⟩
    ,rfl,rfl,trivial⟩ rfl rfl rfl ?_)<;>with_reducible refine wK ?_)
  | apply trivial)
    refine aW.rem hz.1 (show(0:Int)<11 by decide) rfl rfl rfl rfl ?_;with_reducible refine wK ?_
    rw[her]
    refine dA.int (by kernel_rfl) (by kernel_rfl) (dH her2) ?_;with_reducible refine wK ?_
    (have fct:=(eq_false c1);(repeat' (first
  |refine gF ?_|refine aE ?_ ?_
  | ((first
   |((with_reducible show ay _ _ _ _ _);first|refine ay.mk k (aX ⟨s1,s2,s3,s4⟩) rfl (aM hs) ?_|refine ay.mk k (aX ⟨4,-1,s3,s4⟩) rfl (aM hvs) ?_|refine ay.mk k (cF []) rfl (cz hvt) ?_)
   | ((with_reducible refine kQ 52 ?_);refine aj.val [] hFin Oz ⟨
     ⟨rfl,rfl,rfl,rfl,rfl,rfl,rfl,rfl,rfl,rfl,rfl,rfl,rfl,rfl,trivial⟩
     ,rfl,rfl,rfl,trivial⟩ rfl rfl rfl ?_)
   | ((with_reducible refine kQ 19 ?_);refine aj.lit [] hRu gZ ⟨
     ⟨rfl,rfl,rfl,rfl,rfl,rfl,rfl,rfl,rfl,rfl,rfl,rfl,rfl,rfl,trivial⟩
     ,trivial⟩ rfl rfl ?_)
   | ((with_reducible refine kQ 48 ?_);refine aj.lit [] hov Q6 ⟨
     ⟨rfl,rfl,rfl,rfl,rfl,rfl,rfl,rfl,rfl,rfl,rfl,rfl,rfl,rfl,trivial⟩
     ,
     ⟨rfl,rfl,rfl,rfl,rfl,rfl,rfl,rfl,rfl,rfl,rfl,rfl,rfl,rfl,trivial⟩
     ,rfl,trivial⟩ rfl rfl ?_)
   |((with_reducible refine kQ 37 ?_);refine cL hfs OH ?_)
   |((with_reducible show bI _ _ _ _);refine dK ?_))<;>with_reducible refine wK ?_)
  | apply trivial));all_goals clear fct)
    clear hSt hFin hRu hov hfs
    refine aU.use G aa (fun(q:Nat)=>[(5,.ptr 50 0 0),(11,aq k),(16,.ptr 160 0 0),(18,aq q)])
     (fun q=>[(50,mW ⟨⟨l,m⟩,st,⟨d1,d2,d3,d4⟩,⟨a,b,c,d⟩,ta,bu,cs⟩),(160,mW ⟨⟨l,m⟩,ust,⟨ud1,ud2,ud3,ud4⟩,⟨ua,ub,uc,ud⟩,uta,bu,ucs⟩)])
     (fun q=>q≤d1.length) (fun q=>d1.length-q) 0 (Nat.zero_le _) ?_ ?_
    ·(refine fK ?_;(with_reducible repeat' (first|exact trivial|(show _∧_;refine aK ?_ ?_)));(all_goals try rfl))
     all_goals first|rfl|(simp;done)
    intro q hq
    with_reducible refine wK ?_
    refine bq.mk (fun h9=>?_) (fun h9=>?_)<;>(try simp only[aF] at h9)<;>with_reducible refine wK ?_
    ·have hq':q<d1.length:=by simp only[decide_eq_true_eq] at h9;omega
     have hS2q:=hS2 q
     clear h9 hS2
     repeat' (first
  |refine gK ?_|refine aE ?_ ?_
  | (((with_reducible refine kQ 47 ?_);refine aj.val [] hS2q Eg ⟨
     ⟨rfl,rfl,rfl,rfl,rfl,rfl,rfl,rfl,rfl,rfl,rfl,rfl,rfl,rfl,trivial⟩
     ,rfl,rfl,trivial⟩ rfl rfl rfl ?_)<;>with_reducible refine wK ?_)
  | apply trivial)
     refine aL.mk (q+1) (by omega) (by omega) ?_
     (refine fK ?_;(with_reducible repeat' (first|exact trivial|(show _∧_;refine aK ?_ ?_)));(all_goals try rfl))
     all_goals first|rfl|(simp;done)
    ·clear h9
     repeat' (first
  |refine gK ?_|refine aE ?_ ?_
  | (((with_reducible refine kQ 57 ?_);refine aj.val [] hSe Qj ⟨
     ⟨rfl,rfl,rfl,rfl,rfl,rfl,rfl,rfl,rfl,rfl,rfl,rfl,rfl,rfl,trivial⟩
     ,rfl,rfl,trivial⟩ rfl rfl rfl ?_)<;>with_reducible refine wK ?_)
  | apply trivial)
     all_goals first|rfl
   ·--
    refine ah.af (rvs:=[.tmp 10]) G aa Tryz.func12 rfl Tryz.ntmps12 rfl rfl ?_;with_reducible refine wD ?_
    (have fct:=And.intro hdm ((eq_false e2));(repeat' (first
  |refine gF ?_|refine aE ?_ ?_
  | ((first
   |((with_reducible refine kQ 46 ?_);refine cL h15 rT ?_)
   | ((with_reducible refine kQ 16 ?_);refine aj.lit [] h16 rM ⟨
     ⟨rfl,rfl,rfl,rfl,rfl,rfl,rfl,rfl,rfl,rfl,rfl,rfl,rfl,rfl,trivial⟩
     ,trivial⟩ rfl rfl ?_)
   | ((with_reducible refine kQ 19 ?_);refine aj.lit [] h19 gZ ⟨
     ⟨rfl,rfl,rfl,rfl,rfl,rfl,rfl,rfl,rfl,rfl,rfl,rfl,rfl,rfl,trivial⟩
     ,trivial⟩ rfl rfl ?_))<;>with_reducible refine wK ?_)
  | apply trivial));all_goals clear fct)
    refine dA.int (by kernel_rfl) (by kernel_rfl) (dH hx) ?_;with_reducible refine wK ?_
    repeat' (first
  |refine gK ?_|refine aE ?_ ?_
  | apply trivial)
    refine aW.rem hx.1 (show 0< ((st.map bG).length:Int) by omega) rfl rfl rfl rfl ?_;with_reducible refine wK ?_
    rw[hstm,hk]
    repeat' (first
  |refine gK ?_|refine aE ?_ ?_
  | apply trivial)
    refine dA.int (by kernel_rfl) (by kernel_rfl) (dH hy) ?_;with_reducible refine wK ?_
    repeat' (first
  |refine gK ?_|refine aE ?_ ?_
  | apply trivial)
    refine aW.rem hy.1 (show 0< ((d1.map fH).length:Int) by omega) rfl rfl rfl rfl ?_;with_reducible refine wK ?_
    rw[hdm,hj]
    repeat' (first
  |refine gK ?_|refine aE ?_ ?_
  | (((with_reducible refine kQ 47 ?_);refine aj.val [] hSt Eg ⟨
    ⟨rfl,rfl,rfl,rfl,rfl,rfl,rfl,rfl,rfl,rfl,rfl,rfl,rfl,rfl,trivial⟩
    ,rfl,rfl,trivial⟩ rfl rfl rfl ?_)<;>with_reducible refine wK ?_)
  | apply trivial)
    refine aW.rem hz.1 (show(0:Int)<11 by decide) rfl rfl rfl rfl ?_;with_reducible refine wK ?_
    rw[her]
    refine dA.int (by kernel_rfl) (by kernel_rfl) (dH her2) ?_;with_reducible refine wK ?_
    (have fct:=And.intro (eq_true c1) ((eq_false (e9 c1)));(repeat' (first
  |refine gF ?_|refine aE ?_ ?_
  | ((first
   |((with_reducible show ay _ _ _ _ _);first|refine ay.mk k (aX ⟨s1,s2,s3,s4⟩) rfl (aM hs) ?_|refine ay.mk k (aX ⟨4,-1,s3,s4⟩) rfl (aM hvs) ?_|refine ay.mk k (cF []) rfl (cz hvt) ?_)
   | ((with_reducible refine kQ 52 ?_);refine aj.val [] hFin Oz ⟨
     ⟨rfl,rfl,rfl,rfl,rfl,rfl,rfl,rfl,rfl,rfl,rfl,rfl,rfl,rfl,trivial⟩
     ,rfl,rfl,rfl,trivial⟩ rfl rfl rfl ?_)
   | ((with_reducible refine kQ 19 ?_);refine aj.lit [] hRu gZ ⟨
     ⟨rfl,rfl,rfl,rfl,rfl,rfl,rfl,rfl,rfl,rfl,rfl,rfl,rfl,rfl,trivial⟩
     ,trivial⟩ rfl rfl ?_)
   | ((with_reducible refine kQ 48 ?_);refine aj.lit [] hov Q6 ⟨
     ⟨rfl,rfl,rfl,rfl,rfl,rfl,rfl,rfl,rfl,rfl,rfl,rfl,rfl,rfl,trivial⟩
     ,
     ⟨rfl,rfl,rfl,rfl,rfl,rfl,rfl,rfl,rfl,rfl,rfl,rfl,rfl,rfl,trivial⟩
     ,rfl,trivial⟩ rfl rfl ?_)
   |((with_reducible refine kQ 37 ?_);refine cL hfs OH ?_)
   |((with_reducible show bI _ _ _ _);refine dK ?_))<;>with_reducible refine wK ?_)
  | apply trivial));all_goals clear fct)
    clear hSt hFin hRu hov hfs
    refine aU.use G aa (fun(q:Nat)=>[(5,.ptr 50 0 0),(11,aq k),(16,.ptr 160 0 0),(18,aq q)])
     (fun q=>[(50,mW ⟨⟨l,m⟩,st,⟨d1,d2,d3,d4⟩,⟨a,b,c,d⟩,ta,bu,cs⟩),(160,mW ⟨⟨l,m⟩,ust,⟨ud1,ud2,ud3,ud4⟩,⟨ua,ub,uc,ud⟩,uta,bu,ucs⟩)])
     (fun q=>q≤d1.length) (fun q=>d1.length-q) 0 (Nat.zero_le _) ?_ ?_
    ·(refine fK ?_;(with_reducible repeat' (first|exact trivial|(show _∧_;refine aK ?_ ?_)));(all_goals try rfl))
     all_goals first|rfl|(simp;done)
    intro q hq
    with_reducible refine wK ?_
    refine bq.mk (fun h9=>?_) (fun h9=>?_)<;>(try simp only[aF] at h9)<;>with_reducible refine wK ?_
    ·have hq':q<d1.length:=by simp only[decide_eq_true_eq] at h9;omega
     have hS2q:=hS2 q
     clear h9 hS2
     repeat' (first
  |refine gK ?_|refine aE ?_ ?_
  | (((with_reducible refine kQ 47 ?_);refine aj.val [] hS2q Eg ⟨
     ⟨rfl,rfl,rfl,rfl,rfl,rfl,rfl,rfl,rfl,rfl,rfl,rfl,rfl,rfl,trivial⟩
     ,rfl,rfl,trivial⟩ rfl rfl rfl ?_)<;>with_reducible refine wK ?_)
  | apply trivial)
     refine aL.mk (q+1) (by omega) (by omega) ?_
     (refine fK ?_;(with_reducible repeat' (first|exact trivial|(show _∧_;refine aK ?_ ?_)));(all_goals try rfl))
     all_goals first|rfl|(simp;done)
    ·clear h9
     repeat' (first
  |refine gK ?_|refine aE ?_ ?_
  | (((with_reducible refine kQ 57 ?_);refine aj.val [] hSe Qj ⟨
     ⟨rfl,rfl,rfl,rfl,rfl,rfl,rfl,rfl,rfl,rfl,rfl,rfl,rfl,rfl,trivial⟩
     ,rfl,rfl,trivial⟩ rfl rfl rfl ?_)<;>with_reducible refine wK ?_)
  |apply trivial)
     all_goals first|rfl
theorem Gt {x:bD}(h:gW x=true):bO x.locl=true∧ek x.locl=x.locl∧kZ x.locl (iw x)=true∧∀ {l:List bD},fO l=true→∀ (k:Nat),l[k]? =some x→sP l x.locl (iw x)=k:=by
 obtain⟨h1,h2,_,_⟩:=lN h
 have hc:∀s,cK s=true→bO s=true∧om s.data.toList=false:=fun s hs=>by
  unfold cK at hs
  simp only[Bool.and_eq_true,Bool.not_eq_true'] at hs
  exact⟨hs.1,hs.2.2.1⟩
 have hl:bO x.locl=true∧om x.locl.data.toList=false:=by
  rcases h2 with q|q
  ·rw[q];exact hc _ h1
  ·have:=w8 q
   exact⟨this.1,this.2.2⟩
 refine⟨hl.1,(LD _).2 hl.2,wu.2 ⟨hl.1,?_⟩,fun{l} hd k hx=>?_⟩
 ·unfold iw
  split
  ·exact .inl rfl
  ·exact .inr h1
 ·refine wv hd hx (kq.2 ⟨rfl,?_⟩)
  unfold iw
  by_cases q:x.locl=x.name
  ·exact .inl q.symm
  ·rw[if_neg q];exact .inr rfl
structure Ou (w:ai) (df:Nat) (x:bD) (v:ai):Prop where
 r:aP v
 sm:bh v
 sl:kV 1360 v.line
 ta:v.tasks.length≤61
 d:v.desk=w.desk
 bu:v.builds=w.builds
 f:∃y,v.f=gQ w.f y
 fa:lS v.f w.f.nodes.length v.desk=df
 fi:rU v w.f.nodes.length x.locl 0=0
 st:v.states[w.f.nodes.length]? =some ⟨2,df,-1,false⟩
 ls:v.states.length=w.f.nodes.length+1
 ot:∀ (i:Nat) t,w.states[i]? =some t→∃u,v.states[i]? =some u∧u.phase=t.phase∧u.df=t.df
theorem CI {w:ai}(R:aP w)(S:bh w)(h63:w.f.nodes.length≤63)(hl:kV 60 w.line)(ht:w.tasks.length≤60)(hb:w.builds=[]){j:Nat}{x:bD}(hd:dO w j=true)(hx:w.desk.defs[j]? =some x)(hz:(ek x.locl).size≤300):
  gq w x.cls=(w,-1,false,8)∧(w.f.nodes.length:Int)=w.f.most∨¬ (w.f.nodes.length:Int)=w.f.most∧∃v,gq w x.cls=(v,(w.f.nodes.length:Int),true,0)∧Ou w j x v:=by
 obtain⟨kd,x',hkd,hx',hda,hg,_,hcl,hok⟩:=tu R hd
 obtain rfl:j=kd:=by omega
 obtain rfl:x=x':=Option.some.inj (hx.symm.trans hx')
 obtain⟨n1,n2,n3,n4⟩:=Gt hg
 have t0:ak w.f.nodes 0=true:=by have:=mo R;unfold ak;simp;omega
 have k0:(nd w.f.nodes 0).kind=0:=by
  have:=R.rf
  unfold aV wV at this
  simp only[Bool.and_eq_true,decide_eq_true_eq] at this
  exact this.1.2
 have hbe:=FV R t0 k0 n3
 have hla:je w.builds j=-1:=by rw[hb];rfl
 rw[zJ hok,hcl,if_neg (by omega),hla,if_pos (by decide)]
 unfold A3
 rw[hda,hbe]
 by_cases e:(w.f.nodes.length:Int)=w.f.most
 ·left
  rw[if_pos e]
  exact⟨rfl,e⟩
 ·right
  rw[if_neg e]
  refine⟨e,bE (dR w (gQ w.f (cU w.f (cE x.locl (iw x) 0))) []) w.f.nodes.length 2 j,rfl,?_⟩
  have V:=xH R t0 k0 n3 e
  have hrf:=qN (mB R.rf t0 k0 n3) e
  have hfo:=nA w (cU w.f (cE x.locl (iw x) 0))
  have hsm:bS (gQ w.f (cU w.f (cE x.locl (iw x) 0))).nodes:=vV S.f h63 (y:=cU w.f (cE x.locl (iw x) 0)) (Nat.zero_le _) (Nat.zero_le _) hz
  have hnx:(gQ w.f (cU w.f (cE x.locl (iw x) 0))).nodes[w.f.nodes.length]? =some (cU w.f (cE x.locl (iw x) 0)):=by
   show(w.f.nodes++ [_])[w.f.nodes.length]? =_
   rw[List.getElem?_append_right (Nat.le_refl _),Nat.sub_self];rfl
  have T:=uP S hl (by decide) (by omega) hsm (ns:=[]) (by decide) R hrf hfo
  have hst:=Jh R hrf hfo [] (Nat.le_of_eq R.sl) hnx
  have hold:=fun(i:Nat) t (h:w.states[i]? =some t)=>wP R hrf hfo [] h
  have hf:=DD w (gQ w.f (cU w.f (cE x.locl (iw x) 0))) []
  have hde:=Ab w (gQ w.f (cU w.f (cE x.locl (iw x) 0))) []
  have hbu:=u5 w (gQ w.f (cU w.f (cE x.locl (iw x) 0))) []
  have hta:(dR w (gQ w.f (cU w.f (cE x.locl (iw x) 0))) []).tasks.length≤61:=by have:=T.2.2;omega
  have hel:elemV (dR w (gQ w.f (cU w.f (cE x.locl (iw x) 0))) []).f.nodes w.f.nodes.length=true:=by
   rw[hf];unfold elemV;rw[dj hnx,cZ hnx];rfl
  have hsl:=V.sl
  rw[hf] at hsl
  have hsl:(dR w (gQ w.f (cU w.f (cE x.locl (iw x) 0))) []).states.length=w.f.nodes.length+1:=by
   rw[hsl];show(w.f.nodes++ [_]).length=_;rw[List.length_append,List.length_singleton]
  have hfate:lS (dR w (gQ w.f (cU w.f (cE x.locl (iw x) 0))) []).f w.f.nodes.length (dR w (gQ w.f (cU w.f (cE x.locl (iw x) 0))) []).desk=j:=by
   rw[hf,hde]
   unfold lS
   rw[dj hnx,hrf,cZ hnx,if_pos (by rfl)]
   unfold Cs
   rw[if_pos ⟨rfl,rfl⟩]
   unfold findD
   rw[if_pos R.rd]
   show sP w.desk.defs (ek x.locl) (iw x)=j
   rw[n2]
   exact n4 (rD R.rd) j hx
  have hfit:∀ (u:ai),cf u=true→u.f=gQ w.f (cU w.f (cE x.locl (iw x) 0))→rU u w.f.nodes.length x.locl 0=0:=fun u hu1 hu2=>by
   rw[Ir hu1 rfl (x:=cU w.f (cE x.locl (iw x) 0)) (by rw[hu2];exact hnx),if_pos]
   unfold Js
   show(((((decide ((1:Int)=1)&&decide (ek x.locl=x.locl))&&decide ((0:Int)=0))&&decide (([]:List AttrM).length=0))&&decide (([]:List Int).length=0))&&decide ((-1:Int)=-1))=true
   rw[n2];simp
  have PV:aP (bE (dR w (gQ w.f (cU w.f (cE x.locl (iw x) 0))) []) w.f.nodes.length 2 j):=kn V hel (.inl ⟨.inl rfl,by unfold dO at hd ⊢;rw[hde];exact hd⟩)
  have pg:=fun i=>pX hst 2 j i
  refine⟨PV,kr T.1 _ _ _,T.2.1,hta,hde,hbu,⟨_,hf⟩,hfate,hfit _ (bH.2 PV) hf,?_,?_,?_⟩
  ·have:=pg w.f.nodes.length
   rw[if_pos rfl] at this;exact this
  ·show(List.set _ _ _).length=_
   rw[List.length_set];exact hsl
  ·intro i t h
   have hil:=(List.getElem?_eq_some_iff.1 h).1
   have hws:=R.sl
   obtain⟨u,h1,h2,h3⟩:=hold i t h
   have:=pg i
   rw[if_neg (by omega)] at this
   exact⟨u,this.trans h1,h2,h3⟩
theorem On (w:ai)(x:Int)(hx:0≤x∧x<256)(good:Bool):ah Tryz.prog 13 [] [aT w,.lit (.int .u8 x),aA good] [] (aA true):=by
 have h15:=mH
 have h16:=kp w
 have hdm:(w.desk.defs.map fH).length=w.desk.defs.length:=List.length_map ..
 have hbm:(w.builds.map bM).length=w.builds.length:=List.length_map ..
 cases e1:nj w with
 | false=>
   rw[e1] at h16
   obtain⟨⟨l,m⟩,st,⟨d1,d2,d3,d4⟩,⟨a,b,c,d⟩,ta,bu,cs⟩:=w
   refine ah.af (rvs:=[.tmp 6]) G aa Tryz.func13 rfl Tryz.ntmps13 rfl rfl ?_;with_reducible refine wD ?_
   repeat' (first
  |refine gK ?_|refine aE ?_ ?_
  | ((first
   |((with_reducible refine kQ 46 ?_);refine cL h15 rT ?_)
   | ((with_reducible refine kQ 16 ?_);refine aj.lit [] h16 rM ⟨
       ⟨rfl,rfl,rfl,rfl,rfl,rfl,rfl,rfl,rfl,rfl,rfl,rfl,rfl,rfl,trivial⟩
       ,trivial⟩ rfl rfl ?_))<;>with_reducible refine wK ?_)
  |apply trivial)
 |true=>
 rw[e1] at h16
 have S:=jg.1 e1
 have h19:=cr w S.small
 cases e3:cf w with
 | false=>
   rw[e3] at h19
   clear S e1
   obtain⟨⟨l,m⟩,st,⟨d1,d2,d3,d4⟩,⟨a,b,c,d⟩,ta,bu,cs⟩:=w
   refine ah.af (rvs:=[.tmp 6]) G aa Tryz.func13 rfl Tryz.ntmps13 rfl rfl ?_;with_reducible refine wD ?_
   repeat' (first
  |refine gK ?_|refine aE ?_ ?_
  | ((first
   |((with_reducible refine kQ 46 ?_);refine cL h15 rT ?_)
   | ((with_reducible refine kQ 16 ?_);refine aj.lit [] h16 rM ⟨
       ⟨rfl,rfl,rfl,rfl,rfl,rfl,rfl,rfl,rfl,rfl,rfl,rfl,rfl,rfl,trivial⟩
       ,trivial⟩ rfl rfl ?_)
   | ((with_reducible refine kQ 19 ?_);refine aj.lit [] h19 gZ ⟨
       ⟨rfl,rfl,rfl,rfl,rfl,rfl,rfl,rfl,rfl,rfl,rfl,rfl,rfl,rfl,trivial⟩
       ,trivial⟩ rfl rfl ?_))<;>with_reducible refine wK ?_)
  |apply trivial)
 |true=>
 rw[e3] at h19
 by_cases e2:(w.desk.defs.length:Int)=0
 ·clear S e1 e3
  obtain⟨⟨l,m⟩,st,⟨d1,d2,d3,d4⟩,⟨a,b,c,d⟩,ta,bu,cs⟩:=w
  simp only at hdm e2
  refine ah.af (rvs:=[.tmp 6]) G aa Tryz.func13 rfl Tryz.ntmps13 rfl rfl ?_;with_reducible refine wD ?_
  (have fct:=And.intro hdm (e2);(repeat' (first
  |refine gF ?_|refine aE ?_ ?_
  | ((first
   |((with_reducible refine kQ 46 ?_);refine cL h15 rT ?_)
   | ((with_reducible refine kQ 16 ?_);refine aj.lit [] h16 rM ⟨
       ⟨rfl,rfl,rfl,rfl,rfl,rfl,rfl,rfl,rfl,rfl,rfl,rfl,rfl,rfl,trivial⟩
       ,trivial⟩ rfl rfl ?_)
   | ((with_reducible refine kQ 19 ?_);refine aj.lit [] h19 gZ ⟨
       ⟨rfl,rfl,rfl,rfl,rfl,rfl,rfl,rfl,rfl,rfl,rfl,rfl,rfl,rfl,trivial⟩
       ,trivial⟩ rfl rfl ?_))<;>with_reducible refine wK ?_)
  |apply trivial));all_goals clear fct)
 have hg2:decide (((w.desk.defs.map fH).length:Int)=0)=false:=decide_eq_false (by omega)
 by_cases e4:(0:Int)< (w.builds.length:Int)
 ·have hg3:decide ((0:Int)< ((w.builds.map bM).length:Int))=true:=decide_eq_true (by omega)
  clear S e1 e3
  obtain⟨⟨l,m⟩,st,⟨d1,d2,d3,d4⟩,⟨a,b,c,d⟩,ta,bu,cs⟩:=w
  simp only at hdm e2 hg2 hg3
  refine ah.af (rvs:=[.tmp 6]) G aa Tryz.func13 rfl Tryz.ntmps13 rfl rfl ?_;with_reducible refine wD ?_
  (have fct:=hdm;(repeat' (first
  |refine gF ?_|refine aE ?_ ?_
  | ((first
   |((with_reducible refine kQ 46 ?_);refine cL h15 rT ?_)
   | ((with_reducible refine kQ 16 ?_);refine aj.lit [] h16 rM ⟨
       ⟨rfl,rfl,rfl,rfl,rfl,rfl,rfl,rfl,rfl,rfl,rfl,rfl,rfl,rfl,trivial⟩
       ,trivial⟩ rfl rfl ?_)
   | ((with_reducible refine kQ 19 ?_);refine aj.lit [] h19 gZ ⟨
       ⟨rfl,rfl,rfl,rfl,rfl,rfl,rfl,rfl,rfl,rfl,rfl,rfl,rfl,rfl,trivial⟩
       ,trivial⟩ rfl rfl ?_))<;>with_reducible refine wK ?_)
  |apply trivial));all_goals clear fct)
 have hg3:decide ((0:Int)< ((w.builds.map bM).length:Int))=false:=decide_eq_false (by omega)
 have hb0:w.builds=[]:=List.eq_nil_of_length_eq_zero (by omega)
 have R:=bH.1 e3
 have hsm:=S.small
 have hn60:=oR S
 have hsl:=R.sl
 obtain⟨j,hj⟩:∃j:Nat,x% (w.desk.defs.length:Int)=j:=⟨_,(Int.toNat_of_nonneg (Int.emod_nonneg _ (by omega))).symm⟩
 have hjl:j<w.desk.defs.length:=by
  have:=Int.emod_lt_of_pos x (show(0:Int)< (w.desk.defs.length:Int) by omega)
  omega
 have hd:dO w j=true:=by unfold dO;simp;omega
 have hl6:=mP S.l
 have hta:=S.ta
 have SD:=kT.1 S.d
 have hdpos:0<w.desk.defs.length:=by omega
 obtain⟨⟨y1,y2,y3⟩,hyd⟩:∃z,w.desk.defs[j]? =some z:=⟨_,List.getElem?_eq_getElem hjl⟩
 have hzs:∀x∈w.desk.defs,(ek x.locl).size≤300:=fun x hx=>by rw[tS];exact(SD.names x hx).2
 have hSu:=iE w hsm (by omega) (hl6.mono (by decide)) (by omega) hzs y3
 have hlm:(w.f.nodes.map bZ).length=w.f.nodes.length:=List.length_map ..
 have hstm:(w.states.map bG).length=w.f.nodes.length:=by rw[List.length_map,hsl]
 rcases CI R hsm (by omega) hl6 hta hb0 hd hyd (hzs _ (List.mem_of_getElem? hyd)) with⟨q1,q2⟩|⟨q2,v,q1,F⟩
 ·simp only at q1
  rw[q1] at hSu
  have hSw:=nJ w hsm
  clear q1 S R hsm hl6 hta SD hzs hd e1 e3 hb0 hsl hn60
  obtain⟨⟨l,m⟩,st,⟨d1,d2,d3,d4⟩,⟨a,b,c,d⟩,ta,bu,cs⟩:=w
  simp only at*
  refine ah.af (rvs:=[.tmp 6]) G aa Tryz.func13 rfl Tryz.ntmps13 rfl rfl ?_;with_reducible refine wD ?_
  (have fct:=And.intro hdm (hbm);(repeat' (first
  |refine gF ?_|refine aE ?_ ?_
  | ((first
   |((with_reducible refine kQ 46 ?_);refine cL h15 rT ?_)
   | ((with_reducible refine kQ 16 ?_);refine aj.lit [] h16 rM ⟨
    ⟨rfl,rfl,rfl,rfl,rfl,rfl,rfl,rfl,rfl,rfl,rfl,rfl,rfl,rfl,trivial⟩
    ,trivial⟩ rfl rfl ?_)
   | ((with_reducible refine kQ 19 ?_);refine aj.lit [] h19 gZ ⟨
    ⟨rfl,rfl,rfl,rfl,rfl,rfl,rfl,rfl,rfl,rfl,rfl,rfl,rfl,rfl,trivial⟩
    ,trivial⟩ rfl rfl ?_))<;>with_reducible refine wK ?_)
  |apply trivial));all_goals clear fct)
  refine dA.int (by kernel_rfl) (by kernel_rfl) (dH hx) ?_;with_reducible refine wK ?_
  repeat' (first
  |refine gK ?_|refine aE ?_ ?_
  |apply trivial)
  refine aW.rem hx.1 (show 0< ((d1.map fH).length:Int) by omega) rfl rfl rfl rfl ?_;with_reducible refine wK ?_
  rw[hdm,hj]
  (have fct:=And.intro hlm (q2);(repeat' (first
  |refine gF ?_|refine aE ?_ ?_
  | ((first
   |((with_reducible show ay _ _ _ _ _);refine ay.mk j (jH ⟨y1,y2,y3⟩) rfl (dD hyd) ?_)
   | ((with_reducible refine kQ 50 ?_);refine aj.val [] hSu KS ⟨
    ⟨rfl,rfl,rfl,rfl,rfl,rfl,rfl,rfl,rfl,rfl,rfl,rfl,rfl,rfl,trivial⟩
    ,rfl,trivial⟩ rfl rfl rfl ?_)
   | ((with_reducible refine kQ 23 ?_);refine aj.lit [] hSw Qi ⟨
    ⟨rfl,rfl,rfl,rfl,rfl,rfl,rfl,rfl,rfl,rfl,rfl,rfl,rfl,rfl,trivial⟩
    ,
    ⟨rfl,rfl,rfl,rfl,rfl,rfl,rfl,rfl,rfl,rfl,rfl,rfl,rfl,rfl,trivial⟩
    ,trivial⟩ rfl rfl ?_))<;>with_reducible refine wK ?_)
  |apply trivial));all_goals clear fct)
  all_goals first|rfl
 ·simp only at q1
  rw[q1] at hSu
  have hRv:=cr v F.sm
  rw[bH.2 F.r] at hRv
  have hvf:∃y,v.f=gQ w.f y:=F.f
  have hFa:=Iz v.f F.sm.f w.f.nodes.length v.desk F.sm.d
  rw[F.fa] at hFa
  have hFi:=Br v F.sm w.f.nodes.length y2 0
  rw[show rU v w.f.nodes.length y2 0=0 from F.fi] at hFi
  have hvs:=F.st
  have hvb:v.builds=[]:=by rw[F.bu,hb0]
  have hve:=nk F.r F.st (by show(2:Int)≠0;decide)
  have hSe:=xS v F.sm (F.sl.mono (by decide)) (by have:=F.ta;omega) w.f.nodes.length good
  obtain⟨u,hu,hur,hus',hul,huf,huo,hush⟩:∃u,gN v w.f.nodes.length good=(u,0)∧aP u∧bh u∧u.states.length=w.f.nodes.length+1∧u.f=v.f∧
    (∀ (i:Nat) t,w.states[i]? =some t→∃z,u.states[i]? =some z∧z.phase=t.phase∧z.df=t.df)∧∃s,u.states[w.f.nodes.length]? =some s∧s.phase=(if good=true then 3 else 4)∧s.df=(if good=true then(j:Int) else-1):=by
   have hse:gN v w.f.nodes.length good=if good=true then(eC v w.f.nodes.length,0) else(di v w.f.nodes.length,0):=by
    unfold gN
    rw[iB.2 ⟨F.r,hve⟩,bX F.st,if_pos (by rfl)]
   have hKl:w.f.nodes.length<v.states.length:=by have:=F.ls;omega
   cases good with
   | true=>
     have DG:=xA F.r hve F.st (.inl rfl)
     have DS:=rE F.r hve (by rw[bX F.st];exact .inl rfl) F.sm F.sl (by decide) (by have:=F.ta;omega)
     refine⟨_,hse,DG.1,DS.1,?_,DG.2.1.1,fun i t h=>?_,?_⟩
     ·have h1:=DG.1.sl
      have h2:=F.r.sl
      rw[DG.2.1.1] at h1
      have:=F.ls;omega
     ·have hil:=(List.getElem?_eq_some_iff.1 h).1
      obtain⟨z,z1,z2,z3⟩:=F.ot i t h
      obtain⟨z',z4,z5,z6⟩:=DG.2.2 i z z1
      rw[if_neg (by omega)] at z5
      exact⟨z',z4,z5.trans z2,z6.trans z3⟩
     ·obtain⟨z',z4,z5,z6⟩:=DG.2.2 _ _ F.st
      rw[if_pos rfl] at z5
      exact⟨z',z4,z5,z6⟩
   | false=>
     have sg:=fun i=>Af F.st (show w.f.nodes.length<v.line.todos.length by have:=F.r.tl;have:=F.r.sl;omega) i
     refine⟨_,hse,u6 F.r hve,uF F.sm _,?_,rfl,fun i t h=>?_,?_⟩
     ·show(v.states.set _ _).length=_
      rw[List.length_set];exact F.ls
     ·have hil:=(List.getElem?_eq_some_iff.1 h).1
      obtain⟨z,z1,z2,z3⟩:=F.ot i t h
      have:=(sg i).1
      rw[if_neg (by omega)] at this
      exact⟨z,this.trans z1,z2,z3⟩
     ·have:=(sg w.f.nodes.length).1
      rw[if_pos rfl] at this
      exact⟨_,this,rfl,rfl⟩
  rw[hu] at hSe
  have hRu:=cr u hus'
  rw[bH.2 hur] at hRu
  obtain⟨⟨u1,u2,u3,u4⟩,hus,hu1,hu2⟩:=hush
  simp only at hu1 hu2
  obtain⟨yn,hyn⟩:=hvf
  have hone:∀z∈w.f.nodes,ah Tryz.prog 59 [] [aS z,aS z] [] (aA true):=fun z hz=>CE z (by have:=hsm.f.attrs z hz;omega) (by have:=hsm.f.kids z hz;omega)
  have hun:∀ (i:Nat) z,w.f.nodes[i]? =some z→u.f.nodes[i]? =some z:=fun i z h=>by
   rw[huf,hyn]
   show(w.f.nodes++ [yn])[i]? =_
   rw[List.getElem?_append_left (List.getElem?_eq_some_iff.1 h).1];exact h
  have hum:(u.states.map bG).length=w.f.nodes.length+1:=by rw[List.length_map,hul]
  have hsl2:=hsl
  clear hyn huf hur hus' hu hve F q1 S R hsm hl6 hta SD hzs hd e1 e3 hb0 hul
  generalize hKn:w.f.nodes.length=K at*
  obtain⟨⟨l',m'⟩,st',⟨d1',d2',d3',d4'⟩,⟨a',b',c',d'⟩,ta',bu',cs'⟩:=v
  obtain⟨⟨ul,um⟩,ust,⟨ud1,ud2,ud3,ud4⟩,⟨ua,ub,uc,ud⟩,uta,ubu,ucs⟩:=u
  obtain⟨⟨l,m⟩,st,⟨d1,d2,d3,d4⟩,⟨a,b,c,d⟩,ta,bu,cs⟩:=w
  simp only at*
  subst hvb
  cases good with
  | true=>
    rw[if_pos rfl] at hu1 hu2
    subst hu1
    subst hu2
    refine ah.af (rvs:=[.tmp 6]) G aa Tryz.func13 rfl Tryz.ntmps13 rfl rfl ?_;with_reducible refine wD ?_
    (have fct:=And.intro hdm (hbm);(repeat' (first
  |refine gF ?_|refine aE ?_ ?_
  | ((first
   |((with_reducible refine kQ 46 ?_);refine cL h15 rT ?_)
   | ((with_reducible refine kQ 16 ?_);refine aj.lit [] h16 rM ⟨
     ⟨rfl,rfl,rfl,rfl,rfl,rfl,rfl,rfl,rfl,rfl,rfl,rfl,rfl,rfl,trivial⟩
     ,trivial⟩ rfl rfl ?_)
   | ((with_reducible refine kQ 19 ?_);refine aj.lit [] h19 gZ ⟨
     ⟨rfl,rfl,rfl,rfl,rfl,rfl,rfl,rfl,rfl,rfl,rfl,rfl,rfl,rfl,trivial⟩
     ,trivial⟩ rfl rfl ?_))<;>with_reducible refine wK ?_)
  | apply trivial));all_goals clear fct)
    refine dA.int (by kernel_rfl) (by kernel_rfl) (dH hx) ?_;with_reducible refine wK ?_
    repeat' (first
  |refine gK ?_|refine aE ?_ ?_
  | apply trivial)
    refine aW.rem hx.1 (show 0< ((d1.map fH).length:Int) by omega) rfl rfl rfl rfl ?_;with_reducible refine wK ?_
    rw[hdm,hj]
    (have fct:=And.intro hlm (And.intro hstm (And.intro hum ((eq_false q2))));(repeat' (first
  |refine gF ?_|refine aE ?_ ?_
  | ((first
   |((with_reducible show ay _ _ _ _ _);first|refine ay.mk j (jH ⟨y1,y2,y3⟩) rfl (dD hyd) ?_|refine ay.mk K (aX ⟨2,j,-1,false⟩) rfl (aM hvs) ?_|refine ay.mk K (aX ⟨3,j,u3,u4⟩) rfl (aM hus) ?_|refine ay.mk K (aX ⟨4,-1,u3,u4⟩) rfl (aM hus) ?_)
   | ((with_reducible refine kQ 50 ?_);refine aj.val [] hSu KS ⟨
     ⟨rfl,rfl,rfl,rfl,rfl,rfl,rfl,rfl,rfl,rfl,rfl,rfl,rfl,rfl,trivial⟩
     ,rfl,trivial⟩ rfl rfl rfl ?_)
   | ((with_reducible refine kQ 19 ?_);first
     | refine aj.lit [] hRv gZ ⟨
      ⟨rfl,rfl,rfl,rfl,rfl,rfl,rfl,rfl,rfl,rfl,rfl,rfl,rfl,rfl,trivial⟩
      ,trivial⟩ rfl rfl ?_
     | refine aj.lit [] hRu gZ ⟨
      ⟨rfl,rfl,rfl,rfl,rfl,rfl,rfl,rfl,rfl,rfl,rfl,rfl,rfl,rfl,trivial⟩
      ,trivial⟩ rfl rfl ?_)
   |((with_reducible refine kQ 58 ?_);refine cL hFa P2 ?_)
   | ((with_reducible refine kQ 56 ?_);refine aj.lit [] hFi P1 ⟨
     ⟨rfl,rfl,rfl,rfl,rfl,rfl,rfl,rfl,rfl,rfl,rfl,rfl,rfl,rfl,trivial⟩
     ,rfl,rfl,rfl,trivial⟩ rfl rfl ?_)
   | ((with_reducible refine kQ 57 ?_);refine aj.val [] hSe Qj ⟨
     ⟨rfl,rfl,rfl,rfl,rfl,rfl,rfl,rfl,rfl,rfl,rfl,rfl,rfl,rfl,trivial⟩
     ,rfl,rfl,trivial⟩ rfl rfl rfl ?_)
   |((with_reducible show bI _ _ _ _);refine dK ?_))<;>with_reducible refine wK ?_)
  | apply trivial));all_goals clear fct)
    clear hSu hRv hFa hFi hSe hRu
    refine aU.use G aa (fun(q:Nat)=>[(3,.ptr 30 0 0),(10,aq K),(13,.ptr 130 0 0),(15,aq q)])
     (fun q=>[(30,mW ⟨⟨l,m⟩,st,⟨d1,d2,d3,d4⟩,⟨a,b,c,d⟩,ta,bu,cs⟩),(130,mW ⟨⟨ul,um⟩,ust,⟨ud1,ud2,ud3,ud4⟩,⟨ua,ub,uc,ud⟩,uta,ubu,ucs⟩)])
     (fun q=>q≤K) (fun q=>K-q) 0 (Nat.zero_le _) ?_ ?_
    ·(refine fK ?_;(with_reducible repeat' (first|exact trivial|(show _∧_;refine aK ?_ ?_)));(all_goals try rfl))
     all_goals first|rfl|(simp;done)
    intro q hq
    with_reducible refine wK ?_
    refine bq.mk (fun h9=>?_) (fun h9=>?_)<;>(try simp only[aF] at h9)<;>with_reducible refine wK ?_
    ·have hq':q<K:=by simp only[decide_eq_true_eq] at h9;omega
     obtain⟨⟨t1,t2,t3,t4⟩,ht⟩:∃z,st[q]? =some z:=⟨_,List.getElem?_eq_getElem (by omega)⟩
     obtain⟨⟨z1,z2,z3,z4⟩,hz,hz1,hz2⟩:=huo q _ ht
     simp only at hz1 hz2
     subst hz1
     subst hz2
     obtain⟨⟨x0,x1,x2,x3,x4,x5,x6,x7,x8,x9⟩,hnx⟩:∃z,l[q]? =some z:=⟨_,List.getElem?_eq_getElem (by omega)⟩
     have hnu:=hun q _ hnx
     have h1e:=hone _ (List.mem_of_getElem? hnx)
     clear h9
     repeat' (first
  |refine gK ?_|refine aE ?_ ?_
  | ((first
   |((with_reducible show ay _ _ _ _ _);first|refine ay.mk q (aX ⟨z1,z2,t3,t4⟩) rfl (aM ht) ?_|refine ay.mk q (aX ⟨z1,z2,z3,z4⟩) rfl (aM hz) ?_|refine ay.mk q (aS ⟨x0,x1,x2,x3,x4,x5,x6,x7,x8,x9⟩) rfl (aG hnx) ?_|refine ay.mk q (aS ⟨x0,x1,x2,x3,x4,x5,x6,x7,x8,x9⟩) rfl (aG hnu) ?_)
   |((with_reducible refine kQ 59 ?_);refine cL h1e RE ?_)
   |((with_reducible show bI _ _ _ _);refine dK ?_))<;>with_reducible refine wK ?_)
  | apply trivial)
     refine aL.mk (q+1) (by omega) (by omega) ?_
     (refine fK ?_;(with_reducible repeat' (first|exact trivial|(show _∧_;refine aK ?_ ?_)));(all_goals try rfl))
     all_goals first|rfl|(simp;done)
    ·clear h9
     repeat' (first
  |refine gK ?_|refine aE ?_ ?_
  |apply trivial)
     all_goals first|rfl
  | false=>
    rw[if_neg (by simp)] at hu1 hu2
    subst hu1
    subst hu2
    refine ah.af (rvs:=[.tmp 6]) G aa Tryz.func13 rfl Tryz.ntmps13 rfl rfl ?_;with_reducible refine wD ?_
    (have fct:=And.intro hdm (hbm);(repeat' (first
  |refine gF ?_|refine aE ?_ ?_
  | ((first
   |((with_reducible refine kQ 46 ?_);refine cL h15 rT ?_)
   | ((with_reducible refine kQ 16 ?_);refine aj.lit [] h16 rM ⟨
     ⟨rfl,rfl,rfl,rfl,rfl,rfl,rfl,rfl,rfl,rfl,rfl,rfl,rfl,rfl,trivial⟩
     ,trivial⟩ rfl rfl ?_)
   | ((with_reducible refine kQ 19 ?_);refine aj.lit [] h19 gZ ⟨
     ⟨rfl,rfl,rfl,rfl,rfl,rfl,rfl,rfl,rfl,rfl,rfl,rfl,rfl,rfl,trivial⟩
     ,trivial⟩ rfl rfl ?_))<;>with_reducible refine wK ?_)
  | apply trivial));all_goals clear fct)
    refine dA.int (by kernel_rfl) (by kernel_rfl) (dH hx) ?_;with_reducible refine wK ?_
    repeat' (first
  |refine gK ?_|refine aE ?_ ?_
  | apply trivial)
    refine aW.rem hx.1 (show 0< ((d1.map fH).length:Int) by omega) rfl rfl rfl rfl ?_;with_reducible refine wK ?_
    rw[hdm,hj]
    (have fct:=And.intro hlm (And.intro hstm (And.intro hum ((eq_false q2))));(repeat' (first
  |refine gF ?_|refine aE ?_ ?_
  | ((first
   |((with_reducible show ay _ _ _ _ _);first|refine ay.mk j (jH ⟨y1,y2,y3⟩) rfl (dD hyd) ?_|refine ay.mk K (aX ⟨2,j,-1,false⟩) rfl (aM hvs) ?_|refine ay.mk K (aX ⟨3,j,u3,u4⟩) rfl (aM hus) ?_|refine ay.mk K (aX ⟨4,-1,u3,u4⟩) rfl (aM hus) ?_)
   | ((with_reducible refine kQ 50 ?_);refine aj.val [] hSu KS ⟨
     ⟨rfl,rfl,rfl,rfl,rfl,rfl,rfl,rfl,rfl,rfl,rfl,rfl,rfl,rfl,trivial⟩
     ,rfl,trivial⟩ rfl rfl rfl ?_)
   | ((with_reducible refine kQ 19 ?_);first
     | refine aj.lit [] hRv gZ ⟨
      ⟨rfl,rfl,rfl,rfl,rfl,rfl,rfl,rfl,rfl,rfl,rfl,rfl,rfl,rfl,trivial⟩
      ,trivial⟩ rfl rfl ?_
     | refine aj.lit [] hRu gZ ⟨
      ⟨rfl,rfl,rfl,rfl,rfl,rfl,rfl,rfl,rfl,rfl,rfl,rfl,rfl,rfl,trivial⟩
      ,trivial⟩ rfl rfl ?_)
   |((with_reducible refine kQ 58 ?_);refine cL hFa P2 ?_)
   | ((with_reducible refine kQ 56 ?_);refine aj.lit [] hFi P1 ⟨
     ⟨rfl,rfl,rfl,rfl,rfl,rfl,rfl,rfl,rfl,rfl,rfl,rfl,rfl,rfl,trivial⟩
     ,rfl,rfl,rfl,trivial⟩ rfl rfl ?_)
   | ((with_reducible refine kQ 57 ?_);refine aj.val [] hSe Qj ⟨
     ⟨rfl,rfl,rfl,rfl,rfl,rfl,rfl,rfl,rfl,rfl,rfl,rfl,rfl,rfl,trivial⟩
     ,rfl,rfl,trivial⟩ rfl rfl rfl ?_)
   |((with_reducible show bI _ _ _ _);refine dK ?_))<;>with_reducible refine wK ?_)
  | apply trivial));all_goals clear fct)
    clear hSu hRv hFa hFi hSe hRu
    refine aU.use G aa (fun(q:Nat)=>[(3,.ptr 30 0 0),(10,aq K),(13,.ptr 130 0 0),(15,aq q)])
     (fun q=>[(30,mW ⟨⟨l,m⟩,st,⟨d1,d2,d3,d4⟩,⟨a,b,c,d⟩,ta,bu,cs⟩),(130,mW ⟨⟨ul,um⟩,ust,⟨ud1,ud2,ud3,ud4⟩,⟨ua,ub,uc,ud⟩,uta,ubu,ucs⟩)])
     (fun q=>q≤K) (fun q=>K-q) 0 (Nat.zero_le _) ?_ ?_
    ·(refine fK ?_;(with_reducible repeat' (first|exact trivial|(show _∧_;refine aK ?_ ?_)));(all_goals try rfl))
     all_goals first|rfl|(simp;done)
    intro q hq
    with_reducible refine wK ?_
    refine bq.mk (fun h9=>?_) (fun h9=>?_)<;>(try simp only[aF] at h9)<;>with_reducible refine wK ?_
    ·have hq':q<K:=by simp only[decide_eq_true_eq] at h9;omega
     obtain⟨⟨t1,t2,t3,t4⟩,ht⟩:∃z,st[q]? =some z:=⟨_,List.getElem?_eq_getElem (by omega)⟩
     obtain⟨⟨z1,z2,z3,z4⟩,hz,hz1,hz2⟩:=huo q _ ht
     simp only at hz1 hz2
     subst hz1
     subst hz2
     obtain⟨⟨x0,x1,x2,x3,x4,x5,x6,x7,x8,x9⟩,hnx⟩:∃z,l[q]? =some z:=⟨_,List.getElem?_eq_getElem (by omega)⟩
     have hnu:=hun q _ hnx
     have h1e:=hone _ (List.mem_of_getElem? hnx)
     clear h9
     repeat' (first
  |refine gK ?_|refine aE ?_ ?_
  | ((first
   |((with_reducible show ay _ _ _ _ _);first|refine ay.mk q (aX ⟨z1,z2,t3,t4⟩) rfl (aM ht) ?_|refine ay.mk q (aX ⟨z1,z2,z3,z4⟩) rfl (aM hz) ?_|refine ay.mk q (aS ⟨x0,x1,x2,x3,x4,x5,x6,x7,x8,x9⟩) rfl (aG hnx) ?_|refine ay.mk q (aS ⟨x0,x1,x2,x3,x4,x5,x6,x7,x8,x9⟩) rfl (aG hnu) ?_)
   |((with_reducible refine kQ 59 ?_);refine cL h1e RE ?_)
   |((with_reducible show bI _ _ _ _);refine dK ?_))<;>with_reducible refine wK ?_)
  | apply trivial)
     refine aL.mk (q+1) (by omega) (by omega) ?_
     (refine fK ?_;(with_reducible repeat' (first|exact trivial|(show _∧_;refine aK ?_ ?_)));(all_goals try rfl))
     all_goals first|rfl|(simp;done)
    ·clear h9
     repeat' (first
  |refine gK ?_|refine aE ?_ ?_
  |apply trivial)
     all_goals first|rfl
end Go.Proofs.Heir
namespace Go.Proofs.Heir
open Go Go.Am Go.RowKit Go.Lib
set_option maxRecDepth 100000
set_option maxHeartbeats 8000000
theorem sD:Reads Tryz.prog 9 1 cm (fun s=>s.size≤maxLen):=Reads.str Tryz.underlying9 (by kernel_rfl)
theorem iX:Reads Tryz.prog 3 1 bF (fun _=>True):=(Reads.int Tryz.underlying3 (by kernel_rfl)).conv id id (fun _=>rfl) (fun _=>rfl) (fun _ _=>trivial)
theorem uB:Reads Tryz.prog 4 1 (fun b:Bool=>.lit (.bool b)) (fun _=>True):=Reads.bool Tryz.underlying4 (by kernel_rfl)
theorem Qz:Reads Tryz.prog 95 3 fH (fun _=>True):=
 (Reads.struct (l:=[(0,9),(1,9),(2,3)]) Tryz.underlying95 (by kernel_rfl) rfl (.cons sD (.cons sD (.cons iX .nil)))).conv
  (fun(a,b,c,_)=>⟨a,b,c⟩) (fun t=>(t.name,t.locl,t.cls,())) (fun _=>rfl) (fun _=>rfl) (fun _ _=>trivial)
theorem OY:Reads Tryz.prog 162 2 rV (fun _=>True):=
 (Reads.struct (l:=[(0,9),(1,3)]) Tryz.underlying162 (by kernel_rfl) rfl (.cons sD (.cons iX .nil))).conv
  (fun(a,b,_)=>⟨a,b⟩) (fun t=>(t.name,t.ticket,())) (fun _=>rfl) (fun _=>rfl) (fun _ _=>trivial)
theorem NZ:Reads Tryz.prog 26 1 nY (fun _=>True):=(Reads.slice Tryz.underlying26 (by kernel_rfl) Qz (by omega)).conv id id (fun _=>rfl) (fun _=>rfl) (fun _ _=>trivial)
theorem Lb:Reads Tryz.prog 27 1 oK (fun _=>True):=(Reads.slice Tryz.underlying27 (by kernel_rfl) OY (by omega)).conv id id (fun _=>rfl) (fun _=>rfl) (fun _ _=>trivial)
theorem O0:Reads Tryz.prog 29 4 gi (fun _=>True):=
 (Reads.struct (l:=[(0,26),(1,27),(2,3),(3,4)]) Tryz.underlying29 (by kernel_rfl) rfl (.cons NZ (.cons Lb (.cons iX (.cons uB .nil))))).conv
  (fun(a,b,c,e,_)=>⟨a,b,c,e⟩) (fun t=>(t.defs,t.waits,t.next,t.busy,())) (fun _=>rfl) (fun _=>rfl) (fun _ _=>trivial)
theorem PA:Reads Tryz.prog 179 2 eN (fun _=>True):=
 (Reads.struct (l:=[(0,9),(1,9)]) Tryz.underlying179 (by kernel_rfl) rfl (.cons sD (.cons sD .nil))).conv
  (fun(a,b,_)=>⟨a,b⟩) (fun t=>(t.name,t.value,())) (fun _=>rfl) (fun _=>rfl) (fun _ _=>trivial)
theorem KR:Reads Tryz.prog 78 1 eU (fun _=>True):=(Reads.slice Tryz.underlying78 (by kernel_rfl) PA (by omega)).conv id id (fun _=>rfl) (fun _=>rfl) (fun _ _=>trivial)
theorem Dp:Reads Tryz.prog 32 1 bY (fun _=>True):=(Reads.slice Tryz.underlying32 (by kernel_rfl) iX (by omega)).conv id id (fun _=>rfl) (fun _=>rfl) (fun _ _=>trivial)
theorem OR:Reads Tryz.prog 80 10 bZ (fun _=>True):=
 (Reads.struct (l:=[(0,3),(1,9),(2,9),(3,9),(4,78),(5,3),(6,32),(7,3),(8,3),(9,3)]) Tryz.underlying80 (by kernel_rfl) rfl
  (.cons iX (.cons sD (.cons sD (.cons sD (.cons KR (.cons iX (.cons Dp (.cons iX (.cons iX (.cons iX .nil))))))))))).conv
  (fun(a,b,c,d,e,f,g,h,i,j,_)=>⟨a,b,c,d,e,f,g,h,i,j⟩)
  (fun t=>(t.kind,t.name,t.is,t.data,t.attrs,t.parent,t.kids,t.host,t.under,t.doc,())) (fun _=>rfl) (fun _=>rfl) (fun _ _=>trivial)
theorem Ms:Reads Tryz.prog 22 1 fk (fun _=>True):=(Reads.slice Tryz.underlying22 (by kernel_rfl) OR (by omega)).conv id id (fun _=>rfl) (fun _=>rfl) (fun _ _=>trivial)
theorem QB:Reads Tryz.prog 24 2 cJ (fun _=>True):=
 (Reads.struct (l:=[(0,22),(1,3)]) Tryz.underlying24 (by kernel_rfl) rfl (.cons Ms (.cons iX .nil))).conv
  (fun(a,b,_)=>⟨a,b⟩) (fun t=>(t.nodes,t.most,())) (fun _=>rfl) (fun _=>rfl) (fun _ _=>trivial)
theorem laid:Go.laidOutB Tryz.prog=true:=by kernel_rfl
abbrev eL:List (String×DataW Unit):=[("unicode.White_Space",Go.Proofs.YtciccajdpmahiaaGreatDoor.Rows.laid_unicode_White_Space),("strings.asciiSpace",Go.Proofs.YtciccajdpmahiaaGreatDoor.Rows.laid_strings_asciiSpace)]
theorem N9:(Go.Proofs.YtciccajdpmahiaaGreatDoor.Rows.laid_strings_asciiSpace:DataW Unit)=Lib.tabData .u8 Lib.asciiSpaceTab:=by kernel_rfl
theorem tq (os:Os)(args:Array Value):laidMetH Tryz.prog eL ((World.doorLaid Tryz.prog 33 os).forCall (fun _ _=>0) ⟨#[],args,[]⟩).memory:=
 laidMetH_of_parts3 (fuel:=8) (laidMet_of_run' 8 (by kernel_rfl) (by kernel_rfl)) (by kernel_rfl) (by kernel_rfl)
theorem Sy:Tryz.prog.globalNamed "strings.asciiSpace" =some 1:=by kernel_rfl
theorem QU:(Tryz.prog.globals[1]?).map (·.type)=some 307:=by kernel_rfl
theorem j2 {W:World}(h:laidMetH Tryz.prog eL W):k7 Tryz.prog W fun _=>none:=by
 rw[MakeChecks.laidMetH_plain _ _ _ (by kernel_rfl)] at h
 obtain⟨ps,⟨g0,t0,cs0,f0,p0,q0,hg0,ht0,hv0,hd0,⟨g1,t1,cs1,f1,p1,q1,hg1,ht1,hv1,hd1,_,_⟩,_⟩,_⟩:=h
 intro g hg
 obtain rfl:=Option.some.inj (hg.symm.trans hg1)
 have e:g=1:=Option.some.inj (hg.symm.trans Sy)
 have ht:(Tryz.prog.globals[g]?).map (·.type)=some 307:=by rw[e];exact QU
 obtain rfl:=Option.some.inj (ht.symm.trans ht1)
 rw[N9] at hd1
 have hc:=Lib.cells_of_tab Tryz.underlying307 Tryz.underlying5 (by kernel_rfl) (by kernel_rfl) hd1
 have htab:Lib.TabIs Tryz.prog W "strings.asciiSpace" .u8 Lib.asciiSpaceTab:=by
  unfold Lib.TabIs
  rw[hv1,←hc]
 have hcell:∀c:Nat,c<256→W.cell? ⟨g,c,none⟩=some (.int .u8 (if Lib.isSp (UInt8.ofNat c) then 1 else 0)):=fun c hc=>by
  rw[htab.cell hg c (by rw[Lib.asciiSpaceTab_length];exact hc),Lib.asciiSpaceTab_at c hc]
 refine⟨(by rintro⟨_,_,h,_⟩;cases h),World.block_lt_of_cell? _ _ (hcell 0 (by omega)),hcell⟩
theorem Sr:Reads Tryz.prog 274 7 HQ (fun _=>True):=
 (Reads.struct (l:=[(0,3),(1,3),(2,3),(3,3),(4,9),(5,9),(6,4)]) Tryz.underlying274 (by kernel_rfl) rfl (.cons iX (.cons iX (.cons iX (.cons iX (.cons sD (.cons sD (.cons uB .nil)))))))).conv
  (fun(a,b,c,d,e,f,g,_)=>⟨a,b,c,d,e,f,g⟩) (fun t=>(t.kind,t.a,t.b,t.c,t.s,t.t,t.must,())) (fun _=>rfl) (fun _=>rfl) (fun _ _=>trivial)
theorem IJ:Reads Tryz.prog 50 1 yj (fun _=>True):=(Reads.slice Tryz.underlying50 (by kernel_rfl) Sr (by omega)).conv id id (fun _=>rfl) (fun _=>rfl) (fun _ _=>trivial)
theorem P0:Reads Tryz.prog 138 2 jU (fun _=>True):=
 (Reads.struct (l:=[(0,3),(1,50)]) Tryz.underlying138 (by kernel_rfl) rfl (.cons iX (.cons IJ .nil))).conv
  (fun(a,b,_)=>⟨a,b⟩) (fun t=>(t.kind,t.prog,())) (fun _=>rfl) (fun _=>rfl) (fun _ _=>trivial)
theorem LO:Reads Tryz.prog 51 1 mL (fun _=>True):=(Reads.slice Tryz.underlying51 (by kernel_rfl) P0 (by omega)).conv id id (fun _=>rfl) (fun _=>rfl) (fun _ _=>trivial)
theorem OP:Reads Tryz.prog 9 1 kU (fun s=>s.size≤maxLen):=sD.conv id id (fun _=>rfl) (fun _=>rfl) (fun _ h=>h)
theorem Ns:Reads Tryz.prog 49 1 qu (fun _=>True):=(Reads.slice Tryz.underlying49 (by kernel_rfl) OP (by omega)).conv id id (fun _=>rfl) (fun _=>rfl) (fun _ _=>trivial)
theorem N5:Reads Tryz.prog 53 5 dM (fun _=>True):=
 (Reads.struct (l:=[(0,4),(1,49),(2,50),(3,50),(4,51)]) Tryz.underlying53 (by kernel_rfl) rfl (.cons uB (.cons Ns (.cons IJ (.cons IJ (.cons LO .nil)))))).conv
  (fun(a,b,c,d,e,_)=>⟨a,b,c,d,e⟩) (fun t=>(t.form,t.watch,t.peek,t.make,t.hooks,())) (fun _=>rfl) (fun _=>rfl) (fun _ _=>trivial)
theorem Jz:Reads Tryz.prog 37 1 bJ (fun _=>True):=(Reads.slice Tryz.underlying37 (by kernel_rfl) N5 (by omega)).conv id id (fun _=>rfl) (fun _=>rfl) (fun _ _=>trivial)
theorem NG:Reads Tryz.prog 75 4 bG (fun _=>True):=
 (Reads.struct (l:=[(0,3),(1,3),(2,3),(3,4)]) Tryz.underlying75 (by kernel_rfl) rfl (.cons iX (.cons iX (.cons iX (.cons uB .nil))))).conv
  (fun(a,b,c,d,_)=>⟨a,b,c,d⟩) (fun t=>(t.phase,t.df,t.owner,t.barred,())) (fun _=>rfl) (fun _=>rfl) (fun _ _=>trivial)
theorem KJ:Reads Tryz.prog 25 1 fc (fun _=>True):=(Reads.slice Tryz.underlying25 (by kernel_rfl) NG (by omega)).conv id id (fun _=>rfl) (fun _=>rfl) (fun _ _=>trivial)
theorem Nj:Reads Tryz.prog 59 10 eM (fun _=>True):=
 (Reads.struct (l:=[(0,3),(1,3),(2,9),(3,4),(4,4),(5,9),(6,9),(7,3),(8,3),(9,4)]) Tryz.underlying59 (by kernel_rfl) rfl
  (.cons iX (.cons iX (.cons sD (.cons uB (.cons uB (.cons sD (.cons sD (.cons iX (.cons iX (.cons uB .nil))))))))))).conv
  (fun(a,b,c,d,e,f,g,h,i,j,_)=>⟨a,b,c,d,e,f,g,h,i,j⟩)
  (fun t=>(t.kind,t.df,t.name,t.had,t.has,t.old,t.new,t.src,t.dst,t.on,())) (fun _=>rfl) (fun _=>rfl) (fun _ _=>trivial)
theorem L6:Reads Tryz.prog 77 1 cI (fun _=>True):=(Reads.slice Tryz.underlying77 (by kernel_rfl) Nj (by omega)).conv id id (fun _=>rfl) (fun _=>rfl) (fun _ _=>trivial)
theorem Ku:Reads Tryz.prog 30 1 iP (fun _=>True):=(Reads.slice Tryz.underlying30 (by kernel_rfl) L6 (by omega)).conv id id (fun _=>rfl) (fun _=>rfl) (fun _ _=>trivial)
theorem NQ:Reads Tryz.prog 32 1 gg (fun _=>True):=Dp.conv id id (fun _=>rfl) (fun _=>rfl) (fun _ h=>h)
theorem LH:Reads Tryz.prog 31 1 nC (fun _=>True):=(Reads.slice Tryz.underlying31 (by kernel_rfl) NQ (by omega)).conv id id (fun _=>rfl) (fun _=>rfl) (fun _ _=>trivial)
theorem PX:Reads Tryz.prog 34 4 gU (fun _=>True):=
 (Reads.struct (l:=[(0,30),(1,31),(2,32),(3,4)]) Tryz.underlying34 (by kernel_rfl) rfl (.cons Ku (.cons LH (.cons Dp (.cons uB .nil))))).conv
  (fun(a,b,c,d,_)=>⟨a,b,c,d⟩) (fun t=>(t.todos,t.stack,t.back,t.busy,())) (fun _=>rfl) (fun _=>rfl) (fun _ _=>trivial)
theorem PM:Reads Tryz.prog 73 3 gx (fun _=>True):=
 (Reads.struct (l:=[(0,3),(1,3),(2,3)]) Tryz.underlying73 (by kernel_rfl) rfl (.cons iX (.cons iX (.cons iX .nil)))).conv
  (fun(a,b,c,_)=>⟨a,b,c⟩) (fun t=>(t.kind,t.ticket,t.df,())) (fun _=>rfl) (fun _=>rfl) (fun _ _=>trivial)
theorem L7:Reads Tryz.prog 35 1 oL (fun _=>True):=(Reads.slice Tryz.underlying35 (by kernel_rfl) PM (by omega)).conv id id (fun _=>rfl) (fun _=>rfl) (fun _ _=>trivial)
theorem Oj:Reads Tryz.prog 92 2 bM (fun _=>True):=
 (Reads.struct (l:=[(0,3),(1,3)]) Tryz.underlying92 (by kernel_rfl) rfl (.cons iX (.cons iX .nil))).conv
  (fun(a,b,_)=>⟨a,b⟩) (fun t=>(t.df,t.node,())) (fun _=>rfl) (fun _=>rfl) (fun _ _=>trivial)
theorem H6:Reads Tryz.prog 36 1 gL (fun _=>True):=(Reads.slice Tryz.underlying36 (by kernel_rfl) Oj (by omega)).conv id id (fun _=>rfl) (fun _=>rfl) (fun _ _=>trivial)
theorem QS:Reads Tryz.prog 61 11 gV (fun _=>True):=
 (Reads.struct (l:=[(0,3),(1,59)]) Tryz.underlying61 (by kernel_rfl) rfl (.cons iX (.cons Nj .nil))).conv
  (fun(a,b,_)=>⟨a,b⟩) (fun t=>(t.node,t.todo,())) (fun _=>rfl) (fun _=>rfl) (fun _ _=>trivial)
theorem NB:Reads Tryz.prog 41 1 jM (fun _=>True):=(Reads.slice Tryz.underlying41 (by kernel_rfl) QS (by omega)).conv id id (fun _=>rfl) (fun _=>rfl) (fun _ _=>trivial)
theorem AT:Reads Tryz.prog 39 14 aT (fun _=>True):=
 (Reads.struct (l:=[(0,24),(2,25),(3,29),(7,34),(11,35),(12,36),(13,37)]) Tryz.underlying39 (by kernel_rfl) rfl
  (.cons QB (.cons KJ (.cons O0 (.cons PX (.cons L7 (.cons H6 (.cons Jz .nil)))))))).conv
  (fun(a,b,c,d,e,f,g,_)=>⟨a,b,c,d,e,f,g⟩) (fun t=>(t.f,t.states,t.desk,t.line,t.tasks,t.builds,t.classes,())) (fun _=>rfl) (fun _=>rfl) (fun _ _=>trivial)
end Go.Proofs.Heir
