/- Models, plain laws and contracts of functions of the given program; conditions as stated in each theorem. By an AI agent. -/
import Derived.Test.YtkhjcnjicjgfiaaGreatDoorW6
import Derived.Test.YtkhjcnjicjgfiaaGreatDoorW7
import Derived.Test.YtkhjcnjicjgfiaaGreatDoorW8
import Derived.Shelf.RegionOpenPlain
import Derived.WalkKit
import Derived.IntWalk
import Derived.RangeFuncSeq
import Derived.Deep.RegionLaw
import Derived.Lib.SliceRun
import Derived.Laws.Tables
import Derived.Laws.CopyRow
import Derived.Sort.WalkB12
set_option linter.unusedSimpArgs false
set_option linter.unusedVariables false
namespace Go.Proofs.Heir
open Go Go.Am Go.RowKit Go.Lib
set_option maxRecDepth 100000
set_option maxHeartbeats 8000000
section
variable {l : List ai} {a b ta tb : Nat} {y : ai}
theorem C9:aT l l.length ta l.length tb=l.map bM:=by
  apply List.ext_getElem?
  intro i
  unfold aT
  rw[List.getElem?_mapIdx,fI]
  cases h:l[i]? with
  |none=>rfl
  | some y=>
    have:=(bj h).1
    show some (ef l.length ta l.length tb i y)=some (bM y)
    unfold ef
    rw[if_neg (by omega),if_neg (by omega)]
theorem gU {a' b':Nat}{x:AV}{k:Nat}(h:∀i z,l[i]? =some z→ef a ta b tb i z=if i=k then x else ef a' ta b' tb i z):(aT l a' ta b' tb).set (0+k) x=aT l a ta b tb:=by
  apply List.ext_getElem?
  intro j
  unfold aT
  rw[Nat.zero_add,List.getElem?_set,List.getElem?_mapIdx,List.getElem?_mapIdx,List.length_mapIdx]
  cases e:l[j]? with
  | none=>
    have:¬k<l.length∨k≠j:=by
      by_cases c:k=j
      ·subst c;left;rw[List.getElem?_eq_none_iff] at e;omega
      ·exact .inr c
    rcases this with c|c
    · by_cases d:k=j
      ·rw[if_pos d,if_neg c];rfl
      ·rw[if_neg d];rfl
    ·rw[if_neg c];rfl
  | some z=>
    have:=(bj e).1
    show _=some (ef a ta b tb j z)
    rw[h j z e]
    by_cases d:k=j
    ·subst d;rw[if_pos rfl,if_pos this,if_pos rfl]
    ·rw[if_neg d,if_neg (fun q=>d q.symm)];rfl
theorem bB {m:ML}{fz:Nat→Bool}{tab:List (Nat×Nat)}{ta' tb' k:Nat}(h1:a<l.length→o8 tab ta'=some ta)(h2:b<l.length→o8 tab tb'=some tb):dD (MF tab fz m (k+2)) (aT l a ta' b tb') (aT l a ta b tb):=
  ⟨by rw[bU,bU],fun i x z hx hz=>by
    obtain⟨y,hy,rfl⟩:=lE hx
    obtain⟨y2,hy2,rfl⟩:=lE hz
    rw[hy] at hy2;cases hy2
    have hi:=(bj hy).1
    have key:∀u u':Nat,o8 tab u'=some u→MF tab fz m (k+2) (dV y u') (dV y u):=fun u u' h=>by
      have hw:MF tab fz m (k+1) (.own u' 0 y.kids.length) (.own u 0 y.kids.length):=by simp[MF,h]
      exact⟨rfl,rfl,rfl,rfl,jy _ _ rfl,rfl,hw,rfl,rfl,rfl,trivial⟩
    unfold ef
    by_cases e:i=a
    ·rw[if_pos e,if_pos e];exact key _ _ (h1 (e▸hi))
    · rw[if_neg e,if_neg e]
      by_cases c:i=b
      ·rw[if_pos c,if_pos c];exact key _ _ (h2 (c▸hi))
      ·rw[if_neg c,if_neg c];exact jy _ _ (nN y)⟩
end
@[reducible] def aF (l : List Int) : MS := .live 1 (l.map bt) false
theorem nH (l:List Int):jX [aF l]:=⟨bJ.jk fun x hx=>by
  obtain⟨a,_,rfl⟩:=List.mem_map.1 hx;rfl,aa l,trivial⟩
theorem Dq (l:List Int)(hl:l.length≤100000):aj Tryz.prog 72 [] [cq l] [aF l] (.own 0 0 l.length):=by
  have hlm:(l.map bt).length=l.length:=bN ..
  refine aj.aD (rvs:=[.tmp 2]) G au Tryz.func72 rfl Tryz.ntmps72 rfl rfl ?_;with_reducible refine wD ?_
  refine kZ.mk (fun h=>?_) (fun _=>?_)<;>with_reducible refine wK ?_
  · obtain rfl:l=[]:=by simpa using h
    (refine eK ?_ ?_<;>with_reducible repeat' (first|exact trivial|(show _∧_;refine aK ?_ ?_)))
    all_goals first|rfl|trivial
  · refine dZ.mk [] (l.map bt) ⟨rfl,rfl,rfl⟩ ⟨rfl,rfl,rfl⟩ (nD bt (fun _=>rfl) l) (by simp;omega) (by simp;omega) ?_;with_reducible refine wK ?_
    (refine eK ?_ ?_<;>with_reducible repeat' (first|exact trivial|(show _∧_;refine aK ?_ ?_)))
    ·exact hlm.symm
    ·exact bS (aa l)
@[reducible] def NB (m : Int) (l : List ai) (a b : Nat) (ka kb : List Int) : Bool → Bool → ML
  |false,false=>[(120,aP m l.length 74 (.own 93 0 0)),(93,.live 9 [] false),(74,aU l l.length 81 l.length 91)]
  |true,false=>[(120,aP m l.length 74 (.own 93 0 0)),(93,.live 9 [] false),(81,aF ka),(74,aU l a 81 l.length 91)]
  |false,true=>[(120,aP m l.length 74 (.own 93 0 0)),(93,.live 9 [] false),(91,aF kb),(74,aU l l.length 81 b 91)]
  |true,true=>[(120,aP m l.length 74 (.own 93 0 0)),(93,.live 9 [] false),(81,aF ka),(91,aF kb),(74,aU l a 81 b 91)]
theorem LD (f:ForM)(hs:bC f.nodes){a b:Nat}{ya yb:ai}(hab:a≠b)(ha:f.nodes[a]? =some ya)(hb:f.nodes[b]? =some yb):
    aj Tryz.prog 121 [] [aR f] [aP f.most f.nodes.length 4 (.own 3 0 0),aF ya.kids,aF yb.kids,.live 9 [] false,aU f.nodes a 1 b 2] (.ptr 0 0 0):=by
  have h137:=As f.nodes (by have:=hs.len;omega)
  have h60:=hs.len
  have hv:∀ (k:Nat) (y:ai),f.nodes[k]? =some y→aj Tryz.prog 72 [] [cq y.kids] [] (cq y.kids):=fun k y hy=>Ia y.kids (by have:=hs.kids y (bV hy);omega)
  have ho:∀ (k:Nat) (y:ai),f.nodes[k]? =some y→aj Tryz.prog 72 [] [cq y.kids] [aF y.kids] (.own 0 0 y.kids.length):=fun k y hy=>Dq y.kids (by have:=hs.kids y (bV hy);omega)
  have hlm:(f.nodes.map bM).length=f.nodes.length:=bN ..
  obtain⟨l,m⟩:=f
  simp only at h137 h60 hv ho hlm ha hb
  have hal:=(bj ha).1
  have hbl:=(bj hb).1
  refine aj.eR [(1,81),(2,91),(3,93)] (rvs:=[.tmp 2]) G au Tryz.func121 rfl Tryz.ntmps121 rfl rfl ?_;with_reducible refine wD ?_
  repeat' (first
    |refine gK ?_
    | ((first
      |((with_reducible show ae _ _ 137 _ _ _ _);refine ae.new 71 [] h137 Km ⟨rfl,trivial⟩ rfl rfl rfl (vJ l) rfl ?_)
      |((with_reducible show aI _ _ _ _);refine dK ?_))<;>with_reducible refine wK ?_)
    |((with_reducible show(_∧_)∧_∧_);(refine eK ?_ ?_<;>with_reducible repeat' (first|exact trivial|(show _∧_;refine aK ?_ ?_)))))
  refine bW.j4 3 120 93 9 0 2 (.agg [.own 71 0 l.length,ah m,.lit (.slice none 0 0)]) (.agg [.own 71 0 l.length,ah m,.own 93 0 0]) rfl rfl rfl rfl rfl rfl ?_
  show bW _ _ _ _ [(10,_),(71,cJ l),(120,aP m l.length 71 (.own 93 0 0)),(93,.live 9 [] false)]
  refine bW.use G au (fun(s:Nat×Bool×Bool)=>[(3,.ptr 120 0 0),(18,ah l.length),(19,ah s.1)])
    (fun s=>NB m l a b ya.kids yb.kids s.2.1 s.2.2)
    (fun s=>s.1≤l.length∧s.2.1=decide (a<s.1)∧s.2.2=decide (b<s.1)) (fun s=>l.length-s.1) (0,false,false) ⟨Nat.zero_le _,by simp,by simp⟩ ?_ ?_
  · (refine fK ?_;(with_reducible repeat' (first|exact trivial|(show _∧_;refine aK ?_ ?_)));(all_goals try rfl))
    all_goals first
      |(refine cast (congrArg (fun x=>dD _ x _) (C9 (l:=l) (ta:=81) (tb:=91)).symm) ?_;exact .refl (aM _))
      |exact .inl rfl
      |exact⟨.refl rfl,rfl⟩
      |trace_state
  rintro⟨k,da,db⟩ ⟨hk,hda,hdb⟩
  dsimp only at hk hda hdb
  cases da<;>cases db
  · have ha' : k≤a:=by simpa using hda
    have hb':k≤b:=by simpa using hdb
    with_reducible show vL _ _ _ _ _ _ [(120,aP m l.length 74 (.own 93 0 0)),(93,.live 9 [] false),(74,aU l l.length 81 l.length 91)] _
    with_reducible refine wK ?_
    refine bq.mk (fun h1=>?_) (fun h1=>?_)<;>(try simp only[az] at h1)<;>with_reducible refine wK ?_
    · have hkl:k<l.length:=by simp only[bE,az] at h1;omega
      by_cases ea:k=a
      · subst ea
        have hc:=ho k ya ha
        have hr:(aT l l.length 81 l.length 91).set (0+k) (dV ya 81)=aT l k 81 l.length 91:=gU fun i z hz=>by
          have:=(bj hz).1
          by_cases e:i=k
          ·subst e;rw[ha] at hz;cases hz;unfold ef;simp<;>omega
          · unfold ef;rw[if_neg e];repeat' split
            all_goals first|rfl|omega
        have hg:(aT l l.length 81 l.length 91)[k]? =some (aL ya):=by rw[cT ha,dF (by omega) (by omega)]
        obtain⟨y1,y2,y3,y4,y5,y6,y7,y8,y9,y10⟩:=ya
        simp only at hc
        repeat' (first
    |refine gK ?_
    | ((first
      |((with_reducible show eY _ _ _ _ _);refine eY.mk k rfl (by first|exact hkl|(rw[bU];exact hkl)) ?_)
      |((with_reducible show bh _ _ _ _ _);first|refine bh.mk (aL ⟨y1,y2,y3,y4,y5,y6,y7,y8,y9,y10⟩) (by first|exact hg|(rw[Nat.zero_add];exact hg)) ?_|refine bh.mk _ rfl ?_)
      |((with_reducible show ae _ _ 72 _ _ _ _);refine ae.new 81 [] hc F2 ⟨rfl,trivial⟩ rfl rfl rfl (nH _) rfl ?_)
      |((with_reducible show aI _ _ _ _);refine dK ?_))<;>with_reducible refine wK ?_)
    | ((with_reducible show(_∧_)∧_∧_);(refine eK ?_ ?_<;>with_reducible repeat' (first|exact trivial|(show _∧_;refine aK ?_ ?_)))))
        refine bZ.mk (k+1,true,false) ⟨by dsimp only;omega,by dsimp only;first|(simp;done)|(simp;omega),by dsimp only;first|(simp;done)|(simp;omega)⟩ (by dsimp only;omega) ?_
        (refine fK ?_;(with_reducible repeat' (first|exact trivial|(show _∧_;refine aK ?_ ?_)));(all_goals try rfl))
        all_goals first
          |(refine cast (congrArg (dD _ _) hr.symm) ?_;exact bB (fun h=>by first|(exfalso;omega)|rfl) (fun h=>by first|(exfalso;omega)|rfl))
          |exact .inl rfl
          |exact⟨.refl rfl,rfl⟩
          |exact⟨.refl (aa _),aa _⟩
          |(simp;done)
          |trace_state
      · skip
        by_cases eb:k=b
        · subst eb
          have hc:=ho k yb hb
          have hr:(aT l l.length 81 l.length 91).set (0+k) (dV yb 91)=aT l l.length 81 k 91:=gU fun i z hz=>by
            have:=(bj hz).1
            by_cases e:i=k
            ·subst e;rw[hb] at hz;cases hz;unfold ef;simp<;>omega
            · unfold ef;rw[if_neg e];repeat' split
              all_goals first|rfl|omega
          have hg:(aT l l.length 81 l.length 91)[k]? =some (aL yb):=by rw[cT hb,dF (by omega) (by omega)]
          obtain⟨y1,y2,y3,y4,y5,y6,y7,y8,y9,y10⟩:=yb
          simp only at hc
          repeat' (first
    |refine gK ?_
    | ((first
      |((with_reducible show eY _ _ _ _ _);refine eY.mk k rfl (by first|exact hkl|(rw[bU];exact hkl)) ?_)
      |((with_reducible show bh _ _ _ _ _);first|refine bh.mk (aL ⟨y1,y2,y3,y4,y5,y6,y7,y8,y9,y10⟩) (by first|exact hg|(rw[Nat.zero_add];exact hg)) ?_|refine bh.mk _ rfl ?_)
      |((with_reducible show ae _ _ 72 _ _ _ _);refine ae.new 91 [] hc F2 ⟨rfl,trivial⟩ rfl rfl rfl (nH _) rfl ?_)
      |((with_reducible show aI _ _ _ _);refine dK ?_))<;>with_reducible refine wK ?_)
    | ((with_reducible show(_∧_)∧_∧_);(refine eK ?_ ?_<;>with_reducible repeat' (first|exact trivial|(show _∧_;refine aK ?_ ?_)))))
          refine bZ.mk (k+1,false,true) ⟨by dsimp only;omega,by dsimp only;first|(simp;done)|(simp;omega),by dsimp only;first|(simp;done)|(simp;omega)⟩ (by dsimp only;omega) ?_
          (refine fK ?_;(with_reducible repeat' (first|exact trivial|(show _∧_;refine aK ?_ ?_)));(all_goals try rfl))
          all_goals first
            |(refine cast (congrArg (dD _ _) hr.symm) ?_;exact bB (fun h=>by first|(exfalso;omega)|rfl) (fun h=>by first|(exfalso;omega)|rfl))
            |exact .inl rfl
            |exact⟨.refl rfl,rfl⟩
            |exact⟨.refl (aa _),aa _⟩
            |(simp;done)
            |trace_state
        · skip
          obtain⟨y,hy⟩:∃y,l[k]? =some y:=⟨_,bA hkl⟩
          have hc:=hv k y hy
          have hr:(aT l l.length 81 l.length 91).set (0+k) (bM y)=aT l l.length 81 l.length 91:=gU fun i z hz=>by
            have:=(bj hz).1
            by_cases e:i=k
            ·subst e;rw[hy] at hz;cases hz;rw[if_pos rfl,dF (by omega) (by omega)];rfl
            ·rw[if_neg e]
          have hg:(aT l l.length 81 l.length 91)[k]? =some (aL y):=by rw[cT hy,dF (by omega) (by omega)]
          obtain⟨y1,y2,y3,y4,y5,y6,y7,y8,y9,y10⟩:=y
          simp only at hc
          repeat' (first
    |refine gK ?_
    | ((first
      |((with_reducible show eY _ _ _ _ _);refine eY.mk k rfl (by first|exact hkl|(rw[bU];exact hkl)) ?_)
      |((with_reducible show bh _ _ _ _ _);first|refine bh.mk (aL ⟨y1,y2,y3,y4,y5,y6,y7,y8,y9,y10⟩) (by first|exact hg|(rw[Nat.zero_add];exact hg)) ?_|refine bh.mk _ rfl ?_)
      |((with_reducible show ae _ _ 72 _ _ _ _);refine ae.val [] hc F2 ⟨rfl,trivial⟩ rfl rfl rfl ?_)
      |((with_reducible show aI _ _ _ _);refine dK ?_))<;>with_reducible refine wK ?_)
    |((with_reducible show(_∧_)∧_∧_);(refine eK ?_ ?_<;>with_reducible repeat' (first|exact trivial|(show _∧_;refine aK ?_ ?_)))))
          refine bZ.mk (k+1,false,false) ⟨by dsimp only;omega,by dsimp only;first|(simp;done)|(simp;omega),by dsimp only;first|(simp;done)|(simp;omega)⟩ (by dsimp only;omega) ?_
          (refine fK ?_;(with_reducible repeat' (first|exact trivial|(show _∧_;refine aK ?_ ?_)));(all_goals try rfl))
          all_goals first
            |(refine cast (congrArg (dD _ _) hr.symm) ?_;exact bB (fun h=>by first|(exfalso;omega)|rfl) (fun h=>by first|(exfalso;omega)|rfl))
            |exact .inl rfl
            |exact⟨.refl rfl,rfl⟩
            |exact⟨.refl (aa _),aa _⟩
            |(simp;done)
            |trace_state
    · have hjl:k=l.length:=by simp only[c9,az] at h1;omega
      exfalso;omega
  · have ha' :k≤a:=by simpa using hda
    have hb':b<k:=by simpa using hdb
    with_reducible show vL _ _ _ _ _ _ [(120,aP m l.length 74 (.own 93 0 0)),(93,.live 9 [] false),(91,aF yb.kids),(74,aU l l.length 81 b 91)] _
    with_reducible refine wK ?_
    refine bq.mk (fun h1=>?_) (fun h1=>?_)<;>(try simp only[az] at h1)<;>with_reducible refine wK ?_
    · have hkl:k<l.length:=by simp only[bE,az] at h1;omega
      by_cases ea:k=a
      · subst ea
        have hc:=ho k ya ha
        have hr:(aT l l.length 81 b 91).set (0+k) (dV ya 81)=aT l k 81 b 91:=gU fun i z hz=>by
          have:=(bj hz).1
          by_cases e:i=k
          ·subst e;rw[ha] at hz;cases hz;unfold ef;simp<;>omega
          · unfold ef;rw[if_neg e];repeat' split
            all_goals first|rfl|omega
        have hg:(aT l l.length 81 b 91)[k]? =some (aL ya):=by rw[cT ha,dF (by omega) (by omega)]
        obtain⟨y1,y2,y3,y4,y5,y6,y7,y8,y9,y10⟩:=ya
        simp only at hc
        repeat' (first
    |refine gK ?_
    | ((first
      |((with_reducible show eY _ _ _ _ _);refine eY.mk k rfl (by first|exact hkl|(rw[bU];exact hkl)) ?_)
      |((with_reducible show bh _ _ _ _ _);first|refine bh.mk (aL ⟨y1,y2,y3,y4,y5,y6,y7,y8,y9,y10⟩) (by first|exact hg|(rw[Nat.zero_add];exact hg)) ?_|refine bh.mk _ rfl ?_)
      |((with_reducible show ae _ _ 72 _ _ _ _);refine ae.new 81 [] hc F2 ⟨rfl,trivial⟩ rfl rfl rfl (nH _) rfl ?_)
      |((with_reducible show aI _ _ _ _);refine dK ?_))<;>with_reducible refine wK ?_)
    | ((with_reducible show(_∧_)∧_∧_);(refine eK ?_ ?_<;>with_reducible repeat' (first|exact trivial|(show _∧_;refine aK ?_ ?_)))))
        refine bZ.mk (k+1,true,true) ⟨by dsimp only;omega,by dsimp only;first|(simp;done)|(simp;omega),by dsimp only;first|(simp;done)|(simp;omega)⟩ (by dsimp only;omega) ?_
        (refine fK ?_;(with_reducible repeat' (first|exact trivial|(show _∧_;refine aK ?_ ?_)));(all_goals try rfl))
        all_goals first
          |(refine cast (congrArg (dD _ _) hr.symm) ?_;exact bB (fun h=>by first|(exfalso;omega)|rfl) (fun h=>by first|(exfalso;omega)|rfl))
          |exact .inl rfl
          |exact⟨.refl rfl,rfl⟩
          |exact⟨.refl (aa _),aa _⟩
          |(simp;done)
          |trace_state
      · skip
        obtain⟨y,hy⟩:∃y,l[k]? =some y:=⟨_,bA hkl⟩
        have hc:=hv k y hy
        have hr:(aT l l.length 81 b 91).set (0+k) (bM y)=aT l l.length 81 b 91:=gU fun i z hz=>by
          have:=(bj hz).1
          by_cases e:i=k
          ·subst e;rw[hy] at hz;cases hz;rw[if_pos rfl,dF (by omega) (by omega)];rfl
          ·rw[if_neg e]
        have hg:(aT l l.length 81 b 91)[k]? =some (aL y):=by rw[cT hy,dF (by omega) (by omega)]
        obtain⟨y1,y2,y3,y4,y5,y6,y7,y8,y9,y10⟩:=y
        simp only at hc
        repeat' (first
    |refine gK ?_
    | ((first
      |((with_reducible show eY _ _ _ _ _);refine eY.mk k rfl (by first|exact hkl|(rw[bU];exact hkl)) ?_)
      |((with_reducible show bh _ _ _ _ _);first|refine bh.mk (aL ⟨y1,y2,y3,y4,y5,y6,y7,y8,y9,y10⟩) (by first|exact hg|(rw[Nat.zero_add];exact hg)) ?_|refine bh.mk _ rfl ?_)
      |((with_reducible show ae _ _ 72 _ _ _ _);refine ae.val [] hc F2 ⟨rfl,trivial⟩ rfl rfl rfl ?_)
      |((with_reducible show aI _ _ _ _);refine dK ?_))<;>with_reducible refine wK ?_)
    | ((with_reducible show(_∧_)∧_∧_);(refine eK ?_ ?_<;>with_reducible repeat' (first|exact trivial|(show _∧_;refine aK ?_ ?_)))))
        refine bZ.mk (k+1,false,true) ⟨by dsimp only;omega,by dsimp only;first|(simp;done)|(simp;omega),by dsimp only;first|(simp;done)|(simp;omega)⟩ (by dsimp only;omega) ?_
        (refine fK ?_;(with_reducible repeat' (first|exact trivial|(show _∧_;refine aK ?_ ?_)));(all_goals try rfl))
        all_goals first
          |(refine cast (congrArg (dD _ _) hr.symm) ?_;exact bB (fun h=>by first|(exfalso;omega)|rfl) (fun h=>by first|(exfalso;omega)|rfl))
          |exact .inl rfl
          |exact⟨.refl rfl,rfl⟩
          |exact⟨.refl (aa _),aa _⟩
          |(simp;done)
          |trace_state
    · have hjl:k=l.length:=by simp only[c9,az] at h1;omega
      exfalso;omega
  · have ha' :a<k:=by simpa using hda
    have hb':k≤b:=by simpa using hdb
    with_reducible show vL _ _ _ _ _ _ [(120,aP m l.length 74 (.own 93 0 0)),(93,.live 9 [] false),(81,aF ya.kids),(74,aU l a 81 l.length 91)] _
    with_reducible refine wK ?_
    refine bq.mk (fun h1=>?_) (fun h1=>?_)<;>(try simp only[az] at h1)<;>with_reducible refine wK ?_
    · have hkl:k<l.length:=by simp only[bE,az] at h1;omega
      by_cases eb:k=b
      · subst eb
        have hc:=ho k yb hb
        have hr:(aT l a 81 l.length 91).set (0+k) (dV yb 91)=aT l a 81 k 91:=gU fun i z hz=>by
          have:=(bj hz).1
          by_cases e:i=k
          ·subst e;rw[hb] at hz;cases hz;unfold ef;simp<;>omega
          · unfold ef;rw[if_neg e];repeat' split
            all_goals first|rfl|omega
        have hg:(aT l a 81 l.length 91)[k]? =some (aL yb):=by rw[cT hb,dF (by omega) (by omega)]
        obtain⟨y1,y2,y3,y4,y5,y6,y7,y8,y9,y10⟩:=yb
        simp only at hc
        repeat' (first
    |refine gK ?_
    | ((first
      |((with_reducible show eY _ _ _ _ _);refine eY.mk k rfl (by first|exact hkl|(rw[bU];exact hkl)) ?_)
      |((with_reducible show bh _ _ _ _ _);first|refine bh.mk (aL ⟨y1,y2,y3,y4,y5,y6,y7,y8,y9,y10⟩) (by first|exact hg|(rw[Nat.zero_add];exact hg)) ?_|refine bh.mk _ rfl ?_)
      |((with_reducible show ae _ _ 72 _ _ _ _);refine ae.new 91 [] hc F2 ⟨rfl,trivial⟩ rfl rfl rfl (nH _) rfl ?_)
      |((with_reducible show aI _ _ _ _);refine dK ?_))<;>with_reducible refine wK ?_)
    | ((with_reducible show(_∧_)∧_∧_);(refine eK ?_ ?_<;>with_reducible repeat' (first|exact trivial|(show _∧_;refine aK ?_ ?_)))))
        refine bZ.mk (k+1,true,true) ⟨by dsimp only;omega,by dsimp only;first|(simp;done)|(simp;omega),by dsimp only;first|(simp;done)|(simp;omega)⟩ (by dsimp only;omega) ?_
        (refine fK ?_;(with_reducible repeat' (first|exact trivial|(show _∧_;refine aK ?_ ?_)));(all_goals try rfl))
        all_goals first
          |(refine cast (congrArg (dD _ _) hr.symm) ?_;exact bB (fun h=>by first|(exfalso;omega)|rfl) (fun h=>by first|(exfalso;omega)|rfl))
          |exact .inl rfl
          |exact⟨.refl rfl,rfl⟩
          |exact⟨.refl (aa _),aa _⟩
          |(simp;done)
          |trace_state
      · skip
        obtain⟨y,hy⟩:∃y,l[k]? =some y:=⟨_,bA hkl⟩
        have hc:=hv k y hy
        have hr:(aT l a 81 l.length 91).set (0+k) (bM y)=aT l a 81 l.length 91:=gU fun i z hz=>by
          have:=(bj hz).1
          by_cases e:i=k
          ·subst e;rw[hy] at hz;cases hz;rw[if_pos rfl,dF (by omega) (by omega)];rfl
          ·rw[if_neg e]
        have hg:(aT l a 81 l.length 91)[k]? =some (aL y):=by rw[cT hy,dF (by omega) (by omega)]
        obtain⟨y1,y2,y3,y4,y5,y6,y7,y8,y9,y10⟩:=y
        simp only at hc
        repeat' (first
    |refine gK ?_
    | ((first
      |((with_reducible show eY _ _ _ _ _);refine eY.mk k rfl (by first|exact hkl|(rw[bU];exact hkl)) ?_)
      |((with_reducible show bh _ _ _ _ _);first|refine bh.mk (aL ⟨y1,y2,y3,y4,y5,y6,y7,y8,y9,y10⟩) (by first|exact hg|(rw[Nat.zero_add];exact hg)) ?_|refine bh.mk _ rfl ?_)
      |((with_reducible show ae _ _ 72 _ _ _ _);refine ae.val [] hc F2 ⟨rfl,trivial⟩ rfl rfl rfl ?_)
      |((with_reducible show aI _ _ _ _);refine dK ?_))<;>with_reducible refine wK ?_)
    | ((with_reducible show(_∧_)∧_∧_);(refine eK ?_ ?_<;>with_reducible repeat' (first|exact trivial|(show _∧_;refine aK ?_ ?_)))))
        refine bZ.mk (k+1,true,false) ⟨by dsimp only;omega,by dsimp only;first|(simp;done)|(simp;omega),by dsimp only;first|(simp;done)|(simp;omega)⟩ (by dsimp only;omega) ?_
        (refine fK ?_;(with_reducible repeat' (first|exact trivial|(show _∧_;refine aK ?_ ?_)));(all_goals try rfl))
        all_goals first
          |(refine cast (congrArg (dD _ _) hr.symm) ?_;exact bB (fun h=>by first|(exfalso;omega)|rfl) (fun h=>by first|(exfalso;omega)|rfl))
          |exact .inl rfl
          |exact⟨.refl rfl,rfl⟩
          |exact⟨.refl (aa _),aa _⟩
          |(simp;done)
          |trace_state
    · have hjl:k=l.length:=by simp only[c9,az] at h1;omega
      exfalso;omega
  · have ha':a<k:=by simpa using hda
    have hb':b<k:=by simpa using hdb
    with_reducible show vL _ _ _ _ _ _ [(120,aP m l.length 74 (.own 93 0 0)),(93,.live 9 [] false),(81,aF ya.kids),(91,aF yb.kids),(74,aU l a 81 b 91)] _
    with_reducible refine wK ?_
    refine bq.mk (fun h1=>?_) (fun h1=>?_)<;>(try simp only[az] at h1)<;>with_reducible refine wK ?_
    · have hkl:k<l.length:=by simp only[bE,az] at h1;omega
      obtain⟨y,hy⟩:∃y,l[k]? =some y:=⟨_,bA hkl⟩
      have hc:=hv k y hy
      have hr:(aT l a 81 b 91).set (0+k) (bM y)=aT l a 81 b 91:=gU fun i z hz=>by
        have:=(bj hz).1
        by_cases e:i=k
        ·subst e;rw[hy] at hz;cases hz;rw[if_pos rfl,dF (by omega) (by omega)];rfl
        ·rw[if_neg e]
      have hg:(aT l a 81 b 91)[k]? =some (aL y):=by rw[cT hy,dF (by omega) (by omega)]
      obtain⟨y1,y2,y3,y4,y5,y6,y7,y8,y9,y10⟩:=y
      simp only at hc
      repeat' (first
    |refine gK ?_
    | ((first
      |((with_reducible show eY _ _ _ _ _);refine eY.mk k rfl (by first|exact hkl|(rw[bU];exact hkl)) ?_)
      |((with_reducible show bh _ _ _ _ _);first|refine bh.mk (aL ⟨y1,y2,y3,y4,y5,y6,y7,y8,y9,y10⟩) (by first|exact hg|(rw[Nat.zero_add];exact hg)) ?_|refine bh.mk _ rfl ?_)
      |((with_reducible show ae _ _ 72 _ _ _ _);refine ae.val [] hc F2 ⟨rfl,trivial⟩ rfl rfl rfl ?_)
      |((with_reducible show aI _ _ _ _);refine dK ?_))<;>with_reducible refine wK ?_)
    | ((with_reducible show(_∧_)∧_∧_);(refine eK ?_ ?_<;>with_reducible repeat' (first|exact trivial|(show _∧_;refine aK ?_ ?_)))))
      refine bZ.mk (k+1,true,true) ⟨by dsimp only;omega,by dsimp only;first|(simp;done)|(simp;omega),by dsimp only;first|(simp;done)|(simp;omega)⟩ (by dsimp only;omega) ?_
      (refine fK ?_;(with_reducible repeat' (first|exact trivial|(show _∧_;refine aK ?_ ?_)));(all_goals try rfl))
      all_goals first
        |(refine cast (congrArg (dD _ _) hr.symm) ?_;exact bB (fun h=>by first|(exfalso;omega)|rfl) (fun h=>by first|(exfalso;omega)|rfl))
        |exact .inl rfl
        |exact⟨.refl rfl,rfl⟩
        |exact⟨.refl (aa _),aa _⟩
        |(simp;done)
        |trace_state
    · have hjl:k=l.length:=by simp only[c9,az] at h1;omega
      subst hjl
      repeat' (first
    |refine gK ?_
    |(((with_reducible show aI _ _ _ _);refine dK ?_)<;>with_reducible refine wK ?_)
    | ((with_reducible show(_∧_)∧_∧_);(refine eK ?_ ?_<;>with_reducible repeat' (first|exact trivial|(show _∧_;refine aK ?_ ?_)))))
      all_goals first|rfl|exact .inl rfl|exact⟨.refl rfl,rfl⟩|exact bB (fun _=>rfl) (fun _=>rfl)|exact⟨.refl (aa _),aa _⟩|exact bS (aa _)|trace_state
@[reducible] def aV (l : List aQ) : MS := .live 9 (l.map gm) false
theorem aq (l:List aQ):bu (l.map gm)=true:=iJ gm (fun _=>rfl) l
theorem jL {l:List Int}{k:Nat}{e:Int}(h:l[k]? =some e):(l.map bt)[k]? =some (ah e):=by rw[fI,h];rfl
section
variable {l : List ai} {m : Int} {a b ta tb : Nat} {ka kb : List Int}
theorem bK {tab:List (Nat×Nat)}{T:List Nat}{ml:ML}{ta' tb':Nat}(h1:a<l.length→o8 tab ta'=some ta)(h2:b<l.length→o8 tab tb'=some tb):vi tab T ml (aT l a ta' b tb') (aT l a ta b tb):=
  .inr ⟨AT (bB h1 h2),sA (by rw[bU,bU]) mj mj⟩
theorem bF {names:List Nat}{n ta0 tb0:Nat}{p:Prop}(h1:gN names ta0=some ta)(h2:gN names tb0=some tb)(i1:ta0<n)(i2:tb0<n):
    p∨(aT l a ta b tb=eC (pD names 12) (aT l a ta0 b tb0)∧jm (zT 12 n) (aT l a ta0 b tb0)=true∧oJ (aT l a ta b tb) (aT l a ta0 b tb0)=true):=
  .inr ⟨Fp h1 h2,GY i1 i2,sA (by rw[bU,bU]) mj mj⟩
theorem Bk (hka:∀y,l[a]? =some y→y.kids=ka)(hkb:∀y,l[b]? =some y→y.kids=kb){rest:List AV}(hr:bu rest=true):
    yY (MF [] (Nn [0,1,2]) [(0,aU l a 1 b 2),(1,aF ka),(2,aF kb)] 12) (aR ⟨l,m⟩::rest) (.agg [.own 0 0 l.length,ah m]::rest):=
  ⟨⟨uj (ra:=false) (rb:=false) (ea:=[]) (eb:=[]) rfl rfl (fun y hy=>by rw[List.append_nil,hka y hy];exact⟨rfl,rfl⟩) (fun y hy=>by rw[List.append_nil,hkb y hy];exact⟨rfl,rfl⟩),rfl,trivial⟩,bS hr⟩
theorem n3 {f:FuncId}{rest:List AV}{res:AV}(hka:∀y,l[a]? =some y→y.kids=ka)(hkb:∀y,l[b]? =some y→y.kids=kb)(h:aj Tryz.prog f [] (aR ⟨l,m⟩::rest) [] res)(hp:kj res=true)(hr:bu rest=true):
    aj Tryz.prog f [aU l a 1 b 2,aF ka,aF kb] (.agg [.own 0 0 l.length,ah m]::rest) [aU l a 1 b 2,aF ka,aF kb] res:=
  aj.Ol [(0,aU l a 1 b 2),(1,aF ka),(2,aF kb)] [0,1,2] (dX [aU l a 1 b 2,aF ka,aF kb]) h hp (Bk hka hkb hr)
theorem nQ {f:FuncId}{rest:List AV}{es ex:List Int}(hka:∀y,l[a]? =some y→y.kids=ka)(hkb:∀y,l[b]? =some y→y.kids=kb)(h:aj Tryz.prog f [] (aR ⟨l,m⟩::rest) [aF (es++ex)] (.own 0 0 es.length))(hr:bu rest=true):
    aj Tryz.prog f [aU l a 1 b 2,aF ka,aF kb] (.agg [.own 0 0 l.length,ah m]::rest) [aU l a 1 b 2,aF ka,aF kb,aF (es++ex)] (.own 3 0 es.length):=by
  have hx:∀r∈ (es++ex).map bt,∃e:Int,r=ah e:=fun r hr=>by
    obtain⟨e,_,rfl⟩:=List.mem_map.1 hr
    exact⟨e,rfl⟩
  exact aj.zh [(0,aU l a 1 b 2),(1,aF ka),(2,aF kb)] [0,1,2] (dX [aU l a 1 b 2,aF ka,aF kb]) h (fun c hc=>by
    unfold flat at hc
    obtain⟨r,h1,h2⟩:=List.mem_flatMap.1 hc
    obtain⟨e,rfl⟩:=hx r h1
    cases ic.1 h2
    rfl) (fun r hr cs e=>by
    obtain⟨i,rfl⟩:=hx r hr
    cases e) (Bk hka hkb hr)
end
def di (x:aQ)(k:Int):aQ:={x with node:=k}
@[reducible] def II (x : aQ) (k : Int) : AV := .agg [ah x.kind, ah k, ah x.src, ah x.dst, bX x.name, bG x.had, bG x.has, bX x.old, bX x.new]
theorem rG {l:List ai}{m n:Int}{a b:Nat}{ka kb es ex:List Int}{ns:List aQ}{x:aQ}(hka:∀y,l[a]? =some y→y.kids=ka)(hkb:∀y,l[b]? =some y→y.kids=kb)(he:es.length≤1000)(hn:ns.length≤100000)
    (h191:aj Tryz.prog 34 [] [aR ⟨l,m⟩,ah n] [aF (es++ex)] (.own 0 0 es.length)):
    aj Tryz.prog 141 [aP m l.length 4 (.own 3 0 ns.length),aF ka,aF kb,aV ns,aU l a 1 b 2] [.ptr 0 0 0,ah n,je x]
      [aP m l.length 4 (.own 5 0 (ns.length+es.length)),aF ka,aF kb,.dead,aU l a 1 b 2,aV (ns++es.map (di x))] (.tup []):=by
  have hle:(es.map bt).length=es.length:=bN ..
  refine aj.eR [(5,93)] (rvs:=[]) G au Tryz.func141 rfl Tryz.ntmps141 rfl rfl ?_;with_reducible refine wD ?_
  refine ae.dx (news:=[aU l a 1 b 2,aF ka,aF kb,aF (es++ex)]) [4,1,2,111] [] (nQ hka hkb h191 rfl) OS ⟨⟨⟨rfl,rfl⟩,rfl,trivial⟩,rfl,trivial⟩ ⟨⟨rfl,bK (fun _=>rfl) (fun _=>rfl)⟩,⟨rfl,.inl ⟨rfl,aa _⟩⟩,⟨rfl,.inl ⟨rfl,aa _⟩⟩,trivial⟩ rfl ⟨⟨rfl,rfl⟩,rfl⟩ rfl ⟨⟨rfl,bF rfl rfl (by decide) (by decide)⟩,⟨rfl,.inl ⟨rfl,aa _⟩⟩,⟨rfl,.inl ⟨rfl,aa _⟩⟩,⟨rfl,.inl ⟨rfl,aa _⟩⟩,trivial⟩ rfl rfl ?_;with_reducible refine wK ?_
  refine bW.Gw G au (fun(s:Nat×Int)=>[(0,.ptr 0 0 0),(5,.ptr 50 0 0),(13,.own 111 0 es.length),(14,ah es.length),(15,ah s.1)])
    (fun s=>[(0,aP m l.length 4 (.own 93 0 (ns.length+s.1))),(1,aF ka),(2,aF kb),(3,.dead),(4,aU l a 1 b 2),(111,aF (es++ex)),(50,.live 9 [II x s.2] false),(93,aV (ns++ (es.take s.1).map (di x)))])
    (fun s=>s.1≤es.length) (fun s=>es.length-s.1) (0,x.node) [(93,3)] (Nat.zero_le _) ?_ ?_
  · (refine fK ?_;(with_reducible repeat' (first|exact trivial|(show _∧_;refine aK ?_ ?_)));(all_goals try rfl))
    all_goals first
      |(exact⟨.refl (aa _),aa _⟩)
      |(exact cast (congrArg (fun z=>tu _ z _) (show ns.map gm=(ns++ (es.take 0).map (di x)).map gm by simp)) ⟨.refl (aq _),aq _⟩)
      |(exact bB (fun _=>rfl) (fun _=>rfl))
      |trace_state
  rintro⟨k,c⟩ hk
  dsimp only at hk
  with_reducible refine wK ?_
  refine bq.mk (fun h1=>?_) (fun h1=>?_)<;>(try simp only[az] at h1)<;>with_reducible refine wK ?_
  · have hkl:k<es.length:=by simp only[bE,az] at h1;omega
    obtain⟨e,hy⟩:∃e,es[k]? =some e:=⟨_,bA hkl⟩
    have hy2:(es++ex)[k]? =some e:=by rw[rW hkl];exact hy
    repeat' (first
    |refine gK ?_
    | ((first
      |((with_reducible show eY _ _ _ _ _);refine eY.mk k rfl (by first|exact hkl|(simp;omega)) ?_)
      |((with_reducible show bh _ _ _ _ _);refine bh.mk (ah e) (by first|exact jL hy2|(rw[Nat.zero_add];exact jL hy2)) ?_)
      |((with_reducible show dZ _ _ _ _ _ _ _ _ _ _);refine dZ.mk ((ns++ (es.take k).map (di x)).map gm) [II x e] ⟨rfl,(by simp;omega),rfl⟩ ⟨rfl,rfl,rfl⟩ rfl (by simp;omega) (by simp;omega) ?_)
      |((with_reducible show aI _ _ _ _);refine dK ?_))<;>with_reducible refine wK ?_)
    |((with_reducible show(_∧_)∧_∧_);(refine eK ?_ ?_<;>with_reducible repeat' (first|exact trivial|(show _∧_;refine aK ?_ ?_)))))
    have ht:es.take (k+1)=es.take k++ [e]:=by rw[List.take_add_one,hy];rfl
    have hrow:(ns++ (es.take k).map (di x)).map gm++ [II x e]=(ns++ (es.take (k+1)).map (di x)).map gm:=by
      rw[ht,iR,iR,iR,iR,List.append_assoc];rfl
    refine nq.mk (k+1,e) [(93,281)] (by dsimp only;omega) (by dsimp only;omega) ?_
    (refine fK ?_;(with_reducible repeat' (first|exact trivial|(show _∧_;refine aK ?_ ?_)));(all_goals try rfl))
    all_goals first
      |exact⟨.refl (aa _),aa _⟩
      |exact bB (fun _=>rfl) (fun _=>rfl)
      |exact cast (congrArg (fun z=>tu _ z _) hrow) ⟨.refl (by rw[hrow];exact aq _),by rw[hrow];exact aq _⟩
      |(refine⟨⟨⟨rfl,rfl⟩,rfl,⟨rfl,?_⟩,trivial⟩,trivial⟩;simp;omega)
      |(simp;omega)
      |trace_state
  · have hjl:k=es.length:=by simp only[c9,az] at h1;omega
    subst hjl
    repeat' (first
    |refine gK ?_
    |(((with_reducible show aI _ _ _ _);refine dK ?_)<;>with_reducible refine wK ?_)
    |((with_reducible show(_∧_)∧_∧_);(refine eK ?_ ?_<;>with_reducible repeat' (first|exact trivial|(show _∧_;refine aK ?_ ?_)))))
    all_goals first|rfl|exact .inl rfl|exact⟨.refl rfl,rfl⟩|exact bB (fun _=>rfl) (fun _=>rfl)|exact⟨.refl (aa _),aa _⟩|(rw[sn (Nat.le_refl _)];exact⟨.refl (aq _),aq _⟩)|trace_state
section
variable {l : List ai} {a b ta tb ta' n i : Nat} {y : ai}
theorem qc (y':ai)(h:a<l.length):(aT l a ta b tb).set a (dV y' ta')=aT (l.set a y') a ta' b tb:=by
  apply List.ext_getElem?
  intro j
  unfold aT
  rw[List.getElem?_set,List.getElem?_mapIdx,List.getElem?_mapIdx,List.getElem?_set,List.length_mapIdx]
  by_cases e:a=j
  · subst e
    rw[if_pos rfl,if_pos rfl,if_pos h,if_pos h]
    show some _=some (ef a ta' b tb a y')
    rw[Hp];rfl
  · rw [if_neg e,if_neg e]
    cases l[j]? with
    |none=>rfl
    | some z=>
      show some (ef a ta b tb j z)=some (ef a ta' b tb j z)
      unfold ef
      have hja:¬j=a:=fun q=>e q.symm
      rw[if_neg hja,if_neg hja]
theorem vG (y':ai)(hb:b<l.length)(hab:b≠a):(aT l a ta b tb).set b (dV y' tb)=aT (l.set b y') a ta b tb:=by
  have:=rF (l:=l) (a:=a) (ta:=ta) (b:=b) (tb:=tb) y' hb
  rw[G6 hab] at this;exact this
theorem o6 (y':ai)(h:i<l.length)(ha:i≠a)(hb:i≠b):(aT l a ta b tb).set i (bM y')=aT (l.set i y') a ta b tb:=by
  have:=rF (l:=l) (a:=a) (ta:=ta) (b:=b) (tb:=tb) y' h
  rw[dF ha hb] at this;exact this
theorem Er (h:l[a]? =some y):(aT l a ta b tb)[a]? =some (eo y ta):=by rw[cT h,Hp]
theorem uF (h:l[b]? =some y)(hab:b≠a):(aT l a ta b tb)[b]? =some (eo y tb):=by rw[cT h,G6 hab]
theorem GD (h:l[i]? =some y)(ha:i≠a)(hb:i≠b):(aT l a ta b tb)[i]? =some (aL y):=by rw[cT h,dF ha hb]
end
@[reducible] def nc : aQ := ⟨2, 0, 0, 0, ByteArray.empty, false, false, ByteArray.empty, ByteArray.empty⟩
theorem nT {f:FuncId}{rest:List AV}{res:AV}{ks:List Int}(h:aj Tryz.prog f [] (cq ks::rest) [] res)(hp:kj res=true)(hr:bu rest=true):
    aj Tryz.prog f [aF ks] (.own 0 0 ks.length::rest) [aF ks] res:=
  aj.Ol [(0,aF ks)] [0] (dX [aF ks]) h hp ⟨bY rfl rfl rfl rfl,bS hr⟩
theorem Nz {l:List ai}{m:Int}{a b n i:Nat}{ka kb es ex:List Int}{ns:List aQ}{ya y:ai}{conn:Bool}{told:List aQ}(htold:told=if conn then es.map (di nc) else[])(hL:l.length≤1000)(ha:l[a]? =some ya)(hb:∀z,l[b]? =some z→z.kids=kb)(hy:l[n]? =some y)(hna:n≠a)(hnb:n≠b)(hka:ya.kids=ka)(hp:y.parent=a)(hi:i<ka.length)(hk:ka.length≤1000)(he:es.length≤1000)(hn:ns.length≤100000)
    (h21:aj Tryz.prog 35 [] [aR ⟨l,m⟩,ah n] [] (bG conn)) (h191:aj Tryz.prog 34 [] [aR ⟨l,m⟩,ah n] [aF (es++ex)] (.own 0 0 es.length)) (h79:aj Tryz.prog 73 [] [cq ka,ah n] [] (ah i))
    (h188:aj Tryz.prog 145 [aF ka] [.own 0 0 ka.length,ah i,ah (i+1:Nat)] [.dead,aF (ka.take i++ka.drop (i+1))] (.own 1 0 (ka.take i++ka.drop (i+1)).length)):
    aj Tryz.prog 79 [aP m l.length 4 (.own 3 0 ns.length),aF ka,aF kb,aV ns,aU l a 1 b 2] [.ptr 0 0 0,ah n]
      [aP m l.length 4 (.own 6 0 (ns++told).length),.dead,aF kb,.dead,aU ((l.set a {ya with kids:=ka.take i++ka.drop (i+1)}).set n {y with parent:=-1}) a 5 b 2,aF (ka.take i++ka.drop (i+1)),aV (ns++told)] (.tup []):=by
  have hal:=(bj ha).1
  have hnl:=(bj hy).1
  have hA:∀z,l[a]? =some z→z.kids=ka:=fun z hz=>by rw[ha] at hz;cases hz;exact hka
  have t21:=n3 (rest:=[ah n]) hA hb h21 rfl rfl
  have t164:=rG (x:=nc) hA hb he hn h191
  have t79:=nT (rest:=[ah n]) h79 rfl rfl
  have hne:a≠n:=fun e=>hna e.symm
  obtain⟨k2,hk2⟩:∃k2,k2=ka.take i++ka.drop (i+1):=⟨_,rfl⟩
  rw[←hk2] at h188 ⊢
  have hrow:∀u,((aT l a 1 b 2).set a (dV {ya with kids:=k2} u)).set n (bM {y with parent:=-1})=aT ((l.set a {ya with kids:=k2}).set n {y with parent:=-1}) a u b 2:=fun u=>by
    rw[qc _ hal,o6 _ (by rw[List.length_set];exact hnl) hna hnb]
  have g1:(aT l a 1 b 2)[n]? =some (aL y):=GD hy hna hnb
  have g2:(aT l a 1 b 2)[a]? =some (eo ya 1):=Er ha
  have g3:∀x,((aT l a 1 b 2).set a x)[n]? =some (aL y):=fun x=>by rw[List.getElem?_set,if_neg hne];exact g1
  have g4:∀x,((aT l a 1 b 2).set (0+a) x)[0+n]? =some (aL y):=fun x=>by rw[Nat.zero_add,Nat.zero_add];exact g3 x
  have hrow':((aT l a 1 b 2).set (0+a) (dV {ya with kids:=k2} 511)).set (0+n) (bM {y with parent:=-1})=aT ((l.set a {ya with kids:=k2}).set n {y with parent:=-1}) a 511 b 2:=by rw[Nat.zero_add,Nat.zero_add];exact hrow 511
  have hlr:(aT l a 1 b 2).length=l.length:=bU
  obtain⟨y1,y2,y3,y4,y5,y6,y7,y8,y9,y10⟩:=y
  obtain⟨z1,z2,z3,z4,z5,z6,z7,z8,z9,z10⟩:=ya
  dsimp only at hp hka
  subst hp;subst hka
  have hpa:¬ ((a:Int)=-1):=by omega
  refine aj.eR [(5,511)] (rvs:=[]) G au Tryz.func79 rfl Tryz.ntmps79 rfl rfl ?_;with_reducible refine wD ?_
  (have fct:=hpa;(repeat' (first
    |refine pF ?_
    | ((first
      |((with_reducible show bq _ _ _ _);(refine bq.mk (fun hp=>?_) (fun hp=>?_)<;>(try simp only[az,bE,c9,Bool.not_eq_true',Bool.not_eq_false',Decidable.not_not,Int.not_lt,Int.not_le] at hp)))
      |((with_reducible show eY _ _ _ _ _);first|refine eY.mk n rfl (by first|exact hnl|(simp;omega)) ?_|refine eY.mk a rfl (by first|exact hal|(simp;omega)) ?_)
      |((with_reducible show bh _ _ _ _ _);refine bh.mk _ (by first|exact g4 _|exact g1|exact g2|exact g3 _|(rw[Nat.zero_add];first|exact g1|exact g2|exact g3 _)) ?_)
      |((with_reducible show ae _ _ 35 _ _ _ _);refine ae.dx (news:=[aU l a 1 b 2,aF z7,aF kb]) [4,1,2] [] t21 Lm ⟨⟨⟨rfl,rfl⟩,rfl,trivial⟩,rfl,trivial⟩ ⟨⟨rfl,bK (fun _=>rfl) (fun _=>rfl)⟩,⟨rfl,.inl ⟨rfl,aa _⟩⟩,⟨rfl,.inl ⟨rfl,aa _⟩⟩,trivial⟩ rfl ⟨⟨rfl,rfl⟩,rfl⟩ rfl ⟨⟨rfl,bF rfl rfl (by decide) (by decide)⟩,⟨rfl,.inl ⟨rfl,aa _⟩⟩,⟨rfl,.inl ⟨rfl,aa _⟩⟩,trivial⟩ rfl rfl ?_)
      |((with_reducible show ae _ _ 141 _ _ _ _);refine ae.dx (news:=[aP m l.length 4 (.own 133 0 (ns.length+es.length)),aF z7,aF kb,.dead,aU l a 1 b 2,aV (ns++es.map (di nc))]) [0,1,2,3,4,133] [] t164 CZ ⟨⟨rfl,rfl⟩,rfl,⟨rfl,rfl,rfl,rfl,rfl,rfl,rfl,rfl,rfl,trivial⟩,trivial⟩ ⟨⟨rfl,.inr ⟨⟨⟨⟨rfl,rfl⟩,rfl,⟨rfl,rfl⟩,trivial⟩,trivial⟩,rfl⟩⟩,⟨rfl,.inl ⟨rfl,aa _⟩⟩,⟨rfl,.inl ⟨rfl,aa _⟩⟩,⟨rfl,.inl ⟨rfl,aq _⟩⟩,⟨rfl,bK (fun _=>rfl) (fun _=>rfl)⟩,trivial⟩ rfl ⟨⟨rfl,rfl⟩,rfl⟩ rfl ⟨⟨rfl,.inr ⟨rfl,rfl,rfl⟩⟩,⟨rfl,.inl ⟨rfl,aa _⟩⟩,⟨rfl,.inl ⟨rfl,aa _⟩⟩,⟨rfl,bF rfl rfl (by decide) (by decide)⟩,⟨rfl,.inl ⟨rfl,aq _⟩⟩,trivial⟩ rfl rfl ?_)
      |((with_reducible show ae _ _ 73 _ _ _ _);refine ae.dx (news:=[aF z7]) [1] [] t79 Jc ⟨⟨rfl,rfl⟩,rfl,trivial⟩ ⟨⟨rfl,.inl ⟨rfl,aa _⟩⟩,trivial⟩ rfl ⟨⟨rfl,rfl⟩,rfl⟩ rfl ⟨⟨rfl,.inl ⟨rfl,aa _⟩⟩,trivial⟩ rfl rfl ?_)
      |((with_reducible show ae _ _ 145 _ _ _ _);refine ae.dx (news:=[.dead,aF k2]) [1,511] [] h188 LW ⟨⟨rfl,rfl⟩,rfl,by show((i+1:Nat):Int)=(i:Int)+1;omega,trivial⟩ ⟨⟨rfl,.inl ⟨rfl,aa _⟩⟩,trivial⟩ rfl ⟨⟨rfl,rfl⟩,rfl⟩ rfl ⟨⟨rfl,.inl ⟨rfl,aa _⟩⟩,trivial⟩ rfl rfl ?_)
      |((with_reducible show aI _ _ _ _);refine dK ?_))<;>with_reducible refine wK ?_)
    |((with_reducible show(_∧_)∧_∧_);(refine eK ?_ ?_<;>with_reducible repeat' (first|exact trivial|(show _∧_;refine aK ?_ ?_))))));all_goals clear fct)
  all_goals first
    |exact⟨.refl (aa _),aa _⟩
    |exact cast (congrArg (dD _ _) hrow'.symm) (bB (fun _=>rfl) (fun _=>rfl))
    | (have ht:told=es.map (di nc):=by rw[htold,hp];rfl
       subst ht
       first|exact⟨.refl (aq _),aq _⟩|(simp;done))
    | (have ht:told=[]:=by rw[htold,hp];rfl
       subst ht
       first|exact cast (congrArg (fun z=>tu _ z _) (show ns.map gm=(ns++ []).map gm by simp)) ⟨.refl (aq _),aq _⟩|(simp;done))
    |trace_state
theorem FB {l:List ai}{m:Int}{a b n:Nat}{ka kb:List Int}{ns:List aQ}{y:ai}(hy:l[n]? =some y)(hr:∃q,ef a 1 b 2 n y=.agg [ah y.kind,bX y.name,bX y.is,bX y.data,cV y.attrs,ah y.parent,q,ah y.host,ah y.under,ah y.doc])(hp:y.parent=-1):
    aj Tryz.prog 79 [aP m l.length 4 (.own 3 0 ns.length),aF ka,aF kb,aV ns,aU l a 1 b 2] [.ptr 0 0 0,ah n]
      [aP m l.length 4 (.own 6 0 ns.length),.dead,aF kb,.dead,aU l a 5 b 2,aF ka,aV ns] (.tup []):=by
  have hnl:=(bj hy).1
  obtain⟨q,hq⟩:=hr
  have g1:(aT l a 1 b 2)[n]? =some (.agg [ah y.kind,bX y.name,bX y.is,bX y.data,cV y.attrs,ah y.parent,q,ah y.host,ah y.under,ah y.doc]):=by rw[cT hy,hq]
  obtain⟨y1,y2,y3,y4,y5,y6,y7,y8,y9,y10⟩:=y
  dsimp only at hp g1
  subst hp
  have hlr:(aT l a 1 b 2).length=l.length:=bU
  refine aj.eR [(5,1)] (rvs:=[]) G au Tryz.func79 rfl Tryz.ntmps79 rfl rfl ?_;with_reducible refine wD ?_
  (have fct:=hnl;(repeat' (first
    |refine pF ?_
    | ((first
      |((with_reducible show bq _ _ _ _);(refine bq.mk (fun hp=>?_) (fun hp=>?_)<;>(try simp only[az,bE,c9,Bool.not_eq_true',Bool.not_eq_false',Decidable.not_not,Int.not_lt,Int.not_le] at hp)))
      |((with_reducible show eY _ _ _ _ _);refine eY.mk n rfl (by first|exact hnl|(simp;omega)) ?_)
      |((with_reducible show bh _ _ _ _ _);refine bh.mk _ (by first|exact g1|(rw[Nat.zero_add];exact g1)) ?_)
      |((with_reducible show aI _ _ _ _);refine dK ?_))<;>with_reducible refine wK ?_)
    |((with_reducible show(_∧_)∧_∧_);(refine eK ?_ ?_<;>with_reducible repeat' (first|exact trivial|(show _∧_;refine aK ?_ ?_))))));all_goals clear fct)
  all_goals first
    |exact⟨.refl (aa _),aa _⟩
    |exact⟨.refl (aq _),aq _⟩
    |exact bB (fun _=>rfl) (fun _=>rfl)
    |trace_state
theorem Lu {l:List ai}{m:Int}{a b i:Nat}{ka kb es ex:List Int}{ns:List aQ}{ya y:ai}{conn:Bool}{told:List aQ}(htold:told=if conn then es.map (di nc) else[])(hL:l.length≤1000)(ha:l[a]? =some ya)(hb:∀z,l[b]? =some z→z.kids=kb)(hy:l[b]? =some y)(hna:b≠a)(hka:ya.kids=ka)(hp:y.parent=a)(hi:i<ka.length)(hk:ka.length≤1000)(he:es.length≤1000)(hn:ns.length≤100000)
    (h21:aj Tryz.prog 35 [] [aR ⟨l,m⟩,ah b] [] (bG conn)) (h191:aj Tryz.prog 34 [] [aR ⟨l,m⟩,ah b] [aF (es++ex)] (.own 0 0 es.length)) (h79:aj Tryz.prog 73 [] [cq ka,ah b] [] (ah i))
    (h188:aj Tryz.prog 145 [aF ka] [.own 0 0 ka.length,ah i,ah (i+1:Nat)] [.dead,aF (ka.take i++ka.drop (i+1))] (.own 1 0 (ka.take i++ka.drop (i+1)).length)):
    aj Tryz.prog 79 [aP m l.length 4 (.own 3 0 ns.length),aF ka,aF kb,aV ns,aU l a 1 b 2] [.ptr 0 0 0,ah b]
      [aP m l.length 4 (.own 6 0 (ns++told).length),.dead,aF kb,.dead,aU ((l.set a {ya with kids:=ka.take i++ka.drop (i+1)}).set b {y with parent:=-1}) a 5 b 2,aF (ka.take i++ka.drop (i+1)),aV (ns++told)] (.tup []):=by
  have hal:=(bj ha).1
  have hnl:=(bj hy).1
  have hA:∀z,l[a]? =some z→z.kids=ka:=fun z hz=>by rw[ha] at hz;cases hz;exact hka
  have t21:=n3 (rest:=[ah b]) hA hb h21 rfl rfl
  have t164:=rG (x:=nc) hA hb he hn h191
  have t79:=nT (rest:=[ah b]) h79 rfl rfl
  have hne:a≠b:=fun e=>hna e.symm
  obtain⟨k2,hk2⟩:∃k2,k2=ka.take i++ka.drop (i+1):=⟨_,rfl⟩
  rw[←hk2] at h188 ⊢
  have hrow:∀u,((aT l a 1 b 2).set a (dV {ya with kids:=k2} u)).set b (dV {y with parent:=-1} 2)=aT ((l.set a {ya with kids:=k2}).set b {y with parent:=-1}) a u b 2:=fun u=>by
    rw[qc _ hal,vG _ (by rw[List.length_set];exact hnl) hna]
  have g1:(aT l a 1 b 2)[b]? =some (eo y 2):=uF hy hna
  have g2:(aT l a 1 b 2)[a]? =some (eo ya 1):=Er ha
  have g3:∀x,((aT l a 1 b 2).set a x)[b]? =some (eo y 2):=fun x=>by rw[List.getElem?_set,if_neg hne];exact g1
  have g4:∀x,((aT l a 1 b 2).set (0+a) x)[0+b]? =some (eo y 2):=fun x=>by rw[Nat.zero_add,Nat.zero_add];exact g3 x
  have hrow':((aT l a 1 b 2).set (0+a) (dV {ya with kids:=k2} 511)).set (0+b) (dV {y with parent:=-1} 2)=aT ((l.set a {ya with kids:=k2}).set b {y with parent:=-1}) a 511 b 2:=by rw[Nat.zero_add,Nat.zero_add];exact hrow 511
  have hlr:(aT l a 1 b 2).length=l.length:=bU
  obtain⟨y1,y2,y3,y4,y5,y6,y7,y8,y9,y10⟩:=y
  obtain⟨z1,z2,z3,z4,z5,z6,z7,z8,z9,z10⟩:=ya
  dsimp only at hp hka
  subst hp;subst hka
  have hpa:¬ ((a:Int)=-1):=by omega
  refine aj.eR [(5,511)] (rvs:=[]) G au Tryz.func79 rfl Tryz.ntmps79 rfl rfl ?_;with_reducible refine wD ?_
  (have fct:=hpa;(repeat' (first
    |refine pF ?_
    | ((first
      |((with_reducible show bq _ _ _ _);(refine bq.mk (fun hp=>?_) (fun hp=>?_)<;>(try simp only[az,bE,c9,Bool.not_eq_true',Bool.not_eq_false',Decidable.not_not,Int.not_lt,Int.not_le] at hp)))
      |((with_reducible show eY _ _ _ _ _);first|refine eY.mk b rfl (by first|exact hnl|(simp;omega)) ?_|refine eY.mk a rfl (by first|exact hal|(simp;omega)) ?_)
      |((with_reducible show bh _ _ _ _ _);refine bh.mk _ (by first|exact g4 _|exact g1|exact g2|exact g3 _|(rw[Nat.zero_add];first|exact g1|exact g2|exact g3 _)) ?_)
      |((with_reducible show ae _ _ 35 _ _ _ _);refine ae.dx (news:=[aU l a 1 b 2,aF z7,aF kb]) [4,1,2] [] t21 Lm ⟨⟨⟨rfl,rfl⟩,rfl,trivial⟩,rfl,trivial⟩ ⟨⟨rfl,bK (fun _=>rfl) (fun _=>rfl)⟩,⟨rfl,.inl ⟨rfl,aa _⟩⟩,⟨rfl,.inl ⟨rfl,aa _⟩⟩,trivial⟩ rfl ⟨⟨rfl,rfl⟩,rfl⟩ rfl ⟨⟨rfl,bF rfl rfl (by decide) (by decide)⟩,⟨rfl,.inl ⟨rfl,aa _⟩⟩,⟨rfl,.inl ⟨rfl,aa _⟩⟩,trivial⟩ rfl rfl ?_)
      |((with_reducible show ae _ _ 141 _ _ _ _);refine ae.dx (news:=[aP m l.length 4 (.own 133 0 (ns.length+es.length)),aF z7,aF kb,.dead,aU l a 1 b 2,aV (ns++es.map (di nc))]) [0,1,2,3,4,133] [] t164 CZ ⟨⟨rfl,rfl⟩,rfl,⟨rfl,rfl,rfl,rfl,rfl,rfl,rfl,rfl,rfl,trivial⟩,trivial⟩ ⟨⟨rfl,.inr ⟨⟨⟨⟨rfl,rfl⟩,rfl,⟨rfl,rfl⟩,trivial⟩,trivial⟩,rfl⟩⟩,⟨rfl,.inl ⟨rfl,aa _⟩⟩,⟨rfl,.inl ⟨rfl,aa _⟩⟩,⟨rfl,.inl ⟨rfl,aq _⟩⟩,⟨rfl,bK (fun _=>rfl) (fun _=>rfl)⟩,trivial⟩ rfl ⟨⟨rfl,rfl⟩,rfl⟩ rfl ⟨⟨rfl,.inr ⟨rfl,rfl,rfl⟩⟩,⟨rfl,.inl ⟨rfl,aa _⟩⟩,⟨rfl,.inl ⟨rfl,aa _⟩⟩,⟨rfl,bF rfl rfl (by decide) (by decide)⟩,⟨rfl,.inl ⟨rfl,aq _⟩⟩,trivial⟩ rfl rfl ?_)
      |((with_reducible show ae _ _ 73 _ _ _ _);refine ae.dx (news:=[aF z7]) [1] [] t79 Jc ⟨⟨rfl,rfl⟩,rfl,trivial⟩ ⟨⟨rfl,.inl ⟨rfl,aa _⟩⟩,trivial⟩ rfl ⟨⟨rfl,rfl⟩,rfl⟩ rfl ⟨⟨rfl,.inl ⟨rfl,aa _⟩⟩,trivial⟩ rfl rfl ?_)
      |((with_reducible show ae _ _ 145 _ _ _ _);refine ae.dx (news:=[.dead,aF k2]) [1,511] [] h188 LW ⟨⟨rfl,rfl⟩,rfl,by show((i+1:Nat):Int)=(i:Int)+1;omega,trivial⟩ ⟨⟨rfl,.inl ⟨rfl,aa _⟩⟩,trivial⟩ rfl ⟨⟨rfl,rfl⟩,rfl⟩ rfl ⟨⟨rfl,.inl ⟨rfl,aa _⟩⟩,trivial⟩ rfl rfl ?_)
      |((with_reducible show aI _ _ _ _);refine dK ?_))<;>with_reducible refine wK ?_)
    |((with_reducible show(_∧_)∧_∧_);(refine eK ?_ ?_<;>with_reducible repeat' (first|exact trivial|(show _∧_;refine aK ?_ ?_))))));all_goals clear fct)
  all_goals first
    |exact⟨.refl (aa _),aa _⟩
    |exact cast (congrArg (dD _ _) hrow'.symm) (bB (fun _=>rfl) (fun _=>rfl))
    | (have ht:told=es.map (di nc):=by rw[htold,hp];rfl
       subst ht
       first|exact⟨.refl (aq _),aq _⟩|(simp;done))
    | (have ht:told=[]:=by rw[htold,hp];rfl
       subst ht
       first|exact cast (congrArg (fun z=>tu _ z _) (show ns.map gm=(ns++ []).map gm by simp)) ⟨.refl (aq _),aq _⟩|(simp;done))
    |trace_state
end Go.Proofs.Heir
namespace Go.Proofs.Heir
open Go Go.Am Go.RowKit Go.Lib
set_option maxRecDepth 100000
set_option maxHeartbeats 16000000 in
/-- shade.All -/
theorem tP (f:ForM)(hs:bC f.nodes)(n:Int)(e0:(bw f&&af f.nodes n)=true):aj Tryz.prog 82 [] [aR f,ah n] [jR (kP f n)] (.own 0 0 (kP f n).length):=by
  have h86:=yF f hs [n] (by simp)
  have e1:(bw f&& !decide (0≤gq (fun n=> !af f.nodes n) [n]))=(bw f&&af f.nodes n):=by
    congr 1
    unfold gq
    cases h:af f.nodes n<;>simp[List.findIdx?_cons,h]
  rw[e1] at h86
  obtain⟨l,m⟩:=f
  unfold kP
  simp only at h86 e0 ⊢
  rw[if_pos e0]
  have hlm:(l.map bM).length=l.length:=bN ..
  refine aj.aD (rvs:=[.tmp 4]) G au Tryz.func82 rfl Tryz.ntmps82 rfl rfl ?_;delta List.toArray;((with_reducible conv=>whnf);(with_reducible conv=>congr<;>reduce);repeat((first|(with_reducible refine bQ.mk ?_)|(with_reducible refine bP.mk ?_));(with_reducible conv=>whnf);(with_reducible conv=>congr<;>reduce)))
  rw[e0] at h86
  refine ae.lit [141] h86 IM ⟨⟨rfl,rfl,trivial⟩,bY (l:=[n]) rfl rfl rfl rfl,trivial⟩ rfl rfl ?_;((with_reducible conv=>whnf);(with_reducible conv=>congr<;>reduce);repeat((first|(with_reducible refine bQ.mk ?_)|(with_reducible refine bP.mk ?_));(with_reducible conv=>whnf);(with_reducible conv=>congr<;>reduce)))
  obtain⟨hr,hn⟩:bw ⟨l,m⟩=true∧af l n=true:=by simpa using e0
  have T:=U.jx hr
  have hol:=U.tE T l.length hn
  simp only at T hol
  repeat' (first
    |(first
    |((with_reducible show bq _ _ _ _);first|refine bq.ff ?_|refine bq.tt ?_|refine bq.no (by first|rfl|assumption|exact nf (by assumption)|exact nt (by assumption)|((try simp only[az]);first|(simp[];done)|(simp[];omega))) ?_|refine bq.yes (by first|rfl|assumption|exact nf (by assumption)|exact nt (by assumption)|((try simp only[az]);first|(simp[];done)|(simp[];omega))) ?_)
    |((with_reducible show bH _ _ _ _);refine bH.mk (by(try simp only[az]);omega) ?_)
    |((with_reducible show aI _ _ _ _);refine aI.mk (by kernel_rfl) (by kernel_rfl) (by kernel_rfl) ?_))<;>((with_reducible conv=>whnf);(with_reducible conv=>congr<;>reduce);repeat((first|(with_reducible refine bQ.mk ?_)|(with_reducible refine bP.mk ?_));(with_reducible conv=>whnf);(with_reducible conv=>congr<;>reduce)))
    |((with_reducible show(_∧_)∧_∧_);refine⟨⟨rfl,rfl⟩,?_,?_⟩<;>(with_reducible conv=>whnf)<;>repeat' (first|(with_reducible exact trivial)|(with_reducible refine And.intro ?_ ?_<;>with_reducible conv=>whnf))))
  refine bW.ghost 5 51 1 rfl rfl ?_
  refine bW.use G au (fun(i:List Int×List Int×List Int)=>[(2,.ptr 20 0 0),(5,.own 51 0 i.1.length),(6,.ptr 60 0 0)])
    (fun i=>[(20,.live 2 [aR ⟨l,m⟩] false),(51,jR i.1),(60,.live 1 [.own 181 0 i.2.1.length] false),(181,jR (i.2.1++i.2.2))])
    (fun i=>U.cm l l.length n=i.1++U.rest l i.2.1∧∀c∈i.2.1,af l c=true) (fun i=>l.length-i.1.length) ([],[n],[]) ⟨by simp[U.rest],fun c hc=>by rw[ic] at hc;subst hc;exact hn⟩
    (by refine⟨⟨rfl,rfl⟩,⟨⟨rfl,rfl⟩,⟨rfl,rfl⟩,⟨rfl,rfl⟩,trivial⟩,⟨⟨rfl,rfl,trivial⟩,trivial⟩,⟨.refl rfl,aa _⟩,⟨⟨rfl,rfl⟩,trivial⟩,⟨.refl rfl,aa _⟩,trivial⟩) ?_
  rintro⟨out,st,sp⟩ ⟨ho,hst⟩
  simp only at ho hst
  ((with_reducible conv=>whnf);(with_reducible conv=>congr<;>reduce);repeat((first|(with_reducible refine bQ.mk ?_)|(with_reducible refine bP.mk ?_));(with_reducible conv=>whnf);(with_reducible conv=>congr<;>reduce)))
  have hoL:=congrArg List.length ho
  rw[jz] at hoL
  have hol':out.length=(out.map bt).length:=(bN ..).symm
  have hrl:=U.Bh T hst
  have hl60:=hs.len
  simp only at hl60
  obtain h|⟨st',t,h⟩:=List.eq_nil_or_concat st<;>(try rw[List.concat_eq_append] at h)<;>subst h
  · repeat' (first
    |(first
    |((with_reducible show bq _ _ _ _);first|refine bq.ff ?_|refine bq.tt ?_|refine bq.no (by first|rfl|assumption|exact nf (by assumption)|exact nt (by assumption)|((try simp only[az]);first|(simp[];done)|(simp[];omega))) ?_|refine bq.yes (by first|rfl|assumption|exact nf (by assumption)|exact nt (by assumption)|((try simp only[az]);first|(simp[];done)|(simp[];omega))) ?_)
    |((with_reducible show bH _ _ _ _);refine bH.mk (by(try simp only[az]);omega) ?_)
    |((with_reducible show aI _ _ _ _);refine aI.mk (by kernel_rfl) (by kernel_rfl) (by kernel_rfl) ?_))<;>((with_reducible conv=>whnf);(with_reducible conv=>congr<;>reduce);repeat((first|(with_reducible refine bQ.mk ?_)|(with_reducible refine bP.mk ?_));(with_reducible conv=>whnf);(with_reducible conv=>congr<;>reduce)))
    |((with_reducible show(_∧_)∧_∧_);refine⟨⟨rfl,rfl⟩,?_,?_⟩<;>(with_reducible conv=>whnf)<;>repeat' (first|(with_reducible exact trivial)|(with_reducible refine And.intro ?_ ?_<;>with_reducible conv=>whnf))))
    all_goals have ho':U.cm l l.length n=out:=by rw[ho];simp[U.rest]
    all_goals clear ho hoL
    all_goals subst ho'
    all_goals first
      |rfl
      |exact bS (aa _)
  · have ht :=hst t (by simp)
    have hlen:(st'++ [t]).length=st'.length+1:=by simp
    obtain⟨k,x,rfl,hx,hnx⟩:=aW.1 ht
    rw[hlen]
    rw[hlen] at hrl
    repeat' (first
    |(first
    |((with_reducible show bq _ _ _ _);first|refine bq.ff ?_|refine bq.tt ?_|refine bq.no (by first|rfl|assumption|exact nf (by assumption)|exact nt (by assumption)|((try simp only[az]);first|(simp[];done)|(simp[];omega))) ?_|refine bq.yes (by first|rfl|assumption|exact nf (by assumption)|exact nt (by assumption)|((try simp only[az]);first|(simp[];done)|(simp[];omega))) ?_)
    |((with_reducible show bH _ _ _ _);refine bH.mk (by(try simp only[az]);omega) ?_)
    |((with_reducible show aI _ _ _ _);refine aI.mk (by kernel_rfl) (by kernel_rfl) (by kernel_rfl) ?_))<;>((with_reducible conv=>whnf);(with_reducible conv=>congr<;>reduce);repeat((first|(with_reducible refine bQ.mk ?_)|(with_reducible refine bP.mk ?_));(with_reducible conv=>whnf);(with_reducible conv=>congr<;>reduce)))
    |((with_reducible show(_∧_)∧_∧_);refine⟨⟨rfl,rfl⟩,?_,?_⟩<;>(with_reducible conv=>whnf)<;>repeat' (first|(with_reducible exact trivial)|(with_reducible refine And.intro ?_ ?_<;>with_reducible conv=>whnf))))
    refine eY.mk st'.length (by(try simp only[az]);omega) (by omega) ?_;((with_reducible conv=>whnf);(with_reducible conv=>congr<;>reduce);repeat((first|(with_reducible refine bQ.mk ?_)|(with_reducible refine bP.mk ?_));(with_reducible conv=>whnf);(with_reducible conv=>congr<;>reduce)))
    refine bh.mk (ah (k:Int)) (by rw[Nat.zero_add,fI,List.append_assoc,List.getElem?_append_right (Nat.le_refl _),Nat.sub_self];rfl) ?_;((with_reducible conv=>whnf);(with_reducible conv=>congr<;>reduce);repeat((first|(with_reducible refine bQ.mk ?_)|(with_reducible refine bP.mk ?_));(with_reducible conv=>whnf);(with_reducible conv=>congr<;>reduce)))
    repeat' (first
    |(first
    |((with_reducible show bq _ _ _ _);first|refine bq.ff ?_|refine bq.tt ?_|refine bq.no (by first|rfl|assumption|exact nf (by assumption)|exact nt (by assumption)|((try simp only[az]);first|(simp[];done)|(simp[];omega))) ?_|refine bq.yes (by first|rfl|assumption|exact nf (by assumption)|exact nt (by assumption)|((try simp only[az]);first|(simp[];done)|(simp[];omega))) ?_)
    |((with_reducible show bH _ _ _ _);refine bH.mk (by(try simp only[az]);omega) ?_)
    |((with_reducible show aI _ _ _ _);refine aI.mk (by kernel_rfl) (by kernel_rfl) (by kernel_rfl) ?_))<;>((with_reducible conv=>whnf);(with_reducible conv=>congr<;>reduce);repeat((first|(with_reducible refine bQ.mk ?_)|(with_reducible refine bP.mk ?_));(with_reducible conv=>whnf);(with_reducible conv=>congr<;>reduce)))
    |((with_reducible show(_∧_)∧_∧_);refine⟨⟨rfl,rfl⟩,?_,?_⟩<;>(with_reducible conv=>whnf)<;>repeat' (first|(with_reducible exact trivial)|(with_reducible refine And.intro ?_ ?_<;>with_reducible conv=>whnf))))
    refine BN.mk 0 st'.length rfl (by(try simp only[az]);omega) (by omega) ?_;((with_reducible conv=>whnf);(with_reducible conv=>congr<;>reduce);repeat((first|(with_reducible refine bQ.mk ?_)|(with_reducible refine bP.mk ?_));(with_reducible conv=>whnf);(with_reducible conv=>congr<;>reduce)))
    repeat' (first
    |(first
    |((with_reducible show bq _ _ _ _);first|refine bq.ff ?_|refine bq.tt ?_|refine bq.no (by first|rfl|assumption|exact nf (by assumption)|exact nt (by assumption)|((try simp only[az]);first|(simp[];done)|(simp[];omega))) ?_|refine bq.yes (by first|rfl|assumption|exact nf (by assumption)|exact nt (by assumption)|((try simp only[az]);first|(simp[];done)|(simp[];omega))) ?_)
    |((with_reducible show bH _ _ _ _);refine bH.mk (by(try simp only[az]);omega) ?_)
    |((with_reducible show aI _ _ _ _);refine aI.mk (by kernel_rfl) (by kernel_rfl) (by kernel_rfl) ?_))<;>((with_reducible conv=>whnf);(with_reducible conv=>congr<;>reduce);repeat((first|(with_reducible refine bQ.mk ?_)|(with_reducible refine bP.mk ?_));(with_reducible conv=>whnf);(with_reducible conv=>congr<;>reduce)))
    |((with_reducible show(_∧_)∧_∧_);refine⟨⟨rfl,rfl⟩,?_,?_⟩<;>(with_reducible conv=>whnf)<;>repeat' (first|(with_reducible exact trivial)|(with_reducible refine And.intro ?_ ?_<;>with_reducible conv=>whnf))))
    refine dZ.mk (out.map bt) [ah (k:Int)] ⟨rfl,hol',rfl⟩ ⟨rfl,rfl,rfl⟩ rfl (by simp;omega) (by simp;omega) ?_;((with_reducible conv=>whnf);(with_reducible conv=>congr<;>reduce);repeat((first|(with_reducible refine bQ.mk ?_)|(with_reducible refine bP.mk ?_));(with_reducible conv=>whnf);(with_reducible conv=>congr<;>reduce)))
    repeat' (first
    |(first
    |((with_reducible show bq _ _ _ _);first|refine bq.ff ?_|refine bq.tt ?_|refine bq.no (by first|rfl|assumption|exact nf (by assumption)|exact nt (by assumption)|((try simp only[az]);first|(simp[];done)|(simp[];omega))) ?_|refine bq.yes (by first|rfl|assumption|exact nf (by assumption)|exact nt (by assumption)|((try simp only[az]);first|(simp[];done)|(simp[];omega))) ?_)
    |((with_reducible show bH _ _ _ _);refine bH.mk (by(try simp only[az]);omega) ?_)
    |((with_reducible show aI _ _ _ _);refine aI.mk (by kernel_rfl) (by kernel_rfl) (by kernel_rfl) ?_))<;>((with_reducible conv=>whnf);(with_reducible conv=>congr<;>reduce);repeat((first|(with_reducible refine bQ.mk ?_)|(with_reducible refine bP.mk ?_));(with_reducible conv=>whnf);(with_reducible conv=>congr<;>reduce)))
    |((with_reducible show(_∧_)∧_∧_);refine⟨⟨rfl,rfl⟩,?_,?_⟩<;>(with_reducible conv=>whnf)<;>repeat' (first|(with_reducible exact trivial)|(with_reducible refine And.intro ?_ ?_<;>with_reducible conv=>whnf))))
    obtain⟨a1,a2,a3,a4,a5,a6,a7,a8,a9,a10⟩:=x
    refine aN.mk k (aL ⟨a1,a2,a3,a4,a5,a6,a7,a8,a9,a10⟩) rfl (ay hx) ?_;((with_reducible conv=>whnf);(with_reducible conv=>congr<;>reduce);repeat((first|(with_reducible refine bQ.mk ?_)|(with_reducible refine bP.mk ?_));(with_reducible conv=>whnf);(with_reducible conv=>congr<;>reduce)))
    repeat' (first
    |(first
    |((with_reducible show bq _ _ _ _);first|refine bq.ff ?_|refine bq.tt ?_|refine bq.no (by first|rfl|assumption|exact nf (by assumption)|exact nt (by assumption)|((try simp only[az]);first|(simp[];done)|(simp[];omega))) ?_|refine bq.yes (by first|rfl|assumption|exact nf (by assumption)|exact nt (by assumption)|((try simp only[az]);first|(simp[];done)|(simp[];omega))) ?_)
    |((with_reducible show bH _ _ _ _);refine bH.mk (by(try simp only[az]);omega) ?_)
    |((with_reducible show aI _ _ _ _);refine aI.mk (by kernel_rfl) (by kernel_rfl) (by kernel_rfl) ?_))<;>((with_reducible conv=>whnf);(with_reducible conv=>congr<;>reduce);repeat((first|(with_reducible refine bQ.mk ?_)|(with_reducible refine bP.mk ?_));(with_reducible conv=>whnf);(with_reducible conv=>congr<;>reduce)))
    |((with_reducible show(_∧_)∧_∧_);refine⟨⟨rfl,rfl⟩,?_,?_⟩<;>(with_reducible conv=>whnf)<;>repeat' (first|(with_reducible exact trivial)|(with_reducible refine And.intro ?_ ?_<;>with_reducible conv=>whnf))))
    refine ae.val [] (J0 a7) Pj ⟨rfl,trivial⟩ rfl rfl rfl ?_;((with_reducible conv=>whnf);(with_reducible conv=>congr<;>reduce);repeat((first|(with_reducible refine bQ.mk ?_)|(with_reducible refine bP.mk ?_));(with_reducible conv=>whnf);(with_reducible conv=>congr<;>reduce)))
    repeat' (first
    |(first
    |((with_reducible show bq _ _ _ _);first|refine bq.ff ?_|refine bq.tt ?_|refine bq.no (by first|rfl|assumption|exact nf (by assumption)|exact nt (by assumption)|((try simp only[az]);first|(simp[];done)|(simp[];omega))) ?_|refine bq.yes (by first|rfl|assumption|exact nf (by assumption)|exact nt (by assumption)|((try simp only[az]);first|(simp[];done)|(simp[];omega))) ?_)
    |((with_reducible show bH _ _ _ _);refine bH.mk (by(try simp only[az]);omega) ?_)
    |((with_reducible show aI _ _ _ _);refine aI.mk (by kernel_rfl) (by kernel_rfl) (by kernel_rfl) ?_))<;>((with_reducible conv=>whnf);(with_reducible conv=>congr<;>reduce);repeat((first|(with_reducible refine bQ.mk ?_)|(with_reducible refine bP.mk ?_));(with_reducible conv=>whnf);(with_reducible conv=>congr<;>reduce)))
    |((with_reducible show(_∧_)∧_∧_);refine⟨⟨rfl,rfl⟩,?_,?_⟩<;>(with_reducible conv=>whnf)<;>repeat' (first|(with_reducible exact trivial)|(with_reducible refine And.intro ?_ ?_<;>with_reducible conv=>whnf))))
    obtain⟨spF,hs0,hs1⟩:∃spF:Nat→List Int,spF 0=(k:Int)::sp∧∀j,spF (j+1)=[]:=⟨fun j=>match j with|0=>(k:Int)::sp|_+1=>[],rfl,fun _=>rfl⟩
    have hk7:=hs.kids _ (bV hx)
    simp only at hk7
    refine bW.range G au 4 [(2,.ptr 1 0 0),(5,.own 3 0 (out.length+1)),(6,.ptr 0 0 0),(9,.ptr 2 0 0),(43,.clo (.func 193) [] [.fptr (cq a7) 0])]
      (fun j=>[(0,.live 1 [.own 181 0 (st'.length+j)] false),(1,.live 2 [aR ⟨l,m⟩] false),(2,.live 10 [aL ⟨a1,a2,a3,a4,a5,a6,a7,a8,a9,a10⟩] false),(3,jR (out++ [(k:Int)])),(181,jR (st'++a7.reverse.take j++spF j))])
      (JE a7 (by omega)) Py ?_ rfl ⟨⟨rfl,rfl⟩,rfl⟩ (fun _ _=>rfl) (fun _ _=>rfl) ⟨⟨rfl,rfl⟩,rfl,rfl⟩ ?_ ?_
    · refine⟨⟨rfl,rfl⟩,?_⟩
      (with_reducible conv=>whnf)
      repeat' (first|(with_reducible exact trivial)|(with_reducible refine And.intro ?_ ?_<;>with_reducible conv=>whnf))
      all_goals try rfl
      ·simp
      ·exact⟨.refl rfl,rfl⟩
      ·exact⟨.refl rfl,rfl⟩
      · refine⟨?_,aa _⟩
        rw[←show(out++ [(k:Int)]).map bt=out.map bt++ [AV.lit (.int .i64 k)] by simp;rfl]
        exact .refl (aa _)
      · refine⟨?_,aa _⟩
        rw[hs0,List.take_zero,List.append_nil,show st'++ [(k:Int)]++sp=st'++ (k:Int)::sp by simp];exact .refl (aa _)
    · intro j hj
      ((with_reducible conv=>whnf);(with_reducible conv=>congr<;>reduce);repeat((first|(with_reducible refine bQ.mk ?_)|(with_reducible refine bP.mk ?_));(with_reducible conv=>whnf);(with_reducible conv=>congr<;>reduce)))
      refine DE.mk rfl ?_;((with_reducible conv=>whnf);(with_reducible conv=>congr<;>reduce);repeat((first|(with_reducible refine bQ.mk ?_)|(with_reducible refine bP.mk ?_));(with_reducible conv=>whnf);(with_reducible conv=>congr<;>reduce)))
      repeat' (first
    |(first
    |((with_reducible show bq _ _ _ _);first|refine bq.ff ?_|refine bq.tt ?_|refine bq.no (by first|rfl|assumption|exact nf (by assumption)|exact nt (by assumption)|((try simp only[az]);first|(simp[];done)|(simp[];omega))) ?_|refine bq.yes (by first|rfl|assumption|exact nf (by assumption)|exact nt (by assumption)|((try simp only[az]);first|(simp[];done)|(simp[];omega))) ?_)
    |((with_reducible show bH _ _ _ _);refine bH.mk (by(try simp only[az]);omega) ?_)
    |((with_reducible show aI _ _ _ _);refine aI.mk (by kernel_rfl) (by kernel_rfl) (by kernel_rfl) ?_))<;>((with_reducible conv=>whnf);(with_reducible conv=>congr<;>reduce);repeat((first|(with_reducible refine bQ.mk ?_)|(with_reducible refine bP.mk ?_));(with_reducible conv=>whnf);(with_reducible conv=>congr<;>reduce)))
    | ((with_reducible show(_∧_)∧_∧_);refine⟨⟨rfl,rfl⟩,?_,?_⟩<;>(with_reducible conv=>whnf)<;>repeat' (first|(with_reducible exact trivial)|(with_reducible refine And.intro ?_ ?_<;>with_reducible conv=>whnf))))
      refine dZ.take ((st'++a7.reverse.take j).map bt) [bt ((a7.reverse[j]?).getD 0)] ⟨rfl,by simp;omega,by rw[iR (l₂:=spF j),List.take_left' (by simp;omega)]⟩ ⟨rfl,rfl,rfl⟩ rfl (by simp;omega) (by simp;omega) ?_
      ((with_reducible conv=>whnf);(with_reducible conv=>congr<;>reduce);repeat((first|(with_reducible refine bQ.mk ?_)|(with_reducible refine bP.mk ?_));(with_reducible conv=>whnf);(with_reducible conv=>congr<;>reduce)))
      repeat' (first
    |(first
    |((with_reducible show bq _ _ _ _);first|refine bq.ff ?_|refine bq.tt ?_|refine bq.no (by first|rfl|assumption|exact nf (by assumption)|exact nt (by assumption)|((try simp only[az]);first|(simp[];done)|(simp[];omega))) ?_|refine bq.yes (by first|rfl|assumption|exact nf (by assumption)|exact nt (by assumption)|((try simp only[az]);first|(simp[];done)|(simp[];omega))) ?_)
    |((with_reducible show bH _ _ _ _);refine bH.mk (by(try simp only[az]);omega) ?_)
    |((with_reducible show aI _ _ _ _);refine aI.mk (by kernel_rfl) (by kernel_rfl) (by kernel_rfl) ?_))<;>((with_reducible conv=>whnf);(with_reducible conv=>congr<;>reduce);repeat((first|(with_reducible refine bQ.mk ?_)|(with_reducible refine bP.mk ?_));(with_reducible conv=>whnf);(with_reducible conv=>congr<;>reduce)))
    | ((with_reducible show(_∧_)∧_∧_);refine⟨⟨rfl,rfl⟩,?_,?_⟩<;>(with_reducible conv=>whnf)<;>repeat' (first|(with_reducible exact trivial)|(with_reducible refine And.intro ?_ ?_<;>with_reducible conv=>whnf))))
      refine DN.mk ?_
      obtain⟨c,hc⟩:∃c,a7.reverse[j]? =some c:=⟨_,bA (by simpa using hj)⟩
      have htk:a7.reverse.take (j+1)=a7.reverse.take j++ [c]:=by rw[List.take_add_one,hc];rfl
      rw[hc,Option.getD_some]
      refine⟨⟨rfl,rfl⟩,?_⟩
      (with_reducible conv=>whnf)
      repeat' (first|(with_reducible exact trivial)|(with_reducible refine And.intro ?_ ?_<;>with_reducible conv=>whnf))
      all_goals try rfl
      ·simp;omega
      ·exact⟨.refl rfl,rfl⟩
      ·exact⟨.refl rfl,rfl⟩
      ·exact⟨.refl (aa _),aa _⟩
      · refine⟨?_,aa _⟩
        rw[hs1,htk,List.append_nil,←List.append_assoc,iR (l₂:=[c])];exact .refl (by rw[←iR];exact aa _)
    · ((with_reducible conv=>whnf);(with_reducible conv=>congr<;>reduce);repeat((first|(with_reducible refine bQ.mk ?_)|(with_reducible refine bP.mk ?_));(with_reducible conv=>whnf);(with_reducible conv=>congr<;>reduce)))
      refine bh.mk (aL ⟨a1,a2,a3,a4,a5,a6,a7,a8,a9,a10⟩) rfl ?_;((with_reducible conv=>whnf);(with_reducible conv=>congr<;>reduce);repeat((first|(with_reducible refine bQ.mk ?_)|(with_reducible refine bP.mk ?_));(with_reducible conv=>whnf);(with_reducible conv=>congr<;>reduce)))
      have hT:nd l k=⟨a1,a2,a3,a4,a5,a6,a7,a8,a9,a10⟩:=hnx
      have hch:Fk (nd l k)=(if a9=-1 then[] else[a9])++a7:=by rw[hT];rfl
      have hpop:=U.AY T (st:=st') ht
      rw[hch] at hpop
      have hkid:∀c∈ (if a9=-1 then[] else[a9])++a7,af l c=true:=fun c hc=>(T.kid k ht c (by rw[hch];exact hc)).1
      have hta:a7.reverse.take a7.length=a7.reverse:=sn (by simp)
      by_cases e9:a9=-1
      · subst e9
        rw[if_pos rfl,List.nil_append] at hpop hkid
        repeat' (first
    |(first
    |((with_reducible show bq _ _ _ _);first|refine bq.ff ?_|refine bq.tt ?_|refine bq.no (by first|rfl|assumption|exact nf (by assumption)|exact nt (by assumption)|((try simp only[az]);first|(simp[];done)|(simp[];omega))) ?_|refine bq.yes (by first|rfl|assumption|exact nf (by assumption)|exact nt (by assumption)|((try simp only[az]);first|(simp[];done)|(simp[];omega))) ?_)
    |((with_reducible show bH _ _ _ _);refine bH.mk (by(try simp only[az]);omega) ?_)
    |((with_reducible show aI _ _ _ _);refine aI.mk (by kernel_rfl) (by kernel_rfl) (by kernel_rfl) ?_))<;>((with_reducible conv=>whnf);(with_reducible conv=>congr<;>reduce);repeat((first|(with_reducible refine bQ.mk ?_)|(with_reducible refine bP.mk ?_));(with_reducible conv=>whnf);(with_reducible conv=>congr<;>reduce)))
    | ((with_reducible show(_∧_)∧_∧_);refine⟨⟨rfl,rfl⟩,?_,?_⟩<;>(with_reducible conv=>whnf)<;>repeat' (first|(with_reducible exact trivial)|(with_reducible refine And.intro ?_ ?_<;>with_reducible conv=>whnf))))
        refine bZ.mk (out++ [(k:Int)],st'++a7.reverse,spF a7.length) ⟨?_,?_⟩ ?_ ?_
        ·rw[ho,hpop];simp
        · intro c hc
          rcases List.mem_append.1 hc with h|h
          ·exact hst c (by simp[h])
          ·exact hkid c (by simpa using h)
        ·simp only[jz,List.length_singleton];omega
        · refine⟨⟨rfl,rfl⟩,?_⟩
          (with_reducible conv=>whnf)
          repeat' (first|(with_reducible exact trivial)|(with_reducible refine And.intro ?_ ?_<;>with_reducible conv=>whnf))
          all_goals try rfl
          ·simp
          ·exact⟨.refl (aa _),aa _⟩
          ·simp
          · refine⟨?_,aa _⟩
            rw[hta];exact .refl (aa _)
      · rw[if_neg e9] at hpop hkid
        repeat' (first
    |(first
    |((with_reducible show bq _ _ _ _);first|refine bq.ff ?_|refine bq.tt ?_|refine bq.no (by first|rfl|assumption|exact nf (by assumption)|exact nt (by assumption)|((try simp only[az]);first|(simp[e9];done)|(simp[e9];omega))) ?_|refine bq.yes (by first|rfl|assumption|exact nf (by assumption)|exact nt (by assumption)|((try simp only[az]);first|(simp[e9];done)|(simp[e9];omega))) ?_)
    |((with_reducible show bH _ _ _ _);refine bH.mk (by(try simp only[az]);omega) ?_)
    |((with_reducible show aI _ _ _ _);refine aI.mk (by kernel_rfl) (by kernel_rfl) (by kernel_rfl) ?_))<;>((with_reducible conv=>whnf);(with_reducible conv=>congr<;>reduce);repeat((first|(with_reducible refine bQ.mk ?_)|(with_reducible refine bP.mk ?_));(with_reducible conv=>whnf);(with_reducible conv=>congr<;>reduce)))
    | ((with_reducible show(_∧_)∧_∧_);refine⟨⟨rfl,rfl⟩,?_,?_⟩<;>(with_reducible conv=>whnf)<;>repeat' (first|(with_reducible exact trivial)|(with_reducible refine And.intro ?_ ?_<;>with_reducible conv=>whnf))))
        refine bh.mk (aL ⟨a1,a2,a3,a4,a5,a6,a7,a8,a9,a10⟩) rfl ?_;((with_reducible conv=>whnf);(with_reducible conv=>congr<;>reduce);repeat((first|(with_reducible refine bQ.mk ?_)|(with_reducible refine bP.mk ?_));(with_reducible conv=>whnf);(with_reducible conv=>congr<;>reduce)))
        repeat' (first
    |(first
    |((with_reducible show bq _ _ _ _);first|refine bq.ff ?_|refine bq.tt ?_|refine bq.no (by first|rfl|assumption|exact nf (by assumption)|exact nt (by assumption)|((try simp only[az]);first|(simp[e9];done)|(simp[e9];omega))) ?_|refine bq.yes (by first|rfl|assumption|exact nf (by assumption)|exact nt (by assumption)|((try simp only[az]);first|(simp[e9];done)|(simp[e9];omega))) ?_)
    |((with_reducible show bH _ _ _ _);refine bH.mk (by(try simp only[az]);omega) ?_)
    |((with_reducible show aI _ _ _ _);refine aI.mk (by kernel_rfl) (by kernel_rfl) (by kernel_rfl) ?_))<;>((with_reducible conv=>whnf);(with_reducible conv=>congr<;>reduce);repeat((first|(with_reducible refine bQ.mk ?_)|(with_reducible refine bP.mk ?_));(with_reducible conv=>whnf);(with_reducible conv=>congr<;>reduce)))
    | ((with_reducible show(_∧_)∧_∧_);refine⟨⟨rfl,rfl⟩,?_,?_⟩<;>(with_reducible conv=>whnf)<;>repeat' (first|(with_reducible exact trivial)|(with_reducible refine And.intro ?_ ?_<;>with_reducible conv=>whnf))))
        refine dZ.take ((st'++a7.reverse).map bt) [ah a9] ⟨rfl,by simp,by rw[hta,iR (l₂:=spF a7.length),List.take_left' (by simp)]⟩ ⟨rfl,rfl,rfl⟩ rfl (by simp;omega) (by simp;omega) ?_
        ((with_reducible conv=>whnf);(with_reducible conv=>congr<;>reduce);repeat((first|(with_reducible refine bQ.mk ?_)|(with_reducible refine bP.mk ?_));(with_reducible conv=>whnf);(with_reducible conv=>congr<;>reduce)))
        repeat' (first
    |(first
    |((with_reducible show bq _ _ _ _);first|refine bq.ff ?_|refine bq.tt ?_|refine bq.no (by first|rfl|assumption|exact nf (by assumption)|exact nt (by assumption)|((try simp only[az]);first|(simp[e9];done)|(simp[e9];omega))) ?_|refine bq.yes (by first|rfl|assumption|exact nf (by assumption)|exact nt (by assumption)|((try simp only[az]);first|(simp[e9];done)|(simp[e9];omega))) ?_)
    |((with_reducible show bH _ _ _ _);refine bH.mk (by(try simp only[az]);omega) ?_)
    |((with_reducible show aI _ _ _ _);refine aI.mk (by kernel_rfl) (by kernel_rfl) (by kernel_rfl) ?_))<;>((with_reducible conv=>whnf);(with_reducible conv=>congr<;>reduce);repeat((first|(with_reducible refine bQ.mk ?_)|(with_reducible refine bP.mk ?_));(with_reducible conv=>whnf);(with_reducible conv=>congr<;>reduce)))
    | ((with_reducible show(_∧_)∧_∧_);refine⟨⟨rfl,rfl⟩,?_,?_⟩<;>(with_reducible conv=>whnf)<;>repeat' (first|(with_reducible exact trivial)|(with_reducible refine And.intro ?_ ?_<;>with_reducible conv=>whnf))))
        refine bZ.mk (out++ [(k:Int)],st'++a7.reverse++ [a9],[]) ⟨?_,?_⟩ ?_ ?_
        ·rw[ho,hpop];simp
        · intro c hc
          rcases List.mem_append.1 hc with h|h
          · rcases List.mem_append.1 h with h|h
            ·exact hst c (by simp[h])
            ·exact hkid c (by simp at h;simp[h])
          ·exact hkid c (by simp at h;simp[h])
        ·simp only[jz,List.length_singleton];omega
        · refine⟨⟨rfl,rfl⟩,?_⟩
          (with_reducible conv=>whnf)
          repeat' (first|(with_reducible exact trivial)|(with_reducible refine And.intro ?_ ?_<;>with_reducible conv=>whnf))
          all_goals try rfl
          ·simp
          ·exact⟨.refl (aa _),aa _⟩
          ·simp
          · refine⟨?_,aa _⟩
            rw[List.append_nil,iR (l₂:=[a9])];exact .refl (by rw[←iR];exact aa _)
end Go.Proofs.Heir
namespace Go.Proofs.Heir
open Go.Am Go.RowKit Go.Lib
set_option maxRecDepth 100000
set_option maxHeartbeats 8000000
theorem B8 (w:World)(ty:TypeId)(b o n c:Nat)(e:TypeId)(C:Array Value)(h:w.heap[b]? =some (.cells C e (0,0)))(hn:0<n)(hl:o+n≤C.size):
    ∃C',(Builtin.clear_ #[33] ty #[.slice (some ⟨b,o,none⟩) n c]).run Tryz.prog w=.ok (.tuple #[]) (w.setRow b C')∧C'.size=C.size∧∀q,q<o→C'[q]? =C[q]? :=by
  obtain⟨Z,hZ⟩:∃Z:List Value,(Builtin.zeroCells (Value.int .i64 0).cells n).toList=Z:=⟨_,rfl⟩
  have hsz:Z.length=n:=by
    rw[←hZ,Array.length_toList,size_zeroCells];exact Nat.mul_one n
  have hone:∀v∈Z,v.oneCell'=true:=by
    intro v hv
    rw[←hZ,Array.mem_toList_iff,Builtin.zeroCells,Array.mem_map] at hv
    obtain⟨i,_,rfl⟩:=hv
    show(#[Value.int .i64 0][i%1]!).oneCell'=true
    rw[Nat.mod_one];rfl
  have hst:=run_storeCells_at (P:=Tryz.prog) b o e Z 0 C w h (by rw[hsz];omega) hone
  rw[Nat.add_zero] at hst
  refine⟨(C.toList.take o++Z++C.toList.drop (o+Z.length)).toArray,?_,?_,?_⟩
  · obtain⟨m,rfl⟩:∃m,n=m+1:=⟨n-1,by omega⟩
    have hu:=Tryz.underlying33
    have hz:=Tryz.zeroValue3
    simp[Builtin.clear_,run_underlying hu,hz,hZ,hst]
  ·simp[hsz];omega
  · intro q hq
    simp only[List.getElem?_toArray]
    rw[List.append_assoc,rW (by simp;omega),List.getElem?_take,if_pos hq,Array.getElem?_toList]
theorem BO (blk off cap n i j:Nat)(C:Array Value)(e:TypeId)(w:World)(hC:w.heap[blk]? =some (.cells C e (0,0)))(hfit:off+cap≤C.size)(hn:n≤cap)(hij:i<j)(hj:j≤n)
    (hone:∀q v,q<n→C[off+q]? =some v→v.oneCell'=true):
    Calls Tryz.prog 145 #[.slice (some ⟨blk,off,none⟩) n cap,.int .i64 i,.int .i64 j] w fun e' w'=>e'=.returned (.slice (some ⟨blk,off,none⟩) (i+ (n-j)) cap)∧
      ∃C',w'=w.drew.setRow blk C'∧C'.size=C.size∧∀q,q< (i+ (n-j))→C'[off+q]? =if q<i then C[off+q]? else C[off+q+ (j-i)]? :=by
  obtain⟨news,hnews⟩:∃news,news=(C.toList.drop (off+j)).take ((n-j)):=⟨_,rfl⟩
  have hCl:C.toList.length=C.size:=Array.length_toList
  have hlen:news.length=(n-j):=by rw[hnews,gE,List.length_drop,hCl];omega
  have hget:∀t,t< (n-j)→news[t]? =C[off+j+t]? :=by
    intro t ht
    rw[hnews,List.getElem?_take,if_pos ht,List.getElem?_drop,Array.getElem?_toList]
  have hcell:∀q,w.drew.cell? ⟨blk,q,none⟩=C[q]? :=fun q=>by
    show w.cell? _=_
    simp[World.cell?,hC]
  obtain ⟨A,hA,hsrc⟩:∃A:Addr,(if cap=j then some (⟨blk,off,none⟩:Addr) else some ⟨blk,off+j,none⟩)=some A∧Hid (∀t u,news[t]? =some u→w.drew.cell? (A.add t)=some u):=by
    by_cases h:cap=j
    · refine⟨⟨blk,off,none⟩,by simp[h],fun t u hu=>?_⟩
      have h0:news.length=0:=by rw[hlen];omega
      rw[List.length_eq_zero_iff.1 h0] at hu
      simp at hu
    · refine⟨⟨blk,off+j,none⟩,by simp[h],fun t u hu=>?_⟩
      have ht:t< (n-j):=by
        have:=(bj hu).1
        rwa [hlen] at this
      rw[hget t ht] at hu
      rw[Addr.add_lit,hcell]
      exact hu
  have s1:Hid (news.length=(n-j)):=hlen
  have s2:Hid (∀u∈news,u.oneCell'=true):=by
    intro u hu
    obtain⟨t,ht⟩:=List.getElem?_of_mem hu
    have hlt:=(bj ht).1
    rw[hlen] at hlt
    rw[hget t hlt,Nat.add_assoc] at ht
    exact hone _ u (by omega) ht
  have s3:Hid (∀t,t<news.length→(w.drew.cell? ⟨blk,off+i+t,none⟩).isSome=true∧w.drew.frozen? ⟨blk,off+i+t,none⟩=false):=by
    intro t ht
    rw[hlen] at ht
    refine⟨?_,?_⟩
    ·rw[hcell,Array.getElem?_eq_getElem (by omega)];rfl
    · show w.frozen? _=false
      simp[World.frozen?,hC]
  obtain⟨C1,hC1,hC1s,hC1q⟩:=fQ blk e (0,0) news (off+i) C w.drew hC (by rw[hlen];omega)
  obtain⟨W1,hW1⟩:∃W1,W1=w.drew.setCells blk (off+i) news:=⟨_,rfl⟩
  have hW1h:W1.heap[blk]? =some (.cells C1 e (0,0)):=by rw[hW1,hC1];exact setRow_heap w.drew blk C C1 e (0,0) hC
  obtain⟨C2,hcl0,hC2s,hC2q⟩:=B8 W1 0 blk (off+ (i+ (n-j))) (n- (i+ (n-j))) (cap- (i+ (n-j))) e C1 hW1h (by omega) (by omega)
  have hcl:∀ty,(Builtin.clear_ #[33] ty #[.slice (some ⟨blk,off+ (i+ (n-j)),none⟩) (n- (i+ (n-j))) (cap- (i+ (n-j)))]).run Tryz.prog W1=.ok (.tuple #[]) (W1.setRow blk C2):=fun ty=>hcl0
  have hW:Hid (W1=w.drew.setCells blk (off+i) news):=hW1
  have hfin:Hid (W1.setRow blk C2=w.drew.setRow blk C2∧C2.size=C.size∧∀q,q< (i+ (n-j))→C2[off+q]? =if q<i then C[off+q]? else C[off+q+ (j-i)]?):=by
    refine⟨by rw[hW1,hC1,setRow_setRow],by omega,fun q hq=>?_⟩
    rw[hC2q _ (by omega),hC1q,hlen]
    by_cases h:q<i
    ·rw[if_pos h,if_neg (by omega)]
    · rw[if_neg h,if_pos (by omega),hget _ (by omega)]
      congr 1;omega
  have hic:i≤cap:=by omega
  have hjc:j≤cap:=by omega
  obtain⟨i0,hi0,hz1⟩:∃i0,Tryz.prog.info? 3=some i0∧i0.size=1:=⟨(Tryz.prog.info? 3).getD default,by kernel_rfl,by kernel_rfl⟩
  clear hW1 hW1h hC1 hC1s hC1q hC2s hC2q hcl0 hget hcell hnews hlen hone hC hCl
  have mixed:Tryz.prog.follows Departure.mixedOrders=true:=by kernel_rfl
  go_enter Tryz.func145,Tryz.ntmps145
  go_wp2_with fail
  go_region_law_o (refine step_append_room rfl (.tmp 22) (.tmp 25) 33 rfl 3 i0 1 Tryz.underlying33 hi0 hz1 blk off i cap (by simp[Act.eval,Act.put]) A (n-j) (cap-j) news (by simp[Act.eval,Act.put]) (by rw[Nat.mul_one];exact s1.out) hsrc.out s2.out (by omega) (by simpa only[Nat.mul_one] using s3.out) ?_;rw[show off+i*1=off+i from by rw[Nat.mul_one],←hW.out])
  go_wp2
  go_ret
  exact⟨rfl,C2,hfin.out⟩
theorem o9 {rows:List AV}(hone:jP (flat rows)=true)(i j:Nat)(hij:i<j)(hj:j≤rows.length):
    aj Tryz.prog 145 [.live 1 rows false] [.own 0 0 rows.length,ah i,ah j] [.dead,.live 1 (rows.take i++rows.drop j) false] (.own 1 0 (i+ (rows.length-j))):=by
  intro w W0 L vs hL hs hr
  obtain⟨v0,v1,v2,rfl⟩:∃v0 v1 v2,vs=[v0,v1,v2]:=by
    have:=hr.1
    match vs,this with
    |[a,b,c],_=>exact⟨a,b,c,rfl⟩
  have h1:=hr.2 1 _ v1 rfl rfl
  have h2:=hr.2 2 _ v2 rfl rfl
  cases h1;cases h2
  have h0:=hr.2 0 _ v0 rfl rfl
  obtain⟨B,hB,hobj⟩:=hs.objs 0 1 rows false rfl
  generalize hn:rows.length=n at h0
  cases h0 with
  |ownNil a1=>omega
  | @own _ _ _ cap e' n' B' a1 av ap a2 a3 a4=>
    rw[hB] at a1;cases a1
    subst hn
    obtain⟨C,e,fz,c1,c2,c3⟩:=hobj.blk av ap
    rw[c2 rfl] at c1
    have hwd:=hobj.width
    have hn':C.size=n':=by simp[World.shape?,c1] at a3;exact a3.2
    rw[hwd,Nat.zero_mul,Nat.add_zero]
    rw[hwd,Nat.zero_add] at a4
    have hfl:=cQ hobj.wide
    have hcell:∀ (q:Nat) (c:AV),(flat rows)[q]? =some c→∃v,C[B.o+q]? =some v∧cD (Wr W0 L (aH [.live 1 rows false])) L w c v:=fun q c hq=>by
      obtain⟨v,k1,k2⟩:=hobj.cell ap q c hq
      exact⟨v,by simpa[World.cell?,c1] using k1,k2⟩
    refine(BO B.b B.o cap rows.length i j C e w c1 (by omega) a2 hij hj (fun q v hq hv=>?_)).mono ?_
    · obtain⟨v',k1,k2⟩:=hcell q _ (bA (by rw[hfl];omega))
      rw[hv] at k1;cases k1
      exact k2.one (List.all_eq_true.1 hone _ (List.getElem_mem _))
    · rintro e2 w' ⟨rfl,C',rfl,hsz,hq⟩
      have hwide:bJ 1 (rows.take i++rows.drop j):=(hobj.wide.sub fun r hr=>List.mem_of_mem_take hr).append (hobj.wide.sub fun r hr=>List.mem_of_mem_drop hr)
      have hlen:(rows.take i++rows.drop j).length=i+ (rows.length-j):=by simp;omega
      have hre:=(hs.drawn (w.drawn+1)).reuse (t:=0) (tn:=1) (off:=0) (rows':=rows.take i++rows.drop j) (C':=C') rfl hB av rfl c1 hsz hwide (by rw[hlen];omega) (fun q c hc=>by
        rw[gZ,lB hobj.wide,k8 hobj.wide,List.getElem?_append,gE,hfl,Nat.min_eq_left (by omega)] at hc
        have hlt:=hq q
        rw[Nat.zero_mul,Nat.add_zero]
        split at hc
        · rename_i hql
          rw[List.getElem?_take,if_pos hql] at hc
          obtain⟨v,k1,k2⟩:=hcell q c hc
          exact⟨v,by rw[hq q (by omega),if_pos (by omega)];exact k1,k2.grow (Grow.drawn _)⟩
        · rename_i hql
          rw[List.getElem?_drop] at hc
          have hin:=(bj hc).1
          rw[hfl] at hin
          obtain⟨v,k1,k2⟩:=hcell _ c hc
          refine⟨v,?_,k2.grow (Grow.drawn _)⟩
          rw[hq q (by omega),if_neg (by omega),←k1]
          congr 1;omega)
      have hst:(⟨(bare [.live 1 rows false]).slots,br (bare [.live 1 rows false]).mem [(1,.live 1 (rows.take i++rows.drop j) false),(0,.dead)]⟩:aA)=bare [.dead,.live 1 (rows.take i++rows.drop j) false]:=by
        unfold bare
        congr 1
        funext t
        match t with
        |0=>rfl
        |1=>rfl
        |t+2=>simp[br,aH]
      rw[hst] at hre
      refine⟨_,_,rfl,hre,?_⟩
      have:=cD.own (W:=Wr W0 (bz L 1 ⟨B.b,B.o+0,1,false,false⟩) (aH [.dead,.live 1 (rows.take i++rows.drop j) false])) (μ:=bz L 1 ⟨B.b,B.o+0,1,false,false⟩)
        (w:=w.drew.setRow B.b C') (t:=1) (off:=0) (len:=i+ (rows.length-j)) (cap:=cap) (e:=e) (n:=C.size) (B:=⟨B.b,B.o+0,1,false,false⟩) (by simp[bz]) rfl rfl (by omega)
        (by simp[World.shape?,setRow_heap w.drew B.b C C' e (0,0) c1,hsz]) (by simp only[Nat.zero_add];omega)
      simpa using this
end Go.Proofs.Heir
section
namespace Go.Proofs.Heir
open Go Go.Am Go.RowKit Go.Lib
set_option maxRecDepth 100000
set_option maxHeartbeats 8000000
@[reducible] def sX : ByteArray := ⟨⟨[102, 111, 114, 109]⟩⟩
@[reducible] def Pc : ByteArray := ⟨⟨[105, 100]⟩⟩
def kS (x:ai):Bool:=decide (x.kind=1)&&decide (x.name=sX)
def Ky (x:ai)(w:ByteArray):Option ByteArray:=if 0≤ck x.attrs w then some (rq x.attrs w) else none
def N6 (x:ai)(w:ByteArray):Option ByteArray:=if 0≤wu x.attrs w then some (((x.attrs[(wu x.attrs w).toNat]?).map AttrM.value).getD kD) else none
def jh (l:List ai)(q:Int→Bool)(n:Int):Int:=((bL l n).tail.find? q).getD (-1)
def xu (l:List ai)(n:Int):Int:=jh l (fun p=>kS (nd l p)) n
def Lo (l:List ai)(n:Int):Int:=jh l (fun p=>decide ((nd l p).name=sX)) n
def fq (l:List ai)(n:Int):Int:=((bL l n).getLast?).getD n
def zf (l:List ai)(r:Int)(v:ByteArray):Option Int:=(cm l l.length r).find? fun k=>decide (Ky (nd l k) Pc=some v)
def L5 (l:List ai)(r:Int)(v:ByteArray):Option Int:=(cm l l.length r).find? fun k=>decide (N6 (nd l k) Pc=some v)
def MW (l:List ai)(n:Int):Bool:=decide ((nd l (sr l n)).kind=0)
def N1 (l:List ai)(n:Int)(v:ByteArray):Int:=
 match zf l (fq l n) v with
 |some k=>if v≠ ⟨#[]⟩∧kS (nd l k)=true then k else-1
 |none=> -1
def A6 (l:List ai)(n:Int):Int:=
 if(nd l n).kind=1 then
  match Ky (nd l n) sX with
  |some v=>if MW l n=true then N1 l n v else xu l n
  |none=>xu l n
 else-1
def Ot (l:List ai)(n:Int)(v:ByteArray):Int:=
 if v=⟨#[]⟩ then-1 else
 match L5 l (fq l n) v with
 |some k=>if(nd l k).name=sX then k else-1
 |none=> -1
def Pp (l:List ai)(n:Int):Int:=
 if(nd l n).kind=1 then
  match N6 (nd l n) sX with
  |some v=>if MW l n=true then Ot l n v else Lo l n
  |none=>Lo l n
 else-1
variable {l : List ai}
theorem BH (T:Tree l){n:Int}(hn:af l n=true)(hp:(nd l n).parent=-1):fq l n=n:=by
 unfold fq;rw[eJ T hn hp];rfl
theorem xW (T:Tree l){n:Int}(hn:af l n=true)(hp:(nd l n).parent≠-1):fq l n=fq l (nd l n).parent:=by
 obtain⟨r,hr⟩:=eB T (T.par n hn hp).1
 unfold fq;rw[cn T hn hp,hr,List.getLast?_cons_cons]
 cases h:((nd l n).parent::r).getLast? with
 |none=>simp at h
 |some a=>rfl
theorem lX (T:Tree l):∀n,af l n=true→af l (fq l n)=true∧(nd l (fq l n)).parent=-1∧fq l n∈bL l n:=by
 refine iO T (fun n hn h=>?_) (fun n hn h hu ih=>?_)
 ·rw[BH T hn h];exact⟨hn,h,cI T hn⟩
 ·rw[xW T hn h];exact⟨ih.1,ih.2.1,by rw[cn T hn h];exact dQ _ ih.2.2⟩
theorem AG (T:Tree l):∀n,af l n=true→∀a∈bL l n,fq l a=fq l n:=by
 refine iO T (fun n hn h a ha=>?_) (fun n hn h hu ih a ha=>?_)
 ·rw[eJ T hn h] at ha;rw[ic.1 ha]
 ·rw[cn T hn h] at ha
  rcases dP.1 ha with rfl|h'
  ·rfl
  ·rw[xW T hn h];exact ih a h'
theorem Ga (T:Tree l){n:Int}(hn:af l n=true):n∈cm l l.length (fq l n):=by
 obtain⟨h1,_,h3⟩:=lX T n hn
 exact(mL T h1 hn).2 h3
theorem Bv (T:Tree l){r n:Int}(hr:af l r=true)(h:n∈cm l l.length r):af l n=true∧r∈bL l n∧fq l n=fq l r:=by
 obtain⟨h1,h2⟩:=eP T _ r hr n h
 exact⟨h1,h2,(AG T n h1 r h2).symm⟩
theorem xj (T:Tree l){n:Int}(hn:af l n=true):fq l (fq l n)=fq l n:=by
 obtain⟨h1,h2,_⟩:=lX T n hn
 exact BH T h1 h2
theorem FK (T:Tree l)(q:Int→Bool){n:Int}(hn:af l n=true)(hp:(nd l n).parent≠-1):jh l q n=if q (nd l n).parent=true then(nd l n).parent else jh l q (nd l n).parent:=by
 obtain⟨r,hr⟩:=eB T (T.par n hn hp).1
 unfold jh
 rw[cn T hn hp,List.tail_cons,hr,List.find?_cons,List.tail_cons]
 cases h:q (nd l n).parent<;>simp
theorem IC (T:Tree l)(q:Int→Bool){n:Int}(hn:af l n=true)(hp:(nd l n).parent=-1):jh l q n=-1:=by
 unfold jh;rw[eJ T hn hp];rfl
theorem FZ (T:Tree l)(q:Int→Bool):∀n,af l n=true→
  (jh l q n=-1∧∀a∈bL l n,a≠n→q a=false)∨
  (jh l q n∈bL l n∧jh l q n≠n∧q (jh l q n)=true∧∀a∈bL l n,a≠n→q a=true→a∈bL l (jh l q n)):=by
 refine iO T (fun n hn h=>?_) (fun n hn h hu ih=>?_)
 ·left
  refine⟨IC T q hn h,fun a ha hne=>?_⟩
  rw[eJ T hn h] at ha
  exact absurd (ic.1 ha) hne
 ·have hne:∀a∈bL l (nd l n).parent,a≠n:=by
   intro a ha e
   subst e
   have h1:=cn T hn h
   obtain⟨t,ht⟩:=ik T _ hu a ha
   rw[ht] at h1
   have:=congrArg List.length h1
   simp at this
   omega
  rw[FK T q hn h]
  have hw:=cn T hn h
  cases hq:q (nd l n).parent with
  | true=>
    rw[if_pos rfl]
    right
    refine⟨by rw[hw];exact dQ _ (cI T hu),hne _ (cI T hu),hq,fun a ha hna _=>?_⟩
    rw[hw] at ha
    exact(dP.1 ha).resolve_left hna
  | false=>
    rw[if_neg (by simp)]
    rcases ih with⟨h1,h2⟩|⟨h1,h2,h3,h4⟩
    ·left
     refine⟨h1,fun a ha hna=>?_⟩
     rw[hw] at ha
     have ha':=(dP.1 ha).resolve_left hna
     by_cases e:a=(nd l n).parent
     ·rw[e];exact hq
     ·exact h2 a ha' e
    ·right
     refine⟨by rw[hw];exact dQ _ h1,hne _ h1,h3,fun a ha hna hqa=>?_⟩
     rw[hw] at ha
     have ha':=(dP.1 ha).resolve_left hna
     refine h4 a ha' (fun e=>?_) hqa
     rw[e,hq] at hqa;cases hqa
theorem Fg (T:Tree l){n:Int}(hn:af l n=true):kS (nd l n)=decide ((nd l n).name=sX):=by
 unfold kS
 rcases BF T hn with h|⟨h1,h2,_⟩
 ·rw[h];simp
 ·rw[h2];simp[h1]
theorem Cu {r:Int}{v:ByteArray}{k:Int}(h:zf l r v=some k):k∈cm l l.length r∧Ky (nd l k) Pc=some v:=
 ⟨List.mem_of_find?_eq_some h,by have:=List.find?_some h;simpa using this⟩
theorem F4 (T:Tree l){n:Int}(hn:af l n=true)(h:A6 l n≠-1):af l (A6 l n)=true∧kS (nd l (A6 l n))=true∧fq l (A6 l n)=fq l n∧(nd l n).kind=1:=by
 have hnear:xu l n≠-1→af l (xu l n)=true∧kS (nd l (xu l n))=true∧fq l (xu l n)=fq l n:=by
  intro h
  rcases FZ T (fun p=>kS (nd l p)) n hn with⟨h1,_⟩|⟨h1,_,h3,_⟩
  ·exact absurd h1 h
  ·exact⟨jJ T n hn _ h1,h3,AG T n hn _ h1⟩
 unfold A6 at h ⊢
 by_cases hk:(nd l n).kind=1
 ·rw [if_pos hk] at h ⊢
  cases ha:Ky (nd l n) sX with
  | none=>
    rw[ha] at h
    exact⟨(hnear h).1,(hnear h).2.1,(hnear h).2.2,hk⟩
  | some v=>
    rw[ha] at h
    simp only at h ⊢
    by_cases hc:MW l n=true
    ·rw [if_pos hc] at h ⊢
     unfold N1 at h ⊢
     cases hf:zf l (fq l n) v with
     |none=>rw[hf] at h;exact absurd rfl h
     | some k=>
       rw[hf] at h
       simp only at h ⊢
       by_cases e:v≠ ⟨#[]⟩∧kS (nd l k)=true
       ·rw[if_pos e] at h ⊢
        obtain⟨h1,h2,h3⟩:=Bv T (lX T n hn).1 (Cu hf).1
        exact⟨h1,e.2,by rw[h3,xj T hn],hk⟩
       ·rw[if_neg e] at h;exact absurd rfl h
    ·rw[if_neg hc] at h ⊢
     exact⟨(hnear h).1,(hnear h).2.1,(hnear h).2.2,hk⟩
 ·rw[if_neg hk] at h;exact absurd rfl h
def Ms (l:List ai)(x:Int):List Int:=(cm l l.length (fq l x)).filter fun k=>decide (A6 l k=x)
def pq (l:List ai)(x:Int):List Int:=(cm l l.length (fq l x)).filter fun k=>decide (Pp l k=x)
end Go.Proofs.Heir
end
section
namespace Go.Proofs.Heir
open Go Go.Am Go.RowKit Go.Lib
set_option maxRecDepth 100000
set_option maxHeartbeats 8000000
variable {l : List ai}
def Kl (l:List ai)(x:Int):List Int:=if kS (nd l x)=true then Ms l x else[]
theorem EB (T:Tree l){x:Int}(hx:af l x=true){c:Int}(h:c∈Kl l x):af l c=true∧A6 l c=x∧fq l c=fq l x∧(nd l x).name=sX:=by
 unfold Kl at h
 by_cases hf:kS (nd l x)=true
 ·rw[if_pos hf] at h
  unfold Ms at h
  obtain⟨h1,h2⟩:=List.mem_filter.1 h
  obtain⟨g1,_,g3⟩:=Bv T (lX T x hx).1 h1
  rw[xj T hx] at g3
  rw[Fg T hx] at hf
  exact⟨g1,by simpa using h2,g3,of_decide_eq_true hf⟩
 ·rw[if_neg hf] at h;cases h
theorem mem_iff (T:Tree l){x:Int}(hx:af l x=true){c:Int}(hc:af l c=true):c∈Kl l x↔A6 l c=x:=by
 constructor
 ·intro h;exact(EB T hx h).2.1
 ·intro h
  have h0:=bf hx
  obtain⟨_,a2,a3,_⟩:=F4 T hc (by omega)
  rw[h] at a2 a3
  unfold Kl Ms
  rw[if_pos a2,List.mem_filter,a3]
  exact⟨Ga T hc,by simpa using h⟩
end Go.Proofs.Heir
end
namespace Go.Proofs.Heir
open Go Go.Am Go.RowKit Go.Lib
set_option maxRecDepth 100000
set_option maxHeartbeats 8000000


end Go.Proofs.Heir
section
namespace Go.Proofs.Heir
open Go Go.Am Go.RowKit Go.Lib
set_option maxRecDepth 100000
set_option maxHeartbeats 8000000
namespace V
variable {l : List ai}
theorem nW (T:Tree l):∀ (m:Nat) (n:Int),af l n=true→l.length+1≤m+ (bL l n).length→cm l (m+1) n=cm l m n
 |0,n,_,h=>by have:=l9 (l:=l) n;omega
 | m+1,n,hn,h=>by
   rw[cm,cm]
   congr 1
   refine gB fun k hk=>?_
   refine nW T m k (T.kid n hn k hk).1 ?_
   rw[eM T hn hk];simp;omega
theorem ord_eq (T:Tree l){n:Int}(hn:af l n=true):cm l l.length n=n::(nd l n).kids.flatMap (cm l l.length):=by
 have h0:=bf hn
 obtain⟨m,hm⟩:∃m,l.length=m+1:=⟨l.length-1,by omega⟩
 have h1:∀k∈ (nd l n).kids,cm l l.length k=cm l m k:=fun k hk=>by
  rw[hm]
  refine nW T m k (T.kid n hn k hk).1 ?_
  obtain⟨r,hr⟩:=eB T hn
  rw[eM T hn hk,hr];simp;omega
 conv=>lhs;rw[hm,cm]
 congr 1
 exact gB fun k hk=>(h1 k hk).symm
def rest (l:List ai)(st:List Int):List Int:=st.reverse.flatMap (cm l l.length)
theorem AY (T:Tree l){st:List Int}{t:Int}(ht:af l t=true):rest l (st++ [t])=t::rest l (st++ (nd l t).kids.reverse):=by
 unfold rest
 rw[List.reverse_append,List.reverse_append,List.reverse_reverse]
 simp only[List.reverse_cons,List.reverse_nil,List.nil_append,List.cons_append,List.flatMap_cons,List.flatMap_append]
 rw[ord_eq T ht];rfl
theorem Bh (T:Tree l):∀ {st:List Int},(∀c∈st,af l c=true)→st.length≤ (rest l st).length:=by
 intro st h
 unfold rest
 have:∀s:List Int,(∀c∈s,af l c=true)→s.length≤ (s.flatMap (cm l l.length)).length:=by
  intro s
  induction s with
  |nil=>intro _;exact Nat.le_refl _
  | cons a r ih=>
    intro h
    have h1:=ih fun c hc=>h c (dQ _ hc)
    rw[List.flatMap_cons,jz,ord_eq T (h a eS),List.length_cons,List.length_cons]
    omega
 have:=this st.reverse fun c hc=>h c (by simpa using hc)
 simpa using this
end V
end Go.Proofs.Heir
end
