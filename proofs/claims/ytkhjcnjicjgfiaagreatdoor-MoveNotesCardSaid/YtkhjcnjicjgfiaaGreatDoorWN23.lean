/- Models, plain laws and contracts of functions of the given program; conditions as stated in each theorem. By an AI agent. -/
import Derived.Test.YtkhjcnjicjgfiaaGreatDoorWN22
import Derived.Test.YtkhjcnjicjgfiaaGreatDoorWN15
import Derived.Test.YtkhjcnjicjgfiaaGreatDoorWN19
import Derived.Test.YtkhjcnjicjgfiaaGreatDoorWN17
set_option linter.unusedSimpArgs false
set_option linter.unusedVariables false
namespace Go.Proofs.Heir
open Go Go.Am Go.RowKit Go.Lib
set_option maxRecDepth 100000
set_option maxHeartbeats 8000000
section
variable {l : List ai} {a b ta tb : Nat} {y : ai}
theorem AG:aO l l.length ta l.length tb=l.map bF:=by
  apply List.ext_getElem?
  intro i
  unfold aO
  rw[List.getElem?_mapIdx,fI]
  cases h:l[i]? with
  |none=>rfl
  | some y=>
    have:=(aY h).1
    show some (dZ l.length ta l.length tb i y)=some (bF y)
    unfold dZ
    rw[if_neg (by omega),if_neg (by omega)]
theorem gD {a' b':Nat}{x:AV}{k:Nat}(h:∀i z,l[i]? =some z→dZ a ta b tb i z=if i=k then x else dZ a' ta b' tb i z):(aO l a' ta b' tb).set (0+k) x=aO l a ta b tb:=by
  apply List.ext_getElem?
  intro j
  unfold aO
  rw[Nat.zero_add,List.getElem?_set,List.getElem?_mapIdx,List.getElem?_mapIdx,List.length_mapIdx]
  cases e:l[j]? with
  | none=>
    have:¬k<l.length∨k≠j:=by
      by_cases c:k=j
      ·subst c;left;rw[List.getElem?_eq_none_iff] at e;omega
      ·exact .inr c
    rcases this with c|c
    · by_cases d:k=j
      ·rw[if_pos d,if_neg c];rfl
      ·rw[if_neg d];rfl
    ·rw[if_neg c];rfl
  | some z=>
    have:=(aY e).1
    show _=some (dZ a ta b tb j z)
    rw[h j z e]
    by_cases d:k=j
    ·subst d;rw[if_pos rfl,if_pos this,if_pos rfl]
    ·rw[if_neg d,if_neg (fun q=>d q.symm)];rfl
theorem bu {m:ML}{fz:Nat→Bool}{tab:List (Nat×Nat)}{ta' tb' k:Nat}(h1:a<l.length→oG tab ta'=some ta)(h2:b<l.length→oG tab tb'=some tb):gb (MF tab fz m (k+2)) (aO l a ta' b tb') (aO l a ta b tb):=
  ⟨by rw[bM,bM],fun i x z hx hz=>by
    obtain⟨y,hy,rfl⟩:=lg hx
    obtain⟨y2,hy2,rfl⟩:=lg hz
    rw[hy] at hy2;cases hy2
    have hi:=(aY hy).1
    have key:∀u u':Nat,oG tab u'=some u→MF tab fz m (k+2) (dF y u') (dF y u):=fun u u' h=>by
      have hw:MF tab fz m (k+1) (.own u' 0 y.kids.length) (.own u 0 y.kids.length):=by simp[MF,h]
      exact⟨rfl,rfl,rfl,rfl,jn _ _ rfl,rfl,hw,rfl,rfl,rfl,trivial⟩
    unfold dZ
    by_cases e:i=a
    ·rw[if_pos e,if_pos e];exact key _ _ (h1 (e▸hi))
    · rw[if_neg e,if_neg e]
      by_cases c:i=b
      ·rw[if_pos c,if_pos c];exact key _ _ (h2 (c▸hi))
      ·rw[if_neg c,if_neg c];exact jn _ _ (ko y)⟩
end
@[reducible] def aA (l : List Int) : MS := .live 1 (l.map bU) false
theorem mR (l:List Int):jL [aA l]:=⟨bG.ja fun x hx=>by
  obtain⟨a,_,rfl⟩:=List.mem_map.1 hx;rfl,aa l,trivial⟩
theorem Bj (l:List Int)(hl:l.length≤100000):ak Tryz.prog 72 [] [cN l] [aA l] (.own 0 0 l.length):=by
  have hlm:(l.map bU).length=l.length:=bW ..
  refine ak.aD (rvs:=[.tmp 2]) G au Tryz.func72 rfl Tryz.ntmps72 rfl rfl ?_;with_reducible refine wD ?_
  refine mO.mk (fun h=>?_) (fun _=>?_)<;>with_reducible refine wK ?_
  · obtain rfl:l=[]:=by simpa using h
    (refine eK ?_ ?_<;>with_reducible repeat' (first|exact trivial|(show _∧_;refine aK ?_ ?_)))
    all_goals first|rfl|trivial
  · refine iT.mk [] (l.map bU) ⟨rfl,rfl,rfl⟩ ⟨rfl,rfl,rfl⟩ (kR bU (fun _=>rfl) l) (by simp;omega) (by simp;omega) ?_;with_reducible refine wK ?_
    (refine eK ?_ ?_<;>with_reducible repeat' (first|exact trivial|(show _∧_;refine aK ?_ ?_)))
    ·exact hlm.symm
    ·exact bP (aa l)
@[reducible] def KQ (m : Int) (l : List ai) (a b : Nat) (ka kb : List Int) : Bool → Bool → ML
  |false,false=>[(120,aL m l.length 74 (.own 93 0 0)),(93,.live 9 [] false),(74,aQ l l.length 81 l.length 91)]
  |true,false=>[(120,aL m l.length 74 (.own 93 0 0)),(93,.live 9 [] false),(81,aA ka),(74,aQ l a 81 l.length 91)]
  |false,true=>[(120,aL m l.length 74 (.own 93 0 0)),(93,.live 9 [] false),(91,aA kb),(74,aQ l l.length 81 b 91)]
  |true,true=>[(120,aL m l.length 74 (.own 93 0 0)),(93,.live 9 [] false),(81,aA ka),(91,aA kb),(74,aQ l a 81 b 91)]
theorem IA (f:ForM)(hs:bw f.nodes){a b:Nat}{ya yb:ai}(hab:a≠b)(ha:f.nodes[a]? =some ya)(hb:f.nodes[b]? =some yb):
    ak Tryz.prog 121 [] [aM f] [aL f.most f.nodes.length 4 (.own 3 0 0),aA ya.kids,aA yb.kids,.live 9 [] false,aQ f.nodes a 1 b 2] (.ptr 0 0 0):=by
  have h137:=sO f.nodes (by have:=hs.len;omega)
  have h60:=hs.len
  have hv:∀ (k:Nat) (y:ai),f.nodes[k]? =some y→ak Tryz.prog 72 [] [cN y.kids] [] (cN y.kids):=fun k y hy=>FT y.kids (by have:=hs.kids y (bO hy);omega)
  have ho:∀ (k:Nat) (y:ai),f.nodes[k]? =some y→ak Tryz.prog 72 [] [cN y.kids] [aA y.kids] (.own 0 0 y.kids.length):=fun k y hy=>Bj y.kids (by have:=hs.kids y (bO hy);omega)
  have hlm:(f.nodes.map bF).length=f.nodes.length:=bW ..
  obtain⟨l,m⟩:=f
  simp only at h137 h60 hv ho hlm ha hb
  have hal:=(aY ha).1
  have hbl:=(aY hb).1
  refine ak.eA [(1,81),(2,91),(3,93)] (rvs:=[.tmp 2]) G au Tryz.func121 rfl Tryz.ntmps121 rfl rfl ?_;with_reducible refine wD ?_
  repeat' (first
    |refine gK ?_
    | ((first
      |((with_reducible show af _ _ 137 _ _ _ _);refine af.new 71 [] h137 I5 ⟨rfl,trivial⟩ rfl rfl rfl (oL l) rfl ?_)
      |((with_reducible show aI _ _ _ _);refine dK ?_))<;>with_reducible refine wK ?_)
    |((with_reducible show(_∧_)∧_∧_);(refine eK ?_ ?_<;>with_reducible repeat' (first|exact trivial|(show _∧_;refine aK ?_ ?_)))))
  refine bX.jU 3 120 93 9 0 2 (.agg [.own 71 0 l.length,ah m,.lit (.slice none 0 0)]) (.agg [.own 71 0 l.length,ah m,.own 93 0 0]) rfl rfl rfl rfl rfl rfl ?_
  show bX _ _ _ _ [(10,_),(71,cu l),(120,aL m l.length 71 (.own 93 0 0)),(93,.live 9 [] false)]
  refine bX.use G au (fun(s:Nat×Bool×Bool)=>[(3,.ptr 120 0 0),(18,ah l.length),(19,ah s.1)])
    (fun s=>KQ m l a b ya.kids yb.kids s.2.1 s.2.2)
    (fun s=>s.1≤l.length∧s.2.1=decide (a<s.1)∧s.2.2=decide (b<s.1)) (fun s=>l.length-s.1) (0,false,false) ⟨Nat.zero_le _,by simp,by simp⟩ ?_ ?_
  · (refine fK ?_;(with_reducible repeat' (first|exact trivial|(show _∧_;refine aK ?_ ?_)));(all_goals try rfl))
    all_goals first
      |(refine cast (congrArg (fun x=>gb _ x _) (AG (l:=l) (ta:=81) (tb:=91)).symm) ?_;exact .refl (aF _))
      |exact .inl rfl
      |exact⟨.refl rfl,rfl⟩
      |trace_state
  rintro⟨k,da,db⟩ ⟨hk,hda,hdb⟩
  dsimp only at hk hda hdb
  cases da<;>cases db
  · have ha' : k≤a:=by simpa using hda
    have hb':k≤b:=by simpa using hdb
    with_reducible show tI _ _ _ _ _ _ [(120,aL m l.length 74 (.own 93 0 0)),(93,.live 9 [] false),(74,aQ l l.length 81 l.length 91)] _
    with_reducible refine wK ?_
    refine aX.mk (fun h1=>?_) (fun h1=>?_)<;>(try simp only[ay] at h1)<;>with_reducible refine wK ?_
    · have hkl:k<l.length:=by simp only[bH,ay] at h1;omega
      by_cases ea:k=a
      · subst ea
        have hc:=ho k ya ha
        have hr:(aO l l.length 81 l.length 91).set (0+k) (dF ya 81)=aO l k 81 l.length 91:=gD fun i z hz=>by
          have:=(aY hz).1
          by_cases e:i=k
          ·subst e;rw[ha] at hz;cases hz;unfold dZ;simp<;>omega
          · unfold dZ;rw[if_neg e];repeat' split
            all_goals first|rfl|omega
        have hg:(aO l l.length 81 l.length 91)[k]? =some (aP ya):=by rw[cO ha,dh (by omega) (by omega)]
        obtain⟨y1,y2,y3,y4,y5,y6,y7,y8,y9,y10⟩:=ya
        simp only at hc
        repeat' (first
    |refine gK ?_
    | ((first
      |((with_reducible show ee _ _ _ _ _);refine ee.mk k rfl (by first|exact hkl|(rw[bM];exact hkl)) ?_)
      |((with_reducible show aT _ _ _ _ _);first|refine aT.mk (aP ⟨y1,y2,y3,y4,y5,y6,y7,y8,y9,y10⟩) (by first|exact hg|(rw[Nat.zero_add];exact hg)) ?_|refine aT.mk _ rfl ?_)
      |((with_reducible show af _ _ 72 _ _ _ _);refine af.new 81 [] hc Gj ⟨rfl,trivial⟩ rfl rfl rfl (mR _) rfl ?_)
      |((with_reducible show aI _ _ _ _);refine dK ?_))<;>with_reducible refine wK ?_)
    | ((with_reducible show(_∧_)∧_∧_);(refine eK ?_ ?_<;>with_reducible repeat' (first|exact trivial|(show _∧_;refine aK ?_ ?_)))))
        refine bR.mk (k+1,true,false) ⟨by dsimp only;omega,by dsimp only;first|(simp;done)|(simp;omega),by dsimp only;first|(simp;done)|(simp;omega)⟩ (by dsimp only;omega) ?_
        (refine fK ?_;(with_reducible repeat' (first|exact trivial|(show _∧_;refine aK ?_ ?_)));(all_goals try rfl))
        all_goals first
          |(refine cast (congrArg (gb _ _) hr.symm) ?_;exact bu (fun h=>by first|(exfalso;omega)|rfl) (fun h=>by first|(exfalso;omega)|rfl))
          |exact .inl rfl
          |exact⟨.refl rfl,rfl⟩
          |exact⟨.refl (aa _),aa _⟩
          |(simp;done)
          |trace_state
      · skip
        by_cases eb:k=b
        · subst eb
          have hc:=ho k yb hb
          have hr:(aO l l.length 81 l.length 91).set (0+k) (dF yb 91)=aO l l.length 81 k 91:=gD fun i z hz=>by
            have:=(aY hz).1
            by_cases e:i=k
            ·subst e;rw[hb] at hz;cases hz;unfold dZ;simp<;>omega
            · unfold dZ;rw[if_neg e];repeat' split
              all_goals first|rfl|omega
          have hg:(aO l l.length 81 l.length 91)[k]? =some (aP yb):=by rw[cO hb,dh (by omega) (by omega)]
          obtain⟨y1,y2,y3,y4,y5,y6,y7,y8,y9,y10⟩:=yb
          simp only at hc
          repeat' (first
    |refine gK ?_
    | ((first
      |((with_reducible show ee _ _ _ _ _);refine ee.mk k rfl (by first|exact hkl|(rw[bM];exact hkl)) ?_)
      |((with_reducible show aT _ _ _ _ _);first|refine aT.mk (aP ⟨y1,y2,y3,y4,y5,y6,y7,y8,y9,y10⟩) (by first|exact hg|(rw[Nat.zero_add];exact hg)) ?_|refine aT.mk _ rfl ?_)
      |((with_reducible show af _ _ 72 _ _ _ _);refine af.new 91 [] hc Gj ⟨rfl,trivial⟩ rfl rfl rfl (mR _) rfl ?_)
      |((with_reducible show aI _ _ _ _);refine dK ?_))<;>with_reducible refine wK ?_)
    | ((with_reducible show(_∧_)∧_∧_);(refine eK ?_ ?_<;>with_reducible repeat' (first|exact trivial|(show _∧_;refine aK ?_ ?_)))))
          refine bR.mk (k+1,false,true) ⟨by dsimp only;omega,by dsimp only;first|(simp;done)|(simp;omega),by dsimp only;first|(simp;done)|(simp;omega)⟩ (by dsimp only;omega) ?_
          (refine fK ?_;(with_reducible repeat' (first|exact trivial|(show _∧_;refine aK ?_ ?_)));(all_goals try rfl))
          all_goals first
            |(refine cast (congrArg (gb _ _) hr.symm) ?_;exact bu (fun h=>by first|(exfalso;omega)|rfl) (fun h=>by first|(exfalso;omega)|rfl))
            |exact .inl rfl
            |exact⟨.refl rfl,rfl⟩
            |exact⟨.refl (aa _),aa _⟩
            |(simp;done)
            |trace_state
        · skip
          obtain⟨y,hy⟩:∃y,l[k]? =some y:=⟨_,bD hkl⟩
          have hc:=hv k y hy
          have hr:(aO l l.length 81 l.length 91).set (0+k) (bF y)=aO l l.length 81 l.length 91:=gD fun i z hz=>by
            have:=(aY hz).1
            by_cases e:i=k
            ·subst e;rw[hy] at hz;cases hz;rw[if_pos rfl,dh (by omega) (by omega)];rfl
            ·rw[if_neg e]
          have hg:(aO l l.length 81 l.length 91)[k]? =some (aP y):=by rw[cO hy,dh (by omega) (by omega)]
          obtain⟨y1,y2,y3,y4,y5,y6,y7,y8,y9,y10⟩:=y
          simp only at hc
          repeat' (first
    |refine gK ?_
    | ((first
      |((with_reducible show ee _ _ _ _ _);refine ee.mk k rfl (by first|exact hkl|(rw[bM];exact hkl)) ?_)
      |((with_reducible show aT _ _ _ _ _);first|refine aT.mk (aP ⟨y1,y2,y3,y4,y5,y6,y7,y8,y9,y10⟩) (by first|exact hg|(rw[Nat.zero_add];exact hg)) ?_|refine aT.mk _ rfl ?_)
      |((with_reducible show af _ _ 72 _ _ _ _);refine af.val [] hc Gj ⟨rfl,trivial⟩ rfl rfl rfl ?_)
      |((with_reducible show aI _ _ _ _);refine dK ?_))<;>with_reducible refine wK ?_)
    |((with_reducible show(_∧_)∧_∧_);(refine eK ?_ ?_<;>with_reducible repeat' (first|exact trivial|(show _∧_;refine aK ?_ ?_)))))
          refine bR.mk (k+1,false,false) ⟨by dsimp only;omega,by dsimp only;first|(simp;done)|(simp;omega),by dsimp only;first|(simp;done)|(simp;omega)⟩ (by dsimp only;omega) ?_
          (refine fK ?_;(with_reducible repeat' (first|exact trivial|(show _∧_;refine aK ?_ ?_)));(all_goals try rfl))
          all_goals first
            |(refine cast (congrArg (gb _ _) hr.symm) ?_;exact bu (fun h=>by first|(exfalso;omega)|rfl) (fun h=>by first|(exfalso;omega)|rfl))
            |exact .inl rfl
            |exact⟨.refl rfl,rfl⟩
            |exact⟨.refl (aa _),aa _⟩
            |(simp;done)
            |trace_state
    · have hjl:k=l.length:=by simp only[cR,ay] at h1;omega
      exfalso;omega
  · have ha' :k≤a:=by simpa using hda
    have hb':b<k:=by simpa using hdb
    with_reducible show tI _ _ _ _ _ _ [(120,aL m l.length 74 (.own 93 0 0)),(93,.live 9 [] false),(91,aA yb.kids),(74,aQ l l.length 81 b 91)] _
    with_reducible refine wK ?_
    refine aX.mk (fun h1=>?_) (fun h1=>?_)<;>(try simp only[ay] at h1)<;>with_reducible refine wK ?_
    · have hkl:k<l.length:=by simp only[bH,ay] at h1;omega
      by_cases ea:k=a
      · subst ea
        have hc:=ho k ya ha
        have hr:(aO l l.length 81 b 91).set (0+k) (dF ya 81)=aO l k 81 b 91:=gD fun i z hz=>by
          have:=(aY hz).1
          by_cases e:i=k
          ·subst e;rw[ha] at hz;cases hz;unfold dZ;simp<;>omega
          · unfold dZ;rw[if_neg e];repeat' split
            all_goals first|rfl|omega
        have hg:(aO l l.length 81 b 91)[k]? =some (aP ya):=by rw[cO ha,dh (by omega) (by omega)]
        obtain⟨y1,y2,y3,y4,y5,y6,y7,y8,y9,y10⟩:=ya
        simp only at hc
        repeat' (first
    |refine gK ?_
    | ((first
      |((with_reducible show ee _ _ _ _ _);refine ee.mk k rfl (by first|exact hkl|(rw[bM];exact hkl)) ?_)
      |((with_reducible show aT _ _ _ _ _);first|refine aT.mk (aP ⟨y1,y2,y3,y4,y5,y6,y7,y8,y9,y10⟩) (by first|exact hg|(rw[Nat.zero_add];exact hg)) ?_|refine aT.mk _ rfl ?_)
      |((with_reducible show af _ _ 72 _ _ _ _);refine af.new 81 [] hc Gj ⟨rfl,trivial⟩ rfl rfl rfl (mR _) rfl ?_)
      |((with_reducible show aI _ _ _ _);refine dK ?_))<;>with_reducible refine wK ?_)
    | ((with_reducible show(_∧_)∧_∧_);(refine eK ?_ ?_<;>with_reducible repeat' (first|exact trivial|(show _∧_;refine aK ?_ ?_)))))
        refine bR.mk (k+1,true,true) ⟨by dsimp only;omega,by dsimp only;first|(simp;done)|(simp;omega),by dsimp only;first|(simp;done)|(simp;omega)⟩ (by dsimp only;omega) ?_
        (refine fK ?_;(with_reducible repeat' (first|exact trivial|(show _∧_;refine aK ?_ ?_)));(all_goals try rfl))
        all_goals first
          |(refine cast (congrArg (gb _ _) hr.symm) ?_;exact bu (fun h=>by first|(exfalso;omega)|rfl) (fun h=>by first|(exfalso;omega)|rfl))
          |exact .inl rfl
          |exact⟨.refl rfl,rfl⟩
          |exact⟨.refl (aa _),aa _⟩
          |(simp;done)
          |trace_state
      · skip
        obtain⟨y,hy⟩:∃y,l[k]? =some y:=⟨_,bD hkl⟩
        have hc:=hv k y hy
        have hr:(aO l l.length 81 b 91).set (0+k) (bF y)=aO l l.length 81 b 91:=gD fun i z hz=>by
          have:=(aY hz).1
          by_cases e:i=k
          ·subst e;rw[hy] at hz;cases hz;rw[if_pos rfl,dh (by omega) (by omega)];rfl
          ·rw[if_neg e]
        have hg:(aO l l.length 81 b 91)[k]? =some (aP y):=by rw[cO hy,dh (by omega) (by omega)]
        obtain⟨y1,y2,y3,y4,y5,y6,y7,y8,y9,y10⟩:=y
        simp only at hc
        repeat' (first
    |refine gK ?_
    | ((first
      |((with_reducible show ee _ _ _ _ _);refine ee.mk k rfl (by first|exact hkl|(rw[bM];exact hkl)) ?_)
      |((with_reducible show aT _ _ _ _ _);first|refine aT.mk (aP ⟨y1,y2,y3,y4,y5,y6,y7,y8,y9,y10⟩) (by first|exact hg|(rw[Nat.zero_add];exact hg)) ?_|refine aT.mk _ rfl ?_)
      |((with_reducible show af _ _ 72 _ _ _ _);refine af.val [] hc Gj ⟨rfl,trivial⟩ rfl rfl rfl ?_)
      |((with_reducible show aI _ _ _ _);refine dK ?_))<;>with_reducible refine wK ?_)
    | ((with_reducible show(_∧_)∧_∧_);(refine eK ?_ ?_<;>with_reducible repeat' (first|exact trivial|(show _∧_;refine aK ?_ ?_)))))
        refine bR.mk (k+1,false,true) ⟨by dsimp only;omega,by dsimp only;first|(simp;done)|(simp;omega),by dsimp only;first|(simp;done)|(simp;omega)⟩ (by dsimp only;omega) ?_
        (refine fK ?_;(with_reducible repeat' (first|exact trivial|(show _∧_;refine aK ?_ ?_)));(all_goals try rfl))
        all_goals first
          |(refine cast (congrArg (gb _ _) hr.symm) ?_;exact bu (fun h=>by first|(exfalso;omega)|rfl) (fun h=>by first|(exfalso;omega)|rfl))
          |exact .inl rfl
          |exact⟨.refl rfl,rfl⟩
          |exact⟨.refl (aa _),aa _⟩
          |(simp;done)
          |trace_state
    · have hjl:k=l.length:=by simp only[cR,ay] at h1;omega
      exfalso;omega
  · have ha' :a<k:=by simpa using hda
    have hb':k≤b:=by simpa using hdb
    with_reducible show tI _ _ _ _ _ _ [(120,aL m l.length 74 (.own 93 0 0)),(93,.live 9 [] false),(81,aA ya.kids),(74,aQ l a 81 l.length 91)] _
    with_reducible refine wK ?_
    refine aX.mk (fun h1=>?_) (fun h1=>?_)<;>(try simp only[ay] at h1)<;>with_reducible refine wK ?_
    · have hkl:k<l.length:=by simp only[bH,ay] at h1;omega
      by_cases eb:k=b
      · subst eb
        have hc:=ho k yb hb
        have hr:(aO l a 81 l.length 91).set (0+k) (dF yb 91)=aO l a 81 k 91:=gD fun i z hz=>by
          have:=(aY hz).1
          by_cases e:i=k
          ·subst e;rw[hb] at hz;cases hz;unfold dZ;simp<;>omega
          · unfold dZ;rw[if_neg e];repeat' split
            all_goals first|rfl|omega
        have hg:(aO l a 81 l.length 91)[k]? =some (aP yb):=by rw[cO hb,dh (by omega) (by omega)]
        obtain⟨y1,y2,y3,y4,y5,y6,y7,y8,y9,y10⟩:=yb
        simp only at hc
        repeat' (first
    |refine gK ?_
    | ((first
      |((with_reducible show ee _ _ _ _ _);refine ee.mk k rfl (by first|exact hkl|(rw[bM];exact hkl)) ?_)
      |((with_reducible show aT _ _ _ _ _);first|refine aT.mk (aP ⟨y1,y2,y3,y4,y5,y6,y7,y8,y9,y10⟩) (by first|exact hg|(rw[Nat.zero_add];exact hg)) ?_|refine aT.mk _ rfl ?_)
      |((with_reducible show af _ _ 72 _ _ _ _);refine af.new 91 [] hc Gj ⟨rfl,trivial⟩ rfl rfl rfl (mR _) rfl ?_)
      |((with_reducible show aI _ _ _ _);refine dK ?_))<;>with_reducible refine wK ?_)
    | ((with_reducible show(_∧_)∧_∧_);(refine eK ?_ ?_<;>with_reducible repeat' (first|exact trivial|(show _∧_;refine aK ?_ ?_)))))
        refine bR.mk (k+1,true,true) ⟨by dsimp only;omega,by dsimp only;first|(simp;done)|(simp;omega),by dsimp only;first|(simp;done)|(simp;omega)⟩ (by dsimp only;omega) ?_
        (refine fK ?_;(with_reducible repeat' (first|exact trivial|(show _∧_;refine aK ?_ ?_)));(all_goals try rfl))
        all_goals first
          |(refine cast (congrArg (gb _ _) hr.symm) ?_;exact bu (fun h=>by first|(exfalso;omega)|rfl) (fun h=>by first|(exfalso;omega)|rfl))
          |exact .inl rfl
          |exact⟨.refl rfl,rfl⟩
          |exact⟨.refl (aa _),aa _⟩
          |(simp;done)
          |trace_state
      · skip
        obtain⟨y,hy⟩:∃y,l[k]? =some y:=⟨_,bD hkl⟩
        have hc:=hv k y hy
        have hr:(aO l a 81 l.length 91).set (0+k) (bF y)=aO l a 81 l.length 91:=gD fun i z hz=>by
          have:=(aY hz).1
          by_cases e:i=k
          ·subst e;rw[hy] at hz;cases hz;rw[if_pos rfl,dh (by omega) (by omega)];rfl
          ·rw[if_neg e]
        have hg:(aO l a 81 l.length 91)[k]? =some (aP y):=by rw[cO hy,dh (by omega) (by omega)]
        obtain⟨y1,y2,y3,y4,y5,y6,y7,y8,y9,y10⟩:=y
        simp only at hc
        repeat' (first
    |refine gK ?_
    | ((first
      |((with_reducible show ee _ _ _ _ _);refine ee.mk k rfl (by first|exact hkl|(rw[bM];exact hkl)) ?_)
      |((with_reducible show aT _ _ _ _ _);first|refine aT.mk (aP ⟨y1,y2,y3,y4,y5,y6,y7,y8,y9,y10⟩) (by first|exact hg|(rw[Nat.zero_add];exact hg)) ?_|refine aT.mk _ rfl ?_)
      |((with_reducible show af _ _ 72 _ _ _ _);refine af.val [] hc Gj ⟨rfl,trivial⟩ rfl rfl rfl ?_)
      |((with_reducible show aI _ _ _ _);refine dK ?_))<;>with_reducible refine wK ?_)
    | ((with_reducible show(_∧_)∧_∧_);(refine eK ?_ ?_<;>with_reducible repeat' (first|exact trivial|(show _∧_;refine aK ?_ ?_)))))
        refine bR.mk (k+1,true,false) ⟨by dsimp only;omega,by dsimp only;first|(simp;done)|(simp;omega),by dsimp only;first|(simp;done)|(simp;omega)⟩ (by dsimp only;omega) ?_
        (refine fK ?_;(with_reducible repeat' (first|exact trivial|(show _∧_;refine aK ?_ ?_)));(all_goals try rfl))
        all_goals first
          |(refine cast (congrArg (gb _ _) hr.symm) ?_;exact bu (fun h=>by first|(exfalso;omega)|rfl) (fun h=>by first|(exfalso;omega)|rfl))
          |exact .inl rfl
          |exact⟨.refl rfl,rfl⟩
          |exact⟨.refl (aa _),aa _⟩
          |(simp;done)
          |trace_state
    · have hjl:k=l.length:=by simp only[cR,ay] at h1;omega
      exfalso;omega
  · have ha':a<k:=by simpa using hda
    have hb':b<k:=by simpa using hdb
    with_reducible show tI _ _ _ _ _ _ [(120,aL m l.length 74 (.own 93 0 0)),(93,.live 9 [] false),(81,aA ya.kids),(91,aA yb.kids),(74,aQ l a 81 b 91)] _
    with_reducible refine wK ?_
    refine aX.mk (fun h1=>?_) (fun h1=>?_)<;>(try simp only[ay] at h1)<;>with_reducible refine wK ?_
    · have hkl:k<l.length:=by simp only[bH,ay] at h1;omega
      obtain⟨y,hy⟩:∃y,l[k]? =some y:=⟨_,bD hkl⟩
      have hc:=hv k y hy
      have hr:(aO l a 81 b 91).set (0+k) (bF y)=aO l a 81 b 91:=gD fun i z hz=>by
        have:=(aY hz).1
        by_cases e:i=k
        ·subst e;rw[hy] at hz;cases hz;rw[if_pos rfl,dh (by omega) (by omega)];rfl
        ·rw[if_neg e]
      have hg:(aO l a 81 b 91)[k]? =some (aP y):=by rw[cO hy,dh (by omega) (by omega)]
      obtain⟨y1,y2,y3,y4,y5,y6,y7,y8,y9,y10⟩:=y
      simp only at hc
      repeat' (first
    |refine gK ?_
    | ((first
      |((with_reducible show ee _ _ _ _ _);refine ee.mk k rfl (by first|exact hkl|(rw[bM];exact hkl)) ?_)
      |((with_reducible show aT _ _ _ _ _);first|refine aT.mk (aP ⟨y1,y2,y3,y4,y5,y6,y7,y8,y9,y10⟩) (by first|exact hg|(rw[Nat.zero_add];exact hg)) ?_|refine aT.mk _ rfl ?_)
      |((with_reducible show af _ _ 72 _ _ _ _);refine af.val [] hc Gj ⟨rfl,trivial⟩ rfl rfl rfl ?_)
      |((with_reducible show aI _ _ _ _);refine dK ?_))<;>with_reducible refine wK ?_)
    | ((with_reducible show(_∧_)∧_∧_);(refine eK ?_ ?_<;>with_reducible repeat' (first|exact trivial|(show _∧_;refine aK ?_ ?_)))))
      refine bR.mk (k+1,true,true) ⟨by dsimp only;omega,by dsimp only;first|(simp;done)|(simp;omega),by dsimp only;first|(simp;done)|(simp;omega)⟩ (by dsimp only;omega) ?_
      (refine fK ?_;(with_reducible repeat' (first|exact trivial|(show _∧_;refine aK ?_ ?_)));(all_goals try rfl))
      all_goals first
        |(refine cast (congrArg (gb _ _) hr.symm) ?_;exact bu (fun h=>by first|(exfalso;omega)|rfl) (fun h=>by first|(exfalso;omega)|rfl))
        |exact .inl rfl
        |exact⟨.refl rfl,rfl⟩
        |exact⟨.refl (aa _),aa _⟩
        |(simp;done)
        |trace_state
    · have hjl:k=l.length:=by simp only[cR,ay] at h1;omega
      subst hjl
      repeat' (first
    |refine gK ?_
    |(((with_reducible show aI _ _ _ _);refine dK ?_)<;>with_reducible refine wK ?_)
    | ((with_reducible show(_∧_)∧_∧_);(refine eK ?_ ?_<;>with_reducible repeat' (first|exact trivial|(show _∧_;refine aK ?_ ?_)))))
      all_goals first|rfl|exact .inl rfl|exact⟨.refl rfl,rfl⟩|exact bu (fun _=>rfl) (fun _=>rfl)|exact⟨.refl (aa _),aa _⟩|exact bP (aa _)|trace_state
@[reducible] def aN (l : List aJ) : MS := .live 9 (l.map dY) false
theorem Dl (l:List aJ):kP (flat (l.map dY))=true:=kR dY (fun _=>rfl) l
theorem aj (l:List aJ):br (l.map dY)=true:=iD dY (fun _=>rfl) l
theorem nj {l:List Int}{k:Nat}{e:Int}(h:l[k]? =some e):(l.map bU)[k]? =some (ah e):=by rw[fI,h];rfl
section
variable {l : List ai} {m : Int} {a b ta tb : Nat} {ka kb : List Int}
theorem bI {tab:List (Nat×Nat)}{T:List Nat}{ml:ML}{ta' tb':Nat}(h1:a<l.length→oG tab ta'=some ta)(h2:b<l.length→oG tab tb'=some tb):sN tab T ml (aO l a ta' b tb') (aO l a ta b tb):=
  .inr ⟨zD (bu h1 h2),qN (by rw[bM,bM]) lQ lQ⟩
theorem bB {names:List Nat}{n ta0 tb0:Nat}{p:Prop}(h1:iA names ta0=some ta)(h2:iA names tb0=some tb)(i1:ta0<n)(i2:tb0<n):
    p∨(aO l a ta b tb=ef (oD names 12) (aO l a ta0 b tb0)∧iZ (za 12 n) (aO l a ta0 b tb0)=true∧n9 (aO l a ta b tb) (aO l a ta0 b tb0)=true):=
  .inr ⟨DM h1 h2,Fp i1 i2,qN (by rw[bM,bM]) lQ lQ⟩
theorem yz (hka:∀y,l[a]? =some y→y.kids=ka)(hkb:∀y,l[b]? =some y→y.kids=kb){rest:List AV}(hr:br rest=true):
    xu (MF [] (J5 [0,1,2]) [(0,aQ l a 1 b 2),(1,aA ka),(2,aA kb)] 12) (aM ⟨l,m⟩::rest) (.agg [.own 0 0 l.length,ah m]::rest):=
  ⟨⟨sY (ra:=false) (rb:=false) (ea:=[]) (eb:=[]) rfl rfl (fun y hy=>by rw[List.append_nil,hka y hy];exact⟨rfl,rfl⟩) (fun y hy=>by rw[List.append_nil,hkb y hy];exact⟨rfl,rfl⟩),rfl,trivial⟩,bP hr⟩
theorem nn {f:FuncId}{rest:List AV}{res:AV}(hka:∀y,l[a]? =some y→y.kids=ka)(hkb:∀y,l[b]? =some y→y.kids=kb)(h:ak Tryz.prog f [] (aM ⟨l,m⟩::rest) [] res)(hp:kx res=true)(hr:br rest=true):
    ak Tryz.prog f [aQ l a 1 b 2,aA ka,aA kb] (.agg [.own 0 0 l.length,ah m]::rest) [aQ l a 1 b 2,aA ka,aA kb] res:=
  ak.Ks [(0,aQ l a 1 b 2),(1,aA ka),(2,aA kb)] [0,1,2] (eG [aQ l a 1 b 2,aA ka,aA kb]) h hp (yz hka hkb hr)
theorem mQ {f:FuncId}{rest:List AV}{es ex:List Int}(hka:∀y,l[a]? =some y→y.kids=ka)(hkb:∀y,l[b]? =some y→y.kids=kb)(h:ak Tryz.prog f [] (aM ⟨l,m⟩::rest) [aA (es++ex)] (.own 0 0 es.length))(hr:br rest=true):
    ak Tryz.prog f [aQ l a 1 b 2,aA ka,aA kb] (.agg [.own 0 0 l.length,ah m]::rest) [aQ l a 1 b 2,aA ka,aA kb,aA (es++ex)] (.own 3 0 es.length):=by
  have hx:∀r∈ (es++ex).map bU,∃e:Int,r=ah e:=fun r hr=>by
    obtain⟨e,_,rfl⟩:=List.mem_map.1 hr
    exact⟨e,rfl⟩
  exact ak.G9 [(0,aQ l a 1 b 2),(1,aA ka),(2,aA kb)] [0,1,2] (eG [aQ l a 1 b 2,aA ka,aA kb]) h (fun c hc=>by
    unfold flat at hc
    obtain⟨r,h1,h2⟩:=List.mem_flatMap.1 hc
    obtain⟨e,rfl⟩:=hx r h1
    cases gA.1 h2
    rfl) (fun r hr cs e=>by
    obtain⟨i,rfl⟩:=hx r hr
    cases e) (yz hka hkb hr)
end
end Go.Proofs.Heir
namespace Go.Proofs.Heir
open Go Go.Am Go.RowKit Go.Lib
set_option maxRecDepth 100000
set_option maxHeartbeats 8000000
set_option maxHeartbeats 8000000
theorem Dh {l:List AttrM}{s:ByteArray}{j:Nat}{a:AttrM}(h:l[j]? =some a):gd (l.drop j) s=if a.name=s then(a.value,true) else gd (l.drop (j+1)) s:=by
  obtain⟨hl,he⟩:=aY h
  rw[List.drop_eq_getElem_cons hl,he]
  unfold gd
  rw[List.find?_cons]
  by_cases e:a.name=s
  ·rw[if_pos e,show hasName s a=true from dJ e]
  ·rw[if_neg e,show hasName s a=false from dx e]
theorem F8 {l:List AttrM}{s:ByteArray}{j:Nat}(h:l.length≤j):gd (l.drop j) s=(DS,false):=by rw[List.drop_eq_nil_of_le h];rfl
theorem BJ (f:ForM){k:Nat}{y:ai}(hy:f.nodes[k]? =some y)(hyl:y.attrs.length≤60)(s:ByteArray):ak Tryz.prog 102 [] [aM f,ah k,bS s] [] (.tup [bS (gd y.attrs s).1,bC (gd y.attrs s).2]):=by
  obtain⟨l,m⟩:=f
  obtain⟨y1,y2,y3,y4,y5,y6,y7,y8,y9,y10⟩:=y
  simp only at hy hyl ⊢
  have hym:(y5.map cV).length=y5.length:=bW ..
  obtain⟨v,hv⟩:∃v,v=gd y5 s:=⟨_,rfl⟩
  rw[←hv]
  refine ak.aD (rvs:=[.tmp 6,.tmp 7]) G au Tryz.func102 rfl Tryz.ntmps102 rfl rfl ?_;with_reducible refine wD ?_
  repeat' (first|refine gK ?_|((with_reducible show(_∧_)∧_∧_);(refine eK ?_ ?_<;>with_reducible repeat' (first|exact trivial|(show _∧_;refine aK ?_ ?_)))))
  refine bX.use G au (fun(j:Nat)=>[(1,ah (k:Int)),(2,bS s),(3,.ptr 30 0 0),(8,ah j)]) (fun _=>[(30,.live 2 [aM ⟨l,m⟩] false)]) (fun j=>j≤y5.length∧gd (y5.drop j) s=v) (fun j=>y5.length-j) 0 ⟨Nat.zero_le _,by rw[hv,List.drop_zero]⟩ ?_ ?_
  · (refine fK ?_;(with_reducible repeat' (first|exact trivial|(show _∧_;refine aK ?_ ?_)));(all_goals try rfl))
    all_goals first|rfl|exact⟨rfl,rfl⟩|trace_state
  rintro j ⟨hj,hjv⟩
  with_reducible refine wK ?_
  refine bg.mk k (aP _) rfl (aB hy) ?_;with_reducible refine wK ?_
  refine aX.mk (fun h1=>?_) (fun h1=>?_)<;>(try simp only[ay] at h1)<;>with_reducible refine wK ?_
  · have hjl:j<y5.length:=by simp only[bH,ay] at h1;omega
    obtain⟨a,ha⟩:∃a,y5[j]? =some a:=⟨_,bD hjl⟩
    rw[Dh ha] at hjv
    obtain⟨a1,a2⟩:=a
    simp only at hjv
    by_cases e:a1=s
    · rw[if_pos e] at hjv
      subst hjv
      have fe:=eq_true e
      (have fct:=fe;(repeat' (first|refine gF ?_|(((with_reducible show bg _ _ _ _ _);first|refine bg.mk k (aP _) rfl (aB hy) ?_|refine bg.mk j (iI _) rfl (iN ha) ?_)<;>with_reducible refine wK ?_)|((with_reducible show(_∧_)∧_∧_);(refine eK ?_ ?_<;>with_reducible repeat' (first|exact trivial|(show _∧_;refine aK ?_ ?_))))));all_goals clear fct)
      all_goals first|rfl|trace_state
    · rw[if_neg e] at hjv
      have fe:=eq_false e
      (have fct:=fe;(repeat' (first|refine gF ?_|(((with_reducible show bg _ _ _ _ _);first|refine bg.mk k (aP _) rfl (aB hy) ?_|refine bg.mk j (iI _) rfl (iN ha) ?_)<;>with_reducible refine wK ?_)|((with_reducible show(_∧_)∧_∧_);(refine eK ?_ ?_<;>with_reducible repeat' (first|exact trivial|(show _∧_;refine aK ?_ ?_))))));all_goals clear fct)
      refine bR.mk (j+1) ⟨by omega,hjv⟩ (by omega) ?_
      (refine fK ?_;(with_reducible repeat' (first|exact trivial|(show _∧_;refine aK ?_ ?_)));(all_goals try rfl))
      all_goals first|rfl|exact⟨rfl,rfl⟩|trace_state
  · have hjl:y5.length≤j:=by simp only[cR,ay] at h1;omega
    rw[F8 hjl] at hjv
    subst hjv
    repeat' (first|refine gK ?_|((with_reducible show(_∧_)∧_∧_);(refine eK ?_ ?_<;>with_reducible repeat' (first|exact trivial|(show _∧_;refine aK ?_ ?_)))))
    all_goals first|rfl|trace_state
def wU (k:Nat):ByteArray:=⟨#[UInt8.ofNat (97+k)]⟩
theorem zF {k:Nat}(hk:k<26):IntKind.u8.wrap (97+ (k:Int))=((UInt8.ofNat (97+k)).toNat:Int):=by
  rw[IntKind.wrap_u8]
  have:(UInt8.ofNat (97+k)).toNat=97+k:=by rw[UInt8.toNat_ofNat'];exact Nat.mod_eq_of_lt (by omega)
  rw[this];omega
theorem xH {n:Int}{s:ByteArray}{ns:List aJ}{a t:ByteArray×Bool}(h:cI n s a ns=some t):
    ∃U:Nat→ByteArray×Bool,U 0=a∧U ns.length=t∧∀i z,ns[i]? =some z→fP n s (U i) z=some (U (i+1)):=by
  have key:∀i,cI n s a (ns.take i)=some ((cI n s a (ns.take i)).getD a):=fun i=>by
    obtain⟨u,hu,_⟩:=sV h i
    rw[hu];rfl
  refine⟨fun i=>(cI n s a (ns.take i)).getD a,rfl,?_,fun i z hz=>?_⟩
  · simp only
    rw[List.take_length,h];rfl
  · obtain⟨v,hv,hv2⟩:=Ah h hz (key i)
    simp only
    rw[hv,hv2];rfl
theorem Al {n:Int}{ns:List aJ}{s t:Int×Int}(h:runN s (bY n ns)=some t):
    ∃U:Nat→Int×Int,U 0=s∧U ns.length=t∧∀i z,ns[i]? =some z→(z.node=n→kG (U i) z=some (U (i+1)))∧(z.node≠n→U (i+1)=U i):=by
  have key:∀i,runN s (bY n (ns.take i))=some ((runN s (bY n (ns.take i))).getD s):=fun i=>by
    obtain⟨u,hu,_⟩:=zw h i
    rw[hu];rfl
  refine⟨fun i=>(runN s (bY n (ns.take i))).getD s,rfl,?_,fun i z hz=>?_⟩
  · simp only
    rw[List.take_length,h];rfl
  · obtain⟨h1,h2⟩:=Eg h hz (key i)
    simp only
    refine⟨fun hn=>?_,fun hn=>?_⟩
    · obtain⟨v,hv,hv2⟩:=h1 hn
      rw[hv,hv2];rfl
    ·rw[h2 hn];rfl
theorem zo (s:ByteArray):(s=s)=True:=eq_self s
theorem IN (f g:ForM){k:Nat}{x y:ai}(hx:f.nodes[k]? =some x)(hy:g.nodes[k]? =some y)(hxl:x.attrs.length≤60)(hyl:y.attrs.length≤60)(ns:List aJ)(hns:ns.length≤10000000)
    (h:∀j,j<3→cI k (wU j) (gd x.attrs (wU j)) ns=some (gd y.attrs (wU j))):ak Tryz.prog 47 [] [aM f,aM g,ah k,lE ns] [] (bC true):=by
  have hnm:(ns.map dY).length=ns.length:=bW ..
  have h102:=fun s=>BJ f hx hxl s
  have h102':=fun s=>BJ g hy hyl s
  obtain⟨l,m⟩:=f
  obtain⟨l',m'⟩:=g
  refine ak.aD (rvs:=[.tmp 8]) G au Tryz.func47 rfl Tryz.ntmps47 rfl rfl ?_;with_reducible refine wD ?_
  refine bX.use G au (fun(j:Nat)=>[(2,ah (k:Int)),(3,lE ns),(4,.ptr 40 0 0),(5,.ptr 50 0 0),(9,ah j)]) (fun _=>[(40,.live 2 [aM ⟨l,m⟩] false),(50,.live 2 [aM ⟨l',m'⟩] false)]) (fun j=>j≤3) (fun j=>3-j) 0 (by omega) ?_ ?_
  · (refine fK ?_;(with_reducible repeat' (first|exact trivial|(show _∧_;refine aK ?_ ?_)));(all_goals try rfl))
    all_goals first|rfl|exact⟨rfl,rfl⟩|trace_state
  intro j hj
  with_reducible refine wK ?_
  refine aX.mk (fun h1=>?_) (fun h1=>?_)<;>(try simp only[ay] at h1)<;>with_reducible refine wK ?_
  · have hj3 : j <3:=by simp only[bH,ay] at h1;omega
    have hj8:0≤ (j:Int)∧(j:Int)<256:=by omega
    obtain⟨U,hU0,hUn,hUs⟩:=xH (h j hj3)
    have h102:=h102 (wU j)
    have h102':=h102' (wU j)
    rw[←hU0] at h102
    refine oh.int (by kernel_rfl) (by kernel_rfl) (KH hj8) ?_;with_reducible refine wK ?_
    refine oF.mk (e:=5) [UInt8.ofNat (97+j)] (by kernel_rfl) (by kernel_rfl) (by kernel_rfl) rfl (by simp) (qV (zF (by omega))) ?_;with_reducible refine wK ?_
    rw[show ByteArray.mk [UInt8.ofNat (97+j)].toArray=wU j from rfl]
    generalize wU j=s at*
    repeat' (first|refine gK ?_|((first|((with_reducible show af _ _ 102 _ _ _ _);refine af.val [] h102 Kq ⟨⟨rfl,rfl,trivial⟩,rfl,rfl,trivial⟩ rfl rfl rfl ?_)|((with_reducible show aI _ _ _ _);refine dK ?_))<;>with_reducible refine wK ?_)|((with_reducible show(_∧_)∧_∧_);(refine eK ?_ ?_<;>with_reducible repeat' (first|exact trivial|(show _∧_;refine aK ?_ ?_)))))
    refine bX.use G au (fun(i:Nat)=>[(2,ah (k:Int)),(3,lE ns),(4,.ptr 40 0 0),(5,.ptr 50 0 0),(9,ah j),(10,bS s),(11,bS (U i).1),(12,bC (U i).2),(13,ah i)]) (fun _=>[(40,.live 2 [aM ⟨l,m⟩] false),(50,.live 2 [aM ⟨l',m'⟩] false)]) (fun i=>i≤ns.length) (fun i=>ns.length-i) 0 (Nat.zero_le _) ?_ ?_
    · (refine fK ?_;(with_reducible repeat' (first|exact trivial|(show _∧_;refine aK ?_ ?_)));(all_goals try rfl))
      all_goals first|rfl|exact⟨rfl,rfl⟩|trace_state
    intro i hi
    with_reducible refine wK ?_
    refine aX.mk (fun h2=>?_) (fun h2=>?_)<;>(try simp only[ay] at h2)<;>with_reducible refine wK ?_
    · have hil : i<ns.length:=by simp only[bH,ay] at h2;omega
      obtain⟨z,hz⟩:∃z,ns[i]? =some z:=⟨_,bD hil⟩
      have hst:=hUs i z hz
      clear hUs hU0
      generalize hV:U (i+1)=V at*
      generalize U i=u at*
      obtain⟨u1,u2⟩:=u
      obtain⟨z1,z2,z3,z4,z5,z6,z7,z8,z9⟩:=z
      unfold fP at hst
      simp only at hst
      by_cases e1:z2=(k:Int)
      · by_cases e2:z1=4
        · by_cases e3:z5=s
          · rw [if_pos ⟨e1,e2,e3⟩] at hst
            split at hst
            ·cases hst
            rename_i hno
            cases hst
            have hold:z8=u1:=Decidable.byContradiction fun q=>hno (.inl q)
            have hhad:z6=u2:=Decidable.byContradiction fun q=>hno (.inr (.inl q))
            have hnone:¬ (z6=false∧z7=false):=fun q=>hno (.inr (.inr (.inl q)))
            have hnew:z7=false→z9=DS:=fun q=>Decidable.byContradiction fun r=>hno (.inr (.inr (.inr ⟨q,r⟩)))
            subst hold
            subst hhad
            have f1:=eq_true e1
            have f2:=eq_true e2
            have f3:=eq_true e3
            have f4:=zo z8
            cases z7 with
            | true=>
              cases z6<;>
                ((have fct:=And.intro f1 (And.intro f2 (And.intro f3 (f4)));(repeat' (first|refine gF ?_|(((with_reducible show bg _ _ _ _ _);refine bg.mk i (jl _) rfl (kW hz) ?_)<;>with_reducible refine wK ?_)|((with_reducible show(_∧_)∧_∧_);(refine eK ?_ ?_<;>with_reducible repeat' (first|exact trivial|(show _∧_;refine aK ?_ ?_))))));all_goals clear fct)
                 refine bR.mk (i+1) (by omega) (by omega) ?_
                 rw[hV]
                 (refine fK ?_;(with_reducible repeat' (first|exact trivial|(show _∧_;refine aK ?_ ?_)));(all_goals try rfl))
                 all_goals first|rfl|exact⟨rfl,rfl⟩|trace_state)
            | false=>
              cases z6 with
              |false=>exact absurd ⟨rfl,rfl⟩ hnone
              | true=>
                obtain rfl:=hnew rfl
                (have fct:=And.intro f1 (And.intro f2 (And.intro f3 (f4)));(repeat' (first|refine gF ?_|(((with_reducible show bg _ _ _ _ _);refine bg.mk i (jl _) rfl (kW hz) ?_)<;>with_reducible refine wK ?_)|((with_reducible show(_∧_)∧_∧_);(refine eK ?_ ?_<;>with_reducible repeat' (first|exact trivial|(show _∧_;refine aK ?_ ?_))))));all_goals clear fct)
                refine bR.mk (i+1) (by omega) (by omega) ?_
                rw[hV]
                (refine fK ?_;(with_reducible repeat' (first|exact trivial|(show _∧_;refine aK ?_ ?_)));(all_goals try rfl))
                all_goals first|rfl|exact⟨rfl,rfl⟩|trace_state
          · rw[if_neg (fun q=>e3 q.2.2)] at hst
            cases hst
            have f1:=eq_true e1
            have f2:=eq_true e2
            have f3:=eq_false e3
            (have fct:=And.intro f1 (And.intro f2 (f3));(repeat' (first|refine gF ?_|(((with_reducible show bg _ _ _ _ _);refine bg.mk i (jl _) rfl (kW hz) ?_)<;>with_reducible refine wK ?_)|((with_reducible show(_∧_)∧_∧_);(refine eK ?_ ?_<;>with_reducible repeat' (first|exact trivial|(show _∧_;refine aK ?_ ?_))))));all_goals clear fct)
            refine bR.mk (i+1) (by omega) (by omega) ?_
            rw[hV]
            (refine fK ?_;(with_reducible repeat' (first|exact trivial|(show _∧_;refine aK ?_ ?_)));(all_goals try rfl))
            all_goals first|rfl|exact⟨rfl,rfl⟩|trace_state
        · rw[if_neg (fun q=>e2 q.2.1)] at hst
          cases hst
          have f1:=eq_true e1
          have f2:=eq_false e2
          (have fct:=And.intro f1 (f2);(repeat' (first|refine gF ?_|(((with_reducible show bg _ _ _ _ _);refine bg.mk i (jl _) rfl (kW hz) ?_)<;>with_reducible refine wK ?_)|((with_reducible show(_∧_)∧_∧_);(refine eK ?_ ?_<;>with_reducible repeat' (first|exact trivial|(show _∧_;refine aK ?_ ?_))))));all_goals clear fct)
          refine bR.mk (i+1) (by omega) (by omega) ?_
          rw[hV]
          (refine fK ?_;(with_reducible repeat' (first|exact trivial|(show _∧_;refine aK ?_ ?_)));(all_goals try rfl))
          all_goals first|rfl|exact⟨rfl,rfl⟩|trace_state
      · rw[if_neg (fun q=>e1 q.1)] at hst
        cases hst
        have f1:=eq_false e1
        (have fct:=f1;(repeat' (first|refine gF ?_|(((with_reducible show bg _ _ _ _ _);refine bg.mk i (jl _) rfl (kW hz) ?_)<;>with_reducible refine wK ?_)|((with_reducible show(_∧_)∧_∧_);(refine eK ?_ ?_<;>with_reducible repeat' (first|exact trivial|(show _∧_;refine aK ?_ ?_))))));all_goals clear fct)
        refine bR.mk (i+1) (by omega) (by omega) ?_
        rw[hV]
        (refine fK ?_;(with_reducible repeat' (first|exact trivial|(show _∧_;refine aK ?_ ?_)));(all_goals try rfl))
        all_goals first|rfl|exact⟨rfl,rfl⟩|trace_state
    · obtain rfl:i=ns.length:=by simp only[cR,ay] at h2;omega
      rw[hUn]
      generalize gd y.attrs s=t at*
      obtain⟨t1,t2⟩:=t
      have f4:=zo t1
      cases t2<;>
        ((have fct:=f4;(repeat' (first|refine gF ?_|((first|((with_reducible show af _ _ 102 _ _ _ _);refine af.val [] h102' Kq ⟨⟨rfl,rfl,trivial⟩,rfl,rfl,trivial⟩ rfl rfl rfl ?_)|((with_reducible show aI _ _ _ _);refine dK ?_))<;>with_reducible refine wK ?_)|((with_reducible show(_∧_)∧_∧_);(refine eK ?_ ?_<;>with_reducible repeat' (first|exact trivial|(show _∧_;refine aK ?_ ?_))))));all_goals clear fct)
         refine bR.mk (j+1) (by omega) (by omega) ?_
         (refine fK ?_;(with_reducible repeat' (first|exact trivial|(show _∧_;refine aK ?_ ?_)));(all_goals try rfl))
         all_goals first|rfl|exact⟨rfl,rfl⟩|trace_state)
  · repeat' (first|refine gK ?_|((with_reducible show(_∧_)∧_∧_);(refine eK ?_ ?_<;>with_reducible repeat' (first|exact trivial|(show _∧_;refine aK ?_ ?_)))))
    all_goals first|rfl|trace_state
end Go.Proofs.Heir
namespace Go.Proofs.Heir
open Go Go.Am Go.RowKit Go.Lib
set_option maxRecDepth 100000
set_option maxHeartbeats 8000000
def dX (x:aJ)(k:Int):aJ:={x with node:=k}
@[reducible] def EZ (x : aJ) (k : Int) : AV := .agg [ah x.kind, ah k, ah x.src, ah x.dst, bS x.name, bC x.had, bC x.has, bS x.old, bS x.new]
theorem rD {l:List ai}{m n:Int}{a b:Nat}{ka kb es ex:List Int}{ns:List aJ}{x:aJ}(hka:∀y,l[a]? =some y→y.kids=ka)(hkb:∀y,l[b]? =some y→y.kids=kb)(he:es.length≤1000)(hn:ns.length≤100000)
    (h191:ak Tryz.prog 34 [] [aM ⟨l,m⟩,ah n] [aA (es++ex)] (.own 0 0 es.length)):
    ak Tryz.prog 141 [aL m l.length 4 (.own 3 0 ns.length),aA ka,aA kb,aN ns,aQ l a 1 b 2] [.ptr 0 0 0,ah n,jl x]
      [aL m l.length 4 (.own 5 0 (ns.length+es.length)),aA ka,aA kb,.dead,aQ l a 1 b 2,aN (ns++es.map (dX x))] (.tup []):=by
  have hle:(es.map bU).length=es.length:=bW ..
  refine ak.eA [(5,93)] (rvs:=[]) G au Tryz.func141 rfl Tryz.ntmps141 rfl rfl ?_;with_reducible refine wD ?_
  refine af.c7 (news:=[aQ l a 1 b 2,aA ka,aA kb,aA (es++ex)]) [4,1,2,111] [] (mQ hka hkb h191 rfl) MO ⟨⟨⟨rfl,rfl⟩,rfl,trivial⟩,rfl,trivial⟩ ⟨⟨rfl,bI (fun _=>rfl) (fun _=>rfl)⟩,⟨rfl,.inl ⟨rfl,aa _⟩⟩,⟨rfl,.inl ⟨rfl,aa _⟩⟩,trivial⟩ rfl ⟨⟨rfl,rfl⟩,rfl⟩ rfl ⟨⟨rfl,bB rfl rfl (by decide) (by decide)⟩,⟨rfl,.inl ⟨rfl,aa _⟩⟩,⟨rfl,.inl ⟨rfl,aa _⟩⟩,⟨rfl,.inl ⟨rfl,aa _⟩⟩,trivial⟩ rfl rfl ?_;with_reducible refine wK ?_
  refine bX.FW G au (fun(s:Nat×Int)=>[(0,.ptr 0 0 0),(5,.ptr 50 0 0),(13,.own 111 0 es.length),(14,ah es.length),(15,ah s.1)])
    (fun s=>[(0,aL m l.length 4 (.own 93 0 (ns.length+s.1))),(1,aA ka),(2,aA kb),(3,.dead),(4,aQ l a 1 b 2),(111,aA (es++ex)),(50,.live 9 [EZ x s.2] false),(93,aN (ns++ (es.take s.1).map (dX x)))])
    (fun s=>s.1≤es.length) (fun s=>es.length-s.1) (0,x.node) [(93,3)] (Nat.zero_le _) ?_ ?_
  · (refine fK ?_;(with_reducible repeat' (first|exact trivial|(show _∧_;refine aK ?_ ?_)));(all_goals try rfl))
    all_goals first
      |(exact⟨.refl (aa _),aa _⟩)
      |(exact cast (congrArg (fun z=>qx _ z _) (show ns.map dY=(ns++ (es.take 0).map (dX x)).map dY by simp)) ⟨.refl (aj _),aj _⟩)
      |(exact bu (fun _=>rfl) (fun _=>rfl))
      |trace_state
  rintro⟨k,c⟩ hk
  dsimp only at hk
  with_reducible refine wK ?_
  refine aX.mk (fun h1=>?_) (fun h1=>?_)<;>(try simp only[ay] at h1)<;>with_reducible refine wK ?_
  · have hkl:k<es.length:=by simp only[bH,ay] at h1;omega
    obtain⟨e,hy⟩:∃e,es[k]? =some e:=⟨_,bD hkl⟩
    have hy2:(es++ex)[k]? =some e:=by rw[List.getElem?_append_left hkl];exact hy
    repeat' (first
    |refine gK ?_
    | ((first
      |((with_reducible show ee _ _ _ _ _);refine ee.mk k rfl (by first|exact hkl|(simp;omega)) ?_)
      |((with_reducible show aT _ _ _ _ _);refine aT.mk (ah e) (by first|exact nj hy2|(rw[Nat.zero_add];exact nj hy2)) ?_)
      |((with_reducible show iT _ _ _ _ _ _ _ _ _ _);refine iT.mk ((ns++ (es.take k).map (dX x)).map dY) [EZ x e] ⟨rfl,(by simp;omega),rfl⟩ ⟨rfl,rfl,rfl⟩ rfl (by simp;omega) (by simp;omega) ?_)
      |((with_reducible show aI _ _ _ _);refine dK ?_))<;>with_reducible refine wK ?_)
    |((with_reducible show(_∧_)∧_∧_);(refine eK ?_ ?_<;>with_reducible repeat' (first|exact trivial|(show _∧_;refine aK ?_ ?_)))))
    have ht:es.take (k+1)=es.take k++ [e]:=by rw[List.take_add_one,hy];rfl
    have hrow:(ns++ (es.take k).map (dX x)).map dY++ [EZ x e]=(ns++ (es.take (k+1)).map (dX x)).map dY:=by
      rw[ht,iq,iq,iq,iq,List.append_assoc];rfl
    refine mH.mk (k+1,e) [(93,281)] (by dsimp only;omega) (by dsimp only;omega) ?_
    (refine fK ?_;(with_reducible repeat' (first|exact trivial|(show _∧_;refine aK ?_ ?_)));(all_goals try rfl))
    all_goals first
      |exact⟨.refl (aa _),aa _⟩
      |exact bu (fun _=>rfl) (fun _=>rfl)
      |exact cast (congrArg (fun z=>qx _ z _) hrow) ⟨.refl (by rw[hrow];exact aj _),by rw[hrow];exact aj _⟩
      |(refine⟨⟨⟨rfl,rfl⟩,rfl,⟨rfl,?_⟩,trivial⟩,trivial⟩;simp;omega)
      |(simp;omega)
      |trace_state
  · have hjl:k=es.length:=by simp only[cR,ay] at h1;omega
    subst hjl
    repeat' (first
    |refine gK ?_
    |(((with_reducible show aI _ _ _ _);refine dK ?_)<;>with_reducible refine wK ?_)
    |((with_reducible show(_∧_)∧_∧_);(refine eK ?_ ?_<;>with_reducible repeat' (first|exact trivial|(show _∧_;refine aK ?_ ?_)))))
    all_goals first|rfl|exact .inl rfl|exact⟨.refl rfl,rfl⟩|exact bu (fun _=>rfl) (fun _=>rfl)|exact⟨.refl (aa _),aa _⟩|(rw[qL (Nat.le_refl _)];exact⟨.refl (aj _),aj _⟩)|trace_state
section
variable {l : List ai} {a b ta tb ta' n i : Nat} {y : ai}
theorem ou (y':ai)(h:a<l.length):(aO l a ta b tb).set a (dF y' ta')=aO (l.set a y') a ta' b tb:=by
  apply List.ext_getElem?
  intro j
  unfold aO
  rw[List.getElem?_set,List.getElem?_mapIdx,List.getElem?_mapIdx,List.getElem?_set,List.length_mapIdx]
  by_cases e:a=j
  · subst e
    rw[if_pos rfl,if_pos rfl,if_pos h,if_pos h]
    show some _=some (dZ a ta' b tb a y')
    rw[Ep];rfl
  · rw [if_neg e,if_neg e]
    cases l[j]? with
    |none=>rfl
    | some z=>
      show some (dZ a ta b tb j z)=some (dZ a ta' b tb j z)
      unfold dZ
      have hja:¬j=a:=fun q=>e q.symm
      rw[if_neg hja,if_neg hja]
theorem tO (y':ai)(hb:b<l.length)(hab:b≠a):(aO l a ta b tb).set b (dF y' tb)=aO (l.set b y') a ta b tb:=by
  have:=rm (l:=l) (a:=a) (ta:=ta) (b:=b) (tb:=tb) y' hb
  rw[FC hab] at this;exact this
theorem oQ (y':ai)(h:i<l.length)(ha:i≠a)(hb:i≠b):(aO l a ta b tb).set i (bF y')=aO (l.set i y') a ta b tb:=by
  have:=rm (l:=l) (a:=a) (ta:=ta) (b:=b) (tb:=tb) y' h
  rw[dh ha hb] at this;exact this
theorem Bh (h:l[a]? =some y):(aO l a ta b tb)[a]? =some (dW y ta):=by rw[cO h,Ep]
theorem uD (h:l[b]? =some y)(hab:b≠a):(aO l a ta b tb)[b]? =some (dW y tb):=by rw[cO h,FC hab]
theorem F3 (h:l[i]? =some y)(ha:i≠a)(hb:i≠b):(aO l a ta b tb)[i]? =some (aP y):=by rw[cO h,dh ha hb]
end
@[reducible] def mq : aJ := ⟨2, 0, 0, 0, ByteArray.empty, false, false, ByteArray.empty, ByteArray.empty⟩
theorem nx {f:FuncId}{rest:List AV}{res:AV}{ks:List Int}(h:ak Tryz.prog f [] (cN ks::rest) [] res)(hp:kx res=true)(hr:br rest=true):
    ak Tryz.prog f [aA ks] (.own 0 0 ks.length::rest) [aA ks] res:=
  ak.Ks [(0,aA ks)] [0] (eG [aA ks]) h hp ⟨cq rfl rfl rfl rfl,bP hr⟩
theorem Kw {l:List ai}{m:Int}{a b n i:Nat}{ka kb es ex:List Int}{ns:List aJ}{ya y:ai}{conn:Bool}{told:List aJ}(htold:told=if conn then es.map (dX mq) else[])(hL:l.length≤1000)(ha:l[a]? =some ya)(hb:∀z,l[b]? =some z→z.kids=kb)(hy:l[n]? =some y)(hna:n≠a)(hnb:n≠b)(hka:ya.kids=ka)(hp:y.parent=a)(hi:i<ka.length)(hk:ka.length≤1000)(he:es.length≤1000)(hn:ns.length≤100000)
    (h21:ak Tryz.prog 35 [] [aM ⟨l,m⟩,ah n] [] (bC conn)) (h191:ak Tryz.prog 34 [] [aM ⟨l,m⟩,ah n] [aA (es++ex)] (.own 0 0 es.length)) (h79:ak Tryz.prog 73 [] [cN ka,ah n] [] (ah i))
    (h188:ak Tryz.prog 145 [aA ka] [.own 0 0 ka.length,ah i,ah (i+1:Nat)] [.dead,aA (ka.take i++ka.drop (i+1))] (.own 1 0 (ka.take i++ka.drop (i+1)).length)):
    ak Tryz.prog 79 [aL m l.length 4 (.own 3 0 ns.length),aA ka,aA kb,aN ns,aQ l a 1 b 2] [.ptr 0 0 0,ah n]
      [aL m l.length 4 (.own 6 0 (ns++told).length),.dead,aA kb,.dead,aQ ((l.set a {ya with kids:=ka.take i++ka.drop (i+1)}).set n {y with parent:=-1}) a 5 b 2,aA (ka.take i++ka.drop (i+1)),aN (ns++told)] (.tup []):=by
  have hal:=(aY ha).1
  have hnl:=(aY hy).1
  have hA:∀z,l[a]? =some z→z.kids=ka:=fun z hz=>by rw[ha] at hz;cases hz;exact hka
  have t21:=nn (rest:=[ah n]) hA hb h21 rfl rfl
  have t164:=rD (x:=mq) hA hb he hn h191
  have t79:=nx (rest:=[ah n]) h79 rfl rfl
  have hne:a≠n:=fun e=>hna e.symm
  obtain⟨k2,hk2⟩:∃k2,k2=ka.take i++ka.drop (i+1):=⟨_,rfl⟩
  rw[←hk2] at h188 ⊢
  have hrow:∀u,((aO l a 1 b 2).set a (dF {ya with kids:=k2} u)).set n (bF {y with parent:=-1})=aO ((l.set a {ya with kids:=k2}).set n {y with parent:=-1}) a u b 2:=fun u=>by
    rw[ou _ hal,oQ _ (by rw[List.length_set];exact hnl) hna hnb]
  have g1:(aO l a 1 b 2)[n]? =some (aP y):=F3 hy hna hnb
  have g2:(aO l a 1 b 2)[a]? =some (dW ya 1):=Bh ha
  have g3:∀x,((aO l a 1 b 2).set a x)[n]? =some (aP y):=fun x=>by rw[List.getElem?_set,if_neg hne];exact g1
  have g4:∀x,((aO l a 1 b 2).set (0+a) x)[0+n]? =some (aP y):=fun x=>by rw[Nat.zero_add,Nat.zero_add];exact g3 x
  have hrow':((aO l a 1 b 2).set (0+a) (dF {ya with kids:=k2} 511)).set (0+n) (bF {y with parent:=-1})=aO ((l.set a {ya with kids:=k2}).set n {y with parent:=-1}) a 511 b 2:=by rw[Nat.zero_add,Nat.zero_add];exact hrow 511
  have hlr:(aO l a 1 b 2).length=l.length:=bM
  obtain⟨y1,y2,y3,y4,y5,y6,y7,y8,y9,y10⟩:=y
  obtain⟨z1,z2,z3,z4,z5,z6,z7,z8,z9,z10⟩:=ya
  dsimp only at hp hka
  subst hp;subst hka
  have hpa:¬ ((a:Int)=-1):=by omega
  refine ak.eA [(5,511)] (rvs:=[]) G au Tryz.func79 rfl Tryz.ntmps79 rfl rfl ?_;with_reducible refine wD ?_
  (have fct:=hpa;(repeat' (first
    |refine pF ?_
    | ((first
      |((with_reducible show aX _ _ _ _);(refine aX.mk (fun hp=>?_) (fun hp=>?_)<;>(try simp only[ay,bH,cR,Bool.not_eq_true',Bool.not_eq_false',Decidable.not_not,Int.not_lt,Int.not_le] at hp)))
      |((with_reducible show ee _ _ _ _ _);first|refine ee.mk n rfl (by first|exact hnl|(simp;omega)) ?_|refine ee.mk a rfl (by first|exact hal|(simp;omega)) ?_)
      |((with_reducible show aT _ _ _ _ _);refine aT.mk _ (by first|exact g4 _|exact g1|exact g2|exact g3 _|(rw[Nat.zero_add];first|exact g1|exact g2|exact g3 _)) ?_)
      |((with_reducible show af _ _ 35 _ _ _ _);refine af.c7 (news:=[aQ l a 1 b 2,aA z7,aA kb]) [4,1,2] [] t21 Gi ⟨⟨⟨rfl,rfl⟩,rfl,trivial⟩,rfl,trivial⟩ ⟨⟨rfl,bI (fun _=>rfl) (fun _=>rfl)⟩,⟨rfl,.inl ⟨rfl,aa _⟩⟩,⟨rfl,.inl ⟨rfl,aa _⟩⟩,trivial⟩ rfl ⟨⟨rfl,rfl⟩,rfl⟩ rfl ⟨⟨rfl,bB rfl rfl (by decide) (by decide)⟩,⟨rfl,.inl ⟨rfl,aa _⟩⟩,⟨rfl,.inl ⟨rfl,aa _⟩⟩,trivial⟩ rfl rfl ?_)
      |((with_reducible show af _ _ 141 _ _ _ _);refine af.c7 (news:=[aL m l.length 4 (.own 133 0 (ns.length+es.length)),aA z7,aA kb,.dead,aQ l a 1 b 2,aN (ns++es.map (dX mq))]) [0,1,2,3,4,133] [] t164 Ct ⟨⟨rfl,rfl⟩,rfl,⟨rfl,rfl,rfl,rfl,rfl,rfl,rfl,rfl,rfl,trivial⟩,trivial⟩ ⟨⟨rfl,.inr ⟨⟨⟨⟨rfl,rfl⟩,rfl,⟨rfl,rfl⟩,trivial⟩,trivial⟩,rfl⟩⟩,⟨rfl,.inl ⟨rfl,aa _⟩⟩,⟨rfl,.inl ⟨rfl,aa _⟩⟩,⟨rfl,.inl ⟨rfl,aj _⟩⟩,⟨rfl,bI (fun _=>rfl) (fun _=>rfl)⟩,trivial⟩ rfl ⟨⟨rfl,rfl⟩,rfl⟩ rfl ⟨⟨rfl,.inr ⟨rfl,rfl,rfl⟩⟩,⟨rfl,.inl ⟨rfl,aa _⟩⟩,⟨rfl,.inl ⟨rfl,aa _⟩⟩,⟨rfl,bB rfl rfl (by decide) (by decide)⟩,⟨rfl,.inl ⟨rfl,aj _⟩⟩,trivial⟩ rfl rfl ?_)
      |((with_reducible show af _ _ 73 _ _ _ _);refine af.c7 (news:=[aA z7]) [1] [] t79 GW ⟨⟨rfl,rfl⟩,rfl,trivial⟩ ⟨⟨rfl,.inl ⟨rfl,aa _⟩⟩,trivial⟩ rfl ⟨⟨rfl,rfl⟩,rfl⟩ rfl ⟨⟨rfl,.inl ⟨rfl,aa _⟩⟩,trivial⟩ rfl rfl ?_)
      |((with_reducible show af _ _ 145 _ _ _ _);refine af.c7 (news:=[.dead,aA k2]) [1,511] [] h188 K9 ⟨⟨rfl,rfl⟩,rfl,by show((i+1:Nat):Int)=(i:Int)+1;omega,trivial⟩ ⟨⟨rfl,.inl ⟨rfl,aa _⟩⟩,trivial⟩ rfl ⟨⟨rfl,rfl⟩,rfl⟩ rfl ⟨⟨rfl,.inl ⟨rfl,aa _⟩⟩,trivial⟩ rfl rfl ?_)
      |((with_reducible show aI _ _ _ _);refine dK ?_))<;>with_reducible refine wK ?_)
    |((with_reducible show(_∧_)∧_∧_);(refine eK ?_ ?_<;>with_reducible repeat' (first|exact trivial|(show _∧_;refine aK ?_ ?_))))));all_goals clear fct)
  all_goals first
    |exact⟨.refl (aa _),aa _⟩
    |exact cast (congrArg (gb _ _) hrow'.symm) (bu (fun _=>rfl) (fun _=>rfl))
    | (have ht:told=es.map (dX mq):=by rw[htold,hp];rfl
       subst ht
       first|exact⟨.refl (aj _),aj _⟩|(simp;done))
    | (have ht:told=[]:=by rw[htold,hp];rfl
       subst ht
       first|exact cast (congrArg (fun z=>qx _ z _) (show ns.map dY=(ns++ []).map dY by simp)) ⟨.refl (aj _),aj _⟩|(simp;done))
    |trace_state
end Go.Proofs.Heir
