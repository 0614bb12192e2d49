/- Models, plain laws and contracts of functions of the given program; conditions as stated in each theorem. By an AI agent. -/
import Derived.Test.YtkhjcnjicjgfiaaGreatDoorWO14
import Derived.Test.YtkhjcnjicjgfiaaGreatDoorWO17
import Derived.Test.YtkhjcnjicjgfiaaGreatDoorWO15
import Derived.Test.YtkhjcnjicjgfiaaGreatDoorWO18
set_option linter.unusedSimpArgs false
set_option linter.unusedVariables false
namespace Go.Proofs.Heir
open Go Go.Am Go.RowKit Go.Lib
set_option maxRecDepth 100000
set_option maxHeartbeats 8000000
section
variable {l : List ai} {a b ta tb : Nat} {y : ai}
theorem AN:aP l l.length ta l.length tb=l.map bJ:=by
  apply List.ext_getElem?
  intro i
  unfold aP
  rw[List.getElem?_mapIdx,fH]
  cases h:l[i]? with
  |none=>rfl
  | some y=>
    have:=(bg h).1
    show some (ei l.length ta l.length tb i y)=some (bJ y)
    unfold ei
    rw[if_neg (by omega),if_neg (by omega)]
theorem gD {a' b':Nat}{x:AV}{k:Nat}(h:∀i z,l[i]? =some z→ei a ta b tb i z=if i=k then x else ei a' ta b' tb i z):(aP l a' ta b' tb).set (0+k) x=aP l a ta b tb:=by
  apply List.ext_getElem?
  intro j
  unfold aP
  rw[Nat.zero_add,List.getElem?_set,List.getElem?_mapIdx,List.getElem?_mapIdx,List.length_mapIdx]
  cases e:l[j]? with
  | none=>
    have:¬k<l.length∨k≠j:=by
      by_cases c:k=j
      ·subst c;left;rw[List.getElem?_eq_none_iff] at e;omega
      ·exact .inr c
    rcases this with c|c
    · by_cases d:k=j
      ·rw[if_pos d,if_neg c];rfl
      ·rw[if_neg d];rfl
    ·rw[if_neg c];rfl
  | some z=>
    have:=(bg e).1
    show _=some (ei a ta b tb j z)
    rw[h j z e]
    by_cases d:k=j
    ·subst d;rw[if_pos rfl,if_pos this,if_pos rfl]
    ·rw[if_neg d,if_neg (fun q=>d q.symm)];rfl
theorem bt {m:ML}{fz:Nat→Bool}{tab:List (Nat×Nat)}{ta' tb' k:Nat}(h1:a<l.length→oN tab ta'=some ta)(h2:b<l.length→oN tab tb'=some tb):eF (MF tab fz m (k+2)) (aP l a ta' b tb') (aP l a ta b tb):=
  ⟨by rw[bN,bN],fun i x z hx hz=>by
    obtain⟨y,hy,rfl⟩:=ko hx
    obtain⟨y2,hy2,rfl⟩:=ko hz
    rw[hy] at hy2;cases hy2
    have hi:=(bg hy).1
    have key:∀u u':Nat,oN tab u'=some u→MF tab fz m (k+2) (dF y u') (dF y u):=fun u u' h=>by
      have hw:MF tab fz m (k+1) (.own u' 0 y.kids.length) (.own u 0 y.kids.length):=by simp[MF,h]
      exact⟨rfl,rfl,rfl,rfl,jg _ _ rfl,rfl,hw,rfl,rfl,rfl,trivial⟩
    unfold ei
    by_cases e:i=a
    ·rw[if_pos e,if_pos e];exact key _ _ (h1 (e▸hi))
    · rw[if_neg e,if_neg e]
      by_cases c:i=b
      ·rw[if_pos c,if_pos c];exact key _ _ (h2 (c▸hi))
      ·rw[if_neg c,if_neg c];exact jg _ _ (mS y)⟩
end
@[reducible] def aI (l : List Int) : MS := .live 1 (l.map bV) false
theorem mo (l:List Int):jC [aI l]:=⟨bD.ia fun x hx=>by
  obtain⟨a,_,rfl⟩:=List.mem_map.1 hx;rfl,ae l,trivial⟩
theorem CV (l:List Int)(hl:l.length≤100000):an Tryz.prog 72 [] [cF l] [aI l] (.own 0 0 l.length):=by
  have hlm:(l.map bV).length=l.length:=cj ..
  refine an.aF (rvs:=[.tmp 2]) G au Tryz.func72 rfl Tryz.ntmps72 rfl rfl ?_;with_reducible refine wD ?_
  refine o8.mk (fun h=>?_) (fun _=>?_)<;>with_reducible refine wK ?_
  · obtain rfl:l=[]:=by simpa using h
    (refine eK ?_ ?_<;>with_reducible repeat' (first|exact trivial|(show _∧_;refine aK ?_ ?_)))
    all_goals first|rfl|trivial
  · refine j0.mk [] (l.map bV) ⟨rfl,rfl,rfl⟩ ⟨rfl,rfl,rfl⟩ (mz bV (fun _=>rfl) l) (by simp;omega) (by simp;omega) ?_;with_reducible refine wK ?_
    (refine eK ?_ ?_<;>with_reducible repeat' (first|exact trivial|(show _∧_;refine aK ?_ ?_)))
    ·exact hlm.symm
    ·exact bP (ae l)
@[reducible] def MM (m : Int) (l : List ai) (a b : Nat) (ka kb : List Int) : Bool → Bool → ML
  |false,false=>[(120,aQ m l.length 74 (.own 93 0 0)),(93,.live 9 [] false),(74,aT l l.length 81 l.length 91)]
  |true,false=>[(120,aQ m l.length 74 (.own 93 0 0)),(93,.live 9 [] false),(81,aI ka),(74,aT l a 81 l.length 91)]
  |false,true=>[(120,aQ m l.length 74 (.own 93 0 0)),(93,.live 9 [] false),(91,aI kb),(74,aT l l.length 81 b 91)]
  |true,true=>[(120,aQ m l.length 74 (.own 93 0 0)),(93,.live 9 [] false),(81,aI ka),(91,aI kb),(74,aT l a 81 b 91)]
theorem Ke (f:ForM)(hs:bE f.nodes){a b:Nat}{ya yb:ai}(hab:a≠b)(ha:f.nodes[a]? =some ya)(hb:f.nodes[b]? =some yb):
    an Tryz.prog 121 [] [aY f] [aQ f.most f.nodes.length 4 (.own 3 0 0),aI ya.kids,aI yb.kids,.live 9 [] false,aT f.nodes a 1 b 2] (.ptr 0 0 0):=by
  have h137:=Ao f.nodes (by have:=hs.len;omega)
  have h60:=hs.len
  have hv:∀ (k:Nat) (y:ai),f.nodes[k]? =some y→an Tryz.prog 72 [] [cF y.kids] [] (cF y.kids):=fun k y hy=>Hi y.kids (by have:=hs.kids y (bT hy);omega)
  have ho:∀ (k:Nat) (y:ai),f.nodes[k]? =some y→an Tryz.prog 72 [] [cF y.kids] [aI y.kids] (.own 0 0 y.kids.length):=fun k y hy=>CV y.kids (by have:=hs.kids y (bT hy);omega)
  have hlm:(f.nodes.map bJ).length=f.nodes.length:=cj ..
  obtain⟨l,m⟩:=f
  simp only at h137 h60 hv ho hlm ha hb
  have hal:=(bg ha).1
  have hbl:=(bg hb).1
  refine an.fA [(1,81),(2,91),(3,93)] (rvs:=[.tmp 2]) G au Tryz.func121 rfl Tryz.ntmps121 rfl rfl ?_;with_reducible refine wD ?_
  repeat' (first
    |refine gK ?_
    | ((first
      |((with_reducible show aa _ _ 137 _ _ _ _);refine aa.new 71 [] h137 Ky ⟨rfl,trivial⟩ rfl rfl rfl (um l) rfl ?_)
      |((with_reducible show aL _ _ _ _);refine dK ?_))<;>with_reducible refine wK ?_)
    |((with_reducible show(_∧_)∧_∧_);(refine eK ?_ ?_<;>with_reducible repeat' (first|exact trivial|(show _∧_;refine aK ?_ ?_)))))
  refine cn.jE 3 120 93 9 0 2 (.agg [.own 71 0 l.length,aj m,.lit (.slice none 0 0)]) (.agg [.own 71 0 l.length,aj m,.own 93 0 0]) rfl rfl rfl rfl rfl rfl ?_
  show cn _ _ _ _ [(10,_),(71,cJ l),(120,aQ m l.length 71 (.own 93 0 0)),(93,.live 9 [] false)]
  refine cn.use G au (fun(s:Nat×Bool×Bool)=>[(3,.ptr 120 0 0),(18,aj l.length),(19,aj s.1)])
    (fun s=>MM m l a b ya.kids yb.kids s.2.1 s.2.2)
    (fun s=>s.1≤l.length∧s.2.1=decide (a<s.1)∧s.2.2=decide (b<s.1)) (fun s=>l.length-s.1) (0,false,false) ⟨Nat.zero_le _,by simp,by simp⟩ ?_ ?_
  · (refine fK ?_;(with_reducible repeat' (first|exact trivial|(show _∧_;refine aK ?_ ?_)));(all_goals try rfl))
    all_goals first
      |(refine cast (congrArg (fun x=>eF _ x _) (AN (l:=l) (ta:=81) (tb:=91)).symm) ?_;exact .refl (aM _))
      |exact .inl rfl
      |exact⟨.refl rfl,rfl⟩
      |trace_state
  rintro⟨k,da,db⟩ ⟨hk,hda,hdb⟩
  dsimp only at hk hda hdb
  cases da<;>cases db
  · have ha' : k≤a:=by simpa using hda
    have hb':k≤b:=by simpa using hdb
    with_reducible show ug _ _ _ _ _ _ [(120,aQ m l.length 74 (.own 93 0 0)),(93,.live 9 [] false),(74,aT l l.length 81 l.length 91)] _
    with_reducible refine wK ?_
    refine bk.mk (fun h1=>?_) (fun h1=>?_)<;>(try simp only[ay] at h1)<;>with_reducible refine wK ?_
    · have hkl:k<l.length:=by simp only[bO,ay] at h1;omega
      by_cases ea:k=a
      · subst ea
        have hc:=ho k ya ha
        have hr:(aP l l.length 81 l.length 91).set (0+k) (dF ya 81)=aP l k 81 l.length 91:=gD fun i z hz=>by
          have:=(bg hz).1
          by_cases e:i=k
          ·subst e;rw[ha] at hz;cases hz;unfold ei;simp<;>omega
          · unfold ei;rw[if_neg e];repeat' split
            all_goals first|rfl|omega
        have hg:(aP l l.length 81 l.length 91)[k]? =some (az ya):=by rw[cI ha,c6 (by omega) (by omega)]
        obtain⟨y1,y2,y3,y4,y5,y6,y7,y8,y9,y10⟩:=ya
        simp only at hc
        repeat' (first
    |refine gK ?_
    | ((first
      |((with_reducible show eO _ _ _ _ _);refine eO.mk k rfl (by first|exact hkl|(rw[bN];exact hkl)) ?_)
      |((with_reducible show aZ _ _ _ _ _);first|refine aZ.mk (az ⟨y1,y2,y3,y4,y5,y6,y7,y8,y9,y10⟩) (by first|exact hg|(rw[Nat.zero_add];exact hg)) ?_|refine aZ.mk _ rfl ?_)
      |((with_reducible show aa _ _ 72 _ _ _ _);refine aa.new 81 [] hc Hu ⟨rfl,trivial⟩ rfl rfl rfl (mo _) rfl ?_)
      |((with_reducible show aL _ _ _ _);refine dK ?_))<;>with_reducible refine wK ?_)
    | ((with_reducible show(_∧_)∧_∧_);(refine eK ?_ ?_<;>with_reducible repeat' (first|exact trivial|(show _∧_;refine aK ?_ ?_)))))
        refine cm.mk (k+1,true,false) ⟨by dsimp only;omega,by dsimp only;first|(simp;done)|(simp;omega),by dsimp only;first|(simp;done)|(simp;omega)⟩ (by dsimp only;omega) ?_
        (refine fK ?_;(with_reducible repeat' (first|exact trivial|(show _∧_;refine aK ?_ ?_)));(all_goals try rfl))
        all_goals first
          |(refine cast (congrArg (eF _ _) hr.symm) ?_;exact bt (fun h=>by first|(exfalso;omega)|rfl) (fun h=>by first|(exfalso;omega)|rfl))
          |exact .inl rfl
          |exact⟨.refl rfl,rfl⟩
          |exact⟨.refl (ae _),ae _⟩
          |(simp;done)
          |trace_state
      · skip
        by_cases eb:k=b
        · subst eb
          have hc:=ho k yb hb
          have hr:(aP l l.length 81 l.length 91).set (0+k) (dF yb 91)=aP l l.length 81 k 91:=gD fun i z hz=>by
            have:=(bg hz).1
            by_cases e:i=k
            ·subst e;rw[hb] at hz;cases hz;unfold ei;simp<;>omega
            · unfold ei;rw[if_neg e];repeat' split
              all_goals first|rfl|omega
          have hg:(aP l l.length 81 l.length 91)[k]? =some (az yb):=by rw[cI hb,c6 (by omega) (by omega)]
          obtain⟨y1,y2,y3,y4,y5,y6,y7,y8,y9,y10⟩:=yb
          simp only at hc
          repeat' (first
    |refine gK ?_
    | ((first
      |((with_reducible show eO _ _ _ _ _);refine eO.mk k rfl (by first|exact hkl|(rw[bN];exact hkl)) ?_)
      |((with_reducible show aZ _ _ _ _ _);first|refine aZ.mk (az ⟨y1,y2,y3,y4,y5,y6,y7,y8,y9,y10⟩) (by first|exact hg|(rw[Nat.zero_add];exact hg)) ?_|refine aZ.mk _ rfl ?_)
      |((with_reducible show aa _ _ 72 _ _ _ _);refine aa.new 91 [] hc Hu ⟨rfl,trivial⟩ rfl rfl rfl (mo _) rfl ?_)
      |((with_reducible show aL _ _ _ _);refine dK ?_))<;>with_reducible refine wK ?_)
    | ((with_reducible show(_∧_)∧_∧_);(refine eK ?_ ?_<;>with_reducible repeat' (first|exact trivial|(show _∧_;refine aK ?_ ?_)))))
          refine cm.mk (k+1,false,true) ⟨by dsimp only;omega,by dsimp only;first|(simp;done)|(simp;omega),by dsimp only;first|(simp;done)|(simp;omega)⟩ (by dsimp only;omega) ?_
          (refine fK ?_;(with_reducible repeat' (first|exact trivial|(show _∧_;refine aK ?_ ?_)));(all_goals try rfl))
          all_goals first
            |(refine cast (congrArg (eF _ _) hr.symm) ?_;exact bt (fun h=>by first|(exfalso;omega)|rfl) (fun h=>by first|(exfalso;omega)|rfl))
            |exact .inl rfl
            |exact⟨.refl rfl,rfl⟩
            |exact⟨.refl (ae _),ae _⟩
            |(simp;done)
            |trace_state
        · skip
          obtain⟨y,hy⟩:∃y,l[k]? =some y:=⟨_,bz hkl⟩
          have hc:=hv k y hy
          have hr:(aP l l.length 81 l.length 91).set (0+k) (bJ y)=aP l l.length 81 l.length 91:=gD fun i z hz=>by
            have:=(bg hz).1
            by_cases e:i=k
            ·subst e;rw[hy] at hz;cases hz;rw[if_pos rfl,c6 (by omega) (by omega)];rfl
            ·rw[if_neg e]
          have hg:(aP l l.length 81 l.length 91)[k]? =some (az y):=by rw[cI hy,c6 (by omega) (by omega)]
          obtain⟨y1,y2,y3,y4,y5,y6,y7,y8,y9,y10⟩:=y
          simp only at hc
          repeat' (first
    |refine gK ?_
    | ((first
      |((with_reducible show eO _ _ _ _ _);refine eO.mk k rfl (by first|exact hkl|(rw[bN];exact hkl)) ?_)
      |((with_reducible show aZ _ _ _ _ _);first|refine aZ.mk (az ⟨y1,y2,y3,y4,y5,y6,y7,y8,y9,y10⟩) (by first|exact hg|(rw[Nat.zero_add];exact hg)) ?_|refine aZ.mk _ rfl ?_)
      |((with_reducible show aa _ _ 72 _ _ _ _);refine aa.val [] hc Hu ⟨rfl,trivial⟩ rfl rfl rfl ?_)
      |((with_reducible show aL _ _ _ _);refine dK ?_))<;>with_reducible refine wK ?_)
    |((with_reducible show(_∧_)∧_∧_);(refine eK ?_ ?_<;>with_reducible repeat' (first|exact trivial|(show _∧_;refine aK ?_ ?_)))))
          refine cm.mk (k+1,false,false) ⟨by dsimp only;omega,by dsimp only;first|(simp;done)|(simp;omega),by dsimp only;first|(simp;done)|(simp;omega)⟩ (by dsimp only;omega) ?_
          (refine fK ?_;(with_reducible repeat' (first|exact trivial|(show _∧_;refine aK ?_ ?_)));(all_goals try rfl))
          all_goals first
            |(refine cast (congrArg (eF _ _) hr.symm) ?_;exact bt (fun h=>by first|(exfalso;omega)|rfl) (fun h=>by first|(exfalso;omega)|rfl))
            |exact .inl rfl
            |exact⟨.refl rfl,rfl⟩
            |exact⟨.refl (ae _),ae _⟩
            |(simp;done)
            |trace_state
    · have hjl:k=l.length:=by simp only[dh,ay] at h1;omega
      exfalso;omega
  · have ha' :k≤a:=by simpa using hda
    have hb':b<k:=by simpa using hdb
    with_reducible show ug _ _ _ _ _ _ [(120,aQ m l.length 74 (.own 93 0 0)),(93,.live 9 [] false),(91,aI yb.kids),(74,aT l l.length 81 b 91)] _
    with_reducible refine wK ?_
    refine bk.mk (fun h1=>?_) (fun h1=>?_)<;>(try simp only[ay] at h1)<;>with_reducible refine wK ?_
    · have hkl:k<l.length:=by simp only[bO,ay] at h1;omega
      by_cases ea:k=a
      · subst ea
        have hc:=ho k ya ha
        have hr:(aP l l.length 81 b 91).set (0+k) (dF ya 81)=aP l k 81 b 91:=gD fun i z hz=>by
          have:=(bg hz).1
          by_cases e:i=k
          ·subst e;rw[ha] at hz;cases hz;unfold ei;simp<;>omega
          · unfold ei;rw[if_neg e];repeat' split
            all_goals first|rfl|omega
        have hg:(aP l l.length 81 b 91)[k]? =some (az ya):=by rw[cI ha,c6 (by omega) (by omega)]
        obtain⟨y1,y2,y3,y4,y5,y6,y7,y8,y9,y10⟩:=ya
        simp only at hc
        repeat' (first
    |refine gK ?_
    | ((first
      |((with_reducible show eO _ _ _ _ _);refine eO.mk k rfl (by first|exact hkl|(rw[bN];exact hkl)) ?_)
      |((with_reducible show aZ _ _ _ _ _);first|refine aZ.mk (az ⟨y1,y2,y3,y4,y5,y6,y7,y8,y9,y10⟩) (by first|exact hg|(rw[Nat.zero_add];exact hg)) ?_|refine aZ.mk _ rfl ?_)
      |((with_reducible show aa _ _ 72 _ _ _ _);refine aa.new 81 [] hc Hu ⟨rfl,trivial⟩ rfl rfl rfl (mo _) rfl ?_)
      |((with_reducible show aL _ _ _ _);refine dK ?_))<;>with_reducible refine wK ?_)
    | ((with_reducible show(_∧_)∧_∧_);(refine eK ?_ ?_<;>with_reducible repeat' (first|exact trivial|(show _∧_;refine aK ?_ ?_)))))
        refine cm.mk (k+1,true,true) ⟨by dsimp only;omega,by dsimp only;first|(simp;done)|(simp;omega),by dsimp only;first|(simp;done)|(simp;omega)⟩ (by dsimp only;omega) ?_
        (refine fK ?_;(with_reducible repeat' (first|exact trivial|(show _∧_;refine aK ?_ ?_)));(all_goals try rfl))
        all_goals first
          |(refine cast (congrArg (eF _ _) hr.symm) ?_;exact bt (fun h=>by first|(exfalso;omega)|rfl) (fun h=>by first|(exfalso;omega)|rfl))
          |exact .inl rfl
          |exact⟨.refl rfl,rfl⟩
          |exact⟨.refl (ae _),ae _⟩
          |(simp;done)
          |trace_state
      · skip
        obtain⟨y,hy⟩:∃y,l[k]? =some y:=⟨_,bz hkl⟩
        have hc:=hv k y hy
        have hr:(aP l l.length 81 b 91).set (0+k) (bJ y)=aP l l.length 81 b 91:=gD fun i z hz=>by
          have:=(bg hz).1
          by_cases e:i=k
          ·subst e;rw[hy] at hz;cases hz;rw[if_pos rfl,c6 (by omega) (by omega)];rfl
          ·rw[if_neg e]
        have hg:(aP l l.length 81 b 91)[k]? =some (az y):=by rw[cI hy,c6 (by omega) (by omega)]
        obtain⟨y1,y2,y3,y4,y5,y6,y7,y8,y9,y10⟩:=y
        simp only at hc
        repeat' (first
    |refine gK ?_
    | ((first
      |((with_reducible show eO _ _ _ _ _);refine eO.mk k rfl (by first|exact hkl|(rw[bN];exact hkl)) ?_)
      |((with_reducible show aZ _ _ _ _ _);first|refine aZ.mk (az ⟨y1,y2,y3,y4,y5,y6,y7,y8,y9,y10⟩) (by first|exact hg|(rw[Nat.zero_add];exact hg)) ?_|refine aZ.mk _ rfl ?_)
      |((with_reducible show aa _ _ 72 _ _ _ _);refine aa.val [] hc Hu ⟨rfl,trivial⟩ rfl rfl rfl ?_)
      |((with_reducible show aL _ _ _ _);refine dK ?_))<;>with_reducible refine wK ?_)
    | ((with_reducible show(_∧_)∧_∧_);(refine eK ?_ ?_<;>with_reducible repeat' (first|exact trivial|(show _∧_;refine aK ?_ ?_)))))
        refine cm.mk (k+1,false,true) ⟨by dsimp only;omega,by dsimp only;first|(simp;done)|(simp;omega),by dsimp only;first|(simp;done)|(simp;omega)⟩ (by dsimp only;omega) ?_
        (refine fK ?_;(with_reducible repeat' (first|exact trivial|(show _∧_;refine aK ?_ ?_)));(all_goals try rfl))
        all_goals first
          |(refine cast (congrArg (eF _ _) hr.symm) ?_;exact bt (fun h=>by first|(exfalso;omega)|rfl) (fun h=>by first|(exfalso;omega)|rfl))
          |exact .inl rfl
          |exact⟨.refl rfl,rfl⟩
          |exact⟨.refl (ae _),ae _⟩
          |(simp;done)
          |trace_state
    · have hjl:k=l.length:=by simp only[dh,ay] at h1;omega
      exfalso;omega
  · have ha' :a<k:=by simpa using hda
    have hb':k≤b:=by simpa using hdb
    with_reducible show ug _ _ _ _ _ _ [(120,aQ m l.length 74 (.own 93 0 0)),(93,.live 9 [] false),(81,aI ya.kids),(74,aT l a 81 l.length 91)] _
    with_reducible refine wK ?_
    refine bk.mk (fun h1=>?_) (fun h1=>?_)<;>(try simp only[ay] at h1)<;>with_reducible refine wK ?_
    · have hkl:k<l.length:=by simp only[bO,ay] at h1;omega
      by_cases eb:k=b
      · subst eb
        have hc:=ho k yb hb
        have hr:(aP l a 81 l.length 91).set (0+k) (dF yb 91)=aP l a 81 k 91:=gD fun i z hz=>by
          have:=(bg hz).1
          by_cases e:i=k
          ·subst e;rw[hb] at hz;cases hz;unfold ei;simp<;>omega
          · unfold ei;rw[if_neg e];repeat' split
            all_goals first|rfl|omega
        have hg:(aP l a 81 l.length 91)[k]? =some (az yb):=by rw[cI hb,c6 (by omega) (by omega)]
        obtain⟨y1,y2,y3,y4,y5,y6,y7,y8,y9,y10⟩:=yb
        simp only at hc
        repeat' (first
    |refine gK ?_
    | ((first
      |((with_reducible show eO _ _ _ _ _);refine eO.mk k rfl (by first|exact hkl|(rw[bN];exact hkl)) ?_)
      |((with_reducible show aZ _ _ _ _ _);first|refine aZ.mk (az ⟨y1,y2,y3,y4,y5,y6,y7,y8,y9,y10⟩) (by first|exact hg|(rw[Nat.zero_add];exact hg)) ?_|refine aZ.mk _ rfl ?_)
      |((with_reducible show aa _ _ 72 _ _ _ _);refine aa.new 91 [] hc Hu ⟨rfl,trivial⟩ rfl rfl rfl (mo _) rfl ?_)
      |((with_reducible show aL _ _ _ _);refine dK ?_))<;>with_reducible refine wK ?_)
    | ((with_reducible show(_∧_)∧_∧_);(refine eK ?_ ?_<;>with_reducible repeat' (first|exact trivial|(show _∧_;refine aK ?_ ?_)))))
        refine cm.mk (k+1,true,true) ⟨by dsimp only;omega,by dsimp only;first|(simp;done)|(simp;omega),by dsimp only;first|(simp;done)|(simp;omega)⟩ (by dsimp only;omega) ?_
        (refine fK ?_;(with_reducible repeat' (first|exact trivial|(show _∧_;refine aK ?_ ?_)));(all_goals try rfl))
        all_goals first
          |(refine cast (congrArg (eF _ _) hr.symm) ?_;exact bt (fun h=>by first|(exfalso;omega)|rfl) (fun h=>by first|(exfalso;omega)|rfl))
          |exact .inl rfl
          |exact⟨.refl rfl,rfl⟩
          |exact⟨.refl (ae _),ae _⟩
          |(simp;done)
          |trace_state
      · skip
        obtain⟨y,hy⟩:∃y,l[k]? =some y:=⟨_,bz hkl⟩
        have hc:=hv k y hy
        have hr:(aP l a 81 l.length 91).set (0+k) (bJ y)=aP l a 81 l.length 91:=gD fun i z hz=>by
          have:=(bg hz).1
          by_cases e:i=k
          ·subst e;rw[hy] at hz;cases hz;rw[if_pos rfl,c6 (by omega) (by omega)];rfl
          ·rw[if_neg e]
        have hg:(aP l a 81 l.length 91)[k]? =some (az y):=by rw[cI hy,c6 (by omega) (by omega)]
        obtain⟨y1,y2,y3,y4,y5,y6,y7,y8,y9,y10⟩:=y
        simp only at hc
        repeat' (first
    |refine gK ?_
    | ((first
      |((with_reducible show eO _ _ _ _ _);refine eO.mk k rfl (by first|exact hkl|(rw[bN];exact hkl)) ?_)
      |((with_reducible show aZ _ _ _ _ _);first|refine aZ.mk (az ⟨y1,y2,y3,y4,y5,y6,y7,y8,y9,y10⟩) (by first|exact hg|(rw[Nat.zero_add];exact hg)) ?_|refine aZ.mk _ rfl ?_)
      |((with_reducible show aa _ _ 72 _ _ _ _);refine aa.val [] hc Hu ⟨rfl,trivial⟩ rfl rfl rfl ?_)
      |((with_reducible show aL _ _ _ _);refine dK ?_))<;>with_reducible refine wK ?_)
    | ((with_reducible show(_∧_)∧_∧_);(refine eK ?_ ?_<;>with_reducible repeat' (first|exact trivial|(show _∧_;refine aK ?_ ?_)))))
        refine cm.mk (k+1,true,false) ⟨by dsimp only;omega,by dsimp only;first|(simp;done)|(simp;omega),by dsimp only;first|(simp;done)|(simp;omega)⟩ (by dsimp only;omega) ?_
        (refine fK ?_;(with_reducible repeat' (first|exact trivial|(show _∧_;refine aK ?_ ?_)));(all_goals try rfl))
        all_goals first
          |(refine cast (congrArg (eF _ _) hr.symm) ?_;exact bt (fun h=>by first|(exfalso;omega)|rfl) (fun h=>by first|(exfalso;omega)|rfl))
          |exact .inl rfl
          |exact⟨.refl rfl,rfl⟩
          |exact⟨.refl (ae _),ae _⟩
          |(simp;done)
          |trace_state
    · have hjl:k=l.length:=by simp only[dh,ay] at h1;omega
      exfalso;omega
  · have ha':a<k:=by simpa using hda
    have hb':b<k:=by simpa using hdb
    with_reducible show ug _ _ _ _ _ _ [(120,aQ m l.length 74 (.own 93 0 0)),(93,.live 9 [] false),(81,aI ya.kids),(91,aI yb.kids),(74,aT l a 81 b 91)] _
    with_reducible refine wK ?_
    refine bk.mk (fun h1=>?_) (fun h1=>?_)<;>(try simp only[ay] at h1)<;>with_reducible refine wK ?_
    · have hkl:k<l.length:=by simp only[bO,ay] at h1;omega
      obtain⟨y,hy⟩:∃y,l[k]? =some y:=⟨_,bz hkl⟩
      have hc:=hv k y hy
      have hr:(aP l a 81 b 91).set (0+k) (bJ y)=aP l a 81 b 91:=gD fun i z hz=>by
        have:=(bg hz).1
        by_cases e:i=k
        ·subst e;rw[hy] at hz;cases hz;rw[if_pos rfl,c6 (by omega) (by omega)];rfl
        ·rw[if_neg e]
      have hg:(aP l a 81 b 91)[k]? =some (az y):=by rw[cI hy,c6 (by omega) (by omega)]
      obtain⟨y1,y2,y3,y4,y5,y6,y7,y8,y9,y10⟩:=y
      simp only at hc
      repeat' (first
    |refine gK ?_
    | ((first
      |((with_reducible show eO _ _ _ _ _);refine eO.mk k rfl (by first|exact hkl|(rw[bN];exact hkl)) ?_)
      |((with_reducible show aZ _ _ _ _ _);first|refine aZ.mk (az ⟨y1,y2,y3,y4,y5,y6,y7,y8,y9,y10⟩) (by first|exact hg|(rw[Nat.zero_add];exact hg)) ?_|refine aZ.mk _ rfl ?_)
      |((with_reducible show aa _ _ 72 _ _ _ _);refine aa.val [] hc Hu ⟨rfl,trivial⟩ rfl rfl rfl ?_)
      |((with_reducible show aL _ _ _ _);refine dK ?_))<;>with_reducible refine wK ?_)
    | ((with_reducible show(_∧_)∧_∧_);(refine eK ?_ ?_<;>with_reducible repeat' (first|exact trivial|(show _∧_;refine aK ?_ ?_)))))
      refine cm.mk (k+1,true,true) ⟨by dsimp only;omega,by dsimp only;first|(simp;done)|(simp;omega),by dsimp only;first|(simp;done)|(simp;omega)⟩ (by dsimp only;omega) ?_
      (refine fK ?_;(with_reducible repeat' (first|exact trivial|(show _∧_;refine aK ?_ ?_)));(all_goals try rfl))
      all_goals first
        |(refine cast (congrArg (eF _ _) hr.symm) ?_;exact bt (fun h=>by first|(exfalso;omega)|rfl) (fun h=>by first|(exfalso;omega)|rfl))
        |exact .inl rfl
        |exact⟨.refl rfl,rfl⟩
        |exact⟨.refl (ae _),ae _⟩
        |(simp;done)
        |trace_state
    · have hjl:k=l.length:=by simp only[dh,ay] at h1;omega
      subst hjl
      repeat' (first
    |refine gK ?_
    |(((with_reducible show aL _ _ _ _);refine dK ?_)<;>with_reducible refine wK ?_)
    | ((with_reducible show(_∧_)∧_∧_);(refine eK ?_ ?_<;>with_reducible repeat' (first|exact trivial|(show _∧_;refine aK ?_ ?_)))))
      all_goals first|rfl|exact .inl rfl|exact⟨.refl rfl,rfl⟩|exact bt (fun _=>rfl) (fun _=>rfl)|exact⟨.refl (ae _),ae _⟩|exact bP (ae _)|trace_state
@[reducible] def aW (l : List aR) : MS := .live 9 (l.map gG) false
theorem aq (l:List aR):br (l.map gG)=true:=ic gG (fun _=>rfl) l
theorem mY {l:List Int}{k:Nat}{e:Int}(h:l[k]? =some e):(l.map bV)[k]? =some (aj e):=by rw[fH,h];rfl
section
variable {l : List ai} {m : Int} {a b ta tb : Nat} {ka kb : List Int}
theorem bR {tab:List (Nat×Nat)}{T:List Nat}{ml:ML}{ta' tb':Nat}(h1:a<l.length→oN tab ta'=some ta)(h2:b<l.length→oN tab tb'=some tb):zz tab T ml (aP l a ta' b tb') (aP l a ta b tb):=
  .inr ⟨An (bt h1 h2),qK (by rw[bN,bN]) k9 k9⟩
theorem bM {names:List Nat}{n ta0 tb0:Nat}{p:Prop}(h1:gd names ta0=some ta)(h2:gd names tb0=some tb)(i1:ta0<n)(i2:tb0<n):
    p∨(aP l a ta b tb=dU (ox names 12) (aP l a ta0 b tb0)∧iP (Au 12 n) (aP l a ta0 b tb0)=true∧n9 (aP l a ta b tb) (aP l a ta0 b tb0)=true):=
  .inr ⟨Dt h1 h2,Hl i1 i2,qK (by rw[bN,bN]) k9 k9⟩
theorem zJ (hka:∀y,l[a]? =some y→y.kids=ka)(hkb:∀y,l[b]? =some y→y.kids=kb){rest:List AV}(hr:br rest=true):
    yp (MF [] (LX [0,1,2]) [(0,aT l a 1 b 2),(1,aI ka),(2,aI kb)] 12) (aY ⟨l,m⟩::rest) (.agg [.own 0 0 l.length,aj m]::rest):=
  ⟨⟨ux (ra:=false) (rb:=false) (ea:=[]) (eb:=[]) rfl rfl (fun y hy=>by rw[List.append_nil,hka y hy];exact⟨rfl,rfl⟩) (fun y hy=>by rw[List.append_nil,hkb y hy];exact⟨rfl,rfl⟩),rfl,trivial⟩,bP hr⟩
theorem mO {f:FuncId}{rest:List AV}{res:AV}(hka:∀y,l[a]? =some y→y.kids=ka)(hkb:∀y,l[b]? =some y→y.kids=kb)(h:an Tryz.prog f [] (aY ⟨l,m⟩::rest) [] res)(hp:jw res=true)(hr:br rest=true):
    an Tryz.prog f [aT l a 1 b 2,aI ka,aI kb] (.agg [.own 0 0 l.length,aj m]::rest) [aT l a 1 b 2,aI ka,aI kb] res:=
  an.Mp [(0,aT l a 1 b 2),(1,aI ka),(2,aI kb)] [0,1,2] (ee [aT l a 1 b 2,aI ka,aI kb]) h hp (zJ hka hkb hr)
theorem mF {f:FuncId}{rest:List AV}{es ex:List Int}(hka:∀y,l[a]? =some y→y.kids=ka)(hkb:∀y,l[b]? =some y→y.kids=kb)(h:an Tryz.prog f [] (aY ⟨l,m⟩::rest) [aI (es++ex)] (.own 0 0 es.length))(hr:br rest=true):
    an Tryz.prog f [aT l a 1 b 2,aI ka,aI kb] (.agg [.own 0 0 l.length,aj m]::rest) [aT l a 1 b 2,aI ka,aI kb,aI (es++ex)] (.own 3 0 es.length):=by
  have hx:∀r∈ (es++ex).map bV,∃e:Int,r=aj e:=fun r hr=>by
    obtain⟨e,_,rfl⟩:=List.mem_map.1 hr
    exact⟨e,rfl⟩
  exact an.Jz [(0,aT l a 1 b 2),(1,aI ka),(2,aI kb)] [0,1,2] (ee [aT l a 1 b 2,aI ka,aI kb]) h (fun c hc=>by
    unfold flat at hc
    obtain⟨r,h1,h2⟩:=List.mem_flatMap.1 hc
    obtain⟨e,rfl⟩:=hx r h1
    cases gg.1 h2
    rfl) (fun r hr cs e=>by
    obtain⟨i,rfl⟩:=hx r hr
    cases e) (zJ hka hkb hr)
end
def dO (x:aR)(k:Int):aR:={x with node:=k}
@[reducible] def EN (x : aR) (k : Int) : AV := .agg [aj x.kind, aj k, aj x.src, aj x.dst, cu x.name, bB x.had, bB x.has, cu x.old, cu x.new]
theorem qD {l:List ai}{m n:Int}{a b:Nat}{ka kb es ex:List Int}{ns:List aR}{x:aR}(hka:∀y,l[a]? =some y→y.kids=ka)(hkb:∀y,l[b]? =some y→y.kids=kb)(he:es.length≤1000)(hn:ns.length≤100000)
    (h191:an Tryz.prog 34 [] [aY ⟨l,m⟩,aj n] [aI (es++ex)] (.own 0 0 es.length)):
    an Tryz.prog 141 [aQ m l.length 4 (.own 3 0 ns.length),aI ka,aI kb,aW ns,aT l a 1 b 2] [.ptr 0 0 0,aj n,Ka x]
      [aQ m l.length 4 (.own 5 0 (ns.length+es.length)),aI ka,aI kb,.dead,aT l a 1 b 2,aW (ns++es.map (dO x))] (.tup []):=by
  have hle:(es.map bV).length=es.length:=cj ..
  refine an.fA [(5,93)] (rvs:=[]) G au Tryz.func141 rfl Tryz.ntmps141 rfl rfl ?_;with_reducible refine wD ?_
  refine aa.dg (news:=[aT l a 1 b 2,aI ka,aI kb,aI (es++ex)]) [4,1,2,111] [] (mF hka hkb h191 rfl) Ol ⟨⟨⟨rfl,rfl⟩,rfl,trivial⟩,rfl,trivial⟩ ⟨⟨rfl,bR (fun _=>rfl) (fun _=>rfl)⟩,⟨rfl,.inl ⟨rfl,ae _⟩⟩,⟨rfl,.inl ⟨rfl,ae _⟩⟩,trivial⟩ rfl ⟨⟨rfl,rfl⟩,rfl⟩ rfl ⟨⟨rfl,bM rfl rfl (by decide) (by decide)⟩,⟨rfl,.inl ⟨rfl,ae _⟩⟩,⟨rfl,.inl ⟨rfl,ae _⟩⟩,⟨rfl,.inl ⟨rfl,ae _⟩⟩,trivial⟩ rfl rfl ?_;with_reducible refine wK ?_
  refine cn.G6 G au (fun(s:Nat×Int)=>[(0,.ptr 0 0 0),(5,.ptr 50 0 0),(13,.own 111 0 es.length),(14,aj es.length),(15,aj s.1)])
    (fun s=>[(0,aQ m l.length 4 (.own 93 0 (ns.length+s.1))),(1,aI ka),(2,aI kb),(3,.dead),(4,aT l a 1 b 2),(111,aI (es++ex)),(50,.live 9 [EN x s.2] false),(93,aW (ns++ (es.take s.1).map (dO x)))])
    (fun s=>s.1≤es.length) (fun s=>es.length-s.1) (0,x.node) [(93,3)] (Nat.zero_le _) ?_ ?_
  · (refine fK ?_;(with_reducible repeat' (first|exact trivial|(show _∧_;refine aK ?_ ?_)));(all_goals try rfl))
    all_goals first
      |(exact⟨.refl (ae _),ae _⟩)
      |(exact cast (congrArg (fun z=>r6 _ z _) (show ns.map gG=(ns++ (es.take 0).map (dO x)).map gG by simp)) ⟨.refl (aq _),aq _⟩)
      |(exact bt (fun _=>rfl) (fun _=>rfl))
      |trace_state
  rintro⟨k,c⟩ hk
  dsimp only at hk
  with_reducible refine wK ?_
  refine bk.mk (fun h1=>?_) (fun h1=>?_)<;>(try simp only[ay] at h1)<;>with_reducible refine wK ?_
  · have hkl:k<es.length:=by simp only[bO,ay] at h1;omega
    obtain⟨e,hy⟩:∃e,es[k]? =some e:=⟨_,bz hkl⟩
    have hy2:(es++ex)[k]? =some e:=by rw[r5 hkl];exact hy
    repeat' (first
    |refine gK ?_
    | ((first
      |((with_reducible show eO _ _ _ _ _);refine eO.mk k rfl (by first|exact hkl|(simp;omega)) ?_)
      |((with_reducible show aZ _ _ _ _ _);refine aZ.mk (aj e) (by first|exact mY hy2|(rw[Nat.zero_add];exact mY hy2)) ?_)
      |((with_reducible show j0 _ _ _ _ _ _ _ _ _ _);refine j0.mk ((ns++ (es.take k).map (dO x)).map gG) [EN x e] ⟨rfl,(by simp;omega),rfl⟩ ⟨rfl,rfl,rfl⟩ rfl (by simp;omega) (by simp;omega) ?_)
      |((with_reducible show aL _ _ _ _);refine dK ?_))<;>with_reducible refine wK ?_)
    |((with_reducible show(_∧_)∧_∧_);(refine eK ?_ ?_<;>with_reducible repeat' (first|exact trivial|(show _∧_;refine aK ?_ ?_)))))
    have ht:es.take (k+1)=es.take k++ [e]:=by rw[List.take_add_one,hy];rfl
    have hrow:(ns++ (es.take k).map (dO x)).map gG++ [EN x e]=(ns++ (es.take (k+1)).map (dO x)).map gG:=by
      rw[ht,gY,gY,gY,gY,List.append_assoc];rfl
    refine my.mk (k+1,e) [(93,281)] (by dsimp only;omega) (by dsimp only;omega) ?_
    (refine fK ?_;(with_reducible repeat' (first|exact trivial|(show _∧_;refine aK ?_ ?_)));(all_goals try rfl))
    all_goals first
      |exact⟨.refl (ae _),ae _⟩
      |exact bt (fun _=>rfl) (fun _=>rfl)
      |exact cast (congrArg (fun z=>r6 _ z _) hrow) ⟨.refl (by rw[hrow];exact aq _),by rw[hrow];exact aq _⟩
      |(refine⟨⟨⟨rfl,rfl⟩,rfl,⟨rfl,?_⟩,trivial⟩,trivial⟩;simp;omega)
      |(simp;omega)
      |trace_state
  · have hjl:k=es.length:=by simp only[dh,ay] at h1;omega
    subst hjl
    repeat' (first
    |refine gK ?_
    |(((with_reducible show aL _ _ _ _);refine dK ?_)<;>with_reducible refine wK ?_)
    |((with_reducible show(_∧_)∧_∧_);(refine eK ?_ ?_<;>with_reducible repeat' (first|exact trivial|(show _∧_;refine aK ?_ ?_)))))
    all_goals first|rfl|exact .inl rfl|exact⟨.refl rfl,rfl⟩|exact bt (fun _=>rfl) (fun _=>rfl)|exact⟨.refl (ae _),ae _⟩|(rw[qB (Nat.le_refl _)];exact⟨.refl (aq _),aq _⟩)|trace_state
section
variable {l : List ai} {a b ta tb ta' n i : Nat} {y : ai}
theorem oH (y':ai)(h:a<l.length):(aP l a ta b tb).set a (dF y' ta')=aP (l.set a y') a ta' b tb:=by
  apply List.ext_getElem?
  intro j
  unfold aP
  rw[List.getElem?_set,List.getElem?_mapIdx,List.getElem?_mapIdx,List.getElem?_set,List.length_mapIdx]
  by_cases e:a=j
  · subst e
    rw[if_pos rfl,if_pos rfl,if_pos h,if_pos h]
    show some _=some (ei a ta' b tb a y')
    rw[GX];rfl
  · rw [if_neg e,if_neg e]
    cases l[j]? with
    |none=>rfl
    | some z=>
      show some (ei a ta b tb j z)=some (ei a ta' b tb j z)
      unfold ei
      have hja:¬j=a:=fun q=>e q.symm
      rw[if_neg hja,if_neg hja]
theorem sO (y':ai)(hb:b<l.length)(hab:b≠a):(aP l a ta b tb).set b (dF y' tb)=aP (l.set b y') a ta b tb:=by
  have:=rj (l:=l) (a:=a) (ta:=ta) (b:=b) (tb:=tb) y' hb
  rw[Ft hab] at this;exact this
theorem oT (y':ai)(h:i<l.length)(ha:i≠a)(hb:i≠b):(aP l a ta b tb).set i (bJ y')=aP (l.set i y') a ta b tb:=by
  have:=rj (l:=l) (a:=a) (ta:=ta) (b:=b) (tb:=tb) y' h
  rw[c6 ha hb] at this;exact this
theorem B6 (h:l[a]? =some y):(aP l a ta b tb)[a]? =some (dN y ta):=by rw[cI h,GX]
theorem s5 (h:l[b]? =some y)(hab:b≠a):(aP l a ta b tb)[b]? =some (dN y tb):=by rw[cI h,Ft hab]
theorem Gj (h:l[i]? =some y)(ha:i≠a)(hb:i≠b):(aP l a ta b tb)[i]? =some (az y):=by rw[cI h,c6 ha hb]
end
@[reducible] def lV : aR := ⟨2, 0, 0, 0, ByteArray.empty, false, false, ByteArray.empty, ByteArray.empty⟩
theorem mP {f:FuncId}{rest:List AV}{res:AV}{ks:List Int}(h:an Tryz.prog f [] (cF ks::rest) [] res)(hp:jw res=true)(hr:br rest=true):
    an Tryz.prog f [aI ks] (.own 0 0 ks.length::rest) [aI ks] res:=
  an.Mp [(0,aI ks)] [0] (ee [aI ks]) h hp ⟨dj rfl rfl rfl rfl,bP hr⟩
theorem Ma {l:List ai}{m:Int}{a b n i:Nat}{ka kb es ex:List Int}{ns:List aR}{ya y:ai}{conn:Bool}{told:List aR}(htold:told=if conn then es.map (dO lV) else[])(hL:l.length≤1000)(ha:l[a]? =some ya)(hb:∀z,l[b]? =some z→z.kids=kb)(hy:l[n]? =some y)(hna:n≠a)(hnb:n≠b)(hka:ya.kids=ka)(hp:y.parent=a)(hi:i<ka.length)(hk:ka.length≤1000)(he:es.length≤1000)(hn:ns.length≤100000)
    (h21:an Tryz.prog 35 [] [aY ⟨l,m⟩,aj n] [] (bB conn)) (h191:an Tryz.prog 34 [] [aY ⟨l,m⟩,aj n] [aI (es++ex)] (.own 0 0 es.length)) (h79:an Tryz.prog 73 [] [cF ka,aj n] [] (aj i))
    (h188:an Tryz.prog 145 [aI ka] [.own 0 0 ka.length,aj i,aj (i+1:Nat)] [.dead,aI (ka.take i++ka.drop (i+1))] (.own 1 0 (ka.take i++ka.drop (i+1)).length)):
    an Tryz.prog 79 [aQ m l.length 4 (.own 3 0 ns.length),aI ka,aI kb,aW ns,aT l a 1 b 2] [.ptr 0 0 0,aj n]
      [aQ m l.length 4 (.own 6 0 (ns++told).length),.dead,aI kb,.dead,aT ((l.set a {ya with kids:=ka.take i++ka.drop (i+1)}).set n {y with parent:=-1}) a 5 b 2,aI (ka.take i++ka.drop (i+1)),aW (ns++told)] (.tup []):=by
  have hal:=(bg ha).1
  have hnl:=(bg hy).1
  have hA:∀z,l[a]? =some z→z.kids=ka:=fun z hz=>by rw[ha] at hz;cases hz;exact hka
  have t21:=mO (rest:=[aj n]) hA hb h21 rfl rfl
  have t164:=qD (x:=lV) hA hb he hn h191
  have t79:=mP (rest:=[aj n]) h79 rfl rfl
  have hne:a≠n:=fun e=>hna e.symm
  obtain⟨k2,hk2⟩:∃k2,k2=ka.take i++ka.drop (i+1):=⟨_,rfl⟩
  rw[←hk2] at h188 ⊢
  have hrow:∀u,((aP l a 1 b 2).set a (dF {ya with kids:=k2} u)).set n (bJ {y with parent:=-1})=aP ((l.set a {ya with kids:=k2}).set n {y with parent:=-1}) a u b 2:=fun u=>by
    rw[oH _ hal,oT _ (by rw[List.length_set];exact hnl) hna hnb]
  have g1:(aP l a 1 b 2)[n]? =some (az y):=Gj hy hna hnb
  have g2:(aP l a 1 b 2)[a]? =some (dN ya 1):=B6 ha
  have g3:∀x,((aP l a 1 b 2).set a x)[n]? =some (az y):=fun x=>by rw[List.getElem?_set,if_neg hne];exact g1
  have g4:∀x,((aP l a 1 b 2).set (0+a) x)[0+n]? =some (az y):=fun x=>by rw[Nat.zero_add,Nat.zero_add];exact g3 x
  have hrow':((aP l a 1 b 2).set (0+a) (dF {ya with kids:=k2} 511)).set (0+n) (bJ {y with parent:=-1})=aP ((l.set a {ya with kids:=k2}).set n {y with parent:=-1}) a 511 b 2:=by rw[Nat.zero_add,Nat.zero_add];exact hrow 511
  have hlr:(aP l a 1 b 2).length=l.length:=bN
  obtain⟨y1,y2,y3,y4,y5,y6,y7,y8,y9,y10⟩:=y
  obtain⟨z1,z2,z3,z4,z5,z6,z7,z8,z9,z10⟩:=ya
  dsimp only at hp hka
  subst hp;subst hka
  have hpa:¬ ((a:Int)=-1):=by omega
  refine an.fA [(5,511)] (rvs:=[]) G au Tryz.func79 rfl Tryz.ntmps79 rfl rfl ?_;with_reducible refine wD ?_
  (have fct:=hpa;(repeat' (first
    |refine pF ?_
    | ((first
      |((with_reducible show bk _ _ _ _);(refine bk.mk (fun hp=>?_) (fun hp=>?_)<;>(try simp only[ay,bO,dh,Bool.not_eq_true',Bool.not_eq_false',Decidable.not_not,Int.not_lt,Int.not_le] at hp)))
      |((with_reducible show eO _ _ _ _ _);first|refine eO.mk n rfl (by first|exact hnl|(simp;omega)) ?_|refine eO.mk a rfl (by first|exact hal|(simp;omega)) ?_)
      |((with_reducible show aZ _ _ _ _ _);refine aZ.mk _ (by first|exact g4 _|exact g1|exact g2|exact g3 _|(rw[Nat.zero_add];first|exact g1|exact g2|exact g3 _)) ?_)
      |((with_reducible show aa _ _ 35 _ _ _ _);refine aa.dg (news:=[aT l a 1 b 2,aI z7,aI kb]) [4,1,2] [] t21 Mz ⟨⟨⟨rfl,rfl⟩,rfl,trivial⟩,rfl,trivial⟩ ⟨⟨rfl,bR (fun _=>rfl) (fun _=>rfl)⟩,⟨rfl,.inl ⟨rfl,ae _⟩⟩,⟨rfl,.inl ⟨rfl,ae _⟩⟩,trivial⟩ rfl ⟨⟨rfl,rfl⟩,rfl⟩ rfl ⟨⟨rfl,bM rfl rfl (by decide) (by decide)⟩,⟨rfl,.inl ⟨rfl,ae _⟩⟩,⟨rfl,.inl ⟨rfl,ae _⟩⟩,trivial⟩ rfl rfl ?_)
      |((with_reducible show aa _ _ 141 _ _ _ _);refine aa.dg (news:=[aQ m l.length 4 (.own 133 0 (ns.length+es.length)),aI z7,aI kb,.dead,aT l a 1 b 2,aW (ns++es.map (dO lV))]) [0,1,2,3,4,133] [] t164 Ey ⟨⟨rfl,rfl⟩,rfl,⟨rfl,rfl,rfl,rfl,rfl,rfl,rfl,rfl,rfl,trivial⟩,trivial⟩ ⟨⟨rfl,.inr ⟨⟨⟨⟨rfl,rfl⟩,rfl,⟨rfl,rfl⟩,trivial⟩,trivial⟩,rfl⟩⟩,⟨rfl,.inl ⟨rfl,ae _⟩⟩,⟨rfl,.inl ⟨rfl,ae _⟩⟩,⟨rfl,.inl ⟨rfl,aq _⟩⟩,⟨rfl,bR (fun _=>rfl) (fun _=>rfl)⟩,trivial⟩ rfl ⟨⟨rfl,rfl⟩,rfl⟩ rfl ⟨⟨rfl,.inr ⟨rfl,rfl,rfl⟩⟩,⟨rfl,.inl ⟨rfl,ae _⟩⟩,⟨rfl,.inl ⟨rfl,ae _⟩⟩,⟨rfl,bM rfl rfl (by decide) (by decide)⟩,⟨rfl,.inl ⟨rfl,aq _⟩⟩,trivial⟩ rfl rfl ?_)
      |((with_reducible show aa _ _ 73 _ _ _ _);refine aa.dg (news:=[aI z7]) [1] [] t79 Ju ⟨⟨rfl,rfl⟩,rfl,trivial⟩ ⟨⟨rfl,.inl ⟨rfl,ae _⟩⟩,trivial⟩ rfl ⟨⟨rfl,rfl⟩,rfl⟩ rfl ⟨⟨rfl,.inl ⟨rfl,ae _⟩⟩,trivial⟩ rfl rfl ?_)
      |((with_reducible show aa _ _ 145 _ _ _ _);refine aa.dg (news:=[.dead,aI k2]) [1,511] [] h188 MG ⟨⟨rfl,rfl⟩,rfl,by show((i+1:Nat):Int)=(i:Int)+1;omega,trivial⟩ ⟨⟨rfl,.inl ⟨rfl,ae _⟩⟩,trivial⟩ rfl ⟨⟨rfl,rfl⟩,rfl⟩ rfl ⟨⟨rfl,.inl ⟨rfl,ae _⟩⟩,trivial⟩ rfl rfl ?_)
      |((with_reducible show aL _ _ _ _);refine dK ?_))<;>with_reducible refine wK ?_)
    |((with_reducible show(_∧_)∧_∧_);(refine eK ?_ ?_<;>with_reducible repeat' (first|exact trivial|(show _∧_;refine aK ?_ ?_))))));all_goals clear fct)
  all_goals first
    |exact⟨.refl (ae _),ae _⟩
    |exact cast (congrArg (eF _ _) hrow'.symm) (bt (fun _=>rfl) (fun _=>rfl))
    | (have ht:told=es.map (dO lV):=by rw[htold,hp];rfl
       subst ht
       first|exact⟨.refl (aq _),aq _⟩|(simp;done))
    | (have ht:told=[]:=by rw[htold,hp];rfl
       subst ht
       first|exact cast (congrArg (fun z=>r6 _ z _) (show ns.map gG=(ns++ []).map gG by simp)) ⟨.refl (aq _),aq _⟩|(simp;done))
    |trace_state
theorem EE {l:List ai}{m:Int}{a b n:Nat}{ka kb:List Int}{ns:List aR}{y:ai}(hy:l[n]? =some y)(hr:∃q,ei a 1 b 2 n y=.agg [aj y.kind,cu y.name,cu y.is,cu y.data,dG y.attrs,aj y.parent,q,aj y.host,aj y.under,aj y.doc])(hp:y.parent=-1):
    an Tryz.prog 79 [aQ m l.length 4 (.own 3 0 ns.length),aI ka,aI kb,aW ns,aT l a 1 b 2] [.ptr 0 0 0,aj n]
      [aQ m l.length 4 (.own 6 0 ns.length),.dead,aI kb,.dead,aT l a 5 b 2,aI ka,aW ns] (.tup []):=by
  have hnl:=(bg hy).1
  obtain⟨q,hq⟩:=hr
  have g1:(aP l a 1 b 2)[n]? =some (.agg [aj y.kind,cu y.name,cu y.is,cu y.data,dG y.attrs,aj y.parent,q,aj y.host,aj y.under,aj y.doc]):=by rw[cI hy,hq]
  obtain⟨y1,y2,y3,y4,y5,y6,y7,y8,y9,y10⟩:=y
  dsimp only at hp g1
  subst hp
  have hlr:(aP l a 1 b 2).length=l.length:=bN
  refine an.fA [(5,1)] (rvs:=[]) G au Tryz.func79 rfl Tryz.ntmps79 rfl rfl ?_;with_reducible refine wD ?_
  (have fct:=hnl;(repeat' (first
    |refine pF ?_
    | ((first
      |((with_reducible show bk _ _ _ _);(refine bk.mk (fun hp=>?_) (fun hp=>?_)<;>(try simp only[ay,bO,dh,Bool.not_eq_true',Bool.not_eq_false',Decidable.not_not,Int.not_lt,Int.not_le] at hp)))
      |((with_reducible show eO _ _ _ _ _);refine eO.mk n rfl (by first|exact hnl|(simp;omega)) ?_)
      |((with_reducible show aZ _ _ _ _ _);refine aZ.mk _ (by first|exact g1|(rw[Nat.zero_add];exact g1)) ?_)
      |((with_reducible show aL _ _ _ _);refine dK ?_))<;>with_reducible refine wK ?_)
    |((with_reducible show(_∧_)∧_∧_);(refine eK ?_ ?_<;>with_reducible repeat' (first|exact trivial|(show _∧_;refine aK ?_ ?_))))));all_goals clear fct)
  all_goals first
    |exact⟨.refl (ae _),ae _⟩
    |exact⟨.refl (aq _),aq _⟩
    |exact bt (fun _=>rfl) (fun _=>rfl)
    |trace_state
theorem J5 {l:List ai}{m:Int}{a b i:Nat}{ka kb es ex:List Int}{ns:List aR}{ya y:ai}{conn:Bool}{told:List aR}(htold:told=if conn then es.map (dO lV) else[])(hL:l.length≤1000)(ha:l[a]? =some ya)(hb:∀z,l[b]? =some z→z.kids=kb)(hy:l[b]? =some y)(hna:b≠a)(hka:ya.kids=ka)(hp:y.parent=a)(hi:i<ka.length)(hk:ka.length≤1000)(he:es.length≤1000)(hn:ns.length≤100000)
    (h21:an Tryz.prog 35 [] [aY ⟨l,m⟩,aj b] [] (bB conn)) (h191:an Tryz.prog 34 [] [aY ⟨l,m⟩,aj b] [aI (es++ex)] (.own 0 0 es.length)) (h79:an Tryz.prog 73 [] [cF ka,aj b] [] (aj i))
    (h188:an Tryz.prog 145 [aI ka] [.own 0 0 ka.length,aj i,aj (i+1:Nat)] [.dead,aI (ka.take i++ka.drop (i+1))] (.own 1 0 (ka.take i++ka.drop (i+1)).length)):
    an Tryz.prog 79 [aQ m l.length 4 (.own 3 0 ns.length),aI ka,aI kb,aW ns,aT l a 1 b 2] [.ptr 0 0 0,aj b]
      [aQ m l.length 4 (.own 6 0 (ns++told).length),.dead,aI kb,.dead,aT ((l.set a {ya with kids:=ka.take i++ka.drop (i+1)}).set b {y with parent:=-1}) a 5 b 2,aI (ka.take i++ka.drop (i+1)),aW (ns++told)] (.tup []):=by
  have hal:=(bg ha).1
  have hnl:=(bg hy).1
  have hA:∀z,l[a]? =some z→z.kids=ka:=fun z hz=>by rw[ha] at hz;cases hz;exact hka
  have t21:=mO (rest:=[aj b]) hA hb h21 rfl rfl
  have t164:=qD (x:=lV) hA hb he hn h191
  have t79:=mP (rest:=[aj b]) h79 rfl rfl
  have hne:a≠b:=fun e=>hna e.symm
  obtain⟨k2,hk2⟩:∃k2,k2=ka.take i++ka.drop (i+1):=⟨_,rfl⟩
  rw[←hk2] at h188 ⊢
  have hrow:∀u,((aP l a 1 b 2).set a (dF {ya with kids:=k2} u)).set b (dF {y with parent:=-1} 2)=aP ((l.set a {ya with kids:=k2}).set b {y with parent:=-1}) a u b 2:=fun u=>by
    rw[oH _ hal,sO _ (by rw[List.length_set];exact hnl) hna]
  have g1:(aP l a 1 b 2)[b]? =some (dN y 2):=s5 hy hna
  have g2:(aP l a 1 b 2)[a]? =some (dN ya 1):=B6 ha
  have g3:∀x,((aP l a 1 b 2).set a x)[b]? =some (dN y 2):=fun x=>by rw[List.getElem?_set,if_neg hne];exact g1
  have g4:∀x,((aP l a 1 b 2).set (0+a) x)[0+b]? =some (dN y 2):=fun x=>by rw[Nat.zero_add,Nat.zero_add];exact g3 x
  have hrow':((aP l a 1 b 2).set (0+a) (dF {ya with kids:=k2} 511)).set (0+b) (dF {y with parent:=-1} 2)=aP ((l.set a {ya with kids:=k2}).set b {y with parent:=-1}) a 511 b 2:=by rw[Nat.zero_add,Nat.zero_add];exact hrow 511
  have hlr:(aP l a 1 b 2).length=l.length:=bN
  obtain⟨y1,y2,y3,y4,y5,y6,y7,y8,y9,y10⟩:=y
  obtain⟨z1,z2,z3,z4,z5,z6,z7,z8,z9,z10⟩:=ya
  dsimp only at hp hka
  subst hp;subst hka
  have hpa:¬ ((a:Int)=-1):=by omega
  refine an.fA [(5,511)] (rvs:=[]) G au Tryz.func79 rfl Tryz.ntmps79 rfl rfl ?_;with_reducible refine wD ?_
  (have fct:=hpa;(repeat' (first
    |refine pF ?_
    | ((first
      |((with_reducible show bk _ _ _ _);(refine bk.mk (fun hp=>?_) (fun hp=>?_)<;>(try simp only[ay,bO,dh,Bool.not_eq_true',Bool.not_eq_false',Decidable.not_not,Int.not_lt,Int.not_le] at hp)))
      |((with_reducible show eO _ _ _ _ _);first|refine eO.mk b rfl (by first|exact hnl|(simp;omega)) ?_|refine eO.mk a rfl (by first|exact hal|(simp;omega)) ?_)
      |((with_reducible show aZ _ _ _ _ _);refine aZ.mk _ (by first|exact g4 _|exact g1|exact g2|exact g3 _|(rw[Nat.zero_add];first|exact g1|exact g2|exact g3 _)) ?_)
      |((with_reducible show aa _ _ 35 _ _ _ _);refine aa.dg (news:=[aT l a 1 b 2,aI z7,aI kb]) [4,1,2] [] t21 Mz ⟨⟨⟨rfl,rfl⟩,rfl,trivial⟩,rfl,trivial⟩ ⟨⟨rfl,bR (fun _=>rfl) (fun _=>rfl)⟩,⟨rfl,.inl ⟨rfl,ae _⟩⟩,⟨rfl,.inl ⟨rfl,ae _⟩⟩,trivial⟩ rfl ⟨⟨rfl,rfl⟩,rfl⟩ rfl ⟨⟨rfl,bM rfl rfl (by decide) (by decide)⟩,⟨rfl,.inl ⟨rfl,ae _⟩⟩,⟨rfl,.inl ⟨rfl,ae _⟩⟩,trivial⟩ rfl rfl ?_)
      |((with_reducible show aa _ _ 141 _ _ _ _);refine aa.dg (news:=[aQ m l.length 4 (.own 133 0 (ns.length+es.length)),aI z7,aI kb,.dead,aT l a 1 b 2,aW (ns++es.map (dO lV))]) [0,1,2,3,4,133] [] t164 Ey ⟨⟨rfl,rfl⟩,rfl,⟨rfl,rfl,rfl,rfl,rfl,rfl,rfl,rfl,rfl,trivial⟩,trivial⟩ ⟨⟨rfl,.inr ⟨⟨⟨⟨rfl,rfl⟩,rfl,⟨rfl,rfl⟩,trivial⟩,trivial⟩,rfl⟩⟩,⟨rfl,.inl ⟨rfl,ae _⟩⟩,⟨rfl,.inl ⟨rfl,ae _⟩⟩,⟨rfl,.inl ⟨rfl,aq _⟩⟩,⟨rfl,bR (fun _=>rfl) (fun _=>rfl)⟩,trivial⟩ rfl ⟨⟨rfl,rfl⟩,rfl⟩ rfl ⟨⟨rfl,.inr ⟨rfl,rfl,rfl⟩⟩,⟨rfl,.inl ⟨rfl,ae _⟩⟩,⟨rfl,.inl ⟨rfl,ae _⟩⟩,⟨rfl,bM rfl rfl (by decide) (by decide)⟩,⟨rfl,.inl ⟨rfl,aq _⟩⟩,trivial⟩ rfl rfl ?_)
      |((with_reducible show aa _ _ 73 _ _ _ _);refine aa.dg (news:=[aI z7]) [1] [] t79 Ju ⟨⟨rfl,rfl⟩,rfl,trivial⟩ ⟨⟨rfl,.inl ⟨rfl,ae _⟩⟩,trivial⟩ rfl ⟨⟨rfl,rfl⟩,rfl⟩ rfl ⟨⟨rfl,.inl ⟨rfl,ae _⟩⟩,trivial⟩ rfl rfl ?_)
      |((with_reducible show aa _ _ 145 _ _ _ _);refine aa.dg (news:=[.dead,aI k2]) [1,511] [] h188 MG ⟨⟨rfl,rfl⟩,rfl,by show((i+1:Nat):Int)=(i:Int)+1;omega,trivial⟩ ⟨⟨rfl,.inl ⟨rfl,ae _⟩⟩,trivial⟩ rfl ⟨⟨rfl,rfl⟩,rfl⟩ rfl ⟨⟨rfl,.inl ⟨rfl,ae _⟩⟩,trivial⟩ rfl rfl ?_)
      |((with_reducible show aL _ _ _ _);refine dK ?_))<;>with_reducible refine wK ?_)
    |((with_reducible show(_∧_)∧_∧_);(refine eK ?_ ?_<;>with_reducible repeat' (first|exact trivial|(show _∧_;refine aK ?_ ?_))))));all_goals clear fct)
  all_goals first
    |exact⟨.refl (ae _),ae _⟩
    |exact cast (congrArg (eF _ _) hrow'.symm) (bt (fun _=>rfl) (fun _=>rfl))
    | (have ht:told=es.map (dO lV):=by rw[htold,hp];rfl
       subst ht
       first|exact⟨.refl (aq _),aq _⟩|(simp;done))
    | (have ht:told=[]:=by rw[htold,hp];rfl
       subst ht
       first|exact cast (congrArg (fun z=>r6 _ z _) (show ns.map gG=(ns++ []).map gG by simp)) ⟨.refl (aq _),aq _⟩|(simp;done))
    |trace_state
end Go.Proofs.Heir
