/- Models, plain laws and contracts of functions of the given program; conditions as stated in each theorem. By an AI agent. -/
import Derived.Test.YtkhjcnjicjgfiaaGreatDoorWD25
import Derived.Test.YtkhjcnjicjgfiaaGreatDoorWD26
import Derived.Test.YtkhjcnjicjgfiaaGreatDoorWD16
import Derived.Test.YtkhjcnjicjgfiaaGreatDoorWD27
set_option linter.unusedSimpArgs false
set_option linter.unusedVariables false
namespace Go.Proofs.Heir
open Go Go.Am Go.RowKit Go.Lib
set_option maxRecDepth 100000
set_option maxHeartbeats 8000000
section
variable {l : List ai} {a b ta tb : Nat} {y : ai}
theorem BK:bC l l.length ta l.length tb=l.map cj:=by
  apply List.ext_getElem?
  intro i
  unfold bC
  rw[List.getElem?_mapIdx,dM]
  cases h:l[i]? with
  |none=>rfl
  | some y=>
    have:=(br h).1
    show some (fH l.length ta l.length tb i y)=some (cj y)
    unfold fH
    rw[if_neg (by omega),if_neg (by omega)]
theorem gz {a' b':Nat}{x:AV}{k:Nat}(h:∀i z,l[i]? =some z→fH a ta b tb i z=if i=k then x else fH a' ta b' tb i z):(bC l a' ta b' tb).set (0+k) x=bC l a ta b tb:=by
  apply List.ext_getElem?
  intro j
  unfold bC
  rw[Nat.zero_add,List.getElem?_set,List.getElem?_mapIdx,List.getElem?_mapIdx,List.length_mapIdx]
  cases e:l[j]? with
  | none=>
    have:¬k<l.length∨k≠j:=by
      by_cases c:k=j
      ·subst c;left;rw[List.getElem?_eq_none_iff] at e;omega
      ·exact .inr c
    rcases this with c|c
    · by_cases d:k=j
      ·rw[if_pos d,if_neg c];rfl
      ·rw[if_neg d];rfl
    ·rw[if_neg c];rfl
  | some z=>
    have:=(br e).1
    show _=some (fH a ta b tb j z)
    rw[h j z e]
    by_cases d:k=j
    ·subst d;rw[if_pos rfl,if_pos this,if_pos rfl]
    ·rw[if_neg d,if_neg (fun q=>d q.symm)];rfl
theorem cR {m:ML}{fz:Nat→Bool}{tab:List (Nat×Nat)}{ta' tb' k:Nat}(h1:a<l.length→mJ tab ta'=some ta)(h2:b<l.length→mJ tab tb'=some tb):cH (MF tab fz m (k+2)) (bC l a ta' b tb') (bC l a ta b tb):=
  ⟨by rw[bR,bR],fun i x z hx hz=>by
    obtain⟨y,hy,rfl⟩:=kK hx
    obtain⟨y2,hy2,rfl⟩:=kK hz
    rw[hy] at hy2;cases hy2
    have hi:=(br hy).1
    have key:∀u u':Nat,mJ tab u'=some u→MF tab fz m (k+2) (fc y u') (fc y u):=fun u u' h=>by
      have hw:MF tab fz m (k+1) (.own u' 0 y.kids.length) (.own u 0 y.kids.length):=by simp[MF,h]
      exact⟨rfl,rfl,rfl,rfl,je _ _ rfl,rfl,hw,rfl,rfl,rfl,trivial⟩
    unfold fH
    by_cases e:i=a
    ·rw[if_pos e,if_pos e];exact key _ _ (h1 (e▸hi))
    · rw[if_neg e,if_neg e]
      by_cases c:i=b
      ·rw[if_pos c,if_pos c];exact key _ _ (h2 (c▸hi))
      ·rw[if_neg c,if_neg c];exact je _ _ (mW y)⟩
end
@[reducible] def bS (l : List Int) : MS := .live 1 (l.map bu) false
theorem p5 (l:List Int):ic [bS l]:=⟨bB.ga fun x hx=>by
  obtain⟨a,_,rfl⟩:=List.mem_map.1 hx;rfl,ae l,trivial⟩
theorem Ip (l:List Int)(hl:l.length≤100000):an Tryz.prog 72 [] [cN l] [bS l] (.own 0 0 l.length):=by
  have hlm:(l.map bu).length=l.length:=bM ..
  refine an.aF (rvs:=[.tmp 2]) G aq Tryz.func72 rfl Tryz.ntmps72 rfl rfl ?_;with_reducible refine wD ?_
  refine oW.mk (fun h=>?_) (fun _=>?_)<;>with_reducible refine wK ?_
  · obtain rfl:l=[]:=by simpa using h
    (refine eK ?_ ?_<;>with_reducible repeat' (first|exact trivial|(show _∧_;refine aK ?_ ?_)))
    all_goals first|rfl|trivial
  · refine jR.mk [] (l.map bu) ⟨rfl,rfl,rfl⟩ ⟨rfl,rfl,rfl⟩ (mY bu (fun _=>rfl) l) (by simp;omega) (by simp;omega) ?_;with_reducible refine wK ?_
    (refine eK ?_ ?_<;>with_reducible repeat' (first|exact trivial|(show _∧_;refine aK ?_ ?_)))
    ·exact hlm.symm
    ·exact aQ (ae l)
@[reducible] def Nw (m : Int) (l : List ai) (a b : Nat) (ka kb : List Int) : Bool → Bool → ML
  |false,false=>[(120,dg m l.length 74 (.own 93 0 0)),(93,.live 9 [] false),(74,cZ l l.length 81 l.length 91)]
  |true,false=>[(120,dg m l.length 74 (.own 93 0 0)),(93,.live 9 [] false),(81,bS ka),(74,cZ l a 81 l.length 91)]
  |false,true=>[(120,dg m l.length 74 (.own 93 0 0)),(93,.live 9 [] false),(91,bS kb),(74,cZ l l.length 81 b 91)]
  |true,true=>[(120,dg m l.length 74 (.own 93 0 0)),(93,.live 9 [] false),(81,bS ka),(91,bS kb),(74,cZ l a 81 b 91)]
theorem MU (f:ForM)(hs:bO f.nodes){a b:Nat}{ya yb:ai}(hab:a≠b)(ha:f.nodes[a]? =some ya)(hb:f.nodes[b]? =some yb):
    an Tryz.prog 121 [] [bF f] [dg f.most f.nodes.length 4 (.own 3 0 0),bS ya.kids,bS yb.kids,.live 9 [] false,cZ f.nodes a 1 b 2] (.ptr 0 0 0):=by
  have h137:=yY f.nodes (by have:=hs.len;omega)
  have h60:=hs.len
  have hv:∀ (k:Nat) (y:ai),f.nodes[k]? =some y→an Tryz.prog 72 [] [cN y.kids] [] (cN y.kids):=fun k y hy=>GW y.kids (by have:=hs.kids y (bN hy);omega)
  have ho:∀ (k:Nat) (y:ai),f.nodes[k]? =some y→an Tryz.prog 72 [] [cN y.kids] [bS y.kids] (.own 0 0 y.kids.length):=fun k y hy=>Ip y.kids (by have:=hs.kids y (bN hy);omega)
  have hlm:(f.nodes.map cj).length=f.nodes.length:=bM ..
  obtain⟨l,m⟩:=f
  simp only at h137 h60 hv ho hlm ha hb
  have hal:=(br ha).1
  have hbl:=(br hb).1
  refine an.sS [(1,81),(2,91),(3,93)] (rvs:=[.tmp 2]) G aq Tryz.func121 rfl Tryz.ntmps121 rfl rfl ?_;with_reducible refine wD ?_
  repeat' (first
    |refine gK ?_
    | ((first
      |((with_reducible show ah _ _ 137 _ _ _ _);refine ah.new 71 [] h137 LF ⟨rfl,trivial⟩ rfl rfl rfl (tD l) rfl ?_)
      |((with_reducible show aH _ _ _ _);refine dK ?_))<;>with_reducible refine wK ?_)
    |((with_reducible show(_∧_)∧_∧_);(refine eK ?_ ?_<;>with_reducible repeat' (first|exact trivial|(show _∧_;refine aK ?_ ?_)))))
  refine bD.gW 3 120 93 9 0 2 (.agg [.own 71 0 l.length,ay m,.lit (.slice none 0 0)]) (.agg [.own 71 0 l.length,ay m,.own 93 0 0]) rfl rfl rfl rfl rfl rfl ?_
  show bD _ _ _ _ [(10,_),(71,iP l),(120,dg m l.length 71 (.own 93 0 0)),(93,.live 9 [] false)]
  refine bD.use G aq (fun(s:Nat×Bool×Bool)=>[(3,.ptr 120 0 0),(18,ay l.length),(19,ay s.1)])
    (fun s=>Nw m l a b ya.kids yb.kids s.2.1 s.2.2)
    (fun s=>s.1≤l.length∧s.2.1=decide (a<s.1)∧s.2.2=decide (b<s.1)) (fun s=>l.length-s.1) (0,false,false) ⟨Nat.zero_le _,by simp,by simp⟩ ?_ ?_
  · (refine fK ?_;(with_reducible repeat' (first|exact trivial|(show _∧_;refine aK ?_ ?_)));(all_goals try rfl))
    all_goals first
      |(refine cast (congrArg (fun x=>cH _ x _) (BK (l:=l) (ta:=81) (tb:=91)).symm) ?_;exact .refl (bI _))
      |exact .inl rfl
      |exact⟨.refl rfl,rfl⟩
      |trace_state
  rintro⟨k,da,db⟩ ⟨hk,hda,hdb⟩
  dsimp only at hk hda hdb
  cases da<;>cases db
  · have ha' : k≤a:=by simpa using hda
    have hb':k≤b:=by simpa using hdb
    with_reducible show rO _ _ _ _ _ _ [(120,dg m l.length 74 (.own 93 0 0)),(93,.live 9 [] false),(74,cZ l l.length 81 l.length 91)] _
    with_reducible refine wK ?_
    refine aL.mk (fun h1=>?_) (fun h1=>?_)<;>(try simp only[ak] at h1)<;>with_reducible refine wK ?_
    · have hkl:k<l.length:=by simp only[bH,ak] at h1;omega
      by_cases ea:k=a
      · subst ea
        have hc:=ho k ya ha
        have hr:(bC l l.length 81 l.length 91).set (0+k) (fc ya 81)=bC l k 81 l.length 91:=gz fun i z hz=>by
          have:=(br hz).1
          by_cases e:i=k
          ·subst e;rw[ha] at hz;cases hz;unfold fH;simp<;>omega
          · unfold fH;rw[if_neg e];repeat' split
            all_goals first|rfl|omega
        have hg:(bC l l.length 81 l.length 91)[k]? =some (aR ya):=by rw[eY ha,dj (by omega) (by omega)]
        obtain⟨y1,y2,y3,y4,y5,y6,y7,y8,y9,y10⟩:=ya
        simp only at hc
        repeat' (first
    |refine gK ?_
    | ((first
      |((with_reducible show gX _ _ _ _ _);refine gX.mk k rfl (by first|exact hkl|(rw[bR];exact hkl)) ?_)
      |((with_reducible show bE _ _ _ _ _);first|refine bE.mk (aR ⟨y1,y2,y3,y4,y5,y6,y7,y8,y9,y10⟩) (by first|exact hg|(rw[Nat.zero_add];exact hg)) ?_|refine bE.mk _ rfl ?_)
      |((with_reducible show ah _ _ 72 _ _ _ _);refine ah.new 81 [] hc HU ⟨rfl,trivial⟩ rfl rfl rfl (p5 _) rfl ?_)
      |((with_reducible show aH _ _ _ _);refine dK ?_))<;>with_reducible refine wK ?_)
    | ((with_reducible show(_∧_)∧_∧_);(refine eK ?_ ?_<;>with_reducible repeat' (first|exact trivial|(show _∧_;refine aK ?_ ?_)))))
        refine aT.mk (k+1,true,false) ⟨by dsimp only;omega,by dsimp only;first|(simp;done)|(simp;omega),by dsimp only;first|(simp;done)|(simp;omega)⟩ (by dsimp only;omega) ?_
        (refine fK ?_;(with_reducible repeat' (first|exact trivial|(show _∧_;refine aK ?_ ?_)));(all_goals try rfl))
        all_goals first
          |(refine cast (congrArg (cH _ _) hr.symm) ?_;exact cR (fun h=>by first|(exfalso;omega)|rfl) (fun h=>by first|(exfalso;omega)|rfl))
          |exact .inl rfl
          |exact⟨.refl rfl,rfl⟩
          |exact⟨.refl (ae _),ae _⟩
          |(simp;done)
          |trace_state
      · skip
        by_cases eb:k=b
        · subst eb
          have hc:=ho k yb hb
          have hr:(bC l l.length 81 l.length 91).set (0+k) (fc yb 91)=bC l l.length 81 k 91:=gz fun i z hz=>by
            have:=(br hz).1
            by_cases e:i=k
            ·subst e;rw[hb] at hz;cases hz;unfold fH;simp<;>omega
            · unfold fH;rw[if_neg e];repeat' split
              all_goals first|rfl|omega
          have hg:(bC l l.length 81 l.length 91)[k]? =some (aR yb):=by rw[eY hb,dj (by omega) (by omega)]
          obtain⟨y1,y2,y3,y4,y5,y6,y7,y8,y9,y10⟩:=yb
          simp only at hc
          repeat' (first
    |refine gK ?_
    | ((first
      |((with_reducible show gX _ _ _ _ _);refine gX.mk k rfl (by first|exact hkl|(rw[bR];exact hkl)) ?_)
      |((with_reducible show bE _ _ _ _ _);first|refine bE.mk (aR ⟨y1,y2,y3,y4,y5,y6,y7,y8,y9,y10⟩) (by first|exact hg|(rw[Nat.zero_add];exact hg)) ?_|refine bE.mk _ rfl ?_)
      |((with_reducible show ah _ _ 72 _ _ _ _);refine ah.new 91 [] hc HU ⟨rfl,trivial⟩ rfl rfl rfl (p5 _) rfl ?_)
      |((with_reducible show aH _ _ _ _);refine dK ?_))<;>with_reducible refine wK ?_)
    | ((with_reducible show(_∧_)∧_∧_);(refine eK ?_ ?_<;>with_reducible repeat' (first|exact trivial|(show _∧_;refine aK ?_ ?_)))))
          refine aT.mk (k+1,false,true) ⟨by dsimp only;omega,by dsimp only;first|(simp;done)|(simp;omega),by dsimp only;first|(simp;done)|(simp;omega)⟩ (by dsimp only;omega) ?_
          (refine fK ?_;(with_reducible repeat' (first|exact trivial|(show _∧_;refine aK ?_ ?_)));(all_goals try rfl))
          all_goals first
            |(refine cast (congrArg (cH _ _) hr.symm) ?_;exact cR (fun h=>by first|(exfalso;omega)|rfl) (fun h=>by first|(exfalso;omega)|rfl))
            |exact .inl rfl
            |exact⟨.refl rfl,rfl⟩
            |exact⟨.refl (ae _),ae _⟩
            |(simp;done)
            |trace_state
        · skip
          obtain⟨y,hy⟩:∃y,l[k]? =some y:=⟨_,bh hkl⟩
          have hc:=hv k y hy
          have hr:(bC l l.length 81 l.length 91).set (0+k) (cj y)=bC l l.length 81 l.length 91:=gz fun i z hz=>by
            have:=(br hz).1
            by_cases e:i=k
            ·subst e;rw[hy] at hz;cases hz;rw[if_pos rfl,dj (by omega) (by omega)];rfl
            ·rw[if_neg e]
          have hg:(bC l l.length 81 l.length 91)[k]? =some (aR y):=by rw[eY hy,dj (by omega) (by omega)]
          obtain⟨y1,y2,y3,y4,y5,y6,y7,y8,y9,y10⟩:=y
          simp only at hc
          repeat' (first
    |refine gK ?_
    | ((first
      |((with_reducible show gX _ _ _ _ _);refine gX.mk k rfl (by first|exact hkl|(rw[bR];exact hkl)) ?_)
      |((with_reducible show bE _ _ _ _ _);first|refine bE.mk (aR ⟨y1,y2,y3,y4,y5,y6,y7,y8,y9,y10⟩) (by first|exact hg|(rw[Nat.zero_add];exact hg)) ?_|refine bE.mk _ rfl ?_)
      |((with_reducible show ah _ _ 72 _ _ _ _);refine ah.val [] hc HU ⟨rfl,trivial⟩ rfl rfl rfl ?_)
      |((with_reducible show aH _ _ _ _);refine dK ?_))<;>with_reducible refine wK ?_)
    |((with_reducible show(_∧_)∧_∧_);(refine eK ?_ ?_<;>with_reducible repeat' (first|exact trivial|(show _∧_;refine aK ?_ ?_)))))
          refine aT.mk (k+1,false,false) ⟨by dsimp only;omega,by dsimp only;first|(simp;done)|(simp;omega),by dsimp only;first|(simp;done)|(simp;omega)⟩ (by dsimp only;omega) ?_
          (refine fK ?_;(with_reducible repeat' (first|exact trivial|(show _∧_;refine aK ?_ ?_)));(all_goals try rfl))
          all_goals first
            |(refine cast (congrArg (cH _ _) hr.symm) ?_;exact cR (fun h=>by first|(exfalso;omega)|rfl) (fun h=>by first|(exfalso;omega)|rfl))
            |exact .inl rfl
            |exact⟨.refl rfl,rfl⟩
            |exact⟨.refl (ae _),ae _⟩
            |(simp;done)
            |trace_state
    · have hjl:k=l.length:=by simp only[dG,ak] at h1;omega
      exfalso;omega
  · have ha' :k≤a:=by simpa using hda
    have hb':b<k:=by simpa using hdb
    with_reducible show rO _ _ _ _ _ _ [(120,dg m l.length 74 (.own 93 0 0)),(93,.live 9 [] false),(91,bS yb.kids),(74,cZ l l.length 81 b 91)] _
    with_reducible refine wK ?_
    refine aL.mk (fun h1=>?_) (fun h1=>?_)<;>(try simp only[ak] at h1)<;>with_reducible refine wK ?_
    · have hkl:k<l.length:=by simp only[bH,ak] at h1;omega
      by_cases ea:k=a
      · subst ea
        have hc:=ho k ya ha
        have hr:(bC l l.length 81 b 91).set (0+k) (fc ya 81)=bC l k 81 b 91:=gz fun i z hz=>by
          have:=(br hz).1
          by_cases e:i=k
          ·subst e;rw[ha] at hz;cases hz;unfold fH;simp<;>omega
          · unfold fH;rw[if_neg e];repeat' split
            all_goals first|rfl|omega
        have hg:(bC l l.length 81 b 91)[k]? =some (aR ya):=by rw[eY ha,dj (by omega) (by omega)]
        obtain⟨y1,y2,y3,y4,y5,y6,y7,y8,y9,y10⟩:=ya
        simp only at hc
        repeat' (first
    |refine gK ?_
    | ((first
      |((with_reducible show gX _ _ _ _ _);refine gX.mk k rfl (by first|exact hkl|(rw[bR];exact hkl)) ?_)
      |((with_reducible show bE _ _ _ _ _);first|refine bE.mk (aR ⟨y1,y2,y3,y4,y5,y6,y7,y8,y9,y10⟩) (by first|exact hg|(rw[Nat.zero_add];exact hg)) ?_|refine bE.mk _ rfl ?_)
      |((with_reducible show ah _ _ 72 _ _ _ _);refine ah.new 81 [] hc HU ⟨rfl,trivial⟩ rfl rfl rfl (p5 _) rfl ?_)
      |((with_reducible show aH _ _ _ _);refine dK ?_))<;>with_reducible refine wK ?_)
    | ((with_reducible show(_∧_)∧_∧_);(refine eK ?_ ?_<;>with_reducible repeat' (first|exact trivial|(show _∧_;refine aK ?_ ?_)))))
        refine aT.mk (k+1,true,true) ⟨by dsimp only;omega,by dsimp only;first|(simp;done)|(simp;omega),by dsimp only;first|(simp;done)|(simp;omega)⟩ (by dsimp only;omega) ?_
        (refine fK ?_;(with_reducible repeat' (first|exact trivial|(show _∧_;refine aK ?_ ?_)));(all_goals try rfl))
        all_goals first
          |(refine cast (congrArg (cH _ _) hr.symm) ?_;exact cR (fun h=>by first|(exfalso;omega)|rfl) (fun h=>by first|(exfalso;omega)|rfl))
          |exact .inl rfl
          |exact⟨.refl rfl,rfl⟩
          |exact⟨.refl (ae _),ae _⟩
          |(simp;done)
          |trace_state
      · skip
        obtain⟨y,hy⟩:∃y,l[k]? =some y:=⟨_,bh hkl⟩
        have hc:=hv k y hy
        have hr:(bC l l.length 81 b 91).set (0+k) (cj y)=bC l l.length 81 b 91:=gz fun i z hz=>by
          have:=(br hz).1
          by_cases e:i=k
          ·subst e;rw[hy] at hz;cases hz;rw[if_pos rfl,dj (by omega) (by omega)];rfl
          ·rw[if_neg e]
        have hg:(bC l l.length 81 b 91)[k]? =some (aR y):=by rw[eY hy,dj (by omega) (by omega)]
        obtain⟨y1,y2,y3,y4,y5,y6,y7,y8,y9,y10⟩:=y
        simp only at hc
        repeat' (first
    |refine gK ?_
    | ((first
      |((with_reducible show gX _ _ _ _ _);refine gX.mk k rfl (by first|exact hkl|(rw[bR];exact hkl)) ?_)
      |((with_reducible show bE _ _ _ _ _);first|refine bE.mk (aR ⟨y1,y2,y3,y4,y5,y6,y7,y8,y9,y10⟩) (by first|exact hg|(rw[Nat.zero_add];exact hg)) ?_|refine bE.mk _ rfl ?_)
      |((with_reducible show ah _ _ 72 _ _ _ _);refine ah.val [] hc HU ⟨rfl,trivial⟩ rfl rfl rfl ?_)
      |((with_reducible show aH _ _ _ _);refine dK ?_))<;>with_reducible refine wK ?_)
    | ((with_reducible show(_∧_)∧_∧_);(refine eK ?_ ?_<;>with_reducible repeat' (first|exact trivial|(show _∧_;refine aK ?_ ?_)))))
        refine aT.mk (k+1,false,true) ⟨by dsimp only;omega,by dsimp only;first|(simp;done)|(simp;omega),by dsimp only;first|(simp;done)|(simp;omega)⟩ (by dsimp only;omega) ?_
        (refine fK ?_;(with_reducible repeat' (first|exact trivial|(show _∧_;refine aK ?_ ?_)));(all_goals try rfl))
        all_goals first
          |(refine cast (congrArg (cH _ _) hr.symm) ?_;exact cR (fun h=>by first|(exfalso;omega)|rfl) (fun h=>by first|(exfalso;omega)|rfl))
          |exact .inl rfl
          |exact⟨.refl rfl,rfl⟩
          |exact⟨.refl (ae _),ae _⟩
          |(simp;done)
          |trace_state
    · have hjl:k=l.length:=by simp only[dG,ak] at h1;omega
      exfalso;omega
  · have ha' :a<k:=by simpa using hda
    have hb':k≤b:=by simpa using hdb
    with_reducible show rO _ _ _ _ _ _ [(120,dg m l.length 74 (.own 93 0 0)),(93,.live 9 [] false),(81,bS ya.kids),(74,cZ l a 81 l.length 91)] _
    with_reducible refine wK ?_
    refine aL.mk (fun h1=>?_) (fun h1=>?_)<;>(try simp only[ak] at h1)<;>with_reducible refine wK ?_
    · have hkl:k<l.length:=by simp only[bH,ak] at h1;omega
      by_cases eb:k=b
      · subst eb
        have hc:=ho k yb hb
        have hr:(bC l a 81 l.length 91).set (0+k) (fc yb 91)=bC l a 81 k 91:=gz fun i z hz=>by
          have:=(br hz).1
          by_cases e:i=k
          ·subst e;rw[hb] at hz;cases hz;unfold fH;simp<;>omega
          · unfold fH;rw[if_neg e];repeat' split
            all_goals first|rfl|omega
        have hg:(bC l a 81 l.length 91)[k]? =some (aR yb):=by rw[eY hb,dj (by omega) (by omega)]
        obtain⟨y1,y2,y3,y4,y5,y6,y7,y8,y9,y10⟩:=yb
        simp only at hc
        repeat' (first
    |refine gK ?_
    | ((first
      |((with_reducible show gX _ _ _ _ _);refine gX.mk k rfl (by first|exact hkl|(rw[bR];exact hkl)) ?_)
      |((with_reducible show bE _ _ _ _ _);first|refine bE.mk (aR ⟨y1,y2,y3,y4,y5,y6,y7,y8,y9,y10⟩) (by first|exact hg|(rw[Nat.zero_add];exact hg)) ?_|refine bE.mk _ rfl ?_)
      |((with_reducible show ah _ _ 72 _ _ _ _);refine ah.new 91 [] hc HU ⟨rfl,trivial⟩ rfl rfl rfl (p5 _) rfl ?_)
      |((with_reducible show aH _ _ _ _);refine dK ?_))<;>with_reducible refine wK ?_)
    | ((with_reducible show(_∧_)∧_∧_);(refine eK ?_ ?_<;>with_reducible repeat' (first|exact trivial|(show _∧_;refine aK ?_ ?_)))))
        refine aT.mk (k+1,true,true) ⟨by dsimp only;omega,by dsimp only;first|(simp;done)|(simp;omega),by dsimp only;first|(simp;done)|(simp;omega)⟩ (by dsimp only;omega) ?_
        (refine fK ?_;(with_reducible repeat' (first|exact trivial|(show _∧_;refine aK ?_ ?_)));(all_goals try rfl))
        all_goals first
          |(refine cast (congrArg (cH _ _) hr.symm) ?_;exact cR (fun h=>by first|(exfalso;omega)|rfl) (fun h=>by first|(exfalso;omega)|rfl))
          |exact .inl rfl
          |exact⟨.refl rfl,rfl⟩
          |exact⟨.refl (ae _),ae _⟩
          |(simp;done)
          |trace_state
      · skip
        obtain⟨y,hy⟩:∃y,l[k]? =some y:=⟨_,bh hkl⟩
        have hc:=hv k y hy
        have hr:(bC l a 81 l.length 91).set (0+k) (cj y)=bC l a 81 l.length 91:=gz fun i z hz=>by
          have:=(br hz).1
          by_cases e:i=k
          ·subst e;rw[hy] at hz;cases hz;rw[if_pos rfl,dj (by omega) (by omega)];rfl
          ·rw[if_neg e]
        have hg:(bC l a 81 l.length 91)[k]? =some (aR y):=by rw[eY hy,dj (by omega) (by omega)]
        obtain⟨y1,y2,y3,y4,y5,y6,y7,y8,y9,y10⟩:=y
        simp only at hc
        repeat' (first
    |refine gK ?_
    | ((first
      |((with_reducible show gX _ _ _ _ _);refine gX.mk k rfl (by first|exact hkl|(rw[bR];exact hkl)) ?_)
      |((with_reducible show bE _ _ _ _ _);first|refine bE.mk (aR ⟨y1,y2,y3,y4,y5,y6,y7,y8,y9,y10⟩) (by first|exact hg|(rw[Nat.zero_add];exact hg)) ?_|refine bE.mk _ rfl ?_)
      |((with_reducible show ah _ _ 72 _ _ _ _);refine ah.val [] hc HU ⟨rfl,trivial⟩ rfl rfl rfl ?_)
      |((with_reducible show aH _ _ _ _);refine dK ?_))<;>with_reducible refine wK ?_)
    | ((with_reducible show(_∧_)∧_∧_);(refine eK ?_ ?_<;>with_reducible repeat' (first|exact trivial|(show _∧_;refine aK ?_ ?_)))))
        refine aT.mk (k+1,true,false) ⟨by dsimp only;omega,by dsimp only;first|(simp;done)|(simp;omega),by dsimp only;first|(simp;done)|(simp;omega)⟩ (by dsimp only;omega) ?_
        (refine fK ?_;(with_reducible repeat' (first|exact trivial|(show _∧_;refine aK ?_ ?_)));(all_goals try rfl))
        all_goals first
          |(refine cast (congrArg (cH _ _) hr.symm) ?_;exact cR (fun h=>by first|(exfalso;omega)|rfl) (fun h=>by first|(exfalso;omega)|rfl))
          |exact .inl rfl
          |exact⟨.refl rfl,rfl⟩
          |exact⟨.refl (ae _),ae _⟩
          |(simp;done)
          |trace_state
    · have hjl:k=l.length:=by simp only[dG,ak] at h1;omega
      exfalso;omega
  · have ha':a<k:=by simpa using hda
    have hb':b<k:=by simpa using hdb
    with_reducible show rO _ _ _ _ _ _ [(120,dg m l.length 74 (.own 93 0 0)),(93,.live 9 [] false),(81,bS ya.kids),(91,bS yb.kids),(74,cZ l a 81 b 91)] _
    with_reducible refine wK ?_
    refine aL.mk (fun h1=>?_) (fun h1=>?_)<;>(try simp only[ak] at h1)<;>with_reducible refine wK ?_
    · have hkl:k<l.length:=by simp only[bH,ak] at h1;omega
      obtain⟨y,hy⟩:∃y,l[k]? =some y:=⟨_,bh hkl⟩
      have hc:=hv k y hy
      have hr:(bC l a 81 b 91).set (0+k) (cj y)=bC l a 81 b 91:=gz fun i z hz=>by
        have:=(br hz).1
        by_cases e:i=k
        ·subst e;rw[hy] at hz;cases hz;rw[if_pos rfl,dj (by omega) (by omega)];rfl
        ·rw[if_neg e]
      have hg:(bC l a 81 b 91)[k]? =some (aR y):=by rw[eY hy,dj (by omega) (by omega)]
      obtain⟨y1,y2,y3,y4,y5,y6,y7,y8,y9,y10⟩:=y
      simp only at hc
      repeat' (first
    |refine gK ?_
    | ((first
      |((with_reducible show gX _ _ _ _ _);refine gX.mk k rfl (by first|exact hkl|(rw[bR];exact hkl)) ?_)
      |((with_reducible show bE _ _ _ _ _);first|refine bE.mk (aR ⟨y1,y2,y3,y4,y5,y6,y7,y8,y9,y10⟩) (by first|exact hg|(rw[Nat.zero_add];exact hg)) ?_|refine bE.mk _ rfl ?_)
      |((with_reducible show ah _ _ 72 _ _ _ _);refine ah.val [] hc HU ⟨rfl,trivial⟩ rfl rfl rfl ?_)
      |((with_reducible show aH _ _ _ _);refine dK ?_))<;>with_reducible refine wK ?_)
    | ((with_reducible show(_∧_)∧_∧_);(refine eK ?_ ?_<;>with_reducible repeat' (first|exact trivial|(show _∧_;refine aK ?_ ?_)))))
      refine aT.mk (k+1,true,true) ⟨by dsimp only;omega,by dsimp only;first|(simp;done)|(simp;omega),by dsimp only;first|(simp;done)|(simp;omega)⟩ (by dsimp only;omega) ?_
      (refine fK ?_;(with_reducible repeat' (first|exact trivial|(show _∧_;refine aK ?_ ?_)));(all_goals try rfl))
      all_goals first
        |(refine cast (congrArg (cH _ _) hr.symm) ?_;exact cR (fun h=>by first|(exfalso;omega)|rfl) (fun h=>by first|(exfalso;omega)|rfl))
        |exact .inl rfl
        |exact⟨.refl rfl,rfl⟩
        |exact⟨.refl (ae _),ae _⟩
        |(simp;done)
        |trace_state
    · have hjl:k=l.length:=by simp only[dG,ak] at h1;omega
      subst hjl
      repeat' (first
    |refine gK ?_
    |(((with_reducible show aH _ _ _ _);refine dK ?_)<;>with_reducible refine wK ?_)
    | ((with_reducible show(_∧_)∧_∧_);(refine eK ?_ ?_<;>with_reducible repeat' (first|exact trivial|(show _∧_;refine aK ?_ ?_)))))
      all_goals first|rfl|exact .inl rfl|exact⟨.refl rfl,rfl⟩|exact cR (fun _=>rfl) (fun _=>rfl)|exact⟨.refl (ae _),ae _⟩|exact aQ (ae _)|trace_state
@[reducible] def gP (l : List bZ) : MS := .live 9 (l.map kE) false
theorem bK (l:List bZ):aV (l.map kE)=true:=dL kE (fun _=>rfl) l
theorem As {l:List Int}{k:Nat}{e:Int}(h:l[k]? =some e):(l.map bu)[k]? =some (ay e):=by rw[dM,h];rfl
section
variable {l : List ai} {m : Int} {a b ta tb : Nat} {ka kb : List Int}
theorem k8 {tab:List (Nat×Nat)}{T:List Nat}{ml:ML}{ta' tb':Nat}(h1:a<l.length→mJ tab ta'=some ta)(h2:b<l.length→mJ tab tb'=some tb):Kl tab T ml (bC l a ta' b tb') (bC l a ta b tb):=
  .inr ⟨yC (cR h1 h2),qx (by rw[bR,bR]) lG lG⟩
theorem jr {names:List Nat}{n ta0 tb0:Nat}{p:Prop}(h1:gh names ta0=some ta)(h2:gh names tb0=some tb)(i1:ta0<n)(i2:tb0<n):
    p∨(bC l a ta b tb=dO (oN names 12) (bC l a ta0 b tb0)∧iQ (Ao 12 n) (bC l a ta0 b tb0)=true∧oc (bC l a ta b tb) (bC l a ta0 b tb0)=true):=
  .inr ⟨DG h1 h2,Fp i1 i2,qx (by rw[bR,bR]) lG lG⟩
theorem zI (hka:∀y,l[a]? =some y→y.kids=ka)(hkb:∀y,l[b]? =some y→y.kids=kb){rest:List AV}(hr:aV rest=true):
    u5 (MF [] (Mv [0,1,2]) [(0,cZ l a 1 b 2),(1,bS ka),(2,bS kb)] 12) (bF ⟨l,m⟩::rest) (.agg [.own 0 0 l.length,ay m]::rest):=
  ⟨⟨yx (ra:=false) (rb:=false) (ea:=[]) (eb:=[]) rfl rfl (fun y hy=>by rw[List.append_nil,hka y hy];exact⟨rfl,rfl⟩) (fun y hy=>by rw[List.append_nil,hkb y hy];exact⟨rfl,rfl⟩),rfl,trivial⟩,aQ hr⟩
theorem E7 {f:FuncId}{rest:List AV}{res:AV}(hka:∀y,l[a]? =some y→y.kids=ka)(hkb:∀y,l[b]? =some y→y.kids=kb)(h:an Tryz.prog f [] (bF ⟨l,m⟩::rest) [] res)(hp:jO res=true)(hr:aV rest=true):
    an Tryz.prog f [cZ l a 1 b 2,bS ka,bS kb] (.agg [.own 0 0 l.length,ay m]::rest) [cZ l a 1 b 2,bS ka,bS kb] res:=
  an.Nb [(0,cZ l a 1 b 2),(1,bS ka),(2,bS kb)] [0,1,2] (cW [cZ l a 1 b 2,bS ka,bS kb]) h hp (zI hka hkb hr)
theorem FZ {f:FuncId}{rest:List AV}{es ex:List Int}(hka:∀y,l[a]? =some y→y.kids=ka)(hkb:∀y,l[b]? =some y→y.kids=kb)(h:an Tryz.prog f [] (bF ⟨l,m⟩::rest) [bS (es++ex)] (.own 0 0 es.length))(hr:aV rest=true):
    an Tryz.prog f [cZ l a 1 b 2,bS ka,bS kb] (.agg [.own 0 0 l.length,ay m]::rest) [cZ l a 1 b 2,bS ka,bS kb,bS (es++ex)] (.own 3 0 es.length):=by
  have hx:∀r∈ (es++ex).map bu,∃e:Int,r=ay e:=fun r hr=>by
    obtain⟨e,_,rfl⟩:=List.mem_map.1 hr
    exact⟨e,rfl⟩
  exact an.ID [(0,cZ l a 1 b 2),(1,bS ka),(2,bS kb)] [0,1,2] (cW [cZ l a 1 b 2,bS ka,bS kb]) h (fun c hc=>by
    unfold flat at hc
    obtain⟨r,h1,h2⟩:=List.mem_flatMap.1 hc
    obtain⟨e,rfl⟩:=hx r h1
    cases kX.1 h2
    rfl) (fun r hr cs e=>by
    obtain⟨i,rfl⟩:=hx r hr
    cases e) (zI hka hkb hr)
end
def jX (x:bZ)(k:Int):bZ:={x with node:=k}
@[reducible] def Ff (x : bZ) (k : Int) : AV := .agg [ay x.kind, ay k, ay x.src, ay x.dst, cw x.name, aX x.had, aX x.has, cw x.old, cw x.new]
theorem Lp {l:List ai}{m n:Int}{a b:Nat}{ka kb es ex:List Int}{ns:List bZ}{x:bZ}(hka:∀y,l[a]? =some y→y.kids=ka)(hkb:∀y,l[b]? =some y→y.kids=kb)(he:es.length≤1000)(hn:ns.length≤100000)
    (h191:an Tryz.prog 34 [] [bF ⟨l,m⟩,ay n] [bS (es++ex)] (.own 0 0 es.length)):
    an Tryz.prog 141 [dg m l.length 4 (.own 3 0 ns.length),bS ka,bS kb,gP ns,cZ l a 1 b 2] [.ptr 0 0 0,ay n,Kn x]
      [dg m l.length 4 (.own 5 0 (ns.length+es.length)),bS ka,bS kb,.dead,cZ l a 1 b 2,gP (ns++es.map (jX x))] (.tup []):=by
  have hle:(es.map bu).length=es.length:=bM ..
  refine an.sS [(5,93)] (rvs:=[]) G aq Tryz.func141 rfl Tryz.ntmps141 rfl rfl ?_;with_reducible refine wD ?_
  refine ah.dw (news:=[cZ l a 1 b 2,bS ka,bS kb,bS (es++ex)]) [4,1,2,111] [] (FZ hka hkb h191 rfl) Pq ⟨⟨⟨rfl,rfl⟩,rfl,trivial⟩,rfl,trivial⟩ ⟨⟨rfl,k8 (fun _=>rfl) (fun _=>rfl)⟩,⟨rfl,.inl ⟨rfl,ae _⟩⟩,⟨rfl,.inl ⟨rfl,ae _⟩⟩,trivial⟩ rfl ⟨⟨rfl,rfl⟩,rfl⟩ rfl ⟨⟨rfl,jr rfl rfl (by decide) (by decide)⟩,⟨rfl,.inl ⟨rfl,ae _⟩⟩,⟨rfl,.inl ⟨rfl,ae _⟩⟩,⟨rfl,.inl ⟨rfl,ae _⟩⟩,trivial⟩ rfl rfl ?_;with_reducible refine wK ?_
  refine bD.OO G aq (fun(s:Nat×Int)=>[(0,.ptr 0 0 0),(5,.ptr 50 0 0),(13,.own 111 0 es.length),(14,ay es.length),(15,ay s.1)])
    (fun s=>[(0,dg m l.length 4 (.own 93 0 (ns.length+s.1))),(1,bS ka),(2,bS kb),(3,.dead),(4,cZ l a 1 b 2),(111,bS (es++ex)),(50,.live 9 [Ff x s.2] false),(93,gP (ns++ (es.take s.1).map (jX x)))])
    (fun s=>s.1≤es.length) (fun s=>es.length-s.1) (0,x.node) [(93,3)] (Nat.zero_le _) ?_ ?_
  · (refine fK ?_;(with_reducible repeat' (first|exact trivial|(show _∧_;refine aK ?_ ?_)));(all_goals try rfl))
    all_goals first
      |(exact⟨.refl (ae _),ae _⟩)
      |(exact cast (congrArg (fun z=>o3 _ z _) (show ns.map kE=(ns++ (es.take 0).map (jX x)).map kE by simp)) ⟨.refl (bK _),bK _⟩)
      |(exact cR (fun _=>rfl) (fun _=>rfl))
      |trace_state
  rintro⟨k,c⟩ hk
  dsimp only at hk
  with_reducible refine wK ?_
  refine aL.mk (fun h1=>?_) (fun h1=>?_)<;>(try simp only[ak] at h1)<;>with_reducible refine wK ?_
  · have hkl:k<es.length:=by simp only[bH,ak] at h1;omega
    obtain⟨e,hy⟩:∃e,es[k]? =some e:=⟨_,bh hkl⟩
    have hy2:(es++ex)[k]? =some e:=by rw[List.getElem?_append_left hkl];exact hy
    repeat' (first
    |refine gK ?_
    | ((first
      |((with_reducible show gX _ _ _ _ _);refine gX.mk k rfl (by first|exact hkl|(simp;omega)) ?_)
      |((with_reducible show bE _ _ _ _ _);refine bE.mk (ay e) (by first|exact As hy2|(rw[Nat.zero_add];exact As hy2)) ?_)
      |((with_reducible show jR _ _ _ _ _ _ _ _ _ _);refine jR.mk ((ns++ (es.take k).map (jX x)).map kE) [Ff x e] ⟨rfl,(by simp;omega),rfl⟩ ⟨rfl,rfl,rfl⟩ rfl (by simp;omega) (by simp;omega) ?_)
      |((with_reducible show aH _ _ _ _);refine dK ?_))<;>with_reducible refine wK ?_)
    |((with_reducible show(_∧_)∧_∧_);(refine eK ?_ ?_<;>with_reducible repeat' (first|exact trivial|(show _∧_;refine aK ?_ ?_)))))
    have ht:es.take (k+1)=es.take k++ [e]:=by rw[List.take_add_one,hy];rfl
    have hrow:(ns++ (es.take k).map (jX x)).map kE++ [Ff x e]=(ns++ (es.take (k+1)).map (jX x)).map kE:=by
      rw[ht,gL,gL,gL,gL,List.append_assoc];rfl
    refine CG.mk (k+1,e) [(93,281)] (by dsimp only;omega) (by dsimp only;omega) ?_
    (refine fK ?_;(with_reducible repeat' (first|exact trivial|(show _∧_;refine aK ?_ ?_)));(all_goals try rfl))
    all_goals first
      |exact⟨.refl (ae _),ae _⟩
      |exact cR (fun _=>rfl) (fun _=>rfl)
      |exact cast (congrArg (fun z=>o3 _ z _) hrow) ⟨.refl (by rw[hrow];exact bK _),by rw[hrow];exact bK _⟩
      |(refine⟨⟨⟨rfl,rfl⟩,rfl,⟨rfl,?_⟩,trivial⟩,trivial⟩;simp;omega)
      |(simp;omega)
      |trace_state
  · have hjl:k=es.length:=by simp only[dG,ak] at h1;omega
    subst hjl
    repeat' (first
    |refine gK ?_
    |(((with_reducible show aH _ _ _ _);refine dK ?_)<;>with_reducible refine wK ?_)
    |((with_reducible show(_∧_)∧_∧_);(refine eK ?_ ?_<;>with_reducible repeat' (first|exact trivial|(show _∧_;refine aK ?_ ?_)))))
    all_goals first|rfl|exact .inl rfl|exact⟨.refl rfl,rfl⟩|exact cR (fun _=>rfl) (fun _=>rfl)|exact⟨.refl (ae _),ae _⟩|(rw[nU (Nat.le_refl _)];exact⟨.refl (bK _),bK _⟩)|trace_state
section
variable {l : List ai} {a b ta tb ta' n i : Nat} {y : ai}
theorem BP (y':ai)(h:a<l.length):(bC l a ta b tb).set a (fc y' ta')=bC (l.set a y') a ta' b tb:=by
  apply List.ext_getElem?
  intro j
  unfold bC
  rw[List.getElem?_set,List.getElem?_mapIdx,List.getElem?_mapIdx,List.getElem?_set,List.length_mapIdx]
  by_cases e:a=j
  · subst e
    rw[if_pos rfl,if_pos rfl,if_pos h,if_pos h]
    show some _=some (fH a ta' b tb a y')
    rw[G3];rfl
  · rw [if_neg e,if_neg e]
    cases l[j]? with
    |none=>rfl
    | some z=>
      show some (fH a ta b tb j z)=some (fH a ta' b tb j z)
      unfold fH
      have hja:¬j=a:=fun q=>e q.symm
      rw[if_neg hja,if_neg hja]
theorem Bp (y':ai)(hb:b<l.length)(hab:b≠a):(bC l a ta b tb).set b (fc y' tb)=bC (l.set b y') a ta b tb:=by
  have:=Ec (l:=l) (a:=a) (ta:=ta) (b:=b) (tb:=tb) y' hb
  rw[GN hab] at this;exact this
theorem NF (h:l[a]? =some y):(bC l a ta b tb)[a]? =some (gw y ta):=by rw[eY h,G3]
theorem Km (h:l[b]? =some y)(hab:b≠a):(bC l a ta b tb)[b]? =some (gw y tb):=by rw[eY h,GN hab]
end
@[reducible] def uh : bZ := ⟨2, 0, 0, 0, ByteArray.empty, false, false, ByteArray.empty, ByteArray.empty⟩
theorem EX {f:FuncId}{rest:List AV}{res:AV}{ks:List Int}(h:an Tryz.prog f [] (cN ks::rest) [] res)(hp:jO res=true)(hr:aV rest=true):
    an Tryz.prog f [bS ks] (.own 0 0 ks.length::rest) [bS ks] res:=
  an.Nb [(0,bS ks)] [0] (cW [bS ks]) h hp ⟨fq rfl rfl rfl rfl,aQ hr⟩
theorem NG {l:List ai}{m:Int}{a b i:Nat}{ka kb es ex:List Int}{ns:List bZ}{ya y:ai}{conn:Bool}{told:List bZ}(htold:told=if conn then es.map (jX uh) else[])(hL:l.length≤1000)(ha:l[a]? =some ya)(hb:∀z,l[b]? =some z→z.kids=kb)(hy:l[b]? =some y)(hna:b≠a)(hka:ya.kids=ka)(hp:y.parent=a)(hi:i<ka.length)(hk:ka.length≤1000)(he:es.length≤1000)(hn:ns.length≤100000)
    (h21:an Tryz.prog 35 [] [bF ⟨l,m⟩,ay b] [] (aX conn)) (h191:an Tryz.prog 34 [] [bF ⟨l,m⟩,ay b] [bS (es++ex)] (.own 0 0 es.length)) (h79:an Tryz.prog 73 [] [cN ka,ay b] [] (ay i))
    (h188:an Tryz.prog 145 [bS ka] [.own 0 0 ka.length,ay i,ay (i+1:Nat)] [.dead,bS (ka.take i++ka.drop (i+1))] (.own 1 0 (ka.take i++ka.drop (i+1)).length)):
    an Tryz.prog 79 [dg m l.length 4 (.own 3 0 ns.length),bS ka,bS kb,gP ns,cZ l a 1 b 2] [.ptr 0 0 0,ay b]
      [dg m l.length 4 (.own 6 0 (ns++told).length),.dead,bS kb,.dead,cZ ((l.set a {ya with kids:=ka.take i++ka.drop (i+1)}).set b {y with parent:=-1}) a 5 b 2,bS (ka.take i++ka.drop (i+1)),gP (ns++told)] (.tup []):=by
  have hal:=(br ha).1
  have hnl:=(br hy).1
  have hA:∀z,l[a]? =some z→z.kids=ka:=fun z hz=>by rw[ha] at hz;cases hz;exact hka
  have t21:=E7 (rest:=[ay b]) hA hb h21 rfl rfl
  have t164:=Lp (x:=uh) hA hb he hn h191
  have t79:=EX (rest:=[ay b]) h79 rfl rfl
  have hne:a≠b:=fun e=>hna e.symm
  obtain⟨k2,hk2⟩:∃k2,k2=ka.take i++ka.drop (i+1):=⟨_,rfl⟩
  rw[←hk2] at h188 ⊢
  have hrow:∀u,((bC l a 1 b 2).set a (fc {ya with kids:=k2} u)).set b (fc {y with parent:=-1} 2)=bC ((l.set a {ya with kids:=k2}).set b {y with parent:=-1}) a u b 2:=fun u=>by
    rw[BP _ hal,Bp _ (by rw[List.length_set];exact hnl) hna]
  have g1:(bC l a 1 b 2)[b]? =some (gw y 2):=Km hy hna
  have g2:(bC l a 1 b 2)[a]? =some (gw ya 1):=NF ha
  have g3:∀x,((bC l a 1 b 2).set a x)[b]? =some (gw y 2):=fun x=>by rw[List.getElem?_set,if_neg hne];exact g1
  have g4:∀x,((bC l a 1 b 2).set (0+a) x)[0+b]? =some (gw y 2):=fun x=>by rw[Nat.zero_add,Nat.zero_add];exact g3 x
  have hrow':((bC l a 1 b 2).set (0+a) (fc {ya with kids:=k2} 511)).set (0+b) (fc {y with parent:=-1} 2)=bC ((l.set a {ya with kids:=k2}).set b {y with parent:=-1}) a 511 b 2:=by rw[Nat.zero_add,Nat.zero_add];exact hrow 511
  have hlr:(bC l a 1 b 2).length=l.length:=bR
  obtain⟨y1,y2,y3,y4,y5,y6,y7,y8,y9,y10⟩:=y
  obtain⟨z1,z2,z3,z4,z5,z6,z7,z8,z9,z10⟩:=ya
  dsimp only at hp hka
  subst hp;subst hka
  have hpa:¬ ((a:Int)=-1):=by omega
  refine an.sS [(5,511)] (rvs:=[]) G aq Tryz.func79 rfl Tryz.ntmps79 rfl rfl ?_;with_reducible refine wD ?_
  (have fct:=hpa;(repeat' (first
    |refine pF ?_
    | ((first
      |((with_reducible show aL _ _ _ _);(refine aL.mk (fun hp=>?_) (fun hp=>?_)<;>(try simp only[ak,bH,dG,Bool.not_eq_true',Bool.not_eq_false',Decidable.not_not,Int.not_lt,Int.not_le] at hp)))
      |((with_reducible show gX _ _ _ _ _);first|refine gX.mk b rfl (by first|exact hnl|(simp;omega)) ?_|refine gX.mk a rfl (by first|exact hal|(simp;omega)) ?_)
      |((with_reducible show bE _ _ _ _ _);refine bE.mk _ (by first|exact g4 _|exact g1|exact g2|exact g3 _|(rw[Nat.zero_add];first|exact g1|exact g2|exact g3 _)) ?_)
      |((with_reducible show ah _ _ 35 _ _ _ _);refine ah.dw (news:=[cZ l a 1 b 2,bS z7,bS kb]) [4,1,2] [] t21 NM ⟨⟨⟨rfl,rfl⟩,rfl,trivial⟩,rfl,trivial⟩ ⟨⟨rfl,k8 (fun _=>rfl) (fun _=>rfl)⟩,⟨rfl,.inl ⟨rfl,ae _⟩⟩,⟨rfl,.inl ⟨rfl,ae _⟩⟩,trivial⟩ rfl ⟨⟨rfl,rfl⟩,rfl⟩ rfl ⟨⟨rfl,jr rfl rfl (by decide) (by decide)⟩,⟨rfl,.inl ⟨rfl,ae _⟩⟩,⟨rfl,.inl ⟨rfl,ae _⟩⟩,trivial⟩ rfl rfl ?_)
      |((with_reducible show ah _ _ 141 _ _ _ _);refine ah.dw (news:=[dg m l.length 4 (.own 133 0 (ns.length+es.length)),bS z7,bS kb,.dead,cZ l a 1 b 2,gP (ns++es.map (jX uh))]) [0,1,2,3,4,133] [] t164 Oi ⟨⟨rfl,rfl⟩,rfl,⟨rfl,rfl,rfl,rfl,rfl,rfl,rfl,rfl,rfl,trivial⟩,trivial⟩ ⟨⟨rfl,.inr ⟨⟨⟨⟨rfl,rfl⟩,rfl,⟨rfl,rfl⟩,trivial⟩,trivial⟩,rfl⟩⟩,⟨rfl,.inl ⟨rfl,ae _⟩⟩,⟨rfl,.inl ⟨rfl,ae _⟩⟩,⟨rfl,.inl ⟨rfl,bK _⟩⟩,⟨rfl,k8 (fun _=>rfl) (fun _=>rfl)⟩,trivial⟩ rfl ⟨⟨rfl,rfl⟩,rfl⟩ rfl ⟨⟨rfl,.inr ⟨rfl,rfl,rfl⟩⟩,⟨rfl,.inl ⟨rfl,ae _⟩⟩,⟨rfl,.inl ⟨rfl,ae _⟩⟩,⟨rfl,jr rfl rfl (by decide) (by decide)⟩,⟨rfl,.inl ⟨rfl,bK _⟩⟩,trivial⟩ rfl rfl ?_)
      |((with_reducible show ah _ _ 73 _ _ _ _);refine ah.dw (news:=[bS z7]) [1] [] t79 Ow ⟨⟨rfl,rfl⟩,rfl,trivial⟩ ⟨⟨rfl,.inl ⟨rfl,ae _⟩⟩,trivial⟩ rfl ⟨⟨rfl,rfl⟩,rfl⟩ rfl ⟨⟨rfl,.inl ⟨rfl,ae _⟩⟩,trivial⟩ rfl rfl ?_)
      |((with_reducible show ah _ _ 145 _ _ _ _);refine ah.dw (news:=[.dead,bS k2]) [1,511] [] h188 N7 ⟨⟨rfl,rfl⟩,rfl,by show((i+1:Nat):Int)=(i:Int)+1;omega,trivial⟩ ⟨⟨rfl,.inl ⟨rfl,ae _⟩⟩,trivial⟩ rfl ⟨⟨rfl,rfl⟩,rfl⟩ rfl ⟨⟨rfl,.inl ⟨rfl,ae _⟩⟩,trivial⟩ rfl rfl ?_)
      |((with_reducible show aH _ _ _ _);refine dK ?_))<;>with_reducible refine wK ?_)
    |((with_reducible show(_∧_)∧_∧_);(refine eK ?_ ?_<;>with_reducible repeat' (first|exact trivial|(show _∧_;refine aK ?_ ?_))))));all_goals clear fct)
  all_goals first
    |exact⟨.refl (ae _),ae _⟩
    |exact cast (congrArg (cH _ _) hrow'.symm) (cR (fun _=>rfl) (fun _=>rfl))
    | (have ht:told=es.map (jX uh):=by rw[htold,hp];rfl
       subst ht
       first|exact⟨.refl (bK _),bK _⟩|(simp;done))
    | (have ht:told=[]:=by rw[htold,hp];rfl
       subst ht
       first|exact cast (congrArg (fun z=>o3 _ z _) (show ns.map kE=(ns++ []).map kE by simp)) ⟨.refl (bK _),bK _⟩|(simp;done))
    |trace_state
end Go.Proofs.Heir
