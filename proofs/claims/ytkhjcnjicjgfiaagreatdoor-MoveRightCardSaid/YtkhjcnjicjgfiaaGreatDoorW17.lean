/- Models, plain laws and contracts of functions of the given program; conditions as stated in each theorem. By an AI agent. -/
import Derived.Test.YtkhjcnjicjgfiaaGreatDoorW15
set_option linter.unusedSimpArgs false
set_option linter.unusedVariables false
namespace Go.Proofs.Heir
open Go Go.Am Go.RowKit Go.Lib
set_option maxRecDepth 100000
set_option maxHeartbeats 8000000
@[reducible] def ef (l : List ai) : MS := .live 10 (l.map bM) false
@[reducible] def aT (most : Int) (n : Nat) (t : Nat) (notes : AV) : MS := .live 3 [.agg [.own t 0 n, ah most, notes]] false
theorem zI (x:ai):bG (bM x)=true:=by
  show bG (.agg [ah x.kind,cn x.name,cn x.is,cn x.data,cO x.attrs,ah x.parent,bY x.kids,ah x.host,ah x.under,ah x.doc])=true
  have h1:bz (x.attrs.map dn)=true:=gJ dn (fun _=>rfl) _
  have h2:bz (x.kids.map bJ)=true:=gJ bJ (fun _=>rfl) _
  simp[bG,bz,h1,h2]
theorem aQ (l:List ai):bz (l.map bM)=true:=gJ bM zI l
theorem oB (l:List ai):jT [ef l]:=⟨bS.jj fun x hx=>by
  obtain⟨a,_,rfl⟩:=List.mem_map.1 hx;rfl,aQ l,trivial⟩
theorem vR (l:List ai):kW (flat (l.map bM))=true:=kX bM (fun _=>rfl) l
theorem sS (l:List ai)(hl:l.length≤100000):aj Tryz.prog 137 [] [oU l] [ef l] (.own 0 0 l.length):=by
  have hlm:(l.map bM).length=l.length:=bP ..
  refine aj.aA (rvs:=[.tmp 2]) G ak Tryz.func137 rfl Tryz.ntmps137 rfl rfl ?_;with_reducible refine wD ?_
  refine nD.mk (fun h=>?_) (fun _=>?_)<;>with_reducible refine wK ?_
  · obtain rfl:l=[]:=by simpa using h
    (refine eK ?_ ?_<;>with_reducible repeat' (first|exact trivial|(show _∧_;refine aK ?_ ?_)))
    all_goals first|rfl|trivial
  · refine dO.mk [] (l.map bM) ⟨rfl,rfl,rfl⟩ ⟨rfl,rfl,rfl⟩ (vR l) (by simp;omega) (by simp;omega) ?_;with_reducible refine wK ?_
    (refine eK ?_ ?_<;>with_reducible repeat' (first|exact trivial|(show _∧_;refine aK ?_ ?_)))
    ·exact hlm.symm
    ·exact cq (aQ l)
theorem EM (l:List Int)(hl:l.length≤100000):aj Tryz.prog 72 [] [bY l] [] (bY l):=by
  have hlm:(l.map bJ).length=l.length:=bP ..
  refine aj.aA (rvs:=[.tmp 2]) G ak Tryz.func72 rfl Tryz.ntmps72 rfl rfl ?_;with_reducible refine wD ?_
  refine nD.mk (fun h=>?_) (fun _=>?_)<;>with_reducible refine wK ?_
  · obtain rfl:l=[]:=by simpa using h
    (refine eK ?_ ?_<;>with_reducible repeat' (first|exact trivial|(show _∧_;refine aK ?_ ?_)))
    all_goals first|rfl|exact .inr (.inr ⟨1,rfl⟩)|trace_state
  · refine dO.mk [] (l.map bJ) ⟨rfl,rfl,rfl⟩ ⟨rfl,rfl,rfl⟩ (kX bJ (fun _=>rfl) l) (by simp;omega) (by simp;omega) ?_;with_reducible refine wK ?_
    (refine eK ?_ ?_<;>with_reducible repeat' (first|exact trivial|(show _∧_;refine aK ?_ ?_)))
    all_goals first|exact bX rfl rfl rfl rfl|(refine bX rfl rfl ?_ ?_<;>simp)|trace_state
theorem xM (f:ForM)(hs:bq f.nodes):aj Tryz.prog 121 [] [aN f] [aT f.most f.nodes.length 1 (.lit (.slice none 0 0)),ef f.nodes] (.ptr 0 0 0):=by
  have h137:=sS f.nodes (by have:=hs.len;omega)
  have h60:=hs.len
  have h182:∀ (k:Nat) (y:ai),f.nodes[k]? =some y→aj Tryz.prog 72 [] [bY y.kids] [] (bY y.kids):=fun k y hy=>EM y.kids (by have:=hs.kids y (bV hy);omega)
  have hset:∀ (k:Nat) (y:ai),f.nodes[k]? =some y→f.nodes.set k y=f.nodes:=fun k y hy=>by
    apply List.ext_getElem?
    intro n
    rw[List.getElem?_set]
    by_cases e:k=n
    · subst e
      have:=(aZ hy).1
      rw[if_pos rfl,if_pos this,hy]
    ·rw[if_neg e]
  have hlm:(f.nodes.map bM).length=f.nodes.length:=bP ..
  obtain⟨l,m⟩:=f
  simp only at h137 h60 h182 hset hlm
  refine aj.aA (rvs:=[.tmp 2]) G ak Tryz.func121 rfl Tryz.ntmps121 rfl rfl ?_;with_reducible refine wD ?_
  repeat' (first
    |refine gK ?_
    | ((first
      |((with_reducible show ae _ _ 137 _ _ _ _);refine ae.new 71 [] h137 Jp ⟨rfl,trivial⟩ rfl rfl rfl (oB l) rfl ?_)
      |((with_reducible show aB _ _ _ _);refine dK ?_))<;>with_reducible refine wK ?_)
    |((with_reducible show(_∧_)∧_∧_);(refine eK ?_ ?_<;>with_reducible repeat' (first|exact trivial|(show _∧_;refine aK ?_ ?_)))))
  refine bE.use G ak (fun(k:Nat)=>[(3,.ptr 120 0 0),(18,ah l.length),(19,ah k)])
    (fun _=>[(120,aT m l.length 71 (.lit (.slice none 0 0))),(71,ef l)])
    (fun k=>k≤l.length) (fun k=>l.length-k) 0 (Nat.zero_le _) ?_ ?_
  · (refine fK ?_;(with_reducible repeat' (first|exact trivial|(show _∧_;refine aK ?_ ?_)));(all_goals try rfl))
    all_goals first
      |exact⟨.refl rfl,rfl⟩
      |exact .inl rfl
      |exact⟨.refl (aQ _),aQ _⟩
      |trace_state
  intro k hk
  with_reducible refine wK ?_
  refine aM.mk (fun h1=>?_) (fun h1=>?_)<;>(try simp only[aq] at h1)<;>with_reducible refine wK ?_
  · have hkl:k<l.length:=by simp only[aP,aq] at h1;omega
    obtain⟨y,hy⟩:∃y,l[k]? =some y:=⟨_,bH hkl⟩
    have h182k:=h182 k y hy
    have hrow:(l.map bM).set (0+k) (bM y)=l.map bM:=by
      rw[Nat.zero_add,←List.map_set,hset k y hy]
    obtain⟨y1,y2,y3,y4,y5,y6,y7,y8,y9,y10⟩:=y
    simp only at h182k
    repeat' (first
    |refine gK ?_
    | ((first
      |((with_reducible show fM _ _ _ _ _);refine fM.mk k rfl hkl ?_)
      |((with_reducible show bu _ _ _ _ _);first|refine bu.mk (aG ⟨y1,y2,y3,y4,y5,y6,y7,y8,y9,y10⟩) (by first|exact az hy|(rw[Nat.zero_add];exact az hy)) ?_|refine bu.mk _ rfl ?_)
      |((with_reducible show ae _ _ 72 _ _ _ _);refine ae.val [] h182k Gs ⟨rfl,trivial⟩ rfl rfl rfl ?_)
      |((with_reducible show aB _ _ _ _);refine dK ?_))<;>with_reducible refine wK ?_)
    |((with_reducible show(_∧_)∧_∧_);(refine eK ?_ ?_<;>with_reducible repeat' (first|exact trivial|(show _∧_;refine aK ?_ ?_)))))
    refine aW.mk (k+1) (by omega) (by omega) ?_
    (refine fK ?_;(with_reducible repeat' (first|exact trivial|(show _∧_;refine aK ?_ ?_)));(all_goals try rfl))
    all_goals first
      |exact⟨.refl rfl,rfl⟩
      |exact .inl rfl
      |exact⟨.refl (aQ _),aQ _⟩
      |(refine cast (congrArg (qK _ _) hrow.symm) ?_;exact⟨.refl (aQ _),aQ _⟩)
      |(simp;done)
      |trace_state
  · have hjl:k=l.length:=by simp only[cj,aq] at h1;omega
    subst hjl
    repeat' (first
    |refine gK ?_
    |(((with_reducible show aB _ _ _ _);refine dK ?_)<;>with_reducible refine wK ?_)
    |((with_reducible show(_∧_)∧_∧_);(refine eK ?_ ?_<;>with_reducible repeat' (first|exact trivial|(show _∧_;refine aK ?_ ?_)))))
    all_goals first|rfl|exact .inl rfl|exact⟨.refl (aQ _),aQ _⟩|trace_state
end Go.Proofs.Heir
