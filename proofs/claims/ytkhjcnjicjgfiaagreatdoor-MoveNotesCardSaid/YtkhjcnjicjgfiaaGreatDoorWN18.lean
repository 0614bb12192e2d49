/- Models, plain laws and contracts of functions of the given program; conditions as stated in each theorem. By an AI agent. -/
import Derived.Test.YtkhjcnjicjgfiaaGreatDoorWN14
set_option linter.unusedSimpArgs false
set_option linter.unusedVariables false
namespace Go.Proofs.Heir
open Go Go.Am Go.RowKit Go.Lib
set_option maxRecDepth 100000
set_option maxHeartbeats 8000000
@[reducible] def cu (l : List ai) : MS := .live 10 (l.map bF) false
@[reducible] def aL (most : Int) (n : Nat) (t : Nat) (notes : AV) : MS := .live 3 [.agg [.own t 0 n, ah most, notes]] false
theorem yg (x:ai):bz (bF x)=true:=by
  show bz (.agg [ah x.kind,bS x.name,bS x.is,bS x.data,cJ x.attrs,ah x.parent,cN x.kids,ah x.host,ah x.under,ah x.doc])=true
  have h1:br (x.attrs.map cV)=true:=iD cV (fun _=>rfl) _
  have h2:br (x.kids.map bU)=true:=iD bU (fun _=>rfl) _
  simp[bz,br,h1,h2]
theorem aF (l:List ai):br (l.map bF)=true:=iD bF yg l
theorem oL (l:List ai):jL [cu l]:=⟨bG.ja fun x hx=>by
  obtain⟨a,_,rfl⟩:=List.mem_map.1 hx;rfl,aF l,trivial⟩
theorem CF (l:List ai):kP (flat (l.map bF))=true:=kR bF (fun _=>rfl) l
theorem sO (l:List ai)(hl:l.length≤100000):ak Tryz.prog 137 [] [qD l] [cu l] (.own 0 0 l.length):=by
  have hlm:(l.map bF).length=l.length:=bW ..
  refine ak.aD (rvs:=[.tmp 2]) G au Tryz.func137 rfl Tryz.ntmps137 rfl rfl ?_;with_reducible refine wD ?_
  refine mO.mk (fun h=>?_) (fun _=>?_)<;>with_reducible refine wK ?_
  · obtain rfl:l=[]:=by simpa using h
    (refine eK ?_ ?_<;>with_reducible repeat' (first|exact trivial|(show _∧_;refine aK ?_ ?_)))
    all_goals first|rfl|trivial
  · refine iT.mk [] (l.map bF) ⟨rfl,rfl,rfl⟩ ⟨rfl,rfl,rfl⟩ (CF l) (by simp;omega) (by simp;omega) ?_;with_reducible refine wK ?_
    (refine eK ?_ ?_<;>with_reducible repeat' (first|exact trivial|(show _∧_;refine aK ?_ ?_)))
    ·exact hlm.symm
    ·exact bP (aF l)
theorem FT (l:List Int)(hl:l.length≤100000):ak Tryz.prog 72 [] [cN l] [] (cN l):=by
  have hlm:(l.map bU).length=l.length:=bW ..
  refine ak.aD (rvs:=[.tmp 2]) G au Tryz.func72 rfl Tryz.ntmps72 rfl rfl ?_;with_reducible refine wD ?_
  refine mO.mk (fun h=>?_) (fun _=>?_)<;>with_reducible refine wK ?_
  · obtain rfl:l=[]:=by simpa using h
    (refine eK ?_ ?_<;>with_reducible repeat' (first|exact trivial|(show _∧_;refine aK ?_ ?_)))
    all_goals first|rfl|exact .inr (.inr ⟨1,rfl⟩)|trace_state
  · refine iT.mk [] (l.map bU) ⟨rfl,rfl,rfl⟩ ⟨rfl,rfl,rfl⟩ (kR bU (fun _=>rfl) l) (by simp;omega) (by simp;omega) ?_;with_reducible refine wK ?_
    (refine eK ?_ ?_<;>with_reducible repeat' (first|exact trivial|(show _∧_;refine aK ?_ ?_)))
    all_goals first|exact cq rfl rfl rfl rfl|(refine cq rfl rfl ?_ ?_<;>simp)|trace_state
theorem sD (f:ForM)(hs:bw f.nodes):ak Tryz.prog 121 [] [aM f] [aL f.most f.nodes.length 1 (.lit (.slice none 0 0)),cu f.nodes] (.ptr 0 0 0):=by
  have h137:=sO f.nodes (by have:=hs.len;omega)
  have h60:=hs.len
  have h182:∀ (k:Nat) (y:ai),f.nodes[k]? =some y→ak Tryz.prog 72 [] [cN y.kids] [] (cN y.kids):=fun k y hy=>FT y.kids (by have:=hs.kids y (bO hy);omega)
  have hset:∀ (k:Nat) (y:ai),f.nodes[k]? =some y→f.nodes.set k y=f.nodes:=fun k y hy=>by
    apply List.ext_getElem?
    intro n
    rw[List.getElem?_set]
    by_cases e:k=n
    · subst e
      have:=(aY hy).1
      rw[if_pos rfl,if_pos this,hy]
    ·rw[if_neg e]
  have hlm:(f.nodes.map bF).length=f.nodes.length:=bW ..
  obtain⟨l,m⟩:=f
  simp only at h137 h60 h182 hset hlm
  refine ak.aD (rvs:=[.tmp 2]) G au Tryz.func121 rfl Tryz.ntmps121 rfl rfl ?_;with_reducible refine wD ?_
  repeat' (first
    |refine gK ?_
    | ((first
      |((with_reducible show af _ _ 137 _ _ _ _);refine af.new 71 [] h137 I5 ⟨rfl,trivial⟩ rfl rfl rfl (oL l) rfl ?_)
      |((with_reducible show aI _ _ _ _);refine dK ?_))<;>with_reducible refine wK ?_)
    |((with_reducible show(_∧_)∧_∧_);(refine eK ?_ ?_<;>with_reducible repeat' (first|exact trivial|(show _∧_;refine aK ?_ ?_)))))
  refine bX.use G au (fun(k:Nat)=>[(3,.ptr 120 0 0),(18,ah l.length),(19,ah k)])
    (fun _=>[(120,aL m l.length 71 (.lit (.slice none 0 0))),(71,cu l)])
    (fun k=>k≤l.length) (fun k=>l.length-k) 0 (Nat.zero_le _) ?_ ?_
  · (refine fK ?_;(with_reducible repeat' (first|exact trivial|(show _∧_;refine aK ?_ ?_)));(all_goals try rfl))
    all_goals first
      |exact⟨.refl rfl,rfl⟩
      |exact .inl rfl
      |exact⟨.refl (aF _),aF _⟩
      |trace_state
  intro k hk
  with_reducible refine wK ?_
  refine aX.mk (fun h1=>?_) (fun h1=>?_)<;>(try simp only[ay] at h1)<;>with_reducible refine wK ?_
  · have hkl:k<l.length:=by simp only[bH,ay] at h1;omega
    obtain⟨y,hy⟩:∃y,l[k]? =some y:=⟨_,bD hkl⟩
    have h182k:=h182 k y hy
    have hrow:(l.map bF).set (0+k) (bF y)=l.map bF:=by
      rw[Nat.zero_add,←List.map_set,hset k y hy]
    obtain⟨y1,y2,y3,y4,y5,y6,y7,y8,y9,y10⟩:=y
    simp only at h182k
    repeat' (first
    |refine gK ?_
    | ((first
      |((with_reducible show ee _ _ _ _ _);refine ee.mk k rfl hkl ?_)
      |((with_reducible show aT _ _ _ _ _);first|refine aT.mk (aP ⟨y1,y2,y3,y4,y5,y6,y7,y8,y9,y10⟩) (by first|exact aB hy|(rw[Nat.zero_add];exact aB hy)) ?_|refine aT.mk _ rfl ?_)
      |((with_reducible show af _ _ 72 _ _ _ _);refine af.val [] h182k Gj ⟨rfl,trivial⟩ rfl rfl rfl ?_)
      |((with_reducible show aI _ _ _ _);refine dK ?_))<;>with_reducible refine wK ?_)
    |((with_reducible show(_∧_)∧_∧_);(refine eK ?_ ?_<;>with_reducible repeat' (first|exact trivial|(show _∧_;refine aK ?_ ?_)))))
    refine bR.mk (k+1) (by omega) (by omega) ?_
    (refine fK ?_;(with_reducible repeat' (first|exact trivial|(show _∧_;refine aK ?_ ?_)));(all_goals try rfl))
    all_goals first
      |exact⟨.refl rfl,rfl⟩
      |exact .inl rfl
      |exact⟨.refl (aF _),aF _⟩
      |(refine cast (congrArg (qx _ _) hrow.symm) ?_;exact⟨.refl (aF _),aF _⟩)
      |(simp;done)
      |trace_state
  · have hjl:k=l.length:=by simp only[cR,ay] at h1;omega
    subst hjl
    repeat' (first
    |refine gK ?_
    |(((with_reducible show aI _ _ _ _);refine dK ?_)<;>with_reducible refine wK ?_)
    |((with_reducible show(_∧_)∧_∧_);(refine eK ?_ ?_<;>with_reducible repeat' (first|exact trivial|(show _∧_;refine aK ?_ ?_)))))
    all_goals first|rfl|exact .inl rfl|exact⟨.refl (aF _),aF _⟩|trace_state
end Go.Proofs.Heir
