/- Models, plain laws and contracts of functions of the given program; conditions as stated in each theorem. By an AI agent. -/
import Derived.Test.YtkhjcnjicjgfiaaGreatDoorW19
set_option linter.unusedSimpArgs false
set_option linter.unusedVariables false
section
namespace Go.Proofs.Heir
open Go Go.Am Go.RowKit Go.Lib
set_option maxRecDepth 100000
set_option maxHeartbeats 8000000
variable {l l' : List ai} {m : Int}
theorem NO (f:ForM)(a:Int)(ha:0≤a∧a<256):aj Tryz.prog 6 [] [aR f,.lit (.int .u8 a)] [] (bG true):=by
  have h26:=Cb
  have h16:=Dc f
  cases hsh:oV f with
  | false=>
    rw[hsh] at h16
    obtain⟨l,m⟩:=f
    refine aj.aD (rvs:=[.tmp 4]) G au Tryz.func6 rfl Tryz.ntmps6 rfl rfl ?_;with_reducible refine wD ?_
    repeat' (first|refine gK ?_|((first|((with_reducible show ae _ _ 26 _ _ _ _);refine ae.lit [] h26 s9 trivial rfl rfl ?_)|((with_reducible show ae _ _ 16 _ _ _ _);refine ae.lit [] h16 sM ⟨⟨rfl,rfl,trivial⟩,trivial⟩ rfl rfl ?_))<;>with_reducible refine wK ?_)|((with_reducible show(_∧_)∧_∧_);(refine eK ?_ ?_<;>with_reducible repeat' (first|exact trivial|(show _∧_;refine aK ?_ ?_)))))
    all_goals rfl
  | true =>
    rw[hsh] at h16
    have hs:=mF hsh
    have h17:=o4 f hs
    cases hr:bw f with
    | false=>
      rw[hr] at h17
      obtain⟨l,m⟩:=f
      refine aj.aD (rvs:=[.tmp 4]) G au Tryz.func6 rfl Tryz.ntmps6 rfl rfl ?_;with_reducible refine wD ?_
      repeat' (first|refine gK ?_|((first|((with_reducible show ae _ _ 26 _ _ _ _);refine ae.lit [] h26 s9 trivial rfl rfl ?_)|((with_reducible show ae _ _ 16 _ _ _ _);refine ae.lit [] h16 sM ⟨⟨rfl,rfl,trivial⟩,trivial⟩ rfl rfl ?_)|((with_reducible show ae _ _ 17 _ _ _ _);refine ae.lit [] h17 qy ⟨⟨rfl,rfl,trivial⟩,trivial⟩ rfl rfl ?_))<;>with_reducible refine wK ?_)|((with_reducible show(_∧_)∧_∧_);(refine eK ?_ ?_<;>with_reducible repeat' (first|exact trivial|(show _∧_;refine aK ?_ ?_)))))
      all_goals rfl
    | true =>
      rw[hr] at h17
      have hpos:1≤f.nodes.length:=by
        have h0:=hr
        unfold bw me at h0
        simp only[Bool.and_eq_true,decide_eq_true_eq] at h0
        exact h0.1.1.1.2
      have h33:=n5 f hs
      obtain⟨l,m⟩:=f
      have R:RF l m:=dI.1 hr
      simp only at hpos
      have h60:l.length≤60:=by
        have:=hsh;rw[qz] at this;simp only[Bool.and_eq_true,decide_eq_true_eq] at this;exact this.1
      have hlm:(l.map bM).length=l.length:=List.length_map ..
      obtain⟨i,x,hni,hx,hnx⟩:=tG (l:=l) (n:=a% ((l.map bM).length:Int)) (by rw[hlm];exact⟨Int.emod_nonneg _ (by omega),Int.emod_lt_of_pos _ (by omega)⟩)
      have ht:=eH hx
      have hcx:=cF hx
      have h32:=IF ⟨l,m⟩ hs (i:Int)
      by_cases hp:(nd l i).parent=-1
      · rw[ve R ht hp] at h32
        rw[hcx] at hp
        obtain⟨x1,x2,x3,x4,x5,x6,x7,x8,x9,x10⟩:=x
        have fp:=eq_true hp
        refine aj.aD (rvs:=[.tmp 4]) G au Tryz.func6 rfl Tryz.ntmps6 rfl rfl ?_;with_reducible refine wD ?_
        (have fct:=And.intro hlm (fp);(repeat' (first|refine gF ?_|((first|((with_reducible show ae _ _ 26 _ _ _ _);refine ae.lit [] h26 s9 trivial rfl rfl ?_)|((with_reducible show ae _ _ 16 _ _ _ _);refine ae.lit [] h16 sM ⟨⟨rfl,rfl,trivial⟩,trivial⟩ rfl rfl ?_)|((with_reducible show ae _ _ 17 _ _ _ _);refine ae.lit [] h17 qy ⟨⟨rfl,rfl,trivial⟩,trivial⟩ rfl rfl ?_)|(refine fJ.int (by kernel_rfl) (by kernel_rfl) (wrap_u8 ha) ?_)|(refine aZ.rem ha.1 (by(try simp only[az]);omega) rfl rfl rfl rfl ?_)|((with_reducible show aN _ _ _ _ _);refine aN.mk i (aL _) hni (ay hx) ?_)|((with_reducible show ae _ _ 32 _ _ _ _);rw[hni];refine ae.val [] h32 KN ⟨⟨rfl,rfl,trivial⟩,rfl,trivial⟩ rfl rfl rfl ?_)|((with_reducible show ae _ _ 33 _ _ _ _);refine ae.lit [] h33 vZ ⟨⟨rfl,rfl,trivial⟩,⟨rfl,rfl,trivial⟩,trivial⟩ rfl rfl ?_))<;>with_reducible refine wK ?_)|((with_reducible show(_∧_)∧_∧_);(refine eK ?_ ?_<;>with_reducible repeat' (first|exact trivial|(show _∧_;refine aK ?_ ?_))))));all_goals clear fct)
        all_goals first|rfl|trace_state
      · have hback:=Gk R ht hp
        have hrem:=pC R ht hp
        have R':=dS R ht
        have hlen:(bg l i).length=l.length:=cW ..
        have hs':bC (bg l i):=fm R' (by rw[hlen];exact h60)
        have hq:=R.par i ht hp
        rw[hrem] at h32
        have h29:=yD ⟨bg l i,m⟩ hs' (by rw[hlen];exact h60) i (nd l i).parent (bT (nd l (nd l i).parent).kids i)
        rw[hback] at h29
        have hns:=iD l m R ht (dL 2 0 0)
        have hms:=iD l m R ht (dL 1 0 0)
        rw[hns] at h32
        rw[hms] at h29
        have hel:=(jC R h60 ht).2
        have h34:=za R h60 ht
        have h35:=Ca R h60 ht
        generalize zP ⟨l,m⟩ i=es at*
        generalize OP ⟨l,m⟩ i=ex at*
        rw[hcx] at hp hq h29
        obtain⟨pn,y,hpn,hy,hny⟩:=aW.1 hq.2.1
        rw[hpn] at hq h29
        have hcy:=cF hy
        rw[hcy] at hq h29
        have hdup:y.kids.Nodup:=by rw[←hcy];exact R.dup pn (eH hy)
        have hykl:y.kids.length≤60:=hs.kids y (List.mem_of_getElem? hy)
        obtain⟨i0,hi0,hib,hno,_⟩:=j7 hq.2.2.2
        have hnx2:=ql hib hno
        rw[hnx2] at h29
        have hno2:∀ (j:Nat) z,y.kids[j]? =some z→j≠i0→z≠ (i:Int):=fun j z hz hne e=>by
          have h1:=(List.getElem?_eq_some_iff.1 hz)
          have h2:=(List.getElem?_eq_some_iff.1 hib)
          obtain⟨h1l,h1e⟩:=h1
          obtain⟨h2l,h2e⟩:=h2
          rcases Nat.lt_or_gt_of_ne hne with h|h
          ·exact(List.pairwise_iff_getElem.1 hdup) j i0 h1l h2l h (by rw[h1e,h2e,e])
          ·exact(List.pairwise_iff_getElem.1 hdup) i0 j h2l h1l h (by rw[h1e,h2e,e])
        clear hback hrem hns hms hq hdup hnx2 R'
        generalize bg l i=lg at*
        obtain⟨x1,x2,x3,x4,x5,x6,x7,x8,x9,x10⟩:=x
        obtain⟨y1,y2,y3,y4,y5,y6,y7,y8,y9,y10⟩:=y
        simp only at hp hpn hykl hi0 hib hno hno2 h29
        subst hpn
        have fp:=eq_false hp
        have hyl:(y7.map bt).length=y7.length:=List.length_map ..
        refine aj.aD (rvs:=[.tmp 4]) G au Tryz.func6 rfl Tryz.ntmps6 rfl rfl ?_;with_reducible refine wD ?_
        (have fct:=And.intro hlm (fp);(repeat' (first|refine gF ?_|((first|((with_reducible show ae _ _ 26 _ _ _ _);refine ae.lit [] h26 s9 trivial rfl rfl ?_)|((with_reducible show ae _ _ 16 _ _ _ _);refine ae.lit [] h16 sM ⟨⟨rfl,rfl,trivial⟩,trivial⟩ rfl rfl ?_)|((with_reducible show ae _ _ 17 _ _ _ _);refine ae.lit [] h17 qy ⟨⟨rfl,rfl,trivial⟩,trivial⟩ rfl rfl ?_)|(refine fJ.int (by kernel_rfl) (by kernel_rfl) (wrap_u8 ha) ?_)|(refine aZ.rem ha.1 (by(try simp only[az]);omega) rfl rfl rfl rfl ?_)|((with_reducible show aN _ _ _ _ _);refine aN.mk i (aL _) hni (ay hx) ?_)|((with_reducible show ae _ _ 32 _ _ _ _);rw[hni];refine ae.val [] h32 KN ⟨⟨rfl,rfl,trivial⟩,rfl,trivial⟩ rfl rfl rfl ?_)|((with_reducible show ae _ _ 33 _ _ _ _);refine ae.lit [] h33 vZ ⟨⟨rfl,rfl,trivial⟩,⟨rfl,rfl,trivial⟩,trivial⟩ rfl rfl ?_))<;>with_reducible refine wK ?_)|((with_reducible show(_∧_)∧_∧_);(refine eK ?_ ?_<;>with_reducible repeat' (first|exact trivial|(show _∧_;refine aK ?_ ?_))))));all_goals clear fct)
        refine bW.use G au (fun(j:Nat)=>[(2,.ptr 20 0 0),(5,ah i),(6,ah (pn:Int)),(7,.ptr 70 0 0),(8,lQ (if kY l i=true then es.map (di (dL 2 0 0)) else[])),(9,ah 0),(10,ah (if i0<j then(y7[i0+1]?).getD (-1) else-1)),(11,ah j)])
          (fun _=>[(20,.live 2 [aR ⟨l,m⟩] false),(70,.live 2 [aR ⟨lg,m⟩] false)]) (fun j=>j+1≤y7.length) (fun j=>y7.length-j) 0 (by omega) ?_ ?_
        · rw[show(if i0<0 then(y7[i0+1]?).getD (-1) else-1)=(-1:Int) from if_neg (by omega)]
          (refine fK ?_;(with_reducible repeat' (first|exact trivial|(show _∧_;refine aK ?_ ?_)));(all_goals try rfl))
          all_goals first|exact hni|exact⟨rfl,rfl⟩|rfl|trace_state
        intro j hj
        with_reducible refine wK ?_
        refine bH.mk (by(try simp only[az]);omega) ?_;with_reducible refine wK ?_
        refine aN.mk pn (aL _) rfl (ay hy) ?_;with_reducible refine wK ?_
        refine bq.mk (fun h1=>?_) (fun h1=>?_)<;>(try simp only[az] at h1)<;>with_reducible refine wK ?_
        · have hjl:j+1<y7.length:=by simp only[decide_eq_true_eq,az] at h1;omega
          obtain⟨z,hz⟩:∃z,y7[j]? =some z:=⟨_,List.getElem?_eq_getElem (by omega)⟩
          obtain⟨z2,hz2⟩:∃z,y7[j+1]? =some z:=⟨_,List.getElem?_eq_getElem (by omega)⟩
          by_cases e:j=i0
          · subst e
            have hzi:z=(i:Int):=by rw[hib] at hz;cases hz;rfl
            have fz:=eq_true hzi
            have hnew:(if j<j+1 then(y7[j+1]?).getD (-1) else-1)=z2:=by rw[if_pos (by omega),hz2];rfl
            (have fct:=And.intro hlm (fz);(repeat' (first|refine gF ?_|(((with_reducible show aN _ _ _ _ _);first|refine aN.mk pn (aL _) rfl (ay hy) ?_|refine aN.mk j (ah z) rfl (cR hz) ?_|refine aN.mk (j+1) (ah z2) (by first|rfl|(show((j:Int)+1)=((j+1:Nat):Int);omega)) (cR hz2) ?_)<;>with_reducible refine wK ?_)|((with_reducible show(_∧_)∧_∧_);(refine eK ?_ ?_<;>with_reducible repeat' (first|exact trivial|(show _∧_;refine aK ?_ ?_))))));all_goals clear fct)
            refine bZ.mk (j+1) (by omega) (by omega) ?_
            rw[hnew]
            (refine fK ?_;(with_reducible repeat' (first|exact trivial|(show _∧_;refine aK ?_ ?_)));(all_goals try rfl))
            all_goals first|exact⟨rfl,rfl⟩|rfl|(show((j+1:Nat):Int)=(j:Int)+1;omega)|trace_state
          · have hzi:z≠ (i:Int):=hno2 j z hz e
            have fz:=eq_false hzi
            have hnew:(if i0<j+1 then(y7[i0+1]?).getD (-1) else-1)=(if i0<j then(y7[i0+1]?).getD (-1) else-1):=by
              by_cases h:i0<j
              ·rw[if_pos h,if_pos (by omega)]
              ·rw[if_neg h,if_neg (by omega)]
            (have fct:=And.intro hlm (fz);(repeat' (first|refine gF ?_|(((with_reducible show aN _ _ _ _ _);first|refine aN.mk pn (aL _) rfl (ay hy) ?_|refine aN.mk j (ah z) rfl (cR hz) ?_|refine aN.mk (j+1) (ah z2) (by first|rfl|(show((j:Int)+1)=((j+1:Nat):Int);omega)) (cR hz2) ?_)<;>with_reducible refine wK ?_)|((with_reducible show(_∧_)∧_∧_);(refine eK ?_ ?_<;>with_reducible repeat' (first|exact trivial|(show _∧_;refine aK ?_ ?_))))));all_goals clear fct)
            refine bZ.mk (j+1) (by omega) (by omega) ?_
            rw[hnew]
            (refine fK ?_;(with_reducible repeat' (first|exact trivial|(show _∧_;refine aK ?_ ?_)));(all_goals try rfl))
            all_goals first|exact⟨rfl,rfl⟩|rfl|(show((j+1:Nat):Int)=(j:Int)+1;omega)|trace_state
        · have hje:j+1=y7.length:=by simp only[decide_eq_false_iff_not,az] at h1;omega
          have hnow:(if i0<j then(y7[i0+1]?).getD (-1) else-1)=(y7[i0+1]?).getD (-1):=by
            by_cases h:i0<j
            ·rw[if_pos h]
            ·rw[if_neg h,List.getElem?_eq_none (by omega)];rfl
          rw[hnow]
          generalize(y7[i0+1]?).getD (-1)=nx at*
          cases hc:kY l i with
          | false=>
            rw[hc] at h35 h29
            (have fct:=hlm;(repeat' (first|refine gF ?_|((first|((with_reducible show ae _ _ 29 _ _ _ _);refine ae.val [] h29 zI ⟨⟨rfl,rfl,trivial⟩,rfl,rfl,rfl,trivial⟩ rfl rfl rfl ?_)|((with_reducible show ae _ _ 33 _ _ _ _);refine ae.lit [] h33 vZ ⟨⟨rfl,rfl,trivial⟩,⟨rfl,rfl,trivial⟩,trivial⟩ rfl rfl ?_)|((with_reducible show ae _ _ 34 _ _ _ _);refine ae.new 1231 [] h34 OS ⟨⟨rfl,rfl,trivial⟩,rfl,trivial⟩ rfl rfl rfl (rH _) rfl ?_)|((with_reducible show ae _ _ 35 _ _ _ _);refine ae.lit [] h35 Lm ⟨⟨rfl,rfl,trivial⟩,rfl,trivial⟩ rfl rfl ?_)|((with_reducible show aI _ _ _ _);refine dK ?_))<;>with_reducible refine wK ?_)|((with_reducible show(_∧_)∧_∧_);(refine eK ?_ ?_<;>with_reducible repeat' (first|exact trivial|(show _∧_;refine aK ?_ ?_))))));all_goals clear fct)
            all_goals first|rfl|trace_state
          | true=>
            rw[hc] at h35 h29
            have hln:∀b,((es.map (di (dL b 0 0))).map gm).length=es.length:=fun b=>by rw[List.length_map,List.length_map]
            repeat' (first|refine gK ?_|((with_reducible show bq _ _ _ _);first|refine bq.no (by first|rfl|assumption|exact nf (by assumption)|exact nt (by assumption)|((try simp only[az]);first|(simp[hlm,hln 2,hln 1];done)|(simp[hlm,hln 2,hln 1];omega))) ?_|refine bq.yes (by first|rfl|assumption|exact nf (by assumption)|exact nt (by assumption)|((try simp only[az]);first|(simp[hlm,hln 2,hln 1];done)|(simp[hlm,hln 2,hln 1];omega))) ?_)<;>with_reducible refine wK ?_|((first|((with_reducible show ae _ _ 29 _ _ _ _);refine ae.val [] h29 zI ⟨⟨rfl,rfl,trivial⟩,rfl,rfl,rfl,trivial⟩ rfl rfl rfl ?_)|((with_reducible show ae _ _ 33 _ _ _ _);refine ae.lit [] h33 vZ ⟨⟨rfl,rfl,trivial⟩,⟨rfl,rfl,trivial⟩,trivial⟩ rfl rfl ?_)|((with_reducible show ae _ _ 34 _ _ _ _);refine ae.new 1231 [] h34 OS ⟨⟨rfl,rfl,trivial⟩,rfl,trivial⟩ rfl rfl rfl (rH _) rfl ?_)|((with_reducible show ae _ _ 35 _ _ _ _);refine ae.lit [] h35 Lm ⟨⟨rfl,rfl,trivial⟩,rfl,trivial⟩ rfl rfl ?_)|((with_reducible show aI _ _ _ _);refine dK ?_))<;>with_reducible refine wK ?_)|((with_reducible show(_∧_)∧_∧_);(refine eK ?_ ?_<;>with_reducible repeat' (first|exact trivial|(show _∧_;refine aK ?_ ?_)))))
            refine bW.use G au (fun(k:Nat)=>[(8,lQ (es.map (di (dL 2 0 0)))),(13,lQ (es.map (di (dL 1 0 0)))),(15,.own 1231 0 es.length),(16,ah k)]) (fun _=>[(1231,aF (es++ex))])
              (fun k=>k≤es.length) (fun k=>es.length-k) 0 (Nat.zero_le _) ?_ ?_
            · (refine fK ?_;(with_reducible repeat' (first|exact trivial|(show _∧_;refine aK ?_ ?_)));(all_goals try rfl))
              all_goals first|exact⟨.refl (aa _),aa _⟩|exact⟨rfl,rfl⟩|rfl|trace_state
            intro k hk
            with_reducible refine wK ?_
            refine bq.mk (fun h2=>?_) (fun h2=>?_)<;>(try simp only[az] at h2)<;>with_reducible refine wK ?_
            · have hkl:k<es.length:=by simp only[decide_eq_true_eq,az] at h2;omega
              obtain⟨e,he⟩:∃e,es[k]? =some e:=⟨_,List.getElem?_eq_getElem hkl⟩
              have hee:(es++ex)[k]? =some e:=by rw[List.getElem?_append_left hkl];exact he
              have hw:∀b,(es.map (di (dL b 0 0)))[k]? =some (di (dL b 0 0) e):=fun b=>by rw[List.getElem?_map,he];rfl
              (have fct:=hlm;(repeat' (first|refine gF ?_|((first|((with_reducible show eY _ _ _ _ _);refine eY.mk k rfl (by first|exact hkl|(simp;omega)) ?_)|((with_reducible show bh _ _ _ _ _);refine bh.mk (ah e) (by first|exact jL hee|(rw[Nat.zero_add];exact jL hee)) ?_)|((with_reducible show aN _ _ _ _ _);first|refine aN.mk k (je (di (dL 2 0 0) e)) rfl (Bx (hw 2)) ?_|refine aN.mk k (je (di (dL 1 0 0) e)) rfl (Bx (hw 1)) ?_)|((with_reducible show Hu _ _ _ _ _ _ _ _);first|refine Hu.mk _ (fun y z w=>xQ (di (dL 2 0 0) e) y z w) ?_|refine Hu.mk _ (fun y z w=>xQ (di (dL 1 0 0) e) y z w) ?_)|((with_reducible show aI _ _ _ _);refine dK ?_))<;>with_reducible refine wK ?_)|((with_reducible show(_∧_)∧_∧_);(refine eK ?_ ?_<;>with_reducible repeat' (first|exact trivial|(show _∧_;refine aK ?_ ?_))))));all_goals clear fct)
              refine bZ.mk (k+1) (by omega) (by omega) ?_
              (refine fK ?_;(with_reducible repeat' (first|exact trivial|(show _∧_;refine aK ?_ ?_)));(all_goals try rfl))
              all_goals first|exact⟨.refl (aa _),aa _⟩|exact⟨rfl,rfl⟩|rfl|(show((k+1:Nat):Int)=(k:Int)+1;omega)|trace_state
            · repeat' (first|refine gK ?_|((with_reducible show(_∧_)∧_∧_);(refine eK ?_ ?_<;>with_reducible repeat' (first|exact trivial|(show _∧_;refine aK ?_ ?_)))))
              all_goals first|rfl|trace_state
end Go.Proofs.Heir
end
