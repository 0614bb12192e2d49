/- Models, plain laws and contracts of functions of the given program; conditions as stated in each theorem. By an AI agent. -/
import Derived.Test.YtkhjcnjicjgfiaaGreatDoorW19
import Derived.Test.YtkhjcnjicjgfiaaGreatDoorW7
import Derived.Test.YtkhjcnjicjgfiaaGreatDoorW6
import Derived.Test.YtkhjcnjicjgfiaaGreatDoorW4
set_option linter.unusedSimpArgs false
set_option linter.unusedVariables false
section
namespace Go.Proofs.Heir
open Go Go.Am Go.RowKit Go.Lib
set_option maxRecDepth 100000
set_option maxHeartbeats 8000000
variable {l l' : List ai} {m : Int}
theorem IS (R:RF l m)(t:List aQ){n p b:Int}(C:oR l n p b):(nd (dA (l,t) n p b).1 p).kids=sW (nd l p).kids (cr l n) b:=by
  have hne:n≠p:=fun e=>C.w (by rw[e];exact U.cI R.tree C.tp)
  rw[(AR R t C).1,want_eq (R.dup p C.tp)]
  rcases C.ab with h|h
  ·exact .inl ⟨h,fun q=>jO R C.tp (-1) q rfl⟩
  · refine .inr ⟨jO R C.tp b h.2,h.2,fun q=>?_⟩
    by_cases h3:(nd l n).kind=3
    · unfold cr at q
      rw[if_pos h3] at q
      exact hne ((R.kid n C.tn b q).2.1.symm.trans (R.kid p C.tp b h.2).2.1)
    · rw[gC h3] at q
      exact h.1 (List.mem_singleton.1 q)
def wT (ks parts:List Int)(b:Int)(u:Nat):List Int:=(ks.take u).flatMap fun k=>(if k=b then parts else[])++ (if gR parts k=true then[] else[k])
theorem J3 {ks parts:List Int}{b:Int}{u:Nat}{z:Int}(h:ks[u]? =some z):wT ks parts b (u+1)=wT ks parts b u++ ((if z=b then parts else[])++ (if gR parts z=true then[] else[z])):=by
  unfold wT;rw[List.take_add_one,h,List.flatMap_append]
  congr 1
  exact List.append_nil _
theorem GW (parts:List Int)(b:Int):∀cs:List Int,(cs.flatMap fun k=>(if k=b then parts else[])++ (if gR parts k=true then[] else[k])).length≤cs.length* (parts.length+1)
  |[]=>Nat.zero_le _
  | a::r=>by
    rw[List.flatMap_cons,List.length_append,List.length_append,List.length_cons,Nat.succ_mul]
    have:=GW parts b r
    have h1:(if a=b then parts else[]).length≤parts.length:=by split<;>simp
    have h2:(if gR parts a=true then[] else[a]).length≤1:=by split<;>simp
    omega
theorem Na {ks parts:List Int}{b:Int}{u:Nat}(hk:ks.length≤60)(hp:parts.length≤60):(wT ks parts b u).length≤3660:=by
  have h1:=GW parts b (ks.take u)
  have h2:(ks.take u).length≤60:=by rw[List.length_take];omega
  have h3:=Nat.mul_le_mul h2 (show parts.length+1≤61 by omega)
  exact Nat.le_trans h1 h3
theorem Nf (ks parts:List Int)(b:Int):wT ks parts b ks.length++ (if b=-1 then parts else[])=sW ks parts b:=by unfold wT sW;rw[List.take_length]
theorem HE (R:RF l m){k p:Int}(hk:af l k=true)(hp:af l p=true)(hpar:(nd l k).parent=p):∃ns,iv ⟨l,m⟩ k=(⟨bg l k,m⟩,ns,0)∧(nd (bg l k) k).parent=-1∧(nd (bg l k) p).kids=(nd l p).kids.erase k∧(bg l k).length=l.length:=by
  have hne:(nd l k).parent≠-1:=by rw[hpar];have:=bf hp;omega
  refine⟨_,pC R hk hne,?_,?_,cW ..⟩
  ·rw[(dR R hk k hk).2.2.1,if_pos rfl]
  ·rw[(dR R hk p hp).2.2.2,if_pos hpar.symm]
theorem IW (l:List Int):Ak [(0,aF l)]=true:=by
  unfold Ak
  simp only[List.all_cons,List.all_nil,Bool.and_true]
  unfold Lp
  rw[List.all_eq_true]
  intro r hr
  obtain⟨z,_,rfl⟩:=List.mem_map.1 hr
  rfl
theorem Mw (f:ForM)(hs:bC f.nodes)(n:Nat)(y:ai)(hy:f.nodes[n]? =some y)(hr:bw f=true):aj Tryz.prog 27 [] [aR f,ah n] [] (cq (cr f.nodes n)):=
  aj.frozen [(0,aF (cr f.nodes n))] (dX [aF (cr f.nodes n)]) (IW _) (zE f hs n y hy hr) (bY rfl rfl rfl rfl)
theorem dm {tab:List (Nat×Nat)}{fz:Nat→Bool}{m:ML}{n:Nat}{A:List AV}{ks:List Int}(h:A=ks.map bt):tu (MF tab fz m n) (ks.map bt) A:=by
  subst h;exact⟨.refl (aa _),aa _⟩
theorem ow {l:List ai}{k:Nat}(h:af l (k:Int)=true):∃x,l[k]? =some x∧nd l (k:Int)=x:=by
  obtain⟨i,x,e,hx,hn⟩:=aW.1 h
  have e':k=i:=by omega
  subst e'
  exact⟨x,hx,hn⟩
theorem Ny (f:ForM)(a b c:Int)(last:Bool)(ha:0≤a∧a<256)(hb:0≤b∧b<256)(hc:0≤c∧c<256):aj Tryz.prog 5 [] [aR f,.lit (.int .u8 a),.lit (.int .u8 b),.lit (.int .u8 c),bG last] [] (bG true):=by
  have h26:=Cb
  have h16:=Dc f
  cases hsh:oV f with
  | false=>
    rw[hsh] at h16
    obtain⟨l,m⟩:=f
    refine aj.aD (rvs:=[.tmp 10]) G au Tryz.func5 rfl Tryz.ntmps5 rfl rfl ?_;with_reducible refine wD ?_
    repeat' (first|refine gK ?_|((first|((with_reducible show ae _ _ 26 _ _ _ _);refine ae.lit [] h26 s9 trivial rfl rfl ?_)|((with_reducible show ae _ _ 16 _ _ _ _);refine ae.lit [] h16 sM ⟨⟨rfl,rfl,trivial⟩,trivial⟩ rfl rfl ?_))<;>with_reducible refine wK ?_)|((with_reducible show(_∧_)∧_∧_);(refine eK ?_ ?_<;>with_reducible repeat' (first|exact trivial|(show _∧_;refine aK ?_ ?_)))))
    all_goals rfl
  | true =>
    rw[hsh] at h16
    have hs:=mF hsh
    have h17:=o4 f hs
    cases hr:bw f with
    | false=>
      rw[hr] at h17
      obtain⟨l,m⟩:=f
      refine aj.aD (rvs:=[.tmp 10]) G au Tryz.func5 rfl Tryz.ntmps5 rfl rfl ?_;with_reducible refine wD ?_
      repeat' (first|refine gK ?_|((first|((with_reducible show ae _ _ 26 _ _ _ _);refine ae.lit [] h26 s9 trivial rfl rfl ?_)|((with_reducible show ae _ _ 16 _ _ _ _);refine ae.lit [] h16 sM ⟨⟨rfl,rfl,trivial⟩,trivial⟩ rfl rfl ?_)|((with_reducible show ae _ _ 17 _ _ _ _);refine ae.lit [] h17 qy ⟨⟨rfl,rfl,trivial⟩,trivial⟩ rfl rfl ?_))<;>with_reducible refine wK ?_)|((with_reducible show(_∧_)∧_∧_);(refine eK ?_ ?_<;>with_reducible repeat' (first|exact trivial|(show _∧_;refine aK ?_ ?_)))))
      all_goals rfl
    | true =>
      rw[hr] at h17
      have hpos:1≤f.nodes.length:=by
        have h0:=hr
        unfold bw me at h0
        simp only[Bool.and_eq_true,decide_eq_true_eq] at h0
        exact h0.1.1.1.2
      obtain⟨l,m⟩:=f
      have R:RF l m:=dI.1 hr
      simp only at hpos
      have h60:l.length≤60:=by
        have:=hsh;rw[qz] at this;simp only[Bool.and_eq_true,decide_eq_true_eq] at this;exact this.1
      have hlm:(l.map bM).length=l.length:=List.length_map ..
      obtain⟨i,x,hni,hx,hnx⟩:=tG (l:=l) (n:=a% ((l.map bM).length:Int)) (by rw[hlm];exact⟨Int.emod_nonneg _ (by omega),Int.emod_lt_of_pos _ (by omega)⟩)
      obtain⟨j,y,hnj,hy,hny⟩:=tG (l:=l) (n:=b% ((l.map bM).length:Int)) (by rw[hlm];exact⟨Int.emod_nonneg _ (by omega),Int.emod_lt_of_pos _ (by omega)⟩)
      have ht:=eH hx
      have htp:=eH hy
      have hcx:=cF hx
      have hcy:=cF hy
      have hykl:y.kids.length≤60:=hs.kids y (List.mem_of_getElem? hy)
      have hkt:∀ (z:Int),z∈y.kids→af l z=true:=fun z hz=>(R.kid j htp z (by rw[hcy];exact hz)).1
      have h27:=Mw ⟨l,m⟩ hs i x hx hr
      have hpl:(cr l i).length≤60:=by
        unfold cr
        split
        ·rw[hcx];exact hs.kids x (List.mem_of_getElem? hx)
        ·simp
      -- behind the child
      have key:∀ (child:Int),(child=-1∨af l child=true)→(ni ⟨l,m⟩ i j child≠0∧eL ⟨l,m⟩ i j child=(⟨l,m⟩,[],ni ⟨l,m⟩ i j child))∨
          (∃ (gl:List ai) (ns:List aQ),eL ⟨l,m⟩ i j child=(⟨gl,m⟩,ns,0)∧RF gl m∧gl.length=l.length∧(nd gl j).kids=sW y.kids (cr l i) (dW ⟨l,m⟩ i j child)∧((nd l i).kind=3→(nd gl i).kids=[])∧
            (∀k∈cr l i,af gl k=true∧(nd gl k).parent=j)):=by
        intro child hch
        by_cases e0:ni ⟨l,m⟩ i j child=0
        · have C:=Dg R ht htp hch (by rw[←qN R ht htp hch];exact e0)
          have hbef:dW ⟨l,m⟩ i j child=if child≠i then child else bT (nd l j).kids i:=by unfold dW;rw[if_neg (fun q=>q e0)]
          rw[←hbef] at C
          have hR:=sj R [] C
          have K:=AR R [] C
          refine .inr ⟨(dA (l,[]) i j (dW ⟨l,m⟩ i j child)).1,(dA (l,[]) i j (dW ⟨l,m⟩ i j child)).2,by unfold eL;rw[if_pos e0],hR.1,hR.2,by rw[←hcy];exact IS R [] C,K.2.2.1,fun k hk=>⟨?_,(K.2.1 k hk).2⟩⟩
          rw[aY hR.2];exact(K.2.1 k hk).1
        ·exact .inl ⟨e0,rV e0⟩
      have h28:=fun c=>Iv ⟨l,m⟩ hs i j c
      have h30:=fun c=>C6 ⟨l,m⟩ hs i j c
      have h29:=fun c=>yD ⟨l,m⟩ hs h60 i j c
      have h31:=fun z=>uG (cr l i) (by omega) z
      rw[hcx] at key
      generalize cr l i=parts at*
      generalize dW ⟨l,m⟩ i j=bef at*
      obtain⟨x1,x2,x3,x4,x5,x6,x7,x8,x9,x10⟩:=x
      obtain⟨y1,y2,y3,y4,y5,y6,y7,y8,y9,y10⟩:=y
      simp only at hykl hkt key
      have hyl:(y7.map bt).length=y7.length:=List.length_map ..
      obtain ⟨child,hct,hcase⟩:∃child:Int,(child=-1∨af l child=true)∧((¬0< (y7.length:Int)∧child=-1)∨(0< (y7.length:Int)∧last=true∧child=-1)∨(0< (y7.length:Int)∧last=false∧∃ci:Nat,c% ((y7.map bt).length:Int)=(ci:Int)∧y7[ci]? =some child)):=by
        by_cases h0:0< (y7.length:Int)
        · cases last with
          |true=>exact⟨-1,.inl rfl,.inr (.inl ⟨h0,rfl,rfl⟩)⟩
          | false=>
            have hm1:=Int.emod_nonneg c (show(y7.length:Int)≠0 by omega)
            have hm2:=Int.emod_lt_of_pos c (show 0< (y7.length:Int) by omega)
            have hcl:(c% (y7.length:Int)).toNat<y7.length:=by omega
            exact⟨_,.inr (hkt _ (List.getElem_mem hcl)),.inr (.inr ⟨h0,rfl,(c% (y7.length:Int)).toNat,by rw[hyl];omega,List.getElem?_eq_getElem hcl⟩)⟩
        ·exact⟨-1,.inl rfl,.inl ⟨h0,rfl⟩⟩
      have h28:=h28 child
      have h29:=h29 child
      have h30:=h30 child
      rcases key child hct with⟨he,hk1⟩|⟨gl,ns,hk1,hR1,hlen,hkids,hfrag,hparts⟩
      · rw [hk1] at h29
        have fe:=eq_false he
        rcases hcase with⟨h0,rfl⟩|⟨h0,rfl,rfl⟩|⟨h0,rfl,ci,hci,hch⟩
        · have hz0:y7.length=0:=by omega
          refine aj.aD (rvs:=[.tmp 10]) G au Tryz.func5 rfl Tryz.ntmps5 rfl rfl ?_;with_reducible refine wD ?_
          (have fct:=And.intro hlm (And.intro hyl (And.intro hz0 (fe)));(repeat' (first|refine gF ?_|((first|((with_reducible show ae _ _ 26 _ _ _ _);refine ae.lit [] h26 s9 trivial rfl rfl ?_)|((with_reducible show ae _ _ 16 _ _ _ _);refine ae.lit [] h16 sM ⟨⟨rfl,rfl,trivial⟩,trivial⟩ rfl rfl ?_)|((with_reducible show ae _ _ 17 _ _ _ _);refine ae.lit [] h17 qy ⟨⟨rfl,rfl,trivial⟩,trivial⟩ rfl rfl ?_)|(refine fJ.int (by kernel_rfl) (by kernel_rfl) (wrap_u8 (by assumption)) ?_)|(refine aZ.rem (by omega) (by(try simp only[az]);omega) rfl rfl rfl rfl ?_)|((with_reducible show aN _ _ _ _ _);first|refine aN.mk j (aL _) hnj (ay hy) ?_|refine aN.mk i (aL _) hni (ay hx) ?_)|((with_reducible show ae _ _ 27 _ _ _ _);(try rw[hni]);(try rw[hnj]);refine ae.val [] h27 Jd ⟨⟨rfl,rfl,trivial⟩,rfl,trivial⟩ rfl rfl rfl ?_)|((with_reducible show ae _ _ 28 _ _ _ _);(try rw[hni]);(try rw[hnj]);refine ae.lit [] h28 Ls ⟨⟨rfl,rfl,trivial⟩,rfl,rfl,rfl,trivial⟩ rfl rfl ?_)|((with_reducible show ae _ _ 29 _ _ _ _);(try rw[hni]);(try rw[hnj]);refine ae.val [] h29 zI ⟨⟨rfl,rfl,trivial⟩,rfl,rfl,rfl,trivial⟩ rfl rfl rfl ?_)|((with_reducible show ae _ _ 30 _ _ _ _);(try rw[hni]);(try rw[hnj]);refine ae.lit [] h30 Fo ⟨⟨rfl,rfl,trivial⟩,rfl,rfl,rfl,trivial⟩ rfl rfl ?_)|((with_reducible show aI _ _ _ _);refine dK ?_))<;>with_reducible refine wK ?_)|((with_reducible show(_∧_)∧_∧_);(refine eK ?_ ?_<;>with_reducible repeat' (first|exact trivial|(show _∧_;refine aK ?_ ?_))))));all_goals clear fct)
          all_goals first|rfl|exact(decide_eq_true rfl).symm|trace_state
        · have fc:=eq_true h0
          refine aj.aD (rvs:=[.tmp 10]) G au Tryz.func5 rfl Tryz.ntmps5 rfl rfl ?_;with_reducible refine wD ?_
          (have fct:=And.intro hlm (And.intro hyl (And.intro fc (fe)));(repeat' (first|refine gF ?_|((first|((with_reducible show ae _ _ 26 _ _ _ _);refine ae.lit [] h26 s9 trivial rfl rfl ?_)|((with_reducible show ae _ _ 16 _ _ _ _);refine ae.lit [] h16 sM ⟨⟨rfl,rfl,trivial⟩,trivial⟩ rfl rfl ?_)|((with_reducible show ae _ _ 17 _ _ _ _);refine ae.lit [] h17 qy ⟨⟨rfl,rfl,trivial⟩,trivial⟩ rfl rfl ?_)|(refine fJ.int (by kernel_rfl) (by kernel_rfl) (wrap_u8 (by assumption)) ?_)|(refine aZ.rem (by omega) (by(try simp only[az]);omega) rfl rfl rfl rfl ?_)|((with_reducible show aN _ _ _ _ _);first|refine aN.mk j (aL _) hnj (ay hy) ?_|refine aN.mk i (aL _) hni (ay hx) ?_)|((with_reducible show ae _ _ 27 _ _ _ _);(try rw[hni]);(try rw[hnj]);refine ae.val [] h27 Jd ⟨⟨rfl,rfl,trivial⟩,rfl,trivial⟩ rfl rfl rfl ?_)|((with_reducible show ae _ _ 28 _ _ _ _);(try rw[hni]);(try rw[hnj]);refine ae.lit [] h28 Ls ⟨⟨rfl,rfl,trivial⟩,rfl,rfl,rfl,trivial⟩ rfl rfl ?_)|((with_reducible show ae _ _ 29 _ _ _ _);(try rw[hni]);(try rw[hnj]);refine ae.val [] h29 zI ⟨⟨rfl,rfl,trivial⟩,rfl,rfl,rfl,trivial⟩ rfl rfl rfl ?_)|((with_reducible show ae _ _ 30 _ _ _ _);(try rw[hni]);(try rw[hnj]);refine ae.lit [] h30 Fo ⟨⟨rfl,rfl,trivial⟩,rfl,rfl,rfl,trivial⟩ rfl rfl ?_)|((with_reducible show aI _ _ _ _);refine dK ?_))<;>with_reducible refine wK ?_)|((with_reducible show(_∧_)∧_∧_);(refine eK ?_ ?_<;>with_reducible repeat' (first|exact trivial|(show _∧_;refine aK ?_ ?_))))));all_goals clear fct)
          all_goals first|rfl|exact(decide_eq_true rfl).symm|trace_state
        · have fc:=eq_true h0
          refine aj.aD (rvs:=[.tmp 10]) G au Tryz.func5 rfl Tryz.ntmps5 rfl rfl ?_;with_reducible refine wD ?_
          (have fct:=And.intro hlm (And.intro hyl (And.intro fc (fe)));(repeat' (first|refine gF ?_|((first|((with_reducible show ae _ _ 26 _ _ _ _);refine ae.lit [] h26 s9 trivial rfl rfl ?_)|((with_reducible show ae _ _ 16 _ _ _ _);refine ae.lit [] h16 sM ⟨⟨rfl,rfl,trivial⟩,trivial⟩ rfl rfl ?_)|((with_reducible show ae _ _ 17 _ _ _ _);refine ae.lit [] h17 qy ⟨⟨rfl,rfl,trivial⟩,trivial⟩ rfl rfl ?_)|(refine fJ.int (by kernel_rfl) (by kernel_rfl) (wrap_u8 (by assumption)) ?_)|(refine aZ.rem (by omega) (by(try simp only[az]);omega) rfl rfl rfl rfl ?_)|((with_reducible show aN _ _ _ _ _);first|refine aN.mk j (aL _) hnj (ay hy) ?_|refine aN.mk i (aL _) hni (ay hx) ?_|refine aN.mk ci (ah child) hci (cR hch) ?_)|((with_reducible show ae _ _ 27 _ _ _ _);(try rw[hni]);(try rw[hnj]);refine ae.val [] h27 Jd ⟨⟨rfl,rfl,trivial⟩,rfl,trivial⟩ rfl rfl rfl ?_)|((with_reducible show ae _ _ 28 _ _ _ _);(try rw[hni]);(try rw[hnj]);refine ae.lit [] h28 Ls ⟨⟨rfl,rfl,trivial⟩,rfl,rfl,rfl,trivial⟩ rfl rfl ?_)|((with_reducible show ae _ _ 29 _ _ _ _);(try rw[hni]);(try rw[hnj]);refine ae.val [] h29 zI ⟨⟨rfl,rfl,trivial⟩,rfl,rfl,rfl,trivial⟩ rfl rfl rfl ?_)|((with_reducible show ae _ _ 30 _ _ _ _);(try rw[hni]);(try rw[hnj]);refine ae.lit [] h30 Fo ⟨⟨rfl,rfl,trivial⟩,rfl,rfl,rfl,trivial⟩ rfl rfl ?_)|((with_reducible show aI _ _ _ _);refine dK ?_))<;>with_reducible refine wK ?_)|((with_reducible show(_∧_)∧_∧_);(refine eK ?_ ?_<;>with_reducible repeat' (first|exact trivial|(show _∧_;refine aK ?_ ?_))))));all_goals clear fct)
          all_goals first|rfl|exact(decide_eq_true rfl).symm|trace_state
      rw[hk1] at h29
      generalize bef child=before at*
      have hsg:bC gl:=fm hR1 (by omega)
      have hgl:(gl.map bM).length=gl.length:=List.length_map ..
      have h32:=fun k=>IF ⟨gl,m⟩ hsg k
      have T1:=aY hlen
      obtain⟨gy,hgy,hgyn⟩:=ow (show af gl j=true by rw[T1];exact htp)
      obtain⟨gx,hgx,hgxn⟩:=ow (show af gl i=true by rw[T1];exact ht)
      rw[hgyn] at hkids
      rw[hgxn] at hfrag
      have hgdup:gy.kids.Nodup:=by rw[←hgyn];exact hR1.dup j (by rw[T1];exact htp)
      have hgkl:gy.kids.length≤60:=hsg.kids gy (List.mem_of_getElem? hgy)
      have h25:=G7 gy.kids (sW y7 parts before) (by omega)
      rw[decide_eq_true hkids] at h25
      have hmemg:∀k∈parts,k∈gy.kids:=fun k hk=>by
        have q:=hparts k hk
        have:=(hR1.par k q.1 (by rw[q.2];omega)).2.2.2
        rw[q.2,hgyn] at this
        exact this
      have hrem:∀k∈parts,∃ (ol:List ai) (ns:List aQ) (ki:Nat) (w:ai) (v:ai),iv ⟨gl,m⟩ k=(⟨ol,m⟩,ns,0)∧k=(ki:Int)∧ol[ki]? =some w∧w.parent=-1∧ol[j]? =some v∧v.kids.length+1=gy.kids.length∧v.kids.count k=0:=fun k hk=>by
        have q:=hparts k hk
        obtain⟨ns,e1,e2,e3,e4⟩:=HE hR1 q.1 (show af gl j=true by rw[T1];exact htp) q.2
        obtain⟨ki,_,rfl,_,_⟩:=aW.1 q.1
        obtain⟨w,hw,hwn⟩:=ow (show af (bg gl ki) ki=true by rw[aY e4];exact q.1)
        obtain⟨v,hv,hvn⟩:=ow (show af (bg gl ki) j=true by rw[aY e4,T1];exact htp)
        rw[hwn] at e2
        rw[hvn,hgyn] at e3
        refine⟨_,ns,ki,w,v,e1,rfl,hw,e2,hv,?_,?_⟩
        · rw[e3,List.length_erase_of_mem (hmemg _ hk)]
          have:=List.length_pos_of_mem (hmemg _ hk)
          omega
        · rw[e3,List.count_eq_zero]
          exact hgdup.not_mem_erase
      rw[hkids] at hrem hgkl
      obtain⟨gx1,gx2,gx3,gx4,gx5,gx6,gx7,gx8,gx9,gx10⟩:=gx
      obtain⟨gy1,gy2,gy3,gy4,gy5,gy6,gy7,gy8,gy9,gy10⟩:=gy
      have hkx:=congrArg ai.kind hnx
      simp only at hkids hfrag hmemg hgdup
      subst hkids
      clear key hparts hmemg hgdup hgyn hgxn
      have hwl:=fun u=>Na (b:=before) (u:=u) hykl hpl
      have hw0:wT y7 parts before 0=[]:=rfl
      have hws:=fun u z (h:y7[u]? =some z)=>J3 (parts:=parts) (b:=before) h
      have hwe:=Nf y7 parts before
      generalize sW y7 parts before=want at*
      generalize wT y7 parts before=W at*
      have hpm:(parts.map bt).length=parts.length:=List.length_map ..
      refine And.left (b:=True) ?_
      apply NH
      · intro tail
        rcases hcase with⟨h0,rfl⟩|⟨h0,rfl,rfl⟩|⟨h0,rfl,ci,hci,hch⟩
        · have hz0:y7.length=0:=by omega
          refine aj.aD (rvs:=[.tmp 10]) G au Tryz.func5 rfl Tryz.ntmps5 rfl rfl ?_;with_reducible refine wD ?_
          (have fct:=And.intro hlm (And.intro hyl (hz0));(repeat' (first|refine gF ?_|((first|((with_reducible show ae _ _ 26 _ _ _ _);refine ae.lit [] h26 s9 trivial rfl rfl ?_)|((with_reducible show ae _ _ 16 _ _ _ _);refine ae.lit [] h16 sM ⟨⟨rfl,rfl,trivial⟩,trivial⟩ rfl rfl ?_)|((with_reducible show ae _ _ 17 _ _ _ _);refine ae.lit [] h17 qy ⟨⟨rfl,rfl,trivial⟩,trivial⟩ rfl rfl ?_)|(refine fJ.int (by kernel_rfl) (by kernel_rfl) (wrap_u8 (by assumption)) ?_)|(refine aZ.rem (by omega) (by(try simp only[az]);omega) rfl rfl rfl rfl ?_)|((with_reducible show aN _ _ _ _ _);first|refine aN.mk j (aL _) hnj (ay hy) ?_|refine aN.mk i (aL _) hni (ay hx) ?_)|((with_reducible show ae _ _ 27 _ _ _ _);(try rw[hni]);(try rw[hnj]);refine ae.val [] h27 Jd ⟨⟨rfl,rfl,trivial⟩,rfl,trivial⟩ rfl rfl rfl ?_)|((with_reducible show ae _ _ 28 _ _ _ _);(try rw[hni]);(try rw[hnj]);refine ae.lit [] h28 Ls ⟨⟨rfl,rfl,trivial⟩,rfl,rfl,rfl,trivial⟩ rfl rfl ?_)|((with_reducible show ae _ _ 29 _ _ _ _);(try rw[hni]);(try rw[hnj]);refine ae.val [] h29 zI ⟨⟨rfl,rfl,trivial⟩,rfl,rfl,rfl,trivial⟩ rfl rfl rfl ?_)|((with_reducible show ae _ _ 30 _ _ _ _);(try rw[hni]);(try rw[hnj]);refine ae.lit [] h30 Fo ⟨⟨rfl,rfl,trivial⟩,rfl,rfl,rfl,trivial⟩ rfl rfl ?_)|((with_reducible show aI _ _ _ _);refine dK ?_))<;>with_reducible refine wK ?_)|((with_reducible show(_∧_)∧_∧_);(refine eK ?_ ?_<;>with_reducible repeat' (first|exact trivial|(show _∧_;refine aK ?_ ?_))))));all_goals clear fct)
          refine bW.ghost 20 201 1 rfl rfl ?_
          refine bW.use G au (fun(u:Nat)=>[(5,.ptr 50 0 0),(11,ah (i:Int)),(12,ah (j:Int)),(15,cq parts),(16,ah before),(17,.ptr 170 0 0),(20,.own 201 0 (W u).length),(21,ah u)])
            (fun u=>[(50,.live 2 [aR ⟨l,m⟩] false),(170,.live 2 [aR ⟨gl,m⟩] false),(201,aF (W u))]) (fun u=>u≤y7.length) (fun u=>y7.length-u) 0 (Nat.zero_le _) ?_ ?_
          · rw[hw0]
            (refine fK ?_;(with_reducible repeat' (first|exact trivial|(show _∧_;refine aK ?_ ?_)));(all_goals try rfl))
            all_goals first|exact hni|exact hnj|exact⟨.refl rfl,rfl⟩|rfl|trace_state
          ·exact tail.get
        · have fc:=eq_true h0
          refine aj.aD (rvs:=[.tmp 10]) G au Tryz.func5 rfl Tryz.ntmps5 rfl rfl ?_;with_reducible refine wD ?_
          (have fct:=And.intro hlm (And.intro hyl (fc));(repeat' (first|refine gF ?_|((first|((with_reducible show ae _ _ 26 _ _ _ _);refine ae.lit [] h26 s9 trivial rfl rfl ?_)|((with_reducible show ae _ _ 16 _ _ _ _);refine ae.lit [] h16 sM ⟨⟨rfl,rfl,trivial⟩,trivial⟩ rfl rfl ?_)|((with_reducible show ae _ _ 17 _ _ _ _);refine ae.lit [] h17 qy ⟨⟨rfl,rfl,trivial⟩,trivial⟩ rfl rfl ?_)|(refine fJ.int (by kernel_rfl) (by kernel_rfl) (wrap_u8 (by assumption)) ?_)|(refine aZ.rem (by omega) (by(try simp only[az]);omega) rfl rfl rfl rfl ?_)|((with_reducible show aN _ _ _ _ _);first|refine aN.mk j (aL _) hnj (ay hy) ?_|refine aN.mk i (aL _) hni (ay hx) ?_)|((with_reducible show ae _ _ 27 _ _ _ _);(try rw[hni]);(try rw[hnj]);refine ae.val [] h27 Jd ⟨⟨rfl,rfl,trivial⟩,rfl,trivial⟩ rfl rfl rfl ?_)|((with_reducible show ae _ _ 28 _ _ _ _);(try rw[hni]);(try rw[hnj]);refine ae.lit [] h28 Ls ⟨⟨rfl,rfl,trivial⟩,rfl,rfl,rfl,trivial⟩ rfl rfl ?_)|((with_reducible show ae _ _ 29 _ _ _ _);(try rw[hni]);(try rw[hnj]);refine ae.val [] h29 zI ⟨⟨rfl,rfl,trivial⟩,rfl,rfl,rfl,trivial⟩ rfl rfl rfl ?_)|((with_reducible show ae _ _ 30 _ _ _ _);(try rw[hni]);(try rw[hnj]);refine ae.lit [] h30 Fo ⟨⟨rfl,rfl,trivial⟩,rfl,rfl,rfl,trivial⟩ rfl rfl ?_)|((with_reducible show aI _ _ _ _);refine dK ?_))<;>with_reducible refine wK ?_)|((with_reducible show(_∧_)∧_∧_);(refine eK ?_ ?_<;>with_reducible repeat' (first|exact trivial|(show _∧_;refine aK ?_ ?_))))));all_goals clear fct)
          refine bW.ghost 20 201 1 rfl rfl ?_
          refine bW.use G au (fun(u:Nat)=>[(5,.ptr 50 0 0),(11,ah (i:Int)),(12,ah (j:Int)),(15,cq parts),(16,ah before),(17,.ptr 170 0 0),(20,.own 201 0 (W u).length),(21,ah u)])
            (fun u=>[(50,.live 2 [aR ⟨l,m⟩] false),(170,.live 2 [aR ⟨gl,m⟩] false),(201,aF (W u))]) (fun u=>u≤y7.length) (fun u=>y7.length-u) 0 (Nat.zero_le _) ?_ ?_
          · rw[hw0]
            (refine fK ?_;(with_reducible repeat' (first|exact trivial|(show _∧_;refine aK ?_ ?_)));(all_goals try rfl))
            all_goals first|exact hni|exact hnj|exact⟨.refl rfl,rfl⟩|rfl|trace_state
          ·exact tail.get
        · have fc:=eq_true h0
          refine aj.aD (rvs:=[.tmp 10]) G au Tryz.func5 rfl Tryz.ntmps5 rfl rfl ?_;with_reducible refine wD ?_
          (have fct:=And.intro hlm (And.intro hyl (fc));(repeat' (first|refine gF ?_|((first|((with_reducible show ae _ _ 26 _ _ _ _);refine ae.lit [] h26 s9 trivial rfl rfl ?_)|((with_reducible show ae _ _ 16 _ _ _ _);refine ae.lit [] h16 sM ⟨⟨rfl,rfl,trivial⟩,trivial⟩ rfl rfl ?_)|((with_reducible show ae _ _ 17 _ _ _ _);refine ae.lit [] h17 qy ⟨⟨rfl,rfl,trivial⟩,trivial⟩ rfl rfl ?_)|(refine fJ.int (by kernel_rfl) (by kernel_rfl) (wrap_u8 (by assumption)) ?_)|(refine aZ.rem (by omega) (by(try simp only[az]);omega) rfl rfl rfl rfl ?_)|((with_reducible show aN _ _ _ _ _);first|refine aN.mk j (aL _) hnj (ay hy) ?_|refine aN.mk i (aL _) hni (ay hx) ?_|refine aN.mk ci (ah child) hci (cR hch) ?_)|((with_reducible show ae _ _ 27 _ _ _ _);(try rw[hni]);(try rw[hnj]);refine ae.val [] h27 Jd ⟨⟨rfl,rfl,trivial⟩,rfl,trivial⟩ rfl rfl rfl ?_)|((with_reducible show ae _ _ 28 _ _ _ _);(try rw[hni]);(try rw[hnj]);refine ae.lit [] h28 Ls ⟨⟨rfl,rfl,trivial⟩,rfl,rfl,rfl,trivial⟩ rfl rfl ?_)|((with_reducible show ae _ _ 29 _ _ _ _);(try rw[hni]);(try rw[hnj]);refine ae.val [] h29 zI ⟨⟨rfl,rfl,trivial⟩,rfl,rfl,rfl,trivial⟩ rfl rfl rfl ?_)|((with_reducible show ae _ _ 30 _ _ _ _);(try rw[hni]);(try rw[hnj]);refine ae.lit [] h30 Fo ⟨⟨rfl,rfl,trivial⟩,rfl,rfl,rfl,trivial⟩ rfl rfl ?_)|((with_reducible show aI _ _ _ _);refine dK ?_))<;>with_reducible refine wK ?_)|((with_reducible show(_∧_)∧_∧_);(refine eK ?_ ?_<;>with_reducible repeat' (first|exact trivial|(show _∧_;refine aK ?_ ?_))))));all_goals clear fct)
          refine bW.ghost 20 201 1 rfl rfl ?_
          refine bW.use G au (fun(u:Nat)=>[(5,.ptr 50 0 0),(11,ah (i:Int)),(12,ah (j:Int)),(15,cq parts),(16,ah before),(17,.ptr 170 0 0),(20,.own 201 0 (W u).length),(21,ah u)])
            (fun u=>[(50,.live 2 [aR ⟨l,m⟩] false),(170,.live 2 [aR ⟨gl,m⟩] false),(201,aF (W u))]) (fun u=>u≤y7.length) (fun u=>y7.length-u) 0 (Nat.zero_le _) ?_ ?_
          · rw[hw0]
            (refine fK ?_;(with_reducible repeat' (first|exact trivial|(show _∧_;refine aK ?_ ?_)));(all_goals try rfl))
            all_goals first|exact hni|exact hnj|exact⟨.refl rfl,rfl⟩|rfl|trace_state
          ·exact tail.get
      intro u hu
      have hwu:=hwl u
      have hws:=hws u
      with_reducible refine wK ?_
      refine aN.mk j (aL _) rfl (ay hy) ?_;with_reducible refine wK ?_
      refine bq.mk (fun h1=>?_) (fun h1=>?_)<;>(try simp only[az] at h1)<;>with_reducible refine wK ?_
      · have hul:u<y7.length:=by simp only[decide_eq_true_eq,az] at h1;omega
        obtain⟨z,hz⟩:∃z,y7[u]? =some z:=⟨_,List.getElem?_eq_getElem hul⟩
        have hws:=hws z hz
        have h31:=h31 z
        have hcnt:parts.count z=0↔ ¬gR parts z=true:=by
          rw[List.count_eq_zero];unfold gR;simp
        by_cases e1:z=before
        · rw [if_pos e1] at hws
          by_cases e2:gR parts z=true
          · rw[if_pos e2,List.append_nil] at hws
            have f1:=eq_true e1
            have f2:=eq_false (show ¬parts.count z=0 from fun q=>hcnt.1 q e2)
            (have fct:=And.intro f1 (f2);(repeat' (first|refine gF ?_|((first|((with_reducible show aN _ _ _ _ _);first|refine aN.mk j (aL _) rfl (ay hy) ?_|refine aN.mk u (ah z) rfl (cR hz) ?_)|((with_reducible show ae _ _ 31 _ _ _ _);refine ae.lit [] h31 LJ ⟨rfl,rfl,trivial⟩ rfl rfl ?_)|((with_reducible show aI _ _ _ _);refine dK ?_)|((with_reducible show dZ _ _ _ _ _ _ _ _ _ _);first|refine dZ.mk ((W u).map bt) [ah z] ⟨rfl,(List.length_map ..).symm,rfl⟩ ⟨rfl,rfl,rfl⟩ rfl (by simp;omega) (by simp;omega) ?_|refine dZ.mk ((W u).map bt) (parts.map bt) ⟨rfl,(List.length_map ..).symm,rfl⟩ ⟨rfl,rfl,rfl⟩ (fA _) (by simp;omega) (by simp;omega) ?_|refine dZ.mk _ [ah z] ⟨rfl,rfl,rfl⟩ ⟨rfl,rfl,rfl⟩ rfl (by simp;omega) (by simp;omega) ?_))<;>with_reducible refine wK ?_)|((with_reducible show(_∧_)∧_∧_);(refine eK ?_ ?_<;>with_reducible repeat' (first|exact trivial|(show _∧_;refine aK ?_ ?_))))));all_goals clear fct)
            refine bZ.mk (u+1) (by omega) (by omega) ?_
            rw[hws]
            (refine fK ?_;(with_reducible repeat' (first|exact trivial|(show _∧_;refine aK ?_ ?_)));(all_goals try rfl))
            all_goals first|exact⟨rfl,rfl⟩|rfl|(simp;done)|(simp;omega)|exact dm rfl|exact dm (by simp;rfl)|exact dm (by simp[bt])|trace_state
          · rw[if_neg e2] at hws
            have f1:=eq_true e1
            have f2:=eq_true (show parts.count z=0 from hcnt.2 e2)
            (have fct:=And.intro f1 (f2);(repeat' (first|refine gF ?_|((first|((with_reducible show aN _ _ _ _ _);first|refine aN.mk j (aL _) rfl (ay hy) ?_|refine aN.mk u (ah z) rfl (cR hz) ?_)|((with_reducible show ae _ _ 31 _ _ _ _);refine ae.lit [] h31 LJ ⟨rfl,rfl,trivial⟩ rfl rfl ?_)|((with_reducible show aI _ _ _ _);refine dK ?_)|((with_reducible show dZ _ _ _ _ _ _ _ _ _ _);first|refine dZ.mk ((W u).map bt) [ah z] ⟨rfl,(List.length_map ..).symm,rfl⟩ ⟨rfl,rfl,rfl⟩ rfl (by simp;omega) (by simp;omega) ?_|refine dZ.mk ((W u).map bt) (parts.map bt) ⟨rfl,(List.length_map ..).symm,rfl⟩ ⟨rfl,rfl,rfl⟩ (fA _) (by simp;omega) (by simp;omega) ?_|refine dZ.mk _ [ah z] ⟨rfl,rfl,rfl⟩ ⟨rfl,rfl,rfl⟩ rfl (by simp;omega) (by simp;omega) ?_))<;>with_reducible refine wK ?_)|((with_reducible show(_∧_)∧_∧_);(refine eK ?_ ?_<;>with_reducible repeat' (first|exact trivial|(show _∧_;refine aK ?_ ?_))))));all_goals clear fct)
            refine bZ.mk (u+1) (by omega) (by omega) ?_
            rw[hws]
            (refine fK ?_;(with_reducible repeat' (first|exact trivial|(show _∧_;refine aK ?_ ?_)));(all_goals try rfl))
            all_goals first|exact⟨rfl,rfl⟩|rfl|(simp;done)|(simp;omega)|exact dm rfl|exact dm (by simp;rfl)|exact dm (by simp[bt])|trace_state
        · rw [if_neg e1,List.nil_append] at hws
          by_cases e2:gR parts z=true
          · rw[if_pos e2,List.append_nil] at hws
            have f1:=eq_false e1
            have f2:=eq_false (show ¬parts.count z=0 from fun q=>hcnt.1 q e2)
            (have fct:=And.intro f1 (f2);(repeat' (first|refine gF ?_|((first|((with_reducible show aN _ _ _ _ _);first|refine aN.mk j (aL _) rfl (ay hy) ?_|refine aN.mk u (ah z) rfl (cR hz) ?_)|((with_reducible show ae _ _ 31 _ _ _ _);refine ae.lit [] h31 LJ ⟨rfl,rfl,trivial⟩ rfl rfl ?_)|((with_reducible show aI _ _ _ _);refine dK ?_)|((with_reducible show dZ _ _ _ _ _ _ _ _ _ _);first|refine dZ.mk ((W u).map bt) [ah z] ⟨rfl,(List.length_map ..).symm,rfl⟩ ⟨rfl,rfl,rfl⟩ rfl (by simp;omega) (by simp;omega) ?_|refine dZ.mk ((W u).map bt) (parts.map bt) ⟨rfl,(List.length_map ..).symm,rfl⟩ ⟨rfl,rfl,rfl⟩ (fA _) (by simp;omega) (by simp;omega) ?_|refine dZ.mk _ [ah z] ⟨rfl,rfl,rfl⟩ ⟨rfl,rfl,rfl⟩ rfl (by simp;omega) (by simp;omega) ?_))<;>with_reducible refine wK ?_)|((with_reducible show(_∧_)∧_∧_);(refine eK ?_ ?_<;>with_reducible repeat' (first|exact trivial|(show _∧_;refine aK ?_ ?_))))));all_goals clear fct)
            refine bZ.mk (u+1) (by omega) (by omega) ?_
            rw[hws]
            (refine fK ?_;(with_reducible repeat' (first|exact trivial|(show _∧_;refine aK ?_ ?_)));(all_goals try rfl))
            all_goals first|exact⟨rfl,rfl⟩|rfl|(simp;done)|(simp;omega)|exact dm rfl|exact dm (by simp;rfl)|exact dm (by simp[bt])|trace_state
          · rw[if_neg e2] at hws
            have f1:=eq_false e1
            have f2:=eq_true (show parts.count z=0 from hcnt.2 e2)
            (have fct:=And.intro f1 (f2);(repeat' (first|refine gF ?_|((first|((with_reducible show aN _ _ _ _ _);first|refine aN.mk j (aL _) rfl (ay hy) ?_|refine aN.mk u (ah z) rfl (cR hz) ?_)|((with_reducible show ae _ _ 31 _ _ _ _);refine ae.lit [] h31 LJ ⟨rfl,rfl,trivial⟩ rfl rfl ?_)|((with_reducible show aI _ _ _ _);refine dK ?_)|((with_reducible show dZ _ _ _ _ _ _ _ _ _ _);first|refine dZ.mk ((W u).map bt) [ah z] ⟨rfl,(List.length_map ..).symm,rfl⟩ ⟨rfl,rfl,rfl⟩ rfl (by simp;omega) (by simp;omega) ?_|refine dZ.mk ((W u).map bt) (parts.map bt) ⟨rfl,(List.length_map ..).symm,rfl⟩ ⟨rfl,rfl,rfl⟩ (fA _) (by simp;omega) (by simp;omega) ?_|refine dZ.mk _ [ah z] ⟨rfl,rfl,rfl⟩ ⟨rfl,rfl,rfl⟩ rfl (by simp;omega) (by simp;omega) ?_))<;>with_reducible refine wK ?_)|((with_reducible show(_∧_)∧_∧_);(refine eK ?_ ?_<;>with_reducible repeat' (first|exact trivial|(show _∧_;refine aK ?_ ?_))))));all_goals clear fct)
            refine bZ.mk (u+1) (by omega) (by omega) ?_
            rw[hws]
            (refine fK ?_;(with_reducible repeat' (first|exact trivial|(show _∧_;refine aK ?_ ?_)));(all_goals try rfl))
            all_goals first|exact⟨rfl,rfl⟩|rfl|(simp;done)|(simp;omega)|exact dm rfl|exact dm (by simp;rfl)|exact dm (by simp[bt])|trace_state
      obtain rfl:u=y7.length:=by simp only[decide_eq_false_iff_not,az] at h1;omega
      clear hws
      have hxx:x1=3→gx7=[]:=hfrag
      by_cases eb:before=-1
      · rw [if_pos eb] at hwe
        have fb:=eq_true eb
        by_cases ek:x1=3
        · obtain rfl:=hxx ek
          have fk:=eq_true ek
          (have fct:=And.intro fb (fk);(repeat' (first|refine gF ?_|((first|((with_reducible show aN _ _ _ _ _);first|refine aN.mk j (aL _) rfl (ay hgy) ?_|refine aN.mk i (aL _) rfl (ay hx) ?_|refine aN.mk i (aL _) rfl (ay hgx) ?_)|((with_reducible show ae _ _ 25 _ _ _ _);refine ae.lit [1341] h25 Nl ⟨rfl,bY rfl rfl (by first|exact congrArg (List.map bt) hwe|(rw[←hwe];simp)) (by first|exact congrArg List.length hwe|(rw[←hwe];simp)),trivial⟩ rfl rfl ?_)|((with_reducible show aI _ _ _ _);refine dK ?_)|((with_reducible show dZ _ _ _ _ _ _ _ _ _ _);refine dZ.mk ((W y7.length).map bt) (parts.map bt) ⟨rfl,(List.length_map ..).symm,rfl⟩ ⟨rfl,rfl,rfl⟩ (fA _) (by simp;omega) (by simp;omega) ?_))<;>with_reducible refine wK ?_)|((with_reducible show(_∧_)∧_∧_);(refine eK ?_ ?_<;>with_reducible repeat' (first|exact trivial|(show _∧_;refine aK ?_ ?_))))));all_goals clear fct)
          refine bW.use G au (fun(u:Nat)=>[(12,ah (j:Int)),(15,cq parts),(17,.ptr 170 0 0),(20,.own 1341 0 want.length),(23,ah u)])
            (fun u=>[(170,.live 2 [aR ⟨gl,m⟩] false),(1341,aF want)]) (fun u=>u≤parts.length) (fun u=>parts.length-u) 0 (Nat.zero_le _) ?_ ?_
          · (refine fK ?_;(with_reducible repeat' (first|exact trivial|(show _∧_;refine aK ?_ ?_)));(all_goals try rfl))
            all_goals first|exact dm (congrArg (List.map bt) hwe)|exact(congrArg List.length hwe).symm|exact dm (by rw[←hwe];simp)|(rw[←hwe];simp;done)|exact⟨rfl,rfl⟩|rfl|trace_state
          intro v hv
          with_reducible refine wK ?_
          refine bq.mk (fun h2=>?_) (fun h2=>?_)<;>(try simp only[az] at h2)<;>with_reducible refine wK ?_
          · have hvl:v<parts.length:=by simp only[decide_eq_true_eq,az] at h2;omega
            obtain⟨k,hk⟩:∃k,parts[v]? =some k:=⟨_,List.getElem?_eq_getElem hvl⟩
            obtain⟨ol,ns2,ki,w,vv,r1,r2,r3,r4,r5,r6,r7⟩:=hrem k (List.mem_of_getElem? hk)
            have h32:=h32 k
            rw[r1] at h32
            have hvk:vv.kids.length≤60:=by omega
            have h31':=uG vv.kids (by omega) k
            rw[r7] at h31'
            obtain⟨w1,w2,w3,w4,w5,w6,w7,w8,w9,w10⟩:=w
            obtain⟨v1,v2,v3,v4,v5,v6,v7,v8,v9,v10⟩:=vv
            simp only at r4 r6 h31'
            subst r4
            have fl:=eq_true (show(v7.length:Int)=(want.length:Int)-1 by omega)
            have hv7:(v7.map bt).length=v7.length:=List.length_map ..
            (have fct:=And.intro hv7 (fl);(repeat' (first|refine gF ?_|((first|((with_reducible show aN _ _ _ _ _);first|refine aN.mk v (ah k) rfl (cR hk) ?_|refine aN.mk ki (aL _) r2 (ay r3) ?_|refine aN.mk j (aL _) rfl (ay r5) ?_)|((with_reducible show ae _ _ 32 _ _ _ _);refine ae.val [] h32 KN ⟨⟨rfl,rfl,trivial⟩,rfl,trivial⟩ rfl rfl rfl ?_)|((with_reducible show ae _ _ 31 _ _ _ _);refine ae.lit [] h31' LJ ⟨rfl,rfl,trivial⟩ rfl rfl ?_)|((with_reducible show aI _ _ _ _);refine dK ?_))<;>with_reducible refine wK ?_)|((with_reducible show(_∧_)∧_∧_);(refine eK ?_ ?_<;>with_reducible repeat' (first|exact trivial|(show _∧_;refine aK ?_ ?_))))));all_goals clear fct)
            refine bZ.mk (v+1) (by omega) (by omega) ?_
            (refine fK ?_;(with_reducible repeat' (first|exact trivial|(show _∧_;refine aK ?_ ?_)));(all_goals try rfl))
            all_goals first|exact⟨rfl,rfl⟩|rfl|exact dm rfl|trace_state
          · repeat' (first|refine gK ?_|((with_reducible show(_∧_)∧_∧_);(refine eK ?_ ?_<;>with_reducible repeat' (first|exact trivial|(show _∧_;refine aK ?_ ?_)))))
            all_goals first|rfl|trace_state
        · have fk:=eq_false ek
          (have fct:=And.intro fb (fk);(repeat' (first|refine gF ?_|((first|((with_reducible show aN _ _ _ _ _);first|refine aN.mk j (aL _) rfl (ay hgy) ?_|refine aN.mk i (aL _) rfl (ay hx) ?_|refine aN.mk i (aL _) rfl (ay hgx) ?_)|((with_reducible show ae _ _ 25 _ _ _ _);refine ae.lit [1341] h25 Nl ⟨rfl,bY rfl rfl (by first|exact congrArg (List.map bt) hwe|(rw[←hwe];simp)) (by first|exact congrArg List.length hwe|(rw[←hwe];simp)),trivial⟩ rfl rfl ?_)|((with_reducible show aI _ _ _ _);refine dK ?_)|((with_reducible show dZ _ _ _ _ _ _ _ _ _ _);refine dZ.mk ((W y7.length).map bt) (parts.map bt) ⟨rfl,(List.length_map ..).symm,rfl⟩ ⟨rfl,rfl,rfl⟩ (fA _) (by simp;omega) (by simp;omega) ?_))<;>with_reducible refine wK ?_)|((with_reducible show(_∧_)∧_∧_);(refine eK ?_ ?_<;>with_reducible repeat' (first|exact trivial|(show _∧_;refine aK ?_ ?_))))));all_goals clear fct)
          refine bW.use G au (fun(u:Nat)=>[(12,ah (j:Int)),(15,cq parts),(17,.ptr 170 0 0),(20,.own 1341 0 want.length),(23,ah u)])
            (fun u=>[(170,.live 2 [aR ⟨gl,m⟩] false),(1341,aF want)]) (fun u=>u≤parts.length) (fun u=>parts.length-u) 0 (Nat.zero_le _) ?_ ?_
          · (refine fK ?_;(with_reducible repeat' (first|exact trivial|(show _∧_;refine aK ?_ ?_)));(all_goals try rfl))
            all_goals first|exact dm (congrArg (List.map bt) hwe)|exact(congrArg List.length hwe).symm|exact dm (by rw[←hwe];simp)|(rw[←hwe];simp;done)|exact⟨rfl,rfl⟩|rfl|trace_state
          intro v hv
          with_reducible refine wK ?_
          refine bq.mk (fun h2=>?_) (fun h2=>?_)<;>(try simp only[az] at h2)<;>with_reducible refine wK ?_
          · have hvl:v<parts.length:=by simp only[decide_eq_true_eq,az] at h2;omega
            obtain⟨k,hk⟩:∃k,parts[v]? =some k:=⟨_,List.getElem?_eq_getElem hvl⟩
            obtain⟨ol,ns2,ki,w,vv,r1,r2,r3,r4,r5,r6,r7⟩:=hrem k (List.mem_of_getElem? hk)
            have h32:=h32 k
            rw[r1] at h32
            have hvk:vv.kids.length≤60:=by omega
            have h31':=uG vv.kids (by omega) k
            rw[r7] at h31'
            obtain⟨w1,w2,w3,w4,w5,w6,w7,w8,w9,w10⟩:=w
            obtain⟨v1,v2,v3,v4,v5,v6,v7,v8,v9,v10⟩:=vv
            simp only at r4 r6 h31'
            subst r4
            have fl:=eq_true (show(v7.length:Int)=(want.length:Int)-1 by omega)
            have hv7:(v7.map bt).length=v7.length:=List.length_map ..
            (have fct:=And.intro hv7 (fl);(repeat' (first|refine gF ?_|((first|((with_reducible show aN _ _ _ _ _);first|refine aN.mk v (ah k) rfl (cR hk) ?_|refine aN.mk ki (aL _) r2 (ay r3) ?_|refine aN.mk j (aL _) rfl (ay r5) ?_)|((with_reducible show ae _ _ 32 _ _ _ _);refine ae.val [] h32 KN ⟨⟨rfl,rfl,trivial⟩,rfl,trivial⟩ rfl rfl rfl ?_)|((with_reducible show ae _ _ 31 _ _ _ _);refine ae.lit [] h31' LJ ⟨rfl,rfl,trivial⟩ rfl rfl ?_)|((with_reducible show aI _ _ _ _);refine dK ?_))<;>with_reducible refine wK ?_)|((with_reducible show(_∧_)∧_∧_);(refine eK ?_ ?_<;>with_reducible repeat' (first|exact trivial|(show _∧_;refine aK ?_ ?_))))));all_goals clear fct)
            refine bZ.mk (v+1) (by omega) (by omega) ?_
            (refine fK ?_;(with_reducible repeat' (first|exact trivial|(show _∧_;refine aK ?_ ?_)));(all_goals try rfl))
            all_goals first|exact⟨rfl,rfl⟩|rfl|exact dm rfl|trace_state
          · repeat' (first|refine gK ?_|((with_reducible show(_∧_)∧_∧_);(refine eK ?_ ?_<;>with_reducible repeat' (first|exact trivial|(show _∧_;refine aK ?_ ?_)))))
            all_goals first|rfl|trace_state
      · rw [if_neg eb,List.append_nil] at hwe
        have fb:=eq_false eb
        by_cases ek:x1=3
        · obtain rfl:=hxx ek
          have fk:=eq_true ek
          (have fct:=And.intro fb (fk);(repeat' (first|refine gF ?_|((first|((with_reducible show aN _ _ _ _ _);first|refine aN.mk j (aL _) rfl (ay hgy) ?_|refine aN.mk i (aL _) rfl (ay hx) ?_|refine aN.mk i (aL _) rfl (ay hgx) ?_)|((with_reducible show ae _ _ 25 _ _ _ _);refine ae.lit [201] h25 Nl ⟨rfl,bY rfl rfl (by first|exact congrArg (List.map bt) hwe|(rw[←hwe];simp)) (by first|exact congrArg List.length hwe|(rw[←hwe];simp)),trivial⟩ rfl rfl ?_)|((with_reducible show aI _ _ _ _);refine dK ?_)|((with_reducible show dZ _ _ _ _ _ _ _ _ _ _);refine dZ.mk ((W y7.length).map bt) (parts.map bt) ⟨rfl,(List.length_map ..).symm,rfl⟩ ⟨rfl,rfl,rfl⟩ (fA _) (by simp;omega) (by simp;omega) ?_))<;>with_reducible refine wK ?_)|((with_reducible show(_∧_)∧_∧_);(refine eK ?_ ?_<;>with_reducible repeat' (first|exact trivial|(show _∧_;refine aK ?_ ?_))))));all_goals clear fct)
          refine bW.use G au (fun(u:Nat)=>[(12,ah (j:Int)),(15,cq parts),(17,.ptr 170 0 0),(20,.own 201 0 want.length),(23,ah u)])
            (fun u=>[(170,.live 2 [aR ⟨gl,m⟩] false),(201,aF want)]) (fun u=>u≤parts.length) (fun u=>parts.length-u) 0 (Nat.zero_le _) ?_ ?_
          · (refine fK ?_;(with_reducible repeat' (first|exact trivial|(show _∧_;refine aK ?_ ?_)));(all_goals try rfl))
            all_goals first|exact dm (congrArg (List.map bt) hwe)|exact(congrArg List.length hwe).symm|exact dm (by rw[←hwe];simp)|(rw[←hwe];simp;done)|exact⟨rfl,rfl⟩|rfl|trace_state
          intro v hv
          with_reducible refine wK ?_
          refine bq.mk (fun h2=>?_) (fun h2=>?_)<;>(try simp only[az] at h2)<;>with_reducible refine wK ?_
          · have hvl:v<parts.length:=by simp only[decide_eq_true_eq,az] at h2;omega
            obtain⟨k,hk⟩:∃k,parts[v]? =some k:=⟨_,List.getElem?_eq_getElem hvl⟩
            obtain⟨ol,ns2,ki,w,vv,r1,r2,r3,r4,r5,r6,r7⟩:=hrem k (List.mem_of_getElem? hk)
            have h32:=h32 k
            rw[r1] at h32
            have hvk:vv.kids.length≤60:=by omega
            have h31':=uG vv.kids (by omega) k
            rw[r7] at h31'
            obtain⟨w1,w2,w3,w4,w5,w6,w7,w8,w9,w10⟩:=w
            obtain⟨v1,v2,v3,v4,v5,v6,v7,v8,v9,v10⟩:=vv
            simp only at r4 r6 h31'
            subst r4
            have fl:=eq_true (show(v7.length:Int)=(want.length:Int)-1 by omega)
            have hv7:(v7.map bt).length=v7.length:=List.length_map ..
            (have fct:=And.intro hv7 (fl);(repeat' (first|refine gF ?_|((first|((with_reducible show aN _ _ _ _ _);first|refine aN.mk v (ah k) rfl (cR hk) ?_|refine aN.mk ki (aL _) r2 (ay r3) ?_|refine aN.mk j (aL _) rfl (ay r5) ?_)|((with_reducible show ae _ _ 32 _ _ _ _);refine ae.val [] h32 KN ⟨⟨rfl,rfl,trivial⟩,rfl,trivial⟩ rfl rfl rfl ?_)|((with_reducible show ae _ _ 31 _ _ _ _);refine ae.lit [] h31' LJ ⟨rfl,rfl,trivial⟩ rfl rfl ?_)|((with_reducible show aI _ _ _ _);refine dK ?_))<;>with_reducible refine wK ?_)|((with_reducible show(_∧_)∧_∧_);(refine eK ?_ ?_<;>with_reducible repeat' (first|exact trivial|(show _∧_;refine aK ?_ ?_))))));all_goals clear fct)
            refine bZ.mk (v+1) (by omega) (by omega) ?_
            (refine fK ?_;(with_reducible repeat' (first|exact trivial|(show _∧_;refine aK ?_ ?_)));(all_goals try rfl))
            all_goals first|exact⟨rfl,rfl⟩|rfl|exact dm rfl|trace_state
          · repeat' (first|refine gK ?_|((with_reducible show(_∧_)∧_∧_);(refine eK ?_ ?_<;>with_reducible repeat' (first|exact trivial|(show _∧_;refine aK ?_ ?_)))))
            all_goals first|rfl|trace_state
        · have fk:=eq_false ek
          (have fct:=And.intro fb (fk);(repeat' (first|refine gF ?_|((first|((with_reducible show aN _ _ _ _ _);first|refine aN.mk j (aL _) rfl (ay hgy) ?_|refine aN.mk i (aL _) rfl (ay hx) ?_|refine aN.mk i (aL _) rfl (ay hgx) ?_)|((with_reducible show ae _ _ 25 _ _ _ _);refine ae.lit [201] h25 Nl ⟨rfl,bY rfl rfl (by first|exact congrArg (List.map bt) hwe|(rw[←hwe];simp)) (by first|exact congrArg List.length hwe|(rw[←hwe];simp)),trivial⟩ rfl rfl ?_)|((with_reducible show aI _ _ _ _);refine dK ?_)|((with_reducible show dZ _ _ _ _ _ _ _ _ _ _);refine dZ.mk ((W y7.length).map bt) (parts.map bt) ⟨rfl,(List.length_map ..).symm,rfl⟩ ⟨rfl,rfl,rfl⟩ (fA _) (by simp;omega) (by simp;omega) ?_))<;>with_reducible refine wK ?_)|((with_reducible show(_∧_)∧_∧_);(refine eK ?_ ?_<;>with_reducible repeat' (first|exact trivial|(show _∧_;refine aK ?_ ?_))))));all_goals clear fct)
          refine bW.use G au (fun(u:Nat)=>[(12,ah (j:Int)),(15,cq parts),(17,.ptr 170 0 0),(20,.own 201 0 want.length),(23,ah u)])
            (fun u=>[(170,.live 2 [aR ⟨gl,m⟩] false),(201,aF want)]) (fun u=>u≤parts.length) (fun u=>parts.length-u) 0 (Nat.zero_le _) ?_ ?_
          · (refine fK ?_;(with_reducible repeat' (first|exact trivial|(show _∧_;refine aK ?_ ?_)));(all_goals try rfl))
            all_goals first|exact dm (congrArg (List.map bt) hwe)|exact(congrArg List.length hwe).symm|exact dm (by rw[←hwe];simp)|(rw[←hwe];simp;done)|exact⟨rfl,rfl⟩|rfl|trace_state
          intro v hv
          with_reducible refine wK ?_
          refine bq.mk (fun h2=>?_) (fun h2=>?_)<;>(try simp only[az] at h2)<;>with_reducible refine wK ?_
          · have hvl:v<parts.length:=by simp only[decide_eq_true_eq,az] at h2;omega
            obtain⟨k,hk⟩:∃k,parts[v]? =some k:=⟨_,List.getElem?_eq_getElem hvl⟩
            obtain⟨ol,ns2,ki,w,vv,r1,r2,r3,r4,r5,r6,r7⟩:=hrem k (List.mem_of_getElem? hk)
            have h32:=h32 k
            rw[r1] at h32
            have hvk:vv.kids.length≤60:=by omega
            have h31':=uG vv.kids (by omega) k
            rw[r7] at h31'
            obtain⟨w1,w2,w3,w4,w5,w6,w7,w8,w9,w10⟩:=w
            obtain⟨v1,v2,v3,v4,v5,v6,v7,v8,v9,v10⟩:=vv
            simp only at r4 r6 h31'
            subst r4
            have fl:=eq_true (show(v7.length:Int)=(want.length:Int)-1 by omega)
            have hv7:(v7.map bt).length=v7.length:=List.length_map ..
            (have fct:=And.intro hv7 (fl);(repeat' (first|refine gF ?_|((first|((with_reducible show aN _ _ _ _ _);first|refine aN.mk v (ah k) rfl (cR hk) ?_|refine aN.mk ki (aL _) r2 (ay r3) ?_|refine aN.mk j (aL _) rfl (ay r5) ?_)|((with_reducible show ae _ _ 32 _ _ _ _);refine ae.val [] h32 KN ⟨⟨rfl,rfl,trivial⟩,rfl,trivial⟩ rfl rfl rfl ?_)|((with_reducible show ae _ _ 31 _ _ _ _);refine ae.lit [] h31' LJ ⟨rfl,rfl,trivial⟩ rfl rfl ?_)|((with_reducible show aI _ _ _ _);refine dK ?_))<;>with_reducible refine wK ?_)|((with_reducible show(_∧_)∧_∧_);(refine eK ?_ ?_<;>with_reducible repeat' (first|exact trivial|(show _∧_;refine aK ?_ ?_))))));all_goals clear fct)
            refine bZ.mk (v+1) (by omega) (by omega) ?_
            (refine fK ?_;(with_reducible repeat' (first|exact trivial|(show _∧_;refine aK ?_ ?_)));(all_goals try rfl))
            all_goals first|exact⟨rfl,rfl⟩|rfl|exact dm rfl|trace_state
          · repeat' (first|refine gK ?_|((with_reducible show(_∧_)∧_∧_);(refine eK ?_ ?_<;>with_reducible repeat' (first|exact trivial|(show _∧_;refine aK ?_ ?_)))))
            all_goals first|rfl|trace_state
end Go.Proofs.Heir
end
