/- Models, plain laws and contracts of functions of the given program; conditions as stated in each theorem. By an AI agent. -/
import Derived.Test.YtkhjcnjicjgfiaaGreatDoorW19
import Derived.Test.YtkhjcnjicjgfiaaGreatDoorW7
set_option linter.unusedSimpArgs false
set_option linter.unusedVariables false
section
namespace Go.Proofs.Heir
open Go Go.Am Go.RowKit Go.Lib
set_option maxRecDepth 100000
set_option maxHeartbeats 8000000
variable {l l' : List ai} {m : Int}
theorem Ab (R:RF l m)(h60:l.length≤60){n:Int}(hn:af l n=true){s v:ByteArray}(he:(gJ ⟨l,m⟩ n s v).2.2=0):bC (gJ ⟨l,m⟩ n s v).1.nodes∧(¬0≤ck (nd l n).attrs s→bC (dn ⟨l,m⟩ n s 0).1.nodes):=by
  obtain⟨hk,h0,h1,h2⟩:=r8 R hn he
  refine⟨?_,fun hm=>?_⟩
  · rw[h1]
    exact fm (n8 R hn hk h2) (by show(gM _ _ _).length≤60;rw[eZ];exact h60)
  · obtain⟨t1,t2,t3⟩:=wY h0 hm
    have hr:=(pz t2).2.right
    rw[t3] at hr
    have e1:dn ⟨l,m⟩ n s 0=gP ⟨l,m⟩ n s ((nd l n).attrs++ [⟨cH s,kD⟩]):=by
      unfold dn
      rw[elem_iff R hn,if_pos hk,if_neg (fun q=>q rfl)]
      dsimp only
      rw[t1]
      dsimp only
      rw[if_neg (show ¬ (0:Int)≠0 from fun q=>q rfl),decide_eq_false hm,if_neg (show ¬false=true by decide)]
    rw[e1]
    exact fm (n8 R hn hk hr) (by show(gM _ _ _).length≤60;rw[eZ];exact h60)
theorem LK {α β γ:Type}{x:α×β×γ}{a:α}{c:γ}(h1:x.1=a)(h2:x.2.2=c):x=(a,x.2.1,c):=by
  obtain⟨x1,x2,x3⟩:=x
  simp only at h1 h2
  rw[h1,h2]
theorem Om (f:ForM)(a:Int)(ha:0≤a∧a<256)(s v:ByteArray):aj Tryz.prog 8 [] [aR f,.lit (.int .u8 a),bX s,bX v] [] (bG true):=by
  have h26:=Cb
  have h16:=Dc f
  cases hsh:oV f with
  | false=>
    rw[hsh] at h16
    obtain⟨l,m⟩:=f
    refine aj.aD (rvs:=[.tmp 8]) G au Tryz.func8 rfl Tryz.ntmps8 rfl rfl ?_;with_reducible refine wD ?_
    repeat' (first|refine gK ?_|((first|((with_reducible show ae _ _ 26 _ _ _ _);refine ae.lit [] h26 s9 trivial rfl rfl ?_)|((with_reducible show ae _ _ 16 _ _ _ _);refine ae.lit [] h16 sM ⟨⟨rfl,rfl,trivial⟩,trivial⟩ rfl rfl ?_))<;>with_reducible refine wK ?_)|((with_reducible show(_∧_)∧_∧_);(refine eK ?_ ?_<;>with_reducible repeat' (first|exact trivial|(show _∧_;refine aK ?_ ?_)))))
    all_goals rfl
  | true =>
    rw[hsh] at h16
    have hs:=mF hsh
    have h17:=o4 f hs
    cases hr:bw f with
    | false=>
      rw[hr] at h17
      obtain⟨l,m⟩:=f
      refine aj.aD (rvs:=[.tmp 8]) G au Tryz.func8 rfl Tryz.ntmps8 rfl rfl ?_;with_reducible refine wD ?_
      repeat' (first|refine gK ?_|((first|((with_reducible show ae _ _ 26 _ _ _ _);refine ae.lit [] h26 s9 trivial rfl rfl ?_)|((with_reducible show ae _ _ 16 _ _ _ _);refine ae.lit [] h16 sM ⟨⟨rfl,rfl,trivial⟩,trivial⟩ rfl rfl ?_)|((with_reducible show ae _ _ 17 _ _ _ _);refine ae.lit [] h17 qy ⟨⟨rfl,rfl,trivial⟩,trivial⟩ rfl rfl ?_))<;>with_reducible refine wK ?_)|((with_reducible show(_∧_)∧_∧_);(refine eK ?_ ?_<;>with_reducible repeat' (first|exact trivial|(show _∧_;refine aK ?_ ?_)))))
      all_goals rfl
    | true =>
      rw[hr] at h17
      by_cases hs3:s.size≤300
      rotate_left
      · have hd:=eq_true (show 300< (s.size:Int) by omega)
        obtain⟨l,m⟩:=f
        refine aj.aD (rvs:=[.tmp 8]) G au Tryz.func8 rfl Tryz.ntmps8 rfl rfl ?_;with_reducible refine wD ?_
        (have fct:=hd;(repeat' (first|refine gF ?_|((first|((with_reducible show ae _ _ 26 _ _ _ _);refine ae.lit [] h26 s9 trivial rfl rfl ?_)|((with_reducible show ae _ _ 16 _ _ _ _);refine ae.lit [] h16 sM ⟨⟨rfl,rfl,trivial⟩,trivial⟩ rfl rfl ?_)|((with_reducible show ae _ _ 17 _ _ _ _);refine ae.lit [] h17 qy ⟨⟨rfl,rfl,trivial⟩,trivial⟩ rfl rfl ?_))<;>with_reducible refine wK ?_)|((with_reducible show(_∧_)∧_∧_);(refine eK ?_ ?_<;>with_reducible repeat' (first|exact trivial|(show _∧_;refine aK ?_ ?_))))));all_goals clear fct)
        all_goals first|rfl|trace_state
      by_cases hv3:v.size≤300
      rotate_left
      · have hd0:=eq_false (show ¬300< (s.size:Int) by omega)
        have hd:=eq_true (show 300< (v.size:Int) by omega)
        obtain⟨l,m⟩:=f
        refine aj.aD (rvs:=[.tmp 8]) G au Tryz.func8 rfl Tryz.ntmps8 rfl rfl ?_;with_reducible refine wD ?_
        (have fct:=And.intro hd0 (hd);(repeat' (first|refine gF ?_|((first|((with_reducible show ae _ _ 26 _ _ _ _);refine ae.lit [] h26 s9 trivial rfl rfl ?_)|((with_reducible show ae _ _ 16 _ _ _ _);refine ae.lit [] h16 sM ⟨⟨rfl,rfl,trivial⟩,trivial⟩ rfl rfl ?_)|((with_reducible show ae _ _ 17 _ _ _ _);refine ae.lit [] h17 qy ⟨⟨rfl,rfl,trivial⟩,trivial⟩ rfl rfl ?_))<;>with_reducible refine wK ?_)|((with_reducible show(_∧_)∧_∧_);(refine eK ?_ ?_<;>with_reducible repeat' (first|exact trivial|(show _∧_;refine aK ?_ ?_))))));all_goals clear fct)
        all_goals first|rfl|trace_state
      have hz1:=eq_false (show ¬300< (s.size:Int) by omega)
      have hz2:=eq_false (show ¬300< (v.size:Int) by omega)
      have hpos:1≤f.nodes.length:=by
        have h0:=hr
        unfold bw me at h0
        simp only[Bool.and_eq_true,decide_eq_true_eq] at h0
        exact h0.1.1.1.2
      have h33:=n5 f hs
      obtain⟨l,m⟩:=f
      have R:RF l m:=dI.1 hr
      simp only at hpos
      have h60:l.length≤60:=by
        have:=hsh;rw[qz] at this;simp only[Bool.and_eq_true,decide_eq_true_eq] at this;exact this.1
      have hlm:(l.map bM).length=l.length:=List.length_map ..
      obtain⟨i,x,hni,hx,hnx⟩:=tG (l:=l) (n:=a% ((l.map bM).length:Int)) (by rw[hlm];exact⟨Int.emod_nonneg _ (by omega),Int.emod_lt_of_pos _ (by omega)⟩)
      have ht:=eH hx
      have hcx:=cF hx
      have h18:=uk ⟨l,m⟩ hs i s v (by omega)
      have hiv:(i:Int)=(i:Int):=rfl
      have hsv:=eq_true (rfl:v=v)
      have hsl:=eq_true (rfl:cH s=cH s)
      -- what set gives
      have key:(∃e,e≠0∧gJ ⟨l,m⟩ i s v=(⟨l,m⟩,[],e))∨(∃ (g:ForM) (had:Bool) (o:ByteArray),bC g.nodes∧gJ ⟨l,m⟩ i s v=(g,[⟨4,i,0,0,cH s,had,true,o,v⟩],0)∧gJ g i s v=(g,[⟨4,i,0,0,cH s,true,true,v,v⟩],0)∧
          (had=true∨∃ (t:ForM) (ns:List aQ) (z:aQ),had=false∧bC t.nodes∧dn ⟨l,m⟩ i s 0=(t,ns,0)∧dn t i s 0=(⟨l,m⟩,[z],0)∧z.has=false)):=by
        by_cases he:(gJ ⟨l,m⟩ i s v).2.2=0
        · obtain⟨k1,k2⟩:=FA R ht he
          obtain⟨k3,k4⟩:=Ab R h60 ht he
          refine .inr ⟨(gJ ⟨l,m⟩ i s v).1,_,_,k3,Prod.ext rfl (Prod.ext k1 he),k2,?_⟩
          by_cases hm:0≤ck (nd l i).attrs s
          ·exact .inl (decide_eq_true hm)
          · obtain⟨q1,z,q2,q3⟩:=zl R ht he hm
            exact .inr ⟨_,_,z,decide_eq_false hm,k4 hm,LK rfl q1,q2,q3⟩
        ·exact .inl ⟨_,he,HI R ht he⟩
      by_cases hp:(nd l i).parent=-1
      · rw [hcx] at hp
        have fp:=eq_true hp
        obtain⟨x1,x2,x3,x4,x5,x6,x7,x8,x9,x10⟩:=x
        simp only at fp
        rcases key with⟨e,he,hk1⟩|⟨g,had,o,hg,hk1,hk2,hk3⟩
        · rw[hk1] at h18
          have fe:=eq_false he
          refine aj.aD (rvs:=[.tmp 8]) G au Tryz.func8 rfl Tryz.ntmps8 rfl rfl ?_;with_reducible refine wD ?_
          (have fct:=And.intro hlm (And.intro fp (And.intro hz1 (And.intro hz2 (fe))));(repeat' (first|refine gF ?_|((first|((with_reducible show ae _ _ 26 _ _ _ _);refine ae.lit [] h26 s9 trivial rfl rfl ?_)|((with_reducible show ae _ _ 16 _ _ _ _);refine ae.lit [] h16 sM ⟨⟨rfl,rfl,trivial⟩,trivial⟩ rfl rfl ?_)|((with_reducible show ae _ _ 17 _ _ _ _);refine ae.lit [] h17 qy ⟨⟨rfl,rfl,trivial⟩,trivial⟩ rfl rfl ?_)|(refine fJ.int (by kernel_rfl) (by kernel_rfl) (wrap_u8 ha) ?_)|(refine aZ.rem ha.1 (by(try simp only[az]);omega) rfl rfl rfl rfl ?_)|((with_reducible show aN _ _ _ _ _);first|refine aN.mk i (aL _) hni (ay hx) ?_|refine aN.mk pn (aL _) rfl (ay hy) ?_|refine aN.mk 0 (je _) rfl rfl ?_)|((with_reducible show ae _ _ 29 _ _ _ _);(try rw[hni]);refine ae.val [] h29 zI ⟨⟨rfl,rfl,trivial⟩,rfl,rfl,rfl,trivial⟩ rfl rfl (aO _ _ _) ?_)|((with_reducible show ae _ _ 18 _ _ _ _);(try rw[hni]);first|refine ae.val [] h18' zq ⟨⟨rfl,rfl,trivial⟩,rfl,rfl,rfl,trivial⟩ rfl rfl (aO _ _ _) ?_|refine ae.val [] h18 zq ⟨⟨rfl,rfl,trivial⟩,rfl,rfl,rfl,trivial⟩ rfl rfl (aO _ _ _) ?_)|((with_reducible show ae _ _ 43 _ _ _ _);(try rw[hni]);first|refine ae.val [] h43' zO ⟨⟨rfl,rfl,trivial⟩,rfl,rfl,rfl,trivial⟩ rfl rfl (aO _ _ _) ?_|refine ae.val [] h43 zO ⟨⟨rfl,rfl,trivial⟩,rfl,rfl,rfl,trivial⟩ rfl rfl (aO _ _ _) ?_)|((with_reducible show ae _ _ 33 _ _ _ _);first|refine ae.lit [] h33 vZ ⟨⟨rfl,rfl,trivial⟩,⟨rfl,rfl,trivial⟩,trivial⟩ rfl rfl ?_|refine ae.lit [] h33' vZ ⟨⟨rfl,rfl,trivial⟩,⟨rfl,rfl,trivial⟩,trivial⟩ rfl rfl ?_)|((with_reducible show aI _ _ _ _);refine dK ?_))<;>with_reducible refine wK ?_)|((with_reducible show(_∧_)∧_∧_);(refine eK ?_ ?_<;>with_reducible repeat' (first|exact trivial|(show _∧_;refine aK ?_ ?_))))));all_goals clear fct)
          all_goals first|rfl|trace_state
        · have h33':=n5 g hg
          have h18':=uk g hg i s v (by omega)
          rw[hk1] at h18
          rw[hk2] at h18'
          obtain⟨g1,g2⟩:=g
          rcases hk3 with rfl|⟨t,ns,z,rfl,htt,hk4,hk5,hk6⟩
          · refine aj.aD (rvs:=[.tmp 8]) G au Tryz.func8 rfl Tryz.ntmps8 rfl rfl ?_;with_reducible refine wD ?_
            (have fct:=And.intro hlm (And.intro fp (And.intro hz1 (And.intro hz2 (And.intro hsv (hsl)))));(repeat' (first|refine gF ?_|((first|((with_reducible show ae _ _ 26 _ _ _ _);refine ae.lit [] h26 s9 trivial rfl rfl ?_)|((with_reducible show ae _ _ 16 _ _ _ _);refine ae.lit [] h16 sM ⟨⟨rfl,rfl,trivial⟩,trivial⟩ rfl rfl ?_)|((with_reducible show ae _ _ 17 _ _ _ _);refine ae.lit [] h17 qy ⟨⟨rfl,rfl,trivial⟩,trivial⟩ rfl rfl ?_)|(refine fJ.int (by kernel_rfl) (by kernel_rfl) (wrap_u8 ha) ?_)|(refine aZ.rem ha.1 (by(try simp only[az]);omega) rfl rfl rfl rfl ?_)|((with_reducible show aN _ _ _ _ _);first|refine aN.mk i (aL _) hni (ay hx) ?_|refine aN.mk pn (aL _) rfl (ay hy) ?_|refine aN.mk 0 (je _) rfl rfl ?_)|((with_reducible show ae _ _ 29 _ _ _ _);(try rw[hni]);refine ae.val [] h29 zI ⟨⟨rfl,rfl,trivial⟩,rfl,rfl,rfl,trivial⟩ rfl rfl (aO _ _ _) ?_)|((with_reducible show ae _ _ 18 _ _ _ _);(try rw[hni]);first|refine ae.val [] h18' zq ⟨⟨rfl,rfl,trivial⟩,rfl,rfl,rfl,trivial⟩ rfl rfl (aO _ _ _) ?_|refine ae.val [] h18 zq ⟨⟨rfl,rfl,trivial⟩,rfl,rfl,rfl,trivial⟩ rfl rfl (aO _ _ _) ?_)|((with_reducible show ae _ _ 43 _ _ _ _);(try rw[hni]);first|refine ae.val [] h43' zO ⟨⟨rfl,rfl,trivial⟩,rfl,rfl,rfl,trivial⟩ rfl rfl (aO _ _ _) ?_|refine ae.val [] h43 zO ⟨⟨rfl,rfl,trivial⟩,rfl,rfl,rfl,trivial⟩ rfl rfl (aO _ _ _) ?_)|((with_reducible show ae _ _ 33 _ _ _ _);first|refine ae.lit [] h33 vZ ⟨⟨rfl,rfl,trivial⟩,⟨rfl,rfl,trivial⟩,trivial⟩ rfl rfl ?_|refine ae.lit [] h33' vZ ⟨⟨rfl,rfl,trivial⟩,⟨rfl,rfl,trivial⟩,trivial⟩ rfl rfl ?_)|((with_reducible show aI _ _ _ _);refine dK ?_))<;>with_reducible refine wK ?_)|((with_reducible show(_∧_)∧_∧_);(refine eK ?_ ?_<;>with_reducible repeat' (first|exact trivial|(show _∧_;refine aK ?_ ?_))))));all_goals clear fct)
            all_goals first|rfl|trace_state
          · have h43:=ru ⟨l,m⟩ hs i s 0 (by omega)
            have h43':=ru t htt i s 0 (by omega)
            rw[hk4] at h43
            rw[hk5] at h43'
            obtain⟨t1,t2⟩:=t
            obtain⟨w1,w2,w3,w4,w5,w6,w7,w8,w9⟩:=z
            simp only at hk6
            subst hk6
            refine aj.aD (rvs:=[.tmp 8]) G au Tryz.func8 rfl Tryz.ntmps8 rfl rfl ?_;with_reducible refine wD ?_
            (have fct:=And.intro hlm (And.intro fp (And.intro hz1 (And.intro hz2 (And.intro hsv (hsl)))));(repeat' (first|refine gF ?_|((first|((with_reducible show ae _ _ 26 _ _ _ _);refine ae.lit [] h26 s9 trivial rfl rfl ?_)|((with_reducible show ae _ _ 16 _ _ _ _);refine ae.lit [] h16 sM ⟨⟨rfl,rfl,trivial⟩,trivial⟩ rfl rfl ?_)|((with_reducible show ae _ _ 17 _ _ _ _);refine ae.lit [] h17 qy ⟨⟨rfl,rfl,trivial⟩,trivial⟩ rfl rfl ?_)|(refine fJ.int (by kernel_rfl) (by kernel_rfl) (wrap_u8 ha) ?_)|(refine aZ.rem ha.1 (by(try simp only[az]);omega) rfl rfl rfl rfl ?_)|((with_reducible show aN _ _ _ _ _);first|refine aN.mk i (aL _) hni (ay hx) ?_|refine aN.mk pn (aL _) rfl (ay hy) ?_|refine aN.mk 0 (je _) rfl rfl ?_)|((with_reducible show ae _ _ 29 _ _ _ _);(try rw[hni]);refine ae.val [] h29 zI ⟨⟨rfl,rfl,trivial⟩,rfl,rfl,rfl,trivial⟩ rfl rfl (aO _ _ _) ?_)|((with_reducible show ae _ _ 18 _ _ _ _);(try rw[hni]);first|refine ae.val [] h18' zq ⟨⟨rfl,rfl,trivial⟩,rfl,rfl,rfl,trivial⟩ rfl rfl (aO _ _ _) ?_|refine ae.val [] h18 zq ⟨⟨rfl,rfl,trivial⟩,rfl,rfl,rfl,trivial⟩ rfl rfl (aO _ _ _) ?_)|((with_reducible show ae _ _ 43 _ _ _ _);(try rw[hni]);first|refine ae.val [] h43' zO ⟨⟨rfl,rfl,trivial⟩,rfl,rfl,rfl,trivial⟩ rfl rfl (aO _ _ _) ?_|refine ae.val [] h43 zO ⟨⟨rfl,rfl,trivial⟩,rfl,rfl,rfl,trivial⟩ rfl rfl (aO _ _ _) ?_)|((with_reducible show ae _ _ 33 _ _ _ _);first|refine ae.lit [] h33 vZ ⟨⟨rfl,rfl,trivial⟩,⟨rfl,rfl,trivial⟩,trivial⟩ rfl rfl ?_|refine ae.lit [] h33' vZ ⟨⟨rfl,rfl,trivial⟩,⟨rfl,rfl,trivial⟩,trivial⟩ rfl rfl ?_)|((with_reducible show aI _ _ _ _);refine dK ?_))<;>with_reducible refine wK ?_)|((with_reducible show(_∧_)∧_∧_);(refine eK ?_ ?_<;>with_reducible repeat' (first|exact trivial|(show _∧_;refine aK ?_ ?_))))));all_goals clear fct)
            all_goals first|rfl|trace_state
      · have q :=R.par i ht hp
        by_cases h0:(nd l (nd l i).parent).kind=0
        · have hins:=Fa R ht hp h0
          have h29:=yD ⟨l,m⟩ hs h60 i (nd l i).parent i
          rw[hins] at h29
          rw[hcx] at h29 hp h0 q
          obtain⟨pn,y,hpn,hy,hny⟩:=aW.1 q.2.1
          rw[hny] at h0
          rw[hpn] at h29
          clear q hins
          have fp:=eq_false hp
          have f0:=eq_true h0
          obtain⟨x1,x2,x3,x4,x5,x6,x7,x8,x9,x10⟩:=x
          obtain⟨y1,y2,y3,y4,y5,y6,y7,y8,y9,y10⟩:=y
          simp only at hpn fp f0
          subst hpn
          rcases key with⟨e,he,hk1⟩|⟨g,had,o,hg,hk1,hk2,hk3⟩
          · rw[hk1] at h18
            have fe:=eq_false he
            refine aj.aD (rvs:=[.tmp 8]) G au Tryz.func8 rfl Tryz.ntmps8 rfl rfl ?_;with_reducible refine wD ?_
            (have fct:=And.intro hlm (And.intro fp (And.intro f0 (And.intro hz1 (And.intro hz2 (fe)))));(repeat' (first|refine gF ?_|((first|((with_reducible show ae _ _ 26 _ _ _ _);refine ae.lit [] h26 s9 trivial rfl rfl ?_)|((with_reducible show ae _ _ 16 _ _ _ _);refine ae.lit [] h16 sM ⟨⟨rfl,rfl,trivial⟩,trivial⟩ rfl rfl ?_)|((with_reducible show ae _ _ 17 _ _ _ _);refine ae.lit [] h17 qy ⟨⟨rfl,rfl,trivial⟩,trivial⟩ rfl rfl ?_)|(refine fJ.int (by kernel_rfl) (by kernel_rfl) (wrap_u8 ha) ?_)|(refine aZ.rem ha.1 (by(try simp only[az]);omega) rfl rfl rfl rfl ?_)|((with_reducible show aN _ _ _ _ _);first|refine aN.mk i (aL _) hni (ay hx) ?_|refine aN.mk pn (aL _) rfl (ay hy) ?_|refine aN.mk 0 (je _) rfl rfl ?_)|((with_reducible show ae _ _ 29 _ _ _ _);(try rw[hni]);refine ae.val [] h29 zI ⟨⟨rfl,rfl,trivial⟩,rfl,rfl,rfl,trivial⟩ rfl rfl (aO _ _ _) ?_)|((with_reducible show ae _ _ 18 _ _ _ _);(try rw[hni]);first|refine ae.val [] h18' zq ⟨⟨rfl,rfl,trivial⟩,rfl,rfl,rfl,trivial⟩ rfl rfl (aO _ _ _) ?_|refine ae.val [] h18 zq ⟨⟨rfl,rfl,trivial⟩,rfl,rfl,rfl,trivial⟩ rfl rfl (aO _ _ _) ?_)|((with_reducible show ae _ _ 43 _ _ _ _);(try rw[hni]);first|refine ae.val [] h43' zO ⟨⟨rfl,rfl,trivial⟩,rfl,rfl,rfl,trivial⟩ rfl rfl (aO _ _ _) ?_|refine ae.val [] h43 zO ⟨⟨rfl,rfl,trivial⟩,rfl,rfl,rfl,trivial⟩ rfl rfl (aO _ _ _) ?_)|((with_reducible show ae _ _ 33 _ _ _ _);first|refine ae.lit [] h33 vZ ⟨⟨rfl,rfl,trivial⟩,⟨rfl,rfl,trivial⟩,trivial⟩ rfl rfl ?_|refine ae.lit [] h33' vZ ⟨⟨rfl,rfl,trivial⟩,⟨rfl,rfl,trivial⟩,trivial⟩ rfl rfl ?_)|((with_reducible show aI _ _ _ _);refine dK ?_))<;>with_reducible refine wK ?_)|((with_reducible show(_∧_)∧_∧_);(refine eK ?_ ?_<;>with_reducible repeat' (first|exact trivial|(show _∧_;refine aK ?_ ?_))))));all_goals clear fct)
            all_goals first|rfl|trace_state
          · have h33':=n5 g hg
            have h18':=uk g hg i s v (by omega)
            rw[hk1] at h18
            rw[hk2] at h18'
            obtain⟨g1,g2⟩:=g
            rcases hk3 with rfl|⟨t,ns,z,rfl,htt,hk4,hk5,hk6⟩
            · refine aj.aD (rvs:=[.tmp 8]) G au Tryz.func8 rfl Tryz.ntmps8 rfl rfl ?_;with_reducible refine wD ?_
              (have fct:=And.intro hlm (And.intro fp (And.intro f0 (And.intro hz1 (And.intro hz2 (And.intro hsv (hsl))))));(repeat' (first|refine gF ?_|((first|((with_reducible show ae _ _ 26 _ _ _ _);refine ae.lit [] h26 s9 trivial rfl rfl ?_)|((with_reducible show ae _ _ 16 _ _ _ _);refine ae.lit [] h16 sM ⟨⟨rfl,rfl,trivial⟩,trivial⟩ rfl rfl ?_)|((with_reducible show ae _ _ 17 _ _ _ _);refine ae.lit [] h17 qy ⟨⟨rfl,rfl,trivial⟩,trivial⟩ rfl rfl ?_)|(refine fJ.int (by kernel_rfl) (by kernel_rfl) (wrap_u8 ha) ?_)|(refine aZ.rem ha.1 (by(try simp only[az]);omega) rfl rfl rfl rfl ?_)|((with_reducible show aN _ _ _ _ _);first|refine aN.mk i (aL _) hni (ay hx) ?_|refine aN.mk pn (aL _) rfl (ay hy) ?_|refine aN.mk 0 (je _) rfl rfl ?_)|((with_reducible show ae _ _ 29 _ _ _ _);(try rw[hni]);refine ae.val [] h29 zI ⟨⟨rfl,rfl,trivial⟩,rfl,rfl,rfl,trivial⟩ rfl rfl (aO _ _ _) ?_)|((with_reducible show ae _ _ 18 _ _ _ _);(try rw[hni]);first|refine ae.val [] h18' zq ⟨⟨rfl,rfl,trivial⟩,rfl,rfl,rfl,trivial⟩ rfl rfl (aO _ _ _) ?_|refine ae.val [] h18 zq ⟨⟨rfl,rfl,trivial⟩,rfl,rfl,rfl,trivial⟩ rfl rfl (aO _ _ _) ?_)|((with_reducible show ae _ _ 43 _ _ _ _);(try rw[hni]);first|refine ae.val [] h43' zO ⟨⟨rfl,rfl,trivial⟩,rfl,rfl,rfl,trivial⟩ rfl rfl (aO _ _ _) ?_|refine ae.val [] h43 zO ⟨⟨rfl,rfl,trivial⟩,rfl,rfl,rfl,trivial⟩ rfl rfl (aO _ _ _) ?_)|((with_reducible show ae _ _ 33 _ _ _ _);first|refine ae.lit [] h33 vZ ⟨⟨rfl,rfl,trivial⟩,⟨rfl,rfl,trivial⟩,trivial⟩ rfl rfl ?_|refine ae.lit [] h33' vZ ⟨⟨rfl,rfl,trivial⟩,⟨rfl,rfl,trivial⟩,trivial⟩ rfl rfl ?_)|((with_reducible show aI _ _ _ _);refine dK ?_))<;>with_reducible refine wK ?_)|((with_reducible show(_∧_)∧_∧_);(refine eK ?_ ?_<;>with_reducible repeat' (first|exact trivial|(show _∧_;refine aK ?_ ?_))))));all_goals clear fct)
              all_goals first|rfl|trace_state
            · have h43:=ru ⟨l,m⟩ hs i s 0 (by omega)
              have h43':=ru t htt i s 0 (by omega)
              rw[hk4] at h43
              rw[hk5] at h43'
              obtain⟨t1,t2⟩:=t
              obtain⟨w1,w2,w3,w4,w5,w6,w7,w8,w9⟩:=z
              simp only at hk6
              subst hk6
              refine aj.aD (rvs:=[.tmp 8]) G au Tryz.func8 rfl Tryz.ntmps8 rfl rfl ?_;with_reducible refine wD ?_
              (have fct:=And.intro hlm (And.intro fp (And.intro f0 (And.intro hz1 (And.intro hz2 (And.intro hsv (hsl))))));(repeat' (first|refine gF ?_|((first|((with_reducible show ae _ _ 26 _ _ _ _);refine ae.lit [] h26 s9 trivial rfl rfl ?_)|((with_reducible show ae _ _ 16 _ _ _ _);refine ae.lit [] h16 sM ⟨⟨rfl,rfl,trivial⟩,trivial⟩ rfl rfl ?_)|((with_reducible show ae _ _ 17 _ _ _ _);refine ae.lit [] h17 qy ⟨⟨rfl,rfl,trivial⟩,trivial⟩ rfl rfl ?_)|(refine fJ.int (by kernel_rfl) (by kernel_rfl) (wrap_u8 ha) ?_)|(refine aZ.rem ha.1 (by(try simp only[az]);omega) rfl rfl rfl rfl ?_)|((with_reducible show aN _ _ _ _ _);first|refine aN.mk i (aL _) hni (ay hx) ?_|refine aN.mk pn (aL _) rfl (ay hy) ?_|refine aN.mk 0 (je _) rfl rfl ?_)|((with_reducible show ae _ _ 29 _ _ _ _);(try rw[hni]);refine ae.val [] h29 zI ⟨⟨rfl,rfl,trivial⟩,rfl,rfl,rfl,trivial⟩ rfl rfl (aO _ _ _) ?_)|((with_reducible show ae _ _ 18 _ _ _ _);(try rw[hni]);first|refine ae.val [] h18' zq ⟨⟨rfl,rfl,trivial⟩,rfl,rfl,rfl,trivial⟩ rfl rfl (aO _ _ _) ?_|refine ae.val [] h18 zq ⟨⟨rfl,rfl,trivial⟩,rfl,rfl,rfl,trivial⟩ rfl rfl (aO _ _ _) ?_)|((with_reducible show ae _ _ 43 _ _ _ _);(try rw[hni]);first|refine ae.val [] h43' zO ⟨⟨rfl,rfl,trivial⟩,rfl,rfl,rfl,trivial⟩ rfl rfl (aO _ _ _) ?_|refine ae.val [] h43 zO ⟨⟨rfl,rfl,trivial⟩,rfl,rfl,rfl,trivial⟩ rfl rfl (aO _ _ _) ?_)|((with_reducible show ae _ _ 33 _ _ _ _);first|refine ae.lit [] h33 vZ ⟨⟨rfl,rfl,trivial⟩,⟨rfl,rfl,trivial⟩,trivial⟩ rfl rfl ?_|refine ae.lit [] h33' vZ ⟨⟨rfl,rfl,trivial⟩,⟨rfl,rfl,trivial⟩,trivial⟩ rfl rfl ?_)|((with_reducible show aI _ _ _ _);refine dK ?_))<;>with_reducible refine wK ?_)|((with_reducible show(_∧_)∧_∧_);(refine eK ?_ ?_<;>with_reducible repeat' (first|exact trivial|(show _∧_;refine aK ?_ ?_))))));all_goals clear fct)
              all_goals first|rfl|trace_state
        · have hins:=EH R ht hp h0
          have h29:=yD ⟨l,m⟩ hs h60 i (nd l i).parent i
          rw[LK hins.1 hins.2] at h29
          rw[hcx] at h29 hp h0 q
          generalize(eL ⟨l,m⟩ i x.parent i).2.1=ns0 at h29
          obtain⟨pn,y,hpn,hy,hny⟩:=aW.1 q.2.1
          rw[hny] at h0
          rw[hpn] at h29
          clear q hins
          have fp:=eq_false hp
          have f0:=eq_false h0
          obtain⟨x1,x2,x3,x4,x5,x6,x7,x8,x9,x10⟩:=x
          obtain⟨y1,y2,y3,y4,y5,y6,y7,y8,y9,y10⟩:=y
          simp only at hpn fp f0
          subst hpn
          rcases key with⟨e,he,hk1⟩|⟨g,had,o,hg,hk1,hk2,hk3⟩
          · rw[hk1] at h18
            have fe:=eq_false he
            refine aj.aD (rvs:=[.tmp 8]) G au Tryz.func8 rfl Tryz.ntmps8 rfl rfl ?_;with_reducible refine wD ?_
            (have fct:=And.intro hlm (And.intro fp (And.intro f0 (And.intro hz1 (And.intro hz2 (fe)))));(repeat' (first|refine gF ?_|((first|((with_reducible show ae _ _ 26 _ _ _ _);refine ae.lit [] h26 s9 trivial rfl rfl ?_)|((with_reducible show ae _ _ 16 _ _ _ _);refine ae.lit [] h16 sM ⟨⟨rfl,rfl,trivial⟩,trivial⟩ rfl rfl ?_)|((with_reducible show ae _ _ 17 _ _ _ _);refine ae.lit [] h17 qy ⟨⟨rfl,rfl,trivial⟩,trivial⟩ rfl rfl ?_)|(refine fJ.int (by kernel_rfl) (by kernel_rfl) (wrap_u8 ha) ?_)|(refine aZ.rem ha.1 (by(try simp only[az]);omega) rfl rfl rfl rfl ?_)|((with_reducible show aN _ _ _ _ _);first|refine aN.mk i (aL _) hni (ay hx) ?_|refine aN.mk pn (aL _) rfl (ay hy) ?_|refine aN.mk 0 (je _) rfl rfl ?_)|((with_reducible show ae _ _ 29 _ _ _ _);(try rw[hni]);refine ae.val [] h29 zI ⟨⟨rfl,rfl,trivial⟩,rfl,rfl,rfl,trivial⟩ rfl rfl (aO _ _ _) ?_)|((with_reducible show ae _ _ 18 _ _ _ _);(try rw[hni]);first|refine ae.val [] h18' zq ⟨⟨rfl,rfl,trivial⟩,rfl,rfl,rfl,trivial⟩ rfl rfl (aO _ _ _) ?_|refine ae.val [] h18 zq ⟨⟨rfl,rfl,trivial⟩,rfl,rfl,rfl,trivial⟩ rfl rfl (aO _ _ _) ?_)|((with_reducible show ae _ _ 43 _ _ _ _);(try rw[hni]);first|refine ae.val [] h43' zO ⟨⟨rfl,rfl,trivial⟩,rfl,rfl,rfl,trivial⟩ rfl rfl (aO _ _ _) ?_|refine ae.val [] h43 zO ⟨⟨rfl,rfl,trivial⟩,rfl,rfl,rfl,trivial⟩ rfl rfl (aO _ _ _) ?_)|((with_reducible show ae _ _ 33 _ _ _ _);first|refine ae.lit [] h33 vZ ⟨⟨rfl,rfl,trivial⟩,⟨rfl,rfl,trivial⟩,trivial⟩ rfl rfl ?_|refine ae.lit [] h33' vZ ⟨⟨rfl,rfl,trivial⟩,⟨rfl,rfl,trivial⟩,trivial⟩ rfl rfl ?_)|((with_reducible show aI _ _ _ _);refine dK ?_))<;>with_reducible refine wK ?_)|((with_reducible show(_∧_)∧_∧_);(refine eK ?_ ?_<;>with_reducible repeat' (first|exact trivial|(show _∧_;refine aK ?_ ?_))))));all_goals clear fct)
            all_goals first|rfl|trace_state
          · have h33':=n5 g hg
            have h18':=uk g hg i s v (by omega)
            rw[hk1] at h18
            rw[hk2] at h18'
            obtain⟨g1,g2⟩:=g
            rcases hk3 with rfl|⟨t,ns,z,rfl,htt,hk4,hk5,hk6⟩
            · refine aj.aD (rvs:=[.tmp 8]) G au Tryz.func8 rfl Tryz.ntmps8 rfl rfl ?_;with_reducible refine wD ?_
              (have fct:=And.intro hlm (And.intro fp (And.intro f0 (And.intro hz1 (And.intro hz2 (And.intro hsv (hsl))))));(repeat' (first|refine gF ?_|((first|((with_reducible show ae _ _ 26 _ _ _ _);refine ae.lit [] h26 s9 trivial rfl rfl ?_)|((with_reducible show ae _ _ 16 _ _ _ _);refine ae.lit [] h16 sM ⟨⟨rfl,rfl,trivial⟩,trivial⟩ rfl rfl ?_)|((with_reducible show ae _ _ 17 _ _ _ _);refine ae.lit [] h17 qy ⟨⟨rfl,rfl,trivial⟩,trivial⟩ rfl rfl ?_)|(refine fJ.int (by kernel_rfl) (by kernel_rfl) (wrap_u8 ha) ?_)|(refine aZ.rem ha.1 (by(try simp only[az]);omega) rfl rfl rfl rfl ?_)|((with_reducible show aN _ _ _ _ _);first|refine aN.mk i (aL _) hni (ay hx) ?_|refine aN.mk pn (aL _) rfl (ay hy) ?_|refine aN.mk 0 (je _) rfl rfl ?_)|((with_reducible show ae _ _ 29 _ _ _ _);(try rw[hni]);refine ae.val [] h29 zI ⟨⟨rfl,rfl,trivial⟩,rfl,rfl,rfl,trivial⟩ rfl rfl (aO _ _ _) ?_)|((with_reducible show ae _ _ 18 _ _ _ _);(try rw[hni]);first|refine ae.val [] h18' zq ⟨⟨rfl,rfl,trivial⟩,rfl,rfl,rfl,trivial⟩ rfl rfl (aO _ _ _) ?_|refine ae.val [] h18 zq ⟨⟨rfl,rfl,trivial⟩,rfl,rfl,rfl,trivial⟩ rfl rfl (aO _ _ _) ?_)|((with_reducible show ae _ _ 43 _ _ _ _);(try rw[hni]);first|refine ae.val [] h43' zO ⟨⟨rfl,rfl,trivial⟩,rfl,rfl,rfl,trivial⟩ rfl rfl (aO _ _ _) ?_|refine ae.val [] h43 zO ⟨⟨rfl,rfl,trivial⟩,rfl,rfl,rfl,trivial⟩ rfl rfl (aO _ _ _) ?_)|((with_reducible show ae _ _ 33 _ _ _ _);first|refine ae.lit [] h33 vZ ⟨⟨rfl,rfl,trivial⟩,⟨rfl,rfl,trivial⟩,trivial⟩ rfl rfl ?_|refine ae.lit [] h33' vZ ⟨⟨rfl,rfl,trivial⟩,⟨rfl,rfl,trivial⟩,trivial⟩ rfl rfl ?_)|((with_reducible show aI _ _ _ _);refine dK ?_))<;>with_reducible refine wK ?_)|((with_reducible show(_∧_)∧_∧_);(refine eK ?_ ?_<;>with_reducible repeat' (first|exact trivial|(show _∧_;refine aK ?_ ?_))))));all_goals clear fct)
              all_goals first|rfl|trace_state
            · have h43:=ru ⟨l,m⟩ hs i s 0 (by omega)
              have h43':=ru t htt i s 0 (by omega)
              rw[hk4] at h43
              rw[hk5] at h43'
              obtain⟨t1,t2⟩:=t
              obtain⟨w1,w2,w3,w4,w5,w6,w7,w8,w9⟩:=z
              simp only at hk6
              subst hk6
              refine aj.aD (rvs:=[.tmp 8]) G au Tryz.func8 rfl Tryz.ntmps8 rfl rfl ?_;with_reducible refine wD ?_
              (have fct:=And.intro hlm (And.intro fp (And.intro f0 (And.intro hz1 (And.intro hz2 (And.intro hsv (hsl))))));(repeat' (first|refine gF ?_|((first|((with_reducible show ae _ _ 26 _ _ _ _);refine ae.lit [] h26 s9 trivial rfl rfl ?_)|((with_reducible show ae _ _ 16 _ _ _ _);refine ae.lit [] h16 sM ⟨⟨rfl,rfl,trivial⟩,trivial⟩ rfl rfl ?_)|((with_reducible show ae _ _ 17 _ _ _ _);refine ae.lit [] h17 qy ⟨⟨rfl,rfl,trivial⟩,trivial⟩ rfl rfl ?_)|(refine fJ.int (by kernel_rfl) (by kernel_rfl) (wrap_u8 ha) ?_)|(refine aZ.rem ha.1 (by(try simp only[az]);omega) rfl rfl rfl rfl ?_)|((with_reducible show aN _ _ _ _ _);first|refine aN.mk i (aL _) hni (ay hx) ?_|refine aN.mk pn (aL _) rfl (ay hy) ?_|refine aN.mk 0 (je _) rfl rfl ?_)|((with_reducible show ae _ _ 29 _ _ _ _);(try rw[hni]);refine ae.val [] h29 zI ⟨⟨rfl,rfl,trivial⟩,rfl,rfl,rfl,trivial⟩ rfl rfl (aO _ _ _) ?_)|((with_reducible show ae _ _ 18 _ _ _ _);(try rw[hni]);first|refine ae.val [] h18' zq ⟨⟨rfl,rfl,trivial⟩,rfl,rfl,rfl,trivial⟩ rfl rfl (aO _ _ _) ?_|refine ae.val [] h18 zq ⟨⟨rfl,rfl,trivial⟩,rfl,rfl,rfl,trivial⟩ rfl rfl (aO _ _ _) ?_)|((with_reducible show ae _ _ 43 _ _ _ _);(try rw[hni]);first|refine ae.val [] h43' zO ⟨⟨rfl,rfl,trivial⟩,rfl,rfl,rfl,trivial⟩ rfl rfl (aO _ _ _) ?_|refine ae.val [] h43 zO ⟨⟨rfl,rfl,trivial⟩,rfl,rfl,rfl,trivial⟩ rfl rfl (aO _ _ _) ?_)|((with_reducible show ae _ _ 33 _ _ _ _);first|refine ae.lit [] h33 vZ ⟨⟨rfl,rfl,trivial⟩,⟨rfl,rfl,trivial⟩,trivial⟩ rfl rfl ?_|refine ae.lit [] h33' vZ ⟨⟨rfl,rfl,trivial⟩,⟨rfl,rfl,trivial⟩,trivial⟩ rfl rfl ?_)|((with_reducible show aI _ _ _ _);refine dK ?_))<;>with_reducible refine wK ?_)|((with_reducible show(_∧_)∧_∧_);(refine eK ?_ ?_<;>with_reducible repeat' (first|exact trivial|(show _∧_;refine aK ?_ ?_))))));all_goals clear fct)
              all_goals first|rfl|trace_state
end Go.Proofs.Heir
end
