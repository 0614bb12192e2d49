/- Models, plain laws and contracts of functions of the given program; conditions as stated in each theorem. By an AI agent. -/
import Derived.Test.YtkhjcnjicjgfiaaGreatDoorWD16
import Derived.Test.YtkhjcnjicjgfiaaGreatDoorWD25
import Derived.Test.YtkhjcnjicjgfiaaGreatDoorWD32
import Derived.Test.YtkhjcnjicjgfiaaGreatDoorWD15
import Derived.Test.YtkhjcnjicjgfiaaGreatDoorWD5
import Derived.Test.YtkhjcnjicjgfiaaGreatDoorRows
import Derived.ProofKit
import Derived.LaidMore
import Derived.OpenShut
import Derived.Stop.Joined
import Derived.Lib.LaidTab
import Derived.MakeChecks
set_option linter.unusedSimpArgs false
set_option linter.unusedVariables false
namespace Go.Proofs.Heir
open Go Go.Am Go.RowKit Go.Lib
set_option maxRecDepth 100000
set_option maxHeartbeats 8000000
theorem Jp {x:ai}(h:kz x eW≠none):∃a∈x.attrs,a.name=eW:=by
  unfold kz at h
  by_cases q:0≤iM x.attrs eW
  · rcases q6 x.attrs eW with e|⟨k,a,_,ha,hn⟩
    ·rw[e] at q;omega
    ·exact⟨a,bN ha,by rw[hn];decide+kernel⟩
  ·rw[if_neg q] at h;exact absurd rfl h
def IP (l:List AttrM)(j:Nat):Bool:=(l.take j).any fun a=>decide (a.name=eW)
theorem HL {l:List AttrM}{j:Nat}{a:AttrM}(h:l[j]? =some a):IP l (j+1)=(IP l j||decide (a.name=eW)):=by
  unfold IP
  rw[List.take_add_one,h,List.any_append]
  simp
theorem yV {f:ForM}{st:List StateM}{d:bw}{cs:List aM}:(iO f st d cs).length≤2*st.length:=by
  unfold iO
  split
  ·exact xp f d cs st st.length
  ·simp
theorem Bo {l:List ai}{k:Nat}(h:k<l.length):∃x,l[k]? =some x∧nd l (k:Int)=x:=by
  obtain⟨x,hx⟩:∃x,l[k]? =some x:=⟨_,bh h⟩
  exact⟨x,hx,fZ hx⟩
theorem vK {l:List ai}{k:Nat}(h:k<l.length):aa l (k:Int)=true:=by
  unfold aa
  rw[dB (by omega:(0:Int)≤k),dB (by omega:(k:Int)<l.length)];rfl
theorem lM (st:List StateM)(od:List ej):bj (.tup [eP st,kj od])=true:=by
  have h1:aV (st.map eR)=true:=dL eR (fun _=>rfl) _
  have h2:aV (od.map iU)=true:=dL iU (fun _=>rfl) _
  simp[bj,aV,h1,h2]
theorem Lf (f:ForM)(st:List StateM)(d:bw)(cs:List aM)(a:Int)(ha:0≤a∧a<256):an Tryz.prog 14 [] [bF f,eP st,gN d,dN cs,.lit (.int .u8 a)] [] (aX true):=by
  have h51:=LZ
  have h52:=L3 f st d cs
  cases hw:qv f st d cs with
  | false=>
    rw[hw] at h52
    obtain⟨l,m⟩:=f
    obtain⟨d1,d2,d3,d4⟩:=d
    refine an.aF (rvs:=[.tmp 10]) G aq Tryz.func14 rfl Tryz.ntmps14 rfl rfl ?_;with_reducible refine wD ?_
    repeat' (first|refine gK ?_|((first|((with_reducible show ah _ _ 51 _ _ _ _);refine ah.lit [] h51 N0 trivial rfl rfl ?_)|((with_reducible show ah _ _ 52 _ _ _ _);refine ah.lit [] h52 N1 ⟨⟨rfl,rfl,trivial⟩,rfl,⟨rfl,rfl,rfl,rfl,trivial⟩,rfl,trivial⟩ rfl rfl ?_))<;>with_reducible refine wK ?_)|((with_reducible show(_∧_)∧_∧_);(refine eK ?_ ?_<;>with_reducible repeat' (first|exact trivial|(show _∧_;refine aK ?_ ?_)))))
    all_goals rfl
  | true =>
    rw[hw] at h52
    have W:=EH hw
    have hpos:1≤f.nodes.length:=by
      have h0:=W.rf
      unfold aU oF at h0
      simp only[bJ,bH] at h0
      exact h0.1.1.1.2
    have h60:f.nodes.length≤60:=by
      have:=hw
      unfold qv at this
      simp only[bJ] at this
      have h1:=this.1.1.1
      rw[Aa] at h1;simp only[bJ,bH] at h1;exact h1.1
    have hcs:∀c∈cs,c.hooks.length≤100000:=fun c hc=>(W.hc c hc).hooks
    have h53:=BL f W.hs st (by have:=W.len;omega) d W.hd cs hcs
    have hl1:=Ho (f:=f) (st:=st) (d:=d) (cs:=cs)
    obtain⟨l,m⟩:=f
    have R:RF l m:=lV.1 W.rf
    have hs:=W.hs
    have hlk:=W.look
    have hstl:=W.len
    simp only at hpos h60 hstl hs
    have hlm:(l.map cj).length=l.length:=bM ..
    obtain⟨i,x,hni,hx,hnx⟩:=Ia (l:=l) (n:=a% ((l.map cj).length:Int)) (by rw[hlm];exact⟨Int.emod_nonneg _ (by omega),Int.emod_lt_of_pos _ (by omega)⟩)
    have ht:=eF hx
    have hcx:=fZ hx
    have h32:=K9 ⟨l,m⟩ hs i
    by_cases hp:(nd l i).parent=-1
    · rw[tQ R ht hp] at h32
      obtain⟨d1,d2,d3,d4⟩:=d
      refine an.aF (rvs:=[.tmp 10]) G aq Tryz.func14 rfl Tryz.ntmps14 rfl rfl ?_;with_reducible refine wD ?_
      (have fct:=hlm;(repeat' (first|refine gF ?_|((first|((with_reducible show ah _ _ 51 _ _ _ _);refine ah.lit [] h51 N0 trivial rfl rfl ?_)|((with_reducible show ah _ _ 52 _ _ _ _);refine ah.lit [] h52 N1 ⟨⟨rfl,rfl,trivial⟩,rfl,⟨rfl,rfl,rfl,rfl,trivial⟩,rfl,trivial⟩ rfl rfl ?_)|(refine ni.int (by kernel_rfl) (by kernel_rfl) (wrap_u8 (by assumption)) ?_)|(refine bt.rem (by(try simp only[ak]);omega) (by(try simp only[ak]);omega) rfl rfl rfl rfl ?_)|((with_reducible show bn _ _ _ _ _);refine bn.mk i (aR _) (by first|exact hni|rfl) (aI hx) ?_)|((with_reducible show ah _ _ 32 _ _ _ _);(try rw[hni]);refine ah.val [] h32 Pk ⟨⟨rfl,rfl,trivial⟩,rfl,trivial⟩ rfl rfl (oP _ _ _) ?_)|((with_reducible show ah _ _ 53 _ _ _ _);first|refine ah.val [] h53 Nh ⟨⟨rfl,rfl,trivial⟩,rfl,⟨rfl,rfl,rfl,rfl,trivial⟩,rfl,trivial⟩ rfl rfl (lM _ _) ?_|refine ah.val [] h53' Nh ⟨⟨rfl,rfl,trivial⟩,rfl,⟨rfl,rfl,rfl,rfl,trivial⟩,rfl,trivial⟩ rfl rfl (lM _ _) ?_)|((with_reducible show aH _ _ _ _);refine dK ?_))<;>with_reducible refine wK ?_)|((with_reducible show(_∧_)∧_∧_);(refine eK ?_ ?_<;>with_reducible repeat' (first|exact trivial|(show _∧_;refine aK ?_ ?_))))));all_goals clear fct)
      all_goals first|rfl|trace_state
    rw[ur R ht hp] at h32
    have R1:=qp R ht
    have hlo:(dh l i).length=l.length:=o5 ..
    have hs1:=E3 R1 (by omega)
    have h53':=BL ⟨dh l i,m⟩ hs1 (fg ⟨l,m⟩ st d cs) (by rw[hl1];omega) d W.hd cs hcs
    have hdl:=yV (f:=⟨dh l i,m⟩) (st:=fg ⟨l,m⟩ st d cs) (d:=d) (cs:=cs)
    have law:=fun y (hy:y∈iO ⟨dh l i,m⟩ (fg ⟨l,m⟩ st d cs) d cs)=>BF R ht hp hstl hlk hy
    have hup:aa l (nd l i).parent=true:=(R.par i ht hp).2.1
    have h20:=fun k (hk:k<l.length)=>F5 ⟨l,m⟩ hs W.rf i (k:Int) ht (vK hk)
    have h20p:=fun k (hk:k<l.length)=>F5 ⟨l,m⟩ hs W.rf (nd l i).parent (k:Int) hup (vK hk)
    generalize iO ⟨dh l i,m⟩ (fg ⟨l,m⟩ st d cs) d cs=od at*
    generalize iO ⟨l,m⟩ st d cs=od0 at*
    generalize fg ⟨dh l i,m⟩ (fg ⟨l,m⟩ st d cs) d cs=st2 at*
    generalize fg ⟨l,m⟩ st d cs=st1 at*
    generalize(if pI l i=true then ru l i (kZ 2 0 0) else[])=tl at*
    rw[hcx] at hp law h20p
    generalize dh l i=lo at*
    obtain⟨x1,x2,x3,x4,x5,x6,x7,x8,x9,x10⟩:=x
    simp only at hp law h20p
    have fp:=eq_false hp
    have hom:(od.map iU).length=od.length:=bM ..
    have hodl:od.length≤1000:=by omega
    obtain⟨d1,d2,d3,d4⟩:=d
    refine an.aF (rvs:=[.tmp 10]) G aq Tryz.func14 rfl Tryz.ntmps14 rfl rfl ?_;with_reducible refine wD ?_
    (have fct:=And.intro hlm (fp);(repeat' (first|refine gF ?_|((first|((with_reducible show ah _ _ 51 _ _ _ _);refine ah.lit [] h51 N0 trivial rfl rfl ?_)|((with_reducible show ah _ _ 52 _ _ _ _);refine ah.lit [] h52 N1 ⟨⟨rfl,rfl,trivial⟩,rfl,⟨rfl,rfl,rfl,rfl,trivial⟩,rfl,trivial⟩ rfl rfl ?_)|(refine ni.int (by kernel_rfl) (by kernel_rfl) (wrap_u8 (by assumption)) ?_)|(refine bt.rem (by(try simp only[ak]);omega) (by(try simp only[ak]);omega) rfl rfl rfl rfl ?_)|((with_reducible show bn _ _ _ _ _);refine bn.mk i (aR _) (by first|exact hni|rfl) (aI hx) ?_)|((with_reducible show ah _ _ 32 _ _ _ _);(try rw[hni]);refine ah.val [] h32 Pk ⟨⟨rfl,rfl,trivial⟩,rfl,trivial⟩ rfl rfl (oP _ _ _) ?_)|((with_reducible show ah _ _ 53 _ _ _ _);first|refine ah.val [] h53 Nh ⟨⟨rfl,rfl,trivial⟩,rfl,⟨rfl,rfl,rfl,rfl,trivial⟩,rfl,trivial⟩ rfl rfl (lM _ _) ?_|refine ah.val [] h53' Nh ⟨⟨rfl,rfl,trivial⟩,rfl,⟨rfl,rfl,rfl,rfl,trivial⟩,rfl,trivial⟩ rfl rfl (lM _ _) ?_)|((with_reducible show aH _ _ _ _);refine dK ?_))<;>with_reducible refine wK ?_)|((with_reducible show(_∧_)∧_∧_);(refine eK ?_ ?_<;>with_reducible repeat' (first|exact trivial|(show _∧_;refine aK ?_ ?_))))));all_goals clear fct)
    refine bD.use G aq (fun(j:Nat)=>[(5,.ptr 50 0 0),(11,ay (i:Int)),(12,ay x6),(19,kj od),(20,ay j)]) (fun _=>[(50,.live 2 [bF ⟨l,m⟩] false)]) (fun j=>j≤od.length) (fun j=>od.length-j) 0 (Nat.zero_le _) ?_ ?_
    · (refine fK ?_;(with_reducible repeat' (first|exact trivial|(show _∧_;refine aK ?_ ?_)));(all_goals try rfl))
      all_goals first|exact hni|rfl|exact⟨rfl,rfl⟩|trace_state
    intro j hj
    with_reducible refine wK ?_
    refine aL.mk (fun h1=>?_) (fun h1=>?_)<;>(try simp only[ak] at h1)<;>with_reducible refine wK ?_
    · have hjl:j<od.length:=by simp only[bH,ak] at h1;omega
      obtain⟨y,hy⟩:∃y,od[j]? =some y:=⟨_,bh hjl⟩
      obtain⟨k,hkl,hyk,hcase⟩:=law y (bN hy)
      have h20:=h20 k hkl
      have h20p:=h20p k hkl
      obtain⟨z,hz,hzn⟩:=Bo hkl
      have hzal:z.attrs.length≤60:=hs.attrs z (bN hz)
      have hby:kz (nd l k) eW≠none→IP z.attrs z.attrs.length=true:=fun q=>by
        rw[hzn] at q
        obtain⟨b,hb,hbn⟩:=Jp q
        unfold IP
        rw[List.take_length,List.any_eq_true]
        exact⟨b,hb,dB hbn⟩
      unfold BY at h20 h20p
      have hcase2:(y.todo.kind=5∧(decide ((i:Int)∈bk l k)=true∨IP z.attrs z.attrs.length=true))∨(y.todo.kind=6∧decide (x6∈bk l k)=true):=by
        rcases hcase with⟨q1,q2|q2⟩|⟨q1,q2⟩
        ·exact .inl ⟨q1,.inl (dB q2)⟩
        ·exact .inl ⟨q1,.inr (hby q2)⟩
        ·exact .inr ⟨q1,dB q2⟩
      clear law hcase hby hzn
      generalize decide ((i:Int)∈bk l k)=hi at*
      generalize decide (x6∈bk l k)=hq at*
      obtain⟨yn,yt⟩:=y
      obtain⟨t1,t2,t3,t4,t5,t6,t7,t8,t9,t10⟩:=yt
      obtain⟨z1,z2,z3,z4,z5,z6,z7,z8,z9,z10⟩:=z
      simp only at hyk hcase2 hzal
      subst hyk
      have hzm:(z5.map gZ).length=z5.length:=bM ..
      have f0:=eq_false (show ¬ (k:Int)<0 by omega)
      have f1:=eq_false (show ¬ (l.length:Int)≤ (k:Int) by omega)
      (have fct:=And.intro hlm (And.intro f0 (f1));(repeat' (first|refine gF ?_|((first|((with_reducible show bn _ _ _ _ _);refine bn.mk j (mP _) rfl (Hh hy) ?_)|((with_reducible show aH _ _ _ _);refine dK ?_))<;>with_reducible refine wK ?_)|((with_reducible show(_∧_)∧_∧_);(refine eK ?_ ?_<;>with_reducible repeat' (first|exact trivial|(show _∧_;refine aK ?_ ?_))))));all_goals clear fct)
      refine bD.use G aq (fun(u:Nat)=>[(5,.ptr 50 0 0),(11,ay (i:Int)),(12,ay x6),(19,kj od),(20,ay j),(21,ay (k:Int)),(22,.ptr 220 0 0),(23,aX (IP z5 u)),(24,ay u)])
        (fun _=>[(50,.live 2 [bF ⟨l,m⟩] false),(220,.live 10 [uK ⟨t1,t2,t3,t4,t5,t6,t7,t8,t9,t10⟩] false)]) (fun u=>u≤z5.length) (fun u=>z5.length-u) 0 (Nat.zero_le _) ?_ ?_
      · (refine fK ?_;(with_reducible repeat' (first|exact trivial|(show _∧_;refine aK ?_ ?_)));(all_goals try rfl))
        all_goals first|rfl|exact⟨rfl,rfl⟩|trace_state
      intro u hu
      with_reducible refine wK ?_
      refine bn.mk k (aR _) rfl (aI hz) ?_;with_reducible refine wK ?_
      refine aL.mk (fun h2=>?_) (fun h2=>?_)<;>(try simp only[ak] at h2)<;>with_reducible refine wK ?_
      · have hul:u<z5.length:=by simp only[bH,ak] at h2;omega
        obtain⟨b,hb⟩:∃b,z5[u]? =some b:=⟨_,bh hul⟩
        have hst:=HL hb
        obtain⟨b1,b2⟩:=b
        simp only at hst
        clear hcase2
        generalize IP z5 u=v at*
        cases v with
        | true=>
          rw[Bool.true_or] at hst
          repeat' (first|refine gK ?_|((first|((with_reducible show bn _ _ _ _ _);refine bn.mk k (aR _) rfl (aI hz) ?_)|((with_reducible show aH _ _ _ _);refine dK ?_))<;>with_reducible refine wK ?_)|((with_reducible show(_∧_)∧_∧_);(refine eK ?_ ?_<;>with_reducible repeat' (first|exact trivial|(show _∧_;refine aK ?_ ?_)))))
          refine aT.mk (u+1) (by omega) (by omega) ?_
          rw[hst]
          (refine fK ?_;(with_reducible repeat' (first|exact trivial|(show _∧_;refine aK ?_ ?_)));(all_goals try rfl))
          all_goals first|rfl|exact⟨rfl,rfl⟩|trace_state
        | false=>
          rw[Bool.false_or] at hst
          repeat' (first|refine gK ?_|((first|((with_reducible show bn _ _ _ _ _);first|refine bn.mk k (aR _) rfl (aI hz) ?_|refine bn.mk u (oe _) rfl (p6 hb) ?_)|((with_reducible show aH _ _ _ _);refine dK ?_))<;>with_reducible refine wK ?_)|((with_reducible show(_∧_)∧_∧_);(refine eK ?_ ?_<;>with_reducible repeat' (first|exact trivial|(show _∧_;refine aK ?_ ?_)))))
          refine aT.mk (u+1) (by omega) (by omega) ?_
          rw[hst]
          (refine fK ?_;(with_reducible repeat' (first|exact trivial|(show _∧_;refine aK ?_ ?_)));(all_goals try rfl))
          all_goals first|rfl|exact⟨rfl,rfl⟩|trace_state
      obtain rfl:u=z5.length:=by simp only[dG,ak] at h2;omega
      generalize IP z5 z5.length=v at*
      rcases hcase2 with⟨rfl,q⟩|⟨rfl,rfl⟩
      · have q2:(hi||v)=true:=by
          rcases q with rfl|rfl
          ·rfl
          ·cases hi<;>rfl
        clear q
        cases hi<;>cases v
        ·cases q2
        · repeat' (first|refine gK ?_|((first|((with_reducible show ah _ _ 20 _ _ _ _);first|refine ah.lit [] h20 CK ⟨⟨rfl,rfl,trivial⟩,rfl,rfl,trivial⟩ rfl rfl ?_|refine ah.lit [] h20p CK ⟨⟨rfl,rfl,trivial⟩,rfl,rfl,trivial⟩ rfl rfl ?_)|((with_reducible show aH _ _ _ _);refine dK ?_))<;>with_reducible refine wK ?_)|((with_reducible show(_∧_)∧_∧_);(refine eK ?_ ?_<;>with_reducible repeat' (first|exact trivial|(show _∧_;refine aK ?_ ?_)))))
          refine aT.mk (j+1) (by omega) (by omega) ?_
          (refine fK ?_;(with_reducible repeat' (first|exact trivial|(show _∧_;refine aK ?_ ?_)));(all_goals try rfl))
          all_goals first|rfl|exact⟨rfl,rfl⟩|trace_state
        · repeat' (first|refine gK ?_|((first|((with_reducible show ah _ _ 20 _ _ _ _);first|refine ah.lit [] h20 CK ⟨⟨rfl,rfl,trivial⟩,rfl,rfl,trivial⟩ rfl rfl ?_|refine ah.lit [] h20p CK ⟨⟨rfl,rfl,trivial⟩,rfl,rfl,trivial⟩ rfl rfl ?_)|((with_reducible show aH _ _ _ _);refine dK ?_))<;>with_reducible refine wK ?_)|((with_reducible show(_∧_)∧_∧_);(refine eK ?_ ?_<;>with_reducible repeat' (first|exact trivial|(show _∧_;refine aK ?_ ?_)))))
          refine aT.mk (j+1) (by omega) (by omega) ?_
          (refine fK ?_;(with_reducible repeat' (first|exact trivial|(show _∧_;refine aK ?_ ?_)));(all_goals try rfl))
          all_goals first|rfl|exact⟨rfl,rfl⟩|trace_state
        · repeat' (first|refine gK ?_|((first|((with_reducible show ah _ _ 20 _ _ _ _);first|refine ah.lit [] h20 CK ⟨⟨rfl,rfl,trivial⟩,rfl,rfl,trivial⟩ rfl rfl ?_|refine ah.lit [] h20p CK ⟨⟨rfl,rfl,trivial⟩,rfl,rfl,trivial⟩ rfl rfl ?_)|((with_reducible show aH _ _ _ _);refine dK ?_))<;>with_reducible refine wK ?_)|((with_reducible show(_∧_)∧_∧_);(refine eK ?_ ?_<;>with_reducible repeat' (first|exact trivial|(show _∧_;refine aK ?_ ?_)))))
          refine aT.mk (j+1) (by omega) (by omega) ?_
          (refine fK ?_;(with_reducible repeat' (first|exact trivial|(show _∧_;refine aK ?_ ?_)));(all_goals try rfl))
          all_goals first|rfl|exact⟨rfl,rfl⟩|trace_state
      · cases hi<;>cases v
        · repeat' (first|refine gK ?_|((first|((with_reducible show ah _ _ 20 _ _ _ _);first|refine ah.lit [] h20 CK ⟨⟨rfl,rfl,trivial⟩,rfl,rfl,trivial⟩ rfl rfl ?_|refine ah.lit [] h20p CK ⟨⟨rfl,rfl,trivial⟩,rfl,rfl,trivial⟩ rfl rfl ?_)|((with_reducible show aH _ _ _ _);refine dK ?_))<;>with_reducible refine wK ?_)|((with_reducible show(_∧_)∧_∧_);(refine eK ?_ ?_<;>with_reducible repeat' (first|exact trivial|(show _∧_;refine aK ?_ ?_)))))
          refine aT.mk (j+1) (by omega) (by omega) ?_
          (refine fK ?_;(with_reducible repeat' (first|exact trivial|(show _∧_;refine aK ?_ ?_)));(all_goals try rfl))
          all_goals first|rfl|exact⟨rfl,rfl⟩|trace_state
        · repeat' (first|refine gK ?_|((first|((with_reducible show ah _ _ 20 _ _ _ _);first|refine ah.lit [] h20 CK ⟨⟨rfl,rfl,trivial⟩,rfl,rfl,trivial⟩ rfl rfl ?_|refine ah.lit [] h20p CK ⟨⟨rfl,rfl,trivial⟩,rfl,rfl,trivial⟩ rfl rfl ?_)|((with_reducible show aH _ _ _ _);refine dK ?_))<;>with_reducible refine wK ?_)|((with_reducible show(_∧_)∧_∧_);(refine eK ?_ ?_<;>with_reducible repeat' (first|exact trivial|(show _∧_;refine aK ?_ ?_)))))
          refine aT.mk (j+1) (by omega) (by omega) ?_
          (refine fK ?_;(with_reducible repeat' (first|exact trivial|(show _∧_;refine aK ?_ ?_)));(all_goals try rfl))
          all_goals first|rfl|exact⟨rfl,rfl⟩|trace_state
        · repeat' (first|refine gK ?_|((first|((with_reducible show ah _ _ 20 _ _ _ _);first|refine ah.lit [] h20 CK ⟨⟨rfl,rfl,trivial⟩,rfl,rfl,trivial⟩ rfl rfl ?_|refine ah.lit [] h20p CK ⟨⟨rfl,rfl,trivial⟩,rfl,rfl,trivial⟩ rfl rfl ?_)|((with_reducible show aH _ _ _ _);refine dK ?_))<;>with_reducible refine wK ?_)|((with_reducible show(_∧_)∧_∧_);(refine eK ?_ ?_<;>with_reducible repeat' (first|exact trivial|(show _∧_;refine aK ?_ ?_)))))
          refine aT.mk (j+1) (by omega) (by omega) ?_
          (refine fK ?_;(with_reducible repeat' (first|exact trivial|(show _∧_;refine aK ?_ ?_)));(all_goals try rfl))
          all_goals first|rfl|exact⟨rfl,rfl⟩|trace_state
        · repeat' (first|refine gK ?_|((first|((with_reducible show ah _ _ 20 _ _ _ _);first|refine ah.lit [] h20 CK ⟨⟨rfl,rfl,trivial⟩,rfl,rfl,trivial⟩ rfl rfl ?_|refine ah.lit [] h20p CK ⟨⟨rfl,rfl,trivial⟩,rfl,rfl,trivial⟩ rfl rfl ?_)|((with_reducible show aH _ _ _ _);refine dK ?_))<;>with_reducible refine wK ?_)|((with_reducible show(_∧_)∧_∧_);(refine eK ?_ ?_<;>with_reducible repeat' (first|exact trivial|(show _∧_;refine aK ?_ ?_)))))
          refine aT.mk (j+1) (by omega) (by omega) ?_
          (refine fK ?_;(with_reducible repeat' (first|exact trivial|(show _∧_;refine aK ?_ ?_)));(all_goals try rfl))
          all_goals first|rfl|exact⟨rfl,rfl⟩|trace_state
    · repeat' (first|refine gK ?_|((with_reducible show(_∧_)∧_∧_);(refine eK ?_ ?_<;>with_reducible repeat' (first|exact trivial|(show _∧_;refine aK ?_ ?_)))))
      all_goals first|rfl|trace_state
theorem tu:Reads Tryz.prog 9 1 cw (fun s=>s.size≤maxLen):=Reads.str Tryz.underlying9 (by kernel_rfl)
theorem mc:Reads Tryz.prog 3 1 bu (fun _=>True):=(Reads.int Tryz.underlying3 (by kernel_rfl)).conv id id (fun _=>rfl) (fun _=>rfl) (fun _ _=>trivial)
theorem Cj:Reads Tryz.prog 4 1 (fun b:Bool=>.lit (.bool b)) (fun _=>True):=Reads.bool Tryz.underlying4 (by kernel_rfl)
theorem Ob:Reads Tryz.prog 147 3 Bt (fun _=>True):=
 (Reads.struct (l:=[(0,9),(1,9),(2,3)]) Tryz.underlying147 (by kernel_rfl) rfl (.cons tu (.cons tu (.cons mc .nil)))).conv
  (fun(a,b,c,_)=>⟨a,b,c⟩) (fun t=>(t.name,t.locl,t.cls,())) (fun _=>rfl) (fun _=>rfl) (fun _ _=>trivial)
theorem MQ:Reads Tryz.prog 205 2 vh (fun _=>True):=
 (Reads.struct (l:=[(0,9),(1,3)]) Tryz.underlying205 (by kernel_rfl) rfl (.cons tu (.cons mc .nil))).conv
  (fun(a,b,_)=>⟨a,b⟩) (fun t=>(t.name,t.ticket,())) (fun _=>rfl) (fun _=>rfl) (fun _ _=>trivial)
theorem KQ:Reads Tryz.prog 76 1 Di (fun _=>True):=(Reads.slice Tryz.underlying76 (by kernel_rfl) Ob (by omega)).conv id id (fun _=>rfl) (fun _=>rfl) (fun _ _=>trivial)
theorem J8:Reads Tryz.prog 77 1 xU (fun _=>True):=(Reads.slice Tryz.underlying77 (by kernel_rfl) MQ (by omega)).conv id id (fun _=>rfl) (fun _=>rfl) (fun _ _=>trivial)
theorem Np:Reads Tryz.prog 79 4 gN (fun _=>True):=
 (Reads.struct (l:=[(0,76),(1,77),(2,3),(3,4)]) Tryz.underlying79 (by kernel_rfl) rfl (.cons KQ (.cons J8 (.cons mc (.cons Cj .nil))))).conv
  (fun(a,b,c,e,_)=>⟨a,b,c,e⟩) (fun t=>(t.defs,t.waits,t.next,t.busy,())) (fun _=>rfl) (fun _=>rfl) (fun _ _=>trivial)
theorem M3:Reads Tryz.prog 90 2 gZ (fun _=>True):=
 (Reads.struct (l:=[(0,9),(1,9)]) Tryz.underlying90 (by kernel_rfl) rfl (.cons tu (.cons tu .nil))).conv
  (fun(a,b,_)=>⟨a,b⟩) (fun t=>(t.name,t.value,())) (fun _=>rfl) (fun _=>rfl) (fun _ _=>trivial)
theorem J3:Reads Tryz.prog 32 1 gT (fun _=>True):=(Reads.slice Tryz.underlying32 (by kernel_rfl) M3 (by omega)).conv id id (fun _=>rfl) (fun _=>rfl) (fun _ _=>trivial)
theorem Mb:Reads Tryz.prog 33 1 cN (fun _=>True):=(Reads.slice Tryz.underlying33 (by kernel_rfl) mc (by omega)).conv id id (fun _=>rfl) (fun _=>rfl) (fun _ _=>trivial)
theorem Nv:Reads Tryz.prog 35 10 cj (fun _=>True):=
 (Reads.struct (l:=[(0,3),(1,9),(2,9),(3,9),(4,32),(5,3),(6,33),(7,3),(8,3),(9,3)]) Tryz.underlying35 (by kernel_rfl) rfl
  (.cons mc (.cons tu (.cons tu (.cons tu (.cons J3 (.cons mc (.cons Mb (.cons mc (.cons mc (.cons mc .nil))))))))))).conv
  (fun(a,b,c,d,e,f,g,h,i,j,_)=>⟨a,b,c,d,e,f,g,h,i,j⟩)
  (fun t=>(t.kind,t.name,t.is,t.data,t.attrs,t.parent,t.kids,t.host,t.under,t.doc,())) (fun _=>rfl) (fun _=>rfl) (fun _ _=>trivial)
theorem Ij:Reads Tryz.prog 22 1 gq (fun _=>True):=(Reads.slice Tryz.underlying22 (by kernel_rfl) Nv (by omega)).conv id id (fun _=>rfl) (fun _=>rfl) (fun _ _=>trivial)
theorem N4:Reads Tryz.prog 24 2 bF (fun _=>True):=
 (Reads.struct (l:=[(0,22),(1,3)]) Tryz.underlying24 (by kernel_rfl) rfl (.cons Ij (.cons mc .nil))).conv
  (fun(a,b,_)=>⟨a,b⟩) (fun t=>(t.nodes,t.most,())) (fun _=>rfl) (fun _=>rfl) (fun _ _=>trivial)
theorem laid:Go.laidOutB Tryz.prog=true:=by kernel_rfl
abbrev mS:List (String×DataW Unit):=[("errors.errorType",Go.Proofs.YtkhjcnjicjgfiaaGreatDoor.Rows.laid_errors_errorType),("unicode.White_Space",Go.Proofs.YtkhjcnjicjgfiaaGreatDoor.Rows.laid_unicode_White_Space),("strings.asciiSpace",Go.Proofs.YtkhjcnjicjgfiaaGreatDoor.Rows.laid_strings_asciiSpace)]
theorem LD:(Go.Proofs.YtkhjcnjicjgfiaaGreatDoor.Rows.laid_strings_asciiSpace:DataW Unit)=Lib.tabData .u8 Lib.asciiSpaceTab:=by kernel_rfl
theorem Gw (os:Os)(args:Array Value):laidMetH Tryz.prog mS ((World.doorLaid Tryz.prog 33 os).forCall (fun _ _=>0) ⟨#[],args,[]⟩).memory:=
 laidMetH_of_parts3 (fuel:=8) (laidMet_of_run' 8 (by kernel_rfl) (by kernel_rfl)) (by kernel_rfl) (by kernel_rfl)
theorem Pz:Tryz.prog.globalNamed "strings.asciiSpace" =some 2:=by kernel_rfl
theorem Oo:(Tryz.prog.globals[2]?).map (·.type)=some 285:=by kernel_rfl
theorem w8 {W:World}(h:laidMetH Tryz.prog mS W):jc Tryz.prog W fun _=>none:=by
 have hP:laidMet Tryz.prog [("unicode.White_Space",Go.Proofs.YtkhjcnjicjgfiaaGreatDoor.Rows.laid_unicode_White_Space),("strings.asciiSpace",Go.Proofs.YtkhjcnjicjgfiaaGreatDoor.Rows.laid_strings_asciiSpace)] W:=h.1
 have h':handlesMet Tryz.prog [("errors.errorType",Go.Proofs.YtkhjcnjicjgfiaaGreatDoor.Rows.laid_errors_errorType)] W:=h.2
 refine⟨fun g hg=>?_,fun g hg=>?_⟩
 · obtain⟨ps,⟨g0,t0,cs0,f0,p0,q0,hg0,ht0,hv0,hd0,⟨g1,t1,cs1,f1,p1,q1,hg1,ht1,hv1,hd1,_,_⟩,_⟩,_⟩:=hP
   obtain rfl:=Option.some.inj (hg.symm.trans hg1)
   have e:g=2:=Option.some.inj (hg.symm.trans Pz)
   have ht:(Tryz.prog.globals[g]?).map (·.type)=some 285:=by rw[e];exact Oo
   obtain rfl:=Option.some.inj (ht.symm.trans ht1)
   rw[LD] at hd1
   have hc:=Lib.cells_of_tab Tryz.underlying285 Tryz.underlying5 (by kernel_rfl) (by kernel_rfl) hd1
   have htab:Lib.TabIs Tryz.prog W "strings.asciiSpace" .u8 Lib.asciiSpaceTab:=by
    unfold Lib.TabIs
    rw[hv1,←hc]
   have hcell:∀c:Nat,c<256→W.cell? ⟨g,c,none⟩=some (.int .u8 (if Lib.isSp (UInt8.ofNat c) then 1 else 0)):=fun c hc=>by
    rw[htab.cell hg c (by rw[Lib.asciiSpaceTab_length];exact hc),Lib.asciiSpaceTab_at c hc]
   exact⟨(by rintro⟨_,_,h,_⟩;cases h),World.block_lt_of_cell? _ _ (hcell 0 (by omega)),hcell⟩
 · have h0:=h' _ (kX.2 rfl)
   have h1:∃name u ty,(DataW.handleName? (Go.Proofs.YtkhjcnjicjgfiaaGreatDoor.Rows.laid_errors_errorType:DataW Unit))=some name∧(Tryz.prog.cutTypes.find? (·.1== "internal/reflectlite.rtype")).map (·.2)=some u∧ty<Tryz.prog.types.size∧Tryz.prog.rowNamed ty name=true∧
     W.var? Tryz.prog "errors.errorType" =some #[.iface u (.agg #[typeHandle Tryz.prog ty])]:=h0
   obtain⟨name,u,ty,k1,k2,k3,k4,k5⟩:=h1
   obtain rfl:[101,114,114,111,114]=name:=Option.some.inj k1
   have e:g=0:=Option.some.inj (hg.symm.trans (by kernel_rfl))
   subst e
   unfold World.var? at k5
   rw[hg] at k5
   simp only[Option.bind_some] at k5
   refine⟨(by rintro⟨_,_,h,_⟩;cases h),?_,_,⟨u,ty,k2,k3,k4,rfl⟩,?_⟩
   · split at k5
     ·rename_i hh;exact(Array.getElem?_eq_some_iff.1 hh).1
     ·cases k5
   · split at k5
     · rename_i cs _ _ hh
       obtain rfl:cs=_:=Option.some.inj k5
       simp[World.cell?,hh]
     ·cases k5
theorem PB:Reads Tryz.prog 321 7 KE (fun _=>True):=
 (Reads.struct (l:=[(0,3),(1,3),(2,3),(3,3),(4,9),(5,9),(6,4)]) Tryz.underlying321 (by kernel_rfl) rfl (.cons mc (.cons mc (.cons mc (.cons mc (.cons tu (.cons tu (.cons Cj .nil)))))))).conv
  (fun(a,b,c,d,e,f,g,_)=>⟨a,b,c,d,e,f,g⟩) (fun t=>(t.kind,t.a,t.b,t.c,t.s,t.t,t.must,())) (fun _=>rfl) (fun _=>rfl) (fun _ _=>trivial)
theorem FH:Reads Tryz.prog 148 1 GQ (fun _=>True):=(Reads.slice Tryz.underlying148 (by kernel_rfl) PB (by omega)).conv id id (fun _=>rfl) (fun _=>rfl) (fun _ _=>trivial)
theorem MH:Reads Tryz.prog 150 2 mQ (fun _=>True):=
 (Reads.struct (l:=[(0,3),(1,148)]) Tryz.underlying150 (by kernel_rfl) rfl (.cons mc (.cons FH .nil))).conv
  (fun(a,b,_)=>⟨a,b⟩) (fun t=>(t.kind,t.prog,())) (fun _=>rfl) (fun _=>rfl) (fun _ _=>trivial)
theorem JC:Reads Tryz.prog 151 1 qW (fun _=>True):=(Reads.slice Tryz.underlying151 (by kernel_rfl) MH (by omega)).conv id id (fun _=>rfl) (fun _=>rfl) (fun _ _=>trivial)
theorem MI:Reads Tryz.prog 9 1 oJ (fun s=>s.size≤maxLen):=tu.conv id id (fun _=>rfl) (fun _=>rfl) (fun _ h=>h)
theorem Mi:Reads Tryz.prog 152 1 sB (fun _=>True):=(Reads.slice Tryz.underlying152 (by kernel_rfl) MI (by omega)).conv id id (fun _=>rfl) (fun _=>rfl) (fun _ _=>trivial)
theorem Lj:Reads Tryz.prog 154 5 s8 (fun _=>True):=
 (Reads.struct (l:=[(0,4),(1,152),(2,148),(3,148),(4,151)]) Tryz.underlying154 (by kernel_rfl) rfl (.cons Cj (.cons Mi (.cons FH (.cons FH (.cons JC .nil)))))).conv
  (fun(a,b,c,d,e,_)=>⟨a,b,c,d,e⟩) (fun t=>(t.form,t.watch,t.peek,t.make,t.hooks,())) (fun _=>rfl) (fun _=>rfl) (fun _ _=>trivial)
theorem Gm:Reads Tryz.prog 80 1 dN (fun _=>True):=(Reads.slice Tryz.underlying80 (by kernel_rfl) Lj (by omega)).conv id id (fun _=>rfl) (fun _=>rfl) (fun _ _=>trivial)
theorem KZ:Reads Tryz.prog 156 4 eR (fun _=>True):=
 (Reads.struct (l:=[(0,3),(1,3),(2,3),(3,4)]) Tryz.underlying156 (by kernel_rfl) rfl (.cons mc (.cons mc (.cons mc (.cons Cj .nil))))).conv
  (fun(a,b,c,d,_)=>⟨a,b,c,d⟩) (fun t=>(t.phase,t.df,t.owner,t.barred,())) (fun _=>rfl) (fun _=>rfl) (fun _ _=>trivial)
theorem JR:Reads Tryz.prog 75 1 eP (fun _=>True):=(Reads.slice Tryz.underlying75 (by kernel_rfl) KZ (by omega)).conv id id (fun _=>rfl) (fun _=>rfl) (fun _ _=>trivial)
end Go.Proofs.Heir
