/- Models, plain laws and contracts of functions of the given program; conditions as stated in each theorem. By an AI agent. -/
import Derived.Test.YtkhjcnjicjgfiaaGreatDoorW31
import Derived.Test.YtkhjcnjicjgfiaaGreatDoorW30
set_option linter.unusedSimpArgs false
set_option linter.unusedVariables false
section
namespace Go.Proofs.Heir
open Go Go.Am Go.RowKit Go.Lib
set_option maxRecDepth 100000
set_option maxHeartbeats 8000000
variable {l l' : List ai} {m : Int}
def FK (m:Int)(p:Nat)(b:Int)(l:List ai)(ns:List aO)(k:Int)(l':List ai)(ns':List aO):Prop:=
  ∃ (kn:Nat) (y0 y1 yk:ai) (l1 l2:List ai) (n1 tl:List aO) (conn:Bool) (k3:List Int),k=(kn:Int)∧l[p]? =some y0∧aj Tryz.prog 161 [] [kU ⟨l,m⟩ ns,ah k,ah y0.doc] [] (kU ⟨l1,m⟩ n1)∧
    l1[p]? =some y1∧y1.kids.length≤60∧mz b k y1.kids++ (if b=-1 then[k] else[])=k3∧aj Tryz.prog 156 [] [aN ⟨l1,m⟩,ah p,aG {y1 with kids:=k3}] [] (aN ⟨l2,m⟩)∧
    l2[kn]? =some yk∧aj Tryz.prog 156 [] [aN ⟨l2,m⟩,ah k,aG {yk with parent:=(p:Int)}] [] (aN ⟨l',m⟩)∧
    aj Tryz.prog 154 [] [aN ⟨l',m⟩,ah k] [] (bA conn)∧aj Tryz.prog 155 [] [kU ⟨l',m⟩ n1,ah k,lz (dY 1 0 0)] [] (kU ⟨l',m⟩ (n1++tl))∧ns'=n1++ (if conn=true then tl else[])
theorem vJ {n p:Nat}{b:Int}{parts:List Int}{y:ai}{us ls:Nat→List ai}{uns nss:Nat→List aO}(hpl:parts.length≤1000)(hy:(us 0)[n]? =some y)
    (h158:aj Tryz.prog 158 [] [aN ⟨us 0,m⟩,ah n] [] (bY parts))
    (hcase:(y.kind=3∧ls 0=us parts.length∧nss 0=uns parts.length)∨(y.kind≠3∧ls 0=us 0∧nss 0=uns 0))
    (hu:y.kind=3→∀j k,parts[j]? =some k→aj Tryz.prog 89 [] [kU ⟨us j,m⟩ (uns j),ah k] [] (kU ⟨us (j+1),m⟩ (uns (j+1))))
    (hr:∀j k,parts[j]? =some k→FK m p b (ls j) (nss j) k (ls (j+1)) (nss (j+1))):
    aj Tryz.prog 93 [] [kU ⟨us 0,m⟩ (uns 0),ah n,ah p,ah b] [] (kU ⟨ls parts.length,m⟩ (nss parts.length)):=by
  have hpm:(parts.map bJ).length=parts.length:=bP ..
  obtain⟨y1,y2,y3,y4,y5,y6,y7,y8,y9,y10⟩:=y
  simp only at hcase hu
  refine And.left (b:=True) ?_
  apply Jd
  · intro tail
    rcases hcase with⟨rfl,hc1,hc2⟩|⟨hk,hc1,hc2⟩
    · have hu:=hu rfl
      refine aj.aA (rvs:=[.cell 8 56]) G ak Tryz.func93 rfl Tryz.ntmps93 rfl rfl ?_;with_reducible refine wD ?_
      repeat' (first
    |refine gK ?_
    | ((first
      |((with_reducible show aH _ _ _ _ _);refine aH.mk n (aG _) rfl (az hy) ?_)
      |((with_reducible show ae _ _ 158 _ _ _ _);refine ae.val [] h158 DV ⟨⟨rfl,rfl,trivial⟩,rfl,trivial⟩ rfl rfl rfl ?_)
      |((with_reducible show aB _ _ _ _);refine dK ?_))<;>with_reducible refine wK ?_)
    | ((with_reducible show(_∧_)∧_∧_);(refine eK ?_ ?_<;>with_reducible repeat' (first|exact trivial|(show _∧_;refine aK ?_ ?_)))))
      refine bE.use G ak (fun(j:Nat)=>[(1,ah (n:Int)),(2,ah (p:Int)),(3,ah b),(4,.ptr 40 0 0),(8,.ptr 80 0 0),(9,bY parts),(10,ah j)])
        (fun j=>[(40,.live 3 [kU ⟨us j,m⟩ (uns j)] false),(80,.live 3 [.agg [.lit (.slice none 0 0),ah 0,.lit (.slice none 0 0)]] false)]) (fun j=>j≤parts.length) (fun j=>parts.length-j) 0 (Nat.zero_le _) ?_ ?_
      · (refine fK ?_;(with_reducible repeat' (first|exact trivial|(show _∧_;refine aK ?_ ?_)));(all_goals try rfl))
        all_goals first|exact .inl rfl|rfl|exact⟨rfl,rfl⟩|trace_state
      intro j hj
      with_reducible refine wK ?_
      refine aM.mk (fun h1=>?_) (fun h1=>?_)<;>(try simp only[aq] at h1)<;>with_reducible refine wK ?_
      · have hjl:j<parts.length:=by simp only[aP,aq] at h1;omega
        obtain⟨k,hk⟩:∃k,parts[j]? =some k:=⟨_,bH hjl⟩
        have h89:=hu j k hk
        have hn89:=dX ⟨us (j+1),m⟩ (uns (j+1))
        repeat' (first
    |refine gK ?_
    | ((first
      |((with_reducible show aH _ _ _ _ _);refine aH.mk j (ah k) rfl (ct hk) ?_)
      |((with_reducible show ae _ _ 89 _ _ _ _);refine ae.val [] h89 KU ⟨⟨rfl,rfl,rfl,trivial⟩,rfl,trivial⟩ rfl rfl hn89 ?_)
      |((with_reducible show aB _ _ _ _);refine dK ?_))<;>with_reducible refine wK ?_)
    | ((with_reducible show(_∧_)∧_∧_);(refine eK ?_ ?_<;>with_reducible repeat' (first|exact trivial|(show _∧_;refine aK ?_ ?_)))))
        refine aW.mk (j+1) (by omega) (by omega) ?_
        (refine fK ?_;(with_reducible repeat' (first|exact trivial|(show _∧_;refine aK ?_ ?_)));(all_goals try rfl))
        all_goals first|exact .inl rfl|rfl|exact⟨rfl,rfl⟩|trace_state
      · obtain rfl:j=parts.length:=by simp only[cj,aq] at h1;omega
        rw[←hc1,←hc2]
        repeat' (first
    |refine gK ?_
    |(((with_reducible show aB _ _ _ _);refine dK ?_)<;>with_reducible refine wK ?_)
    | ((with_reducible show(_∧_)∧_∧_);(refine eK ?_ ?_<;>with_reducible repeat' (first|exact trivial|(show _∧_;refine aK ?_ ?_)))))
        refine bE.use G ak (fun(j:Nat)=>[(2,ah (p:Int)),(3,ah b),(4,.ptr 40 0 0),(8,.ptr 80 0 0),(9,bY parts),(11,ah j)])
          (fun j=>[(40,.live 3 [kU ⟨ls j,m⟩ (nss j)] false),(80,.live 3 [.agg [.lit (.slice none 0 0),ah 0,.lit (.slice none 0 0)]] false)]) (fun j=>j≤parts.length) (fun j=>parts.length-j) 0 (Nat.zero_le _) ?_ ?_
        · (refine fK ?_;(with_reducible repeat' (first|exact trivial|(show _∧_;refine aK ?_ ?_)));(all_goals try rfl))
          all_goals first|exact .inl rfl|rfl|exact⟨rfl,rfl⟩|trace_state
        ·exact tail.get
    · have fk:=eq_false hk
      rw[←hc1] at h158 hy
      rw[←hc1,←hc2]
      refine aj.aA (rvs:=[.cell 8 56]) G ak Tryz.func93 rfl Tryz.ntmps93 rfl rfl ?_;with_reducible refine wD ?_
      (have fct:=fk;(repeat' (first
    |refine gF ?_
    | ((first
      |((with_reducible show aH _ _ _ _ _);refine aH.mk n (aG _) rfl (az hy) ?_)
      |((with_reducible show ae _ _ 158 _ _ _ _);refine ae.val [] h158 DV ⟨⟨rfl,rfl,trivial⟩,rfl,trivial⟩ rfl rfl rfl ?_)
      |((with_reducible show aB _ _ _ _);refine dK ?_))<;>with_reducible refine wK ?_)
    | ((with_reducible show(_∧_)∧_∧_);(refine eK ?_ ?_<;>with_reducible repeat' (first|exact trivial|(show _∧_;refine aK ?_ ?_))))));all_goals clear fct)
      refine bE.use G ak (fun(j:Nat)=>[(2,ah (p:Int)),(3,ah b),(4,.ptr 40 0 0),(8,.ptr 80 0 0),(9,bY parts),(11,ah j)])
        (fun j=>[(40,.live 3 [kU ⟨ls j,m⟩ (nss j)] false),(80,.live 3 [.agg [.lit (.slice none 0 0),ah 0,.lit (.slice none 0 0)]] false)]) (fun j=>j≤parts.length) (fun j=>parts.length-j) 0 (Nat.zero_le _) ?_ ?_
      · (refine fK ?_;(with_reducible repeat' (first|exact trivial|(show _∧_;refine aK ?_ ?_)));(all_goals try rfl))
        all_goals first|exact .inl rfl|rfl|exact⟨rfl,rfl⟩|trace_state
      ·exact tail.get
  intro j hj
  with_reducible refine wK ?_
  refine aM.mk (fun h1=>?_) (fun h1=>?_)<;>(try simp only[aq] at h1)<;>with_reducible refine wK ?_
  · have hjl:j<parts.length:=by simp only[aP,aq] at h1;omega
    obtain⟨k,hk⟩:∃k,parts[j]? =some k:=⟨_,bH hjl⟩
    obtain⟨kn,y0,z,w,l1,l2,n1,tl,conn,k3,hkn,hy0,h161,hz,hzl,hk3,h156,hw,h156',h154,h155,hns⟩:=hr j k hk
    clear hcase hu hr h158 hy
    generalize hl':ls (j+1)=l' at*
    generalize hn':nss (j+1)=ns' at*
    generalize ls j=l at*
    generalize nss j=ns at*
    have hn161:=dX ⟨l1,m⟩ n1
    have hn1:=lH ⟨l2,m⟩
    have hn2:=lH ⟨l',m⟩
    have hn3:=dX ⟨l',m⟩ (n1++tl)
    obtain⟨b1,b2,b3,b4,b5,b6,b7,b8,b9,b10⟩:=y0
    obtain⟨z1,z2,z3,z4,z5,z6,z7,z8,z9,z10⟩:=z
    obtain⟨w1,w2,w3,w4,w5,w6,w7,w8,w9,w10⟩:=w
    simp only at h161 hzl hk3 h156 h156'
    have hzm:(z7.map bJ).length=z7.length:=bP ..
    repeat' (first
    |refine gK ?_
    | ((first
      |((with_reducible show aH _ _ _ _ _);first|refine aH.mk j (ah k) rfl (ct hk) ?_|refine aH.mk p (aG _) rfl (az hy0) ?_|refine aH.mk p (aG _) rfl (az hz) ?_)
      |((with_reducible show ae _ _ 161 _ _ _ _);refine ae.val [] h161 MO ⟨⟨rfl,rfl,rfl,trivial⟩,rfl,rfl,trivial⟩ rfl rfl hn161 ?_)
      |((with_reducible show aB _ _ _ _);refine dK ?_))<;>with_reducible refine wK ?_)
    |((with_reducible show(_∧_)∧_∧_);(refine eK ?_ ?_<;>with_reducible repeat' (first|exact trivial|(show _∧_;refine aK ?_ ?_)))))
    refine bE.ghost 13 131 1 rfl rfl ?_
    obtain⟨W,hW⟩:∃W:Nat→List Int,W=fun u=>mz b k (z7.take u):=⟨_,rfl⟩
    have hw0:W 0=[]:=by rw[hW];rfl
    have hwe:W z7.length++ (if b=-1 then[k] else[])=k3:=by rw[hW];simp only;rw[List.take_length];exact hk3
    have hwl:∀u,(W u).length≤120:=fun u=>by rw[hW];have:=vP b k (z7.take u);rw[gd] at this;simp only;omega
    have hws:∀u x,z7[u]? =some x→W (u+1)=W u++if x=b then[k,x] else[x]:=fun u x h=>by rw[hW];exact Ay h
    clear hW hk3
    refine bE.use G ak (fun(u:Nat)=>[(2,ah (p:Int)),(3,ah b),(4,.ptr 40 0 0),(8,.ptr 80 0 0),(9,bY parts),(11,ah j),(12,.ptr 120 0 0),(13,.own 131 0 (W u).length),(14,ah u)])
      (fun u=>[(40,.live 3 [kU ⟨l1,m⟩ n1] false),(80,.live 3 [.agg [.lit (.slice none 0 0),ah 0,.lit (.slice none 0 0)]] false),(120,.live 10 [aG ⟨z1,z2,z3,z4,z5,z6,z7,z8,z9,z10⟩] false),(131,aF (W u))])
      (fun u=>u≤z7.length) (fun u=>z7.length-u) 0 (Nat.zero_le _) ?_ ?_
    · rw[hw0]
      (refine fK ?_;(with_reducible repeat' (first|exact trivial|(show _∧_;refine aK ?_ ?_)));(all_goals try rfl))
      all_goals first|exact iJ rfl|exact .inl rfl|rfl|(simp;done)|exact⟨rfl,rfl⟩|trace_state
    intro u hu
    have hwu:=hwl u
    with_reducible refine wK ?_
    refine aM.mk (fun h2=>?_) (fun h2=>?_)<;>(try simp only[aq] at h2)<;>with_reducible refine wK ?_
    · have hul:u<z7.length:=by simp only[aP,aq] at h2;omega
      obtain⟨x,hx⟩:∃x,z7[u]? =some x:=⟨_,bH hul⟩
      have hst:=hws u x hx
      by_cases e:x=b
      · rw[if_pos e] at hst
        have fx:=eq_true e
        (have fct:=fx;(repeat' (first
    |refine gF ?_
    | ((first
      |((with_reducible show aH _ _ _ _ _);first|refine aH.mk u (ah x) rfl (ct hx) ?_|refine aH.mk j (ah k) rfl (ct hk) ?_)
      |((with_reducible show dO _ _ _ _ _ _ _ _ _ _);first|refine dO.mk ((W u).map bJ) [ah k] ⟨rfl,(bP ..).symm,rfl⟩ ⟨rfl,rfl,rfl⟩ rfl (by simp;omega) (by simp;omega) ?_|refine dO.mk _ [ah x] ⟨rfl,rfl,rfl⟩ ⟨rfl,rfl,rfl⟩ rfl (by simp;omega) (by simp;omega) ?_)
      |((with_reducible show aB _ _ _ _);refine dK ?_))<;>with_reducible refine wK ?_)
    | ((with_reducible show(_∧_)∧_∧_);(refine eK ?_ ?_<;>with_reducible repeat' (first|exact trivial|(show _∧_;refine aK ?_ ?_))))));all_goals clear fct)
        refine aW.mk (u+1) (by omega) (by omega) ?_
        rw[hst]
        (refine fK ?_;(with_reducible repeat' (first|exact trivial|(show _∧_;refine aK ?_ ?_)));(all_goals try rfl))
        all_goals first|exact iJ (by simp;rfl)|exact iJ (by simp[bJ])|exact .inl rfl|rfl|(simp;done)|exact⟨rfl,rfl⟩|trace_state
      · rw[if_neg e] at hst
        have fx:=eq_false e
        (have fct:=fx;(repeat' (first
    |refine gF ?_
    | ((first
      |((with_reducible show aH _ _ _ _ _);refine aH.mk u (ah x) rfl (ct hx) ?_)
      |((with_reducible show dO _ _ _ _ _ _ _ _ _ _);refine dO.mk ((W u).map bJ) [ah x] ⟨rfl,(bP ..).symm,rfl⟩ ⟨rfl,rfl,rfl⟩ rfl (by simp;omega) (by simp;omega) ?_)
      |((with_reducible show aB _ _ _ _);refine dK ?_))<;>with_reducible refine wK ?_)
    | ((with_reducible show(_∧_)∧_∧_);(refine eK ?_ ?_<;>with_reducible repeat' (first|exact trivial|(show _∧_;refine aK ?_ ?_))))));all_goals clear fct)
        refine aW.mk (u+1) (by omega) (by omega) ?_
        rw[hst]
        (refine fK ?_;(with_reducible repeat' (first|exact trivial|(show _∧_;refine aK ?_ ?_)));(all_goals try rfl))
        all_goals first|exact iJ (by simp;rfl)|exact iJ (by simp[bJ])|exact .inl rfl|rfl|(simp;done)|exact⟨rfl,rfl⟩|trace_state
    · obtain rfl:u=z7.length:=by simp only[cj,aq] at h2;omega
      clear hws hwl
      by_cases eb:b=-1
      · rw [if_pos eb] at hwe
        have fb:=eq_true eb
        cases conn with
        | true=>
          have hns:ns'=n1++tl:=hns
          (have fct:=fb;(repeat' (first
    |refine gF ?_
    | ((first
      |((with_reducible show aH _ _ _ _ _);first|refine aH.mk j (ah k) rfl (ct hk) ?_|refine aH.mk kn (aG _) hkn (az hw) ?_)
      |((with_reducible show ae _ _ 156 _ _ _ _);first|refine ae.val [1021] h156 tN ⟨⟨rfl,rfl,trivial⟩,rfl,⟨rfl,rfl,rfl,rfl,rfl,rfl,bX rfl rfl (by rw[←hwe,gm];rfl) (by rw[←hwe];simp),rfl,rfl,rfl,trivial⟩,trivial⟩ rfl rfl hn1 ?_|refine ae.val [] h156' tN ⟨⟨rfl,rfl,trivial⟩,rfl,⟨rfl,rfl,rfl,rfl,rfl,rfl,rfl,rfl,rfl,rfl,trivial⟩,trivial⟩ rfl rfl hn2 ?_)
      |((with_reducible show ae _ _ 154 _ _ _ _);refine ae.lit [] h154 DQ ⟨⟨rfl,rfl,trivial⟩,rfl,trivial⟩ rfl rfl ?_)
      |((with_reducible show ae _ _ 155 _ _ _ _);refine ae.val [] h155 D2 ⟨⟨rfl,rfl,rfl,trivial⟩,rfl,⟨rfl,rfl,rfl,rfl,rfl,rfl,rfl,rfl,rfl,trivial⟩,trivial⟩ rfl rfl hn3 ?_)
      |((with_reducible show dO _ _ _ _ _ _ _ _ _ _);refine dO.mk ((W z7.length).map bJ) [ah k] ⟨rfl,(bP ..).symm,rfl⟩ ⟨rfl,rfl,rfl⟩ rfl (by simp;omega) (by simp;omega) ?_)
      |((with_reducible show aB _ _ _ _);refine dK ?_))<;>with_reducible refine wK ?_)
    | ((with_reducible show(_∧_)∧_∧_);(refine eK ?_ ?_<;>with_reducible repeat' (first|exact trivial|(show _∧_;refine aK ?_ ?_))))));all_goals clear fct)
          refine aW.mk (j+1) (by omega) (by omega) ?_
          rw[hl',hn',hns]
          (refine fK ?_;(with_reducible repeat' (first|exact trivial|(show _∧_;refine aK ?_ ?_)));(all_goals try rfl))
          all_goals first|exact .inl rfl|rfl|exact⟨rfl,rfl⟩|trace_state
        | false=>
          have hns:ns'=n1:=by rw[hns];exact List.append_nil _
          (have fct:=fb;(repeat' (first
    |refine gF ?_
    | ((first
      |((with_reducible show aH _ _ _ _ _);first|refine aH.mk j (ah k) rfl (ct hk) ?_|refine aH.mk kn (aG _) hkn (az hw) ?_)
      |((with_reducible show ae _ _ 156 _ _ _ _);first|refine ae.val [1021] h156 tN ⟨⟨rfl,rfl,trivial⟩,rfl,⟨rfl,rfl,rfl,rfl,rfl,rfl,bX rfl rfl (by rw[←hwe,gm];rfl) (by rw[←hwe];simp),rfl,rfl,rfl,trivial⟩,trivial⟩ rfl rfl hn1 ?_|refine ae.val [] h156' tN ⟨⟨rfl,rfl,trivial⟩,rfl,⟨rfl,rfl,rfl,rfl,rfl,rfl,rfl,rfl,rfl,rfl,trivial⟩,trivial⟩ rfl rfl hn2 ?_)
      |((with_reducible show ae _ _ 154 _ _ _ _);refine ae.lit [] h154 DQ ⟨⟨rfl,rfl,trivial⟩,rfl,trivial⟩ rfl rfl ?_)
      |((with_reducible show ae _ _ 155 _ _ _ _);refine ae.val [] h155 D2 ⟨⟨rfl,rfl,rfl,trivial⟩,rfl,⟨rfl,rfl,rfl,rfl,rfl,rfl,rfl,rfl,rfl,trivial⟩,trivial⟩ rfl rfl hn3 ?_)
      |((with_reducible show dO _ _ _ _ _ _ _ _ _ _);refine dO.mk ((W z7.length).map bJ) [ah k] ⟨rfl,(bP ..).symm,rfl⟩ ⟨rfl,rfl,rfl⟩ rfl (by simp;omega) (by simp;omega) ?_)
      |((with_reducible show aB _ _ _ _);refine dK ?_))<;>with_reducible refine wK ?_)
    | ((with_reducible show(_∧_)∧_∧_);(refine eK ?_ ?_<;>with_reducible repeat' (first|exact trivial|(show _∧_;refine aK ?_ ?_))))));all_goals clear fct)
          refine aW.mk (j+1) (by omega) (by omega) ?_
          rw[hl',hn',hns]
          (refine fK ?_;(with_reducible repeat' (first|exact trivial|(show _∧_;refine aK ?_ ?_)));(all_goals try rfl))
          all_goals first|exact .inl rfl|rfl|exact⟨rfl,rfl⟩|trace_state
      · rw [if_neg eb,List.append_nil] at hwe
        have fb:=eq_false eb
        cases conn with
        | true=>
          have hns:ns'=n1++tl:=hns
          (have fct:=fb;(repeat' (first
    |refine gF ?_
    | ((first
      |((with_reducible show aH _ _ _ _ _);first|refine aH.mk j (ah k) rfl (ct hk) ?_|refine aH.mk kn (aG _) hkn (az hw) ?_)
      |((with_reducible show ae _ _ 156 _ _ _ _);first|refine ae.val [131] h156 tN ⟨⟨rfl,rfl,trivial⟩,rfl,⟨rfl,rfl,rfl,rfl,rfl,rfl,bX rfl rfl (congrArg (List.map bJ) hwe) (congrArg List.length hwe),rfl,rfl,rfl,trivial⟩,trivial⟩ rfl rfl hn1 ?_|refine ae.val [] h156' tN ⟨⟨rfl,rfl,trivial⟩,rfl,⟨rfl,rfl,rfl,rfl,rfl,rfl,rfl,rfl,rfl,rfl,trivial⟩,trivial⟩ rfl rfl hn2 ?_)
      |((with_reducible show ae _ _ 154 _ _ _ _);refine ae.lit [] h154 DQ ⟨⟨rfl,rfl,trivial⟩,rfl,trivial⟩ rfl rfl ?_)
      |((with_reducible show ae _ _ 155 _ _ _ _);refine ae.val [] h155 D2 ⟨⟨rfl,rfl,rfl,trivial⟩,rfl,⟨rfl,rfl,rfl,rfl,rfl,rfl,rfl,rfl,rfl,trivial⟩,trivial⟩ rfl rfl hn3 ?_)
      |((with_reducible show dO _ _ _ _ _ _ _ _ _ _);refine dO.mk ((W z7.length).map bJ) [ah k] ⟨rfl,(bP ..).symm,rfl⟩ ⟨rfl,rfl,rfl⟩ rfl (by simp;omega) (by simp;omega) ?_)
      |((with_reducible show aB _ _ _ _);refine dK ?_))<;>with_reducible refine wK ?_)
    | ((with_reducible show(_∧_)∧_∧_);(refine eK ?_ ?_<;>with_reducible repeat' (first|exact trivial|(show _∧_;refine aK ?_ ?_))))));all_goals clear fct)
          refine aW.mk (j+1) (by omega) (by omega) ?_
          rw[hl',hn',hns]
          (refine fK ?_;(with_reducible repeat' (first|exact trivial|(show _∧_;refine aK ?_ ?_)));(all_goals try rfl))
          all_goals first|exact .inl rfl|rfl|exact⟨rfl,rfl⟩|trace_state
        | false=>
          have hns:ns'=n1:=by rw[hns];exact List.append_nil _
          (have fct:=fb;(repeat' (first
    |refine gF ?_
    | ((first
      |((with_reducible show aH _ _ _ _ _);first|refine aH.mk j (ah k) rfl (ct hk) ?_|refine aH.mk kn (aG _) hkn (az hw) ?_)
      |((with_reducible show ae _ _ 156 _ _ _ _);first|refine ae.val [131] h156 tN ⟨⟨rfl,rfl,trivial⟩,rfl,⟨rfl,rfl,rfl,rfl,rfl,rfl,bX rfl rfl (congrArg (List.map bJ) hwe) (congrArg List.length hwe),rfl,rfl,rfl,trivial⟩,trivial⟩ rfl rfl hn1 ?_|refine ae.val [] h156' tN ⟨⟨rfl,rfl,trivial⟩,rfl,⟨rfl,rfl,rfl,rfl,rfl,rfl,rfl,rfl,rfl,rfl,trivial⟩,trivial⟩ rfl rfl hn2 ?_)
      |((with_reducible show ae _ _ 154 _ _ _ _);refine ae.lit [] h154 DQ ⟨⟨rfl,rfl,trivial⟩,rfl,trivial⟩ rfl rfl ?_)
      |((with_reducible show ae _ _ 155 _ _ _ _);refine ae.val [] h155 D2 ⟨⟨rfl,rfl,rfl,trivial⟩,rfl,⟨rfl,rfl,rfl,rfl,rfl,rfl,rfl,rfl,rfl,trivial⟩,trivial⟩ rfl rfl hn3 ?_)
      |((with_reducible show dO _ _ _ _ _ _ _ _ _ _);refine dO.mk ((W z7.length).map bJ) [ah k] ⟨rfl,(bP ..).symm,rfl⟩ ⟨rfl,rfl,rfl⟩ rfl (by simp;omega) (by simp;omega) ?_)
      |((with_reducible show aB _ _ _ _);refine dK ?_))<;>with_reducible refine wK ?_)
    |((with_reducible show(_∧_)∧_∧_);(refine eK ?_ ?_<;>with_reducible repeat' (first|exact trivial|(show _∧_;refine aK ?_ ?_))))));all_goals clear fct)
          refine aW.mk (j+1) (by omega) (by omega) ?_
          rw[hl',hn',hns]
          (refine fK ?_;(with_reducible repeat' (first|exact trivial|(show _∧_;refine aK ?_ ?_)));(all_goals try rfl))
          all_goals first|exact .inl rfl|rfl|exact⟨rfl,rfl⟩|trace_state
  · obtain rfl:j=parts.length:=by simp only[cj,aq] at h1;omega
    repeat' (first
    |refine gK ?_
    |(((with_reducible show aB _ _ _ _);refine dK ?_)<;>with_reducible refine wK ?_)
    |((with_reducible show(_∧_)∧_∧_);(refine eK ?_ ?_<;>with_reducible repeat' (first|exact trivial|(show _∧_;refine aK ?_ ?_)))))
    all_goals first|rfl|exact⟨rfl,rfl⟩|trace_state
end Go.Proofs.Heir
end
section
namespace Go.Proofs.Heir
open Go Go.Am Go.RowKit Go.Lib
set_option maxRecDepth 100000
set_option maxHeartbeats 8000000
variable {l l' : List ai} {m : Int}
theorem DY (s:List Int)(c d:Int):iB l (s++ [c]) d=kg (iB l s d) c fun x=>{x with doc:=d}:=by
  unfold iB;rw[List.foldl_append];rfl
theorem qf {k:Nat}{x:ai}(hx:l[k]? =some x)(g:ai→ai):kg l k g=l.set k (g x):=by
  unfold kg;rw[cI hx,Int.toNat_natCast]
theorem vu (d:Int):∀ (s:List Int) {l:List ai},bq l→(∀c∈s,af l c=true)→bq (iB l s d)
  |[],_,hs,_=>hs
  | c ::s,l,hs,h=>by
    obtain⟨k,x,rfl,hx,_⟩:=aI.1 (h c gE)
    have e:iB l ((k:Int)::s) d=iB (l.set k {x with doc:=d}) s d:=by
      unfold iB;rw[List.foldl_cons,qf hx]
    rw[e]
    exact vu d s (vh hs hx (Nat.le_refl _) rfl rfl) (fun c hc=>by rw[bk (List.length_set ..)];exact h c (fJ _ hc))
theorem Dg {k d was:Int}{l0 l1:List ai}{ns n1 tl:List aO}{kn:Nat}{y:ai}{all:List Int}(hk:k=(kn:Int))(hy:l1[kn]? =some y)(hw:y.doc=was)(hd:was≠d)(hs:bq l1)(hl1:1≤l1.length)
    (hall:∀c∈all,af l1 c=true) (hal:all.length≤1000)
    (h89:aj Tryz.prog 89 [] [kU ⟨l0,m⟩ ns,ah k] [] (kU ⟨l1,m⟩ n1))
    (h197:aj Tryz.prog 197 [] [aN ⟨l1,m⟩,ah k] [] (bY all))
    (h155:aj Tryz.prog 155 [] [kU ⟨iB l1 all d,m⟩ n1,ah k,lz (dY 3 was d)] [] (kU ⟨iB l1 all d,m⟩ (n1++tl))):
    aj Tryz.prog 161 [] [kU ⟨l0,m⟩ ns,ah k,ah d] [] (kU ⟨iB l1 all d,m⟩ (n1++tl)):=by
  obtain⟨y1,y2,y3,y4,y5,y6,y7,y8,y9,y10⟩:=y
  simp only at hw
  subst hw
  have hn89:=dX ⟨l1,m⟩ n1
  have hn155:=dX ⟨iB l1 all d,m⟩ (n1++tl)
  have fd:=eq_false hd
  have ham:(all.map bJ).length=all.length:=bP ..
  refine aj.aA (rvs:=[.cell 6 56]) G ak Tryz.func161 rfl Tryz.ntmps161 rfl rfl ?_;with_reducible refine wD ?_
  (have fct:=fd;(repeat' (first
    |refine gF ?_
    | ((first
      |((with_reducible show aH _ _ _ _ _);refine aH.mk kn (aG _) hk (az hy) ?_)
      |((with_reducible show ae _ _ 89 _ _ _ _);refine ae.val [] h89 KU ⟨⟨rfl,rfl,rfl,trivial⟩,rfl,trivial⟩ rfl rfl hn89 ?_)
      |((with_reducible show ae _ _ 197 _ _ _ _);refine ae.val [] h197 Gd ⟨⟨rfl,rfl,trivial⟩,rfl,trivial⟩ rfl rfl rfl ?_)
      |((with_reducible show aB _ _ _ _);refine dK ?_))<;>with_reducible refine wK ?_)
    |((with_reducible show(_∧_)∧_∧_);(refine eK ?_ ?_<;>with_reducible repeat' (first|exact trivial|(show _∧_;refine aK ?_ ?_))))));all_goals clear fct)
  obtain⟨W,hW⟩:∃W:Nat→List ai,W=fun j=>iB l1 (all.take j) d:=⟨_,rfl⟩
  have hw0:W 0=l1:=by rw[hW];rfl
  have hwe:W all.length=iB l1 all d:=by rw[hW];simp only;rw[List.take_length]
  have hws:∀j c,all[j]? =some c→W (j+1)=kg (W j) c fun x=>{x with doc:=d}:=fun j c h=>by
    rw[hW];simp only
    rw[List.take_add_one,h]
    exact DY _ _ _
  have hsm:∀j,bq (W j):=fun j=>by rw[hW];exact vu d _ hs fun c hc=>hall c (List.mem_of_mem_take hc)
  have hwl:∀j,(W j).length=l1.length:=fun j=>by rw[hW];exact sr ..
  rw[←hwe] at h155 hn155 ⊢
  clear hW hwe
  refine bE.use G ak (fun(j:Nat)=>[(1,ah k),(2,ah d),(3,.ptr 30 0 0),(6,.ptr 60 0 0),(7,ah y10),(8,bY all),(9,ah j)])
    (fun j=>[(30,.live 3 [kU ⟨W j,m⟩ n1] false),(60,.live 3 [.agg [.lit (.slice none 0 0),ah 0,.lit (.slice none 0 0)]] false)]) (fun j=>j≤all.length) (fun j=>all.length-j) 0 (Nat.zero_le _) ?_ ?_
  · rw[hw0]
    (refine fK ?_;(with_reducible repeat' (first|exact trivial|(show _∧_;refine aK ?_ ?_)));(all_goals try rfl))
    all_goals first|exact .inl rfl|rfl|exact⟨rfl,rfl⟩|trace_state
  intro j hj
  with_reducible refine wK ?_
  refine aM.mk (fun h1=>?_) (fun h1=>?_)<;>(try simp only[aq] at h1)<;>with_reducible refine wK ?_
  · have hjl:j<all.length:=by simp only[aP,aq] at h1;omega
    obtain⟨c,hc⟩:∃c,all[j]? =some c:=⟨_,bH hjl⟩
    have hct:af (W j) c=true:=by rw[bk (hwl j)];exact hall c (bV hc)
    obtain⟨i,x,rfl,hx,_⟩:=aI.1 hct
    have hst:=hws j i hc
    rw[qf hx] at hst
    have h156:=sD ⟨W j,m⟩ (hsm j) (show 1≤ (W j).length by rw[hwl];exact hl1) i (aZ hx).1 {x with doc:=d}
    simp only at h156
    rw[←hst] at h156
    have hn156:=lH ⟨W (j+1),m⟩
    obtain⟨x1,x2,x3,x4,x5,x6,x7,x8,x9,x10⟩:=x
    simp only at h156
    clear hst hws hsm hct
    generalize hw':W (j+1)=w' at*
    generalize W j=w at*
    repeat' (first
    |refine gK ?_
    | ((first
      |((with_reducible show aH _ _ _ _ _);first|refine aH.mk j (ah (i:Int)) rfl (ct hc) ?_|refine aH.mk i (aG _) rfl (az hx) ?_)
      |((with_reducible show ae _ _ 156 _ _ _ _);refine ae.val [] h156 tN ⟨⟨rfl,rfl,trivial⟩,rfl,⟨rfl,rfl,rfl,rfl,rfl,rfl,rfl,rfl,rfl,rfl,trivial⟩,trivial⟩ rfl rfl hn156 ?_)
      |((with_reducible show aB _ _ _ _);refine dK ?_))<;>with_reducible refine wK ?_)
    |((with_reducible show(_∧_)∧_∧_);(refine eK ?_ ?_<;>with_reducible repeat' (first|exact trivial|(show _∧_;refine aK ?_ ?_)))))
    refine aW.mk (j+1) (by omega) (by omega) ?_
    rw[hw']
    (refine fK ?_;(with_reducible repeat' (first|exact trivial|(show _∧_;refine aK ?_ ?_)));(all_goals try rfl))
    all_goals first|exact .inl rfl|rfl|exact⟨rfl,rfl⟩|trace_state
  · obtain rfl:j=all.length:=by simp only[cj,aq] at h1;omega
    clear hws hsm hwl
    generalize W all.length=w at*
    repeat' (first
    |refine gK ?_
    | ((first
      |((with_reducible show ae _ _ 155 _ _ _ _);refine ae.val [] h155 D2 ⟨⟨rfl,rfl,rfl,trivial⟩,rfl,⟨rfl,rfl,rfl,rfl,rfl,rfl,rfl,rfl,rfl,trivial⟩,trivial⟩ rfl rfl hn155 ?_)
      |((with_reducible show aB _ _ _ _);refine dK ?_))<;>with_reducible refine wK ?_)
    |((with_reducible show(_∧_)∧_∧_);(refine eK ?_ ?_<;>with_reducible repeat' (first|exact trivial|(show _∧_;refine aK ?_ ?_)))))
    all_goals first|rfl|exact⟨rfl,rfl⟩|trace_state
theorem AY {k d:Int}{l0 l1:List ai}{ns n1:List aO}{kn:Nat}{y:ai}(hk:k=(kn:Int))(hy:l1[kn]? =some y)(hw:y.doc=d)
    (h89:aj Tryz.prog 89 [] [kU ⟨l0,m⟩ ns,ah k] [] (kU ⟨l1,m⟩ n1)):aj Tryz.prog 161 [] [kU ⟨l0,m⟩ ns,ah k,ah d] [] (kU ⟨l1,m⟩ n1):=by
  obtain⟨y1,y2,y3,y4,y5,y6,y7,y8,y9,y10⟩:=y
  simp only at hw
  subst hw
  have hn89:=dX ⟨l1,m⟩ n1
  refine aj.aA (rvs:=[.cell 6 56]) G ak Tryz.func161 rfl Tryz.ntmps161 rfl rfl ?_;with_reducible refine wD ?_
  repeat' (first
    |refine gK ?_
    | ((first
      |((with_reducible show aH _ _ _ _ _);refine aH.mk kn (aG _) hk (az hy) ?_)
      |((with_reducible show ae _ _ 89 _ _ _ _);refine ae.val [] h89 KU ⟨⟨rfl,rfl,rfl,trivial⟩,rfl,trivial⟩ rfl rfl hn89 ?_)
      |((with_reducible show aB _ _ _ _);refine dK ?_))<;>with_reducible refine wK ?_)
    |((with_reducible show(_∧_)∧_∧_);(refine eK ?_ ?_<;>with_reducible repeat' (first|exact trivial|(show _∧_;refine aK ?_ ?_)))))
  all_goals first|rfl|exact⟨rfl,rfl⟩|trace_state
theorem Gz (R:RF l m)(h60:l.length≤60){k:Nat}(hk:k<l.length)(ns:List aO)(hns:ns.length≤80000)(hkk:(nd l k).kind=1∨(nd l k).kind=2){d:Int}(hd:gL l d 0=true):
    aj Tryz.prog 161 [] [kU ⟨l,m⟩ ns,ah k,ah d] [] (kU ⟨cr l k d,m⟩ (gC (l,ns) k d).2):=by
  have h89:=wY R h60 hk ns (by omega)
  have ht:=eI hk
  have R1:=dP R ht
  have T:=bk (c9 l k)
  have hl1:=c9 l (k:Int)
  have ht1:af (bj l k) k=true:=by rw[T];exact ht
  have hk1:k< (bj l k).length:=by rw[hl1];exact hk
  have hf:=gl (l,ns) (k:Int)
  have hol:=lQ R h60 hk ns
  by_cases e:(nd (bj l k) k).doc=d
  · have e1:cr l k d=bj l k:=by unfold cr;rw[if_pos e]
    have e2:gC (l,ns) k d=bW (l,ns) k:=by unfold gC;rw[hf,if_pos e]
    rw[e1,e2]
    exact AY rfl (bU hk1) e h89
  · have R2:=iA R ht hkk hd
    have e1:cr l k d=iB (bj l k) (U.bQ (bj l k) (bj l k).length k) d:=by unfold cr;rw[if_neg e]
    have ht2:af (cr l k d) k=true:=by rw[bk (dH l k d)];exact ht
    have e2:(gC (l,ns) k d).2=(bW (l,ns) k).2++k9 (cr l k d) k (dY 3 (nd (bj l k) k).doc d):=by
      unfold gC
      rw[hf,if_neg e]
    have hs1:=cD R1 (by rw[hl1];exact h60)
    have h197:=xG ⟨bj l k,m⟩ hs1 R1.tree (bj l k).length k _ (bU hk1) (U.lC R1.tree ht1)
    have hth:∀c∈U.bQ (bj l k) (bj l k).length k,af (bj l k) c=true:=fun c hc=>(U.dL R1.tree _ k ht1 c hc).1
    have hle:=U.jx R1.tree (bj l k).length ht1
    have h155:=xR R2 (by rw[dH];exact h60) (by rw[dH];exact hk) (bW (l,ns) k).2 (by omega) (dY 3 (nd (bj l k) k).doc d)
    rw[e2]
    rw[e1] at h155 ⊢
    exact Dg rfl (bU hk1) rfl e hs1 (by omega) hth (by omega) h89 h197 h155
end Go.Proofs.Heir
end
section
namespace Go.Proofs.Heir
open Go Go.Am Go.RowKit Go.Lib
set_option maxRecDepth 100000
set_option maxHeartbeats 8000000
variable {l l' : List ai} {m : Int}
theorem FQ (R:RF l m)(h60:l.length≤60){n p c:Int}(hn:af l n=true)(hp:af l p=true)(sw:Bool)(f:ForM)(hf:f=⟨l,m⟩):aj Tryz.prog 91 [] [aN f,ah n,ah p,ah c,bA sw] [] (ah (tF l n p c sw)):=by
  subst hf
  have hs:=cD R h60
  have h157:=Iq R h60 hn hp ⟨l,m⟩ rfl
  obtain⟨i,x,rfl,hx,hxn⟩:=aI.1 hn
  obtain⟨j,y,rfl,hy,hyn⟩:=aI.1 hp
  have h158:=Cn (m:=m) hx ⟨l,m⟩ rfl
  have hkl:y.kids.length≤60:=hs.kids y (bV hy)
  have hpk:∀k∈cC l i,af l k=true:=fun k hk=>by
    unfold cC at hk
    split at hk
    ·exact(R.kid i hn k hk).1
    ·rw[je.1 hk];exact hn
  have hpl:(cC l i).length≤60:=by
    unfold cC
    split
    ·rw[hxn];exact hs.kids x (bV hx)
    ·simp
  have hA:=fun kd g=>BG ⟨l,m⟩ (cC l i) hpk (by omega) kd g
  have hB:=fun g=>BG ⟨l,m⟩ y.kids (fun k hk=>(R.kid j hp k (by rw[hyn];exact hk)).1) (by omega) 1 g
  have h31:=An y.kids (by omega) c
  unfold tF
  rw[hxn,hyn]
  simp only at hA hB
  generalize fI l i j=ov at*
  generalize cC l i=parts at*
  obtain⟨x1,x2,x3,x4,x5,x6,x7,x8,x9,x10⟩:=x
  obtain⟨y1,y2,y3,y4,y5,y6,y7,y8,y9,y10⟩:=y
  simp only at h31 hB hkl ⊢
  generalize y7.count c=cnt at*
  cases sw with
  | false=>
    have hA1:=hA 1 (-1)
    have hA2:=hA 2 (-1)
    have hB1:=hB (-1)
    rw[if_neg (show ¬false=true by decide)]
    clear hA hB
    generalize c7 l _ parts 1=A1 at*
    generalize c7 l _ parts 2=A2 at*
    generalize c7 l _ y7 1=B1 at*
    cases ov with
    | true=>
      refine aj.aA (rvs:=[.tmp 10]) G ak Tryz.func91 rfl Tryz.ntmps91 rfl rfl ?_;with_reducible refine wD ?_
      repeat' (first
    |refine pK ?_
    | ((first
      |((with_reducible show aM _ _ _ _);(refine aM.mk (fun hp=>?_) (fun hp=>?_)<;>(try simp only[aq,aP,cj,Bool.not_eq_true',Bool.not_eq_false',Decidable.not_not,Int.not_lt,Int.not_le] at hp)))
      |((with_reducible show aH _ _ _ _ _);first|refine aH.mk j (aG _) rfl (az hy) ?_|refine aH.mk i (aG _) rfl (az hx) ?_)
      |((with_reducible show ae _ _ 157 _ _ _ _);refine ae.lit [] h157 HO ⟨⟨rfl,rfl,trivial⟩,rfl,rfl,trivial⟩ rfl rfl ?_)
      |((with_reducible show ae _ _ 158 _ _ _ _);refine ae.val [] h158 DV ⟨⟨rfl,rfl,trivial⟩,rfl,trivial⟩ rfl rfl rfl ?_)
      |((with_reducible show ae _ _ 31 _ _ _ _);refine ae.lit [] h31 Ku ⟨rfl,rfl,trivial⟩ rfl rfl ?_)
      |((with_reducible show ae _ _ 159 _ _ _ _);first|refine ae.lit [] hA1 rT ⟨⟨rfl,rfl,trivial⟩,rfl,rfl,rfl,trivial⟩ rfl rfl ?_|refine ae.lit [] hA2 rT ⟨⟨rfl,rfl,trivial⟩,rfl,rfl,rfl,trivial⟩ rfl rfl ?_|refine ae.lit [] hB1 rT ⟨⟨rfl,rfl,trivial⟩,rfl,rfl,rfl,trivial⟩ rfl rfl ?_)
      |((with_reducible show aB _ _ _ _);refine dK ?_))<;>with_reducible refine wK ?_)
    | ((with_reducible show(_∧_)∧_∧_);(refine eK ?_ ?_<;>with_reducible repeat' (first|exact trivial|(show _∧_;refine aK ?_ ?_)))))
      all_goals first|rfl|(simp only[dw,bg,aP,Bool.false_eq_true,and_false,and_true,false_or,ite_true,ite_false];(repeat' split)<;>first|rfl|(exfalso;omega)|omega)|trace_state
    | false=>
      refine aj.aA (rvs:=[.tmp 10]) G ak Tryz.func91 rfl Tryz.ntmps91 rfl rfl ?_;with_reducible refine wD ?_
      repeat' (first
    |refine pK ?_
    | ((first
      |((with_reducible show aM _ _ _ _);(refine aM.mk (fun hp=>?_) (fun hp=>?_)<;>(try simp only[aq,aP,cj,Bool.not_eq_true',Bool.not_eq_false',Decidable.not_not,Int.not_lt,Int.not_le] at hp)))
      |((with_reducible show aH _ _ _ _ _);first|refine aH.mk j (aG _) rfl (az hy) ?_|refine aH.mk i (aG _) rfl (az hx) ?_)
      |((with_reducible show ae _ _ 157 _ _ _ _);refine ae.lit [] h157 HO ⟨⟨rfl,rfl,trivial⟩,rfl,rfl,trivial⟩ rfl rfl ?_)
      |((with_reducible show ae _ _ 158 _ _ _ _);refine ae.val [] h158 DV ⟨⟨rfl,rfl,trivial⟩,rfl,trivial⟩ rfl rfl rfl ?_)
      |((with_reducible show ae _ _ 31 _ _ _ _);refine ae.lit [] h31 Ku ⟨rfl,rfl,trivial⟩ rfl rfl ?_)
      |((with_reducible show ae _ _ 159 _ _ _ _);first|refine ae.lit [] hA1 rT ⟨⟨rfl,rfl,trivial⟩,rfl,rfl,rfl,trivial⟩ rfl rfl ?_|refine ae.lit [] hA2 rT ⟨⟨rfl,rfl,trivial⟩,rfl,rfl,rfl,trivial⟩ rfl rfl ?_|refine ae.lit [] hB1 rT ⟨⟨rfl,rfl,trivial⟩,rfl,rfl,rfl,trivial⟩ rfl rfl ?_)
      |((with_reducible show aB _ _ _ _);refine dK ?_))<;>with_reducible refine wK ?_)
    | ((with_reducible show(_∧_)∧_∧_);(refine eK ?_ ?_<;>with_reducible repeat' (first|exact trivial|(show _∧_;refine aK ?_ ?_)))))
      all_goals first|rfl|(simp only[dw,bg,aP,Bool.false_eq_true,and_false,and_true,false_or,ite_true,ite_false];(repeat' split)<;>first|rfl|(exfalso;omega)|omega)|trace_state
  | true=>
    have hA1:=hA 1 c
    have hA2:=hA 2 c
    have hB1:=hB c
    rw[if_pos (rfl:true=true)]
    clear hA hB
    generalize c7 l _ parts 1=A1 at*
    generalize c7 l _ parts 2=A2 at*
    generalize c7 l _ y7 1=B1 at*
    cases ov with
    | true=>
      refine aj.aA (rvs:=[.tmp 10]) G ak Tryz.func91 rfl Tryz.ntmps91 rfl rfl ?_;with_reducible refine wD ?_
      repeat' (first
    |refine pK ?_
    | ((first
      |((with_reducible show aM _ _ _ _);(refine aM.mk (fun hp=>?_) (fun hp=>?_)<;>(try simp only[aq,aP,cj,Bool.not_eq_true',Bool.not_eq_false',Decidable.not_not,Int.not_lt,Int.not_le] at hp)))
      |((with_reducible show aH _ _ _ _ _);first|refine aH.mk j (aG _) rfl (az hy) ?_|refine aH.mk i (aG _) rfl (az hx) ?_)
      |((with_reducible show ae _ _ 157 _ _ _ _);refine ae.lit [] h157 HO ⟨⟨rfl,rfl,trivial⟩,rfl,rfl,trivial⟩ rfl rfl ?_)
      |((with_reducible show ae _ _ 158 _ _ _ _);refine ae.val [] h158 DV ⟨⟨rfl,rfl,trivial⟩,rfl,trivial⟩ rfl rfl rfl ?_)
      |((with_reducible show ae _ _ 31 _ _ _ _);refine ae.lit [] h31 Ku ⟨rfl,rfl,trivial⟩ rfl rfl ?_)
      |((with_reducible show ae _ _ 159 _ _ _ _);first|refine ae.lit [] hA1 rT ⟨⟨rfl,rfl,trivial⟩,rfl,rfl,rfl,trivial⟩ rfl rfl ?_|refine ae.lit [] hA2 rT ⟨⟨rfl,rfl,trivial⟩,rfl,rfl,rfl,trivial⟩ rfl rfl ?_|refine ae.lit [] hB1 rT ⟨⟨rfl,rfl,trivial⟩,rfl,rfl,rfl,trivial⟩ rfl rfl ?_)
      |((with_reducible show aB _ _ _ _);refine dK ?_))<;>with_reducible refine wK ?_)
    | ((with_reducible show(_∧_)∧_∧_);(refine eK ?_ ?_<;>with_reducible repeat' (first|exact trivial|(show _∧_;refine aK ?_ ?_)))))
      all_goals first|rfl|(simp only[dw,bg,aP,Bool.false_eq_true,and_false,and_true,false_or,ite_true,ite_false];(repeat' split)<;>first|rfl|(exfalso;omega)|omega)|trace_state
    | false=>
      refine aj.aA (rvs:=[.tmp 10]) G ak Tryz.func91 rfl Tryz.ntmps91 rfl rfl ?_;with_reducible refine wD ?_
      repeat' (first
    |refine pK ?_
    | ((first
      |((with_reducible show aM _ _ _ _);(refine aM.mk (fun hp=>?_) (fun hp=>?_)<;>(try simp only[aq,aP,cj,Bool.not_eq_true',Bool.not_eq_false',Decidable.not_not,Int.not_lt,Int.not_le] at hp)))
      |((with_reducible show aH _ _ _ _ _);first|refine aH.mk j (aG _) rfl (az hy) ?_|refine aH.mk i (aG _) rfl (az hx) ?_)
      |((with_reducible show ae _ _ 157 _ _ _ _);refine ae.lit [] h157 HO ⟨⟨rfl,rfl,trivial⟩,rfl,rfl,trivial⟩ rfl rfl ?_)
      |((with_reducible show ae _ _ 158 _ _ _ _);refine ae.val [] h158 DV ⟨⟨rfl,rfl,trivial⟩,rfl,trivial⟩ rfl rfl rfl ?_)
      |((with_reducible show ae _ _ 31 _ _ _ _);refine ae.lit [] h31 Ku ⟨rfl,rfl,trivial⟩ rfl rfl ?_)
      |((with_reducible show ae _ _ 159 _ _ _ _);first|refine ae.lit [] hA1 rT ⟨⟨rfl,rfl,trivial⟩,rfl,rfl,rfl,trivial⟩ rfl rfl ?_|refine ae.lit [] hA2 rT ⟨⟨rfl,rfl,trivial⟩,rfl,rfl,rfl,trivial⟩ rfl rfl ?_|refine ae.lit [] hB1 rT ⟨⟨rfl,rfl,trivial⟩,rfl,rfl,rfl,trivial⟩ rfl rfl ?_)
      |((with_reducible show aB _ _ _ _);refine dK ?_))<;>with_reducible refine wK ?_)
    | ((with_reducible show(_∧_)∧_∧_);(refine eK ?_ ?_<;>with_reducible repeat' (first|exact trivial|(show _∧_;refine aK ?_ ?_)))))
      all_goals first|rfl|(simp only[dw,bg,aP,Bool.false_eq_true,and_false,and_true,false_or,ite_true,ite_false];(repeat' split)<;>first|rfl|(exfalso;omega)|omega)|trace_state
end Go.Proofs.Heir
end
namespace Go.Proofs.Heir
open Go Go.Am Go.RowKit Go.Lib
set_option maxRecDepth 100000
set_option maxHeartbeats 8000000
set_option maxHeartbeats 4000000
section
variable {l : List ai} {m : Int}
theorem zn (R:RF l m)(h60:l.length≤60){k:Nat}{p before:Int}(C:gh l k p before)(hd:gL l (nd l p).doc 0=true)(ns:List aO):(cz p before (l,ns) k).2.length≤ns.length+180:=by
  have h1:=tr R h60 (bZ C.tk) C.kk hd ns
  have R':=j9 R C
  have ht:af (cG l k p before) k=true:=by rw[bk (fF l k p before)];exact C.tk
  unfold cz
  simp only
  rw[jN,iS _ m R' ht]
  have:=(jy R' (by rw[fF];exact h60) ht).2
  split<;>simp<;>omega
theorem rL (R:RF l m)(h60:l.length≤60){k t:Nat}{before:Int}(C:gh l k t before)(hd:gL l (nd l t).doc 0=true)(ns:List aO)(hns:ns.length≤70000):
    ∃ (i:Nat) (conn:Bool) (es ex:List Int),i≤ (nd (cr l k (nd l t).doc) t).kids.length∧(before=-1→i=(nd (cr l k (nd l t).doc) t).kids.length)∧
      (before≠-1→aj Tryz.prog 73 [] [bY (nd (cr l k (nd l t).doc) t).kids,ah before] [] (ah i))∧(nd (cr l k (nd l t).doc) t).kids.length≤1000∧
      cG l k t before=((cr l k (nd l t).doc).set t {nd (cr l k (nd l t).doc) t with kids:=(nd (cr l k (nd l t).doc) t).kids.take i++ [(k:Int)]++ (nd (cr l k (nd l t).doc) t).kids.drop i}).set k {nd (cr l k (nd l t).doc) k with parent:=(t:Int)}∧
      (nd (cG l k t before) t).kids=(nd (cr l k (nd l t).doc) t).kids.take i++ [(k:Int)]++ (nd (cr l k (nd l t).doc) t).kids.drop i∧
      aj Tryz.prog 35 [] [aN ⟨cG l k t before,m⟩,ah k] [] (bA conn)∧aj Tryz.prog 34 [] [aN ⟨cG l k t before,m⟩,ah k] [aF (es++ex)] (.own 0 0 es.length)∧
      (cz t before (l,ns) k).2=(gC (l,ns) k (nd l t).doc).2++ (if conn=true then es.map (dF ld) else[])∧(gC (l,ns) k (nd l t).doc).2.length≤100000∧es.length≤1000:=by
  have hk:=bZ C.tk
  have ht:=bZ C.tp
  have hne:(k:Int)≠ (t:Int):=fun e=>C.w (by rw[e];exact U.cM R.tree C.tp)
  have hne':k≠t:=fun e=>hne (by rw[e])
  have hol:=tr R h60 hk C.kk hd ns
  have R1:=iA R C.tk C.kk hd
  have R':=j9 R C
  have htk:af (cG l k t before) k=true:=by rw[bk (fF l k t before)];exact C.tk
  have hkids:=nN R (d:=(nd l t).doc) C.tk C.kk C.tp
  obtain⟨l1,hl1⟩:∃l1,cr l k (nd l t).doc=l1:=⟨_,rfl⟩
  have hlen:l1.length=l.length:=by rw[←hl1];exact dH ..
  have hst:cG l k t before=gy l1 k t before:=by unfold cG;rw[hl1]
  rw[hl1] at R1 hkids ⊢
  have hs1:=cD R1 (by omega)
  have hkl:(nd l1 t).kids.length≤60:=hs1.kids _ (bV (bU (by omega)))
  have hfin:∀i:Nat,jR (nd l1 t).kids before k=(nd l1 t).kids.take i++ (k:Int)::(nd l1 t).kids.drop i→cG l k t before=(l1.set t {nd l1 t with kids:=(nd l1 t).kids.take i++ [(k:Int)]++ (nd l1 t).kids.drop i}).set k {nd l1 k with parent:=(t:Int)}:=fun i hi=>by
    rw[hst]
    unfold gy kg
    rw[Int.toNat_natCast,Int.toNat_natCast]
    dsimp only
    rw[hi,List.append_assoc,List.singleton_append]
    congr 1
    have:nd (l1.set t {nd l1 t with kids:=(nd l1 t).kids.take i++ (k:Int)::(nd l1 t).kids.drop i}) k=nd l1 k:=cI (by rw[List.getElem?_set,if_neg (fun e=>hne' e.symm)];exact bU (by omega))
    rw[this]
  have hfk:∀i:Nat,jR (nd l1 t).kids before k=(nd l1 t).kids.take i++ (k:Int)::(nd l1 t).kids.drop i→(nd (cG l k t before) t).kids=(nd l1 t).kids.take i++ [(k:Int)]++ (nd l1 t).kids.drop i:=fun i hi=>by
    have:(cG l k t before)[t]? =some {nd l1 t with kids:=(nd l1 t).kids.take i++ [(k:Int)]++ (nd l1 t).kids.drop i}:=by
      rw[hfin i hi,List.getElem?_set,if_neg hne',List.getElem?_set,if_pos rfl,if_pos (by omega)]
    rw[cI this]
  have hcon:=ER R' (by rw[fF];exact h60) htk
  have hels:=AL R' (by rw[fF];exact h60) htk
  have hel:=(jy R' (by rw[fF];exact h60) htk).2
  have htold:(cz t before (l,ns) k).2=(gC (l,ns) k (nd l t).doc).2++ (if ju (cG l k t before) k=true then(yW ⟨cG l k t before,m⟩ k).map (dF ld) else[]):=by
    unfold cz
    simp only
    rw[iS _ m R' htk];rfl
  by_cases hb:before=-1
  · subst hb
    have hi:jR (nd l1 t).kids (-1) k=(nd l1 t).kids.take (nd l1 t).kids.length++ (k:Int)::(nd l1 t).kids.drop (nd l1 t).kids.length:=by
      rw[Bq,List.take_length,List.drop_length]
    exact⟨_,_,_,_,Nat.le_refl _,fun _=>rfl,fun h=>absurd rfl h,by omega,hfin _ hi,hfk _ hi,hcon,hels,htold,by omega,by omega⟩
  · have hmem:before∈ (nd l1 t).kids:=by
      rw[hkids]
      have:=C.ab.resolve_left hb
      exact(List.mem_erase_of_ne this.1).2 this.2
    obtain⟨i,hi,hib,hno,h4,h5,_⟩:=j7 hmem
    have h73:=qU (nd l1 t).kids (by omega) before
    rw[fo hib (bO rfl) fun j x hj hx=>bB (hno j x hj hx)] at h73
    have hii:=Jg (k:=(k:Int)) hb h4 h5
    exact⟨i,_,_,_,by omega,fun h=>absurd h hb,fun _=>h73,by omega,hfin _ hii,hfk _ hii,hcon,hels,htold,by omega,by omega⟩
theorem mC (R:RF l m){k t x:Nat}{before:Int}(C:gh l k t before)(hx:x<l.length)(hxt:x≠t)(d:Int)(hd:d=(nd l t).doc):(nd (cG l k t before) x).kids=(nd (cr l k d) x).kids:=by
  subst hd
  have h1:=(jH R C x (eI hx)).2.2.1
  have h2:=(iF R (d:=(nd l t).doc) C.tk C.kk x (eI hx)).2.2.1
  rw[h1,h2,if_neg (by omega)]
theorem BT (R:RF l m)(h60:l.length≤60){a b k:Nat}{before:Int}(hab:b≠a)(ha:a<l.length)(C:gh l k b before)(hd:gL l (nd l b).doc 0=true)(hka:k≠a)(h:(nd l k).parent=-1∨(nd l k).parent=(a:Int)){ns:List aO}(hns:ns.length≤70000):
    Al m l.length a b before l ns (nd l a).kids (nd l b).kids k (cG l k b before) (cz b before (l,ns) k).2 (nd (cG l k b before) a).kids (nd (cG l k b before) b).kids:=by
  have hb:=bZ C.tp
  have hk:=bZ C.tk
  have hkb:k≠b:=fun e=>C.w (by rw[e];exact U.cM R.tree C.tp)
  obtain⟨i,conn,es,ex,e1,e2,e3,e4,e5,e6,e7,e8,e9,e10,e11⟩:=rL R h60 C hd ns hns
  have hov:=B3 R h60 hab ha hb hk (by omega:ns.length≤80000) h C.kk hd
  have hl:=dH l k (nd l b).doc
  have hkk:(nd (cr l k (nd l b).doc) b).kids=(nd l b).kids:=by
    rw[(iF R (d:=(nd l b).doc) C.tk C.kk b C.tp).2.2.1]
    split
    · rename_i hpb
      rcases h with h|h
      ·rw[h] at hpb;omega
      ·rw[h] at hpb;omega
    ·rfl
  exact⟨k,rfl,nd l b,nd (cr l k (nd l b).doc) b,nd (cr l k (nd l b).doc) k,cr l k (nd l b).doc,(gC (l,ns) k (nd l b).doc).2,(nd (cr l k (nd l b).doc) a).kids,i,conn,es,ex,
    rfl,hl,bU hb,hov,bU (by omega),bU (by omega),hkk.symm,e1,e2,e3,e4,e5,⟨hkb,hka⟩,cP,cP,mC R C ha (fun e=>hab e.symm) _ rfl,e6,e7,e8,e9,e10,e11⟩
theorem Ih (R:RF l m)(h60:l.length≤60){a b:Nat}{before:Int}(hab:b≠a)(C:gh l b a before)(hd:gL l (nd l a).doc 0=true)(h:(nd l b).parent=-1∨(nd l b).parent=(a:Int)){ns:List aO}(hns:ns.length≤70000):
    Gl m l.length a b before l ns (nd l a).kids (nd l b).kids b (cG l b a before) (cz a before (l,ns) b).2 (nd (cG l b a before) a).kids (nd (cG l b a before) b).kids:=by
  have ha:=bZ C.tp
  have hb:=bZ C.tk
  obtain⟨i,conn,es,ex,e1,e2,e3,e4,e5,e6,e7,e8,e9,e10,e11⟩:=rL R h60 C hd ns hns
  have hov:=B3 R h60 hab ha hb hb (by omega:ns.length≤80000) h C.kk hd
  have hl:=dH l b (nd l a).doc
  have hkk:(nd (cG l b a before) b).kids=(nd l b).kids:=by
    rw[mC R C hb hab _ rfl,(iF R (d:=(nd l a).doc) C.tk C.kk b C.tk).2.2.1]
    split
    · rename_i hpb
      rcases h with h|h
      ·rw[h] at hpb;omega
      ·rw[h] at hpb;omega
    ·rfl
  exact⟨b,rfl,nd l a,nd (cr l b (nd l a).doc) a,nd (cr l b (nd l a).doc) b,cr l b (nd l a).doc,(gC (l,ns) b (nd l a).doc).2,(nd (cr l b (nd l a).doc) a).kids,i,conn,es,ex,
    rfl,hl,bU ha,hov,bU (by omega),bU (by omega),rfl,e1,e2,e3,e4,e5,rfl,cP,cP,e6,hkk,e7,e8,e9,e10,e11⟩
end
end Go.Proofs.Heir
namespace Go.Proofs.Heir
open Go Go.Am Go.RowKit Go.Lib
set_option maxRecDepth 100000
set_option maxHeartbeats 8000000
theorem LS {m:Int}{L a b n:Nat}{before:Int}{parts:List Int}{ls:Nat→List ai}{nss:Nat→List aO}{kas kbs:Nat→List Int}{yn:ai}(hab:b≠a)(hpl:parts.length≤1000)(hl0:(ls 0).length=L)(hn:(ls 0)[n]? =some yn)(hkind:yn.kind≠3)
    (hka0:∀y,(ls 0)[a]? =some y→y.kids=kas 0) (hkb0:∀y,(ls 0)[b]? =some y→y.kids=kbs 0)
    (h27:aj Tryz.prog 27 [] [aN ⟨ls 0,m⟩,ah n] [aF parts] (.own 0 0 parts.length))
    (hr:∀j k,parts[j]? =some k→Gl m L a b before (ls j) (nss j) (kas j) (kbs j) k (ls (j+1)) (nss (j+1)) (kas (j+1)) (kbs (j+1))):
    aj Tryz.prog 75 [aT m L 4 (.own 3 0 (nss 0).length),aF (kas 0),aF (kbs 0),aU (nss 0),aV (ls 0) a 1 b 2] [.ptr 0 0 0,ah n,ah a,ah before]
      [aT m L 4 (.own 7 0 (nss parts.length).length),.dead,.dead,.dead,aV (ls parts.length) a 5 b 6,aF (kas parts.length),aF (kbs parts.length),aU (nss parts.length)] (.tup []):=by
  have hnl:=(aZ hn).1
  have t27:=mL (m:=m) (ex:=[]) (rest:=[ah n]) hka0 hkb0 (by rw[List.append_nil];exact h27) rfl
  rw[List.append_nil] at t27
  rw[hl0] at t27
  obtain⟨q,hq⟩:=iG a 1 b 2 n yn
  have g0:(aR (ls 0) a 1 b 2)[n]? =some (yp yn q):=by rw[cQ hn,hq yn rfl]
  have hgp:∀ (j:Nat) (k:Int),parts[j]? =some k→(parts.map bJ)[j]? =some (ah k):=fun j k h=>nc h
  have fk:=eq_false hkind
  obtain⟨x1,x2,x3,x4,x5,x6,x7,x8,x9,x10⟩:=yn
  dsimp only at g0 fk hkind
  refine aj.fW [(5,201),(6,202),(7,203)] (rvs:=[]) G ak Tryz.func75 rfl Tryz.ntmps75 rfl rfl ?_;with_reducible refine wD ?_
  (have fct:=fk;(repeat' (first
    |refine gF ?_
    | ((first
      |((with_reducible show fM _ _ _ _ _);refine fM.mk n rfl (by first|exact hnl|omega) ?_)
      |((with_reducible show bu _ _ _ _ _);refine bu.mk _ (by first|exact g0|(rw[Nat.zero_add];exact g0)) ?_)
      |((with_reducible show ae _ _ 27 _ _ _ _);refine ae.dy (news:=[aV (ls 0) a 1 b 2,aF (kas 0),aF (kbs 0),aF parts]) [4,1,2,191] [] t27 Mz ⟨⟨⟨rfl,rfl⟩,rfl,trivial⟩,rfl,trivial⟩ ⟨⟨rfl,bR (fun _=>rfl) (fun _=>rfl)⟩,⟨rfl,.inl ⟨rfl,aa _⟩⟩,⟨rfl,.inl ⟨rfl,aa _⟩⟩,trivial⟩ rfl ⟨⟨rfl,rfl⟩,rfl⟩ rfl ⟨⟨rfl,bL rfl rfl (by decide) (by decide)⟩,⟨rfl,.inl ⟨rfl,aa _⟩⟩,⟨rfl,.inl ⟨rfl,aa _⟩⟩,⟨rfl,.inl ⟨rfl,aa _⟩⟩,trivial⟩ rfl rfl ?_)
      |((with_reducible show aB _ _ _ _);refine dK ?_))<;>with_reducible refine wK ?_)
    |((with_reducible show(_∧_)∧_∧_);(refine eK ?_ ?_<;>with_reducible repeat' (first|exact trivial|(show _∧_;refine aK ?_ ?_))))));all_goals clear fct)
  refine bE.Fs G ak (fun(j:Nat)=>[(0,.ptr 0 0 0),(2,ah a),(3,ah before),(40,.own 191 0 parts.length),(41,ah parts.length),(42,ah j)])
    (fun j=>[(0,aT m L 4 (.own 203 0 (nss j).length)),(1,.dead),(2,.dead),(3,.dead),(4,aV (ls j) a 201 b 202),(201,aF (kas j)),(202,aF (kbs j)),(203,aU (nss j)),(191,aF parts)])
    (fun j=>j≤parts.length) (fun j=>parts.length-j) 0 [(201,1),(202,2),(203,3)] (Nat.zero_le _) ?_ ?_
  · (refine fK ?_;(with_reducible repeat' (first|exact trivial|(show _∧_;refine aK ?_ ?_)));(all_goals try rfl))
    all_goals first
      |exact⟨.refl (aa _),aa _⟩
      |exact⟨.refl (ay _),ay _⟩
      |exact bF (fun _=>rfl) (fun _=>rfl)
      |trace_state
  intro j hj
  with_reducible refine wK ?_
  refine aM.mk (fun h1=>?_) (fun h1=>?_)<;>(try simp only[aq] at h1)<;>with_reducible refine wK ?_
  · have hjl:j<parts.length:=by simp only[aP,aq] at h1;omega
    obtain⟨k0,hk0⟩:∃k,parts[j]? =some k:=⟨_,bH hjl⟩
    have R:=hr j k0 hk0
    have hgk:=hgp _ _ hk0
    obtain⟨l',hl'⟩:∃x,ls (j+1)=x:=⟨_,rfl⟩
    obtain⟨ns',hn'⟩:∃x,nss (j+1)=x:=⟨_,rfl⟩
    obtain⟨ka',hka'⟩:∃x,kas (j+1)=x:=⟨_,rfl⟩
    obtain⟨kb',hkb'⟩:∃x,kbs (j+1)=x:=⟨_,rfl⟩
    rw[hl',hn',hka',hkb'] at R
    obtain⟨k,hkk,y0,y1,yk,l1,n1,k1,i,conn,es,ex,R⟩:=R
    subst hkk
    generalize ls j=l at*
    generalize nss j=ns at*
    generalize kas j=ka at*
    generalize kbs j=kb at*
    obtain⟨rl,rl1,r0,rover,r1,rk,rkids,ri,rend,ridx,rsm,rnxt,rne,rka,rkb,rca,rcb,rcon,rels,rtold,rn1,res⟩:=R
    have hbl:=(aZ r0).1
    have hbl1:=(aZ r1).1
    have hkl1:=(aZ rk).1
    subst rne
    have e0:(aR l a 201 k 202)[a]? =some (ei y0 201):=BJ r0
    have e1:(aR l1 a 211 k 202)[a]? =some (ei y1 211):=BJ r1
    have e2:∀x,((aR l1 a 211 k 202).set (0+a) x)[0+k]? =some (ei yk 202):=fun x=>by rw[Nat.zero_add,Nat.zero_add,List.getElem?_set,if_neg (fun e=>hab e.symm)];exact tJ rk hab
    obtain⟨k3,hk3⟩:∃k3,k3=y1.kids.take i++ [(k:Int)]++y1.kids.drop i:=⟨_,rfl⟩
    have hrow:((aR l1 a 211 k 202).set (0+a) (dG {y1 with kids:=k3} 299)).set (0+k) (dG {yk with parent:=(a:Int)} 202)=aR l' a 299 k 202:=by
      rw[rnxt,←hk3,Nat.zero_add,Nat.zero_add,oP _ hbl1,um _ (by rw[List.length_set];exact hkl1) hab]
    rw[←hk3] at rca
    have h140:=oD (rows:=y1.kids.map bJ) (j5 y1.kids) i (k:Int) (by simpa using ri) (by simp;omega)
    rw[bP,←List.map_take,←List.map_drop,show[ah (k:Int)]=[(k:Int)].map bJ from rfl,←gm,←gm,←hk3,show y1.kids.length+1=k3.length by rw[hk3];simp;omega] at h140
    have t73:=fun h=>nv (rest:=[ah before]) (ridx h) rfl rfl
    have rl':l'.length=L:=by rw[rnxt,List.length_set,List.length_set,rl1]
    have t35:=mZ (rest:=[ah (k:Int)]) rka rkb rcon rfl rfl
    have t141:=qv (m:=m) (n:=(k:Int)) (ns:=n1) (x:=ld) rka rkb res rn1 rels
    rw[rl'] at t35 t141
    rw[rca] at t35 t141
    rw[rcb] at t35 t141
    have hkL:k<L:=by rw[←rl1];exact hkl1
    have htL:a<L:=by rw[←rl1];exact hbl1
    obtain⟨z1,z2,z3,z4,z5,z6,z7,z8,z9,z10⟩:=y0
    obtain⟨p1,p2,p3,p4,p5,p6,p7,p8,p9,p10⟩:=y1
    obtain⟨q1,q2,q3,q4,q5,q6,q7,q8,q9,q10⟩:=yk
    dsimp only at rkids ri rend ridx rsm h140 t73 hrow rover hk3
    subst rkids
    (have fct:=rend;(repeat' (first
    |refine pF ?_
    | ((first
      |((with_reducible show aM _ _ _ _);(refine aM.mk (fun hp=>?_) (fun hp=>?_)<;>(try simp only[aq,aP,cj,Bool.not_eq_true',Bool.not_eq_false',Decidable.not_not,Int.not_lt,Int.not_le] at hp)))
      |((with_reducible show fM _ _ _ _ _);first|refine fM.mk j rfl (by first|exact hjl|omega) ?_|refine fM.mk a rfl (by first|exact htL|omega) ?_|refine fM.mk k rfl (by first|exact hkL|omega) ?_)
      |((with_reducible show bu _ _ _ _ _);first|refine bu.mk (ah (k:Int)) (by first|exact hgk|(rw[Nat.zero_add];exact hgk)) ?_|refine bu.mk _ (by first|exact e0|exact e1|exact e2 _|(rw[Nat.zero_add];first|exact e0|exact e1)) ?_)
      |((with_reducible show ae _ _ 139 _ _ _ _);refine ae.dy (news:=[aT m L 4 (.own 213 0 n1.length),.dead,aF kb,.dead,aV l1 a 211 k 202,aF k1,aU n1]) [0,201,202,203,4,211,213] [] rover JV ⟨⟨rfl,rfl⟩,rfl,rfl,trivial⟩ ⟨⟨rfl,.inr ⟨⟨⟨⟨rfl,rfl⟩,rfl,⟨rfl,rfl⟩,trivial⟩,trivial⟩,rfl⟩⟩,⟨rfl,.inl ⟨rfl,aa _⟩⟩,⟨rfl,.inl ⟨rfl,aa _⟩⟩,⟨rfl,.inl ⟨rfl,ay _⟩⟩,⟨rfl,bR (fun _=>rfl) (fun _=>rfl)⟩,trivial⟩ rfl ⟨⟨rfl,rfl⟩,rfl⟩ rfl ⟨⟨rfl,.inr ⟨rfl,rfl,rfl⟩⟩,⟨rfl,.inl ⟨rfl,aa _⟩⟩,⟨rfl,bL rfl rfl (by decide) (by decide)⟩,⟨rfl,.inl ⟨rfl,aa _⟩⟩,⟨rfl,.inl ⟨rfl,ay _⟩⟩,trivial⟩ rfl rfl ?_)
      |((with_reducible show ae _ _ 73 _ _ _ _);refine ae.dy (news:=[aF k1]) [211] [] (t73 (by assumption)) GQ ⟨⟨rfl,rfl⟩,rfl,trivial⟩ ⟨⟨rfl,.inl ⟨rfl,aa _⟩⟩,trivial⟩ rfl ⟨⟨rfl,rfl⟩,rfl⟩ rfl ⟨⟨rfl,.inl ⟨rfl,aa _⟩⟩,trivial⟩ rfl rfl ?_)
      |((with_reducible show ae _ _ 140 _ _ _ _);refine ae.dy (news:=[.dead,.live 1 [ah (k:Int)] false,aF k3]) [211,981,299] [] h140 Jh ⟨⟨rfl,rfl⟩,by first|rfl|(show(i:Int)=(k1.length:Int);have:=rend (by assumption);omega),⟨rfl,rfl⟩,trivial⟩ ⟨⟨rfl,.inl ⟨rfl,aa _⟩⟩,⟨rfl,.inl ⟨rfl,rfl⟩⟩,trivial⟩ rfl ⟨⟨rfl,rfl⟩,rfl⟩ rfl ⟨⟨rfl,.inl ⟨rfl,rfl⟩⟩,⟨rfl,.inl ⟨rfl,aa _⟩⟩,trivial⟩ rfl rfl ?_)
      |((with_reducible show ae _ _ 35 _ _ _ _);refine ae.dy (news:=[aV l' a 299 k 202,aF k3,aF kb]) [4,299,202] [] t35 Lc ⟨⟨⟨rfl,rfl⟩,rfl,trivial⟩,rfl,trivial⟩ ⟨⟨rfl,cast (congrArg (sI _ _ _ _) hrow.symm) (bR (fun _=>rfl) (fun _=>rfl))⟩,⟨rfl,.inl ⟨rfl,aa _⟩⟩,⟨rfl,.inl ⟨rfl,aa _⟩⟩,trivial⟩ rfl ⟨⟨rfl,rfl⟩,rfl⟩ rfl ⟨⟨rfl,bL rfl rfl (by decide) (by decide)⟩,⟨rfl,.inl ⟨rfl,aa _⟩⟩,⟨rfl,.inl ⟨rfl,aa _⟩⟩,trivial⟩ rfl rfl ?_)
      |((with_reducible show ae _ _ 141 _ _ _ _);refine ae.dy (news:=[aT m L 4 (.own 223 0 (n1.length+es.length)),aF k3,aF kb,.dead,aV l' a 299 k 202,aU (n1++es.map (dF ld))]) [0,299,202,213,4,223] [] t141 DU ⟨⟨rfl,rfl⟩,rfl,⟨rfl,rfl,rfl,rfl,rfl,rfl,rfl,rfl,rfl,trivial⟩,trivial⟩ ⟨⟨rfl,.inr ⟨⟨⟨⟨rfl,rfl⟩,rfl,⟨rfl,rfl⟩,trivial⟩,trivial⟩,rfl⟩⟩,⟨rfl,.inl ⟨rfl,aa _⟩⟩,⟨rfl,.inl ⟨rfl,aa _⟩⟩,⟨rfl,.inl ⟨rfl,ay _⟩⟩,⟨rfl,bR (fun _=>rfl) (fun _=>rfl)⟩,trivial⟩ rfl ⟨⟨rfl,rfl⟩,rfl⟩ rfl ⟨⟨rfl,.inr ⟨rfl,rfl,rfl⟩⟩,⟨rfl,.inl ⟨rfl,aa _⟩⟩,⟨rfl,.inl ⟨rfl,aa _⟩⟩,⟨rfl,bL rfl rfl (by decide) (by decide)⟩,⟨rfl,.inl ⟨rfl,ay _⟩⟩,trivial⟩ rfl rfl ?_)
      |((with_reducible show aB _ _ _ _);refine dK ?_))<;>with_reducible refine wK ?_)
    |((with_reducible show(_∧_)∧_∧_);(refine eK ?_ ?_<;>with_reducible repeat' (first|exact trivial|(show _∧_;refine aK ?_ ?_))))));all_goals clear fct)
    all_goals (first
      | (cases hp
         have ht:ns'=n1++es.map (dF ld):=rtold
         refine nn.mk (j+1) [(201,299),(202,202),(203,223)] (by omega) (by omega) ?_
         rw[hl',hn',hka',hkb',rca,rcb,ht,jN,bP])
      | (cases hp
         have ht:ns'=n1++ []:=rtold
         rw[List.append_nil] at ht
         refine nn.mk (j+1) [(201,299),(202,202),(203,213)] (by omega) (by omega) ?_
         rw[hl',hn',hka',hkb',rca,rcb,ht])
      |trace_state)
    all_goals (refine fK ?_;(with_reducible repeat' (first|exact trivial|(show _∧_;refine aK ?_ ?_)));(all_goals try rfl))
    all_goals first
      |exact⟨.refl (aa _),aa _⟩
      |exact⟨.refl (ay _),ay _⟩
      |exact bF (fun _=>rfl) (fun _=>rfl)
      |trace_state
  · obtain rfl:j=parts.length:=by simp only[cj,aq] at h1;omega
    repeat' (first
    |refine gK ?_
    |(((with_reducible show aB _ _ _ _);refine dK ?_)<;>with_reducible refine wK ?_)
    |((with_reducible show(_∧_)∧_∧_);(refine eK ?_ ?_<;>with_reducible repeat' (first|exact trivial|(show _∧_;refine aK ?_ ?_)))))
    all_goals first
      |exact⟨.refl (aa _),aa _⟩
      |exact⟨.refl (ay _),ay _⟩
      |exact bF (fun _=>rfl) (fun _=>rfl)
      |trace_state
end Go.Proofs.Heir
