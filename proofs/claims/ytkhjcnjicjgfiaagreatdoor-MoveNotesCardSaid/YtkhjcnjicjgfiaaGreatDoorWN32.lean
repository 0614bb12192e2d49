/- Models, plain laws and contracts of functions of the given program; conditions as stated in each theorem. By an AI agent. -/
import Derived.Test.YtkhjcnjicjgfiaaGreatDoorWN31
import Derived.Test.YtkhjcnjicjgfiaaGreatDoorWN13
import Derived.Test.YtkhjcnjicjgfiaaGreatDoorWN5
import Derived.Test.YtkhjcnjicjgfiaaGreatDoorRows
import Derived.ProofKit
import Derived.LaidMore
import Derived.OpenShut
import Derived.Stop.Joined
import Derived.Lib.LaidTab
import Derived.MakeChecks
set_option linter.unusedSimpArgs false
set_option linter.unusedVariables false
namespace Go.Proofs.Heir
open Go Go.Am Go.RowKit Go.Lib
set_option maxRecDepth 100000
set_option maxHeartbeats 8000000
theorem dQ {tab:List (Nat×Nat)}{fz:Nat→Bool}{m:ML}{n:Nat}{A:List AV}{ks:List aJ}(h:A=ks.map dY):qx (MF tab fz m n) (ks.map dY) A:=by
  subst h;exact⟨.refl (aj _),aj _⟩
theorem lB (c:UInt8):0≤ (c.toNat:Int)∧(c.toNat:Int)<256:=by
  have:=c.toNat_lt
  omega
theorem oS {l:List ai}{k:Nat}(h:ae l (k:Int)=true):∃x,l[k]? =some x∧nd l (k:Int)=x:=by
  obtain⟨i,x,e,hx,hn⟩:=aU.1 h
  have e':k=i:=by omega
  subst e'
  exact⟨x,hx,hn⟩
theorem CT (ks:List Int)(c:Nat):(ks.length=0∧pW ks c=-1)∨(0<ks.length∧¬0<c%3∧pW ks c=-1)∨(0<ks.length∧0<c%3∧∃ci:Nat,(c:Int)% ((ks.map bU).length:Int)=(ci:Int)∧ks[ci]? =some (pW ks c)):=by
  by_cases h0:ks.length=0
  · refine .inl ⟨h0,?_⟩
    unfold pW;rw[if_neg (by omega)]
  · by_cases h3:0<c%3
    · refine .inr (.inr ⟨by omega,h3,c%ks.length,?_,?_⟩)
      ·rw[bW];exact(Int.natCast_emod _ _).symm
      · have hl:=Nat.mod_lt c (show 0<ks.length by omega)
        unfold pW;rw[if_pos ⟨by omega,h3⟩,bD hl];rfl
    · refine .inr (.inl ⟨by omega,h3,?_⟩)
      unfold pW;rw[if_neg (fun q=>h3 q.2)]
theorem ED (len:Nat)(g:ForM)(d:Br)(n p:Int)(hn:n=((d.n.toNat%len:Nat):Int))(hp:p=((d.p.toNat%len:Nat):Int)){child:Int}(hc:child=pW (nd g.nodes p).kids d.c.toNat):
    ((d.kind.toNat:Int)%5=0∧yE len g d=eC g n p child)∨((d.kind.toNat:Int)%5=1∧yE len g d=dD g n)∨((d.kind.toNat:Int)%5=2∧yE len g d=replaceM g n p child)∨
    ((d.kind.toNat:Int)%5=3∧yE len g d=je g n (wU (d.name.toNat%3)) (Lg (d.value.toNat%4)))∨((d.kind.toNat:Int)%5=4∧yE len g d=fV g n (wU (d.name.toNat%3))):=by
  subst hn;subst hp;subst hc
  unfold yE
  by_cases e0:d.kind.toNat%5=0
  ·exact .inl ⟨by omega,by rw[if_pos e0]⟩
  · by_cases e1:d.kind.toNat%5=1
    ·exact .inr (.inl ⟨by omega,by rw[if_neg e0,if_pos e1]⟩)
    · by_cases e2:d.kind.toNat%5=2
      ·exact .inr (.inr (.inl ⟨by omega,by rw[if_neg e0,if_neg e1,if_pos e2]⟩))
      · by_cases e3:d.kind.toNat%5=3
        ·exact .inr (.inr (.inr (.inl ⟨by omega,by rw[if_neg e0,if_neg e1,if_neg e2,if_pos e3]⟩)))
        ·exact .inr (.inr (.inr (.inr ⟨by omega,by rw[if_neg e0,if_neg e1,if_neg e2,if_neg e3]⟩)))
theorem JI (f:ForM)(l:List Br):ak Tryz.prog 10 [] [aM f,Fg l] [] (bC true):=by
  have h26:=IS
  have h16:=JR f
  have hdm:(l.map D4).length=l.length:=bW ..
  cases hsh:tW f with
  | false=>
    rw[hsh] at h16
    obtain⟨fl,m⟩:=f
    refine ak.aD (rvs:=[.tmp 4]) G au Tryz.func10 rfl Tryz.ntmps10 rfl rfl ?_;with_reducible refine wD ?_
    repeat' (first|refine gK ?_|((first|((with_reducible show af _ _ 26 _ _ _ _);refine af.lit [] h26 Lf trivial rfl rfl ?_)|((with_reducible show af _ _ 16 _ _ _ _);refine af.lit [] h16 Ld ⟨⟨rfl,rfl,trivial⟩,trivial⟩ rfl rfl ?_))<;>with_reducible refine wK ?_)|((with_reducible show(_∧_)∧_∧_);(refine eK ?_ ?_<;>with_reducible repeat' (first|exact trivial|(show _∧_;refine aK ?_ ?_)))))
    all_goals rfl
  | true =>
    rw[hsh] at h16
    have hs:=xE hsh
    have h17:=oy f hs
    cases hr:bt f with
    | false=>
      rw[hr] at h17
      obtain⟨fl,m⟩:=f
      refine ak.aD (rvs:=[.tmp 4]) G au Tryz.func10 rfl Tryz.ntmps10 rfl rfl ?_;with_reducible refine wD ?_
      repeat' (first|refine gK ?_|((first|((with_reducible show af _ _ 26 _ _ _ _);refine af.lit [] h26 Lf trivial rfl rfl ?_)|((with_reducible show af _ _ 16 _ _ _ _);refine af.lit [] h16 Ld ⟨⟨rfl,rfl,trivial⟩,trivial⟩ rfl rfl ?_)|((with_reducible show af _ _ 17 _ _ _ _);refine af.lit [] h17 Em ⟨⟨rfl,rfl,trivial⟩,trivial⟩ rfl rfl ?_))<;>with_reducible refine wK ?_)|((with_reducible show(_∧_)∧_∧_);(refine eK ?_ ?_<;>with_reducible repeat' (first|exact trivial|(show _∧_;refine aK ?_ ?_)))))
      all_goals rfl
    | true =>
      rw[hr] at h17
      by_cases h40:l.length≤40
      rotate_left
      · have f40:=eq_true (show 40< (l.length:Int) by omega)
        obtain⟨fl,m⟩:=f
        refine ak.aD (rvs:=[.tmp 4]) G au Tryz.func10 rfl Tryz.ntmps10 rfl rfl ?_;with_reducible refine wD ?_
        (have fct:=And.intro hdm (f40);(repeat' (first|refine gF ?_|((first|((with_reducible show af _ _ 26 _ _ _ _);refine af.lit [] h26 Lf trivial rfl rfl ?_)|((with_reducible show af _ _ 16 _ _ _ _);refine af.lit [] h16 Ld ⟨⟨rfl,rfl,trivial⟩,trivial⟩ rfl rfl ?_)|((with_reducible show af _ _ 17 _ _ _ _);refine af.lit [] h17 Em ⟨⟨rfl,rfl,trivial⟩,trivial⟩ rfl rfl ?_))<;>with_reducible refine wK ?_)|((with_reducible show(_∧_)∧_∧_);(refine eK ?_ ?_<;>with_reducible repeat' (first|exact trivial|(show _∧_;refine aK ?_ ?_))))));all_goals clear fct)
        all_goals rfl
      have f40:=eq_false (show ¬40< (l.length:Int) by omega)
      have hpos:1≤f.nodes.length:=by
        have h0:=hr
        unfold bt oz at h0
        simp only[bN,bH] at h0
        exact h0.1.1.1.2
      have h60:f.nodes.length≤60:=by
        have:=hsh;rw[zm] at this;simp only[bN,bH] at this;exact this.1
      have hrun:=GD hr h60 (by omega) l
      have hrs:=fun j d (h:l[j]? =some d)=>vE (f:=f) h
      have hr0:qF f (l.take 0)=(f,[]):=rfl
      have hre:qF f (l.take l.length)=qF f l:=by rw[List.take_length]
      obtain⟨S,hS⟩:∃S:Nat→ForM×List aJ,S=fun j=>qF f (l.take j):=⟨_,rfl⟩
      have hS0:S 0=(f,[]):=by rw[hS];exact hr0
      have hSN:∀j,j≤l.length→ia f (S j).1 (S j).2∧(S j).2.length≤100000*j:=fun j hj=>by rw[hS];exact hrun j hj
      have hSs:∀j d,l[j]? =some d→S (j+1)=((yE f.nodes.length (S j).1 d).1,(S j).2++ (yE f.nodes.length (S j).1 d).2.1):=fun j d h=>by rw[hS];exact hrs j d h
      clear hS hrun hrs hr0 hre
      obtain⟨fl,m⟩:=f
      have R:RF fl m:=ck.1 hr
      simp only at hpos h60 hSs
      have hlm:(fl.map bF).length=fl.length:=bW ..
      refine ak.aD (rvs:=[.tmp 4]) G au Tryz.func10 rfl Tryz.ntmps10 rfl rfl ?_;with_reducible refine wD ?_
      (have fct:=And.intro hdm (f40);(repeat' (first|refine gF ?_|((first|((with_reducible show af _ _ 26 _ _ _ _);refine af.lit [] h26 Lf trivial rfl rfl ?_)|((with_reducible show af _ _ 16 _ _ _ _);refine af.lit [] h16 Ld ⟨⟨rfl,rfl,trivial⟩,trivial⟩ rfl rfl ?_)|((with_reducible show af _ _ 17 _ _ _ _);refine af.lit [] h17 Em ⟨⟨rfl,rfl,trivial⟩,trivial⟩ rfl rfl ?_))<;>with_reducible refine wK ?_)|((with_reducible show(_∧_)∧_∧_);(refine eK ?_ ?_<;>with_reducible repeat' (first|exact trivial|(show _∧_;refine aK ?_ ?_))))));all_goals clear fct)
      refine bX.ghost 6 61 9 rfl rfl ?_
      refine bX.use G au (fun(j:Nat)=>[(1,Fg l),(2,.ptr 20 0 0),(5,.ptr 50 0 0),(6,.own 61 0 (S j).2.length),(7,ah j)])
        (fun j=>[(20,.live 2 [aM ⟨fl,m⟩] false),(50,.live 2 [aM (S j).1] false),(61,aN (S j).2)]) (fun j=>j≤l.length) (fun j=>l.length-j) 0 (Nat.zero_le _) ?_ ?_
      · rw[hS0]
        (refine fK ?_;(with_reducible repeat' (first|exact trivial|(show _∧_;refine aK ?_ ?_)));(all_goals try rfl))
        all_goals first|exact dQ rfl|rfl|exact⟨rfl,rfl⟩|trace_state
      intro j hj
      with_reducible refine wK ?_
      refine aX.mk (fun h1=>?_) (fun h1=>?_)<;>(try simp only[ay] at h1)<;>with_reducible refine wK ?_
      · have hjl:j<l.length:=by simp only[bH,ay] at h1;omega
        obtain⟨d,hd⟩:∃d,l[j]? =some d:=⟨_,bD hjl⟩
        obtain⟨N,hNl⟩:=hSN j hj
        have hst:=hSs j d hd
        clear hSs hSN hS0 h1
        generalize hS':S (j+1)=s' at*
        generalize S j=s at*
        obtain⟨⟨gl,gm⟩,sn⟩:=s
        simp only at N hst hNl
        have RG:RF gl gm:=ck.1 N.right
        have hgl:gl.length=fl.length:=N.len
        have hsg:bw gl:=c9 RG (by omega)
        have h33:=F0 ⟨gl,gm⟩ hsg
        have K:=Iy RG hgl (by omega) d
        have hml:=EM RG (by omega) hgl (by omega) d
        obtain⟨i,hi⟩:∃i:Nat,i=d.n.toNat%fl.length:=⟨_,rfl⟩
        obtain⟨p,hp⟩:∃p:Nat,p=d.p.toNat%fl.length:=⟨_,rfl⟩
        have hil:i<fl.length:=by rw[hi];exact Nat.mod_lt _ (by omega)
        have hpl:p<fl.length:=by rw[hp];exact Nat.mod_lt _ (by omega)
        have hni:(d.n.toNat:Int)% ((fl.map bF).length:Int)=(i:Int):=by rw[hlm,hi];exact(Int.natCast_emod _ _).symm
        have hnj:(d.p.toNat:Int)% ((fl.map bF).length:Int)=(p:Int):=by rw[hlm,hp];exact(Int.natCast_emod _ _).symm
        obtain⟨y,hy,hyn⟩:=oS (l:=gl) (k:=p) (dw (by omega))
        have hop:=ED fl.length ⟨gl,gm⟩ d (i:Int) (p:Int) (by rw[hi]) (by rw[hp]) (child:=pW y.kids d.c.toNat) (by rw[←hyn])
        have hkc:=CT y.kids d.c.toNat
        have hykl:y.kids.length≤60:=hsg.kids y (bO hy)
        have hct:=vQ RG (p:=(p:Int)) (dw (by omega)) d.c.toNat
        rw[hyn] at hct
        generalize hchild:pW y.kids d.c.toNat=child at*
        have h29:=Ef ⟨gl,gm⟩ hsg (show gl.length≤60 by omega) i p child
        have h32:=AW ⟨gl,gm⟩ hsg i
        have h36:=IV ⟨gl,gm⟩ hsg (show gl.length≤60 by omega) i p child
        have hq1:d.name.toNat%3<26:=by have:=Nat.mod_lt d.name.toNat (show 0<3 by decide);omega
        have hq2:d.value.toNat%4<26:=by have:=Nat.mod_lt d.value.toNat (show 0<4 by decide);omega
        have hb1:(d.name.toNat:Int)%3=((d.name.toNat%3:Nat):Int):=by omega
        have hb2:(d.value.toNat:Int)%4=((d.value.toNat%4:Nat):Int):=by omega
        have h18:=FK ⟨gl,gm⟩ hsg i (wU (d.name.toNat%3)) (Lg (d.value.toNat%4)) (show(1:Nat)≤100000 by decide)
        have h24:=Js ⟨gl,gm⟩ hsg i (wU (d.name.toNat%3)) (show(1:Nat)≤100000 by decide)
        obtain⟨d1,d2,d3,d4,d5,d6⟩:=d
        obtain⟨y1,y2,y3,y4,y5,y6,y7,y8,y9,y10⟩:=y
        simp only at hop hkc hykl hct hni hnj hq1 hq2 hb1 hb2 h18 h24 hi hp
        generalize yE fl.length ⟨gl,gm⟩ ⟨d1,d2,d3,d4,d5,d6⟩=r at*
        obtain⟨⟨hl,hm⟩,ms,e⟩:=r
        simp only at hst hml
        have K1:=K.right
        have K2:hl.length=gl.length:=K.len
        have K3:=K.fail
        simp only at K1 K3
        clear K N hi hp hyn hchild
        have h17h:=oy ⟨hl,hm⟩ (c9 (ck.1 K1) (show hl.length≤60 by omega))
        rw[K1] at h17h
        have hyl:(y7.map bU).length=y7.length:=bW ..
        have hhm:(hl.map bF).length=fl.length:=by rw[bW];omega
        have k8:=lB d1
        have n8:=lB d2
        have p8:=lB d3
        have c8:=lB d4
        have a8:=lB d5
        have v8:=lB d6
        have hnw1:IntKind.u8.wrap (97+ (d5.toNat:Int)%3)=((UInt8.ofNat (97+d5.toNat%3)).toNat:Int):=by rw[hb1];exact zF hq1
        have hnw2:IntKind.u8.wrap (48+ (d6.toNat:Int)%4)=((UInt8.ofNat (48+d6.toNat%4)).toNat:Int):=by rw[hb2];exact F5 hq2
        have he:(e=0)∨(e≠0∧hl=gl∧hm=gm∧ms=[]):=by
          by_cases h:e=0
          ·exact .inl h
          · obtain⟨q1,q2⟩:=K3 h
            cases q1
            exact .inr ⟨h,rfl,rfl,q2⟩
        clear K3 K1
        have fin:s'=(⟨hl,hm⟩,sn++ms):=hst
        clear hst
        have hkc2:∃ (a b:Prop),(a∧b)∧((a=(y7.length=0)∧b=True∧child=-1)∨(a=((0<y7.length)=True)∧b=((0< (d4.toNat:Int)%3)=False)∧child=-1)∨(a=((0<y7.length)=True)∧b=((0< (d4.toNat:Int)%3)=True)∧0<y7.length∧∃ci:Nat,(d4.toNat:Int)% ((y7.map bU).length:Int)=(ci:Int)∧y7[ci]? =some child)):=by
          rcases hkc with⟨q1,q2⟩|⟨q1,q2,q3⟩|⟨q1,q2,q3⟩
          ·exact⟨_,_,⟨q1,trivial⟩,.inl ⟨rfl,rfl,q2⟩⟩
          ·exact⟨_,_,⟨eq_true (by omega),eq_false (by omega)⟩,.inr (.inl ⟨rfl,rfl,q3⟩)⟩
          ·exact⟨_,_,⟨eq_true (by omega),eq_true (by omega)⟩,.inr (.inr ⟨rfl,rfl,q1,q3⟩)⟩
        clear hkc
        obtain⟨pa,pb,⟨fl0,fcm⟩,hkc3⟩:=hkc2
        have he2:∃pe:Prop,pe∧((pe=True∧e=0)∨(pe=((e=0)=False)∧hl=gl∧hm=gm∧ms=[])):=by
          rcases he with q|⟨q,q2⟩
          ·exact⟨True,trivial,.inl ⟨rfl,q⟩⟩
          ·exact⟨_,eq_false q,.inr ⟨rfl,q2⟩⟩
        clear he
        obtain⟨pe,fe,he3⟩:=he2
        have hrow:(l.map D4)[j]? =some (.agg [.lit (.int .u8 (d1.toNat:Int)),.lit (.int .u8 (d2.toNat:Int)),.lit (.int .u8 (d3.toNat:Int)),.lit (.int .u8 (d4.toNat:Int)),.lit (.int .u8 (d5.toNat:Int)),.lit (.int .u8 (d6.toNat:Int))]):=HG hd
        clear hd
        generalize d5.toNat%3=A at*
        generalize d6.toNat%4=B at*
        generalize(d1.toNat:Int)=k1 at*
        generalize(d2.toNat:Int)=k2 at*
        generalize(d3.toNat:Int)=k3 at*
        generalize(d4.toNat:Int)=k4 at*
        generalize(d5.toNat:Int)=k5 at*
        generalize(d6.toNat:Int)=k6 at*
        rcases hop with⟨fq,ho⟩|⟨fq,ho⟩|⟨fq,ho⟩|⟨fq,ho⟩|⟨fq,ho⟩
        all_goals
          (first|rw[←ho] at h29|rw[←ho] at h32|rw[←ho] at h36|rw[←ho] at h18|rw[←ho] at h24)
          rcases hkc3 with⟨rfl,rfl,rfl⟩|⟨rfl,rfl,rfl⟩|⟨rfl,rfl,hl1,ci,hci,hch⟩
        all_goals rcases he3 with⟨rfl,rfl⟩|⟨rfl,rfl,rfl,rfl⟩
        all_goals
          (have fct:=And.intro hlm (And.intro hhm (And.intro hyl (And.intro hdm (And.intro fl0 (And.intro fcm (And.intro fq (fe)))))));(repeat' (first|refine gF ?_|((first|((with_reducible show bg _ _ _ _ _);first|refine bg.mk j _ rfl hrow ?_|refine bg.mk p (aP _) (by first|exact hnj|rfl) (aB hy) ?_|refine bg.mk ci (ah child) hci (gr hch) ?_)|(refine oh.int (by kernel_rfl) (by kernel_rfl) (wrap_u8 (by assumption)) ?_)|(refine aW.rem (by(try simp only[ay]);omega) (by(try simp only[ay]);omega) rfl rfl rfl rfl ?_)|((with_reducible show oF _ _ _ _ _ _ _ _ _);first|refine oF.mk (e:=5) [UInt8.ofNat (97+A)] (by kernel_rfl) (by kernel_rfl) (by kernel_rfl) rfl (by simp) (qV hnw1) ?_|refine oF.mk (e:=5) [UInt8.ofNat (48+B)] (by kernel_rfl) (by kernel_rfl) (by kernel_rfl) rfl (by simp) (qV hnw2) ?_)|((with_reducible show af _ _ 29 _ _ _ _);(try rw[hni]);(try rw[hnj]);refine af.val [] h29 Mj ⟨⟨rfl,rfl,trivial⟩,rfl,rfl,rfl,trivial⟩ rfl rfl (eL _ _ _) ?_)|((with_reducible show af _ _ 32 _ _ _ _);(try rw[hni]);(try rw[hnj]);refine af.val [] h32 Ly ⟨⟨rfl,rfl,trivial⟩,rfl,trivial⟩ rfl rfl (eL _ _ _) ?_)|((with_reducible show af _ _ 36 _ _ _ _);(try rw[hni]);(try rw[hnj]);refine af.val [] h36 Mt ⟨⟨rfl,rfl,trivial⟩,rfl,rfl,rfl,trivial⟩ rfl rfl (eL _ _ _) ?_)|((with_reducible show af _ _ 18 _ _ _ _);(try rw[hni]);(try rw[hnj]);refine af.val [] h18 Mr ⟨⟨rfl,rfl,trivial⟩,rfl,rfl,rfl,trivial⟩ rfl rfl (eL _ _ _) ?_)|((with_reducible show af _ _ 24 _ _ _ _);(try rw[hni]);(try rw[hnj]);refine af.val [] h24 MH ⟨⟨rfl,rfl,trivial⟩,rfl,rfl,trivial⟩ rfl rfl (eL _ _ _) ?_)|((with_reducible show af _ _ 17 _ _ _ _);refine af.lit [] h17h Em ⟨⟨rfl,rfl,trivial⟩,trivial⟩ rfl rfl ?_)|((with_reducible show af _ _ 33 _ _ _ _);refine af.lit [] h33 MI ⟨⟨rfl,rfl,trivial⟩,⟨rfl,rfl,trivial⟩,trivial⟩ rfl rfl ?_)|((with_reducible show iT _ _ _ _ _ _ _ _ _ _);refine iT.mk (sn.map dY) (List.map dY _) ⟨rfl,(bW ..).symm,rfl⟩ ⟨rfl,rfl,rfl⟩ (Dl _) (by simp;omega) (by simp;omega) ?_)|((with_reducible show aI _ _ _ _);refine dK ?_))<;>with_reducible refine wK ?_)|((with_reducible show(_∧_)∧_∧_);(refine eK ?_ ?_<;>with_reducible repeat' (first|exact trivial|(show _∧_;refine aK ?_ ?_))))));all_goals clear fct)
          refine bR.mk (j+1) (by omega) (by omega) ?_
          rw[hS',fin]
          (refine fK ?_;(with_reducible repeat' (first|exact trivial|(show _∧_;refine aK ?_ ?_)));(all_goals try rfl))
          all_goals first|exact dQ (by simp)|rfl|(simp;done)|exact⟨rfl,rfl⟩|trace_state
      obtain rfl:j=l.length:=by simp only[cR,ay] at h1;omega
      obtain⟨N,hNl⟩:=hSN l.length (Nat.le_refl _)
      clear hSs hSN hS0 h1
      generalize S l.length=s at*
      obtain⟨⟨gl,gm⟩,sn⟩:=s
      simp only at N hNl
      have RG:RF gl gm:=ck.1 N.right
      have hgl:gl.length=fl.length:=N.len
      have hsg:bw gl:=c9 RG (by omega)
      have hnm:(sn.map dY).length=sn.length:=bW ..
      repeat' (first|refine gK ?_|(((with_reducible show aI _ _ _ _);refine dK ?_)<;>with_reducible refine wK ?_)|((with_reducible show(_∧_)∧_∧_);(refine eK ?_ ?_<;>with_reducible repeat' (first|exact trivial|(show _∧_;refine aK ?_ ?_)))))
      refine bX.use G au (fun(k:Nat)=>[(2,.ptr 20 0 0),(5,.ptr 50 0 0),(6,.own 61 0 sn.length),(15,ah k)])
        (fun k=>[(20,.live 2 [aM ⟨fl,m⟩] false),(50,.live 2 [aM ⟨gl,gm⟩] false),(61,aN sn)]) (fun k=>k≤fl.length) (fun k=>fl.length-k) 0 (Nat.zero_le _) ?_ ?_
      · (refine fK ?_;(with_reducible repeat' (first|exact trivial|(show _∧_;refine aK ?_ ?_)));(all_goals try rfl))
        all_goals first|exact dQ rfl|rfl|exact⟨rfl,rfl⟩|trace_state
      intro k hk
      with_reducible refine wK ?_
      refine aX.mk (fun h1=>?_) (fun h1=>?_)<;>(try simp only[ay] at h1)<;>with_reducible refine wK ?_
      · have hkl:k<fl.length:=by simp only[bH,ay] at h1;omega
        have hkt:=dw hkl
        obtain⟨U,hU0,hUn,hUb,hUs⟩:=xU N hkt
        obtain⟨x,hx,hxn⟩:=oS hkt
        obtain⟨gx,hgx,hgxn⟩:=oS (l:=gl) (k:=k) (dw (by omega))
        have h35:=wT R h60 hkt
        have h35g:=wT RG (by omega) (n:=(k:Int)) (dw (by omega))
        have h47:=IN ⟨fl,m⟩ ⟨gl,gm⟩ hx hgx (hs.attrs x (bO hx)) (hsg.attrs gx (bO hgx)) sn (by omega) fun t ht=>by
          have:=N.chain k hkt (wU t) (DR t ht) (Ij t ht)
          rw[hxn,hgxn] at this
          exact this
        simp only at hU0 hUn hUs
        rw[hxn] at hU0 hUn hUs
        rw[hgxn] at hUn
        clear h1 hxn
        obtain⟨x1,x2,x3,x4,x5,x6,x7,x8,x9,x10⟩:=x
        obtain⟨g1,g2,g3,g4,g5,g6,g7,g8,g9,g10⟩:=gx
        simp only at hU0 hUn hUs
        have hU2:(U 0).2=x10:=by rw[hU0]
        refine And.left (b:=True) ?_
        apply Kt
        · intro tail
          cases hc:ei fl k with
          | true=>
            rw[hc] at h35
            have hU1:(U 0).1=1:=by rw[hU0,hc];rfl
            repeat' (first|refine gK ?_|((first|((with_reducible show bg _ _ _ _ _);refine bg.mk k (aP _) rfl (aB hx) ?_)|((with_reducible show af _ _ 35 _ _ _ _);refine af.lit [] h35 Gi ⟨⟨rfl,rfl,trivial⟩,rfl,trivial⟩ rfl rfl ?_)|((with_reducible show aI _ _ _ _);refine dK ?_))<;>with_reducible refine wK ?_)|((with_reducible show(_∧_)∧_∧_);(refine eK ?_ ?_<;>with_reducible repeat' (first|exact trivial|(show _∧_;refine aK ?_ ?_)))))
            refine bX.use G au (fun(i:Nat)=>[(2,.ptr 20 0 0),(5,.ptr 50 0 0),(6,.own 61 0 sn.length),(15,ah k),(16,ah (U i).1),(17,ah (U i).2),(18,ah i)])
              (fun _=>[(20,.live 2 [aM ⟨fl,m⟩] false),(50,.live 2 [aM ⟨gl,gm⟩] false),(61,aN sn)]) (fun i=>i≤sn.length) (fun i=>sn.length-i) 0 (Nat.zero_le _) ?_ ?_
            · rw[hU1,hU2]
              (refine fK ?_;(with_reducible repeat' (first|exact trivial|(show _∧_;refine aK ?_ ?_)));(all_goals try rfl))
              all_goals first|exact dQ rfl|rfl|exact⟨rfl,rfl⟩|trace_state
            ·exact tail.get
          | false=>
            rw[hc] at h35
            have hU1:(U 0).1=0:=by rw[hU0,hc];rfl
            repeat' (first|refine gK ?_|((first|((with_reducible show bg _ _ _ _ _);refine bg.mk k (aP _) rfl (aB hx) ?_)|((with_reducible show af _ _ 35 _ _ _ _);refine af.lit [] h35 Gi ⟨⟨rfl,rfl,trivial⟩,rfl,trivial⟩ rfl rfl ?_)|((with_reducible show aI _ _ _ _);refine dK ?_))<;>with_reducible refine wK ?_)|((with_reducible show(_∧_)∧_∧_);(refine eK ?_ ?_<;>with_reducible repeat' (first|exact trivial|(show _∧_;refine aK ?_ ?_)))))
            refine bX.use G au (fun(i:Nat)=>[(2,.ptr 20 0 0),(5,.ptr 50 0 0),(6,.own 61 0 sn.length),(15,ah k),(16,ah (U i).1),(17,ah (U i).2),(18,ah i)])
              (fun _=>[(20,.live 2 [aM ⟨fl,m⟩] false),(50,.live 2 [aM ⟨gl,gm⟩] false),(61,aN sn)]) (fun i=>i≤sn.length) (fun i=>sn.length-i) 0 (Nat.zero_le _) ?_ ?_
            · rw[hU1,hU2]
              (refine fK ?_;(with_reducible repeat' (first|exact trivial|(show _∧_;refine aK ?_ ?_)));(all_goals try rfl))
              all_goals first|exact dQ rfl|rfl|exact⟨rfl,rfl⟩|trace_state
            ·exact tail.get
        intro i hi
        have hub:=hUb i hi
        with_reducible refine wK ?_
        refine aX.mk (fun h2=>?_) (fun h2=>?_)<;>(try simp only[ay] at h2)<;>with_reducible refine wK ?_
        · have hil:i<sn.length:=by simp only[bH,ay] at h2;omega
          obtain⟨z,hz⟩:∃z,sn[i]? =some z:=⟨_,bD hil⟩
          have hge:=kW hz
          obtain⟨hs1,hs2⟩:=hUs i z hz
          have hub':=hUb (i+1) hil
          clear hUs hUb hUn hU0 hU2
          generalize hV:U (i+1)=V at*
          generalize U i=u at*
          obtain⟨u1,u2⟩:=u
          obtain⟨z1,z2,z3,z4,z5,z6,z7,z8,z9⟩:=z
          simp only at hs1 hs2 hub hub'
          by_cases e1:z2=(k:Int)
          · obtain⟨hk1,hv⟩:=hs1 e1
            have f1:=eq_true e1
            have f2:=eq_true hk1
            have hvc:=(rP hv).2
            simp only at hvc
            rcases hvc with⟨q1,rfl⟩|⟨q1,rfl⟩|⟨q1,q2,q3,q4,rfl⟩|⟨q1,q2,q3,rfl⟩
            · have f3:=eq_true q1
              have f4:=eq_false (show ¬u1+1<0 by have:=hub'.1;simp only at this;omega)
              have f5:=eq_false (show ¬1<u1+1 by have:=hub'.2;simp only at this;omega)
              (have fct:=And.intro f1 (And.intro f2 (And.intro f3 (And.intro f4 (f5))));(repeat' (first|refine gF ?_|((first|((with_reducible show ee _ _ _ _ _);refine ee.mk i rfl (by first|exact hil|omega) ?_)|((with_reducible show aT _ _ _ _ _);refine aT.mk (jl _) (by first|exact hge|(rw[Nat.zero_add];exact hge)) ?_)|((with_reducible show bg _ _ _ _ _);refine bg.mk k (aP _) rfl (aB hx) ?_)|((with_reducible show aI _ _ _ _);refine dK ?_))<;>with_reducible refine wK ?_)|((with_reducible show(_∧_)∧_∧_);(refine eK ?_ ?_<;>with_reducible repeat' (first|exact trivial|(show _∧_;refine aK ?_ ?_))))));all_goals clear fct)
              refine bR.mk (i+1) (by omega) (by omega) ?_
              rw[hV]
              (refine fK ?_;(with_reducible repeat' (first|exact trivial|(show _∧_;refine aK ?_ ?_)));(all_goals try rfl))
              all_goals first|exact dQ rfl|rfl|exact⟨rfl,rfl⟩|trace_state
            · subst q1
              have f4:=eq_false (show ¬u1-1<0 by have:=hub'.1;simp only at this;omega)
              have f5:=eq_false (show ¬1<u1-1 by have:=hub'.2;simp only at this;omega)
              (have fct:=And.intro f1 (And.intro f2 (And.intro f4 (f5)));(repeat' (first|refine gF ?_|((first|((with_reducible show ee _ _ _ _ _);refine ee.mk i rfl (by first|exact hil|omega) ?_)|((with_reducible show aT _ _ _ _ _);refine aT.mk (jl _) (by first|exact hge|(rw[Nat.zero_add];exact hge)) ?_)|((with_reducible show bg _ _ _ _ _);refine bg.mk k (aP _) rfl (aB hx) ?_)|((with_reducible show aI _ _ _ _);refine dK ?_))<;>with_reducible refine wK ?_)|((with_reducible show(_∧_)∧_∧_);(refine eK ?_ ?_<;>with_reducible repeat' (first|exact trivial|(show _∧_;refine aK ?_ ?_))))));all_goals clear fct)
              refine bR.mk (i+1) (by omega) (by omega) ?_
              rw[hV]
              (refine fK ?_;(with_reducible repeat' (first|exact trivial|(show _∧_;refine aK ?_ ?_)));(all_goals try rfl))
              all_goals first|exact dQ rfl|rfl|exact⟨rfl,rfl⟩|trace_state
            · subst q1
              subst q2
              subst q4
              have f3:=eq_false q3
              (have fct:=And.intro f1 (And.intro f2 (f3));(repeat' (first|refine gF ?_|((first|((with_reducible show ee _ _ _ _ _);refine ee.mk i rfl (by first|exact hil|omega) ?_)|((with_reducible show aT _ _ _ _ _);refine aT.mk (jl _) (by first|exact hge|(rw[Nat.zero_add];exact hge)) ?_)|((with_reducible show bg _ _ _ _ _);refine bg.mk k (aP _) rfl (aB hx) ?_)|((with_reducible show aI _ _ _ _);refine dK ?_))<;>with_reducible refine wK ?_)|((with_reducible show(_∧_)∧_∧_);(refine eK ?_ ?_<;>with_reducible repeat' (first|exact trivial|(show _∧_;refine aK ?_ ?_))))));all_goals clear fct)
              refine bR.mk (i+1) (by omega) (by omega) ?_
              rw[hV]
              (refine fK ?_;(with_reducible repeat' (first|exact trivial|(show _∧_;refine aK ?_ ?_)));(all_goals try rfl))
              all_goals first|exact dQ rfl|rfl|exact⟨rfl,rfl⟩|trace_state
            · have f3:=eq_false q1
              have f4:=eq_false q2
              have f5:=eq_false q3
              have f6:=eq_false (show ¬u1<0 by omega)
              have f7:=eq_false (show ¬1<u1 by omega)
              (have fct:=And.intro f1 (And.intro f2 (And.intro f3 (And.intro f4 (And.intro f5 (And.intro f6 (f7))))));(repeat' (first|refine gF ?_|((first|((with_reducible show ee _ _ _ _ _);refine ee.mk i rfl (by first|exact hil|omega) ?_)|((with_reducible show aT _ _ _ _ _);refine aT.mk (jl _) (by first|exact hge|(rw[Nat.zero_add];exact hge)) ?_)|((with_reducible show bg _ _ _ _ _);refine bg.mk k (aP _) rfl (aB hx) ?_)|((with_reducible show aI _ _ _ _);refine dK ?_))<;>with_reducible refine wK ?_)|((with_reducible show(_∧_)∧_∧_);(refine eK ?_ ?_<;>with_reducible repeat' (first|exact trivial|(show _∧_;refine aK ?_ ?_))))));all_goals clear fct)
              refine bR.mk (i+1) (by omega) (by omega) ?_
              rw[hV]
              (refine fK ?_;(with_reducible repeat' (first|exact trivial|(show _∧_;refine aK ?_ ?_)));(all_goals try rfl))
              all_goals first|exact dQ rfl|rfl|exact⟨rfl,rfl⟩|trace_state
          · have hv:=hs2 e1
            subst hv
            have f1:=eq_false e1
            (have fct:=f1;(repeat' (first|refine gF ?_|((first|((with_reducible show ee _ _ _ _ _);refine ee.mk i rfl (by first|exact hil|omega) ?_)|((with_reducible show aT _ _ _ _ _);refine aT.mk (jl _) (by first|exact hge|(rw[Nat.zero_add];exact hge)) ?_)|((with_reducible show bg _ _ _ _ _);refine bg.mk k (aP _) rfl (aB hx) ?_)|((with_reducible show aI _ _ _ _);refine dK ?_))<;>with_reducible refine wK ?_)|((with_reducible show(_∧_)∧_∧_);(refine eK ?_ ?_<;>with_reducible repeat' (first|exact trivial|(show _∧_;refine aK ?_ ?_))))));all_goals clear fct)
            refine bR.mk (i+1) (by omega) (by omega) ?_
            rw[hV]
            (refine fK ?_;(with_reducible repeat' (first|exact trivial|(show _∧_;refine aK ?_ ?_)));(all_goals try rfl))
            all_goals first|exact dQ rfl|rfl|exact⟨rfl,rfl⟩|trace_state
        obtain rfl:i=sn.length:=by simp only[cR,ay] at h2;omega
        by_cases e1:x1=1
        · have f1:=eq_true e1
          rw[hUn e1]
          cases hc:ei gl k with
          | true=>
            rw[hc] at h35g
            rw[show zQ true=1 from rfl]
            (have fct:=f1;(repeat' (first|refine gF ?_|((first|((with_reducible show bg _ _ _ _ _);first|refine bg.mk k (aP _) rfl (aB hx) ?_|refine bg.mk k (aP _) rfl (aB hgx) ?_)|((with_reducible show af _ _ 35 _ _ _ _);refine af.lit [] h35g Gi ⟨⟨rfl,rfl,trivial⟩,rfl,trivial⟩ rfl rfl ?_)|((with_reducible show af _ _ 47 _ _ _ _);refine af.lit [61] h47 LG ⟨⟨rfl,rfl,trivial⟩,⟨rfl,rfl,trivial⟩,rfl,jh rfl rfl rfl (by simp) (aj _),trivial⟩ rfl rfl ?_)|((with_reducible show aI _ _ _ _);refine dK ?_))<;>with_reducible refine wK ?_)|((with_reducible show(_∧_)∧_∧_);(refine eK ?_ ?_<;>with_reducible repeat' (first|exact trivial|(show _∧_;refine aK ?_ ?_))))));all_goals clear fct)
            refine bR.mk (k+1) (by omega) (by omega) ?_
            (refine fK ?_;(with_reducible repeat' (first|exact trivial|(show _∧_;refine aK ?_ ?_)));(all_goals try rfl))
            all_goals first|exact dQ rfl|rfl|exact⟨rfl,rfl⟩|trace_state
          | false=>
            rw[hc] at h35g
            rw[show zQ false=0 from rfl]
            (have fct:=f1;(repeat' (first|refine gF ?_|((first|((with_reducible show bg _ _ _ _ _);first|refine bg.mk k (aP _) rfl (aB hx) ?_|refine bg.mk k (aP _) rfl (aB hgx) ?_)|((with_reducible show af _ _ 35 _ _ _ _);refine af.lit [] h35g Gi ⟨⟨rfl,rfl,trivial⟩,rfl,trivial⟩ rfl rfl ?_)|((with_reducible show af _ _ 47 _ _ _ _);refine af.lit [61] h47 LG ⟨⟨rfl,rfl,trivial⟩,⟨rfl,rfl,trivial⟩,rfl,jh rfl rfl rfl (by simp) (aj _),trivial⟩ rfl rfl ?_)|((with_reducible show aI _ _ _ _);refine dK ?_))<;>with_reducible refine wK ?_)|((with_reducible show(_∧_)∧_∧_);(refine eK ?_ ?_<;>with_reducible repeat' (first|exact trivial|(show _∧_;refine aK ?_ ?_))))));all_goals clear fct)
            refine bR.mk (k+1) (by omega) (by omega) ?_
            (refine fK ?_;(with_reducible repeat' (first|exact trivial|(show _∧_;refine aK ?_ ?_)));(all_goals try rfl))
            all_goals first|exact dQ rfl|rfl|exact⟨rfl,rfl⟩|trace_state
        · have f1:=eq_false e1
          (have fct:=f1;(repeat' (first|refine gF ?_|((first|((with_reducible show bg _ _ _ _ _);first|refine bg.mk k (aP _) rfl (aB hx) ?_|refine bg.mk k (aP _) rfl (aB hgx) ?_)|((with_reducible show af _ _ 35 _ _ _ _);refine af.lit [] h35g Gi ⟨⟨rfl,rfl,trivial⟩,rfl,trivial⟩ rfl rfl ?_)|((with_reducible show af _ _ 47 _ _ _ _);refine af.lit [61] h47 LG ⟨⟨rfl,rfl,trivial⟩,⟨rfl,rfl,trivial⟩,rfl,jh rfl rfl rfl (by simp) (aj _),trivial⟩ rfl rfl ?_)|((with_reducible show aI _ _ _ _);refine dK ?_))<;>with_reducible refine wK ?_)|((with_reducible show(_∧_)∧_∧_);(refine eK ?_ ?_<;>with_reducible repeat' (first|exact trivial|(show _∧_;refine aK ?_ ?_))))));all_goals clear fct)
          refine bR.mk (k+1) (by omega) (by omega) ?_
          (refine fK ?_;(with_reducible repeat' (first|exact trivial|(show _∧_;refine aK ?_ ?_)));(all_goals try rfl))
          all_goals first|exact dQ rfl|rfl|exact⟨rfl,rfl⟩|trace_state
      · repeat' (first|refine gK ?_|((with_reducible show(_∧_)∧_∧_);(refine eK ?_ ?_<;>with_reducible repeat' (first|exact trivial|(show _∧_;refine aK ?_ ?_)))))
        all_goals first|rfl|trace_state
theorem Gc:Reads Tryz.prog 9 1 bS (fun s=>s.size≤maxLen):=Reads.str Tryz.underlying9 (by kernel_rfl)
theorem A2:Reads Tryz.prog 3 1 bU (fun _=>True):=(Reads.int Tryz.underlying3 (by kernel_rfl)).conv id id (fun _=>rfl) (fun _=>rfl) (fun _ _=>trivial)
theorem Ku:Reads Tryz.prog 90 2 cV (fun _=>True):=
 (Reads.struct (l:=[(0,9),(1,9)]) Tryz.underlying90 (by kernel_rfl) rfl (.cons Gc (.cons Gc .nil))).conv
  (fun(a,b,_)=>⟨a,b⟩) (fun t=>(t.name,t.value,())) (fun _=>rfl) (fun _=>rfl) (fun _ _=>trivial)
theorem GR:Reads Tryz.prog 32 1 cJ (fun _=>True):=(Reads.slice Tryz.underlying32 (by kernel_rfl) Ku (by omega)).conv id id (fun _=>rfl) (fun _=>rfl) (fun _ _=>trivial)
theorem J0:Reads Tryz.prog 33 1 cN (fun _=>True):=(Reads.slice Tryz.underlying33 (by kernel_rfl) A2 (by omega)).conv id id (fun _=>rfl) (fun _=>rfl) (fun _ _=>trivial)
theorem Kv:Reads Tryz.prog 35 10 bF (fun _=>True):=
 (Reads.struct (l:=[(0,3),(1,9),(2,9),(3,9),(4,32),(5,3),(6,33),(7,3),(8,3),(9,3)]) Tryz.underlying35 (by kernel_rfl) rfl
  (.cons A2 (.cons Gc (.cons Gc (.cons Gc (.cons GR (.cons A2 (.cons J0 (.cons A2 (.cons A2 (.cons A2 .nil))))))))))).conv
  (fun(a,b,c,d,e,f,g,h,i,j,_)=>⟨a,b,c,d,e,f,g,h,i,j⟩)
  (fun t=>(t.kind,t.name,t.is,t.data,t.attrs,t.parent,t.kids,t.host,t.under,t.doc,())) (fun _=>rfl) (fun _=>rfl) (fun _ _=>trivial)
theorem HI:Reads Tryz.prog 22 1 qD (fun _=>True):=(Reads.slice Tryz.underlying22 (by kernel_rfl) Kv (by omega)).conv id id (fun _=>rfl) (fun _=>rfl) (fun _ _=>trivial)
theorem Ln:Reads Tryz.prog 24 2 aM (fun _=>True):=
 (Reads.struct (l:=[(0,22),(1,3)]) Tryz.underlying24 (by kernel_rfl) rfl (.cons HI (.cons A2 .nil))).conv
  (fun(a,b,_)=>⟨a,b⟩) (fun t=>(t.nodes,t.most,())) (fun _=>rfl) (fun _=>rfl) (fun _ _=>trivial)
theorem laid:Go.laidOutB Tryz.prog=true:=by kernel_rfl
abbrev kU:List (String×DataW Unit):=[("errors.errorType",Go.Proofs.YtkhjcnjicjgfiaaGreatDoor.Rows.laid_errors_errorType)]
theorem Fz (os:Os)(args:Array Value):laidMetH Tryz.prog kU ((World.doorLaid Tryz.prog 33 os).forCall (fun _ _=>0) ⟨#[],args,[]⟩).memory:=
 laidMetH_of_parts3 (fuel:=8) (laidMet_of_run' 8 (by kernel_rfl) (by kernel_rfl)) (by kernel_rfl) (by kernel_rfl)
theorem wW {W:World}(h:laidMetH Tryz.prog kU W):kg Tryz.prog W fun _=>none:=by
 refine⟨fun g hg=>(by rw[show Tryz.prog.globalNamed "no such variable" =none by kernel_rfl] at hg;cases hg),fun g hg=>?_⟩
 have h':handlesMet Tryz.prog kU W:=h.2
 have h0:=h' _ (gA.2 rfl)
 have h1:∃name u ty,(DataW.handleName? (Go.Proofs.YtkhjcnjicjgfiaaGreatDoor.Rows.laid_errors_errorType:DataW Unit))=some name∧(Tryz.prog.cutTypes.find? (·.1== "internal/reflectlite.rtype")).map (·.2)=some u∧ty<Tryz.prog.types.size∧Tryz.prog.rowNamed ty name=true∧
   W.var? Tryz.prog "errors.errorType" =some #[.iface u (.agg #[typeHandle Tryz.prog ty])]:=h0
 obtain⟨name,u,ty,k1,k2,k3,k4,k5⟩:=h1
 obtain rfl:[101,114,114,111,114]=name:=Option.some.inj k1
 have e:g=0:=Option.some.inj (hg.symm.trans (by kernel_rfl))
 subst e
 unfold World.var? at k5
 rw[hg] at k5
 simp only[Option.bind_some] at k5
 refine⟨(by rintro⟨_,_,h,_⟩;cases h),?_,_,⟨u,ty,k2,k3,k4,rfl⟩,?_⟩
 · split at k5
   ·rename_i hh;exact(Array.getElem?_eq_some_iff.1 hh).1
   ·cases k5
 · split at k5
   · rename_i cs _ _ hh
     obtain rfl:cs=_:=Option.some.inj k5
     simp[World.cell?,hh]
   ·cases k5
theorem J6:Reads Tryz.prog 5 1 (fun c:UInt8=>.lit (.int .u8 (c.toNat:Int))) (fun _=>True):=by
  have h:=Reads.int (P:=Tryz.prog) (t:=5) (k:=.u8) Tryz.underlying5 (by kernel_rfl)
  refine⟨h.1,fun _=>⟨rfl,by simp[cells,bz]⟩,fun hx=>?_⟩
  obtain⟨hl,a,hw,hr⟩:=h.2.2 hx
  have hk:0≤a∧a<256:=by
    simp[Lit.wf,IntKind.min,IntKind.max,IntKind.signed,IntKind.bits] at hw
    omega
  refine⟨hl,UInt8.ofNat a.toNat,trivial,?_⟩
  have e:((UInt8.ofNat a.toNat).toNat:Int)=a:=by simp;omega
  simp only[e]
  exact hr
theorem LY:Reads Tryz.prog 70 6 D4 (fun _=>True):=
  (Reads.struct (l:=[(0,5),(1,5),(2,5),(3,5),(4,5),(5,5)]) Tryz.underlying70 (by kernel_rfl) rfl (.cons J6 (.cons J6 (.cons J6 (.cons J6 (.cons J6 (.cons J6 .nil))))))).conv
    (fun(a,b,c,d,e,f,_)=>⟨a,b,c,d,e,f⟩) (fun t=>(t.kind,t.n,t.p,t.c,t.name,t.value,())) (fun _=>rfl) (fun _=>rfl) (fun _ _=>trivial)
theorem KW:Reads Tryz.prog 68 1 Fg (fun _=>True):=(Reads.slice Tryz.underlying68 (by kernel_rfl) LY (by omega)).conv id id (fun _=>rfl) (fun _=>rfl) (fun _ _=>trivial)
end Go.Proofs.Heir
