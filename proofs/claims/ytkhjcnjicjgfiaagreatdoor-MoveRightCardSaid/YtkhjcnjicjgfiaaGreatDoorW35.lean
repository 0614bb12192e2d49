/- Models, plain laws and contracts of functions of the given program; conditions as stated in each theorem. By an AI agent. -/
import Derived.Test.YtkhjcnjicjgfiaaGreatDoorW34
import Derived.Test.YtkhjcnjicjgfiaaGreatDoorW30
import Derived.Test.YtkhjcnjicjgfiaaGreatDoorW23
import Derived.Test.YtkhjcnjicjgfiaaGreatDoorW15
import Derived.Test.YtkhjcnjicjgfiaaGreatDoorW16
import Derived.Test.YtkhjcnjicjgfiaaGreatDoorW14
import Derived.Test.YtkhjcnjicjgfiaaGreatDoorW5
import Derived.Test.YtkhjcnjicjgfiaaGreatDoorRows
import Derived.ProofKit
import Derived.LaidMore
import Derived.OpenShut
import Derived.Stop.Joined
import Derived.Lib.LaidTab
import Derived.MakeChecks
set_option linter.unusedSimpArgs false
set_option linter.unusedVariables false
namespace Go.Proofs.Heir
open Go Go.Am Go.RowKit Go.Lib
set_option maxRecDepth 100000
set_option maxHeartbeats 8000000
set_option maxHeartbeats 8000000
def D5:ForM:=⟨[⟨0,⟨#[]⟩,⟨#[]⟩,⟨#[]⟩,[],-1,[],-1,-1,0⟩],5⟩
def KV:ForM:=⟨[⟨0,⟨#[]⟩,⟨#[]⟩,⟨#[]⟩,[],-1,[],-1,-1,0⟩,⟨1,⟨#[112]⟩,⟨#[]⟩,⟨#[]⟩,[],-1,[],-1,-1,0⟩],5⟩
def Jk:ForM:=⟨[⟨0,⟨#[]⟩,⟨#[]⟩,⟨#[]⟩,[],-1,[1],-1,-1,0⟩,⟨1,⟨#[112]⟩,⟨#[]⟩,⟨#[]⟩,[],0,[],-1,-1,0⟩],5⟩
def Ki:ForM:=⟨[⟨0,⟨#[]⟩,⟨#[]⟩,⟨#[]⟩,[],-1,[1],-1,-1,0⟩,⟨1,⟨#[112]⟩,⟨#[]⟩,⟨#[]⟩,[⟨⟨#[98]⟩,⟨#[49]⟩⟩],0,[],-1,-1,0⟩],5⟩
def Ht:ForM:=⟨[⟨0,⟨#[]⟩,⟨#[]⟩,⟨#[]⟩,[],-1,[],-1,-1,0⟩,⟨1,⟨#[112]⟩,⟨#[]⟩,⟨#[]⟩,[⟨⟨#[98]⟩,⟨#[49]⟩⟩],-1,[],-1,-1,0⟩],5⟩
theorem vL:bq D5.nodes:=⟨by decide,by decide,by decide,by decide⟩
theorem Da:bq KV.nodes:=⟨by decide,by decide,by decide,by decide⟩
theorem DL:bq Jk.nodes:=⟨by decide,by decide,by decide,by decide⟩
theorem Dl:bq Ki.nodes:=⟨by decide,by decide,by decide,by decide⟩
theorem DH:bq Ht.nodes:=⟨by decide,by decide,by decide,by decide⟩
theorem Cr (k d:Int):aj Tryz.prog 135 [] [ah k,ah d] [] (aG ⟨k,⟨#[]⟩,⟨#[]⟩,⟨#[]⟩,[],-1,[],-1,-1,d⟩):=by
  refine aj.aA (rvs:=[.cell 4 35]) G ak Tryz.func135 rfl Tryz.ntmps135 rfl rfl ?_;with_reducible refine wD ?_
  repeat' (first
    |refine gK ?_
    |((with_reducible show(_∧_)∧_∧_);(refine eK ?_ ?_<;>with_reducible repeat' (first|exact trivial|(show _∧_;refine aK ?_ ?_)))))
  all_goals first|rfl|exact .inr (.inr ⟨_,rfl⟩)|trace_state
theorem Kv (x:ai)(m:Int)(hb:aj Tryz.prog 135 [] [ah 0,ah 0] [] (aG x))(hr:aj Tryz.prog 17 [] [aN ⟨[x],m⟩] [] (bA true)):aj Tryz.prog 69 [] [ah m] [] (.tup [aN ⟨[x],m⟩,ah 0]):=by
  obtain⟨x1,x2,x3,x4,x5,x6,x7,x8,x9,x10⟩:=x
  refine aj.aA (rvs:=[.cell 2 24,.tmp 3]) G ak Tryz.func69 rfl Tryz.ntmps69 rfl rfl ?_;with_reducible refine wD ?_
  repeat' (first
    |refine gK ?_
    | ((first
      |((with_reducible show ae _ _ 135 _ _ _ _);refine ae.val [] hb K3 ⟨rfl,rfl,trivial⟩ rfl rfl (kE _) ?_)
      |((with_reducible show ae _ _ 17 _ _ _ _);refine ae.lit [61] hr Jw ⟨⟨kY (rows':=[bM _]) rfl rfl rfl rfl (aQ [_]),rfl,trivial⟩,trivial⟩ rfl rfl ?_))<;>with_reducible refine wK ?_)
    |((with_reducible show(_∧_)∧_∧_);(refine eK ?_ ?_<;>with_reducible repeat' (first|exact trivial|(show _∧_;refine aK ?_ ?_)))))
  all_goals first|rfl|exact kY (rows':=[bM _]) rfl rfl rfl rfl (aQ [_])|trace_state
theorem CO:aj Tryz.prog 123 [] [cO []] [] (cO []):=by
  refine aj.aA (rvs:=[.tmp 2]) G ak Tryz.func123 rfl Tryz.ntmps123 rfl rfl ?_;with_reducible refine wD ?_
  refine nD.mk (fun h=>?_) (fun _=>?_)<;>with_reducible refine wK ?_
  · (refine eK ?_ ?_<;>with_reducible repeat' (first|exact trivial|(show _∧_;refine aK ?_ ?_)))
    all_goals first|rfl|exact .inr (.inr ⟨2,rfl⟩)|trace_state
  · refine dO.mk [] [] ⟨rfl,rfl,rfl⟩ ⟨rfl,rfl,rfl⟩ rfl (by simp) (by simp) ?_;with_reducible refine wK ?_
    (refine eK ?_ ?_<;>with_reducible repeat' (first|exact trivial|(show _∧_;refine aK ?_ ?_)))
    all_goals first|exact jC rfl rfl rfl rfl|trace_state
theorem IJ (l:List ai)(m:Int)(s:ByteArray)(hl:l.length≤60)(hm:¬ (l.length:Int)=m)(hr:aj Tryz.prog 55 [] [aN ⟨l,m⟩] [] (bA true))
    (hn:aj Tryz.prog 115 [] [aG ⟨1,s,⟨#[]⟩,⟨#[]⟩,[],-1,[],-1,-1,0⟩] [] (bA true)) (hi:aj Tryz.prog 136 [] [aN ⟨l,m⟩,ah 0,ah 0] [] (bA true)):
    aj Tryz.prog 70 [] [aN ⟨l,m⟩,aG ⟨1,s,⟨#[]⟩,⟨#[]⟩,[],0,[],0,0,0⟩] [] (.tup [aN ⟨l++ [⟨1,s,⟨#[]⟩,⟨#[]⟩,[],-1,[],-1,-1,0⟩],m⟩,ah l.length,ah 0]):=by
  have hb:=Cr 1 0
  have hlm:(l.map bM).length=l.length:=bP ..
  have fm:=eq_false hm
  refine aj.aA (rvs:=[.cell 4 24,.tmp 5,.tmp 6]) G ak Tryz.func70 rfl Tryz.ntmps70 rfl rfl ?_;with_reducible refine wD ?_
  (have fct:=And.intro hlm (fm);(repeat' (first
    |refine gF ?_
    | ((first
      |((with_reducible show ae _ _ 135 _ _ _ _);refine ae.val [] hb K3 ⟨rfl,rfl,trivial⟩ rfl rfl rfl ?_)
      |((with_reducible show ae _ _ 123 _ _ _ _);refine ae.val [] CO Li ⟨rfl,trivial⟩ rfl rfl rfl ?_)
      |((with_reducible show ae _ _ 55 _ _ _ _);refine ae.lit [] hr M5 ⟨⟨rfl,rfl,trivial⟩,trivial⟩ rfl rfl ?_)
      |((with_reducible show ae _ _ 115 _ _ _ _);refine ae.lit [] hn Az ⟨⟨rfl,rfl,rfl,rfl,rfl,rfl,rfl,rfl,rfl,rfl,trivial⟩,trivial⟩ rfl rfl ?_)
      |((with_reducible show ae _ _ 136 _ _ _ _);refine ae.lit [] hi pN ⟨⟨rfl,rfl,trivial⟩,rfl,rfl,trivial⟩ rfl rfl ?_)
      |((with_reducible show ae _ _ 137 _ _ _ _);refine ae.new 731 [] (sS l (by omega)) Jp ⟨rfl,trivial⟩ rfl rfl rfl (oB _) rfl ?_)
      |((with_reducible show dO _ _ _ _ _ _ _ _ _ _);refine dO.mk (l.map bM) [aG ⟨1,s,⟨#[]⟩,⟨#[]⟩,[],-1,[],-1,-1,0⟩] ⟨rfl,(bP ..).symm,rfl⟩ ⟨rfl,rfl,rfl⟩ rfl (by simp;omega) (by simp;omega) ?_))<;>with_reducible refine wK ?_)
    |((with_reducible show(_∧_)∧_∧_);(refine eK ?_ ?_<;>with_reducible repeat' (first|exact trivial|(show _∧_;refine aK ?_ ?_))))));all_goals clear fct)
  all_goals first
    |exact kY rfl rfl (by rw[gm];rfl) (by simp) (aQ _)
    |(show(l.length:Int)=_;rw[hlm])
    |rfl
    |trace_state
theorem Nv:aj Tryz.prog 69 [] [ah 5] [] (.tup [aN D5,ah (0)]):=
  Kv ⟨0,⟨#[]⟩,⟨#[]⟩,⟨#[]⟩,[],-1,[],-1,-1,0⟩ 5 (Cr 0 0) (by have:=th D5 vL;rwa [show bC D5=true by kernel_rfl] at this)
theorem NB:aj Tryz.prog 70 [] [aN D5,aG ⟨1,⟨#[112]⟩,⟨#[]⟩,⟨#[]⟩,[],0,[],0,0,0⟩] [] (.tup [aN KV,ah 1,ah 0]):=
  IJ D5.nodes 5 ⟨#[112]⟩ (by decide) (by decide) (by have:=FD D5 vL;rwa [show bC D5=true by kernel_rfl] at this)
    (by have:=Cf ⟨1,⟨#[112]⟩,⟨#[]⟩,⟨#[]⟩,[],-1,[],-1,-1,0⟩ (by decide);rwa [show fV ⟨1,⟨#[112]⟩,⟨#[]⟩,⟨#[]⟩,[],-1,[],-1,-1,0⟩=true by kernel_rfl] at this)
    (by have:=sj D5 0 0;rwa [show gL D5.nodes 0 0=true by kernel_rfl] at this)
theorem NA:aj Tryz.prog 29 [] [aN KV,ah 1,ah 0,ah (-1)] [] (.tup [aN Jk,mD [⟨1,1,0,0,⟨#[]⟩,false,false,⟨#[]⟩,⟨#[]⟩⟩],ah (0)]):=by
  have h:=E3 KV Da (by decide) 1 0 (-1)
  rwa [show dD KV 1 0 (-1)=(Jk,[⟨1,1,0,0,⟨#[]⟩,false,false,⟨#[]⟩,⟨#[]⟩⟩],0) by kernel_rfl] at h
theorem Ns:aj Tryz.prog 32 [] [aN Ki,ah 1] [] (.tup [aN Ht,mD [⟨2,1,0,0,⟨#[]⟩,false,false,⟨#[]⟩,⟨#[]⟩⟩],ah (0)]):=by
  have h:=Bd Ki Dl 1
  rwa [show dm Ki 1=(Ht,[⟨2,1,0,0,⟨#[]⟩,false,false,⟨#[]⟩,⟨#[]⟩⟩],0) by kernel_rfl] at h
theorem Mt:aj Tryz.prog 32 [] [aN Ht,ah 1] [] (.tup [aN Ht,mD [],ah 6]):=by
  have h:=Bd Ht DH 1
  rwa [show dm Ht 1=(Ht,[],6) by kernel_rfl] at h
end Go.Proofs.Heir
namespace Go.Proofs.Heir
open Go Go.Am Go.RowKit Go.Lib
set_option maxRecDepth 100000
set_option maxHeartbeats 8000000
theorem Nh:aj Tryz.prog 18 [] [aN Jk,ah 1,cn ⟨#[66]⟩,cn ⟨#[49]⟩] [] (.tup [aN Ki,mD [⟨4,1,0,0,⟨#[98]⟩,false,true,⟨#[]⟩,⟨#[49]⟩⟩],ah 0]):=by
  have h:=JD Jk DL 1 ⟨#[66]⟩ ⟨#[49]⟩ (by decide)
  rwa [show rQ Jk 1 ⟨#[66]⟩ ⟨#[49]⟩=(Ki,[⟨4,1,0,0,⟨#[98]⟩,false,true,⟨#[]⟩,⟨#[49]⟩⟩],0) by kernel_rfl] at h
theorem Be (y z:Operand)(w:World):((do eqGuard .eql 53 y z (.agg #[.int .i64 1,.int .i64 1,.int .i64 0,.int .i64 0,.string ⟨#[]⟩,.bool false,.bool false,.string ⟨#[]⟩,.string ⟨#[]⟩]) (.agg #[.int .i64 1,.int .i64 1,.int .i64 0,.int .i64 0,.string ⟨#[]⟩,.bool false,.bool false,.string ⟨#[]⟩,.string ⟨#[]⟩]);binOp .eql 53 (.agg #[.int .i64 1,.int .i64 1,.int .i64 0,.int .i64 0,.string ⟨#[]⟩,.bool false,.bool false,.string ⟨#[]⟩,.string ⟨#[]⟩]) (.agg #[.int .i64 1,.int .i64 1,.int .i64 0,.int .i64 0,.string ⟨#[]⟩,.bool false,.bool false,.string ⟨#[]⟩,.string ⟨#[]⟩]):Sem Value)).run Tryz.prog w=.ok (.bool true) w:=by
  kernel_rfl
theorem CT (y z:Operand)(w:World):((do eqGuard .eql 53 y z (.agg #[.int .i64 4,.int .i64 1,.int .i64 0,.int .i64 0,.string ⟨#[98]⟩,.bool false,.bool true,.string ⟨#[]⟩,.string ⟨#[49]⟩]) (.agg #[.int .i64 4,.int .i64 1,.int .i64 0,.int .i64 0,.string ⟨#[98]⟩,.bool false,.bool true,.string ⟨#[]⟩,.string ⟨#[49]⟩]);binOp .eql 53 (.agg #[.int .i64 4,.int .i64 1,.int .i64 0,.int .i64 0,.string ⟨#[98]⟩,.bool false,.bool true,.string ⟨#[]⟩,.string ⟨#[49]⟩]) (.agg #[.int .i64 4,.int .i64 1,.int .i64 0,.int .i64 0,.string ⟨#[98]⟩,.bool false,.bool true,.string ⟨#[]⟩,.string ⟨#[49]⟩]):Sem Value)).run Tryz.prog w=.ok (.bool true) w:=by
  kernel_rfl
theorem JN:aj Tryz.prog 26 [] [] [] (bA true):=by
  have h69:=Nv
  have h70:=NB
  have h29:=NA
  have h18:=Nh
  have h32:=Ns
  have h32n:=Mt
  generalize hg0:D5=g0 at*
  generalize hg1:KV=g1 at*
  generalize hg2:Jk=g2 at*
  generalize hg3:Ki=g3 at*
  generalize hg4:Ht=g4 at*
  obtain⟨l0,m0⟩:=g0
  obtain⟨l1,m1⟩:=g1
  obtain⟨l2,m2⟩:=g2
  obtain⟨l3,m3⟩:=g3
  obtain⟨l4,m4⟩:=g4
  refine aj.aA (rvs:=[.tmp 0]) G ak Tryz.func26 rfl Tryz.ntmps26 rfl rfl ?_;with_reducible refine wD ?_
  repeat' (first
    |refine gK ?_
    | ((first
      |((with_reducible show ae _ _ 69 _ _ _ _);refine ae.val [] h69 Nq ⟨rfl,trivial⟩ rfl rfl rfl ?_)
      |((with_reducible show ae _ _ 70 _ _ _ _);refine ae.val [] h70 Nu ⟨⟨rfl,rfl,trivial⟩,⟨rfl,rfl,rfl,rfl,.inr (.inr ⟨_,rfl⟩),rfl,.inr (.inr ⟨_,rfl⟩),rfl,rfl,rfl,trivial⟩,trivial⟩ rfl rfl rfl ?_)
      |((with_reducible show ae _ _ 29 _ _ _ _);refine ae.val [] h29 Gx ⟨⟨rfl,rfl,trivial⟩,rfl,rfl,rfl,trivial⟩ rfl rfl rfl ?_)
      |((with_reducible show ae _ _ 18 _ _ _ _);refine ae.val [] h18 Ny ⟨⟨rfl,rfl,trivial⟩,rfl,rfl,rfl,trivial⟩ rfl rfl rfl ?_)
      |((with_reducible show ae _ _ 32 _ _ _ _);first|(refine ae.val [] h32 Gt ⟨⟨rfl,rfl,trivial⟩,rfl,trivial⟩ rfl rfl rfl ?_)|(refine ae.val [] h32n Gt ⟨⟨rfl,rfl,trivial⟩,rfl,trivial⟩ rfl rfl rfl ?_))
      |((with_reducible show aH _ _ _ _ _);first|refine aH.mk 0 (lz ⟨1,1,0,0,⟨#[]⟩,false,false,⟨#[]⟩,⟨#[]⟩⟩) rfl rfl ?_|refine aH.mk 0 (lz ⟨2,1,0,0,⟨#[]⟩,false,false,⟨#[]⟩,⟨#[]⟩⟩) rfl rfl ?_|refine aH.mk 0 (lz ⟨4,1,0,0,⟨#[98]⟩,false,true,⟨#[]⟩,⟨#[49]⟩⟩) rfl rfl ?_)
      |((with_reducible show Gr _ _ _ _ _ _ _ _);first|refine Gr.mk _ (fun y z w=>Be y z w) ?_|refine Gr.mk _ (fun y z w=>CT y z w) ?_)
      |((with_reducible show aB _ _ _ _);refine dK ?_))<;>with_reducible refine wK ?_)
    |((with_reducible show(_∧_)∧_∧_);(refine eK ?_ ?_<;>with_reducible repeat' (first|exact trivial|(show _∧_;refine aK ?_ ?_)))))
  all_goals first|rfl|trace_state
end Go.Proofs.Heir
section
namespace Go.Proofs.Heir
open Go Go.Am Go.RowKit Go.Lib
set_option maxRecDepth 100000
set_option maxHeartbeats 8000000
variable {l l' : List ai} {m : Int}
theorem rf {n:Int}(h:¬af l n=true)(h0:¬n<0):(l.length:Int)≤n:=by
  refine Int.not_lt.1 fun q=>h ?_
  unfold af
  rw[bO (Int.not_lt.1 h0),bO q];rfl
theorem n4 {f:ForM}{n p c:Int}(h:dh f n p c=false):dD f n p c=(f,[],1)∧replaceM f n p c=(f,[],1):=by
  have h1:kV f n p c=1:=by unfold kV;rw[h];rfl
  have h2:iw f n p c=1:=by unfold iw;rw[h];rfl
  exact⟨by rw[nO (by rw[h1];decide),h1],by rw[lN (by rw[h2];decide),h2]⟩
theorem AP {f:ForM}{n:Int}(h:(bC f&&af f.nodes n)=false):dm f n=(f,[],1):=by unfold dm;rw[h];rfl
theorem K2 (f:ForM)(n p c:Int):aj Tryz.prog 7 [] [aN f,ah n,ah p,ah c] [] (bA true):=by
  have h26:=JN
  have h16:=KP f
  cases hsh:uD f with
  | false=>
    rw[hsh] at h16
    obtain⟨l,m⟩:=f
    refine aj.aA (rvs:=[.tmp 8]) G ak Tryz.func7 rfl Tryz.ntmps7 rfl rfl ?_;with_reducible refine wD ?_
    repeat' (first
    |refine gK ?_
    | ((first
      |((with_reducible show ae _ _ 26 _ _ _ _);refine ae.lit [] h26 Iw trivial rfl rfl ?_)
      |((with_reducible show ae _ _ 16 _ _ _ _);refine ae.lit [] h16 GL ⟨⟨rfl,rfl,trivial⟩,trivial⟩ rfl rfl ?_))<;>with_reducible refine wK ?_)
    |((with_reducible show(_∧_)∧_∧_);(refine eK ?_ ?_<;>with_reducible repeat' (first|exact trivial|(show _∧_;refine aK ?_ ?_)))))
    all_goals rfl
  | true =>
    rw[hsh] at h16
    have hs:=wS hsh
    have h60:f.nodes.length≤60:=by
      have:=hsh;rw[yX] at this;simp only[bg,aP] at this;exact this.1
    have h29:=E3 f hs h60 n p c
    have h32:=Bd f hs n
    have h36:=Kn f hs h60 n p c
    have h37:=Jf f hs
    have h38:=KD f hs
    have hlm:(f.nodes.map bM).length=f.nodes.length:=bP ..
    by_cases ha:(bC f&&af f.nodes n)=true
    rotate_left
    · have ha':=Bool.not_eq_true _▸ha
      have hq:dh f n p c=false:=by
        have h2:(bC f&&af f.nodes n)=false:=by simpa using ha
        cases h:dh f n p c with
        |false=>rfl
        | true=>
          unfold dh at h
          simp only[bg] at h
          rw[h.1.1,h.1.2.1] at h2
          cases h2
      rw[AP (by simpa using ha)] at h32
      rw[(n4 hq).1] at h29
      rw[(n4 hq).2] at h36
      cases hr:bC f with
      | false=>
        rw[right_eq,hr] at h37
        obtain⟨l,m⟩:=f
        refine aj.aA (rvs:=[.tmp 8]) G ak Tryz.func7 rfl Tryz.ntmps7 rfl rfl ?_;with_reducible refine wD ?_
        (have fct:=hlm;(repeat' (first
    |refine gF ?_
    | ((first
      |((with_reducible show ae _ _ 26 _ _ _ _);refine ae.lit [] h26 Iw trivial rfl rfl ?_)
      |((with_reducible show ae _ _ 16 _ _ _ _);refine ae.lit [] h16 GL ⟨⟨rfl,rfl,trivial⟩,trivial⟩ rfl rfl ?_)
      |((with_reducible show ae _ _ 29 _ _ _ _);refine ae.val [] h29 Gx ⟨⟨rfl,rfl,trivial⟩,rfl,rfl,rfl,trivial⟩ rfl rfl (bN _ _ _) ?_)
      |((with_reducible show ae _ _ 32 _ _ _ _);refine ae.val [] h32 Gt ⟨⟨rfl,rfl,trivial⟩,rfl,trivial⟩ rfl rfl (bN _ _ _) ?_)
      |((with_reducible show ae _ _ 36 _ _ _ _);refine ae.val [] h36 IY ⟨⟨rfl,rfl,trivial⟩,rfl,rfl,rfl,trivial⟩ rfl rfl (bN _ _ _) ?_)
      |((with_reducible show ae _ _ 37 _ _ _ _);refine ae.lit [] h37 I8 ⟨⟨rfl,rfl,trivial⟩,trivial⟩ rfl rfl ?_)
      |((with_reducible show ae _ _ 38 _ _ _ _);refine ae.lit [] h38 I9 ⟨⟨rfl,rfl,trivial⟩,⟨rfl,rfl,trivial⟩,rfl,rfl,trivial⟩ rfl rfl ?_)
      |((with_reducible show ae _ _ 39 _ _ _ _);refine ae.val [] h39 IS ⟨⟨rfl,rfl,trivial⟩,rfl,trivial⟩ rfl rfl (cw _ _ _) ?_)
      |((with_reducible show ae _ _ 41 _ _ _ _);refine ae.val [] h41 I5 ⟨⟨rfl,rfl,trivial⟩,rfl,rfl,rfl,trivial⟩ rfl rfl (cw _ _ _) ?_)
      |((with_reducible show ae _ _ 42 _ _ _ _);refine ae.val [] h42 IT ⟨⟨rfl,rfl,trivial⟩,rfl,rfl,rfl,trivial⟩ rfl rfl (cw _ _ _) ?_)
      |((with_reducible show ae _ _ 40 _ _ _ _);first|refine ae.lit [] h40 sE ⟨⟨rfl,rfl,trivial⟩,rfl,rfl,⟨rfl,rfl,rfl,trivial⟩,rfl,trivial⟩ rfl rfl ?_|refine ae.lit [] h40b sE ⟨⟨rfl,rfl,trivial⟩,rfl,rfl,⟨rfl,rfl,rfl,trivial⟩,rfl,trivial⟩ rfl rfl ?_|refine ae.lit [] h40c sE ⟨⟨rfl,rfl,trivial⟩,rfl,rfl,⟨rfl,rfl,rfl,trivial⟩,rfl,trivial⟩ rfl rfl ?_)
      |((with_reducible show aB _ _ _ _);refine dK ?_))<;>with_reducible refine wK ?_)
    | ((with_reducible show(_∧_)∧_∧_);(refine eK ?_ ?_<;>with_reducible repeat' (first|exact trivial|(show _∧_;refine aK ?_ ?_))))));all_goals clear fct)
        all_goals first|rfl|trace_state
      | true=>
        rw[right_eq,hr] at h37
        have hth:af f.nodes n=false:=by rw[hr,Bool.true_and] at ha;simpa using ha
        obtain⟨l,m⟩:=f
        simp only at hth hlm
        by_cases h0:n<0
        · have f0:=eq_true h0
          refine aj.aA (rvs:=[.tmp 8]) G ak Tryz.func7 rfl Tryz.ntmps7 rfl rfl ?_;with_reducible refine wD ?_
          (have fct:=And.intro hlm (f0);(repeat' (first
    |refine gF ?_
    | ((first
      |((with_reducible show ae _ _ 26 _ _ _ _);refine ae.lit [] h26 Iw trivial rfl rfl ?_)
      |((with_reducible show ae _ _ 16 _ _ _ _);refine ae.lit [] h16 GL ⟨⟨rfl,rfl,trivial⟩,trivial⟩ rfl rfl ?_)
      |((with_reducible show ae _ _ 29 _ _ _ _);refine ae.val [] h29 Gx ⟨⟨rfl,rfl,trivial⟩,rfl,rfl,rfl,trivial⟩ rfl rfl (bN _ _ _) ?_)
      |((with_reducible show ae _ _ 32 _ _ _ _);refine ae.val [] h32 Gt ⟨⟨rfl,rfl,trivial⟩,rfl,trivial⟩ rfl rfl (bN _ _ _) ?_)
      |((with_reducible show ae _ _ 36 _ _ _ _);refine ae.val [] h36 IY ⟨⟨rfl,rfl,trivial⟩,rfl,rfl,rfl,trivial⟩ rfl rfl (bN _ _ _) ?_)
      |((with_reducible show ae _ _ 37 _ _ _ _);refine ae.lit [] h37 I8 ⟨⟨rfl,rfl,trivial⟩,trivial⟩ rfl rfl ?_)
      |((with_reducible show ae _ _ 38 _ _ _ _);refine ae.lit [] h38 I9 ⟨⟨rfl,rfl,trivial⟩,⟨rfl,rfl,trivial⟩,rfl,rfl,trivial⟩ rfl rfl ?_)
      |((with_reducible show ae _ _ 39 _ _ _ _);refine ae.val [] h39 IS ⟨⟨rfl,rfl,trivial⟩,rfl,trivial⟩ rfl rfl (cw _ _ _) ?_)
      |((with_reducible show ae _ _ 41 _ _ _ _);refine ae.val [] h41 I5 ⟨⟨rfl,rfl,trivial⟩,rfl,rfl,rfl,trivial⟩ rfl rfl (cw _ _ _) ?_)
      |((with_reducible show ae _ _ 42 _ _ _ _);refine ae.val [] h42 IT ⟨⟨rfl,rfl,trivial⟩,rfl,rfl,rfl,trivial⟩ rfl rfl (cw _ _ _) ?_)
      |((with_reducible show ae _ _ 40 _ _ _ _);first|refine ae.lit [] h40 sE ⟨⟨rfl,rfl,trivial⟩,rfl,rfl,⟨rfl,rfl,rfl,trivial⟩,rfl,trivial⟩ rfl rfl ?_|refine ae.lit [] h40b sE ⟨⟨rfl,rfl,trivial⟩,rfl,rfl,⟨rfl,rfl,rfl,trivial⟩,rfl,trivial⟩ rfl rfl ?_|refine ae.lit [] h40c sE ⟨⟨rfl,rfl,trivial⟩,rfl,rfl,⟨rfl,rfl,rfl,trivial⟩,rfl,trivial⟩ rfl rfl ?_)
      |((with_reducible show aB _ _ _ _);refine dK ?_))<;>with_reducible refine wK ?_)
    | ((with_reducible show(_∧_)∧_∧_);(refine eK ?_ ?_<;>with_reducible repeat' (first|exact trivial|(show _∧_;refine aK ?_ ?_))))));all_goals clear fct)
          all_goals first|rfl|trace_state
        · have f0:=eq_false h0
          have f1:=eq_true (rf (l:=l) (by rw[hth];decide) h0)
          refine aj.aA (rvs:=[.tmp 8]) G ak Tryz.func7 rfl Tryz.ntmps7 rfl rfl ?_;with_reducible refine wD ?_
          (have fct:=And.intro hlm (And.intro f0 (f1));(repeat' (first
    |refine gF ?_
    | ((first
      |((with_reducible show ae _ _ 26 _ _ _ _);refine ae.lit [] h26 Iw trivial rfl rfl ?_)
      |((with_reducible show ae _ _ 16 _ _ _ _);refine ae.lit [] h16 GL ⟨⟨rfl,rfl,trivial⟩,trivial⟩ rfl rfl ?_)
      |((with_reducible show ae _ _ 29 _ _ _ _);refine ae.val [] h29 Gx ⟨⟨rfl,rfl,trivial⟩,rfl,rfl,rfl,trivial⟩ rfl rfl (bN _ _ _) ?_)
      |((with_reducible show ae _ _ 32 _ _ _ _);refine ae.val [] h32 Gt ⟨⟨rfl,rfl,trivial⟩,rfl,trivial⟩ rfl rfl (bN _ _ _) ?_)
      |((with_reducible show ae _ _ 36 _ _ _ _);refine ae.val [] h36 IY ⟨⟨rfl,rfl,trivial⟩,rfl,rfl,rfl,trivial⟩ rfl rfl (bN _ _ _) ?_)
      |((with_reducible show ae _ _ 37 _ _ _ _);refine ae.lit [] h37 I8 ⟨⟨rfl,rfl,trivial⟩,trivial⟩ rfl rfl ?_)
      |((with_reducible show ae _ _ 38 _ _ _ _);refine ae.lit [] h38 I9 ⟨⟨rfl,rfl,trivial⟩,⟨rfl,rfl,trivial⟩,rfl,rfl,trivial⟩ rfl rfl ?_)
      |((with_reducible show ae _ _ 39 _ _ _ _);refine ae.val [] h39 IS ⟨⟨rfl,rfl,trivial⟩,rfl,trivial⟩ rfl rfl (cw _ _ _) ?_)
      |((with_reducible show ae _ _ 41 _ _ _ _);refine ae.val [] h41 I5 ⟨⟨rfl,rfl,trivial⟩,rfl,rfl,rfl,trivial⟩ rfl rfl (cw _ _ _) ?_)
      |((with_reducible show ae _ _ 42 _ _ _ _);refine ae.val [] h42 IT ⟨⟨rfl,rfl,trivial⟩,rfl,rfl,rfl,trivial⟩ rfl rfl (cw _ _ _) ?_)
      |((with_reducible show ae _ _ 40 _ _ _ _);first|refine ae.lit [] h40 sE ⟨⟨rfl,rfl,trivial⟩,rfl,rfl,⟨rfl,rfl,rfl,trivial⟩,rfl,trivial⟩ rfl rfl ?_|refine ae.lit [] h40b sE ⟨⟨rfl,rfl,trivial⟩,rfl,rfl,⟨rfl,rfl,rfl,trivial⟩,rfl,trivial⟩ rfl rfl ?_|refine ae.lit [] h40c sE ⟨⟨rfl,rfl,trivial⟩,rfl,rfl,⟨rfl,rfl,rfl,trivial⟩,rfl,trivial⟩ rfl rfl ?_)
      |((with_reducible show aB _ _ _ _);refine dK ?_))<;>with_reducible refine wK ?_)
    |((with_reducible show(_∧_)∧_∧_);(refine eK ?_ ?_<;>with_reducible repeat' (first|exact trivial|(show _∧_;refine aK ?_ ?_))))));all_goals clear fct)
          all_goals first|rfl|trace_state
    have hr:bC f=true:=by simp only[bg] at ha;exact ha.1
    have hn:af f.nodes n=true:=by simp only[bg] at ha;exact ha.2
    rw[right_eq,hr] at h37
    obtain⟨l,m⟩:=f
    have R:RF l m:=dB.1 hr
    obtain⟨i,x,rfl,hx,_⟩:=aI.1 hn
    simp only at h60 hlm
    have hil:i<l.length:=(aZ hx).1
    have f0:=eq_false (show ¬ (i:Int)<0 by omega)
    have f1:=eq_false (show ¬ (l.length:Int)≤ (i:Int) by omega)
    have h39:=Ko R h60 hil ⟨l,m⟩ rfl
    have h40:=Ae _ (vQ R h60 hn).1 _ (vQ R h60 hn).2 (dm ⟨l,m⟩ i).2.2
    generalize dm ⟨l,m⟩ i=r at*
    obtain⟨⟨r1,r2⟩,r3,r4⟩:=r
    by_cases hpc:af l p=true∧(c=-1∨af l c=true)
    · obtain⟨hp,hc⟩:=hpc
      obtain⟨j,y,rfl,hy,_⟩:=aI.1 hp
      have hjl:j<l.length:=(aZ hy).1
      have f2:=eq_false (show ¬ (j:Int)<0 by omega)
      have f3:=eq_false (show ¬ (l.length:Int)≤ (j:Int) by omega)
      have hcc: -1≤c∧c<l.length:=by
        rcases hc with rfl|h
        ·omega
        ·have:=br h;omega
      have f4:=eq_false (show ¬c< -1 by omega)
      have f5:=eq_false (show ¬ (l.length:Int)≤c by omega)
      have h41:=JT R h60 hn hp hc ⟨l,m⟩ rfl
      have h42:=KC R h60 hn hp hc ⟨l,m⟩ rfl
      have h40b:=Ae _ (vv R h60 hn hp hc).1 _ (vv R h60 hn hp hc).2 (dD ⟨l,m⟩ i j c).2.2
      have h40c:=Ae _ (uq R h60 hn hp hc).1 _ (uq R h60 hn hp hc).2 (replaceM ⟨l,m⟩ i j c).2.2
      generalize dD ⟨l,m⟩ i j c=s at*
      generalize replaceM ⟨l,m⟩ i j c=t at*
      obtain⟨⟨s1,s2⟩,s3,s4⟩:=s
      obtain⟨⟨t1,t2⟩,t3,t4⟩:=t
      refine aj.aA (rvs:=[.tmp 8]) G ak Tryz.func7 rfl Tryz.ntmps7 rfl rfl ?_;with_reducible refine wD ?_
      (have fct:=And.intro hlm (And.intro f0 (And.intro f1 (And.intro f2 (And.intro f3 (And.intro f4 (f5))))));(repeat' (first
    |refine gF ?_
    | ((first
      |((with_reducible show ae _ _ 26 _ _ _ _);refine ae.lit [] h26 Iw trivial rfl rfl ?_)
      |((with_reducible show ae _ _ 16 _ _ _ _);refine ae.lit [] h16 GL ⟨⟨rfl,rfl,trivial⟩,trivial⟩ rfl rfl ?_)
      |((with_reducible show ae _ _ 29 _ _ _ _);refine ae.val [] h29 Gx ⟨⟨rfl,rfl,trivial⟩,rfl,rfl,rfl,trivial⟩ rfl rfl (bN _ _ _) ?_)
      |((with_reducible show ae _ _ 32 _ _ _ _);refine ae.val [] h32 Gt ⟨⟨rfl,rfl,trivial⟩,rfl,trivial⟩ rfl rfl (bN _ _ _) ?_)
      |((with_reducible show ae _ _ 36 _ _ _ _);refine ae.val [] h36 IY ⟨⟨rfl,rfl,trivial⟩,rfl,rfl,rfl,trivial⟩ rfl rfl (bN _ _ _) ?_)
      |((with_reducible show ae _ _ 37 _ _ _ _);refine ae.lit [] h37 I8 ⟨⟨rfl,rfl,trivial⟩,trivial⟩ rfl rfl ?_)
      |((with_reducible show ae _ _ 38 _ _ _ _);refine ae.lit [] h38 I9 ⟨⟨rfl,rfl,trivial⟩,⟨rfl,rfl,trivial⟩,rfl,rfl,trivial⟩ rfl rfl ?_)
      |((with_reducible show ae _ _ 39 _ _ _ _);refine ae.val [] h39 IS ⟨⟨rfl,rfl,trivial⟩,rfl,trivial⟩ rfl rfl (cw _ _ _) ?_)
      |((with_reducible show ae _ _ 41 _ _ _ _);refine ae.val [] h41 I5 ⟨⟨rfl,rfl,trivial⟩,rfl,rfl,rfl,trivial⟩ rfl rfl (cw _ _ _) ?_)
      |((with_reducible show ae _ _ 42 _ _ _ _);refine ae.val [] h42 IT ⟨⟨rfl,rfl,trivial⟩,rfl,rfl,rfl,trivial⟩ rfl rfl (cw _ _ _) ?_)
      |((with_reducible show ae _ _ 40 _ _ _ _);first|refine ae.lit [] h40 sE ⟨⟨rfl,rfl,trivial⟩,rfl,rfl,⟨rfl,rfl,rfl,trivial⟩,rfl,trivial⟩ rfl rfl ?_|refine ae.lit [] h40b sE ⟨⟨rfl,rfl,trivial⟩,rfl,rfl,⟨rfl,rfl,rfl,trivial⟩,rfl,trivial⟩ rfl rfl ?_|refine ae.lit [] h40c sE ⟨⟨rfl,rfl,trivial⟩,rfl,rfl,⟨rfl,rfl,rfl,trivial⟩,rfl,trivial⟩ rfl rfl ?_)
      |((with_reducible show aB _ _ _ _);refine dK ?_))<;>with_reducible refine wK ?_)
    | ((with_reducible show(_∧_)∧_∧_);(refine eK ?_ ?_<;>with_reducible repeat' (first|exact trivial|(show _∧_;refine aK ?_ ?_))))));all_goals clear fct)
      all_goals first|rfl|trace_state
    · have hq:dh ⟨l,m⟩ i p c=false:=by
        cases h:dh ⟨l,m⟩ i p c with
        |false=>rfl
        | true=>
          have:=(nM R).1 h
          exact absurd ⟨this.1.2,this.2⟩ hpc
      rw[(n4 hq).1] at h29
      rw[(n4 hq).2] at h36
      by_cases hp:af l p=true
      · obtain⟨j,y,rfl,hy,_⟩:=aI.1 hp
        have hjl:j<l.length:=(aZ hy).1
        have f2:=eq_false (show ¬ (j:Int)<0 by omega)
        have f3:=eq_false (show ¬ (l.length:Int)≤ (j:Int) by omega)
        have hcb:c≠-1∧af l c=false:=by
          have:=fun h=>hpc ⟨hp,h⟩
          exact⟨fun e=>this (.inl e),by cases h:af l c with|false=>rfl|true=>exact absurd (.inr h) this⟩
        by_cases h4:c< -1
        · have f4:=eq_true h4
          refine aj.aA (rvs:=[.tmp 8]) G ak Tryz.func7 rfl Tryz.ntmps7 rfl rfl ?_;with_reducible refine wD ?_
          (have fct:=And.intro hlm (And.intro f0 (And.intro f1 (And.intro f2 (And.intro f3 (f4)))));(repeat' (first
    |refine gF ?_
    | ((first
      |((with_reducible show ae _ _ 26 _ _ _ _);refine ae.lit [] h26 Iw trivial rfl rfl ?_)
      |((with_reducible show ae _ _ 16 _ _ _ _);refine ae.lit [] h16 GL ⟨⟨rfl,rfl,trivial⟩,trivial⟩ rfl rfl ?_)
      |((with_reducible show ae _ _ 29 _ _ _ _);refine ae.val [] h29 Gx ⟨⟨rfl,rfl,trivial⟩,rfl,rfl,rfl,trivial⟩ rfl rfl (bN _ _ _) ?_)
      |((with_reducible show ae _ _ 32 _ _ _ _);refine ae.val [] h32 Gt ⟨⟨rfl,rfl,trivial⟩,rfl,trivial⟩ rfl rfl (bN _ _ _) ?_)
      |((with_reducible show ae _ _ 36 _ _ _ _);refine ae.val [] h36 IY ⟨⟨rfl,rfl,trivial⟩,rfl,rfl,rfl,trivial⟩ rfl rfl (bN _ _ _) ?_)
      |((with_reducible show ae _ _ 37 _ _ _ _);refine ae.lit [] h37 I8 ⟨⟨rfl,rfl,trivial⟩,trivial⟩ rfl rfl ?_)
      |((with_reducible show ae _ _ 38 _ _ _ _);refine ae.lit [] h38 I9 ⟨⟨rfl,rfl,trivial⟩,⟨rfl,rfl,trivial⟩,rfl,rfl,trivial⟩ rfl rfl ?_)
      |((with_reducible show ae _ _ 39 _ _ _ _);refine ae.val [] h39 IS ⟨⟨rfl,rfl,trivial⟩,rfl,trivial⟩ rfl rfl (cw _ _ _) ?_)
      |((with_reducible show ae _ _ 41 _ _ _ _);refine ae.val [] h41 I5 ⟨⟨rfl,rfl,trivial⟩,rfl,rfl,rfl,trivial⟩ rfl rfl (cw _ _ _) ?_)
      |((with_reducible show ae _ _ 42 _ _ _ _);refine ae.val [] h42 IT ⟨⟨rfl,rfl,trivial⟩,rfl,rfl,rfl,trivial⟩ rfl rfl (cw _ _ _) ?_)
      |((with_reducible show ae _ _ 40 _ _ _ _);first|refine ae.lit [] h40 sE ⟨⟨rfl,rfl,trivial⟩,rfl,rfl,⟨rfl,rfl,rfl,trivial⟩,rfl,trivial⟩ rfl rfl ?_|refine ae.lit [] h40b sE ⟨⟨rfl,rfl,trivial⟩,rfl,rfl,⟨rfl,rfl,rfl,trivial⟩,rfl,trivial⟩ rfl rfl ?_|refine ae.lit [] h40c sE ⟨⟨rfl,rfl,trivial⟩,rfl,rfl,⟨rfl,rfl,rfl,trivial⟩,rfl,trivial⟩ rfl rfl ?_)
      |((with_reducible show aB _ _ _ _);refine dK ?_))<;>with_reducible refine wK ?_)
    | ((with_reducible show(_∧_)∧_∧_);(refine eK ?_ ?_<;>with_reducible repeat' (first|exact trivial|(show _∧_;refine aK ?_ ?_))))));all_goals clear fct)
          all_goals first|rfl|trace_state
        · have f4:=eq_false h4
          have f5:=eq_true (rf (l:=l) (by rw[hcb.2];decide) (show ¬c<0 by have:=hcb.1;omega))
          refine aj.aA (rvs:=[.tmp 8]) G ak Tryz.func7 rfl Tryz.ntmps7 rfl rfl ?_;with_reducible refine wD ?_
          (have fct:=And.intro hlm (And.intro f0 (And.intro f1 (And.intro f2 (And.intro f3 (And.intro f4 (f5))))));(repeat' (first
    |refine gF ?_
    | ((first
      |((with_reducible show ae _ _ 26 _ _ _ _);refine ae.lit [] h26 Iw trivial rfl rfl ?_)
      |((with_reducible show ae _ _ 16 _ _ _ _);refine ae.lit [] h16 GL ⟨⟨rfl,rfl,trivial⟩,trivial⟩ rfl rfl ?_)
      |((with_reducible show ae _ _ 29 _ _ _ _);refine ae.val [] h29 Gx ⟨⟨rfl,rfl,trivial⟩,rfl,rfl,rfl,trivial⟩ rfl rfl (bN _ _ _) ?_)
      |((with_reducible show ae _ _ 32 _ _ _ _);refine ae.val [] h32 Gt ⟨⟨rfl,rfl,trivial⟩,rfl,trivial⟩ rfl rfl (bN _ _ _) ?_)
      |((with_reducible show ae _ _ 36 _ _ _ _);refine ae.val [] h36 IY ⟨⟨rfl,rfl,trivial⟩,rfl,rfl,rfl,trivial⟩ rfl rfl (bN _ _ _) ?_)
      |((with_reducible show ae _ _ 37 _ _ _ _);refine ae.lit [] h37 I8 ⟨⟨rfl,rfl,trivial⟩,trivial⟩ rfl rfl ?_)
      |((with_reducible show ae _ _ 38 _ _ _ _);refine ae.lit [] h38 I9 ⟨⟨rfl,rfl,trivial⟩,⟨rfl,rfl,trivial⟩,rfl,rfl,trivial⟩ rfl rfl ?_)
      |((with_reducible show ae _ _ 39 _ _ _ _);refine ae.val [] h39 IS ⟨⟨rfl,rfl,trivial⟩,rfl,trivial⟩ rfl rfl (cw _ _ _) ?_)
      |((with_reducible show ae _ _ 41 _ _ _ _);refine ae.val [] h41 I5 ⟨⟨rfl,rfl,trivial⟩,rfl,rfl,rfl,trivial⟩ rfl rfl (cw _ _ _) ?_)
      |((with_reducible show ae _ _ 42 _ _ _ _);refine ae.val [] h42 IT ⟨⟨rfl,rfl,trivial⟩,rfl,rfl,rfl,trivial⟩ rfl rfl (cw _ _ _) ?_)
      |((with_reducible show ae _ _ 40 _ _ _ _);first|refine ae.lit [] h40 sE ⟨⟨rfl,rfl,trivial⟩,rfl,rfl,⟨rfl,rfl,rfl,trivial⟩,rfl,trivial⟩ rfl rfl ?_|refine ae.lit [] h40b sE ⟨⟨rfl,rfl,trivial⟩,rfl,rfl,⟨rfl,rfl,rfl,trivial⟩,rfl,trivial⟩ rfl rfl ?_|refine ae.lit [] h40c sE ⟨⟨rfl,rfl,trivial⟩,rfl,rfl,⟨rfl,rfl,rfl,trivial⟩,rfl,trivial⟩ rfl rfl ?_)
      |((with_reducible show aB _ _ _ _);refine dK ?_))<;>with_reducible refine wK ?_)
    | ((with_reducible show(_∧_)∧_∧_);(refine eK ?_ ?_<;>with_reducible repeat' (first|exact trivial|(show _∧_;refine aK ?_ ?_))))));all_goals clear fct)
          all_goals first|rfl|trace_state
      · by_cases h2:p<0
        · have f2:=eq_true h2
          refine aj.aA (rvs:=[.tmp 8]) G ak Tryz.func7 rfl Tryz.ntmps7 rfl rfl ?_;with_reducible refine wD ?_
          (have fct:=And.intro hlm (And.intro f0 (And.intro f1 (f2)));(repeat' (first
    |refine gF ?_
    | ((first
      |((with_reducible show ae _ _ 26 _ _ _ _);refine ae.lit [] h26 Iw trivial rfl rfl ?_)
      |((with_reducible show ae _ _ 16 _ _ _ _);refine ae.lit [] h16 GL ⟨⟨rfl,rfl,trivial⟩,trivial⟩ rfl rfl ?_)
      |((with_reducible show ae _ _ 29 _ _ _ _);refine ae.val [] h29 Gx ⟨⟨rfl,rfl,trivial⟩,rfl,rfl,rfl,trivial⟩ rfl rfl (bN _ _ _) ?_)
      |((with_reducible show ae _ _ 32 _ _ _ _);refine ae.val [] h32 Gt ⟨⟨rfl,rfl,trivial⟩,rfl,trivial⟩ rfl rfl (bN _ _ _) ?_)
      |((with_reducible show ae _ _ 36 _ _ _ _);refine ae.val [] h36 IY ⟨⟨rfl,rfl,trivial⟩,rfl,rfl,rfl,trivial⟩ rfl rfl (bN _ _ _) ?_)
      |((with_reducible show ae _ _ 37 _ _ _ _);refine ae.lit [] h37 I8 ⟨⟨rfl,rfl,trivial⟩,trivial⟩ rfl rfl ?_)
      |((with_reducible show ae _ _ 38 _ _ _ _);refine ae.lit [] h38 I9 ⟨⟨rfl,rfl,trivial⟩,⟨rfl,rfl,trivial⟩,rfl,rfl,trivial⟩ rfl rfl ?_)
      |((with_reducible show ae _ _ 39 _ _ _ _);refine ae.val [] h39 IS ⟨⟨rfl,rfl,trivial⟩,rfl,trivial⟩ rfl rfl (cw _ _ _) ?_)
      |((with_reducible show ae _ _ 41 _ _ _ _);refine ae.val [] h41 I5 ⟨⟨rfl,rfl,trivial⟩,rfl,rfl,rfl,trivial⟩ rfl rfl (cw _ _ _) ?_)
      |((with_reducible show ae _ _ 42 _ _ _ _);refine ae.val [] h42 IT ⟨⟨rfl,rfl,trivial⟩,rfl,rfl,rfl,trivial⟩ rfl rfl (cw _ _ _) ?_)
      |((with_reducible show ae _ _ 40 _ _ _ _);first|refine ae.lit [] h40 sE ⟨⟨rfl,rfl,trivial⟩,rfl,rfl,⟨rfl,rfl,rfl,trivial⟩,rfl,trivial⟩ rfl rfl ?_|refine ae.lit [] h40b sE ⟨⟨rfl,rfl,trivial⟩,rfl,rfl,⟨rfl,rfl,rfl,trivial⟩,rfl,trivial⟩ rfl rfl ?_|refine ae.lit [] h40c sE ⟨⟨rfl,rfl,trivial⟩,rfl,rfl,⟨rfl,rfl,rfl,trivial⟩,rfl,trivial⟩ rfl rfl ?_)
      |((with_reducible show aB _ _ _ _);refine dK ?_))<;>with_reducible refine wK ?_)
    | ((with_reducible show(_∧_)∧_∧_);(refine eK ?_ ?_<;>with_reducible repeat' (first|exact trivial|(show _∧_;refine aK ?_ ?_))))));all_goals clear fct)
          all_goals first|rfl|trace_state
        · have f2:=eq_false h2
          have f3:=eq_true (rf hp h2)
          refine aj.aA (rvs:=[.tmp 8]) G ak Tryz.func7 rfl Tryz.ntmps7 rfl rfl ?_;with_reducible refine wD ?_
          (have fct:=And.intro hlm (And.intro f0 (And.intro f1 (And.intro f2 (f3))));(repeat' (first
    |refine gF ?_
    | ((first
      |((with_reducible show ae _ _ 26 _ _ _ _);refine ae.lit [] h26 Iw trivial rfl rfl ?_)
      |((with_reducible show ae _ _ 16 _ _ _ _);refine ae.lit [] h16 GL ⟨⟨rfl,rfl,trivial⟩,trivial⟩ rfl rfl ?_)
      |((with_reducible show ae _ _ 29 _ _ _ _);refine ae.val [] h29 Gx ⟨⟨rfl,rfl,trivial⟩,rfl,rfl,rfl,trivial⟩ rfl rfl (bN _ _ _) ?_)
      |((with_reducible show ae _ _ 32 _ _ _ _);refine ae.val [] h32 Gt ⟨⟨rfl,rfl,trivial⟩,rfl,trivial⟩ rfl rfl (bN _ _ _) ?_)
      |((with_reducible show ae _ _ 36 _ _ _ _);refine ae.val [] h36 IY ⟨⟨rfl,rfl,trivial⟩,rfl,rfl,rfl,trivial⟩ rfl rfl (bN _ _ _) ?_)
      |((with_reducible show ae _ _ 37 _ _ _ _);refine ae.lit [] h37 I8 ⟨⟨rfl,rfl,trivial⟩,trivial⟩ rfl rfl ?_)
      |((with_reducible show ae _ _ 38 _ _ _ _);refine ae.lit [] h38 I9 ⟨⟨rfl,rfl,trivial⟩,⟨rfl,rfl,trivial⟩,rfl,rfl,trivial⟩ rfl rfl ?_)
      |((with_reducible show ae _ _ 39 _ _ _ _);refine ae.val [] h39 IS ⟨⟨rfl,rfl,trivial⟩,rfl,trivial⟩ rfl rfl (cw _ _ _) ?_)
      |((with_reducible show ae _ _ 41 _ _ _ _);refine ae.val [] h41 I5 ⟨⟨rfl,rfl,trivial⟩,rfl,rfl,rfl,trivial⟩ rfl rfl (cw _ _ _) ?_)
      |((with_reducible show ae _ _ 42 _ _ _ _);refine ae.val [] h42 IT ⟨⟨rfl,rfl,trivial⟩,rfl,rfl,rfl,trivial⟩ rfl rfl (cw _ _ _) ?_)
      |((with_reducible show ae _ _ 40 _ _ _ _);first|refine ae.lit [] h40 sE ⟨⟨rfl,rfl,trivial⟩,rfl,rfl,⟨rfl,rfl,rfl,trivial⟩,rfl,trivial⟩ rfl rfl ?_|refine ae.lit [] h40b sE ⟨⟨rfl,rfl,trivial⟩,rfl,rfl,⟨rfl,rfl,rfl,trivial⟩,rfl,trivial⟩ rfl rfl ?_|refine ae.lit [] h40c sE ⟨⟨rfl,rfl,trivial⟩,rfl,rfl,⟨rfl,rfl,rfl,trivial⟩,rfl,trivial⟩ rfl rfl ?_)
      |((with_reducible show aB _ _ _ _);refine dK ?_))<;>with_reducible refine wK ?_)
    |((with_reducible show(_∧_)∧_∧_);(refine eK ?_ ?_<;>with_reducible repeat' (first|exact trivial|(show _∧_;refine aK ?_ ?_))))));all_goals clear fct)
          all_goals first|rfl|trace_state
end Go.Proofs.Heir
end
namespace Go.Proofs.Heir
open Go Go.Am Go.RowKit Go.Lib
set_option maxRecDepth 100000
set_option maxHeartbeats 8000000
theorem Fh:Reads Tryz.prog 9 1 cn (fun s=>s.size≤maxLen):=Reads.str Tryz.underlying9 (by kernel_rfl)
theorem AG:Reads Tryz.prog 3 1 bJ (fun _=>True):=(Reads.int Tryz.underlying3 (by kernel_rfl)).conv id id (fun _=>rfl) (fun _=>rfl) (fun _ _=>trivial)
theorem Ls:Reads Tryz.prog 90 2 dn (fun _=>True):=
 (Reads.struct (l:=[(0,9),(1,9)]) Tryz.underlying90 (by kernel_rfl) rfl (.cons Fh (.cons Fh .nil))).conv
  (fun(a,b,_)=>⟨a,b⟩) (fun t=>(t.name,t.value,())) (fun _=>rfl) (fun _=>rfl) (fun _ _=>trivial)
theorem GX:Reads Tryz.prog 32 1 cO (fun _=>True):=(Reads.slice Tryz.underlying32 (by kernel_rfl) Ls (by omega)).conv id id (fun _=>rfl) (fun _=>rfl) (fun _ _=>trivial)
theorem Jt:Reads Tryz.prog 33 1 bY (fun _=>True):=(Reads.slice Tryz.underlying33 (by kernel_rfl) AG (by omega)).conv id id (fun _=>rfl) (fun _=>rfl) (fun _ _=>trivial)
theorem LQ:Reads Tryz.prog 35 10 bM (fun _=>True):=
 (Reads.struct (l:=[(0,3),(1,9),(2,9),(3,9),(4,32),(5,3),(6,33),(7,3),(8,3),(9,3)]) Tryz.underlying35 (by kernel_rfl) rfl
  (.cons AG (.cons Fh (.cons Fh (.cons Fh (.cons GX (.cons AG (.cons Jt (.cons AG (.cons AG (.cons AG .nil))))))))))).conv
  (fun(a,b,c,d,e,f,g,h,i,j,_)=>⟨a,b,c,d,e,f,g,h,i,j⟩)
  (fun t=>(t.kind,t.name,t.is,t.data,t.attrs,t.parent,t.kids,t.host,t.under,t.doc,())) (fun _=>rfl) (fun _=>rfl) (fun _ _=>trivial)
theorem HY:Reads Tryz.prog 22 1 oU (fun _=>True):=(Reads.slice Tryz.underlying22 (by kernel_rfl) LQ (by omega)).conv id id (fun _=>rfl) (fun _=>rfl) (fun _ _=>trivial)
theorem MX:Reads Tryz.prog 24 2 aN (fun _=>True):=
 (Reads.struct (l:=[(0,22),(1,3)]) Tryz.underlying24 (by kernel_rfl) rfl (.cons HY (.cons AG .nil))).conv
  (fun(a,b,_)=>⟨a,b⟩) (fun t=>(t.nodes,t.most,())) (fun _=>rfl) (fun _=>rfl) (fun _ _=>trivial)
theorem laid:Go.laidOutB Tryz.prog=true:=by kernel_rfl
abbrev lq:List (String×DataW Unit):=[("errors.errorType",Go.Proofs.YtkhjcnjicjgfiaaGreatDoor.Rows.laid_errors_errorType)]
theorem FO (os:Os)(args:Array Value):laidMetH Tryz.prog lq ((World.doorLaid Tryz.prog 33 os).forCall (fun _ _=>0) ⟨#[],args,[]⟩).memory:=
 laidMetH_of_parts3 (fuel:=8) (laidMet_of_run' 8 (by kernel_rfl) (by kernel_rfl)) (by kernel_rfl) (by kernel_rfl)
theorem xe {W:World}(h:laidMetH Tryz.prog lq W):kj Tryz.prog W fun _=>none:=by
 refine⟨fun g hg=>(by rw[show Tryz.prog.globalNamed "no such variable" =none by kernel_rfl] at hg;cases hg),fun g hg=>?_⟩
 have h':handlesMet Tryz.prog lq W:=h.2
 have h0:=h' _ (je.2 rfl)
 have h1:∃name u ty,(DataW.handleName? (Go.Proofs.YtkhjcnjicjgfiaaGreatDoor.Rows.laid_errors_errorType:DataW Unit))=some name∧(Tryz.prog.cutTypes.find? (·.1== "internal/reflectlite.rtype")).map (·.2)=some u∧ty<Tryz.prog.types.size∧Tryz.prog.rowNamed ty name=true∧
   W.var? Tryz.prog "errors.errorType" =some #[.iface u (.agg #[typeHandle Tryz.prog ty])]:=h0
 obtain⟨name,u,ty,k1,k2,k3,k4,k5⟩:=h1
 obtain rfl:[101,114,114,111,114]=name:=Option.some.inj k1
 have e:g=0:=Option.some.inj (hg.symm.trans (by kernel_rfl))
 subst e
 unfold World.var? at k5
 rw[hg] at k5
 simp only[Option.bind_some] at k5
 refine⟨(by rintro⟨_,_,h,_⟩;cases h),?_,_,⟨u,ty,k2,k3,k4,rfl⟩,?_⟩
 · split at k5
   ·rename_i hh;exact(Array.getElem?_eq_some_iff.1 hh).1
   ·cases k5
 · split at k5
   · rename_i cs _ _ hh
     obtain rfl:cs=_:=Option.some.inj k5
     simp[World.cell?,hh]
   ·cases k5
end Go.Proofs.Heir
