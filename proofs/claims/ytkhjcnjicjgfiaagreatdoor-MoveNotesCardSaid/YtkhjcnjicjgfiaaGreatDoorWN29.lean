/- Models, plain laws and contracts of functions of the given program; conditions as stated in each theorem. By an AI agent. -/
import Derived.Test.YtkhjcnjicjgfiaaGreatDoorWN28
import Derived.Shelf.Spec.SlicesInsert
import Derived.Shelf.Spec.SlicesInsertGrow
import Derived.Test.YtkhjcnjicjgfiaaGreatDoorProg
import Derived.Test.YtkhjcnjicjgfiaaGreatDoorWN24
import Derived.Lib.Overlaps
import Derived.Laws.Externs
import Derived.Laws.IdiomCopy
set_option linter.unusedSimpArgs false
set_option linter.unusedVariables false
namespace Go.Proofs.Heir
open Go Go.Am Go.RowKit Go.Lib
set_option maxRecDepth 100000
set_option maxHeartbeats 8000000
set_option maxHeartbeats 16000000
theorem oT {l l':List ai}{m n p c before:Int}{a b:Nat}{ka kb ka' kb':List Int}{told:List aJ}
    (h28:ak Tryz.prog 28 [] [aM ⟨l,m⟩,ah n,ah p,ah c] [] (ah before))
    (h75:ak Tryz.prog 75 [aL m l.length 4 (.own 3 0 0),aA ka,aA kb,aN [],aQ l a 1 b 2] [.ptr 0 0 0,ah n,ah p,ah before]
      [aL m l.length 4 (.own 7 0 told.length),.dead,.dead,.dead,aQ l' a 5 b 6,aA ka',aA kb',aN told] (.tup [])):
    ak Tryz.prog 74 [aL m l.length 4 (.own 3 0 0),aA ka,aA kb,aN [],aQ l a 1 b 2] [.ptr 0 0 0,.fptr (ah n) 0,.fptr (ah p) 0,.fptr (aM ⟨l,m⟩) 0,.fptr (ah c) 0]
      [aL m l.length 4 (.own 7 0 told.length),.dead,.dead,.dead,aQ l' a 5 b 6,aA ka',aA kb',aN told] eF:=by
  refine ak.eA [(5,151),(6,153),(7,163)] (rvs:=[.tmp 6]) G au Tryz.func74 rfl Tryz.ntmps74 rfl rfl ?_;with_reducible refine wD ?_
  repeat' (first
    |refine gK ?_
    | ((first
      |((with_reducible show af _ _ 28 _ _ _ _);refine af.lit [] h28 MN ⟨⟨rfl,rfl,trivial⟩,rfl,rfl,rfl,trivial⟩ rfl rfl ?_)
      |((with_reducible show af _ _ 75 _ _ _ _);refine af.c7 (news:=[aL m l.length 4 (.own 163 0 told.length),.dead,.dead,.dead,aQ l' a 151 b 153,aA ka',aA kb',aN told]) [0,1,2,3,4,151,153,163] [] h75 LB ⟨⟨rfl,rfl⟩,rfl,rfl,rfl,trivial⟩ ⟨⟨rfl,.inr ⟨⟨⟨⟨rfl,rfl⟩,rfl,⟨rfl,rfl⟩,trivial⟩,trivial⟩,rfl⟩⟩,⟨rfl,.inl ⟨rfl,aa _⟩⟩,⟨rfl,.inl ⟨rfl,aa _⟩⟩,⟨rfl,.inl ⟨rfl,aj _⟩⟩,⟨rfl,bI (fun _=>rfl) (fun _=>rfl)⟩,trivial⟩ rfl ⟨⟨rfl,rfl⟩,rfl⟩ rfl ⟨⟨rfl,.inr ⟨rfl,rfl,rfl⟩⟩,⟨rfl,bB rfl rfl (by decide) (by decide)⟩,⟨rfl,.inl ⟨rfl,aa _⟩⟩,⟨rfl,.inl ⟨rfl,aa _⟩⟩,⟨rfl,.inl ⟨rfl,aj _⟩⟩,trivial⟩ rfl rfl ?_)
      |((with_reducible show aI _ _ _ _);refine dK ?_))<;>with_reducible refine wK ?_)
    |((with_reducible show(_∧_)∧_∧_);(refine eK ?_ ?_<;>with_reducible repeat' (first|exact trivial|(show _∧_;refine aK ?_ ?_)))))
  all_goals first
    |rfl
    |exact⟨.refl (aa _),aa _⟩
    |exact⟨.refl (aj _),aj _⟩
    |exact bu (fun _=>rfl) (fun _=>rfl)
    |trace_state
theorem nM (f:ForM)(hs:bw f.nodes){a b:Nat}{ya yb:ai}(hab:a≠b)(ha:f.nodes[a]? =some ya)(hb:f.nodes[b]? =some yb)(g:Nat)(cg:aq Tryz.prog g)(caps:List AV)(hcaps:br caps=true)(l':List ai)(k1 k2:List Int)(told:List aJ)(hl:l'.length=f.nodes.length)
    (hka:∀y,l'[a]? =some y→y.kids=k1) (hkb:∀y,l'[b]? =some y→y.kids=k2)
    (hg:ak Tryz.prog g [aL f.most f.nodes.length 4 (.own 3 0 0),aA ya.kids,aA yb.kids,aN [],aQ f.nodes a 1 b 2] (.ptr 0 0 0::caps)
      [aL f.most f.nodes.length 4 (.own 7 0 told.length),.dead,.dead,.dead,aQ l' a 5 b 6,aA k1,aA k2,aN told] eF):
    ak Tryz.prog 56 [] [aM f,eF,.clo (.func g) [] caps] [] (.tup [aM ⟨l',f.most⟩,lE told,ah 0]):=by
  have h121:=IA f hs hab ha hb
  have hlm:(l'.map bF).length=f.nodes.length:=by rw[bW,hl]
  obtain⟨l,m⟩:=f
  simp only at*
  refine ak.aD (rvs:=[.cell 6 24,.tmp 7,.tmp 8]) G au Tryz.func56 rfl Tryz.ntmps56 rfl rfl ?_;with_reducible refine wD ?_
  repeat' (first
    |refine gK ?_
    | ((first
      |((with_reducible show af _ _ 121 _ _ _ _);refine af.c7 (news:=[aL m l.length 114 (.own 113 0 0),aA ya.kids,aA yb.kids,.live 9 [] false,aQ l a 111 b 112]) [110,111,112,113,114] [] h121 DA ⟨⟨rfl,rfl,trivial⟩,trivial⟩ trivial rfl ⟨⟨rfl,rfl⟩,rfl⟩ rfl ⟨⟨rfl,.inr ⟨rfl,rfl,rfl⟩⟩,⟨rfl,.inl ⟨rfl,aa _⟩⟩,⟨rfl,.inl ⟨rfl,aa _⟩⟩,⟨rfl,.inl ⟨rfl,rfl⟩⟩,⟨rfl,bB rfl rfl (by decide) (by decide)⟩,trivial⟩ rfl rfl ?_)
      |((with_reducible show aW _ _ _ _ _);first|refine aW.lu true Tryz.underlying98 rfl rfl rfl rfl rfl ?_|refine aW.kS false Tryz.underlying98 rfl rfl rfl rfl rfl ?_)
      |((with_reducible show af _ _ _ _ _ _ _);refine af.c7 (news:=[aL m l.length 114 (.own 163 0 told.length),.dead,.dead,.dead,aQ l' a 161 b 162,aA k1,aA k2,aN told]) [110,111,112,113,114,161,162,163] [] hg cg ⟨⟨rfl,rfl⟩,bP hcaps⟩ ⟨⟨rfl,.inr ⟨⟨⟨⟨rfl,rfl⟩,rfl,⟨rfl,rfl⟩,trivial⟩,trivial⟩,rfl⟩⟩,⟨rfl,.inl ⟨rfl,aa _⟩⟩,⟨rfl,.inl ⟨rfl,aa _⟩⟩,⟨rfl,.inl ⟨rfl,rfl⟩⟩,⟨rfl,bI (fun _=>rfl) (fun _=>rfl)⟩,trivial⟩ rfl ⟨⟨rfl,rfl⟩,rfl⟩ rfl ⟨⟨rfl,.inr ⟨rfl,rfl,rfl⟩⟩,⟨rfl,bB rfl rfl (by decide) (by decide)⟩,⟨rfl,.inl ⟨rfl,aa _⟩⟩,⟨rfl,.inl ⟨rfl,aa _⟩⟩,⟨rfl,.inl ⟨rfl,aj _⟩⟩,trivial⟩ rfl rfl ?_)
      |((with_reducible show aI _ _ _ _);refine dK ?_))<;>with_reducible refine wK ?_)
    |((with_reducible show(_∧_)∧_∧_);(refine eK ?_ ?_<;>with_reducible repeat' (first|exact trivial|(show _∧_;refine aK ?_ ?_)))))
  all_goals first
    |rfl
    |exact jh rfl rfl rfl (by simp) (aj _)
    |exact(by rw[←hl];exact sY (ra:=false) (rb:=false) (ea:=[]) (eb:=[]) rfl rfl (fun y hy=>by rw[List.append_nil,hka y hy];exact⟨rfl,rfl⟩) (fun y hy=>by rw[List.append_nil,hkb y hy];exact⟨rfl,rfl⟩))
    |trace_state
def xp:ByteArray:=⟨#[112,117,116]⟩
def sv (f:ForM)(n p c:Int):List AV:=[.fptr (ah n) 0,.fptr (ah p) 0,.fptr (aM f) 0,.fptr (ah c) 0]
theorem Ag (f:ForM)(n p c:Int)(e:Int)(r:ForM)(ns:List aJ)(z:Int)(h30:ak Tryz.prog 30 [] [aM f,ah n,ah p,ah c] [] (ah e))(h60:ak Tryz.prog 60 [] [bS xp,ah e] [] (.lit (gI xp e)))
    (h56:ak Tryz.prog 56 [] [aM f,(.lit (gI xp e)),.clo (.func 74) [] (sv f n p c)] [] (.tup [aM r,lE ns,ah z])):ak Tryz.prog 29 [] [aM f,ah n,ah p,ah c] [] (.tup [aM r,lE ns,ah z]):=by
  unfold sv at h56
  obtain⟨l,m⟩:=f
  obtain⟨l',m'⟩:=r
  refine ak.aD (rvs:=[.cell 8 24,.tmp 9,.tmp 10]) G au Tryz.func29 rfl Tryz.ntmps29 rfl rfl ?_;with_reducible refine wD ?_
  repeat' (first
    |refine gK ?_
    | ((first
      |((with_reducible show af _ _ 30 _ _ _ _);refine af.lit [] h30 Kb ⟨⟨rfl,rfl,trivial⟩,rfl,rfl,rfl,trivial⟩ rfl rfl ?_)
      |((with_reducible show af _ _ 60 _ _ _ _);refine af.lit [] h60 FR ⟨rfl,rfl,trivial⟩ rfl rfl ?_)
      |((with_reducible show af _ _ 56 _ _ _ _);refine af.val [50,60,40,70] h56 D3 ⟨⟨rfl,rfl,trivial⟩,⟨rfl,rfl⟩,⟨rfl,trivial,⟨_,_,_,_,_,rfl,rfl,rfl,rfl,rfl,rfl⟩,⟨_,_,_,_,_,rfl,rfl,rfl,rfl,rfl,rfl⟩,⟨_,_,_,_,_,rfl,rfl,rfl,rfl,rfl,⟨rfl,rfl,trivial⟩⟩,⟨_,_,_,_,_,rfl,rfl,rfl,rfl,rfl,rfl⟩,trivial⟩,trivial⟩ rfl rfl rfl ?_)
      |((with_reducible show aI _ _ _ _);refine dK ?_))<;>with_reducible refine wK ?_)
    |((with_reducible show(_∧_)∧_∧_);(refine eK ?_ ?_<;>with_reducible repeat' (first|exact trivial|(show _∧_;refine aK ?_ ?_)))))
  all_goals first|rfl|trace_state
theorem oR (f:ForM)(n p c:Int)(r:ForM)(ns:List aJ)(z:Int)(h30:ak Tryz.prog 30 [] [aM f,ah n,ah p,ah c] [] (ah 0))(h60:ak Tryz.prog 60 [] [bS xp,ah 0] [] eF)
    (h56:ak Tryz.prog 56 [] [aM f,eF,.clo (.func 74) [] (sv f n p c)] [] (.tup [aM r,lE ns,ah z])):ak Tryz.prog 29 [] [aM f,ah n,ah p,ah c] [] (.tup [aM r,lE ns,ah z]):=by
  unfold sv at h56
  obtain⟨l,m⟩:=f
  obtain⟨l',m'⟩:=r
  refine ak.aD (rvs:=[.cell 8 24,.tmp 9,.tmp 10]) G au Tryz.func29 rfl Tryz.ntmps29 rfl rfl ?_;with_reducible refine wD ?_
  repeat' (first
    |refine gK ?_
    | ((first
      |((with_reducible show af _ _ 30 _ _ _ _);refine af.lit [] h30 Kb ⟨⟨rfl,rfl,trivial⟩,rfl,rfl,rfl,trivial⟩ rfl rfl ?_)
      |((with_reducible show af _ _ 60 _ _ _ _);refine af.lit [] h60 FR ⟨rfl,rfl,trivial⟩ rfl rfl ?_)
      |((with_reducible show af _ _ 56 _ _ _ _);refine af.val [50,60,40,70] h56 D3 ⟨⟨rfl,rfl,trivial⟩,⟨rfl,rfl⟩,⟨rfl,trivial,⟨_,_,_,_,_,rfl,rfl,rfl,rfl,rfl,rfl⟩,⟨_,_,_,_,_,rfl,rfl,rfl,rfl,rfl,rfl⟩,⟨_,_,_,_,_,rfl,rfl,rfl,rfl,rfl,⟨rfl,rfl,trivial⟩⟩,⟨_,_,_,_,_,rfl,rfl,rfl,rfl,rfl,rfl⟩,trivial⟩,trivial⟩ rfl rfl rfl ?_)
      |((with_reducible show aI _ _ _ _);refine dK ?_))<;>with_reducible refine wK ?_)
    |((with_reducible show(_∧_)∧_∧_);(refine eK ?_ ?_<;>with_reducible repeat' (first|exact trivial|(show _∧_;refine aK ?_ ?_)))))
  all_goals first|rfl|trace_state
def ql:ByteArray:=⟨#[115,119,97,112]⟩
def kr (f:ForM)(n p c:Int):List AV:=[.fptr (aM f) 0,.fptr (ah c) 0,.fptr (ah n) 0,.fptr (ah p) 0]
theorem yq (f:ForM)(n p c:Int)(e:Int)(r:ForM)(ns:List aJ)(z:Int)(h30:ak Tryz.prog 85 [] [aM f,ah n,ah p,ah c] [] (ah e))(h60:ak Tryz.prog 60 [] [bS ql,ah e] [] (.lit (gI ql e)))
    (h56:ak Tryz.prog 56 [] [aM f,(.lit (gI ql e)),.clo (.func 86) [] (kr f n p c)] [] (.tup [aM r,lE ns,ah z])):ak Tryz.prog 36 [] [aM f,ah n,ah p,ah c] [] (.tup [aM r,lE ns,ah z]):=by
  unfold kr at h56
  obtain⟨l,m⟩:=f
  obtain⟨l',m'⟩:=r
  refine ak.aD (rvs:=[.cell 8 24,.tmp 9,.tmp 10]) G au Tryz.func36 rfl Tryz.ntmps36 rfl rfl ?_;with_reducible refine wD ?_
  repeat' (first
    |refine gK ?_
    | ((first
      |((with_reducible show af _ _ 85 _ _ _ _);refine af.lit [] h30 Mo ⟨⟨rfl,rfl,trivial⟩,rfl,rfl,rfl,trivial⟩ rfl rfl ?_)
      |((with_reducible show af _ _ 60 _ _ _ _);refine af.lit [] h60 FR ⟨rfl,rfl,trivial⟩ rfl rfl ?_)
      |((with_reducible show af _ _ 56 _ _ _ _);refine af.val [40,70,50,60] h56 D3 ⟨⟨rfl,rfl,trivial⟩,⟨rfl,rfl⟩,⟨rfl,trivial,⟨_,_,_,_,_,rfl,rfl,rfl,rfl,rfl,⟨rfl,rfl,trivial⟩⟩,⟨_,_,_,_,_,rfl,rfl,rfl,rfl,rfl,rfl⟩,⟨_,_,_,_,_,rfl,rfl,rfl,rfl,rfl,rfl⟩,⟨_,_,_,_,_,rfl,rfl,rfl,rfl,rfl,rfl⟩,trivial⟩,trivial⟩ rfl rfl rfl ?_)
      |((with_reducible show aI _ _ _ _);refine dK ?_))<;>with_reducible refine wK ?_)
    |((with_reducible show(_∧_)∧_∧_);(refine eK ?_ ?_<;>with_reducible repeat' (first|exact trivial|(show _∧_;refine aK ?_ ?_)))))
  all_goals first|rfl|trace_state
theorem mJ (f:ForM)(n p c:Int)(r:ForM)(ns:List aJ)(z:Int)(h30:ak Tryz.prog 85 [] [aM f,ah n,ah p,ah c] [] (ah 0))(h60:ak Tryz.prog 60 [] [bS ql,ah 0] [] eF)
    (h56:ak Tryz.prog 56 [] [aM f,eF,.clo (.func 86) [] (kr f n p c)] [] (.tup [aM r,lE ns,ah z])):ak Tryz.prog 36 [] [aM f,ah n,ah p,ah c] [] (.tup [aM r,lE ns,ah z]):=by
  unfold kr at h56
  obtain⟨l,m⟩:=f
  obtain⟨l',m'⟩:=r
  refine ak.aD (rvs:=[.cell 8 24,.tmp 9,.tmp 10]) G au Tryz.func36 rfl Tryz.ntmps36 rfl rfl ?_;with_reducible refine wD ?_
  repeat' (first
    |refine gK ?_
    | ((first
      |((with_reducible show af _ _ 85 _ _ _ _);refine af.lit [] h30 Mo ⟨⟨rfl,rfl,trivial⟩,rfl,rfl,rfl,trivial⟩ rfl rfl ?_)
      |((with_reducible show af _ _ 60 _ _ _ _);refine af.lit [] h60 FR ⟨rfl,rfl,trivial⟩ rfl rfl ?_)
      |((with_reducible show af _ _ 56 _ _ _ _);refine af.val [40,70,50,60] h56 D3 ⟨⟨rfl,rfl,trivial⟩,⟨rfl,rfl⟩,⟨rfl,trivial,⟨_,_,_,_,_,rfl,rfl,rfl,rfl,rfl,⟨rfl,rfl,trivial⟩⟩,⟨_,_,_,_,_,rfl,rfl,rfl,rfl,rfl,rfl⟩,⟨_,_,_,_,_,rfl,rfl,rfl,rfl,rfl,rfl⟩,⟨_,_,_,_,_,rfl,rfl,rfl,rfl,rfl,rfl⟩,trivial⟩,trivial⟩ rfl rfl rfl ?_)
      |((with_reducible show aI _ _ _ _);refine dK ?_))<;>with_reducible refine wK ?_)
    |((with_reducible show(_∧_)∧_∧_);(refine eK ?_ ?_<;>with_reducible repeat' (first|exact trivial|(show _∧_;refine aK ?_ ?_)))))
  all_goals first|rfl|trace_state
end Go.Proofs.Heir
namespace Go.Proofs
open Go.Shelf
def Tryz.yW:Go.Shelf.Ren:=⟨fun|21=>140|27=>189|28=>190|35=>214|39=>228|n=>n,fun|22=>33|3=>3|4=>4|0=>0|n=>n,fun|n=>n⟩
theorem Tryz.BI:Go.Proofs.Lays2.n21 Tryz.prog Tryz.yW:={
  mixed:=by kernel_rfl
  f21:=Tryz.func140.trans (congrArg some (by kernel_rfl))
  f27:=Tryz.func189.trans (congrArg some (by kernel_rfl))
  f28:=Tryz.func190.trans (congrArg some (by kernel_rfl))
  f35:=Tryz.func214.trans (congrArg some (by kernel_rfl))
  f39:=Tryz.func228.trans (congrArg some (by kernel_rfl))
  t0:=Tryz.underlying0
  a0:=Tryz.isAgg0
  z0:=Tryz.sizeOf0
  v0:=Tryz.zeroValue0
  t3:=Tryz.underlying3
  a3:=Tryz.isAgg3
  z3:=Tryz.sizeOf3
  v3:=Tryz.zeroValue3
  t4:=Tryz.underlying4
  a4:=Tryz.isAgg4
  z4:=Tryz.sizeOf4
  v4:=Tryz.zeroValue4
  t22:=Tryz.underlying33
  a22:=Tryz.isAgg33
  z22:=Tryz.sizeOf33
  v22:=Tryz.zeroValue33
  i3:=by kernel_rfl}
end Go.Proofs
namespace Go.Proofs.Heir
open Go.Am Go.RowKit Go.Lib
set_option maxRecDepth 100000
set_option maxHeartbeats 8000000
theorem ER (b off cap n vb vo vc:Nat)(z:Int)(C:Array Value)(e:TypeId)(w:World)(hC:w.heap[b]? =some (.cells C e (0,0)))(hfit:off+cap≤C.size)(hn:n+1≤cap)(hx:w.cell? ⟨vb,vo,none⟩=some (.int .i64 z))(hn63:n≤100000):
    Calls Tryz.prog 140 #[.slice (some ⟨b,off,none⟩) n cap,.int .i64 n,.slice (some ⟨vb,vo,none⟩) 1 vc] w fun e' w'=>e'=.returned (.slice (some ⟨b,off,none⟩) (n+1) cap)∧w'=w.setCells b (off+n) [.int .i64 z]:=by
  obtain⟨old,hold⟩:∃v,w.cell? ⟨b,off+n,none⟩=some v:=by
    have:w.cell? ⟨b,off+n,none⟩=C[off+n]? :=by simp[World.cell?,hC]
    rw[this,Array.getElem?_eq_getElem (by omega)];exact⟨_,rfl⟩
  have hfz:w.frozen? ⟨b,off+n,none⟩=false:=by simp[World.frozen?,hC]
  have mixed:Tryz.prog.follows Departure.mixedOrders=true:=by kernel_rfl
  have hic:n≤cap:=by omega
  clear hC
  go_enter Tryz.func140,Tryz.ntmps140
  go_wp2
  all_goals (try go_ret)
  all_goals first|exact⟨rfl,rfl⟩|trace_state
theorem A3 (b off cap n i vb vo vc:Nat)(z:Int)(cs:List Value)(C:Array Value)(e:TypeId)(w:World)(hC:w.heap[b]? =some (.cells C e (0,0)))(hfit:off+cap≤C.size)(hn:n+1≤cap)(hi:i<n)(hx:w.cell? ⟨vb,vo,none⟩=some (.int .i64 z))(hn63:n≤100000)
    (hcl:cs.length=n) (hcs:∀j v,cs[j]? =some v→C[off+j]? =some v) (h1c:∀v∈cs,v.oneCell'=true) (hvb:vb≠b) (tA:TypeId) (kA:Nat) (hsa:w.shape? vb=some (tA,kA)) (hfa:w.frozen? ⟨vb,vo,none⟩=false) (hfe:w.frozen? ⟨vb,kA,none⟩=false):
    Calls Tryz.prog 140 #[.slice (some ⟨b,off,none⟩) n cap,.int .i64 i,.slice (some ⟨vb,vo,none⟩) 1 vc] w fun e' w'=>e'=.returned (.slice (some ⟨b,off,none⟩) (n+1) cap)∧w'=(w.drew.setCells b (off+ (i+1)) (cs.drop i)).setCells b (off+i) [.int .i64 z]:=by
  have hsb:w.shape? b=some (e,C.size):=by simp[World.shape?,hC]
  have hcell:∀q,w.cell? ⟨b,q,none⟩=C[q]? :=fun q=>by simp[World.cell?,hC]
  have hfz:∀q,w.frozen? ⟨b,q,none⟩=false:=fun q=>by simp[World.frozen?,hC]
  have hsp:∀j,j<n+1→(w.cell? ⟨b,off+j,none⟩).isSome=true:=fun j hj=>by rw[hcell,Array.getElem?_eq_getElem (by omega)];rfl
  have hsz:(Tryz.prog.info? 3).map (·.size)=some 1:=by kernel_rfl
  have hov:∀lb cb,(callFunc 189 #[.slice (some ⟨vb,vo,none⟩) 1 vc,.slice (some ⟨b,off+ (i+1),none⟩) lb cb]).run Tryz.prog w=.ok (.value (.bool false)) w:=fun lb cb=>by
    rw [run_callFunc_extern Tryz.func189 (by kernel_rfl) (by kernel_rfl) (by kernel_rfl) (e:=Extern.SlicesOverlaps.overlaps #[33,33] #[4]) (by kernel_rfl),
      Lib.run_overlaps_apart w 33 4 3 Tryz.underlying33 1 Tryz.sizeOf3 ⟨vb,vo,none⟩ ⟨b,off+ (i+1),none⟩ 1 vc lb cb hvb tA e kA C.size hsa hsb (by omega) hfa hfe]
    rfl
  have hdl:(cs.drop i).length=n-i:=by rw[List.length_drop,hcl]
  have hcp1:∀ty dc sc,(Builtin.copy_ #[33,33] ty #[.slice (some ⟨b,off+ (i+1),none⟩) (n-i) dc,.slice (some ⟨b,off+i,none⟩) (n+1-i) sc]).run Tryz.prog w.drew=.ok (goInt (cs.drop i).length) (w.drew.setCells b (off+ (i+1)) (cs.drop i)):=fun ty dc sc=>
    run_copy_cells w.drew _ _ ty 3 b (off+ (i+1)) (n-i) dc ⟨b,off+i,none⟩ (n+1-i) sc (cs.drop i) Tryz.underlying33 hsz (by rw[hdl];simp only[Nat.min_def];split<;>omega)
      (fun j v hj=>by rw[Addr.add_lit,Nat.add_assoc];show w.cell? _=_;rw[hcell];exact hcs (i+j) v (by rwa [List.getElem?_drop] at hj))
      (fun j hj=>by rw[Nat.add_assoc];exact hsp _ (by omega)) (fun j hj=>hfz _) (fun v hv=>h1c v (List.mem_of_mem_drop hv))
  obtain⟨W1,hW1⟩:∃W1,W1=w.drew.setCells b (off+ (i+1)) (cs.drop i):=⟨_,rfl⟩
  have hsp1:∀k,k<n+1→(W1.cell? ⟨b,off+k,none⟩).isSome=true:=fun k hk=>by
    rw[hW1]
    exact isSome_setCells b _ _ _ (fun j hj=>by rw[Nat.add_assoc];exact hsp _ (by omega)) _ (hsp k hk)
  have hcp2:∀ (W:World),(∀x,W.cell? x=W1.cell? x)→(∀x,W.frozen? x=W1.frozen? x)→∀ty dc,(Builtin.copy_ #[33,33] ty #[.slice (some ⟨b,off+i,none⟩) (n+1-i) dc,.slice (some ⟨vb,vo,none⟩) 1 vc]).run Tryz.prog W=.ok (goInt ([.int .i64 z]:List Value).length) (W.setCells b (off+i) [.int .i64 z]):=fun W hWc hWf ty dc=>
    run_copy_cells W _ _ ty 3 b (off+i) (n+1-i) dc ⟨vb,vo,none⟩ 1 vc [.int .i64 z] Tryz.underlying33 hsz (by show 1=_;simp only[Nat.min_def];split<;>omega)
      (fun j v hj=>by
        have hj0:j=0:=by have:=(aY hj).1;simp at this;exact this
        subst hj0
        cases hj
        rw[Addr.add_lit,hWc,hW1,World.cell?_setCells_out b _ _ _ _ (fun h _=>absurd h hvb)]
        exact hx)
      (fun j hj=>by rw[hWc,Nat.add_assoc];exact hsp1 _ (by simp at hj;omega)) (fun j hj=>by rw[hWf,hW1,World.frozen?_setCells];exact hfz _) (fun v hv=>by simp at hv;subst hv;rfl)
  rw[←hW1] at hcp1
  have mixed:Tryz.prog.follows Departure.mixedOrders=true:=by kernel_rfl
  have hic:n≤cap:=by omega
  have hib:i≤cap:=by omega
  have hin:i≤n:=by omega
  have hp1:(0:Int)≤ (i:Int)+1:=by omega
  have hw1:IntKind.i64.wrap ((i:Int)+1)=(i:Int)+1:=by rw[IntKind.wrap_i64];omega
  have hw2:IntKind.i64.wrap ((n:Int)+1)=(n:Int)+1:=by rw[IntKind.wrap_i64];omega
  have hz2:¬ ((i:Int)=(n:Int)):=by omega
  have htn:((i:Int)+1).toNat=i+1:=by omega
  have hb2:¬ (cap=i+1):=by omega
  have hb3:(i:Int)≤ (n:Int)+1:=by omega
  have hb4:¬ (cap=i):=by omega
  clear hC
  go_enter Tryz.func140,Tryz.ntmps140
  go_wp2_with (simp only[hov])
  go_region_law_o (refine step_copy_runI rfl (.tmp 73) (.tmp 76) 33 33 rfl _ _ (by simp[Act.eval,Act.put]) (by simp[Act.eval,Act.put]) (hcp1 _ _ _) ?_)
  go_wp2_with (at_builtin;refine wpList_copy_runI _ rfl _ _ 33 33 rfl _ _ rfl rfl (hcp2 _ (fun _=>rfl) (fun _=>rfl) _ _) ?_)
  go_ret
  exact⟨rfl,rfl⟩
end Go.Proofs.Heir
namespace Go.Proofs.Heir
open Go.Am Go.RowKit Go.Lib Go.Shelf
set_option maxRecDepth 100000
set_option maxHeartbeats 8000000
theorem C8 (b off n c i vb vo vc:Nat)(z:Int)(cs:List Value)(w:World)(hi:i<n)(hnc:n≤c)(hroom:c<n+1)(hn:n≤100000)(hcl:cs.length=n)(hcs:∀j v,cs[j]? =some v→w.cell? ⟨b,off+j,none⟩=some v)(hx:w.cell? ⟨vb,vo,none⟩=some (.int .i64 z))(h1c:∀v∈cs,v.oneCell'=true):
    Calls Tryz.prog 140 #[.slice (some ⟨b,off,none⟩) n c,.int .i64 i,.slice (some ⟨vb,vo,none⟩) 1 vc] w fun e w'=>
      e=.returned (.slice (some ⟨w.heap.size,0,none⟩) (n+1) (grownCap w (n+1) c 3))∧
      w'=(((w.alloc (.cells ((cs.take i).toArray++Builtin.zeroCells (Value.int .i64 0).cells (n+1-i)++Builtin.zeroCells (Value.int .i64 0).cells (grownCap w (n+1) c 3- (n+1))) 3)).drew.setCells w.heap.size i [.int .i64 z]).drew).setCells w.heap.size (i+1) (cs.drop i):=
  Any2.slices_Insert_int_grow Tryz.BI b off n c i vb vo 1 vc cs [.int .i64 z] w hi (by decide) hnc hroom (by omega) hcl rfl hcs (fun j v hj=>by
    cases j with
    |zero=>cases hj;exact hx
    |succ j=>simp at hj) h1c (fun v hv=>by simp at hv;subst hv;rfl)
theorem pT (base:Option Addr)(n c vb vo vc:Nat)(z:Int)(cs:List Value)(w:World)(hnc:n≤c)(hroom:c<n+1)(hn:n≤100000)(hcl:cs.length=n)(hnil:base=none→n=0)(hcs:∀a,base=some a→∀j v,cs[j]? =some v→w.cell? (a.add j)=some v)(hx:w.cell? ⟨vb,vo,none⟩=some (.int .i64 z)):
    Calls Tryz.prog 140 #[.slice base n c,.int .i64 n,.slice (some ⟨vb,vo,none⟩) 1 vc] w fun e w'=>
      e=.returned (.slice (some ⟨w.heap.size,0,none⟩) (n+1) (grownCap w (n+1) c 3))∧
      w'=w.drew.alloc (.cells ((cs++ [Value.int .i64 z]).toArray++Builtin.zeroCells (Value.int .i64 0).cells (grownCap w (n+1) c 3- (n+1))) 3):=
  Any2.slices_Insert_int_end_grow Tryz.BI base n c vb vo 1 vc cs [.int .i64 z] w (by decide) hnc hroom (by omega) hcl rfl hnil hcs (fun j v hj=>by
    cases j with
    |zero=>cases hj;exact hx
    |succ j=>simp at hj) (fun v hv=>by simp at hv;subst hv;rfl)
end Go.Proofs.Heir
namespace Go.Proofs.Heir
open Go.Am Go.RowKit Go.Lib
set_option maxRecDepth 100000
set_option maxHeartbeats 8000000
theorem wO (w:World)(C C':Array Value)(e:TypeId):(w.alloc (.cells C e)).setRow w.heap.size C'=w.alloc (.cells C' e):=by
  unfold World.setRow World.alloc
  congr 1
  apply Array.ext_getElem?
  intro k
  simp only[Array.getElem?_modify,Array.getElem?_push]
  by_cases h:w.heap.size=k
  ·subst h;simp
  · have:¬k=w.heap.size:=fun q=>h q.symm
    simp[h,this]
theorem ni (w:World)(C:Array Value)(e:TypeId)(vs:List Value)(o:Nat)(h:o+vs.length≤C.size):
    ∃C',(w.alloc (.cells C e)).setCells w.heap.size o vs=w.alloc (.cells C' e)∧C'.size=C.size∧∀q,C'[q]? =if o≤q∧q<o+vs.length then vs[q-o]? else C[q]? :=by
  have hb:(w.alloc (.cells C e)).heap[w.heap.size]? =some (.cells C e (0,0)):=by
    show(w.heap.push _)[w.heap.size]? =_
    simp
  obtain⟨C',h1,h2,h3⟩:=fj w.heap.size e (0,0) vs o C (w.alloc (.cells C e)) hb h
  exact⟨C',by rw[h1,wO],h2,h3⟩
end Go.Proofs.Heir
namespace Go.Proofs.Heir
open Go.Am Go.RowKit Go.Lib
set_option maxRecDepth 100000
set_option maxHeartbeats 8000000
set_option maxHeartbeats 4000000
theorem pE {α:Type}(A B:List α)(x:α)(q:Nat):(A++ [x]++B)[q]? =if q<A.length then A[q]? else if q=A.length then some x else B[q- (A.length+1)]? :=by
  rw[List.append_assoc,List.getElem?_append]
  split
  ·rfl
  · rename_i h
    by_cases hq:q=A.length
    ·subst hq;simp
    ·rw[if_neg hq,show[x]++B=x::B from rfl,show q-A.length=(q- (A.length+1))+1 from by omega,List.getElem?_cons_succ]
theorem lW (v:Value)(n:Nat)(hv:v.cells= #[v]):(Builtin.zeroCells v.cells n).size=n:=by simp[Builtin.zeroCells,hv]
theorem tF (l:List Value)(Z:Array Value){q:Nat}(h:q<l.length):(l.toArray++Z)[q]? =l[q]? :=by
  rw[Array.getElem?_append,if_pos (by simpa using h)];simp
theorem tD (w:World)(c:Obj):(w.alloc c).drew=w.drew.alloc c:=rfl
theorem oU {rows:List AV}(hone:kP (flat rows)=true)(i:Nat)(x:Int)(hi:i≤rows.length)(hmany:rows.length≤100000):
    ak Tryz.prog 140 [.live 1 rows false,.live 1 [ah x] false] [.own 0 0 rows.length,ah i,.own 1 0 1] [.dead,.live 1 [ah x] false,.live 1 (rows.take i++ [ah x]++rows.drop i) false] (.own 2 0 (rows.length+1)):=by
  intro w W0 L vs hL hs hr
  obtain⟨v0,v1,v2,rfl⟩:∃v0 v1 v2,vs=[v0,v1,v2]:=by
    have:=hr.1
    match vs,this with
    |[a,b,c],_=>exact⟨a,b,c,rfl⟩
  have h1:=hr.2 1 _ v1 rfl rfl
  cases h1
  have h2:=hr.2 2 _ v2 rfl rfl
  have h0:=hr.2 0 _ v0 rfl rfl
  obtain⟨B,hB,hobj⟩:=hs.objs 0 1 rows false rfl
  obtain⟨B1,hB1,hobj1⟩:=hs.objs 1 1 [ah x] false rfl
  have hwd:=hobj.width
  have hwd1:=hobj1.width
  have hfl:=cM hobj.wide
  have hwide:bG 1 (rows.take i++ [ah x]++rows.drop i):=((hobj.wide.sub fun r hr=>List.mem_of_mem_take hr).append hobj1.wide).append (hobj.wide.sub fun r hr=>List.mem_of_mem_drop hr)
  have hlen:(rows.take i++ [ah x]++rows.drop i).length=rows.length+1:=by simp;omega
  have hfr:flat (rows.take i++ [ah x]++rows.drop i)=(flat rows).take i++ [ah x]++ (flat rows).drop i:=by
    rw[gM,gM,kV hobj.wide,lz hobj.wide];simp[flat,Am.cells]
  cases h2 with
  | @own _ _ _ vc e1 n1 B1' b1 bv bp b2 b3 b4=>
  rw[hB1] at b1;cases b1
  obtain⟨D,e2,fz2,d1,d2,d3⟩:=hobj1.blk bv bp
  rw[d2 rfl] at d1
  rw[hwd1,Nat.zero_mul,Nat.add_zero]
  obtain⟨vx,k1,k2⟩:=hobj1.cell bp 0 (ah x) rfl
  cases k2
  have hx:w.cell? ⟨B1.b,B1.o,none⟩=some (.int .i64 x):=by simpa using k1
  have hfin:∀ (w1:World) (bn on cap:Nat) (sz:Nat) (e:TypeId),rows.length+1≤cap→w1.shape? bn=some (e,sz)→on+cap≤sz→
      cE (Wr W0 (bq L 2 ⟨bn,on,1,false,false⟩) (aG [.dead,.live 1 [ah x] false,.live 1 (rows.take i++ [ah x]++rows.drop i) false])) (bq L 2 ⟨bn,on,1,false,false⟩) w1 (.own 2 0 (rows.length+1)) (.slice (some ⟨bn,on,none⟩) (rows.length+1) cap):=by
    intro w1 bn on cap sz e h1 h2 h3
    have :=cE.own (W:=Wr W0 (bq L 2 ⟨bn,on,1,false,false⟩) (aG [.dead,.live 1 [ah x] false,.live 1 (rows.take i++ [ah x]++rows.drop i) false])) (μ:=bq L 2 ⟨bn,on,1,false,false⟩)
        (w:=w1) (t:=2) (off:=0) (len:=rows.length+1) (cap:=cap) (e:=e) (n:=sz) (B:=⟨bn,on,1,false,false⟩) (by simp[bq]) rfl rfl h1 h2 (by simp only[Nat.zero_add];omega)
    simpa using this
  have hgrown:∀ (k:Nat) (C2:Array Value) (cap:Nat),rows.length+1≤cap→C2.size=cap→
      (∀ (q:Nat) (c:AV),(flat (rows.take i++ [ah x]++rows.drop i))[q]? =some c→∃v,C2[q]? =some v∧cE (Wr W0 L (aG [.live 1 rows false,.live 1 [ah x] false])) L w c v)→
      ∃ μ',cB Tryz.prog 0 w W0 L μ' (bare [.dead,.live 1 [ah x] false,.live 1 (rows.take i++ [ah x]++rows.drop i) false]) iH (({w with drawn:=k}:World).alloc (.cells C2 3))∧
        cE (Wr W0 μ' (aG [.dead,.live 1 [ah x] false,.live 1 (rows.take i++ [ah x]++rows.drop i) false])) μ' (({w with drawn:=k}:World).alloc (.cells C2 3)) (.own 2 0 (rows.length+1)) (.slice (some ⟨w.heap.size,0,none⟩) (rows.length+1) cap):=by
    intro k C2 cap hcap hC2 hcell
    have hal:=(hs.drawn k).alloc (t:=2) (wd:=1) (rows:=rows.take i++ [ah x]++rows.drop i) (C:=C2) (e:=3) rfl hwide (by rw[hlen];omega) (fun q c hc=>by
      obtain⟨v,j1,j2⟩:=hcell q c hc
      exact⟨v,j1,j2.grow (Grow.drawn k)⟩)
    have hdr:=hal.drop (m':=aG [.dead,.live 1 [ah x] false,.live 1 (rows.take i++ [ah x]++rows.drop i) false]) (fun t=>by
      match t with
      |0=>exact .inr (.inl ⟨rfl,by simp[bk,bare,aG]⟩)
      |1=>exact .inl rfl
      |2=>exact .inl rfl
      |t+3=>exact .inl (by simp[bk,bare,aG]))
    exact⟨_,hdr,hfin _ _ _ _ cap 3 hcap (by simp[World.shape?,World.alloc,hC2]) (by omega)⟩
  generalize hn:rows.length=n at h0 hi hmany hlen hfin hgrown hfl
  cases h0 with
  | @ownNil _ _ a B' a1=>
    have hr0:rows=[]:=List.length_eq_zero_iff.1 hn
    have hi0:i=0:=by omega
    subst hi0
    have hge:=grownCap_ge w (0+1) 0 3
    have hf:=pT a 0 0 B1.b B1.o vc x [] w (Nat.le_refl _) (by omega) (by omega) rfl (fun _=>rfl) (fun _ _ j v hj=>by simp at hj) hx
    obtain⟨g,hg⟩:∃g,grownCap w (0+1) 0 3=g:=⟨_,rfl⟩
    rw[hg] at hf hge
    refine hf.mono ?_
    rintro e' w' ⟨rfl,rfl⟩
    obtain⟨μ',g1,g2⟩:=hgrown (w.drawn+1) (([]++ [Value.int .i64 x]).toArray++Builtin.zeroCells (Value.int .i64 0).cells (g- (0+1))) g hge (by
        rw[Array.size_append,lW _ _ rfl];simp;omega) (fun q c hc=>by
        rw[hfr,hr0] at hc
        simp only[flat,List.flatMap_nil,List.take_nil,List.drop_nil,List.nil_append,List.append_nil] at hc
        have hq:q=0:=by have:=(aY hc).1;simp at this;exact this
        subst hq
        cases hc
        exact⟨.int .i64 x,by rw[tF _ _ (by simp)];rfl,.lit⟩)
    exact⟨_,μ',rfl,g1,g2⟩
  | @own _ _ _ cap e' n' B' a1 av ap a2 a3 a4=>
    rw[hB] at a1;cases a1
    obtain⟨C,e,fz,c1,c2,c3⟩:=hobj.blk av ap
    rw[c2 rfl] at c1
    have hn':C.size=n':=by simp[World.shape?,c1] at a3;exact a3.2
    rw[hwd,Nat.zero_mul,Nat.add_zero]
    rw[hwd,Nat.zero_add] at a4
    have hcell:∀ (q:Nat) (c:AV),(flat rows)[q]? =some c→∃v,C[B.o+q]? =some v∧cE (Wr W0 L (aG [.live 1 rows false,.live 1 [ah x] false])) L w c v:=fun q c hq=>by
      obtain⟨v,k1,k2⟩:=hobj.cell ap q c hq
      exact⟨v,by simpa[World.cell?,c1] using k1,k2⟩
    have hne:B1.b≠B.b:=fun h=>hs.inj 1 0 1 [ah x] 1 rows false B1 B (by decide) rfl rfl hB1 hB bv av h
    obtain⟨cs,hcs⟩:∃cs,cs=(C.toList.drop B.o).take n:=⟨_,rfl⟩
    have hcl:cs.length=n:=by rw[hcs];simp;omega
    have hcg:∀j,j<n→cs[j]? =C[B.o+j]? :=fun j hj=>by rw[hcs,List.getElem?_take,if_pos hj,List.getElem?_drop,Array.getElem?_toList]
    have hcr:∀ (q:Nat) (c:AV),(flat rows)[q]? =some c→∃v,cs[q]? =some v∧cE (Wr W0 L (aG [.live 1 rows false,.live 1 [ah x] false])) L w c v:=fun q c hq=>by
      obtain⟨v,k1,k2⟩:=hcell q c hq
      have:=(aY hq).1
      exact⟨v,by rw[hcg q (by omega)];exact k1,k2⟩
    have h1c:∀v∈cs,v.oneCell'=true:=fun v hv=>by
      obtain⟨j,hj⟩:=List.getElem?_of_mem hv
      have hjl:j<n:=by have:=(aY hj).1;omega
      obtain⟨v',k1,k2⟩:=hcr j _ (bD (by omega))
      rw[hj] at k1;cases k1
      exact k2.one (List.all_eq_true.1 hone _ (List.getElem_mem _))
    -- what the new list holds
    have hall:∀ (q:Nat) (c:AV),(flat (rows.take i++ [ah x]++rows.drop i))[q]? =some c→∃v,(cs.take i++ [Value.int .i64 x]++cs.drop i)[q]? =some v∧cE (Wr W0 L (aG [.live 1 rows false,.live 1 [ah x] false])) L w c v:=fun q c hc=>by
      rw[hfr,pE,gh,hfl,Nat.min_eq_left (by omega)] at hc
      rw[pE,gh,hcl,Nat.min_eq_left (by omega)]
      split at hc
      · rename_i hq
        rw[if_pos hq,List.getElem?_take,if_pos hq]
        rw[List.getElem?_take,if_pos hq] at hc
        exact hcr q c hc
      · rename_i hq
        rw[if_neg hq]
        split at hc
        · rename_i hq2
          cases hc
          exact⟨_,by rw[if_pos hq2],.lit⟩
        · rename_i hq2
          rw[if_neg hq2]
          rw[List.getElem?_drop] at hc ⊢
          exact hcr _ c hc
    have hst:(⟨(bare [.live 1 rows false,.live 1 [ah x] false]).slots,bk (bare [.live 1 rows false,.live 1 [ah x] false]).mem [(2,.live 1 (rows.take i++ [ah x]++rows.drop i) false),(0,.dead)]⟩:az)=bare [.dead,.live 1 [ah x] false,.live 1 (rows.take i++ [ah x]++rows.drop i) false]:=by
      unfold bare
      congr 1
      funext t
      match t with
      |0=>rfl
      |1=>rfl
      |2=>rfl
      |t+3=>simp[bk,aG]
    have hplace:∀ (k:Nat) (C2:Array Value),n+1≤cap→C2.size=C.size→(∀q,q<n+1→C2[B.o+q]? =(cs.take i++ [Value.int .i64 x]++cs.drop i)[q]?)→
        ∃μ',cB Tryz.prog 0 w W0 L μ' (bare [.dead,.live 1 [ah x] false,.live 1 (rows.take i++ [ah x]++rows.drop i) false]) iH (({w with drawn:=k}:World).setRow B.b C2)∧
        cE (Wr W0 μ' (aG [.dead,.live 1 [ah x] false,.live 1 (rows.take i++ [ah x]++rows.drop i) false])) μ' (({w with drawn:=k}:World).setRow B.b C2) (.own 2 0 (n+1)) (.slice (some ⟨B.b,B.o,none⟩) (n+1) cap):=by
      intro k C2 hroom hsz hq
      have hre:=(hs.drawn k).reuse (t:=0) (tn:=2) (off:=0) (rows':=rows.take i++ [ah x]++rows.drop i) (C':=C2) rfl hB av rfl c1 hsz hwide (by rw[hlen];omega) (fun q c hc=>by
        obtain⟨v,k1,k2⟩:=hall q c hc
        have hl:q<n+1:=by have:=(aY hc).1;rw[cM hwide,hlen] at this;omega
        refine⟨v,?_,k2.grow (Grow.drawn k)⟩
        rw[Nat.zero_mul,Nat.add_zero,hq q hl];exact k1)
      rw[hst] at hre
      simp only[Nat.zero_mul,Nat.add_zero] at hre
      exact⟨_,hre,hfin _ _ _ cap C.size e hroom (by simp[World.shape?,setRow_heap ({w with drawn:=k}:World) B.b C C2 e (0,0) c1,hsz]) (by omega)⟩
    by_cases hin:i=n
    · subst hin
      have hlist:cs.take i++ [Value.int .i64 x]++cs.drop i=cs++ [Value.int .i64 x]:=by rw[qL (by omega),List.drop_eq_nil_of_le (by omega),List.append_nil]
      by_cases hroom:i+1≤cap
      · refine(ER B.b B.o cap i B1.b B1.o vc x C e w c1 (by omega) hroom hx hmany).mono ?_
        rintro e2 w' ⟨rfl,rfl⟩
        obtain⟨C2,s1,s2,s3⟩:=fj B.b e (0,0) [Value.int .i64 x] (B.o+i) C w c1 (by simp;omega)
        obtain⟨μ',g1,g2⟩:=hplace w.drawn C2 hroom s2 (fun q hq=>by
          rw[s3,hlist,List.getElem?_append,hcl]
          by_cases h:q<i
          ·rw[if_neg (by omega),if_pos h,hcg q h]
          ·rw[if_pos (by simp;omega),if_neg h];congr 1;omega)
        rw[s1]
        exact⟨_,μ',rfl,g1,g2⟩
      · have hge:=grownCap_ge w (i+1) cap 3
        have hf:=pT (some ⟨B.b,B.o,none⟩) i cap B1.b B1.o vc x cs w a2 (by omega) hmany hcl (fun h=>by cases h) (fun a ha j v hj=>by
          cases ha
          have hjl:j<i:=by have:=(aY hj).1;omega
          rw[hcg j hjl] at hj
          rw[Addr.add_lit];simpa[World.cell?,c1] using hj) hx
        obtain⟨g,hg⟩:∃g,grownCap w (i+1) cap 3=g:=⟨_,rfl⟩
        rw[hg] at hf hge
        refine hf.mono ?_
        rintro e2 w' ⟨rfl,rfl⟩
        obtain⟨μ',g1,g2⟩:=hgrown (w.drawn+1) ((cs++ [Value.int .i64 x]).toArray++Builtin.zeroCells (Value.int .i64 0).cells (g- (i+1))) g hge (by
            rw[Array.size_append,lW _ _ rfl];simp[hcl];omega) (fun q c hc=>by
            obtain⟨v,k1,k2⟩:=hall q c hc
            refine⟨v,?_,k2⟩
            rw[hlist] at k1
            have hl:=(aY k1).1
            rw[tF _ _ hl]
            exact k1)
        exact⟨_,μ',rfl,g1,g2⟩
    · have hlt :i<n:=by omega
      have hcd:(cs.drop i).length=n-i:=by rw[List.length_drop,hcl]
      by_cases hroom:n+1≤cap
      · refine (A3 B.b B.o cap n i B1.b B1.o vc x cs C e w c1 (by omega) hroom hlt hx hmany hcl (fun j v hj=>by
            have hjl:j<n:=by have:=(aY hj).1;omega
            rw[hcg j hjl] at hj;exact hj) h1c hne e2 D.size (by simp[World.shape?,d1]) (by simp[World.frozen?,d1]) (by simp[World.frozen?,d1])).mono ?_
        rintro e3 w' ⟨rfl,rfl⟩
        obtain⟨C1,s1,s2,s3⟩:=fj B.b e (0,0) (cs.drop i) (B.o+ (i+1)) C w.drew c1 (by rw[hcd];omega)
        obtain⟨C2,t1,t2,t3⟩:=fj B.b e (0,0) [Value.int .i64 x] (B.o+i) C1 (w.drew.setRow B.b C1) (setRow_heap w.drew B.b C C1 e (0,0) c1) (by simp;omega)
        obtain ⟨μ',g1,g2⟩:=hplace (w.drawn+1) C2 hroom (by rw[t2,s2]) (fun q hq=>by
          rw[t3,pE,gh,hcl,Nat.min_eq_left (by omega)]
          by_cases h:q<i
          ·rw[if_neg (by omega),if_pos h,s3,if_neg (by omega),List.getElem?_take,if_pos h,hcg q (by omega)]
          · rw [if_neg h]
            by_cases h2:q=i
            ·rw[if_pos (by simp;omega),if_pos h2];subst h2;simp
            · rw[if_neg (by simp;omega),if_neg h2,s3,if_pos (by rw[hcd];omega)]
              congr 1;omega)
        rw[s1,t1,setRow_setRow]
        exact⟨_,μ',rfl,g1,g2⟩
      · have hge:=grownCap_ge w (n+1) cap 3
        obtain⟨g,hg⟩:∃g,grownCap w (n+1) cap 3=g:=⟨_,rfl⟩
        have hf:=C8 B.b B.o n cap i B1.b B1.o vc x cs w hlt a2 (by omega) hmany hcl (fun j v hj=>by
            have hjl:j<n:=by have:=(aY hj).1;omega
            rw[hcg j hjl] at hj
            simpa[World.cell?,c1] using hj) hx h1c
        rw[hg] at hf hge
        refine hf.mono ?_
        rintro e3 w' ⟨rfl,rfl⟩
        obtain⟨A,hA⟩:∃A,A=(cs.take i).toArray++Builtin.zeroCells (Value.int .i64 0).cells (n+1-i)++Builtin.zeroCells (Value.int .i64 0).cells (g- (n+1)):=⟨_,rfl⟩
        have hAs:A.size=g:=by rw[hA,Array.size_append,Array.size_append,lW _ _ rfl,lW _ _ rfl];simp[hcl];omega
        rw[←hA,tD]
        obtain⟨C1,s1,s2,s3⟩:=ni w.drew A 3 [Value.int .i64 x] i (by simp;omega)
        have s1':(w.drew.alloc (.cells A 3)).setCells w.heap.size i [Value.int .i64 x]=w.drew.alloc (.cells C1 3):=s1
        rw[s1',tD]
        obtain⟨C2,t1,t2,t3⟩:=ni w.drew.drew C1 3 (cs.drop i) (i+1) (by rw[hcd];omega)
        have t1':(w.drew.drew.alloc (.cells C1 3)).setCells w.heap.size (i+1) (cs.drop i)=w.drew.drew.alloc (.cells C2 3):=t1
        rw[t1']
        obtain ⟨μ',g1,g2⟩:=hgrown (w.drawn+1+1) C2 g hge (by rw[t2,s2,hAs]) (fun q c hc=>by
            obtain⟨v,k1,k2⟩:=hall q c hc
            refine⟨v,?_,k2⟩
            rw[←k1]
            have hl:q<n+1:=by have:=(aY hc).1;rw[cM hwide,hlen] at this;omega
            rw[t3,pE,gh,hcl,Nat.min_eq_left (by omega)]
            by_cases h:q<i
            ·rw[if_neg (by omega),if_pos h,s3,if_neg (by omega),hA,Array.append_assoc,tF _ _ (by rw[gh,hcl];omega)]
            · rw[if_neg h]
              by_cases h2:q=i
              ·rw[if_neg (by omega),if_pos h2,s3,if_pos (by simp;omega)];subst h2;simp
              ·rw[if_pos (by rw[hcd];omega),if_neg h2])
        exact⟨_,μ',rfl,g1,g2⟩
end Go.Proofs.Heir
namespace Go.Proofs.Heir
open Go Go.Am Go.RowKit Go.Lib
set_option maxRecDepth 100000
set_option maxHeartbeats 8000000
@[reducible] def yx (y : ai) (q : AV) : AV := .agg [ah y.kind, bS y.name, bS y.is, bS y.data, cJ y.attrs, ah y.parent, q, ah y.host, ah y.under, ah y.doc]
theorem iy (a ta b tb i:Nat)(y:ai):∃q,∀y':ai,y'.kids=y.kids→dZ a ta b tb i y'=yx y' q:=by
  by_cases h:i=a
  ·exact⟨.own ta 0 y.kids.length,fun y' e=>by unfold dZ;rw[if_pos h,←e];rfl⟩
  · by_cases c:i=b
    ·exact⟨.own tb 0 y.kids.length,fun y' e=>by unfold dZ;rw[if_neg h,if_pos c,←e];rfl⟩
    ·exact⟨cN y.kids,fun y' e=>by unfold dZ;rw[if_neg h,if_neg c,←e];rfl⟩
def js (d:Int)(l:List ai)(k:Nat):List ai:=match l[k]? with
  |some y=>l.set k {y with doc:=d}
  |none=>l
theorem ye (d:Int)(l:List ai)(k:Nat):(js d l k).length=l.length:=by
  unfold js
  split
  ·exact List.length_set ..
  ·rfl
theorem qw (d:Int):∀ (ks:List Nat) (l:List ai),(ks.foldl (js d) l).length=l.length
  |[],_=>rfl
  |k::r,l=>(qw d r (js d l k)).trans (ye d l k)
theorem Du (d:Int)(l:List ai)(k i:Nat)(y:ai)(h:(js d l k)[i]? =some y):∃z,l[i]? =some z∧z.kids=y.kids:=by
  unfold js at h
  split at h
  · rename_i z hz
    rw[List.getElem?_set] at h
    split at h
    · rename_i e
      subst e
      split at h
      ·cases h;exact⟨z,hz,rfl⟩
      ·cases h
    ·exact⟨y,h,rfl⟩
  ·exact⟨y,h,rfl⟩
theorem oK (d:Int):∀ (ks:List Nat) (l:List ai) (i:Nat) (y:ai),(ks.foldl (js d) l)[i]? =some y→∃z,l[i]? =some z∧z.kids=y.kids
  |[],_,_,y,h=>⟨y,h,rfl⟩
  | k::r,l,i,y,h=>by
    obtain⟨z,h1,h2⟩:=oK d r (js d l k) i y h
    obtain⟨z2,h3,h4⟩:=Du d l k i z h1
    exact⟨z2,h3,h4.trans h2⟩
def Be (l:List Nat):List Int:=l.map Int.ofNat
theorem Ih {l:List Nat}{j k:Nat}(h:l[j]? =some k):((Be l).map bU)[j]? =some (ah (k:Int)):=by
  unfold Be
  rw[fI,fI,h];rfl
theorem GI (l:List Nat):(Be l).length=l.length:=bW ..
@[reducible] def w8 (was d : Int) : aJ := ⟨3, 0, was, d, ByteArray.empty, false, false, ByteArray.empty, ByteArray.empty⟩
theorem Jf {l l1 l2:List ai}{m d:Int}{a b n:Nat}{ka kb k1 es ex:List Int}{all:List Nat}{ns n1:List aJ}{y:ai}(hl1:l1.length=l.length)(hy:l1[n]? =some y)(hd:y.doc≠d)(hall:∀k∈all,k<l1.length)(hal:all.length≤1000)(hl2:l2=all.foldl (js d) l1)(hk1:∀y,l1[a]? =some y→y.kids=k1)(hkb:∀y,l1[b]? =some y→y.kids=kb)(he:es.length≤1000)(hn:n1.length≤100000)
    (h161:ak Tryz.prog 79 [aL m l.length 4 (.own 3 0 ns.length),aA ka,aA kb,aN ns,aQ l a 1 b 2] [.ptr 0 0 0,ah n] [aL m l.length 4 (.own 6 0 n1.length),.dead,aA kb,.dead,aQ l1 a 5 b 2,aA k1,aN n1] (.tup []))
    (h104:ak Tryz.prog 82 [] [aM ⟨l1,m⟩,ah n] [aA (Be all)] (.own 0 0 (Be all).length))
    (h191:ak Tryz.prog 34 [] [aM ⟨l2,m⟩,ah n] [aA (es++ex)] (.own 0 0 es.length)):
    ak Tryz.prog 139 [aL m l.length 4 (.own 3 0 ns.length),aA ka,aA kb,aN ns,aQ l a 1 b 2] [.ptr 0 0 0,ah n,ah d]
      [aL m l.length 4 (.own 6 0 (n1.length+es.length)),.dead,aA kb,.dead,aQ l2 a 5 b 2,aA k1,aN (n1++es.map (dX (w8 y.doc d)))] (.tup []):=by
  have hnl:=(aY hy).1
  have hl2l:l2.length=l.length:=by rw[hl2,qw,hl1]
  have t104:=mQ (m:=m) (ex:=[]) (rest:=[ah n]) hk1 hkb (by rw[List.append_nil];exact h104) rfl
  rw[List.append_nil] at t104
  have t164:=rD (m:=m) (n:=n) (ns:=n1) (x:=w8 y.doc d) (fun z hz=>by rw[hl2] at hz;obtain⟨w,h1,h2⟩:=oK d _ _ _ _ hz;rw[←h2];exact hk1 w h1) (fun z hz=>by rw[hl2] at hz;obtain⟨w,h1,h2⟩:=oK d _ _ _ _ hz;rw[←h2];exact hkb w h1) he hn h191
  rw[hl1] at t104
  rw[hl2l] at t164
  obtain⟨q,hq⟩:=iy a 151 b 2 n y
  have g1:(aO l1 a 151 b 2)[n]? =some (yx y q):=by rw[cO hy,hq y rfl]
  have hlr:∀x:List ai,(aO x a 151 b 2).length=x.length:=fun x=>bM
  have hmem:∀ (j:Nat) (k:Nat),all[j]? =some k→k<l1.length:=fun j k h=>hall k (bO h)
  generalize hy0:y.doc=w0 at hd
  obtain⟨y1,y2,y3,y4,y5,y6,y7,y8,y9,y10⟩:=y
  dsimp only at g1 hy0 t164
  subst hy0
  refine ak.eA [(5,151)] (rvs:=[]) G au Tryz.func139 rfl Tryz.ntmps139 rfl rfl ?_;with_reducible refine wD ?_
  (have fct:=hd;(repeat' (first
    |refine gF ?_
    | ((first
      |((with_reducible show af _ _ 79 _ _ _ _);refine af.c7 (news:=[aL m l.length 4 (.own 163 0 n1.length),.dead,aA kb,.dead,aQ l1 a 151 b 2,aA k1,aN n1]) [0,1,2,3,4,151,163] [] h161 J9 ⟨⟨rfl,rfl⟩,rfl,trivial⟩ ⟨⟨rfl,.inr ⟨⟨⟨⟨rfl,rfl⟩,rfl,⟨rfl,rfl⟩,trivial⟩,trivial⟩,rfl⟩⟩,⟨rfl,.inl ⟨rfl,aa _⟩⟩,⟨rfl,.inl ⟨rfl,aa _⟩⟩,⟨rfl,.inl ⟨rfl,aj _⟩⟩,⟨rfl,bI (fun _=>rfl) (fun _=>rfl)⟩,trivial⟩ rfl ⟨⟨rfl,rfl⟩,rfl⟩ rfl ⟨⟨rfl,.inr ⟨rfl,rfl,rfl⟩⟩,⟨rfl,.inl ⟨rfl,aa _⟩⟩,⟨rfl,bB rfl rfl (by decide) (by decide)⟩,⟨rfl,.inl ⟨rfl,aa _⟩⟩,⟨rfl,.inl ⟨rfl,aj _⟩⟩,trivial⟩ rfl rfl ?_)
      |((with_reducible show ee _ _ _ _ _);refine ee.mk n rfl (by first|exact hnl|omega) ?_)
      |((with_reducible show aT _ _ _ _ _);refine aT.mk _ (by first|exact g1|(rw[Nat.zero_add];exact g1)) ?_)
      |((with_reducible show af _ _ 82 _ _ _ _);refine af.c7 (news:=[aQ l1 a 151 b 2,aA k1,aA kb,aA (Be all)]) [4,151,2,171] [] t104 Mh ⟨⟨⟨rfl,rfl⟩,rfl,trivial⟩,rfl,trivial⟩ ⟨⟨rfl,bI (fun _=>rfl) (fun _=>rfl)⟩,⟨rfl,.inl ⟨rfl,aa _⟩⟩,⟨rfl,.inl ⟨rfl,aa _⟩⟩,trivial⟩ rfl ⟨⟨rfl,rfl⟩,rfl⟩ rfl ⟨⟨rfl,bB rfl rfl (by decide) (by decide)⟩,⟨rfl,.inl ⟨rfl,aa _⟩⟩,⟨rfl,.inl ⟨rfl,aa _⟩⟩,⟨rfl,.inl ⟨rfl,aa _⟩⟩,trivial⟩ rfl rfl ?_)
      |((with_reducible show aI _ _ _ _);refine dK ?_))<;>with_reducible refine wK ?_)
    |((with_reducible show(_∧_)∧_∧_);(refine eK ?_ ?_<;>with_reducible repeat' (first|exact trivial|(show _∧_;refine aK ?_ ?_))))));all_goals clear fct)
  refine bX.use G au (fun(j:Nat)=>[(0,.ptr 0 0 0),(1,ah n),(2,ah d),(6,ah y10),(29,.own 171 0 (Be all).length),(30,ah (Be all).length),(31,ah j)])
    (fun j=>[(0,aL m l.length 4 (.own 163 0 n1.length)),(1,.dead),(2,aA kb),(3,.dead),(4,aQ ((all.take j).foldl (js d) l1) a 151 b 2),(163,aN n1),(151,aA k1),(171,aA (Be all))])
    (fun j=>j≤all.length) (fun j=>all.length-j) 0 (Nat.zero_le _) ?_ ?_
  · (refine fK ?_;(with_reducible repeat' (first|exact trivial|(show _∧_;refine aK ?_ ?_)));(all_goals try rfl))
    all_goals first
      |exact⟨.refl (aa _),aa _⟩
      |exact⟨.refl (aj _),aj _⟩
      |exact bu (l:=l1) (fun _=>rfl) (fun _=>rfl)
      |trace_state
  intro j hj
  have hti:=GI all
  with_reducible refine wK ?_
  refine aX.mk (fun h1=>?_) (fun h1=>?_)<;>(try simp only[ay] at h1)<;>with_reducible refine wK ?_
  · have hjl:j<all.length:=by simp only[bH,ay] at h1;omega
    obtain⟨k,hk⟩:∃k,all[j]? =some k:=⟨_,bD hjl⟩
    obtain⟨lj,hlj⟩:∃lj,lj=(all.take j).foldl (js d) l1:=⟨_,rfl⟩
    have hljl:lj.length=l.length:=by rw[hlj,qw,hl1]
    have hkl:k<lj.length:=by have:=hmem j k hk;omega
    obtain⟨z,hz⟩:∃z,lj[k]? =some z:=⟨_,bD hkl⟩
    obtain⟨p,hp⟩:=iy a 151 b 2 k z
    have gz:(aO lj a 151 b 2)[k]? =some (yx z p):=by rw[cO hz,hp z rfl]
    have hnext:(all.take (j+1)).foldl (js d) l1=lj.set k {z with doc:=d}:=by
      rw[List.take_add_one,hk,List.foldl_append,←hlj]
      show js d lj k=_
      unfold js;rw[hz]
    have hrow:(aO lj a 151 b 2).set (0+k) (yx {z with doc:=d} p)=aO ((all.take (j+1)).foldl (js d) l1) a 151 b 2:=by
      rw[hnext,Nat.zero_add,←hp {z with doc:=d} rfl,rm _ hkl]
    have hkr:k< (aO lj a 151 b 2).length:=by rw[bM];exact hkl
    have hge:=Ih hk
    rw[←hlj]
    obtain⟨z1,z2,z3,z4,z5,z6,z7,z8,z9,z10⟩:=z
    repeat' (first
    |refine gK ?_
    | ((first
      |((with_reducible show ee _ _ _ _ _);first|refine ee.mk j rfl (by first|omega|(simp;omega)) ?_|refine ee.mk k rfl (by first|exact hkl|omega) ?_)
      |((with_reducible show aT _ _ _ _ _);first|refine aT.mk (ah (k:Int)) (by first|exact hge|(rw[Nat.zero_add];exact hge)) ?_|refine aT.mk _ (by first|exact gz|(rw[Nat.zero_add];exact gz)) ?_)
      |((with_reducible show aI _ _ _ _);refine dK ?_))<;>with_reducible refine wK ?_)
    |((with_reducible show(_∧_)∧_∧_);(refine eK ?_ ?_<;>with_reducible repeat' (first|exact trivial|(show _∧_;refine aK ?_ ?_)))))
    refine bR.mk (j+1) (by omega) (by omega) ?_
    (refine fK ?_;(with_reducible repeat' (first|exact trivial|(show _∧_;refine aK ?_ ?_)));(all_goals try rfl))
    all_goals first
      |exact⟨.refl (aa _),aa _⟩
      |exact⟨.refl (aj _),aj _⟩
      |exact cast (congrArg (gb _ _) hrow.symm) (bu (fun _=>rfl) (fun _=>rfl))
      |trace_state
  · have hjl:j=all.length:=by simp only[cR,ay] at h1;omega
    subst hjl
    obtain rfl:l2=(all.take all.length).foldl (js d) l1:=by rw[List.take_length];exact hl2
    repeat' (first
    |refine gK ?_
    | ((first
      |((with_reducible show af _ _ 141 _ _ _ _);refine af.c7 (news:=[aL m l.length 4 (.own 173 0 (n1.length+es.length)),aA k1,aA kb,.dead,aQ ((all.take all.length).foldl (js d) l1) a 151 b 2,aN (n1++es.map (dX (w8 y10 d)))]) [0,151,2,163,4,173] [] t164 Ct ⟨⟨rfl,rfl⟩,rfl,⟨rfl,rfl,rfl,rfl,rfl,rfl,rfl,rfl,rfl,trivial⟩,trivial⟩ ⟨⟨rfl,.inr ⟨⟨⟨⟨rfl,rfl⟩,rfl,⟨rfl,rfl⟩,trivial⟩,trivial⟩,rfl⟩⟩,⟨rfl,.inl ⟨rfl,aa _⟩⟩,⟨rfl,.inl ⟨rfl,aa _⟩⟩,⟨rfl,.inl ⟨rfl,aj _⟩⟩,⟨rfl,bI (fun _=>rfl) (fun _=>rfl)⟩,trivial⟩ rfl ⟨⟨rfl,rfl⟩,rfl⟩ rfl ⟨⟨rfl,.inr ⟨rfl,rfl,rfl⟩⟩,⟨rfl,.inl ⟨rfl,aa _⟩⟩,⟨rfl,.inl ⟨rfl,aa _⟩⟩,⟨rfl,bB rfl rfl (by decide) (by decide)⟩,⟨rfl,.inl ⟨rfl,aj _⟩⟩,trivial⟩ rfl rfl ?_)
      |((with_reducible show aI _ _ _ _);refine dK ?_))<;>with_reducible refine wK ?_)
    |((with_reducible show(_∧_)∧_∧_);(refine eK ?_ ?_<;>with_reducible repeat' (first|exact trivial|(show _∧_;refine aK ?_ ?_)))))
    all_goals first
      |exact⟨.refl (aa _),aa _⟩
      |exact⟨.refl (aj _),aj _⟩
      |exact bu (fun _=>rfl) (fun _=>rfl)
      |(simp;done)
      |trace_state
theorem Dd {l l1:List ai}{m d:Int}{a b n:Nat}{ka kb k1:List Int}{ns n1:List aJ}{y:ai}(hl1:l1.length=l.length)(hy:l1[n]? =some y)(hd:y.doc=d)
    (h161:ak Tryz.prog 79 [aL m l.length 4 (.own 3 0 ns.length),aA ka,aA kb,aN ns,aQ l a 1 b 2] [.ptr 0 0 0,ah n] [aL m l.length 4 (.own 6 0 n1.length),.dead,aA kb,.dead,aQ l1 a 5 b 2,aA k1,aN n1] (.tup [])):
    ak Tryz.prog 139 [aL m l.length 4 (.own 3 0 ns.length),aA ka,aA kb,aN ns,aQ l a 1 b 2] [.ptr 0 0 0,ah n,ah d]
      [aL m l.length 4 (.own 6 0 n1.length),.dead,aA kb,.dead,aQ l1 a 5 b 2,aA k1,aN n1] (.tup []):=by
  have hnl:=(aY hy).1
  obtain⟨q,hq⟩:=iy a 151 b 2 n y
  have g1:(aO l1 a 151 b 2)[n]? =some (yx y q):=by rw[cO hy,hq y rfl]
  have hlr:∀x:List ai,(aO x a 151 b 2).length=x.length:=fun x=>bM
  obtain⟨y1,y2,y3,y4,y5,y6,y7,y8,y9,y10⟩:=y
  dsimp only at g1 hd
  subst hd
  refine ak.eA [(5,151)] (rvs:=[]) G au Tryz.func139 rfl Tryz.ntmps139 rfl rfl ?_;with_reducible refine wD ?_
  repeat' (first
    |refine gK ?_
    | ((first
      |((with_reducible show af _ _ 79 _ _ _ _);refine af.c7 (news:=[aL m l.length 4 (.own 163 0 n1.length),.dead,aA kb,.dead,aQ l1 a 151 b 2,aA k1,aN n1]) [0,1,2,3,4,151,163] [] h161 J9 ⟨⟨rfl,rfl⟩,rfl,trivial⟩ ⟨⟨rfl,.inr ⟨⟨⟨⟨rfl,rfl⟩,rfl,⟨rfl,rfl⟩,trivial⟩,trivial⟩,rfl⟩⟩,⟨rfl,.inl ⟨rfl,aa _⟩⟩,⟨rfl,.inl ⟨rfl,aa _⟩⟩,⟨rfl,.inl ⟨rfl,aj _⟩⟩,⟨rfl,bI (fun _=>rfl) (fun _=>rfl)⟩,trivial⟩ rfl ⟨⟨rfl,rfl⟩,rfl⟩ rfl ⟨⟨rfl,.inr ⟨rfl,rfl,rfl⟩⟩,⟨rfl,.inl ⟨rfl,aa _⟩⟩,⟨rfl,bB rfl rfl (by decide) (by decide)⟩,⟨rfl,.inl ⟨rfl,aa _⟩⟩,⟨rfl,.inl ⟨rfl,aj _⟩⟩,trivial⟩ rfl rfl ?_)
      |((with_reducible show ee _ _ _ _ _);refine ee.mk n rfl (by first|exact hnl|omega) ?_)
      |((with_reducible show aT _ _ _ _ _);refine aT.mk _ (by first|exact g1|(rw[Nat.zero_add];exact g1)) ?_)
      |((with_reducible show aI _ _ _ _);refine dK ?_))<;>with_reducible refine wK ?_)
    |((with_reducible show(_∧_)∧_∧_);(refine eK ?_ ?_<;>with_reducible repeat' (first|exact trivial|(show _∧_;refine aK ?_ ?_)))))
  all_goals first
    |exact⟨.refl (aa _),aa _⟩
    |exact⟨.refl (aj _),aj _⟩
    |exact bu (fun _=>rfl) (fun _=>rfl)
    |trace_state
theorem CS {cs:List Int}{b:Int}{i:Nat}(h:cs[i]? =some b)(hno:∀ (j:Nat) x,j<i→cs[j]? =some x→x≠b):fU (fun x=>decide (x=b)) cs=i:=
  fJ h (dJ rfl) fun j x hj hx=>dx (hno j x hj hx)
theorem Ak (f:ForM)(n:Int)(what:ByteArray)(e:Int)(r:ForM)(ns:List aJ)(z:Int)(h77:ak Tryz.prog 77 [] [aM f,ah n] [] (.lit (gI what e)))
    (h56:ak Tryz.prog 56 [] [aM f,.lit (gI what e),.clo (.func 78) [] [.fptr (ah n) 0]] [] (.tup [aM r,lE ns,ah z])):ak Tryz.prog 32 [] [aM f,ah n] [] (.tup [aM r,lE ns,ah z]):=by
  obtain⟨l,m⟩:=f
  obtain⟨l',m'⟩:=r
  refine ak.aD (rvs:=[.cell 4 24,.tmp 5,.tmp 6]) G au Tryz.func32 rfl Tryz.ntmps32 rfl rfl ?_;with_reducible refine wD ?_
  repeat' (first
    |refine gK ?_
    | ((first
      |((with_reducible show af _ _ 77 _ _ _ _);refine af.lit [] h77 Ka ⟨⟨rfl,rfl,trivial⟩,rfl,trivial⟩ rfl rfl ?_)
      |((with_reducible show af _ _ 56 _ _ _ _);refine af.val [30] h56 D3 ⟨⟨rfl,rfl,trivial⟩,⟨rfl,rfl⟩,⟨rfl,trivial,⟨_,_,_,_,_,rfl,rfl,rfl,rfl,rfl,rfl⟩,trivial⟩,trivial⟩ rfl rfl rfl ?_)
      |((with_reducible show aI _ _ _ _);refine dK ?_))<;>with_reducible refine wK ?_)
    |((with_reducible show(_∧_)∧_∧_);(refine eK ?_ ?_<;>with_reducible repeat' (first|exact trivial|(show _∧_;refine aK ?_ ?_)))))
  all_goals first|rfl|trace_state
theorem Bc (f:ForM)(n:Int)(r:ForM)(ns:List aJ)(z:Int)(h77:ak Tryz.prog 77 [] [aM f,ah n] [] eF)
    (h56:ak Tryz.prog 56 [] [aM f,eF,.clo (.func 78) [] [.fptr (ah n) 0]] [] (.tup [aM r,lE ns,ah z])):ak Tryz.prog 32 [] [aM f,ah n] [] (.tup [aM r,lE ns,ah z]):=by
  obtain⟨l,m⟩:=f
  obtain⟨l',m'⟩:=r
  refine ak.aD (rvs:=[.cell 4 24,.tmp 5,.tmp 6]) G au Tryz.func32 rfl Tryz.ntmps32 rfl rfl ?_;with_reducible refine wD ?_
  repeat' (first
    |refine gK ?_
    | ((first
      |((with_reducible show af _ _ 77 _ _ _ _);refine af.lit [] h77 Ka ⟨⟨rfl,rfl,trivial⟩,rfl,trivial⟩ rfl rfl ?_)
      |((with_reducible show af _ _ 56 _ _ _ _);refine af.val [30] h56 D3 ⟨⟨rfl,rfl,trivial⟩,⟨rfl,rfl⟩,⟨rfl,trivial,⟨_,_,_,_,_,rfl,rfl,rfl,rfl,rfl,rfl⟩,trivial⟩,trivial⟩ rfl rfl rfl ?_)
      |((with_reducible show aI _ _ _ _);refine dK ?_))<;>with_reducible refine wK ?_)
    |((with_reducible show(_∧_)∧_∧_);(refine eK ?_ ?_<;>with_reducible repeat' (first|exact trivial|(show _∧_;refine aK ?_ ?_)))))
  all_goals first|rfl|trace_state
theorem iV (l:List ai)(m:Int)(R:RF l m){n:Int}(hn:ae l n=true)(x:aJ):ig l n x=(zl ⟨l,m⟩ n).map (dX x):=by
  unfold ig zl A9 jI lX dX
  rw[if_pos (by rw[ck.2 R,hn];rfl)]
  simp
theorem Hy (l:List ai)(m:Int)(R:RF l m)(hl:l.length≤64)(n:Int)(hn:ae l n=true):(lX ⟨l,m⟩ n).length≤1000∧(zl ⟨l,m⟩ n).length≤1000:=by
  have h:(lX ⟨l,m⟩ n).length≤1000:=by
    unfold lX
    rw[if_pos (by rw[ck.2 R,hn];rfl)]
    have:=U.sA R.tree l.length hn
    show(U.bT l l.length n).length≤1000
    omega
  exact⟨h,Nat.le_trans (List.length_filter_le ..) h⟩
theorem AW (f:ForM)(hs:bw f.nodes)(n:Int):ak Tryz.prog 32 [] [aM f,ah n] [] (.tup [aM (dD f n).1,lE (dD f n).2.1,ah (dD f n).2.2]):=by
  cases hrt:(bt f&&ae f.nodes n) with
  | false=>
    have e:dD f n=(f,[],1):=by unfold dD;rw[hrt];rfl
    rw[e]
    exact Ak f n lM 1 f [] 1 (yo f hs n hrt) (j5 f hs 78 _ lM 1)
  | true =>
    simp only[bN] at hrt
    obtain⟨hr,ht⟩:=hrt
    obtain⟨b,y,rfl,hy,_⟩:=aU.1 ht
    obtain⟨l,m⟩:=f
    have R:RF l m:=ck.1 hr
    have hnd:=cU hy
    by_cases hp:y.parent=-1
    · have e:=o3 R ht (by rw[hnd];exact hp)
      rw[e]
      exact yX ⟨l,m⟩ hs hr b y hy hp
    · have hq:=R.par b ht (by rw[hnd];exact hp)
      rw[hnd] at hq
      have e:=sS R ht (by rw[hnd];exact hp)
      rw[e]
      obtain⟨a,ya,hpa,ha,_⟩:=aU.1 hq.2.1
      rw[hpa] at hq hp
      have hnda:=cU ha
      have hmem:(b:Int)∈ya.kids:=by
        have:=hq.2.2.2
        rwa [hnda] at this
      have hab:b≠a:=by
        intro e
        have h1:=R.jK ht
        rw[R.fE ht (by rw[hnd,hpa];exact hp),hnd,hpa,e] at h1
        exact h1 rfl
      obtain⟨i,hi,hib,hno,_,_,her⟩:=lC hmem
      have hs64:l.length≤64:=hs.len
      have hkl:ya.kids.length≤60:=hs.kids ya (bO ha)
      have hel:=Hy l m R hs64 b ht
      have h35:=EV ⟨l,m⟩ hs b
      rw[show DJ ⟨l,m⟩ b=ei l b by unfold DJ ei;rw[hr,ht];rfl] at h35
      have h34:=Bi ⟨l,m⟩ hs b (by rw[hr,ht];rfl) (by omega)
      have h73:=qu ya.kids (by omega) b
      rw[fJ hib (dJ rfl) fun j x hj hx=>dx (hno j x hj hx)] at h73
      have h145:=tN (rows:=ya.kids.map bU) (mG ya.kids) i (i+1) (by omega) (by simp;omega)
      rw[bW,←List.map_take,←List.map_drop,←iq,show i+ (ya.kids.length- (i+1))=(ya.kids.take i++ya.kids.drop (i+1)).length by simp;omega] at h145
      have hto:(if ei l b=true then ig l b (fM 2 0 0) else[])=(if ei l b=true then(zl ⟨l,m⟩ b).map (dX mq) else[]):=by
        rw[iV l m R ht];rfl
      have h79:=Il (l:=l) (m:=m) (a:=a) (b:=b) (i:=i) (ns:=[]) (told:=if ei l b=true then(zl ⟨l,m⟩ b).map (dX mq) else[]) rfl (by omega) ha (kb:=y.kids) (fun z hz=>by rw[hy] at hz;cases hz;rfl) hy hab rfl hpa hi (by omega) hel.2 (by simp) h35 h34 h73 h145
      have hout:aZ l b=(l.set a {ya with kids:=ya.kids.take i++ya.kids.drop (i+1)}).set b {y with parent:=-1}:=by
        unfold aZ
        rw[hnd,if_neg (by rw[hpa];exact hp)]
        unfold nZ
        rw[hpa,hnda]
        dsimp only
        rw[her,Int.toNat_natCast,Int.toNat_natCast]
        congr 1
        have:nd (l.set a {ya with kids:=ya.kids.take i++ya.kids.drop (i+1)}) b=y:=cU (by rw[List.getElem?_set,if_neg (fun e=>hab e.symm)];exact hy)
        rw[this]
      rw[hto,hout]
      have hlen:((l.set a {ya with kids:=ya.kids.take i++ya.kids.drop (i+1)}).set b {y with parent:=-1}).length=l.length:=by simp
      generalize(if ei l b=true then(zl ⟨l,m⟩ b).map (dX mq) else[])=told at h79 ⊢
      have hA:∀z,((l.set a {ya with kids:=ya.kids.take i++ya.kids.drop (i+1)}).set b {y with parent:=-1})[a]? =some z→z.kids=ya.kids.take i++ya.kids.drop (i+1):=fun z hz=>by
        rw[List.getElem?_set,if_neg hab,List.getElem?_set,if_pos rfl,if_pos (aY ha).1] at hz
        cases hz;rfl
      have hB:∀z,((l.set a {ya with kids:=ya.kids.take i++ya.kids.drop (i+1)}).set b {y with parent:=-1})[b]? =some z→z.kids=y.kids:=fun z hz=>by
        rw[List.getElem?_set,if_pos rfl,if_pos (by rw[List.length_set];exact(aY hy).1)] at hz
        cases hz;rfl
      exact Bc ⟨l,m⟩ b _ _ 0 (nQ ⟨l,m⟩ hs b (by rw[hr,ht];rfl))
        (J2 ⟨l,m⟩ hs (fun e=>hab e.symm) ha hy 78 Mq [.fptr (ah b) 0] rfl _ _ told hlen hA hB
          (zu (show l.length≤1000 by omega) hy (by rw[hpa];exact hp) hlen h79 hab))
@[reducible] def lp : aJ := ⟨1, 0, 0, 0, ByteArray.empty, false, false, ByteArray.empty, ByteArray.empty⟩
section
variable {l : List ai} {a b ta tb i : Nat}
theorem rN {tb':Nat}(y':ai)(hb:b<l.length)(hab:b≠a):(aO l a ta b tb).set b (dF y' tb')=aO (l.set b y') a ta b tb':=by
  apply List.ext_getElem?
  intro j
  unfold aO
  rw[List.getElem?_set,List.getElem?_mapIdx,List.getElem?_mapIdx,List.getElem?_set,List.length_mapIdx]
  by_cases e:b=j
  · subst e
    rw[if_pos rfl,if_pos rfl,if_pos hb,if_pos hb]
    show _=some (dZ a ta b tb' b y')
    unfold dZ
    rw[if_neg hab,if_pos rfl]
  · rw [if_neg e,if_neg e]
    cases h:l[j]? with
    |none=>rfl
    | some z=>
      show some (dZ a ta b tb j z)=some (dZ a ta b tb' j z)
      unfold dZ
      rw[if_neg (show ¬j=b from fun q=>e q.symm),if_neg (show ¬j=b from fun q=>e q.symm)]
end
def Ay (m:Int)(L a b:Nat)(before:Int)(l:List ai)(ns:List aJ)(ka kb:List Int)(k':Int)(l':List ai)(ns':List aJ)(ka' kb':List Int):Prop:=
  ∃ (k:Nat),k'=(k:Int)∧∃ (y0 y1 yk:ai) (l1:List ai) (n1:List aJ) (k1:List Int) (i:Nat) (conn:Bool) (es ex:List Int),
    l.length=L∧l1.length=L∧l[b]? =some y0∧
    ak Tryz.prog 139 [aL m L 4 (.own 3 0 ns.length),aA ka,aA kb,aN ns,aQ l a 1 b 2] [.ptr 0 0 0,ah k,ah y0.doc] [aL m L 4 (.own 6 0 n1.length),.dead,aA kb,.dead,aQ l1 a 5 b 2,aA k1,aN n1] (.tup [])∧
    l1[b]? =some y1∧l1[k]? =some yk∧kb=y1.kids∧i≤y1.kids.length∧(before=-1→i=y1.kids.length)∧(before≠-1→ak Tryz.prog 73 [] [cN y1.kids,ah before] [] (ah i))∧y1.kids.length≤1000∧
    l'=(l1.set b {y1 with kids:=y1.kids.take i++ [(k:Int)]++y1.kids.drop i}).set k {yk with parent:=(b:Int)}∧(k≠b∧k≠a)∧(∀y,l'[a]? =some y→y.kids=ka')∧(∀y,l'[b]? =some y→y.kids=kb')∧
    ka'=k1∧kb'=y1.kids.take i++ [(k:Int)]++y1.kids.drop i∧
    ak Tryz.prog 35 [] [aM ⟨l',m⟩,ah k] [] (bC conn)∧ak Tryz.prog 34 [] [aM ⟨l',m⟩,ah k] [aA (es++ex)] (.own 0 0 es.length)∧
    ns'=n1++ (if conn=true then es.map (dX lp) else[])∧n1.length≤100000∧es.length≤1000
def FJ (m:Int)(L a b:Nat)(before:Int)(l:List ai)(ns:List aJ)(ka kb:List Int)(k':Int)(l':List ai)(ns':List aJ)(ka' kb':List Int):Prop:=
  ∃ (k:Nat),k'=(k:Int)∧∃ (y0 y1 yk:ai) (l1:List ai) (n1:List aJ) (k1:List Int) (i:Nat) (conn:Bool) (es ex:List Int),
    l.length=L∧l1.length=L∧l[a]? =some y0∧
    ak Tryz.prog 139 [aL m L 4 (.own 3 0 ns.length),aA ka,aA kb,aN ns,aQ l a 1 b 2] [.ptr 0 0 0,ah k,ah y0.doc] [aL m L 4 (.own 6 0 n1.length),.dead,aA kb,.dead,aQ l1 a 5 b 2,aA k1,aN n1] (.tup [])∧
    l1[a]? =some y1∧l1[k]? =some yk∧k1=y1.kids∧i≤y1.kids.length∧(before=-1→i=y1.kids.length)∧(before≠-1→ak Tryz.prog 73 [] [cN y1.kids,ah before] [] (ah i))∧y1.kids.length≤1000∧
    l'=(l1.set a {y1 with kids:=y1.kids.take i++ [(k:Int)]++y1.kids.drop i}).set k {yk with parent:=(a:Int)}∧k=b∧(∀y,l'[a]? =some y→y.kids=ka')∧(∀y,l'[b]? =some y→y.kids=kb')∧
    ka'=y1.kids.take i++ [(k:Int)]++y1.kids.drop i∧kb'=kb∧
    ak Tryz.prog 35 [] [aM ⟨l',m⟩,ah k] [] (bC conn)∧ak Tryz.prog 34 [] [aM ⟨l',m⟩,ah k] [aA (es++ex)] (.own 0 0 es.length)∧
    ns'=n1++ (if conn=true then es.map (dX lp) else[])∧n1.length≤100000∧es.length≤1000
end Go.Proofs.Heir
