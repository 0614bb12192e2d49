/- Models, plain laws and contracts of functions of the given program; conditions as stated in each theorem. By an AI agent. -/
import Derived.Test.YtkhjcnjicjgfiaaGreatDoorW28
import Derived.Test.YtkhjcnjicjgfiaaGreatDoorW26
import Derived.Test.YtkhjcnjicjgfiaaGreatDoorW29
import Derived.Test.YtkhjcnjicjgfiaaGreatDoorW16
import Derived.Test.YtkhjcnjicjgfiaaGreatDoorW23
import Derived.Test.YtkhjcnjicjgfiaaGreatDoorW25
import Derived.Test.YtkhjcnjicjgfiaaGreatDoorW20
import Derived.Test.YtkhjcnjicjgfiaaGreatDoorW24
import Derived.Test.YtkhjcnjicjgfiaaGreatDoorW11
set_option linter.unusedSimpArgs false
set_option linter.unusedVariables false
namespace Go.Proofs.Heir
open Go Go.Am Go.RowKit Go.Lib
set_option maxRecDepth 100000
set_option maxHeartbeats 8000000
theorem DG (l:List Int):jT [iv l]:=⟨bS.jj fun r hr=>by
  obtain⟨a,_,rfl⟩:=List.mem_map.1 hr
  rfl,aa l,trivial⟩
def yW (f:ForM)(n:Int):List Int:=jZ (fun c=> !decide ((nd f.nodes c).kind=1)) (lX f n)
def Ms (f:ForM)(n:Int):List Int:=List.replicate ((lX f n).length- (yW f n).length) 0
theorem Cj (f:ForM)(hs:bq f.nodes)(n:Int)(e0:(bC f&&af f.nodes n)=true)(hl:(lX f n).length≤100000):aj Tryz.prog 34 [] [aN f,ah n] [.live 1 ((yW f n++Ms f n).map bJ) false] (.own 0 0 (yW f n).length):=by
  have h82:=Bz f hs n e0
  have h81:=HH (f:=f) (p:=fun c=> !decide ((nd f.nodes c).kind=1)) hl fun a ha=>Jq f a (uo a ha)
  unfold Ms
  rw[show jZ (fun c=> !decide ((nd f.nodes c).kind=1)) (lX f n)=yW f n from rfl] at h81
  generalize lX f n=al at h82 h81 ⊢
  generalize yW f n=el at h81 ⊢
  obtain⟨l,m⟩:=f
  refine aj.aA (rvs:=[.tmp 4]) G ak Tryz.func34 rfl Tryz.ntmps34 rfl rfl ?_;with_reducible refine wD ?_
  repeat' (first
    |refine gK ?_
    | ((first
      |((with_reducible show ae _ _ 82 _ _ _ _);refine ae.new 71 [] h82 Nd ⟨⟨rfl,rfl,trivial⟩,rfl,trivial⟩ rfl rfl rfl (DG _) rfl ?_)
      |((with_reducible show ae _ _ 81 _ _ _ _);refine ae.dy (news:=[lM ⟨l,m⟩,iv (el++List.replicate (al.length-el.length) 0)]) [20,71] [] h81 Nj ⟨⟨rfl,rfl⟩,⟨rfl,trivial,⟨rfl,rfl⟩,trivial⟩,trivial⟩ ⟨⟨rfl,.inl ⟨rfl,rfl⟩⟩,⟨rfl,.inl ⟨rfl,aa _⟩⟩,trivial⟩ rfl ⟨⟨rfl,rfl⟩,rfl⟩ rfl ⟨⟨rfl,.inl ⟨rfl,rfl⟩⟩,⟨rfl,.inl ⟨rfl,aa _⟩⟩,trivial⟩ rfl rfl ?_)
      |((with_reducible show aB _ _ _ _);refine dK ?_))<;>with_reducible refine wK ?_)
    |((with_reducible show(_∧_)∧_∧_);(refine eK ?_ ?_<;>with_reducible repeat' (first|exact trivial|(show _∧_;refine aK ?_ ?_)))))
  all_goals first
    |rfl
    |exact Gb rfl
    |exact⟨.refl (aa _),aa _⟩
    |trace_state
@[reducible] def Fj : ByteArray := ⟨#[111, 117, 116]⟩
theorem xC (l:List ai)(m:Int)(hs:bq l)(k:Nat)(y:ai)(hy:l[k]? =some y)(hp:y.parent=-1):
    aj Tryz.prog 78 [aT m l.length 1 lF,ef l] [.ptr 0 0 0,.fptr (ah k) 0] [aT m l.length 1 lF,ef l] (.lit (iV Fj 6)):=by
  have hkl:k<l.length:=(aZ hy).1
  have hlm:(l.map bM).length=l.length:=bP ..
  have h60:=lE Fj 6 (by decide)
  obtain⟨y1,y2,y3,y4,y5,y6,y7,y8,y9,y10⟩:=y
  simp only at hp
  have hp':=eq_true hp
  refine aj.fW [] (rvs:=[.tmp 3]) G ak Tryz.func78 rfl Tryz.ntmps78 rfl rfl ?_;with_reducible refine wD ?_
  (have fct:=And.intro hlm (hp');(repeat' (first
    |refine gF ?_
    | ((first
      |((with_reducible show fM _ _ _ _ _);refine fM.mk k rfl hkl ?_)
      |((with_reducible show bu _ _ _ _ _);refine bu.mk (aG ⟨y1,y2,y3,y4,y5,y6,y7,y8,y9,y10⟩) (by first|exact az hy|(rw[Nat.zero_add];exact az hy)) ?_)
      |((with_reducible show ae _ _ 60 _ _ _ _);refine ae.lit [] h60 Gv ⟨rfl,rfl,trivial⟩ rfl rfl ?_)
      |((with_reducible show aB _ _ _ _);refine dK ?_))<;>with_reducible refine wK ?_)
    |((with_reducible show(_∧_)∧_∧_);(refine eK ?_ ?_<;>with_reducible repeat' (first|exact trivial|(show _∧_;refine aK ?_ ?_))))));all_goals clear fct)
  all_goals first
    |rfl
    |exact⟨.refl rfl,rfl⟩
    |exact(.inl rfl:rY _)
    |exact⟨.refl (aQ _),aQ _⟩
    |trace_state
theorem zE (f:ForM)(hs:bq f.nodes)(hr:bC f=true)(k:Nat)(y:ai)(hy:f.nodes[k]? =some y)(hp:y.parent=-1):aj Tryz.prog 32 [] [aN f,ah k] [] (.tup [aN f,mD [],ah 6]):=by
  have h77:=nG f hs k (by rw[hr,fR hy];rfl)
  have h56:=zT f hs 78 M6 [.fptr (ah k) 0] rfl Fj 6 (xC f.nodes f.most hs k y hy hp)
  obtain⟨l,m⟩:=f
  have hn:=bN ⟨l,m⟩ [] 6
  refine aj.aA (rvs:=[.cell 4 24,.tmp 5,.tmp 6]) G ak Tryz.func32 rfl Tryz.ntmps32 rfl rfl ?_;with_reducible refine wD ?_
  repeat' (first
    |refine gK ?_
    | ((first
      |((with_reducible show ae _ _ 77 _ _ _ _);refine ae.lit [] h77 KS ⟨⟨rfl,rfl,trivial⟩,rfl,trivial⟩ rfl rfl ?_)
      |((with_reducible show ae _ _ 56 _ _ _ _);refine ae.val [30] h56 HA ⟨⟨rfl,rfl,trivial⟩,⟨rfl,rfl⟩,⟨rfl,trivial,⟨_,_,_,_,_,rfl,rfl,rfl,rfl,rfl,rfl⟩,trivial⟩,trivial⟩ rfl rfl hn ?_)
      |((with_reducible show aB _ _ _ _);refine dK ?_))<;>with_reducible refine wK ?_)
    |((with_reducible show(_∧_)∧_∧_);(refine eK ?_ ?_<;>with_reducible repeat' (first|exact trivial|(show _∧_;refine aK ?_ ?_)))))
  all_goals first|rfl|trace_state
theorem yl {l:List ai}{m:Int}{a b:Nat}{ka kb k2:List Int}{y:ai}{told:List aO}{l':List ai}(hL:l.length≤1000)(hy:l[b]? =some y)(hp:y.parent≠-1)(hlen:l'.length=l.length)
    (h79:aj Tryz.prog 79 [aT m l.length 4 (.own 3 0 0),aF ka,aF kb,aU [],aV l a 1 b 2] [.ptr 0 0 0,ah b]
      [aT m l.length 4 (.own 6 0 told.length),.dead,aF kb,.dead,aV l' a 5 b 2,aF k2,aU told] (.tup [])) (hab:b≠a):
    aj Tryz.prog 78 [aT m l.length 4 (.own 3 0 0),aF ka,aF kb,aU [],aV l a 1 b 2] [.ptr 0 0 0,.fptr (ah b) 0]
      [aT m l.length 4 (.own 6 0 told.length),.dead,aF kb,.dead,aV l' a 5 b 2,aF k2,aU told] gq:=by
  have hbl:=(aZ hy).1
  have g2:(aR l a 1 b 2)[b]? =some (ei y 2):=tJ hy hab
  have hlr:(aR l a 1 b 2).length=l.length:=ck
  obtain⟨y1,y2,y3,y4,y5,y6,y7,y8,y9,y10⟩:=y
  simp only at hp
  have hp':=eq_false hp
  refine aj.fW [(5,151),(6,163)] (rvs:=[.tmp 3]) G ak Tryz.func78 rfl Tryz.ntmps78 rfl rfl ?_;with_reducible refine wD ?_
  (have fct:=hp';(repeat' (first
    |refine gF ?_
    | ((first
      |((with_reducible show fM _ _ _ _ _);refine fM.mk b rfl (by first|exact hbl|(simp;omega)) ?_)
      |((with_reducible show bu _ _ _ _ _);refine bu.mk _ (by first|exact g2|(rw[Nat.zero_add];exact g2)) ?_)
      |((with_reducible show ae _ _ 79 _ _ _ _);refine ae.dy (news:=[aT m l.length 4 (.own 163 0 told.length),.dead,aF kb,.dead,aV l' a 151 b 2,aF k2,aU told]) [0,1,2,3,4,151,163] [] h79 KW ⟨⟨rfl,rfl⟩,rfl,trivial⟩ ⟨⟨rfl,.inr ⟨⟨⟨⟨rfl,rfl⟩,rfl,⟨rfl,rfl⟩,trivial⟩,trivial⟩,rfl⟩⟩,⟨rfl,.inl ⟨rfl,aa _⟩⟩,⟨rfl,.inl ⟨rfl,aa _⟩⟩,⟨rfl,.inl ⟨rfl,ay _⟩⟩,⟨rfl,bR (fun _=>rfl) (fun _=>rfl)⟩,trivial⟩ rfl ⟨⟨rfl,rfl⟩,rfl⟩ rfl ⟨⟨rfl,.inr ⟨rfl,rfl,rfl⟩⟩,⟨rfl,.inl ⟨rfl,aa _⟩⟩,⟨rfl,bL rfl rfl (by decide) (by decide)⟩,⟨rfl,.inl ⟨rfl,aa _⟩⟩,⟨rfl,.inl ⟨rfl,ay _⟩⟩,trivial⟩ rfl rfl ?_)
      |((with_reducible show aB _ _ _ _);refine dK ?_))<;>with_reducible refine wK ?_)
    |((with_reducible show(_∧_)∧_∧_);(refine eK ?_ ?_<;>with_reducible repeat' (first|exact trivial|(show _∧_;refine aK ?_ ?_))))));all_goals clear fct)
  all_goals first
    |rfl
    |exact⟨.refl (aa _),aa _⟩
    |exact⟨.refl (ay _),ay _⟩
    |exact bF (fun _=>rfl) (fun _=>rfl)
    |trace_state
theorem JP (f:ForM)(hs:bq f.nodes){a b:Nat}{ya yb:ai}(hab:a≠b)(ha:f.nodes[a]? =some ya)(hb:f.nodes[b]? =some yb)(g:Nat)(cg:au Tryz.prog g)(caps:List AV)(hcaps:bz caps=true)(l':List ai)(k2:List Int)(told:List aO)(hl:l'.length=f.nodes.length)
    (hka:∀y,l'[a]? =some y→y.kids=k2) (hkb:∀y,l'[b]? =some y→y.kids=yb.kids)
    (hg:aj Tryz.prog g [aT f.most f.nodes.length 4 (.own 3 0 0),aF ya.kids,aF yb.kids,aU [],aV f.nodes a 1 b 2] (.ptr 0 0 0::caps)
      [aT f.most f.nodes.length 4 (.own 6 0 told.length),.dead,aF yb.kids,.dead,aV l' a 5 b 2,aF k2,aU told] gq):
    aj Tryz.prog 56 [] [aN f,gq,.clo (.func g) [] caps] [] (.tup [aN ⟨l',f.most⟩,mD told,ah 0]):=by
  have h121:=I7 f hs hab ha hb
  have hlm:(l'.map bM).length=f.nodes.length:=by rw[bP,hl]
  obtain⟨l,m⟩:=f
  simp only at*
  refine aj.aA (rvs:=[.cell 6 24,.tmp 7,.tmp 8]) G ak Tryz.func56 rfl Tryz.ntmps56 rfl rfl ?_;with_reducible refine wD ?_
  repeat' (first
    |refine gK ?_
    | ((first
      |((with_reducible show ae _ _ 121 _ _ _ _);refine ae.dy (news:=[aT m l.length 114 (.own 113 0 0),aF ya.kids,aF yb.kids,.live 9 [] false,aV l a 111 b 112]) [110,111,112,113,114] [] h121 Ek ⟨⟨rfl,rfl,trivial⟩,trivial⟩ trivial rfl ⟨⟨rfl,rfl⟩,rfl⟩ rfl ⟨⟨rfl,.inr ⟨rfl,rfl,rfl⟩⟩,⟨rfl,.inl ⟨rfl,aa _⟩⟩,⟨rfl,.inl ⟨rfl,aa _⟩⟩,⟨rfl,.inl ⟨rfl,rfl⟩⟩,⟨rfl,bL rfl rfl (by decide) (by decide)⟩,trivial⟩ rfl rfl ?_)
      |((with_reducible show bD _ _ _ _ _);first|refine bD.mN true Tryz.underlying98 rfl rfl rfl rfl rfl ?_|refine bD.nr false Tryz.underlying98 rfl rfl rfl rfl rfl ?_)
      |((with_reducible show ae _ _ _ _ _ _ _);refine ae.dy (news:=[aT m l.length 114 (.own 163 0 told.length),.dead,aF yb.kids,.dead,aV l' a 161 b 112,aF k2,aU told]) [110,111,112,113,114,161,163] [] hg cg ⟨⟨rfl,rfl⟩,cq hcaps⟩ ⟨⟨rfl,.inr ⟨⟨⟨⟨rfl,rfl⟩,rfl,⟨rfl,rfl⟩,trivial⟩,trivial⟩,rfl⟩⟩,⟨rfl,.inl ⟨rfl,aa _⟩⟩,⟨rfl,.inl ⟨rfl,aa _⟩⟩,⟨rfl,.inl ⟨rfl,rfl⟩⟩,⟨rfl,bR (fun _=>rfl) (fun _=>rfl)⟩,trivial⟩ rfl ⟨⟨rfl,rfl⟩,rfl⟩ rfl ⟨⟨rfl,.inr ⟨rfl,rfl,rfl⟩⟩,⟨rfl,.inl ⟨rfl,aa _⟩⟩,⟨rfl,bL rfl rfl (by decide) (by decide)⟩,⟨rfl,.inl ⟨rfl,aa _⟩⟩,⟨rfl,.inl ⟨rfl,ay _⟩⟩,trivial⟩ rfl rfl ?_)
      |((with_reducible show aB _ _ _ _);refine dK ?_))<;>with_reducible refine wK ?_)
    |((with_reducible show(_∧_)∧_∧_);(refine eK ?_ ?_<;>with_reducible repeat' (first|exact trivial|(show _∧_;refine aK ?_ ?_)))))
  all_goals first
    |rfl
    |exact kY rfl rfl rfl (by simp) (ay _)
    |exact(by rw[←hl];exact tw (ra:=false) (rb:=false) (ea:=[]) (eb:=[]) rfl rfl (fun y hy=>by rw[List.append_nil,hka y hy];exact⟨rfl,rfl⟩) (fun y hy=>by rw[List.append_nil,hkb y hy];exact⟨rfl,rfl⟩))
    |trace_state
end Go.Proofs.Heir
namespace Go.Proofs.Heir
open Go Go.Am Go.RowKit Go.Lib
set_option maxRecDepth 100000
set_option maxHeartbeats 8000000
set_option maxHeartbeats 2000000
structure sF (f g:ForM) (ns:List aO):Prop where
  right:bC g=true
  len:g.nodes.length=f.nodes.length
  told:Told f.nodes g.nodes ns
  kind:∀x,af f.nodes x=true→(nd g.nodes x).kind=(nd f.nodes x).kind
  chain:∀n,af f.nodes n=true→∀t,cm t=true→dQ t=t→sY n t (F5 (nd f.nodes n).attrs t) ns=some (F5 (nd g.nodes n).attrs t)
theorem sF.nil {f:ForM}(h:bC f=true):sF f f []:=⟨h,rfl,.nil _,fun _ _=>rfl,fun _ _ _ _ _=>rfl⟩
theorem sF.last {f g:ForM}{ns:List aO}(h:sF f g ns){n:Int}(hn:af f.nodes n=true)(h1:(nd f.nodes n).kind=1):runN (LX (ju f.nodes n),(nd f.nodes n).doc) (qc n ns)=some (LX (ju g.nodes n),(nd g.nodes n).doc):=h.told.run n hn h1
section
variable {l : List ai} {m : Int}
end
theorem j7:∀ {cs:List Int} {b:Int},b∈cs→∃k:Nat,k<cs.length∧cs[k]? =some b∧(∀ (j:Nat) x,j<k→cs[j]? =some x→x≠b)∧cs.takeWhile (fun c=>decide (c≠b))=cs.take k∧cs.dropWhile (fun c=>decide (c≠b))=cs.drop k∧cs.erase b=cs.take k++cs.drop (k+1)
  |[],b,h=>by cases h
  | a :: r,b,h=>by
    by_cases e:a=b
    · subst e
      refine⟨0,by simp,rfl,fun j x hj=>by omega,?_,?_,?_⟩
      ·rw[List.takeWhile_cons,if_neg (by simp)];rfl
      ·rw[List.dropWhile_cons,if_neg (by simp)];rfl
      ·rw[List.erase_cons_head];rfl
    · obtain⟨k,h1,h2,h3,h4,h5,h6⟩:=j7 ((eB.1 h).resolve_left fun q=>e q.symm)
      refine⟨k+1,by simp;omega,by simpa using h2,fun j x hj hx=>?_,?_,?_,?_⟩
      · cases j with
        |zero=>simp at hx;rw[←hx];exact e
        |succ j=>exact h3 j x (by omega) (by simpa using hx)
      ·rw[List.takeWhile_cons,if_pos (by simpa using e),h4];rfl
      ·rw[List.dropWhile_cons,if_pos (by simpa using e),h5];rfl
      ·rw[List.erase_cons,if_neg (by simpa using e),h6];rfl
theorem Jg {cs:List Int}{b k:Int}{i:Nat}(hb:b≠-1)(h4:cs.takeWhile (fun c=>decide (c≠b))=cs.take i)(h5:cs.dropWhile (fun c=>decide (c≠b))=cs.drop i):jR cs b k=cs.take i++k::cs.drop i:=by
  unfold jR
  rw[if_neg hb,h4,h5]
theorem Bq (cs:List Int)(k:Int):jR cs (-1) k=cs++ [k]:=by unfold jR;rw[if_pos rfl]
def mz (b k:Int)(cs:List Int):List Int:=cs.flatMap fun x=>if x=b then[k,x] else[x]
theorem Ay {b k:Int}{cs:List Int}{i:Nat}{x:Int}(h:cs[i]? =some x):mz b k (cs.take (i+1))=mz b k (cs.take i)++if x=b then[k,x] else[x]:=by
  unfold mz
  rw[List.take_add_one,h]
  show(cs.take i++ [x]).flatMap _=_
  rw[List.flatMap_append]
  simp
theorem oT {b k:Int}:∀ {cs:List Int},b∉cs→mz b k cs=cs
  |[],_=>rfl
  | a::r,h=>by
    show(if a=b then[k,a] else[a])++mz b k r=a::r
    rw[if_neg (fun e:a=b=>h (by rw[←e];exact gE)),oT fun q=>h (fJ _ q)];rfl
theorem FI {cs:List Int}{b k:Int}(hd:cs.Nodup)(hm:∀c∈cs,c≠-1)(h:b=-1∨b∈cs):mz b k cs++ (if b=-1 then[k] else[])=jR cs b k:=by
  by_cases e:b=-1
  · subst e
    rw[if_pos rfl,oT (fun q=>hm _ q rfl),Bq]
  · rw [if_neg e,List.append_nil]
    have hb:=h.resolve_left e
    clear h
    unfold jR
    rw[if_neg e]
    induction cs with
    |nil=>cases hb
    | cons a r ih=>
      rw[List.nodup_cons] at hd
      show(if a=b then[k,a] else[a])++mz b k r=_
      by_cases c:a=b
      · subst c
        rw[if_pos rfl,oT hd.1,List.takeWhile_cons,List.dropWhile_cons,if_neg (by simp),if_neg (by simp)];rfl
      ·rw[if_neg c,ih hd.2 (fun x hx=>hm x (fJ _ hx)) ((eB.1 hb).resolve_left fun q=>c q.symm),List.takeWhile_cons,List.dropWhile_cons,if_pos (by simpa using c),if_pos (by simpa using c)];rfl
theorem vP (b k:Int):∀ (cs:List Int),(mz b k cs).length≤2*cs.length
  |[]=>by unfold mz;simp
  | a::r=>by
    have:=vP b k r
    show((if a=b then[k,a] else[a])++mz b k r).length≤_
    rw[jN,List.length_cons]
    split<;>simp<;>omega
theorem AH {cs:List Int}{n:Int}(hd:cs.Nodup):cs.filter (fun c=> !decide (c=n))=cs.erase n:=by
  rw[hd.erase_eq_filter]
  refine List.filter_congr fun c _=>?_
  rw[Bool.eq_iff_iff]
  simp
end Go.Proofs.Heir
namespace Go.Proofs.Heir
open Go Go.Am Go.RowKit Go.Lib
set_option maxRecDepth 100000
set_option maxHeartbeats 8000000
theorem wM {cs:List Int}{b:Int}{i:Nat}(h:cs[i]? =some b)(hno:∀ (j:Nat) x,j<i→cs[j]? =some x→x≠b):fU (fun x=>decide (x=b)) cs=i:=
  fo h (bO rfl) fun j x hj hx=>bB (hno j x hj hx)
theorem A9 (f:ForM)(n:Int)(what:ByteArray)(e:Int)(r:ForM)(ns:List aO)(z:Int)(h77:aj Tryz.prog 77 [] [aN f,ah n] [] (.lit (iV what e)))
    (h56:aj Tryz.prog 56 [] [aN f,.lit (iV what e),.clo (.func 78) [] [.fptr (ah n) 0]] [] (.tup [aN r,mD ns,ah z])):aj Tryz.prog 32 [] [aN f,ah n] [] (.tup [aN r,mD ns,ah z]):=by
  obtain⟨l,m⟩:=f
  obtain⟨l',m'⟩:=r
  refine aj.aA (rvs:=[.cell 4 24,.tmp 5,.tmp 6]) G ak Tryz.func32 rfl Tryz.ntmps32 rfl rfl ?_;with_reducible refine wD ?_
  repeat' (first
    |refine gK ?_
    | ((first
      |((with_reducible show ae _ _ 77 _ _ _ _);refine ae.lit [] h77 KS ⟨⟨rfl,rfl,trivial⟩,rfl,trivial⟩ rfl rfl ?_)
      |((with_reducible show ae _ _ 56 _ _ _ _);refine ae.val [30] h56 HA ⟨⟨rfl,rfl,trivial⟩,⟨rfl,rfl⟩,⟨rfl,trivial,⟨_,_,_,_,_,rfl,rfl,rfl,rfl,rfl,rfl⟩,trivial⟩,trivial⟩ rfl rfl rfl ?_)
      |((with_reducible show aB _ _ _ _);refine dK ?_))<;>with_reducible refine wK ?_)
    |((with_reducible show(_∧_)∧_∧_);(refine eK ?_ ?_<;>with_reducible repeat' (first|exact trivial|(show _∧_;refine aK ?_ ?_)))))
  all_goals first|rfl|trace_state
theorem Ac (f:ForM)(n:Int)(r:ForM)(ns:List aO)(z:Int)(h77:aj Tryz.prog 77 [] [aN f,ah n] [] gq)
    (h56:aj Tryz.prog 56 [] [aN f,gq,.clo (.func 78) [] [.fptr (ah n) 0]] [] (.tup [aN r,mD ns,ah z])):aj Tryz.prog 32 [] [aN f,ah n] [] (.tup [aN r,mD ns,ah z]):=by
  obtain⟨l,m⟩:=f
  obtain⟨l',m'⟩:=r
  refine aj.aA (rvs:=[.cell 4 24,.tmp 5,.tmp 6]) G ak Tryz.func32 rfl Tryz.ntmps32 rfl rfl ?_;with_reducible refine wD ?_
  repeat' (first
    |refine gK ?_
    | ((first
      |((with_reducible show ae _ _ 77 _ _ _ _);refine ae.lit [] h77 KS ⟨⟨rfl,rfl,trivial⟩,rfl,trivial⟩ rfl rfl ?_)
      |((with_reducible show ae _ _ 56 _ _ _ _);refine ae.val [30] h56 HA ⟨⟨rfl,rfl,trivial⟩,⟨rfl,rfl⟩,⟨rfl,trivial,⟨_,_,_,_,_,rfl,rfl,rfl,rfl,rfl,rfl⟩,trivial⟩,trivial⟩ rfl rfl rfl ?_)
      |((with_reducible show aB _ _ _ _);refine dK ?_))<;>with_reducible refine wK ?_)
    |((with_reducible show(_∧_)∧_∧_);(refine eK ?_ ?_<;>with_reducible repeat' (first|exact trivial|(show _∧_;refine aK ?_ ?_)))))
  all_goals first|rfl|trace_state
theorem iS (l:List ai)(m:Int)(R:RF l m){n:Int}(hn:af l n=true)(x:aO):k9 l n x=(yW ⟨l,m⟩ n).map (dF x):=by
  unfold k9 yW IN jZ lX dF
  rw[if_pos (by rw[dB.2 R,hn];rfl)]
  simp
theorem G7 (l:List ai)(m:Int)(R:RF l m)(hl:l.length≤64)(n:Int)(hn:af l n=true):(lX ⟨l,m⟩ n).length≤1000∧(yW ⟨l,m⟩ n).length≤1000:=by
  have h:(lX ⟨l,m⟩ n).length≤1000:=by
    unfold lX
    rw[if_pos (by rw[dB.2 R,hn];rfl)]
    have:=U.jx R.tree l.length hn
    show(U.bQ l l.length n).length≤1000
    omega
  exact⟨h,Nat.le_trans (List.length_filter_le ..) h⟩
theorem Bd (f:ForM)(hs:bq f.nodes)(n:Int):aj Tryz.prog 32 [] [aN f,ah n] [] (.tup [aN (dm f n).1,mD (dm f n).2.1,ah (dm f n).2.2]):=by
  cases hrt:(bC f&&af f.nodes n) with
  | false=>
    have e:dm f n=(f,[],1):=by unfold dm;rw[hrt];rfl
    rw[e]
    exact A9 f n oM 1 f [] 1 (yS f hs n hrt) (mM f hs 78 _ oM 1)
  | true =>
    simp only[bg] at hrt
    obtain⟨hr,ht⟩:=hrt
    obtain⟨b,y,rfl,hy,_⟩:=aI.1 ht
    obtain⟨l,m⟩:=f
    have R:RF l m:=dB.1 hr
    have hnd:=cI hy
    by_cases hp:y.parent=-1
    · have e:=oJ R ht (by rw[hnd];exact hp)
      rw[e]
      exact zE ⟨l,m⟩ hs hr b y hy hp
    · have hq:=R.par b ht (by rw[hnd];exact hp)
      rw[hnd] at hq
      have e:=s8 R ht (by rw[hnd];exact hp)
      rw[e]
      obtain⟨a,ya,hpa,ha,_⟩:=aI.1 hq.2.1
      rw[hpa] at hq hp
      have hnda:=cI ha
      have hmem:(b:Int)∈ya.kids:=by
        have:=hq.2.2.2
        rwa [hnda] at this
      have hab:b≠a:=by
        intro e
        have h1:=R.ja ht
        rw[R.fj ht (by rw[hnd,hpa];exact hp),hnd,hpa,e] at h1
        exact h1 rfl
      obtain⟨i,hi,hib,hno,_,_,her⟩:=j7 hmem
      have hs64:l.length≤64:=hs.len
      have hkl:ya.kids.length≤60:=hs.kids ya (bV ha)
      have hel:=G7 l m R hs64 b ht
      have h35:=EP ⟨l,m⟩ hs b
      rw[show DD ⟨l,m⟩ b=ju l b by unfold DD ju;rw[hr,ht];rfl] at h35
      have h34:=Cj ⟨l,m⟩ hs b (by rw[hr,ht];rfl) (by omega)
      have h73:=qU ya.kids (by omega) b
      rw[fo hib (bO rfl) fun j x hj hx=>bB (hno j x hj hx)] at h73
      have h145:=uI (rows:=ya.kids.map bJ) (j5 ya.kids) i (i+1) (by omega) (by simp;omega)
      rw[bP,←List.map_take,←List.map_drop,←gm,show i+ (ya.kids.length- (i+1))=(ya.kids.take i++ya.kids.drop (i+1)).length by simp;omega] at h145
      have hto:(if ju l b=true then k9 l b (dY 2 0 0) else[])=(if ju l b=true then(yW ⟨l,m⟩ b).map (dF my) else[]):=by
        rw[iS l m R ht];rfl
      have h79:=IX (l:=l) (m:=m) (a:=a) (b:=b) (i:=i) (ns:=[]) (told:=if ju l b=true then(yW ⟨l,m⟩ b).map (dF my) else[]) rfl (by omega) ha (kb:=y.kids) (fun z hz=>by rw[hy] at hz;cases hz;rfl) hy hab rfl hpa hi (by omega) hel.2 (by simp) h35 h34 h73 h145
      have hout:bj l b=(l.set a {ya with kids:=ya.kids.take i++ya.kids.drop (i+1)}).set b {y with parent:=-1}:=by
        unfold bj
        rw[hnd,if_neg (by rw[hpa];exact hp)]
        unfold kg
        rw[hpa,hnda]
        dsimp only
        rw[her,Int.toNat_natCast,Int.toNat_natCast]
        congr 1
        have:nd (l.set a {ya with kids:=ya.kids.take i++ya.kids.drop (i+1)}) b=y:=cI (by rw[List.getElem?_set,if_neg (fun e=>hab e.symm)];exact hy)
        rw[this]
      rw[hto,hout]
      have hlen:((l.set a {ya with kids:=ya.kids.take i++ya.kids.drop (i+1)}).set b {y with parent:=-1}).length=l.length:=by simp
      generalize(if ju l b=true then(yW ⟨l,m⟩ b).map (dF my) else[])=told at h79 ⊢
      have hA:∀z,((l.set a {ya with kids:=ya.kids.take i++ya.kids.drop (i+1)}).set b {y with parent:=-1})[a]? =some z→z.kids=ya.kids.take i++ya.kids.drop (i+1):=fun z hz=>by
        rw[List.getElem?_set,if_neg hab,List.getElem?_set,if_pos rfl,if_pos (aZ ha).1] at hz
        cases hz;rfl
      have hB:∀z,((l.set a {ya with kids:=ya.kids.take i++ya.kids.drop (i+1)}).set b {y with parent:=-1})[b]? =some z→z.kids=y.kids:=fun z hz=>by
        rw[List.getElem?_set,if_pos rfl,if_pos (by rw[List.length_set];exact(aZ hy).1)] at hz
        cases hz;rfl
      exact Ac ⟨l,m⟩ b _ _ 0 (nG ⟨l,m⟩ hs b (by rw[hr,ht];rfl))
        (JP ⟨l,m⟩ hs (fun e=>hab e.symm) ha hy 78 M6 [.fptr (ah b) 0] rfl _ _ told hlen hA hB
          (yl (show l.length≤1000 by omega) hy (by rw[hpa];exact hp) hlen h79 hab))
@[reducible] def ld : aO := ⟨1, 0, 0, 0, ByteArray.empty, false, false, ByteArray.empty, ByteArray.empty⟩
section
variable {l : List ai} {a b ta tb i : Nat}
theorem rK {tb':Nat}(y':ai)(hb:b<l.length)(hab:b≠a):(aR l a ta b tb).set b (dG y' tb')=aR (l.set b y') a ta b tb':=by
  apply List.ext_getElem?
  intro j
  unfold aR
  rw[List.getElem?_set,List.getElem?_mapIdx,List.getElem?_mapIdx,List.getElem?_set,List.length_mapIdx]
  by_cases e:b=j
  · subst e
    rw[if_pos rfl,if_pos rfl,if_pos hb,if_pos hb]
    show _=some (dZ a ta b tb' b y')
    unfold dZ
    rw[if_neg hab,if_pos rfl]
  · rw [if_neg e,if_neg e]
    cases h:l[j]? with
    |none=>rfl
    | some z=>
      show some (dZ a ta b tb j z)=some (dZ a ta b tb' j z)
      unfold dZ
      rw[if_neg (show ¬j=b from fun q=>e q.symm),if_neg (show ¬j=b from fun q=>e q.symm)]
end
def Al (m:Int)(L a b:Nat)(before:Int)(l:List ai)(ns:List aO)(ka kb:List Int)(k':Int)(l':List ai)(ns':List aO)(ka' kb':List Int):Prop:=
  ∃ (k:Nat),k'=(k:Int)∧∃ (y0 y1 yk:ai) (l1:List ai) (n1:List aO) (k1:List Int) (i:Nat) (conn:Bool) (es ex:List Int),
    l.length=L∧l1.length=L∧l[b]? =some y0∧
    aj Tryz.prog 139 [aT m L 4 (.own 3 0 ns.length),aF ka,aF kb,aU ns,aV l a 1 b 2] [.ptr 0 0 0,ah k,ah y0.doc] [aT m L 4 (.own 6 0 n1.length),.dead,aF kb,.dead,aV l1 a 5 b 2,aF k1,aU n1] (.tup [])∧
    l1[b]? =some y1∧l1[k]? =some yk∧kb=y1.kids∧i≤y1.kids.length∧(before=-1→i=y1.kids.length)∧(before≠-1→aj Tryz.prog 73 [] [bY y1.kids,ah before] [] (ah i))∧y1.kids.length≤1000∧
    l'=(l1.set b {y1 with kids:=y1.kids.take i++ [(k:Int)]++y1.kids.drop i}).set k {yk with parent:=(b:Int)}∧(k≠b∧k≠a)∧(∀y,l'[a]? =some y→y.kids=ka')∧(∀y,l'[b]? =some y→y.kids=kb')∧
    ka'=k1∧kb'=y1.kids.take i++ [(k:Int)]++y1.kids.drop i∧
    aj Tryz.prog 35 [] [aN ⟨l',m⟩,ah k] [] (bA conn)∧aj Tryz.prog 34 [] [aN ⟨l',m⟩,ah k] [aF (es++ex)] (.own 0 0 es.length)∧
    ns'=n1++ (if conn=true then es.map (dF ld) else[])∧n1.length≤100000∧es.length≤1000
def Gl (m:Int)(L a b:Nat)(before:Int)(l:List ai)(ns:List aO)(ka kb:List Int)(k':Int)(l':List ai)(ns':List aO)(ka' kb':List Int):Prop:=
  ∃ (k:Nat),k'=(k:Int)∧∃ (y0 y1 yk:ai) (l1:List ai) (n1:List aO) (k1:List Int) (i:Nat) (conn:Bool) (es ex:List Int),
    l.length=L∧l1.length=L∧l[a]? =some y0∧
    aj Tryz.prog 139 [aT m L 4 (.own 3 0 ns.length),aF ka,aF kb,aU ns,aV l a 1 b 2] [.ptr 0 0 0,ah k,ah y0.doc] [aT m L 4 (.own 6 0 n1.length),.dead,aF kb,.dead,aV l1 a 5 b 2,aF k1,aU n1] (.tup [])∧
    l1[a]? =some y1∧l1[k]? =some yk∧k1=y1.kids∧i≤y1.kids.length∧(before=-1→i=y1.kids.length)∧(before≠-1→aj Tryz.prog 73 [] [bY y1.kids,ah before] [] (ah i))∧y1.kids.length≤1000∧
    l'=(l1.set a {y1 with kids:=y1.kids.take i++ [(k:Int)]++y1.kids.drop i}).set k {yk with parent:=(a:Int)}∧k=b∧(∀y,l'[a]? =some y→y.kids=ka')∧(∀y,l'[b]? =some y→y.kids=kb')∧
    ka'=y1.kids.take i++ [(k:Int)]++y1.kids.drop i∧kb'=kb∧
    aj Tryz.prog 35 [] [aN ⟨l',m⟩,ah k] [] (bA conn)∧aj Tryz.prog 34 [] [aN ⟨l',m⟩,ah k] [aF (es++ex)] (.own 0 0 es.length)∧
    ns'=n1++ (if conn=true then es.map (dF ld) else[])∧n1.length≤100000∧es.length≤1000
end Go.Proofs.Heir
namespace Go.Proofs.Heir
open Go Go.Am Go.RowKit Go.Lib
set_option maxRecDepth 100000
set_option maxHeartbeats 8000000
set_option maxHeartbeats 4000000
section
variable {l : List ai} {m : Int}
theorem eI {k:Nat}(h:k<l.length):af l (k:Int)=true:=by unfold af;rw[bO (by omega:(0:Int)≤k),bO (by omega:(k:Int)<l.length)];rfl
theorem bZ {k:Nat}(h:af l (k:Int)=true):k<l.length:=by
  unfold af at h
  simp only[bg,aP] at h;omega
theorem bU {k:Nat}(h:k<l.length):l[k]? =some (nd l k):=by
  obtain⟨y,hy⟩:∃y,l[k]? =some y:=⟨_,bH h⟩
  rw[cI hy];exact hy
theorem cP {k:Nat}:∀y,l[k]? =some y→y.kids=(nd l k).kids:=fun y hy=>by rw[cI hy]
theorem jy (R:RF l m)(h60:l.length≤60){n:Int}(hn:af l n=true):(lX ⟨l,m⟩ n).length≤60∧(yW ⟨l,m⟩ n).length≤60:=by
  have h:(lX ⟨l,m⟩ n).length≤60:=by
    unfold lX
    rw[if_pos (by rw[dB.2 R,hn];rfl)]
    have:=U.jx R.tree l.length hn
    show(U.bQ l l.length n).length≤60
    omega
  exact⟨h,Nat.le_trans (List.length_filter_le ..) h⟩
theorem ER (R:RF l m)(h60:l.length≤60){n:Int}(hn:af l n=true):aj Tryz.prog 35 [] [aN ⟨l,m⟩,ah n] [] (bA (ju l n)):=by
  have:=EP ⟨l,m⟩ (cD R h60) n
  rwa [show DD ⟨l,m⟩ n=ju l n by unfold DD ju;rw[dB.2 R,hn];rfl] at this
theorem AL (R:RF l m)(h60:l.length≤60){n:Int}(hn:af l n=true):aj Tryz.prog 34 [] [aN ⟨l,m⟩,ah n] [aF (yW ⟨l,m⟩ n++Ms ⟨l,m⟩ n)] (.own 0 0 (yW ⟨l,m⟩ n).length):=
  Cj ⟨l,m⟩ (cD R h60) n (by rw[dB.2 R,hn];rfl) (by have:=(jy R h60 hn).1;omega)
theorem AR (R:RF l m)(h60:l.length≤60){a b k:Nat}(hab:b≠a)(ha:a<l.length)(hb:b<l.length)(hk:k<l.length){ns:List aO}(hns:ns.length≤90000)(h:(nd l k).parent=-1∨(nd l k).parent=(a:Int)):
    aj Tryz.prog 79 [aT m l.length 4 (.own 3 0 ns.length),aF (nd l a).kids,aF (nd l b).kids,aU ns,aV l a 1 b 2] [.ptr 0 0 0,ah k]
      [aT m l.length 4 (.own 6 0 (bW (l,ns) k).2.length),.dead,aF (nd l b).kids,.dead,aV (bj l k) a 5 b 2,aF (nd (bj l k) a).kids,aU (bW (l,ns) k).2] (.tup []):=by
  have hy:=bU hk
  by_cases hp:(nd l k).parent=-1
  · have e1:bj l k=l:=by unfold bj;rw[if_pos hp]
    have e2:bW (l,ns) k=(l,ns):=by unfold bW;rw[if_pos hp]
    rw[e1,e2]
    obtain⟨q,hq⟩:=iG a 1 b 2 k (nd l k)
    exact DM hy ⟨q,hq _ rfl⟩ hp
  · have hpa:=h.resolve_left hp
    have ht:=eI hk
    have hq:=R.par k ht hp
    rw[hpa] at hq
    have hmem:(k:Int)∈ (nd l a).kids:=hq.2.2.2
    have hka:k≠a:=fun e=>by
      have h1:=R.ja ht
      rw[R.fj ht hp,hpa,e] at h1
      exact h1 rfl
    obtain⟨i,hi,hib,hno,_,_,her⟩:=j7 hmem
    have hs:=cD R h60
    have hkl:(nd l a).kids.length≤60:=hs.kids _ (bV (bU ha))
    have hel:=jy R h60 ht
    have h35:=ER R h60 ht
    have h34:=AL R h60 ht
    have h73:=qU (nd l a).kids (by omega) k
    rw[fo hib (bO rfl) fun j x hj hx=>bB (hno j x hj hx)] at h73
    have h145:=uI (rows:=(nd l a).kids.map bJ) (j5 (nd l a).kids) i (i+1) (by omega) (by simp;omega)
    rw[bP,←List.map_take,←List.map_drop,←gm,show i+ ((nd l a).kids.length- (i+1))=((nd l a).kids.take i++ (nd l a).kids.drop (i+1)).length by simp;omega] at h145
    have hto:bW (l,ns) k=(bj l k,ns++if ju l k=true then(yW ⟨l,m⟩ k).map (dF my) else[]):=by
      unfold bW
      rw[if_neg hp]
      simp only
      rw[iS l m R ht];rfl
    have hout:bj l k=(l.set a {nd l a with kids:=(nd l a).kids.take i++ (nd l a).kids.drop (i+1)}).set k {nd l k with parent:=-1}:=by
      unfold bj
      rw[if_neg hp]
      unfold kg
      rw[hpa]
      dsimp only
      rw[her,Int.toNat_natCast,Int.toNat_natCast]
      congr 1
      have:nd (l.set a {nd l a with kids:=(nd l a).kids.take i++ (nd l a).kids.drop (i+1)}) k=nd l k:=cI (by rw[List.getElem?_set,if_neg (fun e=>hka e.symm)];exact hy)
      rw[this]
    have hA:(nd (bj l k) a).kids=(nd l a).kids.take i++ (nd l a).kids.drop (i+1):=by
      have:(bj l k)[a]? =some {nd l a with kids:=(nd l a).kids.take i++ (nd l a).kids.drop (i+1)}:=by
        rw[hout,List.getElem?_set,if_neg hka,List.getElem?_set,if_pos rfl,if_pos ha]
      rw[cI this]
    rw[hA,hto,hout]
    by_cases hkb:k=b
    · subst hkb
      exact IX rfl (by omega) (bU ha) cP hy hka rfl hpa hi (by omega) (by omega) (by omega) h35 h34 h73 h145
    ·exact Le rfl (by omega) (bU ha) cP hy hka hkb rfl hpa hi (by omega) (by omega) (by omega) h35 h34 h73 h145
theorem lQ (R:RF l m)(h60:l.length≤60){k:Nat}(hk:k<l.length)(ns:List aO):(bW (l,ns) k).2.length≤ns.length+60:=by
  unfold bW
  split
  ·simp
  · simp only
    rw[iS l m R (eI hk)]
    have:=(jy R h60 (eI hk)).2
    split<;>simp<;>omega
theorem Ig (d:Int)(l:List ai)(k:Nat)(h:k<l.length):jw d l k=kg l k fun x=>{x with doc:=d}:=by
  unfold jw kg
  rw[bU h,Int.toNat_natCast]
theorem zL (d:Int):∀ (ks:List Nat) (l:List ai),(∀k∈ks,k<l.length)→ks.foldl (jw d) l=iB l (Cy ks) d
  |[],_,_=>rfl
  | k::ks,l,h=>by
    have hk:=h k gE
    show ks.foldl (jw d) (jw d l k)=iB (kg l k fun x=>{x with doc:=d}) (Cy ks) d
    rw[zL d ks (jw d l k) (fun j hj=>by rw[yG];exact h j (fJ _ hj)),Ig d l k hk]
theorem HG {cs:List Int}(h:∀c∈cs,0≤c):Cy (cs.map Int.toNat)=cs:=by
  unfold Cy
  rw[List.map_map]
  conv=>rhs;rw[←List.map_id cs]
  exact List.map_congr_left fun c hc=>by
    have:=h c hc
    show((c.toNat:Nat):Int)=c
    omega
theorem B3 (R:RF l m)(h60:l.length≤60){a b k:Nat}(hab:b≠a)(ha:a<l.length)(hb:b<l.length)(hk:k<l.length){ns:List aO}(hns:ns.length≤80000)(h:(nd l k).parent=-1∨(nd l k).parent=(a:Int))(hkk:(nd l k).kind=1∨(nd l k).kind=2){d:Int}(hd:gL l d 0=true):
    aj Tryz.prog 139 [aT m l.length 4 (.own 3 0 ns.length),aF (nd l a).kids,aF (nd l b).kids,aU ns,aV l a 1 b 2] [.ptr 0 0 0,ah k,ah d]
      [aT m l.length 4 (.own 6 0 (gC (l,ns) k d).2.length),.dead,aF (nd l b).kids,.dead,aV (cr l k d) a 5 b 2,aF (nd (cr l k d) a).kids,aU (gC (l,ns) k d).2] (.tup []):=by
  have h79:=AR R h60 hab ha hb hk (by omega:ns.length≤90000) h
  have ht:=eI hk
  have R1:=dP R ht
  have T:=bk (c9 l k)
  have hl1:=c9 l (k:Int)
  have ht1:af (bj l k) k=true:=by rw[T];exact ht
  have hk1:k< (bj l k).length:=by rw[hl1];exact hk
  have hf:=gl (l,ns) (k:Int)
  have hol:=lQ R h60 hk ns
  by_cases e:(nd (bj l k) k).doc=d
  · have e1:cr l k d=bj l k:=by unfold cr;rw[if_pos e]
    have e2:gC (l,ns) k d=bW (l,ns) k:=by unfold gC;rw[hf,if_pos e]
    rw[e1,e2]
    exact Db hl1 (bU hk1) e h79
  · have R2:=iA R ht hkk hd
    have e1:cr l k d=iB (bj l k) (U.bQ (bj l k) (bj l k).length k) d:=by unfold cr;rw[if_neg e]
    have ht2:af (cr l k d) k=true:=by rw[bk (dH l k d)];exact ht
    have e2:(gC (l,ns) k d).2=(bW (l,ns) k).2++ (yW ⟨cr l k d,m⟩ k).map (dF (xI (nd (bj l k) k).doc d)):=by
      unfold gC
      rw[hf,if_neg e]
      simp only
      rw[iS _ m R2 ht2];rfl
    have h82:=Bz ⟨bj l k,m⟩ (cD R1 (by rw[hl1];exact h60)) k (by rw[dB.2 R1,ht1];rfl)
    have hall:lX ⟨bj l k,m⟩ k=U.bQ (bj l k) (bj l k).length k:=by unfold lX;rw[if_pos (by rw[dB.2 R1,ht1];rfl)]
    have hpos:∀c∈U.bQ (bj l k) (bj l k).length k,af (bj l k) c=true:=fun c hc=>uo (f:=⟨bj l k,m⟩) (n:=k) c (by rw[hall];exact hc)
    have hti:Cy ((U.bQ (bj l k) (bj l k).length k).map Int.toNat)=U.bQ (bj l k) (bj l k).length k:=HG fun c hc=>(br (hpos c hc)).1
    have hlt:∀j∈ (U.bQ (bj l k) (bj l k).length k).map Int.toNat,j< (bj l k).length:=fun j hj=>by
      obtain⟨c,hc,rfl⟩:=List.mem_map.1 hj
      obtain⟨i,_,rfl,hi,_⟩:=aI.1 (hpos c hc)
      rw[Int.toNat_natCast];exact(aZ hi).1
    have hlen:=(jy R1 (by rw[hl1];exact h60) ht1).1
    rw[hall] at h82 hlen
    have hL2:cr l k d=((U.bQ (bj l k) (bj l k).length k).map Int.toNat).foldl (jw d) (bj l k):=by rw[zL d _ _ hlt,hti,e1]
    have h34:=AL R2 (by rw[dH];exact h60) ht2
    have hel:=(jy R2 (by rw[dH];exact h60) ht2).2
    have hkb1:(nd (bj l k) b).kids=(nd l b).kids:=by
      rw[(gB R ht b (eI hb)).2.2.2]
      split
      · rename_i hpb
        rcases h with h|h
        ·rw[h] at hpb;omega
        ·rw[h] at hpb;omega
      ·rfl
    have hka2:(nd (cr l k d) a).kids=(nd (bj l k) a).kids:=by
      rw[e1]
      exact(uy hpos a (by rw[T];exact eI ha)).2.2.2
    rw[e2,hka2,jN,bP]
    exact Jy hl1 (bU hk1) e hlt (by rw[bP];omega) hL2 cP (fun y hy=>by rw[cP y hy,hkb1]) (by omega) (by omega) h79 (by rw[hti];exact h82) h34
theorem tr (R:RF l m)(h60:l.length≤60){k:Nat}(hk:k<l.length)(hkk:(nd l k).kind=1∨(nd l k).kind=2){d:Int}(hd:gL l d 0=true)(ns:List aO):(gC (l,ns) k d).2.length≤ns.length+120:=by
  have h1:=lQ R h60 hk ns
  have ht:=eI hk
  unfold gC
  split
  ·omega
  · simp only
    have R2:=iA R ht hkk hd
    have ht2:af (cr l k d) k=true:=by rw[bk (dH l k d)];exact ht
    rw[iS _ m R2 ht2,jN,bP]
    have:=(jy R2 (by rw[dH];exact h60) ht2).2
    omega
end
end Go.Proofs.Heir
namespace Go.Am
structure Lp (A:Prop):Prop where
  get:A
theorem Jd {A B:Prop}(h:Lp A→B)(a:A):B∧True:=⟨h ⟨a⟩,trivial⟩
end Go.Am
section
namespace Go.Proofs.Heir
open Go Go.Am Go.RowKit Go.Lib
set_option maxRecDepth 100000
set_option maxHeartbeats 8000000
variable {l l' : List ai} {m : Int}
theorem sX {tab:List (Nat×Nat)}{fz:Nat→Bool}{m:ML}{n:Nat}{A:List AV}{ks:List aO}(h:A=ks.map dN):qK (MF tab fz m n) (ks.map dN) A:=by
  subst h;exact⟨.refl (ay _),ay _⟩
theorem iJ {tab:List (Nat×Nat)}{fz:Nat→Bool}{m:ML}{n:Nat}{A:List AV}{ks:List Int}(h:A=ks.map bJ):qK (MF tab fz m n) (ks.map bJ) A:=by
  subst h;exact⟨.refl (aa _),aa _⟩
theorem GB (f:ForM){k:Int}{es:List Int}(he:es.length≤1000)(h196:aj Tryz.prog 196 [] [aN f,ah k] [] (bY es))(ns:List aO)(hns:ns.length≤100000)(x:aO):
    aj Tryz.prog 155 [] [kU f ns,ah k,lz x] [] (kU f (ns++es.map (dF x))):=by
  obtain⟨l,m⟩:=f
  obtain⟨x1,x2,x3,x4,x5,x6,x7,x8,x9⟩:=x
  have hem:(es.map bJ).length=es.length:=bP ..
  have hnm:(ns.map dN).length=ns.length:=bP ..
  refine aj.aA (rvs:=[.cell 6 56]) G ak Tryz.func155 rfl Tryz.ntmps155 rfl rfl ?_;with_reducible refine wD ?_
  repeat' (first
    |refine gK ?_
    | ((first
      |((with_reducible show ae _ _ 196 _ _ _ _);refine ae.val [] h196 Me ⟨⟨rfl,rfl,trivial⟩,rfl,trivial⟩ rfl rfl rfl ?_)
      |((with_reducible show dO _ _ _ _ _ _ _ _ _ _);refine dO.mk [] (ns.map dN) ⟨rfl,rfl,rfl⟩ ⟨rfl,rfl,rfl⟩ (DO ns) (by simp;omega) (by simp;omega) ?_)
      |((with_reducible show aB _ _ _ _);refine dK ?_))<;>with_reducible refine wK ?_)
    |((with_reducible show(_∧_)∧_∧_);(refine eK ?_ ?_<;>with_reducible repeat' (first|exact trivial|(show _∧_;refine aK ?_ ?_)))))
  obtain⟨W,hW⟩:∃W:Nat→List aO,W=fun j=>ns++ (es.take j).map (dF ⟨x1,x2,x3,x4,x5,x6,x7,x8,x9⟩):=⟨_,rfl⟩
  have hw0:W 0=ns:=by rw[hW];simp
  have hwe:W es.length=ns++es.map (dF ⟨x1,x2,x3,x4,x5,x6,x7,x8,x9⟩):=by rw[hW];simp
  have hwl:∀j,(W j).length≤ns.length+es.length:=fun j=>by rw[hW];simp;omega
  have hws:∀j e,es[j]? =some e→W (j+1)=W j++ [⟨x1,e,x3,x4,x5,x6,x7,x8,x9⟩]:=fun j e h=>by
    rw[hW];simp only
    rw[List.take_add_one,h,gm,←List.append_assoc];rfl
  rw[←hwe]
  clear hW
  refine bE.use G ak (fun(j:Nat)=>[(3,.ptr 30 0 0),(5,.ptr 50 0 0),(6,.ptr 60 0 0),(7,bY es),(8,.own 171 0 (W j).length),(9,ah j)])
    (fun j=>[(30,.live 3 [kU ⟨l,m⟩ ns] false),(50,.live 9 [lz ⟨x1,(if j=0 then x2 else(es[j-1]?).getD 0),x3,x4,x5,x6,x7,x8,x9⟩] false),(60,.live 3 [.agg [.lit (.slice none 0 0),ah 0,.lit (.slice none 0 0)]] false),(171,aU (W j))])
    (fun j=>j≤es.length) (fun j=>es.length-j) 0 (Nat.zero_le _) ?_ ?_
  · rw[hw0]
    (refine fK ?_;(with_reducible repeat' (first|exact trivial|(show _∧_;refine aK ?_ ?_)));(all_goals try rfl))
    all_goals first|exact sX (by simp)|exact .inl rfl|rfl|(simp;done)|exact⟨rfl,rfl⟩|trace_state
  intro j hj
  have hwj:=hwl j
  with_reducible refine wK ?_
  refine aM.mk (fun h1=>?_) (fun h1=>?_)<;>(try simp only[aq] at h1)<;>with_reducible refine wK ?_
  · have hjl:j<es.length:=by simp only[aP,aq] at h1;omega
    obtain⟨e,hes⟩:∃e,es[j]? =some e:=⟨_,bH hjl⟩
    have hnx:(if j+1=0 then x2 else(es[j+1-1]?).getD 0)=e:=by rw[if_neg (by omega),Nat.add_sub_cancel,hes];rfl
    have hst:=hws j e hes
    generalize(if j=0 then x2 else(es[j-1]?).getD 0)=x0
    repeat' (first
    |refine gK ?_
    | ((first
      |((with_reducible show aH _ _ _ _ _);refine aH.mk j (ah e) rfl (ct hes) ?_)
      |((with_reducible show dO _ _ _ _ _ _ _ _ _ _);refine dO.mk ((W j).map dN) [lz ⟨x1,e,x3,x4,x5,x6,x7,x8,x9⟩] ⟨rfl,(bP ..).symm,rfl⟩ ⟨rfl,rfl,rfl⟩ rfl (by simp;omega) (by simp;omega) ?_)
      |((with_reducible show aB _ _ _ _);refine dK ?_))<;>with_reducible refine wK ?_)
    |((with_reducible show(_∧_)∧_∧_);(refine eK ?_ ?_<;>with_reducible repeat' (first|exact trivial|(show _∧_;refine aK ?_ ?_)))))
    refine aW.mk (j+1) (by omega) (by omega) ?_
    rw[hnx,hst]
    (refine fK ?_;(with_reducible repeat' (first|exact trivial|(show _∧_;refine aK ?_ ?_)));(all_goals try rfl))
    all_goals first|exact sX (by simp;rfl)|exact sX (by simp[dN])|exact .inl rfl|rfl|(simp;done)|exact⟨rfl,rfl⟩|trace_state
  · obtain rfl:j=es.length:=by simp only[cj,aq] at h1;omega
    repeat' (first
    |refine gK ?_
    |(((with_reducible show aB _ _ _ _);refine dK ?_)<;>with_reducible refine wK ?_)
    |((with_reducible show(_∧_)∧_∧_);(refine eK ?_ ?_<;>with_reducible repeat' (first|exact trivial|(show _∧_;refine aK ?_ ?_)))))
    all_goals first|rfl|exact kY rfl rfl rfl (by simp) (ay _)|trace_state
end Go.Proofs.Heir
end
section
namespace Go.Proofs.Heir
open Go Go.Am Go.RowKit Go.Lib
set_option maxRecDepth 100000
set_option maxHeartbeats 8000000
variable {l l' : List ai} {m : Int}
theorem BH (R:RF l m){n:Int}(hn:af l n=true):aj Tryz.prog 154 [] [aN ⟨l,m⟩,ah n] [] (bA (ju l n)):=GN ⟨l,m⟩ R.tree n hn
theorem FA (R:RF l m)(h60:l.length≤60){n:Int}(hn:af l n=true):(IN l n).length≤60:=by
  have:=U.jx R.tree l.length hn
  exact Nat.le_trans (List.length_filter_le _ _) (by omega)
theorem Io (R:RF l m)(h60:l.length≤60){k:Nat}(hk:k<l.length):aj Tryz.prog 196 [] [aN ⟨l,m⟩,ah k] [] (bY (IN l k)):=IM ⟨l,m⟩ (cD R h60) R.tree k _ (bU hk)
theorem xR (R:RF l m)(h60:l.length≤60){k:Nat}(hk:k<l.length)(ns:List aO)(hns:ns.length≤100000)(x:aO):aj Tryz.prog 155 [] [kU ⟨l,m⟩ ns,ah k,lz x] [] (kU ⟨l,m⟩ (ns++k9 l k x)):=
  GB ⟨l,m⟩ (by have:=FA R h60 (eI hk);omega) (Io R h60 hk) ns hns x
theorem vh (hs:bq l){k:Nat}{x y:ai}(hx:l[k]? =some x)(h1:y.kids.length≤x.kids.length)(h2:y.attrs=x.attrs)(h3:y.name=x.name):bq (l.set k y):=by
  have hxm:=bV hx
  have hmm:∀w∈l.set k y,w∈l∨w=y:=fun w hw=>List.mem_or_eq_of_mem_set hw
  refine⟨by rw[List.length_set];exact hs.len,fun w hw=>?_,fun w hw=>?_,fun w hw=>?_⟩
  · rcases hmm w hw with h|rfl
    ·exact hs.kids w h
    ·exact Nat.le_trans h1 (hs.kids x hxm)
  · rcases hmm w hw with h|rfl
    ·exact hs.attrs w h
    ·rw[h2];exact hs.attrs x hxm
  · rcases hmm w hw with h|rfl
    ·exact hs.name w h
    ·rw[h3];exact hs.name x hxm
theorem wY (R:RF l m)(h60:l.length≤60){k:Nat}(hk:k<l.length)(ns:List aO)(hns:ns.length≤90000):aj Tryz.prog 89 [] [kU ⟨l,m⟩ ns,ah k] [] (kU ⟨bj l k,m⟩ (bW (l,ns) k).2):=by
  have ht:=eI hk
  have hs:=cD R h60
  obtain⟨y,hy,hyn⟩:∃y,l[k]? =some y∧nd l k=y:=⟨_,bU hk,rfl⟩
  by_cases hp:(nd l k).parent=-1
  · have e1:bj l k=l:=by unfold bj;rw[if_pos hp]
    have e2:bW (l,ns) k=(l,ns):=by unfold bW;rw[if_pos hp]
    rw[e1,e2]
    rw[hyn] at hp
    have hn:=dX ⟨l,m⟩ ns
    obtain⟨y1,y2,y3,y4,y5,y6,y7,y8,y9,y10⟩:=y
    simp only at hp
    subst hp
    refine aj.aA (rvs:=[.cell 4 56]) G ak Tryz.func89 rfl Tryz.ntmps89 rfl rfl ?_;with_reducible refine wD ?_
    repeat' (first
    |refine gK ?_
    | ((first
      |((with_reducible show aH _ _ _ _ _);refine aH.mk k (aG _) rfl (az hy) ?_)
      |((with_reducible show aB _ _ _ _);refine dK ?_))<;>with_reducible refine wK ?_)
    |((with_reducible show(_∧_)∧_∧_);(refine eK ?_ ?_<;>with_reducible repeat' (first|exact trivial|(show _∧_;refine aK ?_ ?_)))))
    all_goals first|rfl|exact⟨rfl,rfl⟩|exact hn|trace_state
  · have hq:=R.par k ht hp
    obtain⟨a,z,hpa,hz,hzn⟩:=aI.1 hq.2.1
    have hdup:=R.dup a (by rw[←hpa];exact hq.2.1)
    have hmem:(k:Int)∈ (nd l a).kids:=by rw[←hpa];exact hq.2.2.2
    have hka:k≠a:=fun e=>by
      have h1:=R.ja ht
      rw[R.fj ht hp,hpa,e] at h1
      exact h1 rfl
    have hza:nd l a=z:=by rw[←hpa];exact hzn
    have hout:bj l k=(l.set a {z with kids:=z.kids.erase k}).set k {y with parent:=-1}:=by
      unfold bj
      rw[if_neg hp]
      unfold kg
      rw[hpa]
      dsimp only
      rw[Int.toNat_natCast,Int.toNat_natCast,hza]
      congr 1
      have:nd (l.set a {z with kids:=z.kids.erase k}) k=y:=cI (by rw[List.getElem?_set,if_neg (fun e=>hka e.symm)];exact hy)
      rw[this]
    have hto:(bW (l,ns) k).2=ns++if ju l k=true then k9 l k (dY 2 0 0) else[]:=by unfold bW;rw[if_neg hp]
    have hal:a<l.length:=(aZ hz).1
    have h154:=BH R ht
    have h155:=xR R h60 hk ns (by omega) (dY 2 0 0)
    have h156:=sD ⟨l,m⟩ hs (show 1≤l.length by omega) a hal {z with kids:=z.kids.erase k}
    have hs1:bq (l.set a {z with kids:=z.kids.erase k}):=vh hs hz List.length_erase_le rfl rfl
    have hy1:(l.set a {z with kids:=z.kids.erase k})[k]? =some y:=by rw[List.getElem?_set,if_neg (fun e=>hka e.symm)];exact hy
    have h156':=sD ⟨l.set a {z with kids:=z.kids.erase k},m⟩ hs1 (by simp only[List.length_set];omega) k (by simp only[List.length_set];exact hk) {y with parent:=-1}
    rw[hout,hto]
    have hzl:z.kids.length≤60:=hs.kids z (bV hz)
    rw[hza] at hdup
    have hfl:=AH (n:=(k:Int)) hdup
    rw[hyn] at hpa
    clear hp
    have fp:=eq_false (show ¬ (a:Int)=-1 by omega)
    have hn1:=dX ⟨l,m⟩ (ns++k9 l k (dY 2 0 0))
    have hn2:=lH ⟨l.set a {z with kids:=z.kids.erase k},m⟩
    have hn3:=lH ⟨(l.set a {z with kids:=z.kids.erase k}).set k {y with parent:=-1},m⟩
    simp only at h156 h156' hn1 hn2 hn3
    obtain⟨W,hW⟩:∃W:Nat→List Int,W=fun j=>(z.kids.take j).filter fun c=> !decide (c=(k:Int)):=⟨_,rfl⟩
    have hw0:W 0=[]:=by rw[hW];rfl
    have hwe:W z.kids.length=z.kids.erase k:=by rw[hW];simp only;rw[List.take_length,hfl]
    have hwl:∀j,(W j).length≤60:=fun j=>by rw[hW];exact Nat.le_trans (List.length_filter_le _ _) (by rw[gd];omega)
    have hws:∀j c,z.kids[j]? =some c→W (j+1)=W j++ (if c=(k:Int) then[] else[c]):=fun j c h=>by
      rw[hW];simp only
      rw[List.take_add_one,h,List.filter_append]
      congr 1
      show List.filter _ [c]=_
      by_cases e:c=(k:Int)
      ·rw[if_pos e];simp[e]
      ·rw[if_neg e];simp[e]
    clear hW hfl hdup hmem hq hza hzn hyn hout hto hs1 hs
    generalize k9 l k (dY 2 0 0)=tl at*
    generalize z.kids.erase k=er at*
    obtain⟨y1,y2,y3,y4,y5,y6,y7,y8,y9,y10⟩:=y
    obtain⟨z1,z2,z3,z4,z5,z6,z7,z8,z9,z10⟩:=z
    simp only at hpa hzl hwe hws h156 h156' hn2 hn3 hy1
    subst hpa
    generalize hl1:l.set a ⟨z1,z2,z3,z4,z5,z6,er,z8,z9,z10⟩=l1 at*
    generalize hl2:l1.set k ⟨y1,y2,y3,y4,y5,-1,y7,y8,y9,y10⟩=l2 at*
    obtain⟨ns1,hns1⟩:∃ns1,ns1=ns++ (if ju l k=true then tl else[]):=⟨_,rfl⟩
    rw[←hns1]
    refine And.left (b:=True) ?_
    apply Jd
    · intro tail
      cases hc:ju l k with
      | true=>
        rw[hc] at h154
        have hn:ns1=ns++tl:=by rw[hns1,hc];rfl
        rw[←hn] at h155 hn1
        refine aj.aA (rvs:=[.cell 4 56]) G ak Tryz.func89 rfl Tryz.ntmps89 rfl rfl ?_;with_reducible refine wD ?_
        (have fct:=fp;(repeat' (first
    |refine gF ?_
    | ((first
      |((with_reducible show aH _ _ _ _ _);first|refine aH.mk k (aG _) rfl (az hy) ?_|refine aH.mk a (aG _) rfl (az hz) ?_)
      |((with_reducible show ae _ _ 154 _ _ _ _);refine ae.lit [] h154 DQ ⟨⟨rfl,rfl,trivial⟩,rfl,trivial⟩ rfl rfl ?_)
      |((with_reducible show ae _ _ 155 _ _ _ _);refine ae.val [] h155 D2 ⟨⟨rfl,rfl,rfl,trivial⟩,rfl,⟨rfl,rfl,rfl,rfl,rfl,rfl,rfl,rfl,rfl,trivial⟩,trivial⟩ rfl rfl hn1 ?_)
      |((with_reducible show aB _ _ _ _);refine dK ?_))<;>with_reducible refine wK ?_)
    | ((with_reducible show(_∧_)∧_∧_);(refine eK ?_ ?_<;>with_reducible repeat' (first|exact trivial|(show _∧_;refine aK ?_ ?_))))));all_goals clear fct)
        refine bE.ghost 7 71 1 rfl rfl ?_
        refine bE.use G ak (fun(j:Nat)=>[(1,ah (k:Int)),(2,.ptr 20 0 0),(4,.ptr 40 0 0),(5,ah (a:Int)),(6,.ptr 60 0 0),(7,.own 71 0 (W j).length),(8,ah j)])
          (fun j=>[(20,.live 3 [kU ⟨l,m⟩ ns1] false),(40,.live 3 [.agg [.lit (.slice none 0 0),ah 0,.lit (.slice none 0 0)]] false),(60,.live 10 [aG ⟨z1,z2,z3,z4,z5,z6,z7,z8,z9,z10⟩] false),(71,aF (W j))])
          (fun j=>j≤z7.length) (fun j=>z7.length-j) 0 (Nat.zero_le _) ?_ ?_
        · rw[hw0]
          (refine fK ?_;(with_reducible repeat' (first|exact trivial|(show _∧_;refine aK ?_ ?_)));(all_goals try rfl))
          all_goals first|exact iJ rfl|exact .inl rfl|rfl|(simp;done)|exact⟨rfl,rfl⟩|trace_state
        ·exact tail.get
      | false=>
        rw[hc] at h154
        have hn:ns1=ns:=by rw[hns1,hc];exact List.append_nil _
        clear hns1 h155 hn1
        subst hn
        refine aj.aA (rvs:=[.cell 4 56]) G ak Tryz.func89 rfl Tryz.ntmps89 rfl rfl ?_;with_reducible refine wD ?_
        (have fct:=fp;(repeat' (first
    |refine gF ?_
    | ((first
      |((with_reducible show aH _ _ _ _ _);first|refine aH.mk k (aG _) rfl (az hy) ?_|refine aH.mk a (aG _) rfl (az hz) ?_)
      |((with_reducible show ae _ _ 154 _ _ _ _);refine ae.lit [] h154 DQ ⟨⟨rfl,rfl,trivial⟩,rfl,trivial⟩ rfl rfl ?_)
      |((with_reducible show aB _ _ _ _);refine dK ?_))<;>with_reducible refine wK ?_)
    | ((with_reducible show(_∧_)∧_∧_);(refine eK ?_ ?_<;>with_reducible repeat' (first|exact trivial|(show _∧_;refine aK ?_ ?_))))));all_goals clear fct)
        refine bE.ghost 7 71 1 rfl rfl ?_
        refine bE.use G ak (fun(j:Nat)=>[(1,ah (k:Int)),(2,.ptr 20 0 0),(4,.ptr 40 0 0),(5,ah (a:Int)),(6,.ptr 60 0 0),(7,.own 71 0 (W j).length),(8,ah j)])
          (fun j=>[(20,.live 3 [kU ⟨l,m⟩ ns1] false),(40,.live 3 [.agg [.lit (.slice none 0 0),ah 0,.lit (.slice none 0 0)]] false),(60,.live 10 [aG ⟨z1,z2,z3,z4,z5,z6,z7,z8,z9,z10⟩] false),(71,aF (W j))])
          (fun j=>j≤z7.length) (fun j=>z7.length-j) 0 (Nat.zero_le _) ?_ ?_
        · rw[hw0]
          (refine fK ?_;(with_reducible repeat' (first|exact trivial|(show _∧_;refine aK ?_ ?_)));(all_goals try rfl))
          all_goals first|exact iJ rfl|exact .inl rfl|rfl|(simp;done)|exact⟨rfl,rfl⟩|trace_state
        ·exact tail.get
    clear hns1 h155 hn1 h154
    intro j hj
    have hwj:=hwl j
    have hzm:(z7.map bJ).length=z7.length:=bP ..
    with_reducible refine wK ?_
    refine aM.mk (fun h1=>?_) (fun h1=>?_)<;>(try simp only[aq] at h1)<;>with_reducible refine wK ?_
    · have hjl:j<z7.length:=by simp only[aP,aq] at h1;omega
      obtain⟨c,hc⟩:∃c,z7[j]? =some c:=⟨_,bH hjl⟩
      have hst:=hws j c hc
      by_cases e:c=(k:Int)
      · rw[if_pos e,List.append_nil] at hst
        have fc:=eq_true e
        (have fct:=fc;(repeat' (first
    |refine gF ?_
    | ((first
      |((with_reducible show aH _ _ _ _ _);refine aH.mk j (ah c) rfl (ct hc) ?_)
      |((with_reducible show aB _ _ _ _);refine dK ?_))<;>with_reducible refine wK ?_)
    | ((with_reducible show(_∧_)∧_∧_);(refine eK ?_ ?_<;>with_reducible repeat' (first|exact trivial|(show _∧_;refine aK ?_ ?_))))));all_goals clear fct)
        refine aW.mk (j+1) (by omega) (by omega) ?_
        rw[hst]
        (refine fK ?_;(with_reducible repeat' (first|exact trivial|(show _∧_;refine aK ?_ ?_)));(all_goals try rfl))
        all_goals first|exact iJ rfl|exact .inl rfl|rfl|(simp;done)|exact⟨rfl,rfl⟩|trace_state
      · rw[if_neg e] at hst
        have fc:=eq_false e
        (have fct:=fc;(repeat' (first
    |refine gF ?_
    | ((first
      |((with_reducible show aH _ _ _ _ _);refine aH.mk j (ah c) rfl (ct hc) ?_)
      |((with_reducible show dO _ _ _ _ _ _ _ _ _ _);refine dO.mk ((W j).map bJ) [ah c] ⟨rfl,(bP ..).symm,rfl⟩ ⟨rfl,rfl,rfl⟩ rfl (by simp;omega) (by simp;omega) ?_)
      |((with_reducible show aB _ _ _ _);refine dK ?_))<;>with_reducible refine wK ?_)
    | ((with_reducible show(_∧_)∧_∧_);(refine eK ?_ ?_<;>with_reducible repeat' (first|exact trivial|(show _∧_;refine aK ?_ ?_))))));all_goals clear fct)
        refine aW.mk (j+1) (by omega) (by omega) ?_
        rw[hst]
        (refine fK ?_;(with_reducible repeat' (first|exact trivial|(show _∧_;refine aK ?_ ?_)));(all_goals try rfl))
        all_goals first|exact iJ (by simp;rfl)|exact iJ (by simp[bJ])|exact .inl rfl|rfl|(simp;done)|exact⟨rfl,rfl⟩|trace_state
    · obtain rfl:j=z7.length:=by simp only[cj,aq] at h1;omega
      rw[hwe]
      repeat' (first
    |refine gK ?_
    | ((first
      |((with_reducible show aH _ _ _ _ _);refine aH.mk k (aG _) rfl (az hy1) ?_)
      |((with_reducible show ae _ _ 156 _ _ _ _);first|refine ae.val [71] h156 tN ⟨⟨rfl,rfl,trivial⟩,rfl,⟨rfl,rfl,rfl,rfl,rfl,rfl,bX rfl rfl rfl rfl,rfl,rfl,rfl,trivial⟩,trivial⟩ rfl rfl hn2 ?_|refine ae.val [] h156' tN ⟨⟨rfl,rfl,trivial⟩,rfl,⟨rfl,rfl,rfl,rfl,rfl,rfl,rfl,rfl,rfl,rfl,trivial⟩,trivial⟩ rfl rfl hn3 ?_)
      |((with_reducible show aB _ _ _ _);refine dK ?_))<;>with_reducible refine wK ?_)
    | ((with_reducible show(_∧_)∧_∧_);(refine eK ?_ ?_<;>with_reducible repeat' (first|exact trivial|(show _∧_;refine aK ?_ ?_)))))
      all_goals first|rfl|exact⟨rfl,rfl⟩|trace_state
end Go.Proofs.Heir
end
