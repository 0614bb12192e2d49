/- Models, plain laws and contracts of functions of the given program; conditions as stated in each theorem. By an AI agent. -/
import Derived.Test.YtkhjcnjicjgfiaaGreatDoorW33
import Derived.Test.YtkhjcnjicjgfiaaGreatDoorW32
import Derived.Test.YtkhjcnjicjgfiaaGreatDoorW30
import Derived.Test.YtkhjcnjicjgfiaaGreatDoorW23
import Derived.Test.YtkhjcnjicjgfiaaGreatDoorW16
import Derived.Test.YtkhjcnjicjgfiaaGreatDoorW20
set_option linter.unusedSimpArgs false
set_option linter.unusedVariables false
namespace Go.Proofs.Heir
open Go Go.Am Go.RowKit Go.Lib
set_option maxRecDepth 100000
set_option maxHeartbeats 8000000
set_option maxHeartbeats 16000000
def oL:List Int→Int→Int
  |[],_=> -1
  |a::r,n=>if a≠n then a else oL r n
theorem nF {r:List Int}{u:Nat}{z n:Int}(h:r[u]? =some z):oL (r.drop u) n=if z≠n then z else oL (r.drop (u+1)) n:=by
  obtain⟨hl,he⟩:=aZ h
  rw[List.drop_eq_getElem_cons hl,he];rfl
theorem oO {r:List Int}{u:Nat}{n:Int}(h:r.length≤u):oL (r.drop u) n=-1:=by rw[List.drop_eq_nil_of_le h];rfl
theorem qd {ks:List Int}(hd:ks.Nodup){i:Nat}{c:Int}(h:ks[i]? =some c):∀ (j:Nat) x,j<i→ks[j]? =some x→x≠c:=fun j x hj hx e=>by
  obtain⟨h1,e1⟩:=aZ h
  obtain⟨h2,e2⟩:=aZ hx
  exact(List.pairwise_iff_getElem.1 hd) j i h2 h1 hj (by rw[e1,e2,e])
theorem xW {ks:List Int}{i:Nat}{c n:Int}(hd:ks.Nodup)(h:ks[i]? =some c)(hn:n≠-1):(if cu ks c≠n then cu ks c else cu ks n)=oL (ks.drop (i+1)) n:=by
  rw[qp h (qd hd h)]
  cases h1:ks[i+1]? with
  | none=>
    rw[oO (List.getElem?_eq_none_iff.1 h1)]
    show(if(-1:Int)≠n then(-1:Int) else _)=-1
    rw[if_pos (fun e=>hn e.symm)]
  | some z=>
    rw[nF h1]
    show(if z≠n then z else cu ks n)=_
    by_cases e:z=n
    · subst e
      rw[if_neg (fun q=>q rfl),if_neg (fun q=>q rfl),qp h1 (qd hd h1)]
      cases h2:ks[i+1+1]? with
      |none=>rw[oO (List.getElem?_eq_none_iff.1 h2)];rfl
      | some w=>
        rw[nF h2]
        show w=_
        rw[if_pos (fun e=>qd hd h2 (i+1) z (by omega) h1 e.symm)]
    ·rw[if_pos e,if_pos e]
theorem J3 {l:List ai}{m:Int}(hs:bq l){ci pi:Nat}{x y:ai}(hx:l[ci]? =some x)(hp:x.parent=(pi:Int))(hy:l[pi]? =some y){i:Nat}(hi:y.kids[i]? =some (ci:Int))(hd:y.kids.Nodup)(n:Int)(hn:n≠-1)(f:ForM)(hf:f=⟨l,m⟩):
    aj Tryz.prog 87 [] [aN f,ah ci,ah n] [] (ah (if cu y.kids ci≠n then cu y.kids ci else cu y.kids n)):=by
  subst hf
  rw[xW hd hi hn]
  have hkl:y.kids.length≤60:=hs.kids y (bV hy)
  have h73:=qU y.kids (by omega) ci
  rw[wM hi (qd hd hi)] at h73
  have hil:=(aZ hi).1
  obtain⟨x1,x2,x3,x4,x5,x6,x7,x8,x9,x10⟩:=x
  obtain⟨y1,y2,y3,y4,y5,y6,y7,y8,y9,y10⟩:=y
  simp only at*
  subst hp
  have hyl:(y7.map bJ).length=y7.length:=bP ..
  obtain⟨r,hr⟩:∃r,r=y7.drop (i+1):=⟨_,rfl⟩
  have hrl:r.length=y7.length- (i+1):=by rw[hr,List.length_drop]
  have cut:r.map bJ=((y7.map bJ).drop (i+1)).take r.length:=by
    rw[←List.map_drop,←hr,qV (by rw[bP];omega)]
  rw[←hr]
  have hrm:(r.map bJ).length=r.length:=bP ..
  refine aj.aA (rvs:=[.tmp 6]) G ak Tryz.func87 rfl Tryz.ntmps87 rfl rfl ?_;with_reducible refine wD ?_
  (have fct:=hyl;(repeat' (first
    |refine gF ?_
    | ((first
      |((with_reducible show aH _ _ _ _ _);first|refine aH.mk ci (aG _) rfl (az hx) ?_|refine aH.mk pi (aG _) rfl (az hy) ?_)
      |((with_reducible show ae _ _ 73 _ _ _ _);refine ae.lit [] h73 GQ ⟨rfl,rfl,trivial⟩ rfl rfl ?_)
      |((with_reducible show yE _ _ _ _ _ _);refine yE.mk (i+1) r.length (r.map bJ) (by(try simp only[aq]);first|rfl|omega) (by(try simp only[aq]);omega) (by rw[hyl];omega) cut ?_)
      |((with_reducible show aB _ _ _ _);refine dK ?_))<;>with_reducible refine wK ?_)
    |((with_reducible show(_∧_)∧_∧_);(refine eK ?_ ?_<;>with_reducible repeat' (first|exact trivial|(show _∧_;refine aK ?_ ?_))))));all_goals clear fct)
  obtain⟨v,hv⟩:∃v,v=oL r n:=⟨_,rfl⟩
  rw[←hv]
  refine bE.use G ak (fun(u:Nat)=>[(2,ah n),(26,bY r),(27,ah r.length),(28,ah u)]) (fun _=>[]) (fun u=>u≤r.length∧oL (r.drop u) n=v) (fun u=>r.length-u) 0 ⟨Nat.zero_le _,by rw[hv,List.drop_zero]⟩ ?_ ?_
  · (refine fK ?_;(with_reducible repeat' (first|exact trivial|(show _∧_;refine aK ?_ ?_)));(all_goals try rfl))
    all_goals first|rfl|(rw[hrm])|trace_state
  rintro u ⟨hu,hfv⟩
  with_reducible refine wK ?_
  refine aM.mk (fun h1=>?_) (fun h1=>?_)<;>(try simp only[aq] at h1)<;>with_reducible refine wK ?_
  · have hul:u<r.length:=by simp only[aP,aq] at h1;omega
    obtain⟨z,hz⟩:∃z,r[u]? =some z:=⟨_,bH hul⟩
    rw[nF hz] at hfv
    by_cases e:z=n
    · rw[if_neg (fun q=>q e)] at hfv
      have fz:=eq_true e
      (have fct:=fz;(repeat' (first
    |refine gF ?_
    |(((with_reducible show aH _ _ _ _ _);refine aH.mk u (ah z) rfl (ct hz) ?_)<;>with_reducible refine wK ?_)
    | ((with_reducible show(_∧_)∧_∧_);(refine eK ?_ ?_<;>with_reducible repeat' (first|exact trivial|(show _∧_;refine aK ?_ ?_))))));all_goals clear fct)
      refine aW.mk (u+1) ⟨by omega,hfv⟩ (by omega) ?_
      (refine fK ?_;(with_reducible repeat' (first|exact trivial|(show _∧_;refine aK ?_ ?_)));(all_goals try rfl))
      all_goals first|rfl|trace_state
    · rw[if_pos e] at hfv
      subst hfv
      have fz:=eq_false e
      (have fct:=fz;(repeat' (first
    |refine gF ?_
    |(((with_reducible show aH _ _ _ _ _);refine aH.mk u (ah z) rfl (ct hz) ?_)<;>with_reducible refine wK ?_)
    | ((with_reducible show(_∧_)∧_∧_);(refine eK ?_ ?_<;>with_reducible repeat' (first|exact trivial|(show _∧_;refine aK ?_ ?_))))));all_goals clear fct)
      all_goals first|rfl|trace_state
  · have hul:r.length≤u:=by simp only[cj,aq] at h1;omega
    rw[oO hul] at hfv
    subst hfv
    repeat' (first
    |refine gK ?_
    |((with_reducible show(_∧_)∧_∧_);(refine eK ?_ ?_<;>with_reducible repeat' (first|exact trivial|(show _∧_;refine aK ?_ ?_)))))
    all_goals first|rfl|trace_state
theorem uf {l:List ai}{a ta b tb:Nat}(h:a≠b):aR l a ta b tb=aR l b tb a ta:=by
  apply List.ext_getElem?
  intro j
  unfold aR
  rw[List.getElem?_mapIdx,List.getElem?_mapIdx]
  cases l[j]? with
  |none=>rfl
  | some y=>
    show some (dZ a ta b tb j y)=some (dZ b tb a ta j y)
    unfold dZ
    by_cases e:j=a
    ·rw[if_pos e,if_neg (fun q=>h (by omega)),if_pos e]
    ·rw[if_neg e,if_neg e]
theorem zu {l l1 l':List ai}{m n p c next:Int}{a b:Nat}{ka kb k1 ka' kb':List Int}{t1 told:List aO}
    (h87:aj Tryz.prog 87 [] [aN ⟨l,m⟩,ah c,ah n] [] (ah next))
    (h79:aj Tryz.prog 79 [aT m l.length 4 (.own 3 0 0),aF ka,aF kb,aU [],aV l a 1 b 2] [.ptr 0 0 0,ah c]
      [aT m l.length 4 (.own 6 0 t1.length),.dead,aF kb,.dead,aV l1 a 5 b 2,aF k1,aU t1] (.tup []))
    (h75:aj Tryz.prog 75 [aT m l.length 4 (.own 3 0 t1.length),aF k1,aF kb,aU t1,aV l1 a 1 b 2] [.ptr 0 0 0,ah n,ah p,ah next]
      [aT m l.length 4 (.own 7 0 told.length),.dead,.dead,.dead,aV l' a 5 b 6,aF ka',aF kb',aU told] (.tup [])):
    aj Tryz.prog 86 [aT m l.length 4 (.own 3 0 0),aF ka,aF kb,aU [],aV l a 1 b 2] (.ptr 0 0 0::kz ⟨l,m⟩ n p c)
      [aT m l.length 4 (.own 7 0 told.length),.dead,.dead,.dead,aV l' a 5 b 6,aF ka',aF kb',aU told] gq:=by
  unfold kz
  refine aj.fW [(5,191),(6,192),(7,193)] (rvs:=[.tmp 6]) G ak Tryz.func86 rfl Tryz.ntmps86 rfl rfl ?_;with_reducible refine wD ?_
  repeat' (first
    |refine gK ?_
    | ((first
      |((with_reducible show ae _ _ 87 _ _ _ _);refine ae.lit [] h87 Na ⟨⟨rfl,rfl,trivial⟩,rfl,rfl,trivial⟩ rfl rfl ?_)
      |((with_reducible show ae _ _ 79 _ _ _ _);refine ae.dy (news:=[aT m l.length 4 (.own 143 0 t1.length),.dead,aF kb,.dead,aV l1 a 141 b 2,aF k1,aU t1]) [0,1,2,3,4,141,143] [] h79 KW ⟨⟨rfl,rfl⟩,rfl,trivial⟩ ⟨⟨rfl,.inr ⟨⟨⟨⟨rfl,rfl⟩,rfl,⟨rfl,rfl⟩,trivial⟩,trivial⟩,rfl⟩⟩,⟨rfl,.inl ⟨rfl,aa _⟩⟩,⟨rfl,.inl ⟨rfl,aa _⟩⟩,⟨rfl,.inl ⟨rfl,ay _⟩⟩,⟨rfl,bR (fun _=>rfl) (fun _=>rfl)⟩,trivial⟩ rfl ⟨⟨rfl,rfl⟩,rfl⟩ rfl ⟨⟨rfl,.inr ⟨rfl,rfl,rfl⟩⟩,⟨rfl,.inl ⟨rfl,aa _⟩⟩,⟨rfl,bL rfl rfl (by decide) (by decide)⟩,⟨rfl,.inl ⟨rfl,aa _⟩⟩,⟨rfl,.inl ⟨rfl,ay _⟩⟩,trivial⟩ rfl rfl ?_)
      |((with_reducible show ae _ _ 75 _ _ _ _);refine ae.dy (news:=[aT m l.length 4 (.own 193 0 told.length),.dead,.dead,.dead,aV l' a 191 b 192,aF ka',aF kb',aU told]) [0,141,2,143,4,191,192,193] [] h75 Mr ⟨⟨rfl,rfl⟩,rfl,rfl,rfl,trivial⟩ ⟨⟨rfl,.inr ⟨⟨⟨⟨rfl,rfl⟩,rfl,⟨rfl,rfl⟩,trivial⟩,trivial⟩,rfl⟩⟩,⟨rfl,.inl ⟨rfl,aa _⟩⟩,⟨rfl,.inl ⟨rfl,aa _⟩⟩,⟨rfl,.inl ⟨rfl,ay _⟩⟩,⟨rfl,bR (fun _=>rfl) (fun _=>rfl)⟩,trivial⟩ rfl ⟨⟨rfl,rfl⟩,rfl⟩ rfl ⟨⟨rfl,.inr ⟨rfl,rfl,rfl⟩⟩,⟨rfl,bL rfl rfl (by decide) (by decide)⟩,⟨rfl,.inl ⟨rfl,aa _⟩⟩,⟨rfl,.inl ⟨rfl,aa _⟩⟩,⟨rfl,.inl ⟨rfl,ay _⟩⟩,trivial⟩ rfl rfl ?_)
      |((with_reducible show aB _ _ _ _);refine dK ?_))<;>with_reducible refine wK ?_)
    |((with_reducible show(_∧_)∧_∧_);(refine eK ?_ ?_<;>with_reducible repeat' (first|exact trivial|(show _∧_;refine aK ?_ ?_)))))
  all_goals first
    |rfl
    |exact⟨.refl (aa _),aa _⟩
    |exact⟨.refl (ay _),ay _⟩
    |exact bF (fun _=>rfl) (fun _=>rfl)
    |trace_state
theorem rI {l l1 l':List ai}{m n p c next:Int}{a b:Nat}(hab:a≠b){ka kb k1 ka' kb':List Int}{t1 told:List aO}
    (h87:aj Tryz.prog 87 [] [aN ⟨l,m⟩,ah c,ah n] [] (ah next))
    (h79:aj Tryz.prog 79 [aT m l.length 4 (.own 3 0 0),aF kb,aF ka,aU [],aV l b 1 a 2] [.ptr 0 0 0,ah c]
      [aT m l.length 4 (.own 6 0 t1.length),.dead,aF ka,.dead,aV l1 b 5 a 2,aF k1,aU t1] (.tup []))
    (h75:aj Tryz.prog 75 [aT m l.length 4 (.own 3 0 t1.length),aF ka,aF k1,aU t1,aV l1 a 1 b 2] [.ptr 0 0 0,ah n,ah p,ah next]
      [aT m l.length 4 (.own 7 0 told.length),.dead,.dead,.dead,aV l' a 5 b 6,aF ka',aF kb',aU told] (.tup [])):
    aj Tryz.prog 86 [aT m l.length 4 (.own 3 0 0),aF ka,aF kb,aU [],aV l a 1 b 2] (.ptr 0 0 0::kz ⟨l,m⟩ n p c)
      [aT m l.length 4 (.own 7 0 told.length),.dead,.dead,.dead,aV l' a 5 b 6,aF ka',aF kb',aU told] gq:=by
  unfold kz
  have hr1:aR l a 1 b 2=aR l b 2 a 1:=uf hab
  have hr2:aR l1 b 141 a 1=aR l1 a 1 b 141:=uf (fun e=>hab e.symm)
  refine aj.fW [(5,191),(6,192),(7,193)] (rvs:=[.tmp 6]) G ak Tryz.func86 rfl Tryz.ntmps86 rfl rfl ?_;with_reducible refine wD ?_
  repeat' (first
    |refine gK ?_
    | ((first
      |((with_reducible show ae _ _ 87 _ _ _ _);refine ae.lit [] h87 Na ⟨⟨rfl,rfl,trivial⟩,rfl,rfl,trivial⟩ rfl rfl ?_)
      |((with_reducible show ae _ _ 79 _ _ _ _);refine ae.dy (news:=[aT m l.length 4 (.own 143 0 t1.length),.dead,aF ka,.dead,aV l1 b 141 a 1,aF k1,aU t1]) [0,2,1,3,4,141,143] [] h79 KW ⟨⟨rfl,rfl⟩,rfl,trivial⟩ ⟨⟨rfl,.inr ⟨⟨⟨⟨rfl,rfl⟩,rfl,⟨rfl,rfl⟩,trivial⟩,trivial⟩,rfl⟩⟩,⟨rfl,.inl ⟨rfl,aa _⟩⟩,⟨rfl,.inl ⟨rfl,aa _⟩⟩,⟨rfl,.inl ⟨rfl,ay _⟩⟩,⟨rfl,cast (congrArg (sI _ _ _ _) hr1.symm) (bR (fun _=>rfl) (fun _=>rfl))⟩,trivial⟩ rfl ⟨⟨rfl,rfl⟩,rfl⟩ rfl ⟨⟨rfl,.inr ⟨rfl,rfl,rfl⟩⟩,⟨rfl,.inl ⟨rfl,aa _⟩⟩,⟨rfl,bL rfl rfl (by decide) (by decide)⟩,⟨rfl,.inl ⟨rfl,aa _⟩⟩,⟨rfl,.inl ⟨rfl,ay _⟩⟩,trivial⟩ rfl rfl ?_)
      |((with_reducible show ae _ _ 75 _ _ _ _);refine ae.dy (news:=[aT m l.length 4 (.own 193 0 told.length),.dead,.dead,.dead,aV l' a 191 b 192,aF ka',aF kb',aU told]) [0,1,141,143,4,191,192,193] [] h75 Mr ⟨⟨rfl,rfl⟩,rfl,rfl,rfl,trivial⟩ ⟨⟨rfl,.inr ⟨⟨⟨⟨rfl,rfl⟩,rfl,⟨rfl,rfl⟩,trivial⟩,trivial⟩,rfl⟩⟩,⟨rfl,.inl ⟨rfl,aa _⟩⟩,⟨rfl,.inl ⟨rfl,aa _⟩⟩,⟨rfl,.inl ⟨rfl,ay _⟩⟩,⟨rfl,cast (congrArg (sI _ _ _ _) hr2.symm) (bR (fun _=>rfl) (fun _=>rfl))⟩,trivial⟩ rfl ⟨⟨rfl,rfl⟩,rfl⟩ rfl ⟨⟨rfl,.inr ⟨rfl,rfl,rfl⟩⟩,⟨rfl,bL rfl rfl (by decide) (by decide)⟩,⟨rfl,.inl ⟨rfl,aa _⟩⟩,⟨rfl,.inl ⟨rfl,aa _⟩⟩,⟨rfl,.inl ⟨rfl,ay _⟩⟩,trivial⟩ rfl rfl ?_)
      |((with_reducible show aB _ _ _ _);refine dK ?_))<;>with_reducible refine wK ?_)
    |((with_reducible show(_∧_)∧_∧_);(refine eK ?_ ?_<;>with_reducible repeat' (first|exact trivial|(show _∧_;refine aK ?_ ?_)))))
  all_goals first
    |rfl
    |exact⟨.refl (aa _),aa _⟩
    |exact⟨.refl (ay _),ay _⟩
    |exact bF (fun _=>rfl) (fun _=>rfl)
    |trace_state
end Go.Proofs.Heir
namespace Go.Proofs.Heir
open Go Go.Am Go.RowKit Go.Lib
set_option maxRecDepth 100000
set_option maxHeartbeats 8000000
set_option maxHeartbeats 4000000
theorem lN {f:ForM}{n p c:Int}(h:iw f n p c≠0):replaceM f n p c=(f,[],iw f n p c):=by unfold replaceM;rw[if_neg h]
theorem Kn (f:ForM)(hs:bq f.nodes)(h60:f.nodes.length≤60)(n p c:Int):aj Tryz.prog 36 [] [aN f,ah n,ah p,ah c] [] (.tup [aN (replaceM f n p c).1,mD (replaceM f n p c).2.1,ah (replaceM f n p c).2.2]):=by
  have h85:=Km f hs n p c
  by_cases e0:iw f n p c=0
  · have ha:dh f n p c=true:=by
      cases h:dh f n p c with
      |true=>rfl
      |false=>unfold iw at e0;rw[h] at e0;simp at e0
    have ht2:(decide (c=-1)&&(decide (dI f.nodes p c c n=0)||k8 f.nodes n p))=false∧dI f.nodes p c c n=0:=by
      unfold iw at e0
      rw[if_pos ha] at e0
      cases h:(decide (c=-1)&&(decide (dI f.nodes p c c n=0)||k8 f.nodes n p)) with
      |true=>rw[h] at e0;simp at e0
      |false=>rw[h] at e0;exact⟨rfl,by simpa using e0⟩
    obtain⟨h1,ht⟩:=ht2
    rw[bO ht,Bool.true_or,Bool.and_true,cj] at h1
    unfold dh at ha
    simp only[bg,dw,aP] at ha
    obtain⟨⟨hr,hn,hp⟩,hc⟩:=ha
    have hct:=hc.resolve_left h1
    rw[e0] at h85
    obtain⟨l,m⟩:=f
    have R:RF l m:=dB.1 hr
    obtain⟨hmem,C⟩:=uF R hn hp hct ht
    have e:replaceM ⟨l,m⟩ n p c=(⟨(cJ (bW (l,[]) c) n p (fg l n p c)).1,m⟩,(cJ (bW (l,[]) c) n p (fg l n p c)).2,0):=by unfold replaceM;rw[if_pos e0]
    rw[e]
    have hbeh:fg l n p c=if cu (nd l p).kids c≠n then cu (nd l p).kids c else cu (nd l p).kids n:=rfl
    rw[←hbeh] at C
    clear e
    simp only at h60 hs hn hp hct
    obtain⟨a,_,rfl,_,_⟩:=aI.1 hn
    obtain⟨b,y,rfl,hy,hyn⟩:=aI.1 hp
    obtain⟨k,x,rfl,hx,hxn⟩:=aI.1 hct
    have hal:=bZ hn
    have hbl:=bZ hp
    have hkl:=bZ hct
    have hpar:(nd l k).parent=(b:Int):=(R.kid b hp k hmem).2.1
    have h87:aj Tryz.prog 87 [] [aN ⟨l,m⟩,ah k,ah a] [] (ah (fg l a b k)):=by
      rw[hyn] at hmem
      obtain⟨i,_,hi,_⟩:=j7 hmem
      have:=J3 hs hx (by rw[←hxn];exact hpar) hy hi (by rw[←hyn];exact R.dup b hp) (a:Int) (by omega) ⟨l,m⟩ rfl
      rw[hbeh,hyn]
      exact this
    have hS:bW (l,[]) (k:Int)=(bj l k,(bW (l,[]) (k:Int)).2):=Prod.ext (gl _ _) rfl
    have ht1:=lQ R h60 hkl []
    have R1:=dP R hct
    have hl1:(bj l k).length=l.length:=c9 ..
    have L1:=fun z hz=>(gB R hct z hz).2.2.2
    have P1:=(gB R hct a hn).2.2.1
    rw[hS]
    generalize(bW (l,[]) (k:Int)).2=t1 at*
    generalize fg l a b k=next at*
    clear hbeh
    have h601:(bj l k).length≤60:=by rw[hl1];exact h60
    have hab:b≠a:=fun e=>C.w (by rw[←e];exact U.cM R1.tree C.tp)
    have hlen:=(nI R1 t1 C).2
    rw[hl1] at hlen
    have hka:(nd (bj l k) a).kids=(nd l a).kids:=by rw[L1 a hn,if_neg (by rw[hpar];omega)]
    have h79:=fun q (hq:q<l.length) (hqb:q≠b)=>AR R h60 hqb hbl hq hkl (ns:=[]) (by simp) (.inr hpar)
    have ht1':t1.length≤1000:=by simp at ht1;omega
    by_cases h3:(nd (bj l k) a).kind=3
    · have h75:=zc R1 h601 C h3 (ns:=t1) ht1'
      rw[hl1] at h75
      have h79:=h79 a hal (fun e=>hab e.symm)
      rw[hS] at h79
      rw[hka] at h75
      exact nh ⟨l,m⟩ a b k ⟨_,m⟩ _ 0 h85 (k7 qj) (nQ ⟨l,m⟩ hs (fun e=>hab e.symm) (bU hal) (bU hbl) 86 MG _ rfl _ _ _ _ hlen cP cP (rI (fun e=>hab e.symm) h87 h79 h75))
    · by_cases hq:(nd (bj l k) a).parent=-1∨(nd (bj l k) a).parent=(b:Int)
      · have h75:=zl R1 h601 C h3 hq (ns:=t1) ht1'
        rw[hl1] at h75
        have h79:=h79 a hal (fun e=>hab e.symm)
        rw[hS] at h79
        rw[hka] at h75
        exact nh ⟨l,m⟩ a b k ⟨_,m⟩ _ 0 h85 (k7 qj) (nQ ⟨l,m⟩ hs hab (bU hbl) (bU hal) 86 MG _ rfl _ _ _ _ hlen cP cP (zu h87 h79 h75))
      · have hq1:(nd (bj l k) a).parent≠-1:=fun e=>hq (.inl e)
        have T1:=bk hl1
        have hpar1:=(R1.par a (by rw[T1];exact hn) hq1).2.1
        rw[T1] at hpar1
        obtain⟨q,_,hqe,_,_⟩:=aI.1 hpar1
        have hql:q<l.length:=by rw[hqe] at hpar1;exact bZ hpar1
        have hbq:b≠q:=fun e=>hq (.inr (by rw[hqe,e]))
        have haq:a≠q:=fun e=>by
          have hn1:af (bj l k) a=true:=by rw[T1];exact hn
          have h1:=R1.ja hn1
          rw[R1.fj hn1 hq1,hqe,←e] at h1
          exact h1 rfl
        have h75:=yM R1 h601 C h3 (by rw[hl1];exact hql) hbq haq (.inr hqe) (ns:=t1) ht1'
        rw[hl1] at h75
        have h79:=h79 q hql (fun e=>hbq e.symm)
        rw[hS] at h79
        have hkq:(nd (bj l k) q).kids=(nd l q).kids:=by rw[L1 q (eI hql),if_neg (by rw[hpar];omega)]
        rw[hkq] at h75
        exact nh ⟨l,m⟩ a b k ⟨_,m⟩ _ 0 h85 (k7 qj) (nQ ⟨l,m⟩ hs (fun e=>hbq e.symm) (bU hql) (bU hbl) 86 MG _ rfl _ _ _ _ hlen cP cP (rI (fun e=>hbq e.symm) h87 h79 h75))
  · rw[lN e0]
    exact yR f n p c _ f [] _ h85 (lE qj _ e0) (mM f hs 86 _ qj _)
end Go.Proofs.Heir
section
namespace Go.Proofs.Heir
open Go Go.Am Go.RowKit Go.Lib
set_option maxRecDepth 100000
set_option maxHeartbeats 8000000
set_option maxHeartbeats 8000000
variable {l l' : List ai} {m : Int}
theorem BN (R:RF l m)(h60:l.length≤60){k p:Nat}{b:Int}(C:gh l k p b)(hd:gL l (nd l p).doc 0=true)(ns:List aO)(hns:ns.length≤70000):
    FK m p b l ns k (cG l k p b) (cz p b (l,ns) k).2:=by
  have hk:=bZ C.tk
  have hp:=bZ C.tp
  have hne:(k:Int)≠ (p:Int):=fun e=>C.w (by rw[e];exact U.cM R.tree C.tp)
  have hne':k≠p:=fun e=>hne (by rw[e])
  have hol:=tr R h60 hk C.kk hd ns
  have R1:=iA R C.tk C.kk hd
  have R':=j9 R C
  have htk:af (cG l k p b) k=true:=by rw[bk (fF l k p b)];exact C.tk
  have hkids:=nN R (d:=(nd l p).doc) C.tk C.kk C.tp
  have h161:=Gz R h60 hk ns (by omega) C.kk hd
  have hlen:(cr l k (nd l p).doc).length=l.length:=dH ..
  have hs1:=cD R1 (by omega)
  have hst:cG l k p b=gy (cr l k (nd l p).doc) k p b:=rfl
  have htold:(cz p b (l,ns) k).2=(gC (l,ns) k (nd l p).doc).2++ (if ju (cG l k p b) k=true then k9 (cG l k p b) k (dY 1 0 0) else[]):=rfl
  have h154:=BH R' htk
  have h155:=xR R' (by rw[fF];exact h60) (by rw[fF];exact hk) (gC (l,ns) k (nd l p).doc).2 (by omega) (dY 1 0 0)
  have hab:b=-1∨b∈ (nd (cr l k (nd l p).doc) p).kids:=C.ab.imp id fun h=>by rw[hkids];exact(List.mem_erase_of_ne h.1).2 h.2
  have hdup:=R1.dup p (by rw[bk hlen];exact C.tp)
  have hmm:∀c∈ (nd (cr l k (nd l p).doc) p).kids,c≠-1:=fun c hc=>EV R1 (by rw[bk hlen];exact C.tp) c hc
  generalize cr l k (nd l p).doc=l1 at*
  have hk3:=FI (k:=(k:Int)) hdup hmm hab
  have hkl:(nd l1 p).kids.length≤60:=hs1.kids _ (bV (bU (by omega)))
  have h156:=sD ⟨l1,m⟩ hs1 (show 1≤l1.length by omega) p (show p<l1.length by omega) {nd l1 p with kids:=jR (nd l1 p).kids b k}
  have hyk:(l1.set p {nd l1 p with kids:=jR (nd l1 p).kids b k})[k]? =some (nd l1 k):=by rw[List.getElem?_set,if_neg (fun e=>hne' e.symm)];exact bU (by omega)
  have hs2:∀x∈l1.set p {nd l1 p with kids:=jR (nd l1 p).kids b k},x.kids.length≤61:=fun x hx=>by
    rcases List.mem_or_eq_of_mem_set hx with h|rfl
    ·have:=hs1.kids x h;omega
    ·have:=(pg (nd l1 p).kids b (k:Int)).length_eq;simp only[List.length_cons] at this;simp only;omega
  have hfin:cG l k p b=(l1.set p {nd l1 p with kids:=jR (nd l1 p).kids b k}).set k {nd l1 k with parent:=(p:Int)}:=by
    rw[hst]
    unfold gy
    have e1:kg l1 p (fun x=>{x with kids:=jR x.kids b k})=l1.set p {nd l1 p with kids:=jR (nd l1 p).kids b k}:=qf (bU (by omega)) _
    rw[e1,qf hyk]
  have h156':aj Tryz.prog 156 [] [aN ⟨l1.set p {nd l1 p with kids:=jR (nd l1 p).kids b k},m⟩,ah k,aG {nd l1 k with parent:=(p:Int)}] [] (aN ⟨cG l k p b,m⟩):=by
    rw[hfin]
    exact zm ⟨_,m⟩ (show(l1.set p _).length≤64 by rw[List.length_set];omega) (show 1≤ (l1.set p _).length by rw[List.length_set];omega) k (show k< (l1.set p _).length by rw[List.length_set];omega) _
  exact⟨k,nd l p,nd l1 p,nd l1 k,l1,_,_,_,ju (cG l k p b) k,jR (nd l1 p).kids b k,rfl,bU hp,h161,bU (by omega),hkl,hk3,h156,hyk,h156',h154,h155,htold⟩
theorem Ej (R:RF l m)(h60:l.length≤60){n p:Nat}{b:Int}(C:oh l n p b){ns:List aO}(hns:ns.length≤1000):
    aj Tryz.prog 93 [] [kU ⟨l,m⟩ ns,ah n,ah p,ah b] [] (kU ⟨(cJ (l,ns) n p b).1,m⟩ (cJ (l,ns) n p b).2):=by
  have hnl:=bZ C.tn
  have hpl:=bZ C.tp
  have h158:=Cn (m:=m) (bU hnl) ⟨l,m⟩ rfl
  have hdc:=(R.own p C.tp).1
  by_cases h3:(nd l n).kind=3
  · have hpo:cC l n=(nd l n).kids:=by unfold cC;rw[if_pos h3]
    obtain⟨hf1,hf2,hf3,hf4⟩:=pC R C h3
    have hks:∀k∈ (nd l n).kids,af l k=true:=fun k hk=>(R.kid n C.tn k hk).1
    have hdup:=R.dup n C.tn
    have hkl:(nd l n).kids.length≤60:=(cD R h60).kids _ (bV (bU hnl))
    have hpar:∀k∈ (nd l n).kids,(nd l k).parent=n:=fun k hk=>(R.kid n C.tn k hk).2.1
    rw[hpo] at h158
    have e:cJ (l,ns) n p b=(nd l n).kids.foldl (cz p b) ((nd l n).kids.foldl bW (l,ns)):=by unfold cJ;simp only;rw[if_pos h3,hpo]
    rw[e]
    generalize hks0:(nd l n).kids=ks at*
    have hU:∀j,((ks.take j).foldl bW (l,ns)).1=(ks.take j).foldl bj l:=fun j=>gw _ _
    have hin:∀j,∀k∈ks.take j,k∈ks:=fun j k hk=>List.mem_of_mem_take hk
    have hR:∀j,RF ((ks.take j).foldl bj l) m∧((ks.take j).foldl bj l).length=l.length:=fun j=>lV _ R fun k hk=>hks k (hin j k hk)
    have hL:=fun(j:Nat) (x:Int) (hx:af l x=true)=>jJ (ks.take j) R (fun k hk=>hks k (hin j k hk)) n (fun k hk=>.inl (hpar k (hin j k hk))) x hx
    have hN:∀j,((ks.take j).foldl bW (l,ns)).2.length≤ns.length+60*ks.length:=fun j=>by
      have h1:=pY (m:=m) (ks.take j) ns R h60 (fun k hk=>hks k (hin j k hk))
      have h2:(ks.take j).length≤ks.length:=by rw[gd];omega
      have:60* (ks.take j).length≤60*ks.length:=Nat.mul_le_mul_left 60 h2
      omega
    have hTl:ks.take ks.length=ks:=List.take_length
    have hsp:ks.foldl bW (l,ns)=(ks.foldl bj l,(ks.foldl bW (l,ns)).2):=Prod.ext (gw ks (l,ns)) rfl
    have hstate:=mY (p:=(p:Int)) (b:=b) (ks:=ks) (m:=m) hf1 (by rw[hf2];exact h60) hdup (ks.foldl bW (l,ns)).2 (fun k hk=>⟨(hf3 k hk).1,.inl (hf3 k hk).2⟩) (fun e=>hf4 (by
      have:=(hL ks.length p C.tp).1.kind
      rw[hTl] at this
      rw[←this];exact e)) (by rw[bk hf2];exact C.tp)
    rw[←hsp] at hstate
    have hNT:=hN ks.length
    rw[hTl] at hNT
    have main:=vJ (m:=m) (n:=n) (p:=p) (b:=b) (parts:=ks) (us:=fun j=>((ks.take j).foldl bW (l,ns)).1) (uns:=fun j=>((ks.take j).foldl bW (l,ns)).2)
      (ls:=fun j=>((ks.take j).foldl (cz p b) (ks.foldl bW (l,ns))).1) (nss:=fun j=>((ks.take j).foldl (cz p b) (ks.foldl bW (l,ns))).2) (by omega) (bU hnl) h158
      (.inl ⟨h3,by first|(rw[hTl];rfl)|(dsimp only;rw[hTl];rfl),by first|(rw[hTl];rfl)|(dsimp only;rw[hTl];rfl)⟩)
      (fun _ j k hk=>by
        have htk:=hks k (bV hk)
        obtain⟨kn,_,rfl,_,_⟩:=aI.1 htk
        have hnext:(ks.take (j+1)).foldl bW (l,ns)=bW ((ks.take j).foldl bW (l,ns)) kn:=by
          rw[List.take_add_one,hk,List.foldl_append];rfl
        have hRj:=hR j
        have hNj:=hN j
        try dsimp only
        rw[hnext]
        rw[←hU j] at hRj
        clear hnext hU
        generalize(ks.take j).foldl bW (l,ns)=S at*
        obtain⟨s1,s2⟩:=S
        simp only at hRj hNj
        rw[gl]
        exact wY hRj.1 (by rw[hRj.2];exact h60) (by rw[hRj.2];exact bZ htk) s2 (by omega))
      (fun j k hk=>by
        have hjl:=(aZ hk).1
        have htk:=hks k (bV hk)
        obtain⟨kn,_,rfl,_,_⟩:=aI.1 htk
        obtain⟨i1,i2,i3,i4,i5⟩:=hstate j (by omega)
        obtain⟨D,_⟩:=i5 j kn (Nat.le_refl _) hk
        have hnext:(ks.take (j+1)).foldl (cz p b) (ks.foldl bW (l,ns))=cz p b ((ks.take j).foldl (cz p b) (ks.foldl bW (l,ns))) kn:=by
          rw[List.take_add_one,hk,List.foldl_append];rfl
        try dsimp only
        rw[hnext]
        clear hnext i5
        generalize(ks.take j).foldl (cz p b) (ks.foldl bW (l,ns))=S at*
        obtain⟨s1,s2⟩:=S
        simp only at i1 i2 i3 i4 D
        rw[qR]
        exact BN i1 (by rw[i2,hf2];exact h60) D (i1.own p D.tp).1 s2 (by
          have:60*ks.length≤3600:=by omega
          have:180*j≤180*60:=by omega
          omega))
    try dsimp only at main
    rw[hTl] at main
    exact main
  · have hpo:cC l n=[(n:Int)]:=gO h3
    rw[hpo] at h158
    have D:=pZ C h3
    rw[uC h3]
    have hS:cz p b (l,ns) n=(cG l n p b,(cz p b (l,ns) n).2):=rfl
    have main:=vJ (m:=m) (n:=n) (p:=p) (b:=b) (parts:=[(n:Int)]) (us:=fun _=>l) (uns:=fun _=>ns) (ls:=fun j=>if j=0 then l else cG l n p b) (nss:=fun j=>if j=0 then ns else(cz p b (l,ns) n).2)
      (by simp) (bU hnl) h158 (.inr ⟨h3,rfl,rfl⟩) (fun h=>absurd h h3) (fun j k hk=>by
        obtain⟨rfl,rfl⟩:=wR hk
        exact BN R h60 D hdc ns (by omega))
    exact main
theorem Ko (R:RF l m)(h60:l.length≤60){k:Nat}(hk:k<l.length)(f:ForM)(hf:f=⟨l,m⟩):aj Tryz.prog 39 [] [aN f,ah k] [] (.tup [kU (dm f k).1 (dm f k).2.1,ah (dm f k).2.2]):=by
  subst hf
  have ht:=eI hk
  have h89:=wY R h60 hk [] (by simp)
  have hx:=bU hk
  by_cases hp:(nd l k).parent=-1
  · rw [oJ R ht hp]
    have hn:=dX ⟨l,m⟩ []
    generalize nd l k=x at*
    obtain⟨x1,x2,x3,x4,x5,x6,x7,x8,x9,x10⟩:=x
    simp only at hp
    subst hp
    refine aj.aA (rvs:=[.cell 4 56,.tmp 5]) G ak Tryz.func39 rfl Tryz.ntmps39 rfl rfl ?_;with_reducible refine wD ?_
    repeat' (first
    |refine gK ?_
    | ((first
      |((with_reducible show aH _ _ _ _ _);refine aH.mk k (aG _) rfl (az hx) ?_)
      |((with_reducible show aB _ _ _ _);refine dK ?_))<;>with_reducible refine wK ?_)
    |((with_reducible show(_∧_)∧_∧_);(refine eK ?_ ?_<;>with_reducible repeat' (first|exact trivial|(show _∧_;refine aK ?_ ?_)))))
    all_goals first|rfl|exact⟨rfl,rfl⟩|exact .inl rfl|exact .inr (.inr ⟨_,rfl⟩)|trace_state
  · have e:dm ⟨l,m⟩ k=(⟨bj l k,m⟩,(bW (l,[]) k).2,0):=by
      unfold dm
      simp only
      rw[if_pos (by rw[dB.2 R,ht];rfl),if_neg hp,gl]
    rw[e]
    have hn:=dX ⟨bj l k,m⟩ (bW (l,[]) k).2
    have fp:=eq_false hp
    generalize nd l k=x at*
    obtain⟨x1,x2,x3,x4,x5,x6,x7,x8,x9,x10⟩:=x
    simp only at fp
    refine aj.aA (rvs:=[.cell 4 56,.tmp 5]) G ak Tryz.func39 rfl Tryz.ntmps39 rfl rfl ?_;with_reducible refine wD ?_
    (have fct:=fp;(repeat' (first
    |refine gF ?_
    | ((first
      |((with_reducible show aH _ _ _ _ _);refine aH.mk k (aG _) rfl (az hx) ?_)
      |((with_reducible show ae _ _ 89 _ _ _ _);refine ae.val [] h89 KU ⟨⟨rfl,rfl,.inr (.inr ⟨_,rfl⟩),trivial⟩,rfl,trivial⟩ rfl rfl hn ?_)
      |((with_reducible show aB _ _ _ _);refine dK ?_))<;>with_reducible refine wK ?_)
    |((with_reducible show(_∧_)∧_∧_);(refine eK ?_ ?_<;>with_reducible repeat' (first|exact trivial|(show _∧_;refine aK ?_ ?_))))));all_goals clear fct)
    all_goals first|rfl|exact⟨rfl,rfl⟩|trace_state
end Go.Proofs.Heir
end
section
namespace Go.Proofs.Heir
open Go Go.Am Go.RowKit Go.Lib
set_option maxRecDepth 100000
set_option maxHeartbeats 8000000
set_option maxHeartbeats 8000000
variable {l l' : List ai} {m : Int}
theorem cw (f:ForM)(ns:List aO)(e:Int):bG (.tup [kU f ns,ah e])=true:=by
  have h1:=dX f ns
  simp only[bG,bz,bg] at h1 ⊢
  exact⟨h1,trivial,trivial⟩
theorem JT (R:RF l m)(h60:l.length≤60){n p:Nat}{c:Int}(hn:af l n=true)(hp:af l p=true)(hc:c=-1∨af l c=true)(f:ForM)(hf:f=⟨l,m⟩):
    aj Tryz.prog 41 [] [aN f,ah n,ah p,ah c] [] (.tup [kU (dD f n p c).1 (dD f n p c).2.1,ah (dD f n p c).2.2]):=by
  subst hf
  have h91:=FQ R h60 hn hp (c:=c) false ⟨l,m⟩ rfl
  rw[←Et R hn hp hc,←tM R hn hp hc] at h91
  by_cases e0:kV ⟨l,m⟩ n p c=0
  · have C:=xw R hn hp hc (by rw[←tM R hn hp hc];exact e0)
    have hbef:ej ⟨l,m⟩ n p c=if c≠n then c else cu (nd l p).kids n:=by unfold ej;rw[if_neg (fun q=>q e0)]
    rw[←hbef] at C
    have h93:=Ej R h60 C (ns:=[]) (by simp)
    have e:dD ⟨l,m⟩ n p c=(⟨(cJ (l,[]) n p (ej ⟨l,m⟩ n p c)).1,m⟩,(cJ (l,[]) n p (ej ⟨l,m⟩ n p c)).2,0):=by unfold dD;rw[if_pos e0]
    have h92:=As (m:=m) (cD R h60) (bU (bZ hp)) n ⟨l,m⟩ rfl
    rw[e]
    rw[e0] at h91
    clear e C
    by_cases ec:c=n
    · rw[if_neg (fun q=>q ec)] at hbef
      rw[←hbef] at h92
      generalize ej ⟨l,m⟩ n p c=before at*
      have hn93:=dX ⟨(cJ (l,[]) n p before).1,m⟩ (cJ (l,[]) n p before).2
      generalize cJ (l,[]) n p before=s at*
      obtain⟨s1,s2⟩:=s
      have fc:=eq_true ec
      refine aj.aA (rvs:=[.cell 8 56,.tmp 9]) G ak Tryz.func41 rfl Tryz.ntmps41 rfl rfl ?_;with_reducible refine wD ?_
      (have fct:=fc;(repeat' (first
    |refine gF ?_
    | ((first
      |((with_reducible show ae _ _ 91 _ _ _ _);refine ae.lit [] h91 KX ⟨⟨rfl,rfl,trivial⟩,rfl,rfl,rfl,rfl,trivial⟩ rfl rfl ?_)
      |((with_reducible show ae _ _ 92 _ _ _ _);refine ae.lit [] h92 LM ⟨⟨rfl,rfl,trivial⟩,rfl,rfl,trivial⟩ rfl rfl ?_)
      |((with_reducible show ae _ _ 93 _ _ _ _);refine ae.val [] h93 LZ ⟨⟨rfl,rfl,.inr (.inr ⟨_,rfl⟩),trivial⟩,rfl,rfl,rfl,trivial⟩ rfl rfl hn93 ?_)
      |((with_reducible show aB _ _ _ _);refine dK ?_))<;>with_reducible refine wK ?_)
    | ((with_reducible show(_∧_)∧_∧_);(refine eK ?_ ?_<;>with_reducible repeat' (first|exact trivial|(show _∧_;refine aK ?_ ?_))))));all_goals clear fct)
      all_goals first|rfl|exact⟨rfl,rfl⟩|trace_state
    · rw[if_pos ec] at hbef
      rw[hbef] at h93 ⊢
      have hn93:=dX ⟨(cJ (l,[]) n p c).1,m⟩ (cJ (l,[]) n p c).2
      generalize cJ (l,[]) n p c=s at*
      obtain⟨s1,s2⟩:=s
      have fc:=eq_false ec
      refine aj.aA (rvs:=[.cell 8 56,.tmp 9]) G ak Tryz.func41 rfl Tryz.ntmps41 rfl rfl ?_;with_reducible refine wD ?_
      (have fct:=fc;(repeat' (first
    |refine gF ?_
    | ((first
      |((with_reducible show ae _ _ 91 _ _ _ _);refine ae.lit [] h91 KX ⟨⟨rfl,rfl,trivial⟩,rfl,rfl,rfl,rfl,trivial⟩ rfl rfl ?_)
      |((with_reducible show ae _ _ 93 _ _ _ _);refine ae.val [] h93 LZ ⟨⟨rfl,rfl,.inr (.inr ⟨_,rfl⟩),trivial⟩,rfl,rfl,rfl,trivial⟩ rfl rfl hn93 ?_)
      |((with_reducible show aB _ _ _ _);refine dK ?_))<;>with_reducible refine wK ?_)
    | ((with_reducible show(_∧_)∧_∧_);(refine eK ?_ ?_<;>with_reducible repeat' (first|exact trivial|(show _∧_;refine aK ?_ ?_))))));all_goals clear fct)
      all_goals first|rfl|exact⟨rfl,rfl⟩|trace_state
  · rw [nO e0]
    generalize kV ⟨l,m⟩ n p c=e at*
    have fe:=eq_false e0
    refine aj.aA (rvs:=[.cell 8 56,.tmp 9]) G ak Tryz.func41 rfl Tryz.ntmps41 rfl rfl ?_;with_reducible refine wD ?_
    (have fct:=fe;(repeat' (first
    |refine gF ?_
    | ((first
      |((with_reducible show ae _ _ 91 _ _ _ _);refine ae.lit [] h91 KX ⟨⟨rfl,rfl,trivial⟩,rfl,rfl,rfl,rfl,trivial⟩ rfl rfl ?_)
      |((with_reducible show aB _ _ _ _);refine dK ?_))<;>with_reducible refine wK ?_)
    |((with_reducible show(_∧_)∧_∧_);(refine eK ?_ ?_<;>with_reducible repeat' (first|exact trivial|(show _∧_;refine aK ?_ ?_))))));all_goals clear fct)
    all_goals first|rfl|exact⟨rfl,rfl⟩|exact .inl rfl|exact .inr (.inr ⟨_,rfl⟩)|trace_state
theorem KC (R:RF l m)(h60:l.length≤60){n p:Nat}{c:Int}(hn:af l n=true)(hp:af l p=true)(hc:c=-1∨af l c=true)(f:ForM)(hf:f=⟨l,m⟩):
    aj Tryz.prog 42 [] [aN f,ah n,ah p,ah c] [] (.tup [kU (replaceM f n p c).1 (replaceM f n p c).2.1,ah (replaceM f n p c).2.2]):=by
  subst hf
  have h91:=FQ R h60 hn hp (c:=c) true ⟨l,m⟩ rfl
  have ha:dh ⟨l,m⟩ n p c=true:=(nM R).2 ⟨⟨hn,hp⟩,hc⟩
  have hsw:iw ⟨l,m⟩ n p c=tF l n p c true:=by
    rw[←C8 R hn hp hc]
    unfold iw
    rw[if_pos ha]
  rw[←hsw] at h91
  by_cases e0:iw ⟨l,m⟩ n p c=0
  · have ht2:(decide (c=-1)&&(decide (dI l p c c n=0)||k8 l n p))=false∧dI l p c c n=0:=by
      have e1:=e0
      unfold iw at e1
      rw[if_pos ha] at e1
      simp only at e1
      cases h:(decide (c=-1)&&(decide (dI l p c c n=0)||k8 l n p)) with
      |true=>rw[h] at e1;simp at e1
      |false=>rw[h] at e1;exact⟨rfl,by simpa using e1⟩
    obtain⟨h1,ht⟩:=ht2
    rw[bO ht,Bool.true_or,Bool.and_true,cj] at h1
    have hct:=hc.resolve_left h1
    obtain⟨hmem,C⟩:=uF R hn hp hct ht
    obtain⟨k,_,rfl,_,_⟩:=aI.1 hct
    have e:replaceM ⟨l,m⟩ n p k=(⟨(cJ (bW (l,[]) k) n p (fg l n p k)).1,m⟩,(cJ (bW (l,[]) k) n p (fg l n p k)).2,0):=by unfold replaceM;rw[if_pos e0]
    have hbeh:fg l n p k=if cu (nd l p).kids k≠n then cu (nd l p).kids k else cu (nd l p).kids n:=rfl
    rw[←hbeh] at C
    have hkl:=bZ hct
    have h89:=wY R h60 hkl [] (by simp)
    have R1:=dP R hct
    have hl1:(bj l k).length=l.length:=c9 ..
    have ht1:=lQ R h60 hkl []
    have hS:bW (l,[]) (k:Int)=(bj l k,(bW (l,[]) (k:Int)).2):=Prod.ext (gl _ _) rfl
    rw[e,hS]
    rw[e0] at h91
    clear e
    have h93:=Ej R1 (by rw[hl1];exact h60) C (ns:=(bW (l,[]) (k:Int)).2) (by simp at ht1;omega)
    have h92:=As (m:=m) (cD R h60) (bU (bZ hp)) k ⟨l,m⟩ rfl
    have h92':=As (m:=m) (cD R h60) (bU (bZ hp)) n ⟨l,m⟩ rfl
    have hn89:=dX ⟨bj l k,m⟩ (bW (l,[]) (k:Int)).2
    generalize(bW (l,[]) (k:Int)).2=t1 at*
    generalize bj l k=l1 at*
    have hn93:=dX ⟨(cJ (l1,t1) n p (fg l n p k)).1,m⟩ (cJ (l1,t1) n p (fg l n p k)).2
    generalize hputs:cJ (l1,t1) n p (fg l n p k)=s at*
    obtain⟨s1,s2⟩:=s
    by_cases ec:cu (nd l p).kids k=n
    · rw[if_neg (fun q=>q ec)] at hbeh
      rw[hbeh] at h93
      generalize cu (nd l p).kids n=nx at*
      generalize cu (nd l p).kids k=nk at*
      have fc:=eq_true ec
      refine aj.aA (rvs:=[.cell 8 56,.tmp 9]) G ak Tryz.func42 rfl Tryz.ntmps42 rfl rfl ?_;with_reducible refine wD ?_
      (have fct:=fc;(repeat' (first
    |refine gF ?_
    | ((first
      |((with_reducible show ae _ _ 91 _ _ _ _);refine ae.lit [] h91 KX ⟨⟨rfl,rfl,trivial⟩,rfl,rfl,rfl,rfl,trivial⟩ rfl rfl ?_)
      |((with_reducible show ae _ _ 92 _ _ _ _);first|refine ae.lit [] h92 LM ⟨⟨rfl,rfl,trivial⟩,rfl,rfl,trivial⟩ rfl rfl ?_|refine ae.lit [] h92' LM ⟨⟨rfl,rfl,trivial⟩,rfl,rfl,trivial⟩ rfl rfl ?_)
      |((with_reducible show ae _ _ 89 _ _ _ _);refine ae.val [] h89 KU ⟨⟨rfl,rfl,.inr (.inr ⟨_,rfl⟩),trivial⟩,rfl,trivial⟩ rfl rfl hn89 ?_)
      |((with_reducible show ae _ _ 93 _ _ _ _);refine ae.val [] h93 LZ ⟨⟨rfl,rfl,rfl,trivial⟩,rfl,rfl,rfl,trivial⟩ rfl rfl hn93 ?_)
      |((with_reducible show aB _ _ _ _);refine dK ?_))<;>with_reducible refine wK ?_)
    | ((with_reducible show(_∧_)∧_∧_);(refine eK ?_ ?_<;>with_reducible repeat' (first|exact trivial|(show _∧_;refine aK ?_ ?_))))));all_goals clear fct)
      all_goals first|rfl|exact⟨rfl,rfl⟩|trace_state
    · rw[if_pos ec] at hbeh
      rw[hbeh] at h93
      generalize cu (nd l p).kids k=nk at*
      have fc:=eq_false ec
      refine aj.aA (rvs:=[.cell 8 56,.tmp 9]) G ak Tryz.func42 rfl Tryz.ntmps42 rfl rfl ?_;with_reducible refine wD ?_
      (have fct:=fc;(repeat' (first
    |refine gF ?_
    | ((first
      |((with_reducible show ae _ _ 91 _ _ _ _);refine ae.lit [] h91 KX ⟨⟨rfl,rfl,trivial⟩,rfl,rfl,rfl,rfl,trivial⟩ rfl rfl ?_)
      |((with_reducible show ae _ _ 92 _ _ _ _);first|refine ae.lit [] h92 LM ⟨⟨rfl,rfl,trivial⟩,rfl,rfl,trivial⟩ rfl rfl ?_|refine ae.lit [] h92' LM ⟨⟨rfl,rfl,trivial⟩,rfl,rfl,trivial⟩ rfl rfl ?_)
      |((with_reducible show ae _ _ 89 _ _ _ _);refine ae.val [] h89 KU ⟨⟨rfl,rfl,.inr (.inr ⟨_,rfl⟩),trivial⟩,rfl,trivial⟩ rfl rfl hn89 ?_)
      |((with_reducible show ae _ _ 93 _ _ _ _);refine ae.val [] h93 LZ ⟨⟨rfl,rfl,rfl,trivial⟩,rfl,rfl,rfl,trivial⟩ rfl rfl hn93 ?_)
      |((with_reducible show aB _ _ _ _);refine dK ?_))<;>with_reducible refine wK ?_)
    | ((with_reducible show(_∧_)∧_∧_);(refine eK ?_ ?_<;>with_reducible repeat' (first|exact trivial|(show _∧_;refine aK ?_ ?_))))));all_goals clear fct)
      all_goals first|rfl|exact⟨rfl,rfl⟩|trace_state
  · rw [lN e0]
    generalize iw ⟨l,m⟩ n p c=e at*
    have fe:=eq_false e0
    refine aj.aA (rvs:=[.cell 8 56,.tmp 9]) G ak Tryz.func42 rfl Tryz.ntmps42 rfl rfl ?_;with_reducible refine wD ?_
    (have fct:=fe;(repeat' (first
    |refine gF ?_
    | ((first
      |((with_reducible show ae _ _ 91 _ _ _ _);refine ae.lit [] h91 KX ⟨⟨rfl,rfl,trivial⟩,rfl,rfl,rfl,rfl,trivial⟩ rfl rfl ?_)
      |((with_reducible show aB _ _ _ _);refine dK ?_))<;>with_reducible refine wK ?_)
    |((with_reducible show(_∧_)∧_∧_);(refine eK ?_ ?_<;>with_reducible repeat' (first|exact trivial|(show _∧_;refine aK ?_ ?_))))));all_goals clear fct)
    all_goals first|rfl|exact⟨rfl,rfl⟩|exact .inl rfl|exact .inr (.inr ⟨_,rfl⟩)|trace_state
end Go.Proofs.Heir
end
namespace Go.Proofs.Heir
open Go Go.Am Go.RowKit Go.Lib
set_option maxRecDepth 100000
set_option maxHeartbeats 8000000
set_option maxHeartbeats 4000000
theorem E3 (f:ForM)(hs:bq f.nodes)(h60:f.nodes.length≤60)(n p c:Int):aj Tryz.prog 29 [] [aN f,ah n,ah p,ah c] [] (.tup [aN (dD f n p c).1,mD (dD f n p c).2.1,ah (dD f n p c).2.2]):=by
  have h30:=Fm f hs n p c
  by_cases e0:kV f n p c=0
  · have ha:dh f n p c=true:=by
      cases h:dh f n p c with
      |true=>rfl
      |false=>unfold kV at e0;rw[h] at e0;simp at e0
    have ht:dI f.nodes p c (-1) n=0:=by unfold kV at e0;rw[if_pos ha] at e0;exact e0
    unfold dh at ha
    simp only[bg,dw,aP] at ha
    obtain⟨⟨hr,hn,hp⟩,hc⟩:=ha
    have h28:=KM f hs n p c
    rw[e0] at h30
    obtain⟨l,m⟩:=f
    have R:RF l m:=dB.1 hr
    have C:=xw R hn hp hc ht
    have hbef:ej ⟨l,m⟩ n p c=if c≠n then c else cu (nd l p).kids n:=by unfold ej;rw[if_neg (fun q=>q e0)]
    rw[←hbef] at C
    have e:dD ⟨l,m⟩ n p c=(⟨(cJ (l,[]) n p (ej ⟨l,m⟩ n p c)).1,m⟩,(cJ (l,[]) n p (ej ⟨l,m⟩ n p c)).2,0):=by unfold dD;rw[if_pos e0]
    rw[e]
    clear e hbef
    generalize ej ⟨l,m⟩ n p c=before at*
    obtain⟨a,_,rfl,_,_⟩:=aI.1 hn
    obtain⟨b,_,rfl,_,_⟩:=aI.1 hp
    have hal:=bZ hn
    have hbl:=bZ hp
    have hab:b≠a:=fun e=>C.w (by rw[←e];exact U.cM R.tree C.tp)
    have hlen:=(nI R [] C).2
    simp only at h60 hs
    by_cases h3:(nd l a).kind=3
    · have h75:=zc R h60 C h3 (ns:=[]) (by simp)
      exact oK ⟨l,m⟩ a b c ⟨_,m⟩ _ 0 h30 (k7 xS) (nQ ⟨l,m⟩ hs (fun e=>hab e.symm) (bU hal) (bU hbl) 74 MR _ rfl _ _ _ _ hlen cP cP (oR h28 h75))
    · by_cases hq:(nd l a).parent=-1∨(nd l a).parent=(b:Int)
      · have h75:=zl R h60 C h3 hq (ns:=[]) (by simp)
        exact oK ⟨l,m⟩ a b c ⟨_,m⟩ _ 0 h30 (k7 xS) (nQ ⟨l,m⟩ hs hab (bU hbl) (bU hal) 74 MR _ rfl _ _ _ _ hlen cP cP (oR h28 h75))
      · have hq1:(nd l a).parent≠-1:=fun e=>hq (.inl e)
        have hpar:=(R.par a hn hq1).2.1
        obtain⟨q,_,hqe,_,_⟩:=aI.1 hpar
        have hql:q<l.length:=by rw[hqe] at hpar;exact bZ hpar
        have hbq:b≠q:=fun e=>hq (.inr (by rw[hqe,e]))
        have haq:a≠q:=fun e=>by
          have h1:=R.ja hn
          rw[R.fj hn hq1,hqe,←e] at h1
          exact h1 rfl
        have h75:=yM R h60 C h3 hql hbq haq (.inr hqe) (ns:=[]) (by simp)
        exact oK ⟨l,m⟩ a b c ⟨_,m⟩ _ 0 h30 (k7 xS) (nQ ⟨l,m⟩ hs (fun e=>hbq e.symm) (bU hql) (bU hbl) 74 MR _ rfl _ _ _ _ hlen cP cP (oR h28 h75))
  · rw[nO e0]
    exact AM f n p c _ f [] _ h30 (lE xS _ e0) (mM f hs 74 _ xS _)
end Go.Proofs.Heir
section
namespace Go.Proofs.Heir
open Go Go.Am Go.RowKit Go.Lib
set_option maxRecDepth 100000
set_option maxHeartbeats 8000000
set_option maxHeartbeats 2000000
variable {l l' : List ai} {m : Int}
theorem B5 (R:RF l m)(h60:l.length≤60){n p:Nat}{b:Int}(C:oh l n p b){ns:List aO}(hns:ns.length≤1000):(cJ (l,ns) n p b).2.length≤20000:=by
  by_cases h3:(nd l n).kind=3
  · have hpo:cC l n=(nd l n).kids:=by unfold cC;rw[if_pos h3]
    obtain⟨hf1,hf2,hf3,hf4⟩:=pC R C h3
    have hks:∀k∈ (nd l n).kids,af l k=true:=fun k hk=>(R.kid n C.tn k hk).1
    have hkl:(nd l n).kids.length≤60:=(cD R h60).kids _ (bV (bU (bZ C.tn)))
    have e:cJ (l,ns) n p b=(nd l n).kids.foldl (cz p b) ((nd l n).kids.foldl bW (l,ns)):=by unfold cJ;simp only;rw[if_pos h3,hpo]
    rw[e]
    have hpk:=(jJ (nd l n).kids R hks n (fun k hk=>.inl (R.kid n C.tn k hk).2.1) p C.tp).1.kind
    have h1:=pY (m:=m) (nd l n).kids ns R h60 hks
    have hstate:=mY (p:=(p:Int)) (b:=b) (ks:=(nd l n).kids) (m:=m) hf1 (by rw[hf2];exact h60) (R.dup n C.tn) ((nd l n).kids.foldl bW (l,ns)).2 (fun k hk=>⟨(hf3 k hk).1,.inl (hf3 k hk).2⟩) (fun e=>hf4 (by rw[←hpk];exact e)) (by rw[bk hf2];exact C.tp) (nd l n).kids.length (Nat.le_refl _)
    have hsp:(nd l n).kids.foldl bW (l,ns)=((nd l n).kids.foldl bj l,((nd l n).kids.foldl bW (l,ns)).2):=Prod.ext (gw _ (l,ns)) rfl
    rw[←hsp,List.take_length] at hstate
    have:=hstate.2.2.1
    omega
  · rw[uC h3]
    have:=zn R h60 (pZ C h3) (R.own p C.tp).1 ns
    omega
end Go.Proofs.Heir
end
section
namespace Go.Proofs.Heir
open Go Go.Am Go.RowKit Go.Lib
set_option maxRecDepth 100000
set_option maxHeartbeats 8000000
set_option maxHeartbeats 2000000
variable {l l' : List ai} {m : Int}
theorem vv (R:RF l m)(h60:l.length≤60){n p:Nat}{c:Int}(hn:af l n=true)(hp:af l p=true)(hc:c=-1∨af l c=true):bq (dD ⟨l,m⟩ n p c).1.nodes∧(dD ⟨l,m⟩ n p c).2.1.length≤100000:=by
  by_cases e0:kV ⟨l,m⟩ n p c=0
  · have C:=xw R hn hp hc (by rw[←tM R hn hp hc];exact e0)
    have hbef:ej ⟨l,m⟩ n p c=if c≠n then c else cu (nd l p).kids n:=by unfold ej;rw[if_neg (fun q=>q e0)]
    rw[←hbef] at C
    have e:dD ⟨l,m⟩ n p c=(⟨(cJ (l,[]) n p (ej ⟨l,m⟩ n p c)).1,m⟩,(cJ (l,[]) n p (ej ⟨l,m⟩ n p c)).2,0):=by unfold dD;rw[if_pos e0]
    have h1:=nI R [] C
    have h2:=B5 R h60 C (ns:=[]) (by simp)
    rw[e]
    exact⟨cD h1.1 (by rw[h1.2];exact h60),by simp only;omega⟩
  · rw[nO e0]
    exact⟨cD R h60,by simp⟩
theorem vQ (R:RF l m)(h60:l.length≤60){n:Nat}(hn:af l n=true):bq (dm ⟨l,m⟩ n).1.nodes∧(dm ⟨l,m⟩ n).2.1.length≤100000:=by
  by_cases hp:(nd l n).parent=-1
  · rw[oJ R hn hp]
    exact⟨cD R h60,by simp⟩
  · rw [s8 R hn hp]
    refine⟨cD (dP R hn) (by rw[c9];exact h60),?_⟩
    simp only
    split
    · rw[iS l m R hn,bP]
      have:=(jy R h60 hn).2
      omega
    ·simp
theorem uq (R:RF l m)(h60:l.length≤60){n p:Nat}{c:Int}(hn:af l n=true)(hp:af l p=true)(hc:c=-1∨af l c=true):bq (replaceM ⟨l,m⟩ n p c).1.nodes∧(replaceM ⟨l,m⟩ n p c).2.1.length≤100000:=by
  by_cases e0:iw ⟨l,m⟩ n p c=0
  · have ha:dh ⟨l,m⟩ n p c=true:=(nM R).2 ⟨⟨hn,hp⟩,hc⟩
    have ht2:(decide (c=-1)&&(decide (dI l p c c n=0)||k8 l n p))=false∧dI l p c c n=0:=by
      have e1:=e0
      unfold iw at e1
      rw[if_pos ha] at e1
      simp only at e1
      cases h:(decide (c=-1)&&(decide (dI l p c c n=0)||k8 l n p)) with
      |true=>rw[h] at e1;simp at e1
      |false=>rw[h] at e1;exact⟨rfl,by simpa using e1⟩
    obtain⟨h1,ht⟩:=ht2
    rw[bO ht,Bool.true_or,Bool.and_true,cj] at h1
    have hct:=hc.resolve_left h1
    obtain⟨_,C⟩:=uF R hn hp hct ht
    obtain⟨k,_,rfl,_,_⟩:=aI.1 hct
    have hbeh:fg l n p k=if cu (nd l p).kids k≠n then cu (nd l p).kids k else cu (nd l p).kids n:=rfl
    rw[←hbeh] at C
    have e:replaceM ⟨l,m⟩ n p k=(⟨(cJ (bW (l,[]) k) n p (fg l n p k)).1,m⟩,(cJ (bW (l,[]) k) n p (fg l n p k)).2,0):=by unfold replaceM;rw[if_pos e0]
    have hS:bW (l,[]) (k:Int)=(bj l k,(bW (l,[]) (k:Int)).2):=Prod.ext (gl _ _) rfl
    have R1:=dP R hct
    have hl1:(bj l k).length=l.length:=c9 ..
    have ht1:=lQ R h60 (bZ hct) []
    have h1:=nI R1 (bW (l,[]) (k:Int)).2 C
    have h2:=B5 R1 (by rw[hl1];exact h60) C (ns:=(bW (l,[]) (k:Int)).2) (by simp at ht1;omega)
    rw[e,hS]
    exact⟨cD h1.1 (by rw[h1.2,hl1];exact h60),Nat.le_trans h2 (by omega)⟩
  · rw[lN e0]
    exact⟨cD R h60,by simp⟩
end Go.Proofs.Heir
end
namespace Go.Proofs.Heir
open Go Go.Am Go.RowKit Go.Lib
set_option maxRecDepth 100000
set_option maxHeartbeats 8000000
set_option maxHeartbeats 8000000
theorem DJ (a:aO)(y z:Operand)(w:World):((do eqGuard .neq 53 y z (.agg #[.int .i64 a.kind,.int .i64 a.node,.int .i64 a.src,.int .i64 a.dst,.string a.name,.bool a.had,.bool a.has,.string a.old,.string a.new]) (.agg #[.int .i64 a.kind,.int .i64 a.node,.int .i64 a.src,.int .i64 a.dst,.string a.name,.bool a.had,.bool a.has,.string a.old,.string a.new]);binOp .neq 53 (.agg #[.int .i64 a.kind,.int .i64 a.node,.int .i64 a.src,.int .i64 a.dst,.string a.name,.bool a.had,.bool a.has,.string a.old,.string a.new]) (.agg #[.int .i64 a.kind,.int .i64 a.node,.int .i64 a.src,.int .i64 a.dst,.string a.name,.bool a.had,.bool a.has,.string a.old,.string a.new]):Sem Value)).run Tryz.prog w=.ok (.bool false) w:=by
  have hS:Tryz.prog.underlying 53=some (.struct (Tryz.prog.fieldsOf 53)):=by kernel_rfl
  have hp:Tryz.prog.stoodInHeld 53=false:=by kernel_rfl
  have u3:=Tryz.underlying3
  have a3:=Tryz.isAgg3
  have z3:=Tryz.sizeOf3
  have u4:=Tryz.underlying4
  have a4:=Tryz.isAgg4
  have z4:=Tryz.sizeOf4
  have u9:=Tryz.underlying9
  have a9:=Tryz.isAgg9
  have z9:=Tryz.sizeOf9
  rw[Sem.run_bind,run_eqGuard_agg w .neq 53 y z _ _ (by kernel_rfl),Result.andThen_ok,run_neq_struct,show(10000:Nat)=9999+1 from rfl,run_equalIn_agg w 9999 53 _ _ hS hp]
  simp only[Program.fieldsOf,Tryz.underlying53]
  go_simp
theorem Ai (l:List aO)(hl:l.length≤100000):aj Tryz.prog 90 [] [mD l,mD l] [] (bA true):=by
  have hlm:(l.map dN).length=l.length:=bP ..
  refine aj.aA (rvs:=[.tmp 4]) G ak Tryz.func90 rfl Tryz.ntmps90 rfl rfl ?_;with_reducible refine wD ?_
  (have fct:=hlm;(repeat' (first|refine gF ?_|((with_reducible show(_∧_)∧_∧_);(refine eK ?_ ?_<;>with_reducible repeat' (first|exact trivial|(show _∧_;refine aK ?_ ?_))))));all_goals clear fct)
  refine bE.use G ak (fun(k:Nat)=>[(0,mD l),(1,mD l),(5,ah k)]) (fun _=>[]) (fun k=>k≤l.length) (fun k=>l.length-k) 0 (Nat.zero_le _)
    ⟨⟨rfl,rfl⟩,⟨rfl,rfl,rfl,trivial⟩,trivial⟩ ?_
  intro k hk
  with_reducible refine wK ?_
  refine aM.mk (fun h1=>?_) (fun h1=>?_)<;>(try simp only[aq] at h1)<;>with_reducible refine wK ?_
  · have hk':k<l.length:=by simp only[aP] at h1;omega
    obtain⟨x,hx⟩:∃x,l[k]? =some x:=⟨_,bH hk'⟩
    obtain⟨x1,x2,x3,x4,x5,x6,x7,x8,x9⟩:=x
    repeat' (first|refine gK ?_|((first|((with_reducible show aH _ _ _ _ _);refine aH.mk k (lz ⟨x1,x2,x3,x4,x5,x6,x7,x8,x9⟩) rfl (Fu hx) ?_)|((with_reducible show Gr _ _ _ _ _ _ _ _);refine Gr.mk _ (fun y z w=>DJ ⟨x1,x2,x3,x4,x5,x6,x7,x8,x9⟩ y z w) ?_)|((with_reducible show aB _ _ _ _);refine dK ?_)|((with_reducible show aW _ _);refine aW.mk (k+1) (by omega) (by omega) ⟨⟨rfl,rfl⟩,⟨rfl,rfl,by show((k+1:Nat):Int)=(k:Int)+1;omega,trivial⟩,trivial⟩))<;>with_reducible refine wK ?_)|((with_reducible show(_∧_)∧_∧_);(refine eK ?_ ?_<;>with_reducible repeat' (first|exact trivial|(show _∧_;refine aK ?_ ?_)))))
  ·repeat' (first|refine gK ?_|((with_reducible show(_∧_)∧_∧_);(refine eK ?_ ?_<;>with_reducible repeat' (first|exact trivial|(show _∧_;refine aK ?_ ?_)))))
theorem EJ (x:ai)(h1:x.attrs.length≤100000)(h2:x.kids.length≤100000):aj Tryz.prog 80 [] [aG x,aG x] [] (bA true):=by
  have ha:=GV x.attrs x.attrs h1
  rw[bO rfl] at ha
  have hk:=J0 x.kids x.kids h2
  rw[bO rfl] at hk
  obtain⟨x0,x1,x2,x3,x4,x5,x6,x7,x8,x9⟩:=x
  simp only at ha hk
  refine aj.aA (rvs:=[.tmp 4]) G ak Tryz.func80 rfl Tryz.ntmps80 rfl rfl ?_;with_reducible refine wD ?_
  dsimp only[List.append];with_reducible refine wK ?_
  repeat' (first|refine gK ?_|((first|((with_reducible show ae _ _ 146 _ _ _ _);refine ae.lit [] ha L4 ⟨rfl,rfl,trivial⟩ rfl rfl ?_)|((with_reducible show ae _ _ 25 _ _ _ _);refine ae.lit [] hk Ng ⟨rfl,rfl,trivial⟩ rfl rfl ?_))<;>with_reducible refine wK ?_)|((with_reducible show(_∧_)∧_∧_);(refine eK ?_ ?_<;>with_reducible repeat' (first|exact trivial|(show _∧_;refine aK ?_ ?_)))))
  all_goals first|rfl|(simp;done)|trace_state
theorem zo (f:ForM)(hs:bq f.nodes):aj Tryz.prog 33 [] [aN f,aN f] [] (bA true):=by
  have hl1:=hs.len
  have hone:∀x∈f.nodes,aj Tryz.prog 80 [] [aG x,aG x] [] (bA true):=fun x hx=>EJ x (by have:=hs.attrs x hx;omega) (by have:=hs.kids x hx;omega)
  obtain⟨l,m⟩:=f
  have hlm:(l.map bM).length=l.length:=bP ..
  simp only at hone hl1
  refine aj.aA (rvs:=[.tmp 4]) G ak Tryz.func33 rfl Tryz.ntmps33 rfl rfl ?_;with_reducible refine wD ?_
  (have fct:=hlm;(repeat' (first|refine gF ?_|((with_reducible show(_∧_)∧_∧_);(refine eK ?_ ?_<;>with_reducible repeat' (first|exact trivial|(show _∧_;refine aK ?_ ?_))))));all_goals clear fct)
  refine bE.use G ak (fun(k:Nat)=>[(2,.ptr 20 0 0),(3,.ptr 30 0 0),(5,ah k)]) (fun _=>[(20,.live 2 [aN ⟨l,m⟩] false),(30,.live 2 [aN ⟨l,m⟩] false)]) (fun k=>k≤l.length) (fun k=>l.length-k) 0 (Nat.zero_le _)
    ⟨⟨rfl,rfl⟩,⟨⟨rfl,rfl⟩,⟨rfl,rfl⟩,rfl,trivial⟩,⟨⟨rfl,rfl,trivial⟩,trivial⟩,⟨⟨rfl,rfl,trivial⟩,trivial⟩,trivial⟩ ?_
  intro k0 hk0
  with_reducible refine wK ?_
  refine aM.mk (fun h0=>?_) (fun h0=>?_)<;>(try simp only[aq] at h0)<;>with_reducible refine wK ?_
  · have hk':k0<l.length:=by simp only[aP] at h0;omega
    obtain⟨x,hx⟩:∃x,l[k0]? =some x:=⟨_,bH hk'⟩
    have hx1:=hone x (bV hx)
    obtain⟨y0,y1,y2,y3,y4,y5,y6,y7,y8,y9⟩:=x
    repeat' (first|refine gK ?_|((first|((with_reducible show aH _ _ _ _ _);refine aH.mk k0 (aG ⟨y0,y1,y2,y3,y4,y5,y6,y7,y8,y9⟩) rfl (az hx) ?_)|((with_reducible show ae _ _ 80 _ _ _ _);refine ae.lit [] hx1 Nt ⟨⟨rfl,rfl,rfl,rfl,rfl,rfl,rfl,rfl,rfl,rfl,trivial⟩,⟨rfl,rfl,rfl,rfl,rfl,rfl,rfl,rfl,rfl,rfl,trivial⟩,trivial⟩ rfl rfl ?_)|((with_reducible show aB _ _ _ _);refine dK ?_)|((with_reducible show aW _ _);refine aW.mk (k0+1) (by omega) (by omega) ⟨⟨rfl,rfl⟩,⟨⟨rfl,rfl⟩,⟨rfl,rfl⟩,by show((k0+1:Nat):Int)=(k0:Int)+1;omega,trivial⟩,⟨⟨rfl,rfl,trivial⟩,trivial⟩,⟨⟨rfl,rfl,trivial⟩,trivial⟩,trivial⟩))<;>with_reducible refine wK ?_)|((with_reducible show(_∧_)∧_∧_);(refine eK ?_ ?_<;>with_reducible repeat' (first|exact trivial|(show _∧_;refine aK ?_ ?_)))))
  ·repeat' (first|refine gK ?_|((with_reducible show(_∧_)∧_∧_);(refine eK ?_ ?_<;>with_reducible repeat' (first|exact trivial|(show _∧_;refine aK ?_ ?_)))))
theorem Ae (f:ForM)(hs:bq f.nodes)(ns:List aO)(hn:ns.length≤100000)(e:Int):aj Tryz.prog 40 [] [aN f,mD ns,ah e,kU f ns,ah e] [] (bA true):=by
  have h33:=zo f hs
  have h90:=Ai ns hn
  obtain⟨l,m⟩:=f
  simp only at*
  refine aj.aA (rvs:=[.tmp 10]) G ak Tryz.func40 rfl Tryz.ntmps40 rfl rfl ?_;with_reducible refine wD ?_
  repeat' (first|refine gK ?_|((first|((with_reducible show ae _ _ 33 _ _ _ _);refine ae.lit [] h33 MY ⟨⟨rfl,rfl,trivial⟩,⟨rfl,rfl,trivial⟩,trivial⟩ rfl rfl ?_)|((with_reducible show ae _ _ 90 _ _ _ _);refine ae.lit [] h90 Nx ⟨rfl,rfl,trivial⟩ rfl rfl ?_)|((with_reducible show aB _ _ _ _);refine dK ?_))<;>with_reducible refine wK ?_)|((with_reducible show(_∧_)∧_∧_);(refine eK ?_ ?_<;>with_reducible repeat' (first|exact trivial|(show _∧_;refine aK ?_ ?_)))))
  all_goals first|rfl|(simp;done)|trace_state
theorem KD (f:ForM)(hs:bq f.nodes):aj Tryz.prog 38 [] [aN f,aN f,mD [],ah 1] [] (bA true):=by
  have h33:=zo f hs
  obtain⟨l,m⟩:=f
  simp only at*
  refine aj.aA (rvs:=[.tmp 8]) G ak Tryz.func38 rfl Tryz.ntmps38 rfl rfl ?_;with_reducible refine wD ?_
  repeat' (first|refine gK ?_|((first|((with_reducible show ae _ _ 33 _ _ _ _);refine ae.lit [] h33 MY ⟨⟨rfl,rfl,trivial⟩,⟨rfl,rfl,trivial⟩,trivial⟩ rfl rfl ?_)|((with_reducible show aB _ _ _ _);refine dK ?_))<;>with_reducible refine wK ?_)|((with_reducible show(_∧_)∧_∧_);(refine eK ?_ ?_<;>with_reducible repeat' (first|exact trivial|(show _∧_;refine aK ?_ ?_)))))
  all_goals first|rfl|(simp;done)|trace_state
end Go.Proofs.Heir
