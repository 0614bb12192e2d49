/- Models, plain laws and contracts of functions of the given program; conditions as stated in each theorem. By an AI agent. -/
import Derived.Test.YtkhjcnjicjgfiaaGreatDoorWO26
import Derived.Test.YtkhjcnjicjgfiaaGreatDoorWO19
import Derived.Test.YtkhjcnjicjgfiaaGreatDoorWO17
import Derived.Test.YtkhjcnjicjgfiaaGreatDoorWO13
import Derived.Shelf.Spec.SlicesInsert
import Derived.Shelf.Spec.SlicesInsertGrow
import Derived.Test.YtkhjcnjicjgfiaaGreatDoorProg
import Derived.Test.YtkhjcnjicjgfiaaGreatDoorWO20
import Derived.Lib.Overlaps
import Derived.Laws.Externs
import Derived.Laws.IdiomCopy
set_option linter.unusedSimpArgs false
set_option linter.unusedVariables false
namespace Go.Proofs.Heir
open Go Go.Am Go.RowKit Go.Lib
set_option maxRecDepth 100000
set_option maxHeartbeats 8000000
set_option maxHeartbeats 16000000
theorem EK (l:List ai)(m:Int)(hs:bE l)(n p:Nat)(g:Int)(x y:ai)(hx:l[n]? =some x)(hy:l[p]? =some y)(R:RF l m):an Tryz.prog 76 [] [Kg l m p (-1) g,aj n] [] (aj (kO l p (-1) g n)):=by
  have tn:af l (n:Int)=true:=aU.2 ⟨n,x,rfl,hx,cz hx⟩
  have tp:af l (p:Int)=true:=aU.2 ⟨p,y,rfl,hy,cz hy⟩
  have ndx:=cz hx
  have ndy:=cz hy
  have h1:=qe l m p (-1) g p y hy
  have h2:=qe l m p (-1) g n x hx
  have ho:=Cs ⟨l,m⟩ hs n p (cC.2 R) tn tp
  have hky:∀c∈y.kids,af l c=true:=fun c hc=>(R.kid p tp c (by rw[ndy];exact hc)).1
  have hkx:∀c∈x.kids,af l c=true:=fun c hc=>(R.kid n tn c (by rw[ndx];exact hc)).1
  have lky:y.kids.length≤1000:=Nat.le_trans (hs.kids y (bT hy)) (by omega)
  have lkx:x.kids.length≤1000:=Nat.le_trans (hs.kids x (bT hx)) (by omega)
  have c1:=so l m p (-1) g x.kids y hy hkx lkx hky lky
  have c2:=so l m p (-1) g [(n:Int)] y hy (fun c hc=>by rw[gg.1 hc];exact tn) (by simp) hky lky
  unfold kO
  rw[ndx,ndy]
  simp only at ho
  generalize mT l n p=O at ho ⊢
  generalize iR l p g x.kids=C1 at c1 ⊢
  generalize iR l p g [(n:Int)]=C2 at c2 ⊢
  obtain⟨b1,b2,b3,b4,b5,b6,b7,b8,b9,b10⟩:=x
  obtain⟨a1,a2,a3,a4,a5,a6,a7,a8,a9,a10⟩:=y
  simp only at h1 h2 c1 ⊢
  refine an.aF (rvs:=[.tmp 4]) G au Tryz.func76 rfl Tryz.ntmps76 rfl rfl ?_;with_reducible refine wD ?_
  repeat' (first
    |refine pK ?_
    | ((first
      |((with_reducible show bk _ _ _ _);(refine bk.mk (fun hp=>?_) (fun hp=>?_)<;>(try simp only[ay,bO,dh,Bool.not_eq_true',Bool.not_eq_false',Decidable.not_not,Int.not_lt,Int.not_le] at hp)))
      |((with_reducible show aa _ _ 142 _ _ _ _);first|refine aa.lit [] h1 A4 ⟨⟨rfl,rfl,rfl,rfl,rfl,trivial⟩,rfl,trivial⟩ rfl rfl ?_|refine aa.lit [] h2 A4 ⟨⟨rfl,rfl,rfl,rfl,rfl,trivial⟩,rfl,trivial⟩ rfl rfl ?_)
      |((with_reducible show aa _ _ 143 _ _ _ _);refine aa.lit [] ho Mk ⟨⟨rfl,rfl,trivial⟩,rfl,rfl,trivial⟩ rfl rfl ?_)
      |((with_reducible show aa _ _ 144 _ _ _ _);first|refine aa.lit [] c1 Jm ⟨⟨rfl,rfl,rfl,rfl,rfl,trivial⟩,rfl,trivial⟩ rfl rfl ?_|refine aa.lit [771] c2 Jm ⟨⟨rfl,rfl,rfl,rfl,rfl,trivial⟩,dj (l:=[(n:Int)]) rfl rfl rfl rfl,trivial⟩ rfl rfl ?_)
      |((with_reducible show aG _ _ _ _ _);refine aG.mk n (az _) rfl (ah hx) ?_))<;>with_reducible refine wK ?_)
    |((with_reducible show(_∧_)∧_∧_);(refine eK ?_ ?_<;>with_reducible repeat' (first|exact trivial|(show _∧_;refine aK ?_ ?_)))))
  all_goals (first|rfl|(simp_all[eN];done)|trace_state)
theorem F7 (l:List ai)(m:Int)(hs:bE l)(n p c:Nat)(g:Int)(x y z:ai)(hx:l[n]? =some x)(hy:l[p]? =some y)(hz:l[c]? =some z)(R:RF l m):an Tryz.prog 76 [] [Kg l m p c g,aj n] [] (aj (kO l p c g n)):=by
  have tn:af l (n:Int)=true:=aU.2 ⟨n,x,rfl,hx,cz hx⟩
  have tp:af l (p:Int)=true:=aU.2 ⟨p,y,rfl,hy,cz hy⟩
  have ndx:=cz hx
  have ndy:=cz hy
  have ndz:=cz hz
  have h1:=qe l m p c g p y hy
  have h2:=qe l m p c g n x hx
  have ho:=Cs ⟨l,m⟩ hs n p (cC.2 R) tn tp
  have hky:∀c∈y.kids,af l c=true:=fun c hc=>(R.kid p tp c (by rw[ndy];exact hc)).1
  have hkx:∀c∈x.kids,af l c=true:=fun c hc=>(R.kid n tn c (by rw[ndx];exact hc)).1
  have lky:y.kids.length≤1000:=Nat.le_trans (hs.kids y (bT hy)) (by omega)
  have lkx:x.kids.length≤1000:=Nat.le_trans (hs.kids x (bT hx)) (by omega)
  have c1:=so l m p c g x.kids y hy hkx lkx hky lky
  have c2:=so l m p c g [(n:Int)] y hy (fun c hc=>by rw[gg.1 hc];exact tn) (by simp) hky lky
  unfold kO
  rw[ndx,ndy,ndz]
  simp only at ho
  generalize mT l n p=O at ho ⊢
  generalize iR l p g x.kids=C1 at c1 ⊢
  generalize iR l p g [(n:Int)]=C2 at c2 ⊢
  obtain⟨b1,b2,b3,b4,b5,b6,b7,b8,b9,b10⟩:=x
  obtain⟨a1,a2,a3,a4,a5,a6,a7,a8,a9,a10⟩:=y
  obtain⟨e1,e2,e3,e4,e5,e6,e7,e8,e9,e10⟩:=z
  have fc:((c:Int)=-1)=False:=eq_false (by omega)
  simp only at h1 h2 c1 ⊢
  refine an.aF (rvs:=[.tmp 4]) G au Tryz.func76 rfl Tryz.ntmps76 rfl rfl ?_;with_reducible refine wD ?_
  (have fct:=fc;(repeat' (first
    |refine pF ?_
    | ((first
      |((with_reducible show bk _ _ _ _);(refine bk.mk (fun hp=>?_) (fun hp=>?_)<;>(try simp only[ay,bO,dh,Bool.not_eq_true',Bool.not_eq_false',Decidable.not_not,Int.not_lt,Int.not_le] at hp)))
      |((with_reducible show aa _ _ 142 _ _ _ _);first|refine aa.lit [] h1 A4 ⟨⟨rfl,rfl,rfl,rfl,rfl,trivial⟩,rfl,trivial⟩ rfl rfl ?_|refine aa.lit [] h2 A4 ⟨⟨rfl,rfl,rfl,rfl,rfl,trivial⟩,rfl,trivial⟩ rfl rfl ?_)
      |((with_reducible show aa _ _ 143 _ _ _ _);refine aa.lit [] ho Mk ⟨⟨rfl,rfl,trivial⟩,rfl,rfl,trivial⟩ rfl rfl ?_)
      |((with_reducible show aa _ _ 144 _ _ _ _);first|refine aa.lit [] c1 Jm ⟨⟨rfl,rfl,rfl,rfl,rfl,trivial⟩,rfl,trivial⟩ rfl rfl ?_|refine aa.lit [771] c2 Jm ⟨⟨rfl,rfl,rfl,rfl,rfl,trivial⟩,dj (l:=[(n:Int)]) rfl rfl rfl rfl,trivial⟩ rfl rfl ?_)
      |((with_reducible show aG _ _ _ _ _);first|refine aG.mk n (az _) rfl (ah hx) ?_|refine aG.mk c (az _) rfl (ah hz) ?_))<;>with_reducible refine wK ?_)
    |((with_reducible show(_∧_)∧_∧_);(refine eK ?_ ?_<;>with_reducible repeat' (first|exact trivial|(show _∧_;refine aK ?_ ?_))))));all_goals clear fct)
  all_goals (first|rfl|(simp_all[eN];done)|trace_state)
theorem KL (l:List ai)(m:Int)(hs:bE l)(n p c g:Int)(hn:af l n=true)(hp:af l p=true)(hc:c=-1∨af l c=true)(R:RF l m):an Tryz.prog 76 [] [Kg l m p c g,aj n] [] (aj (kO l p c g n)):=by
  obtain⟨a,x,rfl,hx,_⟩:=aU.1 hn
  obtain⟨b,y,rfl,hy,_⟩:=aU.1 hp
  rcases hc with rfl|hc
  ·exact EK l m hs a b g x y hx hy R
  · obtain⟨i,z,rfl,hz,_⟩:=aU.1 hc
    exact F7 l m hs a b i g x y z hx hy hz R
theorem GA (f:ForM)(hs:bE f.nodes)(n p c:Int):an Tryz.prog 30 [] [aY f,aj n,aj p,aj c] [] (aj (nY f n p c)):=by
  have h2:=JE f hs n p
  have h1:=BY f hs c
  have h76:iO f n p c=true→an Tryz.prog 76 [] [Kg f.nodes f.most p c (-1),aj n] [] (aj (kO f.nodes p c (-1) n)):=fun h=>by
    obtain⟨l,m⟩:=f
    unfold iO at h
    simp only[bQ,jK,bO] at h
    exact KL l m hs n p c (-1) h.1.2.1 h.1.2.2 h.2 (cC.1 h.1.1)
  obtain⟨l,m⟩:=f
  unfold nY
  unfold iO at h76 ⊢
  simp only at h2 h1 h76 ⊢
  cases e2:(aX ⟨l,m⟩&&(af l n&&af l p)) with
  | false=>
    rw[e2] at h2
    refine an.aF (rvs:=[.tmp 8]) G au Tryz.func30 rfl Tryz.ntmps30 rfl rfl ?_;with_reducible refine wD ?_
    refine aa.lit [121] h2 J2 ⟨⟨rfl,rfl,trivial⟩,dj (l:=[n,p]) rfl rfl rfl rfl,trivial⟩ rfl rfl ?_;with_reducible refine wK ?_
    repeat' (first
    |refine gK ?_
    |((with_reducible show(_∧_)∧_∧_);(refine eK ?_ ?_<;>with_reducible repeat' (first|exact trivial|(show _∧_;refine aK ?_ ?_)))))
    all_goals first|rfl|trace_state
  | true =>
    rw[e2] at h2 h76
    have er:aX ⟨l,m⟩=true:=(Bool.and_eq_true_iff.1 e2).1
    rw[er,Bool.true_and] at h1
    by_cases ec:c=-1
    · subst ec
      have h:=h76 rfl
      refine an.aF (rvs:=[.tmp 8]) G au Tryz.func30 rfl Tryz.ntmps30 rfl rfl ?_;with_reducible refine wD ?_
      refine aa.lit [121] h2 J2 ⟨⟨rfl,rfl,trivial⟩,dj (l:=[n,p]) rfl rfl rfl rfl,trivial⟩ rfl rfl ?_;with_reducible refine wK ?_
      repeat' (first
    |refine gK ?_
    |(((with_reducible show aa _ _ 76 _ _ _ _);refine aa.lit [] h Od ⟨⟨rfl,rfl,rfl,rfl,rfl,trivial⟩,rfl,trivial⟩ rfl rfl ?_)<;>with_reducible refine wK ?_)
    | ((with_reducible show(_∧_)∧_∧_);(refine eK ?_ ?_<;>with_reducible repeat' (first|exact trivial|(show _∧_;refine aK ?_ ?_)))))
      all_goals first|rfl|trace_state
    · have fc:=eq_false ec
      cases e1:af l c with
      | false=>
        rw[e1] at h1
        rw[bY ec]
        refine an.aF (rvs:=[.tmp 8]) G au Tryz.func30 rfl Tryz.ntmps30 rfl rfl ?_;with_reducible refine wD ?_
        refine aa.lit [121] h2 J2 ⟨⟨rfl,rfl,trivial⟩,dj (l:=[n,p]) rfl rfl rfl rfl,trivial⟩ rfl rfl ?_;with_reducible refine wK ?_
        (have fct:=fc;(repeat' (first
    |refine gF ?_
    |(((with_reducible show aa _ _ 71 _ _ _ _);refine aa.lit [211] h1 J2 ⟨⟨rfl,rfl,trivial⟩,dj (l:=[c]) rfl rfl rfl rfl,trivial⟩ rfl rfl ?_)<;>with_reducible refine wK ?_)
    | ((with_reducible show(_∧_)∧_∧_);(refine eK ?_ ?_<;>with_reducible repeat' (first|exact trivial|(show _∧_;refine aK ?_ ?_))))));all_goals clear fct)
        all_goals first|rfl|trace_state
      | true=>
        rw[e1] at h1
        have h:=h76 (by rw[e1];simp)
        rw[bY ec]
        refine an.aF (rvs:=[.tmp 8]) G au Tryz.func30 rfl Tryz.ntmps30 rfl rfl ?_;with_reducible refine wD ?_
        refine aa.lit [121] h2 J2 ⟨⟨rfl,rfl,trivial⟩,dj (l:=[n,p]) rfl rfl rfl rfl,trivial⟩ rfl rfl ?_;with_reducible refine wK ?_
        (have fct:=fc;(repeat' (first
    |refine gF ?_
    | ((first
      |((with_reducible show aa _ _ 71 _ _ _ _);refine aa.lit [211] h1 J2 ⟨⟨rfl,rfl,trivial⟩,dj (l:=[c]) rfl rfl rfl rfl,trivial⟩ rfl rfl ?_)
      |((with_reducible show aa _ _ 76 _ _ _ _);refine aa.lit [] h Od ⟨⟨rfl,rfl,rfl,rfl,rfl,trivial⟩,rfl,trivial⟩ rfl rfl ?_))<;>with_reducible refine wK ?_)
    | ((with_reducible show(_∧_)∧_∧_);(refine eK ?_ ?_<;>with_reducible repeat' (first|exact trivial|(show _∧_;refine aK ?_ ?_))))));all_goals clear fct)
        all_goals first|rfl|trace_state
end Go.Proofs.Heir
namespace Go.Proofs.Heir
open Go Go.Am Go.RowKit Go.Lib
set_option maxRecDepth 100000
set_option maxHeartbeats 8000000
set_option maxHeartbeats 2000000
structure sD (f g:ForM) (ns:List aR):Prop where
  right:aX g=true
  len:g.nodes.length=f.nodes.length
  told:Told f.nodes g.nodes ns
  kind:∀x,af f.nodes x=true→(nd g.nodes x).kind=(nd f.nodes x).kind
  chain:∀n,af f.nodes n=true→∀t,bH t=true→fR t=t→jU n t (iZ (nd f.nodes n).attrs t) ns=some (iZ (nd g.nodes n).attrs t)
theorem sD.nil {f:ForM}(h:aX f=true):sD f f []:=⟨h,rfl,.nil _,fun _ _=>rfl,fun _ _ _ _ _=>rfl⟩
theorem sD.last {f g:ForM}{ns:List aR}(h:sD f g ns){n:Int}(hn:af f.nodes n=true)(h1:(nd f.nodes n).kind=1):runN (J4 (iD f.nodes n),(nd f.nodes n).doc) (nF n ns)=some (J4 (iD g.nodes n),(nd g.nodes n).doc):=h.told.run n hn h1
section
variable {l : List ai} {m : Int}
end
theorem mq:∀ {cs:List Int} {b:Int},b∈cs→∃k:Nat,k<cs.length∧cs[k]? =some b∧(∀ (j:Nat) x,j<k→cs[j]? =some x→x≠b)∧cs.takeWhile (fun c=>decide (c≠b))=cs.take k∧cs.dropWhile (fun c=>decide (c≠b))=cs.drop k∧cs.erase b=cs.take k++cs.drop (k+1)
  |[],b,h=>by cases h
  | a :: r,b,h=>by
    by_cases e:a=b
    · subst e
      refine⟨0,by simp,rfl,fun j x hj=>by omega,?_,?_,?_⟩
      ·rw[List.takeWhile_cons,if_neg (by simp)];rfl
      ·rw[List.dropWhile_cons,if_neg (by simp)];rfl
      ·rw[List.erase_cons_head];rfl
    · obtain⟨k,h1,h2,h3,h4,h5,h6⟩:=mq ((dm.1 h).resolve_left fun q=>e q.symm)
      refine⟨k+1,by simp;omega,by simpa using h2,fun j x hj hx=>?_,?_,?_,?_⟩
      · cases j with
        |zero=>simp at hx;rw[←hx];exact e
        |succ j=>exact h3 j x (by omega) (by simpa using hx)
      ·rw[List.takeWhile_cons,if_pos (by simpa using e),h4];rfl
      ·rw[List.dropWhile_cons,if_pos (by simpa using e),h5];rfl
      ·rw[List.erase_cons,if_neg (by simpa using e),h6];rfl
theorem Kn {cs:List Int}{b k:Int}{i:Nat}(hb:b≠-1)(h4:cs.takeWhile (fun c=>decide (c≠b))=cs.take i)(h5:cs.dropWhile (fun c=>decide (c≠b))=cs.drop i):oF cs b k=cs.take i++k::cs.drop i:=by
  unfold oF
  rw[if_neg hb,h4,h5]
theorem It (cs:List Int)(k:Int):oF cs (-1) k=cs++ [k]:=by unfold oF;rw[if_pos rfl]
end Go.Proofs.Heir
namespace Go.Proofs.Heir
open Go Go.Am Go.RowKit Go.Lib
set_option maxRecDepth 100000
set_option maxHeartbeats 8000000
set_option maxHeartbeats 16000000
theorem B4:∀ {cs:List Int} {b:Int} {i:Nat},cs[i]? =some b→(∀ (j:Nat) x,j<i→cs[j]? =some x→x≠b)→mM cs b=(cs[i+1]?).getD (-1)
  | a::r,b,0,h,_=>by
    cases h
    rw[wk,if_pos rfl,List.getElem?_cons_succ]
    cases r<;>rfl
  | a::r,b,i+1,h,hno=>by
    rw[List.getElem?_cons_succ] at h
    rw[wk,if_neg (hno 0 a (by omega) rfl),List.getElem?_cons_succ]
    exact B4 h fun j x hj hx=>hno (j+1) x (by omega) (by rw[List.getElem?_cons_succ];exact hx)
theorem KY (f:ForM)(hs:bE f.nodes)(n p c:Int):an Tryz.prog 28 [] [aY f,aj n,aj p,aj c] [] (aj (gT f n p c)):=by
  have h30:=GA f hs n p c
  unfold gT
  by_cases e0:nY f n p c=0
  · rw [if_neg (fun q=>q e0)]
    by_cases ec:c=n
    · subst ec
      rw[if_neg (fun q=>q rfl)]
      rw[e0] at h30
      have ha:iO f c p c=true:=by
        cases h:iO f c p c with
        |true=>rfl
        |false=>unfold nY at e0;rw[h] at e0;simp at e0
      have ht:kO f.nodes p c (-1) c=0:=by unfold nY at e0;rw[if_pos ha] at e0;exact e0
      unfold iO at ha
      simp only[bQ,jK,bO] at ha
      obtain⟨⟨hr,hn,hp⟩,_⟩:=ha
      have R:RF f.nodes f.most:=cC.1 hr
      have hc0:=aV hn
      have hin:c∈ (nd f.nodes p).kids:=by
        refine(R.child hp hn).1 ?_
        unfold kO at ht
        by_cases e1:(!eN (nd f.nodes p).kind||mT f.nodes c p)=true
        ·rw[if_pos e1] at ht;omega
        rw[if_neg e1] at ht
        by_cases e2:c≠-1∧(nd f.nodes c).parent≠p
        ·rw[if_pos e2] at ht;omega
        ·exact Classical.byContradiction fun q=>e2 ⟨by omega,q⟩
      obtain⟨i,hi,hic,hno,_⟩:=mq hin
      obtain⟨k,y,rfl,hy,hny⟩:=aU.1 hp
      rw[hny] at hi hic hno ⊢
      have hkl:y.kids.length≤60:=hs.kids y (bT hy)
      have h73:=tW y.kids (by omega) c
      rw[fO hic (dV rfl) fun j x hj hx=>bY (hno j x hj hx)] at h73
      rw[B4 hic hno]
      obtain⟨l,m⟩:=f
      obtain⟨a1,a2,a3,a4,a5,a6,a7,a8,a9,a10⟩:=y
      simp only at h73 hi hic hy hkl ⊢
      have hla:(a7.map bV).length=a7.length:=cj ..
      cases hx:a7[i+1]? with
      | none=>
        have hge:a7.length≤i+1:=List.getElem?_eq_none_iff.1 hx
        have fa:(((i:Int)+1< (a7.length:Int)))=False:=eq_false (by omega)
        refine an.aF (rvs:=[.tmp 8]) G au Tryz.func28 rfl Tryz.ntmps28 rfl rfl ?_;with_reducible refine wD ?_
        repeat' (first
    |refine pK ?_
    | ((first
      |((with_reducible show bk _ _ _ _);(refine bk.mk (fun hp=>?_) (fun hp=>?_)<;>(try simp only[ay,bO,dh,Bool.not_eq_true',Bool.not_eq_false',Decidable.not_not,Int.not_lt,Int.not_le] at hp)))
      |((with_reducible show aa _ _ 30 _ _ _ _);refine aa.lit [] h30 LZ ⟨⟨rfl,rfl,trivial⟩,rfl,rfl,rfl,trivial⟩ rfl rfl ?_)
      |((with_reducible show aa _ _ 73 _ _ _ _);refine aa.lit [] h73 Ju ⟨rfl,rfl,trivial⟩ rfl rfl ?_)
      |((with_reducible show aG _ _ _ _ _);first|refine aG.mk k (az _) rfl (ah hy) ?_|(exfalso;omega)))<;>with_reducible refine wK ?_)
    | ((with_reducible show(_∧_)∧_∧_);(refine eK ?_ ?_<;>with_reducible repeat' (first|exact trivial|(show _∧_;refine aK ?_ ?_)))))
        all_goals first|rfl|exact absurd trivial hp|(exfalso;omega)|trace_state
      | some z=>
        have hlt:i+1<a7.length:=(bg hx).1
        refine an.aF (rvs:=[.tmp 8]) G au Tryz.func28 rfl Tryz.ntmps28 rfl rfl ?_;with_reducible refine wD ?_
        repeat' (first
    |refine pK ?_
    | ((first
      |((with_reducible show bk _ _ _ _);(refine bk.mk (fun hp=>?_) (fun hp=>?_)<;>(try simp only[ay,bO,dh,Bool.not_eq_true',Bool.not_eq_false',Decidable.not_not,Int.not_lt,Int.not_le] at hp)))
      |((with_reducible show aa _ _ 30 _ _ _ _);refine aa.lit [] h30 LZ ⟨⟨rfl,rfl,trivial⟩,rfl,rfl,rfl,trivial⟩ rfl rfl ?_)
      |((with_reducible show aa _ _ 73 _ _ _ _);refine aa.lit [] h73 Ju ⟨rfl,rfl,trivial⟩ rfl rfl ?_)
      |((with_reducible show aG _ _ _ _ _);first|refine aG.mk k (az _) rfl (ah hy) ?_|refine aG.mk (i+1) (aj z) (by first|rfl|(show((i:Int)+1)=((i+1:Nat):Int);omega)) (bK hx) ?_))<;>with_reducible refine wK ?_)
    | ((with_reducible show(_∧_)∧_∧_);(refine eK ?_ ?_<;>with_reducible repeat' (first|exact trivial|(show _∧_;refine aK ?_ ?_)))))
        all_goals first|rfl|exact absurd trivial hp|(exfalso;omega)|trace_state
    · rw[if_pos ec,]
      rw[e0] at h30
      have fc:=eq_false ec
      obtain⟨l,m⟩:=f
      refine an.aF (rvs:=[.tmp 8]) G au Tryz.func28 rfl Tryz.ntmps28 rfl rfl ?_;with_reducible refine wD ?_
      (have fct:=fc;(repeat' (first
    |refine gF ?_
    |(((with_reducible show aa _ _ 30 _ _ _ _);refine aa.lit [] h30 LZ ⟨⟨rfl,rfl,trivial⟩,rfl,rfl,rfl,trivial⟩ rfl rfl ?_)<;>with_reducible refine wK ?_)
    | ((with_reducible show(_∧_)∧_∧_);(refine eK ?_ ?_<;>with_reducible repeat' (first|exact trivial|(show _∧_;refine aK ?_ ?_))))));all_goals clear fct)
      all_goals first|rfl|trace_state
  · rw[if_pos e0]
    have f0:=eq_false e0
    obtain⟨l,m⟩:=f
    refine an.aF (rvs:=[.tmp 8]) G au Tryz.func28 rfl Tryz.ntmps28 rfl rfl ?_;with_reducible refine wD ?_
    (have fct:=f0;(repeat' (first
    |refine gF ?_
    |(((with_reducible show aa _ _ 30 _ _ _ _);refine aa.lit [] h30 LZ ⟨⟨rfl,rfl,trivial⟩,rfl,rfl,rfl,trivial⟩ rfl rfl ?_)<;>with_reducible refine wK ?_)
    |((with_reducible show(_∧_)∧_∧_);(refine eK ?_ ?_<;>with_reducible repeat' (first|exact trivial|(show _∧_;refine aK ?_ ?_))))));all_goals clear fct)
    all_goals first|rfl|trace_state
theorem Bu (f:ForM)(hs:bE f.nodes)(n:Nat)(y:ai)(hy:f.nodes[n]? =some y)(hr:aX f=true):an Tryz.prog 27 [] [aY f,aj n] [aI (dn f.nodes n)] (.own 0 0 (dn f.nodes n).length):=by
  have h1:=BY f hs n
  rw[hr,aU.2 ⟨n,y,rfl,hy,cz hy⟩] at h1
  have h72:=CV y.kids (by have:=hs.kids y (bT hy);omega)
  unfold dn
  rw[cz hy]
  obtain⟨l,m⟩:=f
  obtain⟨a1,a2,a3,a4,a5,a6,a7,a8,a9,a10⟩:=y
  simp only at h72 hy ⊢
  by_cases e:a1=3
  · rw [if_pos e]
    have fe:=eq_true e
    refine an.aF (rvs:=[.tmp 4]) G au Tryz.func27 rfl Tryz.ntmps27 rfl rfl ?_;with_reducible refine wD ?_
    refine aa.lit [81] h1 J2 ⟨⟨rfl,rfl,trivial⟩,dj (l:=[(n:Int)]) rfl rfl rfl rfl,trivial⟩ rfl rfl ?_;with_reducible refine wK ?_
    (have fct:=fe;(repeat' (first
    |refine gF ?_
    | ((first
      |((with_reducible show aG _ _ _ _ _);refine aG.mk n (az _) rfl (ah hy) ?_)
      |((with_reducible show aa _ _ 72 _ _ _ _);refine aa.new 251 [] h72 Hu ⟨rfl,trivial⟩ rfl rfl rfl (mo _) rfl ?_))<;>with_reducible refine wK ?_)
    |((with_reducible show(_∧_)∧_∧_);(refine eK ?_ ?_<;>with_reducible repeat' (first|exact trivial|(show _∧_;refine aK ?_ ?_))))));all_goals clear fct)
    all_goals first|rfl|exact bP (ae _)|exact bP (ae [(n:Int)])|exact ae [(n:Int)]|exact⟨.refl (ae _),ae _⟩|trace_state
  · rw[if_neg e]
    have fe:=eq_false e
    refine an.aF (rvs:=[.tmp 4]) G au Tryz.func27 rfl Tryz.ntmps27 rfl rfl ?_;with_reducible refine wD ?_
    refine aa.lit [81] h1 J2 ⟨⟨rfl,rfl,trivial⟩,dj (l:=[(n:Int)]) rfl rfl rfl rfl,trivial⟩ rfl rfl ?_;with_reducible refine wK ?_
    (have fct:=fe;(repeat' (first
    |refine gF ?_
    |(((with_reducible show aG _ _ _ _ _);refine aG.mk n (az _) rfl (ah hy) ?_)<;>with_reducible refine wK ?_)
    |((with_reducible show(_∧_)∧_∧_);(refine eK ?_ ?_<;>with_reducible repeat' (first|exact trivial|(show _∧_;refine aK ?_ ?_))))));all_goals clear fct)
    all_goals first|rfl|exact bP (ae _)|exact bP (ae [(n:Int)])|exact ae [(n:Int)]|exact⟨.refl (ae _),ae _⟩|trace_state
theorem o7 {l l':List ai}{m n p c before:Int}{a b:Nat}{ka kb ka' kb':List Int}{told:List aR}
    (h28:an Tryz.prog 28 [] [aY ⟨l,m⟩,aj n,aj p,aj c] [] (aj before))
    (h75:an Tryz.prog 75 [aQ m l.length 4 (.own 3 0 0),aI ka,aI kb,aW [],aT l a 1 b 2] [.ptr 0 0 0,aj n,aj p,aj before]
      [aQ m l.length 4 (.own 7 0 told.length),.dead,.dead,.dead,aT l' a 5 b 6,aI ka',aI kb',aW told] (.tup [])):
    an Tryz.prog 74 [aQ m l.length 4 (.own 3 0 0),aI ka,aI kb,aW [],aT l a 1 b 2] [.ptr 0 0 0,.fptr (aj n) 0,.fptr (aj p) 0,.fptr (aY ⟨l,m⟩) 0,.fptr (aj c) 0]
      [aQ m l.length 4 (.own 7 0 told.length),.dead,.dead,.dead,aT l' a 5 b 6,aI ka',aI kb',aW told] fZ:=by
  refine an.fA [(5,151),(6,153),(7,163)] (rvs:=[.tmp 6]) G au Tryz.func74 rfl Tryz.ntmps74 rfl rfl ?_;with_reducible refine wD ?_
  repeat' (first
    |refine gK ?_
    | ((first
      |((with_reducible show aa _ _ 28 _ _ _ _);refine aa.lit [] h28 Ot ⟨⟨rfl,rfl,trivial⟩,rfl,rfl,rfl,trivial⟩ rfl rfl ?_)
      |((with_reducible show aa _ _ 75 _ _ _ _);refine aa.dg (news:=[aQ m l.length 4 (.own 163 0 told.length),.dead,.dead,.dead,aT l' a 151 b 153,aI ka',aI kb',aW told]) [0,1,2,3,4,151,153,163] [] h75 Om ⟨⟨rfl,rfl⟩,rfl,rfl,rfl,trivial⟩ ⟨⟨rfl,.inr ⟨⟨⟨⟨rfl,rfl⟩,rfl,⟨rfl,rfl⟩,trivial⟩,trivial⟩,rfl⟩⟩,⟨rfl,.inl ⟨rfl,ae _⟩⟩,⟨rfl,.inl ⟨rfl,ae _⟩⟩,⟨rfl,.inl ⟨rfl,aq _⟩⟩,⟨rfl,bR (fun _=>rfl) (fun _=>rfl)⟩,trivial⟩ rfl ⟨⟨rfl,rfl⟩,rfl⟩ rfl ⟨⟨rfl,.inr ⟨rfl,rfl,rfl⟩⟩,⟨rfl,bM rfl rfl (by decide) (by decide)⟩,⟨rfl,.inl ⟨rfl,ae _⟩⟩,⟨rfl,.inl ⟨rfl,ae _⟩⟩,⟨rfl,.inl ⟨rfl,aq _⟩⟩,trivial⟩ rfl rfl ?_)
      |((with_reducible show aL _ _ _ _);refine dK ?_))<;>with_reducible refine wK ?_)
    |((with_reducible show(_∧_)∧_∧_);(refine eK ?_ ?_<;>with_reducible repeat' (first|exact trivial|(show _∧_;refine aK ?_ ?_)))))
  all_goals first
    |rfl
    |exact⟨.refl (ae _),ae _⟩
    |exact⟨.refl (aq _),aq _⟩
    |exact bt (fun _=>rfl) (fun _=>rfl)
    |trace_state
theorem wV (f:ForM)(hs:bE f.nodes){a b:Nat}{ya yb:ai}(hab:a≠b)(ha:f.nodes[a]? =some ya)(hb:f.nodes[b]? =some yb)(g:Nat)(cg:ak Tryz.prog g)(caps:List AV)(hcaps:br caps=true)(l':List ai)(k1 k2:List Int)(told:List aR)(hl:l'.length=f.nodes.length)
    (hka:∀y,l'[a]? =some y→y.kids=k1) (hkb:∀y,l'[b]? =some y→y.kids=k2)
    (hg:an Tryz.prog g [aQ f.most f.nodes.length 4 (.own 3 0 0),aI ya.kids,aI yb.kids,aW [],aT f.nodes a 1 b 2] (.ptr 0 0 0::caps)
      [aQ f.most f.nodes.length 4 (.own 7 0 told.length),.dead,.dead,.dead,aT l' a 5 b 6,aI k1,aI k2,aW told] fZ):
    an Tryz.prog 56 [] [aY f,fZ,.clo (.func g) [] caps] [] (.tup [aY ⟨l',f.most⟩,uj told,aj 0]):=by
  have h121:=Ke f hs hab ha hb
  have hlm:(l'.map bJ).length=f.nodes.length:=by rw[cj,hl]
  obtain⟨l,m⟩:=f
  simp only at*
  refine an.aF (rvs:=[.cell 6 24,.tmp 7,.tmp 8]) G au Tryz.func56 rfl Tryz.ntmps56 rfl rfl ?_;with_reducible refine wD ?_
  repeat' (first
    |refine gK ?_
    | ((first
      |((with_reducible show aa _ _ 121 _ _ _ _);refine aa.dg (news:=[aQ m l.length 114 (.own 113 0 0),aI ya.kids,aI yb.kids,.live 9 [] false,aT l a 111 b 112]) [110,111,112,113,114] [] h121 DR ⟨⟨rfl,rfl,trivial⟩,trivial⟩ trivial rfl ⟨⟨rfl,rfl⟩,rfl⟩ rfl ⟨⟨rfl,.inr ⟨rfl,rfl,rfl⟩⟩,⟨rfl,.inl ⟨rfl,ae _⟩⟩,⟨rfl,.inl ⟨rfl,ae _⟩⟩,⟨rfl,.inl ⟨rfl,rfl⟩⟩,⟨rfl,bM rfl rfl (by decide) (by decide)⟩,trivial⟩ rfl rfl ?_)
      |((with_reducible show aN _ _ _ _ _);first|refine aN.kg true Tryz.underlying98 rfl rfl rfl rfl rfl ?_|refine aN.kK false Tryz.underlying98 rfl rfl rfl rfl rfl ?_)
      |((with_reducible show aa _ _ _ _ _ _ _);refine aa.dg (news:=[aQ m l.length 114 (.own 163 0 told.length),.dead,.dead,.dead,aT l' a 161 b 162,aI k1,aI k2,aW told]) [110,111,112,113,114,161,162,163] [] hg cg ⟨⟨rfl,rfl⟩,bP hcaps⟩ ⟨⟨rfl,.inr ⟨⟨⟨⟨rfl,rfl⟩,rfl,⟨rfl,rfl⟩,trivial⟩,trivial⟩,rfl⟩⟩,⟨rfl,.inl ⟨rfl,ae _⟩⟩,⟨rfl,.inl ⟨rfl,ae _⟩⟩,⟨rfl,.inl ⟨rfl,rfl⟩⟩,⟨rfl,bR (fun _=>rfl) (fun _=>rfl)⟩,trivial⟩ rfl ⟨⟨rfl,rfl⟩,rfl⟩ rfl ⟨⟨rfl,.inr ⟨rfl,rfl,rfl⟩⟩,⟨rfl,bM rfl rfl (by decide) (by decide)⟩,⟨rfl,.inl ⟨rfl,ae _⟩⟩,⟨rfl,.inl ⟨rfl,ae _⟩⟩,⟨rfl,.inl ⟨rfl,aq _⟩⟩,trivial⟩ rfl rfl ?_)
      |((with_reducible show aL _ _ _ _);refine dK ?_))<;>with_reducible refine wK ?_)
    |((with_reducible show(_∧_)∧_∧_);(refine eK ?_ ?_<;>with_reducible repeat' (first|exact trivial|(show _∧_;refine aK ?_ ?_)))))
  all_goals first
    |rfl
    |exact oe rfl rfl rfl (by simp) (aq _)
    |exact(by rw[←hl];exact ux (ra:=false) (rb:=false) (ea:=[]) (eb:=[]) rfl rfl (fun y hy=>by rw[List.append_nil,hka y hy];exact⟨rfl,rfl⟩) (fun y hy=>by rw[List.append_nil,hkb y hy];exact⟨rfl,rfl⟩))
    |trace_state
def w4:ByteArray:=⟨#[112,117,116]⟩
def sB (f:ForM)(n p c:Int):List AV:=[.fptr (aj n) 0,.fptr (aj p) 0,.fptr (aY f) 0,.fptr (aj c) 0]
theorem AZ (f:ForM)(n p c:Int)(e:Int)(r:ForM)(ns:List aR)(z:Int)(h30:an Tryz.prog 30 [] [aY f,aj n,aj p,aj c] [] (aj e))(h60:an Tryz.prog 60 [] [cu w4,aj e] [] (.lit (jt w4 e)))
    (h56:an Tryz.prog 56 [] [aY f,(.lit (jt w4 e)),.clo (.func 74) [] (sB f n p c)] [] (.tup [aY r,uj ns,aj z])):an Tryz.prog 29 [] [aY f,aj n,aj p,aj c] [] (.tup [aY r,uj ns,aj z]):=by
  unfold sB at h56
  obtain⟨l,m⟩:=f
  obtain⟨l',m'⟩:=r
  refine an.aF (rvs:=[.cell 8 24,.tmp 9,.tmp 10]) G au Tryz.func29 rfl Tryz.ntmps29 rfl rfl ?_;with_reducible refine wD ?_
  repeat' (first
    |refine gK ?_
    | ((first
      |((with_reducible show aa _ _ 30 _ _ _ _);refine aa.lit [] h30 LZ ⟨⟨rfl,rfl,trivial⟩,rfl,rfl,rfl,trivial⟩ rfl rfl ?_)
      |((with_reducible show aa _ _ 60 _ _ _ _);refine aa.lit [] h60 Km ⟨rfl,rfl,trivial⟩ rfl rfl ?_)
      |((with_reducible show aa _ _ 56 _ _ _ _);refine aa.val [50,60,40,70] h56 Lm ⟨⟨rfl,rfl,trivial⟩,⟨rfl,rfl⟩,⟨rfl,trivial,⟨_,_,_,_,_,rfl,rfl,rfl,rfl,rfl,rfl⟩,⟨_,_,_,_,_,rfl,rfl,rfl,rfl,rfl,rfl⟩,⟨_,_,_,_,_,rfl,rfl,rfl,rfl,rfl,⟨rfl,rfl,trivial⟩⟩,⟨_,_,_,_,_,rfl,rfl,rfl,rfl,rfl,rfl⟩,trivial⟩,trivial⟩ rfl rfl rfl ?_)
      |((with_reducible show aL _ _ _ _);refine dK ?_))<;>with_reducible refine wK ?_)
    |((with_reducible show(_∧_)∧_∧_);(refine eK ?_ ?_<;>with_reducible repeat' (first|exact trivial|(show _∧_;refine aK ?_ ?_)))))
  all_goals first|rfl|trace_state
theorem oU (f:ForM)(n p c:Int)(r:ForM)(ns:List aR)(z:Int)(h30:an Tryz.prog 30 [] [aY f,aj n,aj p,aj c] [] (aj 0))(h60:an Tryz.prog 60 [] [cu w4,aj 0] [] fZ)
    (h56:an Tryz.prog 56 [] [aY f,fZ,.clo (.func 74) [] (sB f n p c)] [] (.tup [aY r,uj ns,aj z])):an Tryz.prog 29 [] [aY f,aj n,aj p,aj c] [] (.tup [aY r,uj ns,aj z]):=by
  unfold sB at h56
  obtain⟨l,m⟩:=f
  obtain⟨l',m'⟩:=r
  refine an.aF (rvs:=[.cell 8 24,.tmp 9,.tmp 10]) G au Tryz.func29 rfl Tryz.ntmps29 rfl rfl ?_;with_reducible refine wD ?_
  repeat' (first
    |refine gK ?_
    | ((first
      |((with_reducible show aa _ _ 30 _ _ _ _);refine aa.lit [] h30 LZ ⟨⟨rfl,rfl,trivial⟩,rfl,rfl,rfl,trivial⟩ rfl rfl ?_)
      |((with_reducible show aa _ _ 60 _ _ _ _);refine aa.lit [] h60 Km ⟨rfl,rfl,trivial⟩ rfl rfl ?_)
      |((with_reducible show aa _ _ 56 _ _ _ _);refine aa.val [50,60,40,70] h56 Lm ⟨⟨rfl,rfl,trivial⟩,⟨rfl,rfl⟩,⟨rfl,trivial,⟨_,_,_,_,_,rfl,rfl,rfl,rfl,rfl,rfl⟩,⟨_,_,_,_,_,rfl,rfl,rfl,rfl,rfl,rfl⟩,⟨_,_,_,_,_,rfl,rfl,rfl,rfl,rfl,⟨rfl,rfl,trivial⟩⟩,⟨_,_,_,_,_,rfl,rfl,rfl,rfl,rfl,rfl⟩,trivial⟩,trivial⟩ rfl rfl rfl ?_)
      |((with_reducible show aL _ _ _ _);refine dK ?_))<;>with_reducible refine wK ?_)
    |((with_reducible show(_∧_)∧_∧_);(refine eK ?_ ?_<;>with_reducible repeat' (first|exact trivial|(show _∧_;refine aK ?_ ?_)))))
  all_goals first|rfl|trace_state
end Go.Proofs.Heir
namespace Go.Proofs
open Go.Shelf
def Tryz.yU:Go.Shelf.Ren:=⟨fun|21=>140|27=>189|28=>190|35=>214|39=>228|n=>n,fun|22=>33|3=>3|4=>4|0=>0|n=>n,fun|n=>n⟩
theorem Tryz.CE:Go.Proofs.Lays2.n21 Tryz.prog Tryz.yU:={
  mixed:=by kernel_rfl
  f21:=Tryz.func140.trans (congrArg some (by kernel_rfl))
  f27:=Tryz.func189.trans (congrArg some (by kernel_rfl))
  f28:=Tryz.func190.trans (congrArg some (by kernel_rfl))
  f35:=Tryz.func214.trans (congrArg some (by kernel_rfl))
  f39:=Tryz.func228.trans (congrArg some (by kernel_rfl))
  t0:=Tryz.underlying0
  a0:=Tryz.isAgg0
  z0:=Tryz.sizeOf0
  v0:=Tryz.zeroValue0
  t3:=Tryz.underlying3
  a3:=Tryz.isAgg3
  z3:=Tryz.sizeOf3
  v3:=Tryz.zeroValue3
  t4:=Tryz.underlying4
  a4:=Tryz.isAgg4
  z4:=Tryz.sizeOf4
  v4:=Tryz.zeroValue4
  t22:=Tryz.underlying33
  a22:=Tryz.isAgg33
  z22:=Tryz.sizeOf33
  v22:=Tryz.zeroValue33
  i3:=by kernel_rfl}
end Go.Proofs
namespace Go.Proofs.Heir
open Go.Am Go.RowKit Go.Lib
set_option maxRecDepth 100000
set_option maxHeartbeats 8000000
theorem G7 (b off cap n vb vo vc:Nat)(z:Int)(C:Array Value)(e:TypeId)(w:World)(hC:w.heap[b]? =some (.cells C e (0,0)))(hfit:off+cap≤C.size)(hn:n+1≤cap)(hx:w.cell? ⟨vb,vo,none⟩=some (.int .i64 z))(hn63:n≤100000):
    Calls Tryz.prog 140 #[.slice (some ⟨b,off,none⟩) n cap,.int .i64 n,.slice (some ⟨vb,vo,none⟩) 1 vc] w fun e' w'=>e'=.returned (.slice (some ⟨b,off,none⟩) (n+1) cap)∧w'=w.setCells b (off+n) [.int .i64 z]:=by
  obtain⟨old,hold⟩:∃v,w.cell? ⟨b,off+n,none⟩=some v:=by
    have:w.cell? ⟨b,off+n,none⟩=C[off+n]? :=by simp[World.cell?,hC]
    rw[this,Array.getElem?_eq_getElem (by omega)];exact⟨_,rfl⟩
  have hfz:w.frozen? ⟨b,off+n,none⟩=false:=by simp[World.frozen?,hC]
  have mixed:Tryz.prog.follows Departure.mixedOrders=true:=by kernel_rfl
  have hic:n≤cap:=by omega
  clear hC
  go_enter Tryz.func140,Tryz.ntmps140
  go_wp2
  all_goals (try go_ret)
  all_goals first|exact⟨rfl,rfl⟩|trace_state
theorem BI (b off cap n i vb vo vc:Nat)(z:Int)(cs:List Value)(C:Array Value)(e:TypeId)(w:World)(hC:w.heap[b]? =some (.cells C e (0,0)))(hfit:off+cap≤C.size)(hn:n+1≤cap)(hi:i<n)(hx:w.cell? ⟨vb,vo,none⟩=some (.int .i64 z))(hn63:n≤100000)
    (hcl:cs.length=n) (hcs:∀j v,cs[j]? =some v→C[off+j]? =some v) (h1c:∀v∈cs,v.oneCell'=true) (hvb:vb≠b) (tA:TypeId) (kA:Nat) (hsa:w.shape? vb=some (tA,kA)) (hfa:w.frozen? ⟨vb,vo,none⟩=false) (hfe:w.frozen? ⟨vb,kA,none⟩=false):
    Calls Tryz.prog 140 #[.slice (some ⟨b,off,none⟩) n cap,.int .i64 i,.slice (some ⟨vb,vo,none⟩) 1 vc] w fun e' w'=>e'=.returned (.slice (some ⟨b,off,none⟩) (n+1) cap)∧w'=(w.drew.setCells b (off+ (i+1)) (cs.drop i)).setCells b (off+i) [.int .i64 z]:=by
  have hsb:w.shape? b=some (e,C.size):=by simp[World.shape?,hC]
  have hcell:∀q,w.cell? ⟨b,q,none⟩=C[q]? :=fun q=>by simp[World.cell?,hC]
  have hfz:∀q,w.frozen? ⟨b,q,none⟩=false:=fun q=>by simp[World.frozen?,hC]
  have hsp:∀j,j<n+1→(w.cell? ⟨b,off+j,none⟩).isSome=true:=fun j hj=>by rw[hcell,Array.getElem?_eq_getElem (by omega)];rfl
  have hsz:(Tryz.prog.info? 3).map (·.size)=some 1:=by kernel_rfl
  have hov:∀lb cb,(callFunc 189 #[.slice (some ⟨vb,vo,none⟩) 1 vc,.slice (some ⟨b,off+ (i+1),none⟩) lb cb]).run Tryz.prog w=.ok (.value (.bool false)) w:=fun lb cb=>by
    rw [run_callFunc_extern Tryz.func189 (by kernel_rfl) (by kernel_rfl) (by kernel_rfl) (e:=Extern.SlicesOverlaps.overlaps #[33,33] #[4]) (by kernel_rfl),
      Lib.run_overlaps_apart w 33 4 3 Tryz.underlying33 1 Tryz.sizeOf3 ⟨vb,vo,none⟩ ⟨b,off+ (i+1),none⟩ 1 vc lb cb hvb tA e kA C.size hsa hsb (by omega) hfa hfe]
    rfl
  have hdl:(cs.drop i).length=n-i:=by rw[List.length_drop,hcl]
  have hcp1:∀ty dc sc,(Builtin.copy_ #[33,33] ty #[.slice (some ⟨b,off+ (i+1),none⟩) (n-i) dc,.slice (some ⟨b,off+i,none⟩) (n+1-i) sc]).run Tryz.prog w.drew=.ok (goInt (cs.drop i).length) (w.drew.setCells b (off+ (i+1)) (cs.drop i)):=fun ty dc sc=>
    run_copy_cells w.drew _ _ ty 3 b (off+ (i+1)) (n-i) dc ⟨b,off+i,none⟩ (n+1-i) sc (cs.drop i) Tryz.underlying33 hsz (by rw[hdl];simp only[Nat.min_def];split<;>omega)
      (fun j v hj=>by rw[Addr.add_lit,Nat.add_assoc];show w.cell? _=_;rw[hcell];exact hcs (i+j) v (by rwa [List.getElem?_drop] at hj))
      (fun j hj=>by rw[Nat.add_assoc];exact hsp _ (by omega)) (fun j hj=>hfz _) (fun v hv=>h1c v (List.mem_of_mem_drop hv))
  obtain⟨W1,hW1⟩:∃W1,W1=w.drew.setCells b (off+ (i+1)) (cs.drop i):=⟨_,rfl⟩
  have hsp1:∀k,k<n+1→(W1.cell? ⟨b,off+k,none⟩).isSome=true:=fun k hk=>by
    rw[hW1]
    exact isSome_setCells b _ _ _ (fun j hj=>by rw[Nat.add_assoc];exact hsp _ (by omega)) _ (hsp k hk)
  have hcp2:∀ (W:World),(∀x,W.cell? x=W1.cell? x)→(∀x,W.frozen? x=W1.frozen? x)→∀ty dc,(Builtin.copy_ #[33,33] ty #[.slice (some ⟨b,off+i,none⟩) (n+1-i) dc,.slice (some ⟨vb,vo,none⟩) 1 vc]).run Tryz.prog W=.ok (goInt ([.int .i64 z]:List Value).length) (W.setCells b (off+i) [.int .i64 z]):=fun W hWc hWf ty dc=>
    run_copy_cells W _ _ ty 3 b (off+i) (n+1-i) dc ⟨vb,vo,none⟩ 1 vc [.int .i64 z] Tryz.underlying33 hsz (by show 1=_;simp only[Nat.min_def];split<;>omega)
      (fun j v hj=>by
        have hj0:j=0:=by have:=(bg hj).1;simp at this;exact this
        subst hj0
        cases hj
        rw[Addr.add_lit,hWc,hW1,World.cell?_setCells_out b _ _ _ _ (fun h _=>absurd h hvb)]
        exact hx)
      (fun j hj=>by rw[hWc,Nat.add_assoc];exact hsp1 _ (by simp at hj;omega)) (fun j hj=>by rw[hWf,hW1,World.frozen?_setCells];exact hfz _) (fun v hv=>by simp at hv;subst hv;rfl)
  rw[←hW1] at hcp1
  have mixed:Tryz.prog.follows Departure.mixedOrders=true:=by kernel_rfl
  have hic:n≤cap:=by omega
  have hib:i≤cap:=by omega
  have hin:i≤n:=by omega
  have hp1:(0:Int)≤ (i:Int)+1:=by omega
  have hw1:IntKind.i64.wrap ((i:Int)+1)=(i:Int)+1:=by rw[IntKind.wrap_i64];omega
  have hw2:IntKind.i64.wrap ((n:Int)+1)=(n:Int)+1:=by rw[IntKind.wrap_i64];omega
  have hz2:¬ ((i:Int)=(n:Int)):=by omega
  have htn:((i:Int)+1).toNat=i+1:=by omega
  have hb2:¬ (cap=i+1):=by omega
  have hb3:(i:Int)≤ (n:Int)+1:=by omega
  have hb4:¬ (cap=i):=by omega
  clear hC
  go_enter Tryz.func140,Tryz.ntmps140
  go_wp2_with (simp only[hov])
  go_region_law_o (refine step_copy_runI rfl (.tmp 73) (.tmp 76) 33 33 rfl _ _ (by simp[Act.eval,Act.put]) (by simp[Act.eval,Act.put]) (hcp1 _ _ _) ?_)
  go_wp2_with (at_builtin;refine wpList_copy_runI _ rfl _ _ 33 33 rfl _ _ rfl rfl (hcp2 _ (fun _=>rfl) (fun _=>rfl) _ _) ?_)
  go_ret
  exact⟨rfl,rfl⟩
end Go.Proofs.Heir
namespace Go.Proofs.Heir
open Go.Am Go.RowKit Go.Lib Go.Shelf
set_option maxRecDepth 100000
set_option maxHeartbeats 8000000
theorem DW (b off n c i vb vo vc:Nat)(z:Int)(cs:List Value)(w:World)(hi:i<n)(hnc:n≤c)(hroom:c<n+1)(hn:n≤100000)(hcl:cs.length=n)(hcs:∀j v,cs[j]? =some v→w.cell? ⟨b,off+j,none⟩=some v)(hx:w.cell? ⟨vb,vo,none⟩=some (.int .i64 z))(h1c:∀v∈cs,v.oneCell'=true):
    Calls Tryz.prog 140 #[.slice (some ⟨b,off,none⟩) n c,.int .i64 i,.slice (some ⟨vb,vo,none⟩) 1 vc] w fun e w'=>
      e=.returned (.slice (some ⟨w.heap.size,0,none⟩) (n+1) (grownCap w (n+1) c 3))∧
      w'=(((w.alloc (.cells ((cs.take i).toArray++Builtin.zeroCells (Value.int .i64 0).cells (n+1-i)++Builtin.zeroCells (Value.int .i64 0).cells (grownCap w (n+1) c 3- (n+1))) 3)).drew.setCells w.heap.size i [.int .i64 z]).drew).setCells w.heap.size (i+1) (cs.drop i):=
  Any2.slices_Insert_int_grow Tryz.CE b off n c i vb vo 1 vc cs [.int .i64 z] w hi (by decide) hnc hroom (by omega) hcl rfl hcs (fun j v hj=>by
    cases j with
    |zero=>cases hj;exact hx
    |succ j=>simp at hj) h1c (fun v hv=>by simp at hv;subst hv;rfl)
theorem qq (base:Option Addr)(n c vb vo vc:Nat)(z:Int)(cs:List Value)(w:World)(hnc:n≤c)(hroom:c<n+1)(hn:n≤100000)(hcl:cs.length=n)(hnil:base=none→n=0)(hcs:∀a,base=some a→∀j v,cs[j]? =some v→w.cell? (a.add j)=some v)(hx:w.cell? ⟨vb,vo,none⟩=some (.int .i64 z)):
    Calls Tryz.prog 140 #[.slice base n c,.int .i64 n,.slice (some ⟨vb,vo,none⟩) 1 vc] w fun e w'=>
      e=.returned (.slice (some ⟨w.heap.size,0,none⟩) (n+1) (grownCap w (n+1) c 3))∧
      w'=w.drew.alloc (.cells ((cs++ [Value.int .i64 z]).toArray++Builtin.zeroCells (Value.int .i64 0).cells (grownCap w (n+1) c 3- (n+1))) 3):=
  Any2.slices_Insert_int_end_grow Tryz.CE base n c vb vo 1 vc cs [.int .i64 z] w (by decide) hnc hroom (by omega) hcl rfl hnil hcs (fun j v hj=>by
    cases j with
    |zero=>cases hj;exact hx
    |succ j=>simp at hj) (fun v hv=>by simp at hv;subst hv;rfl)
end Go.Proofs.Heir
namespace Go.Proofs.Heir
open Go.Am Go.RowKit Go.Lib
set_option maxRecDepth 100000
set_option maxHeartbeats 8000000
theorem xz (w:World)(C C':Array Value)(e:TypeId):(w.alloc (.cells C e)).setRow w.heap.size C'=w.alloc (.cells C' e):=by
  unfold World.setRow World.alloc
  congr 1
  apply Array.ext_getElem?
  intro k
  simp only[Array.getElem?_modify,Array.getElem?_push]
  by_cases h:w.heap.size=k
  ·subst h;simp
  · have:¬k=w.heap.size:=fun q=>h q.symm
    simp[h,this]
theorem nu (w:World)(C:Array Value)(e:TypeId)(vs:List Value)(o:Nat)(h:o+vs.length≤C.size):
    ∃C',(w.alloc (.cells C e)).setCells w.heap.size o vs=w.alloc (.cells C' e)∧C'.size=C.size∧∀q,C'[q]? =if o≤q∧q<o+vs.length then vs[q-o]? else C[q]? :=by
  have hb:(w.alloc (.cells C e)).heap[w.heap.size]? =some (.cells C e (0,0)):=by
    show(w.heap.push _)[w.heap.size]? =_
    simp
  obtain⟨C',h1,h2,h3⟩:=eP w.heap.size e (0,0) vs o C (w.alloc (.cells C e)) hb h
  exact⟨C',by rw[h1,xz],h2,h3⟩
end Go.Proofs.Heir
namespace Go.Proofs.Heir
open Go.Am Go.RowKit Go.Lib
set_option maxRecDepth 100000
set_option maxHeartbeats 8000000
set_option maxHeartbeats 4000000
theorem pX {α:Type}(A B:List α)(x:α)(q:Nat):(A++ [x]++B)[q]? =if q<A.length then A[q]? else if q=A.length then some x else B[q- (A.length+1)]? :=by
  rw[List.append_assoc,List.getElem?_append]
  split
  ·rfl
  · rename_i h
    by_cases hq:q=A.length
    ·subst hq;simp
    ·rw[if_neg hq,show[x]++B=x::B from rfl,show q-A.length=(q- (A.length+1))+1 from by omega,List.getElem?_cons_succ]
theorem lN (v:Value)(n:Nat)(hv:v.cells= #[v]):(Builtin.zeroCells v.cells n).size=n:=by simp[Builtin.zeroCells,hv]
theorem uw (l:List Value)(Z:Array Value){q:Nat}(h:q<l.length):(l.toArray++Z)[q]? =l[q]? :=by
  rw[Array.getElem?_append,if_pos (by simpa using h)];simp
theorem uu (w:World)(c:Obj):(w.alloc c).drew=w.drew.alloc c:=rfl
theorem o5 {rows:List AV}(hone:j7 (flat rows)=true)(i:Nat)(x:Int)(hi:i≤rows.length)(hmany:rows.length≤100000):
    an Tryz.prog 140 [.live 1 rows false,.live 1 [aj x] false] [.own 0 0 rows.length,aj i,.own 1 0 1] [.dead,.live 1 [aj x] false,.live 1 (rows.take i++ [aj x]++rows.drop i) false] (.own 2 0 (rows.length+1)):=by
  intro w W0 L vs hL hs hr
  obtain⟨v0,v1,v2,rfl⟩:∃v0 v1 v2,vs=[v0,v1,v2]:=by
    have:=hr.1
    match vs,this with
    |[a,b,c],_=>exact⟨a,b,c,rfl⟩
  have h1:=hr.2 1 _ v1 rfl rfl
  cases h1
  have h2:=hr.2 2 _ v2 rfl rfl
  have h0:=hr.2 0 _ v0 rfl rfl
  obtain⟨B,hB,hobj⟩:=hs.objs 0 1 rows false rfl
  obtain⟨B1,hB1,hobj1⟩:=hs.objs 1 1 [aj x] false rfl
  have hwd:=hobj.width
  have hwd1:=hobj1.width
  have hfl:=cH hobj.wide
  have hwide:bD 1 (rows.take i++ [aj x]++rows.drop i):=((hobj.wide.sub fun r hr=>List.mem_of_mem_take hr).append hobj1.wide).append (hobj.wide.sub fun r hr=>List.mem_of_mem_drop hr)
  have hlen:(rows.take i++ [aj x]++rows.drop i).length=rows.length+1:=by simp;omega
  have hfr:flat (rows.take i++ [aj x]++rows.drop i)=(flat rows).take i++ [aj x]++ (flat rows).drop i:=by
    rw[gr,gr,kj hobj.wide,kP hobj.wide];simp[flat,Am.cells]
  cases h2 with
  | @own _ _ _ vc e1 n1 B1' b1 bv bp b2 b3 b4=>
  rw[hB1] at b1;cases b1
  obtain⟨D,e2,fz2,d1,d2,d3⟩:=hobj1.blk bv bp
  rw[d2 rfl] at d1
  rw[hwd1,Nat.zero_mul,Nat.add_zero]
  obtain⟨vx,k1,k2⟩:=hobj1.cell bp 0 (aj x) rfl
  cases k2
  have hx:w.cell? ⟨B1.b,B1.o,none⟩=some (.int .i64 x):=by simpa using k1
  have hfin:∀ (w1:World) (bn on cap:Nat) (sz:Nat) (e:TypeId),rows.length+1≤cap→w1.shape? bn=some (e,sz)→on+cap≤sz→
      ct (Wr W0 (bq L 2 ⟨bn,on,1,false,false⟩) (aH [.dead,.live 1 [aj x] false,.live 1 (rows.take i++ [aj x]++rows.drop i) false])) (bq L 2 ⟨bn,on,1,false,false⟩) w1 (.own 2 0 (rows.length+1)) (.slice (some ⟨bn,on,none⟩) (rows.length+1) cap):=by
    intro w1 bn on cap sz e h1 h2 h3
    have :=ct.own (W:=Wr W0 (bq L 2 ⟨bn,on,1,false,false⟩) (aH [.dead,.live 1 [aj x] false,.live 1 (rows.take i++ [aj x]++rows.drop i) false])) (μ:=bq L 2 ⟨bn,on,1,false,false⟩)
        (w:=w1) (t:=2) (off:=0) (len:=rows.length+1) (cap:=cap) (e:=e) (n:=sz) (B:=⟨bn,on,1,false,false⟩) (by simp[bq]) rfl rfl h1 h2 (by simp only[Nat.zero_add];omega)
    simpa using this
  have hgrown:∀ (k:Nat) (C2:Array Value) (cap:Nat),rows.length+1≤cap→C2.size=cap→
      (∀ (q:Nat) (c:AV),(flat (rows.take i++ [aj x]++rows.drop i))[q]? =some c→∃v,C2[q]? =some v∧ct (Wr W0 L (aH [.live 1 rows false,.live 1 [aj x] false])) L w c v)→
      ∃ μ',ck Tryz.prog 0 w W0 L μ' (bare [.dead,.live 1 [aj x] false,.live 1 (rows.take i++ [aj x]++rows.drop i) false]) gi (({w with drawn:=k}:World).alloc (.cells C2 3))∧
        ct (Wr W0 μ' (aH [.dead,.live 1 [aj x] false,.live 1 (rows.take i++ [aj x]++rows.drop i) false])) μ' (({w with drawn:=k}:World).alloc (.cells C2 3)) (.own 2 0 (rows.length+1)) (.slice (some ⟨w.heap.size,0,none⟩) (rows.length+1) cap):=by
    intro k C2 cap hcap hC2 hcell
    have hal:=(hs.drawn k).alloc (t:=2) (wd:=1) (rows:=rows.take i++ [aj x]++rows.drop i) (C:=C2) (e:=3) rfl hwide (by rw[hlen];omega) (fun q c hc=>by
      obtain⟨v,j1,j2⟩:=hcell q c hc
      exact⟨v,j1,j2.grow (Grow.drawn k)⟩)
    have hdr:=hal.drop (m':=aH [.dead,.live 1 [aj x] false,.live 1 (rows.take i++ [aj x]++rows.drop i) false]) (fun t=>by
      match t with
      |0=>exact .inr (.inl ⟨rfl,by simp[bh,bare,aH]⟩)
      |1=>exact .inl rfl
      |2=>exact .inl rfl
      |t+3=>exact .inl (by simp[bh,bare,aH]))
    exact⟨_,hdr,hfin _ _ _ _ cap 3 hcap (by simp[World.shape?,World.alloc,hC2]) (by omega)⟩
  generalize hn:rows.length=n at h0 hi hmany hlen hfin hgrown hfl
  cases h0 with
  | @ownNil _ _ a B' a1=>
    have hr0:rows=[]:=List.length_eq_zero_iff.1 hn
    have hi0:i=0:=by omega
    subst hi0
    have hge:=grownCap_ge w (0+1) 0 3
    have hf:=qq a 0 0 B1.b B1.o vc x [] w (Nat.le_refl _) (by omega) (by omega) rfl (fun _=>rfl) (fun _ _ j v hj=>by simp at hj) hx
    obtain⟨g,hg⟩:∃g,grownCap w (0+1) 0 3=g:=⟨_,rfl⟩
    rw[hg] at hf hge
    refine hf.mono ?_
    rintro e' w' ⟨rfl,rfl⟩
    obtain⟨μ',g1,g2⟩:=hgrown (w.drawn+1) (([]++ [Value.int .i64 x]).toArray++Builtin.zeroCells (Value.int .i64 0).cells (g- (0+1))) g hge (by
        rw[Array.size_append,lN _ _ rfl];simp;omega) (fun q c hc=>by
        rw[hfr,hr0] at hc
        simp only[flat,List.flatMap_nil,List.take_nil,List.drop_nil,List.nil_append,List.append_nil] at hc
        have hq:q=0:=by have:=(bg hc).1;simp at this;exact this
        subst hq
        cases hc
        exact⟨.int .i64 x,by rw[uw _ _ (by simp)];rfl,.lit⟩)
    exact⟨_,μ',rfl,g1,g2⟩
  | @own _ _ _ cap e' n' B' a1 av ap a2 a3 a4=>
    rw[hB] at a1;cases a1
    obtain⟨C,e,fz,c1,c2,c3⟩:=hobj.blk av ap
    rw[c2 rfl] at c1
    have hn':C.size=n':=by simp[World.shape?,c1] at a3;exact a3.2
    rw[hwd,Nat.zero_mul,Nat.add_zero]
    rw[hwd,Nat.zero_add] at a4
    have hcell:∀ (q:Nat) (c:AV),(flat rows)[q]? =some c→∃v,C[B.o+q]? =some v∧ct (Wr W0 L (aH [.live 1 rows false,.live 1 [aj x] false])) L w c v:=fun q c hq=>by
      obtain⟨v,k1,k2⟩:=hobj.cell ap q c hq
      exact⟨v,by simpa[World.cell?,c1] using k1,k2⟩
    have hne:B1.b≠B.b:=fun h=>hs.inj 1 0 1 [aj x] 1 rows false B1 B (by decide) rfl rfl hB1 hB bv av h
    obtain⟨cs,hcs⟩:∃cs,cs=(C.toList.drop B.o).take n:=⟨_,rfl⟩
    have hcl:cs.length=n:=by rw[hcs];simp;omega
    have hcg:∀j,j<n→cs[j]? =C[B.o+j]? :=fun j hj=>by rw[hcs,List.getElem?_take,if_pos hj,List.getElem?_drop,Array.getElem?_toList]
    have hcr:∀ (q:Nat) (c:AV),(flat rows)[q]? =some c→∃v,cs[q]? =some v∧ct (Wr W0 L (aH [.live 1 rows false,.live 1 [aj x] false])) L w c v:=fun q c hq=>by
      obtain⟨v,k1,k2⟩:=hcell q c hq
      have:=(bg hq).1
      exact⟨v,by rw[hcg q (by omega)];exact k1,k2⟩
    have h1c:∀v∈cs,v.oneCell'=true:=fun v hv=>by
      obtain⟨j,hj⟩:=List.getElem?_of_mem hv
      have hjl:j<n:=by have:=(bg hj).1;omega
      obtain⟨v',k1,k2⟩:=hcr j _ (bz (by omega))
      rw[hj] at k1;cases k1
      exact k2.one (List.all_eq_true.1 hone _ (List.getElem_mem _))
    -- what the new list holds
    have hall:∀ (q:Nat) (c:AV),(flat (rows.take i++ [aj x]++rows.drop i))[q]? =some c→∃v,(cs.take i++ [Value.int .i64 x]++cs.drop i)[q]? =some v∧ct (Wr W0 L (aH [.live 1 rows false,.live 1 [aj x] false])) L w c v:=fun q c hc=>by
      rw[hfr,pX,fP,hfl,Nat.min_eq_left (by omega)] at hc
      rw[pX,fP,hcl,Nat.min_eq_left (by omega)]
      split at hc
      · rename_i hq
        rw[if_pos hq,List.getElem?_take,if_pos hq]
        rw[List.getElem?_take,if_pos hq] at hc
        exact hcr q c hc
      · rename_i hq
        rw[if_neg hq]
        split at hc
        · rename_i hq2
          cases hc
          exact⟨_,by rw[if_pos hq2],.lit⟩
        · rename_i hq2
          rw[if_neg hq2]
          rw[List.getElem?_drop] at hc ⊢
          exact hcr _ c hc
    have hst:(⟨(bare [.live 1 rows false,.live 1 [aj x] false]).slots,bh (bare [.live 1 rows false,.live 1 [aj x] false]).mem [(2,.live 1 (rows.take i++ [aj x]++rows.drop i) false),(0,.dead)]⟩:aA)=bare [.dead,.live 1 [aj x] false,.live 1 (rows.take i++ [aj x]++rows.drop i) false]:=by
      unfold bare
      congr 1
      funext t
      match t with
      |0=>rfl
      |1=>rfl
      |2=>rfl
      |t+3=>simp[bh,aH]
    have hplace:∀ (k:Nat) (C2:Array Value),n+1≤cap→C2.size=C.size→(∀q,q<n+1→C2[B.o+q]? =(cs.take i++ [Value.int .i64 x]++cs.drop i)[q]?)→
        ∃μ',ck Tryz.prog 0 w W0 L μ' (bare [.dead,.live 1 [aj x] false,.live 1 (rows.take i++ [aj x]++rows.drop i) false]) gi (({w with drawn:=k}:World).setRow B.b C2)∧
        ct (Wr W0 μ' (aH [.dead,.live 1 [aj x] false,.live 1 (rows.take i++ [aj x]++rows.drop i) false])) μ' (({w with drawn:=k}:World).setRow B.b C2) (.own 2 0 (n+1)) (.slice (some ⟨B.b,B.o,none⟩) (n+1) cap):=by
      intro k C2 hroom hsz hq
      have hre:=(hs.drawn k).reuse (t:=0) (tn:=2) (off:=0) (rows':=rows.take i++ [aj x]++rows.drop i) (C':=C2) rfl hB av rfl c1 hsz hwide (by rw[hlen];omega) (fun q c hc=>by
        obtain⟨v,k1,k2⟩:=hall q c hc
        have hl:q<n+1:=by have:=(bg hc).1;rw[cH hwide,hlen] at this;omega
        refine⟨v,?_,k2.grow (Grow.drawn k)⟩
        rw[Nat.zero_mul,Nat.add_zero,hq q hl];exact k1)
      rw[hst] at hre
      simp only[Nat.zero_mul,Nat.add_zero] at hre
      exact⟨_,hre,hfin _ _ _ cap C.size e hroom (by simp[World.shape?,setRow_heap ({w with drawn:=k}:World) B.b C C2 e (0,0) c1,hsz]) (by omega)⟩
    by_cases hin:i=n
    · subst hin
      have hlist:cs.take i++ [Value.int .i64 x]++cs.drop i=cs++ [Value.int .i64 x]:=by rw[qB (by omega),List.drop_eq_nil_of_le (by omega),List.append_nil]
      by_cases hroom:i+1≤cap
      · refine(G7 B.b B.o cap i B1.b B1.o vc x C e w c1 (by omega) hroom hx hmany).mono ?_
        rintro e2 w' ⟨rfl,rfl⟩
        obtain⟨C2,s1,s2,s3⟩:=eP B.b e (0,0) [Value.int .i64 x] (B.o+i) C w c1 (by simp;omega)
        obtain⟨μ',g1,g2⟩:=hplace w.drawn C2 hroom s2 (fun q hq=>by
          rw[s3,hlist,List.getElem?_append,hcl]
          by_cases h:q<i
          ·rw[if_neg (by omega),if_pos h,hcg q h]
          ·rw[if_pos (by simp;omega),if_neg h];congr 1;omega)
        rw[s1]
        exact⟨_,μ',rfl,g1,g2⟩
      · have hge:=grownCap_ge w (i+1) cap 3
        have hf:=qq (some ⟨B.b,B.o,none⟩) i cap B1.b B1.o vc x cs w a2 (by omega) hmany hcl (fun h=>by cases h) (fun a ha j v hj=>by
          cases ha
          have hjl:j<i:=by have:=(bg hj).1;omega
          rw[hcg j hjl] at hj
          rw[Addr.add_lit];simpa[World.cell?,c1] using hj) hx
        obtain⟨g,hg⟩:∃g,grownCap w (i+1) cap 3=g:=⟨_,rfl⟩
        rw[hg] at hf hge
        refine hf.mono ?_
        rintro e2 w' ⟨rfl,rfl⟩
        obtain⟨μ',g1,g2⟩:=hgrown (w.drawn+1) ((cs++ [Value.int .i64 x]).toArray++Builtin.zeroCells (Value.int .i64 0).cells (g- (i+1))) g hge (by
            rw[Array.size_append,lN _ _ rfl];simp[hcl];omega) (fun q c hc=>by
            obtain⟨v,k1,k2⟩:=hall q c hc
            refine⟨v,?_,k2⟩
            rw[hlist] at k1
            have hl:=(bg k1).1
            rw[uw _ _ hl]
            exact k1)
        exact⟨_,μ',rfl,g1,g2⟩
    · have hlt :i<n:=by omega
      have hcd:(cs.drop i).length=n-i:=by rw[List.length_drop,hcl]
      by_cases hroom:n+1≤cap
      · refine (BI B.b B.o cap n i B1.b B1.o vc x cs C e w c1 (by omega) hroom hlt hx hmany hcl (fun j v hj=>by
            have hjl:j<n:=by have:=(bg hj).1;omega
            rw[hcg j hjl] at hj;exact hj) h1c hne e2 D.size (by simp[World.shape?,d1]) (by simp[World.frozen?,d1]) (by simp[World.frozen?,d1])).mono ?_
        rintro e3 w' ⟨rfl,rfl⟩
        obtain⟨C1,s1,s2,s3⟩:=eP B.b e (0,0) (cs.drop i) (B.o+ (i+1)) C w.drew c1 (by rw[hcd];omega)
        obtain⟨C2,t1,t2,t3⟩:=eP B.b e (0,0) [Value.int .i64 x] (B.o+i) C1 (w.drew.setRow B.b C1) (setRow_heap w.drew B.b C C1 e (0,0) c1) (by simp;omega)
        obtain ⟨μ',g1,g2⟩:=hplace (w.drawn+1) C2 hroom (by rw[t2,s2]) (fun q hq=>by
          rw[t3,pX,fP,hcl,Nat.min_eq_left (by omega)]
          by_cases h:q<i
          ·rw[if_neg (by omega),if_pos h,s3,if_neg (by omega),List.getElem?_take,if_pos h,hcg q (by omega)]
          · rw [if_neg h]
            by_cases h2:q=i
            ·rw[if_pos (by simp;omega),if_pos h2];subst h2;simp
            · rw[if_neg (by simp;omega),if_neg h2,s3,if_pos (by rw[hcd];omega)]
              congr 1;omega)
        rw[s1,t1,setRow_setRow]
        exact⟨_,μ',rfl,g1,g2⟩
      · have hge:=grownCap_ge w (n+1) cap 3
        obtain⟨g,hg⟩:∃g,grownCap w (n+1) cap 3=g:=⟨_,rfl⟩
        have hf:=DW B.b B.o n cap i B1.b B1.o vc x cs w hlt a2 (by omega) hmany hcl (fun j v hj=>by
            have hjl:j<n:=by have:=(bg hj).1;omega
            rw[hcg j hjl] at hj
            simpa[World.cell?,c1] using hj) hx h1c
        rw[hg] at hf hge
        refine hf.mono ?_
        rintro e3 w' ⟨rfl,rfl⟩
        obtain⟨A,hA⟩:∃A,A=(cs.take i).toArray++Builtin.zeroCells (Value.int .i64 0).cells (n+1-i)++Builtin.zeroCells (Value.int .i64 0).cells (g- (n+1)):=⟨_,rfl⟩
        have hAs:A.size=g:=by rw[hA,Array.size_append,Array.size_append,lN _ _ rfl,lN _ _ rfl];simp[hcl];omega
        rw[←hA,uu]
        obtain⟨C1,s1,s2,s3⟩:=nu w.drew A 3 [Value.int .i64 x] i (by simp;omega)
        have s1':(w.drew.alloc (.cells A 3)).setCells w.heap.size i [Value.int .i64 x]=w.drew.alloc (.cells C1 3):=s1
        rw[s1',uu]
        obtain⟨C2,t1,t2,t3⟩:=nu w.drew.drew C1 3 (cs.drop i) (i+1) (by rw[hcd];omega)
        have t1':(w.drew.drew.alloc (.cells C1 3)).setCells w.heap.size (i+1) (cs.drop i)=w.drew.drew.alloc (.cells C2 3):=t1
        rw[t1']
        obtain ⟨μ',g1,g2⟩:=hgrown (w.drawn+1+1) C2 g hge (by rw[t2,s2,hAs]) (fun q c hc=>by
            obtain⟨v,k1,k2⟩:=hall q c hc
            refine⟨v,?_,k2⟩
            rw[←k1]
            have hl:q<n+1:=by have:=(bg hc).1;rw[cH hwide,hlen] at this;omega
            rw[t3,pX,fP,hcl,Nat.min_eq_left (by omega)]
            by_cases h:q<i
            ·rw[if_neg (by omega),if_pos h,s3,if_neg (by omega),hA,Array.append_assoc,uw _ _ (by rw[fP,hcl];omega)]
            · rw[if_neg h]
              by_cases h2:q=i
              ·rw[if_neg (by omega),if_pos h2,s3,if_pos (by simp;omega)];subst h2;simp
              ·rw[if_pos (by rw[hcd];omega),if_neg h2])
        exact⟨_,μ',rfl,g1,g2⟩
end Go.Proofs.Heir
