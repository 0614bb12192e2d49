/- Models, plain laws and contracts of functions of the given program; conditions as stated in each theorem. By an AI agent. -/
import Derived.Test.YtkhjcnjicjgfiaaGreatDoorW14
import Derived.Test.YtkhjcnjicjgfiaaGreatDoorW19
import Derived.Test.YtkhjcnjicjgfiaaGreatDoorW15
import Derived.Test.YtkhjcnjicjgfiaaGreatDoorW16
set_option linter.unusedSimpArgs false
set_option linter.unusedVariables false
section
namespace Go.Proofs.Heir
open Go Go.Am Go.RowKit Go.Lib
set_option maxRecDepth 100000
set_option maxHeartbeats 8000000
@[reducible] def rq : ByteArray := ⟨⟨[102, 111, 114, 109]⟩⟩
@[reducible] def Mx : ByteArray := ⟨⟨[105, 100]⟩⟩
def kM (x:ai):Bool:=decide (x.kind=1)&&decide (x.name=rq)
def G5 (x:ai)(w:ByteArray):Option ByteArray:=if 0≤eW x.attrs w then some (yP x.attrs w) else none
def Ll (x:ai)(w:ByteArray):Option ByteArray:=if 0≤sP x.attrs w then some (((x.attrs[(sP x.attrs w).toNat]?).map AttrM.value).getD Kc) else none
def jl (l:List ai)(q:Int→Bool)(n:Int):Int:=((bT l n).tail.find? q).getD (-1)
def wN (l:List ai)(n:Int):Int:=jl l (fun p=>kM (nd l p)) n
def I3 (l:List ai)(n:Int):Int:=jl l (fun p=>decide ((nd l p).name=rq)) n
def fA (l:List ai)(n:Int):Int:=((bT l n).getLast?).getD n
def xK (l:List ai)(r:Int)(v:ByteArray):Option Int:=(bQ l l.length r).find? fun k=>decide (G5 (nd l k) Mx=some v)
def Kg (l:List ai)(r:Int)(v:ByteArray):Option Int:=(bQ l l.length r).find? fun k=>decide (Ll (nd l k) Mx=some v)
def J1 (l:List ai)(n:Int):Bool:=decide ((nd l (oe l n)).kind=0)
def LU (l:List ai)(n:Int)(v:ByteArray):Int:=
 match xK l (fA l n) v with
 |some k=>if v≠ ⟨#[]⟩∧kM (nd l k)=true then k else-1
 |none=> -1
def zO (l:List ai)(n:Int):Int:=
 if(nd l n).kind=1 then
  match G5 (nd l n) rq with
  |some v=>if J1 l n=true then LU l n v else wN l n
  |none=>wN l n
 else-1
def Lf (l:List ai)(n:Int)(v:ByteArray):Int:=
 if v=⟨#[]⟩ then-1 else
 match Kg l (fA l n) v with
 |some k=>if(nd l k).name=rq then k else-1
 |none=> -1
def MP (l:List ai)(n:Int):Int:=
 if(nd l n).kind=1 then
  match Ll (nd l n) rq with
  |some v=>if J1 l n=true then Lf l n v else I3 l n
  |none=>I3 l n
 else-1
variable {l : List ai}
theorem zM (T:Tree l){n:Int}(hn:af l n=true)(hp:(nd l n).parent=-1):fA l n=n:=by
 unfold fA;rw[eR T hn hp];rfl
theorem vD (T:Tree l){n:Int}(hn:af l n=true)(hp:(nd l n).parent≠-1):fA l n=fA l (nd l n).parent:=by
 obtain⟨r,hr⟩:=dV T (T.par n hn hp).1
 unfold fA;rw[cB T hn hp,hr,List.getLast?_cons_cons]
 cases h:((nd l n).parent::r).getLast? with
 |none=>simp at h
 |some a=>rfl
theorem l5 (T:Tree l):∀n,af l n=true→af l (fA l n)=true∧(nd l (fA l n)).parent=-1∧fA l n∈bT l n:=by
 refine ik T (fun n hn h=>?_) (fun n hn h hu ih=>?_)
 ·rw[zM T hn h];exact⟨hn,h,cM T hn⟩
 ·rw[vD T hn h];exact⟨ih.1,ih.2.1,by rw[cB T hn h];exact fJ _ ih.2.2⟩
theorem zH (T:Tree l):∀n,af l n=true→∀a∈bT l n,fA l a=fA l n:=by
 refine ik T (fun n hn h a ha=>?_) (fun n hn h hu ih a ha=>?_)
 ·rw[eR T hn h] at ha;rw[je.1 ha]
 ·rw[cB T hn h] at ha
  rcases eB.1 ha with rfl|h'
  ·rfl
  ·rw[vD T hn h];exact ih a h'
theorem Fa (T:Tree l){n:Int}(hn:af l n=true):n∈bQ l l.length (fA l n):=by
 obtain⟨h1,_,h3⟩:=l5 T n hn
 exact(kF T h1 hn).2 h3
theorem yo (T:Tree l){r n:Int}(hr:af l r=true)(h:n∈bQ l l.length r):af l n=true∧r∈bT l n∧fA l n=fA l r:=by
 obtain⟨h1,h2⟩:=dL T _ r hr n h
 exact⟨h1,h2,(zH T n h1 r h2).symm⟩
theorem wq (T:Tree l){n:Int}(hn:af l n=true):fA l (fA l n)=fA l n:=by
 obtain⟨h1,h2,_⟩:=l5 T n hn
 exact zM T h1 h2
theorem CW (T:Tree l)(q:Int→Bool){n:Int}(hn:af l n=true)(hp:(nd l n).parent≠-1):jl l q n=if q (nd l n).parent=true then(nd l n).parent else jl l q (nd l n).parent:=by
 obtain⟨r,hr⟩:=dV T (T.par n hn hp).1
 unfold jl
 rw[cB T hn hp,List.tail_cons,hr,List.find?_cons,List.tail_cons]
 cases h:q (nd l n).parent<;>simp
theorem Ge (T:Tree l)(q:Int→Bool){n:Int}(hn:af l n=true)(hp:(nd l n).parent=-1):jl l q n=-1:=by
 unfold jl;rw[eR T hn hp];rfl
theorem CH (T:Tree l)(q:Int→Bool):∀n,af l n=true→
  (jl l q n=-1∧∀a∈bT l n,a≠n→q a=false)∨
  (jl l q n∈bT l n∧jl l q n≠n∧q (jl l q n)=true∧∀a∈bT l n,a≠n→q a=true→a∈bT l (jl l q n)):=by
 refine ik T (fun n hn h=>?_) (fun n hn h hu ih=>?_)
 ·left
  refine⟨Ge T q hn h,fun a ha hne=>?_⟩
  rw[eR T hn h] at ha
  exact absurd (je.1 ha) hne
 ·have hne:∀a∈bT l (nd l n).parent,a≠n:=by
   intro a ha e
   subst e
   have h1:=cB T hn h
   obtain⟨t,ht⟩:=ia T _ hu a ha
   rw[ht] at h1
   have:=congrArg List.length h1
   simp at this
   omega
  rw[CW T q hn h]
  have hw:=cB T hn h
  cases hq:q (nd l n).parent with
  | true=>
    rw[if_pos rfl]
    right
    refine⟨by rw[hw];exact fJ _ (cM T hu),hne _ (cM T hu),hq,fun a ha hna _=>?_⟩
    rw[hw] at ha
    exact(eB.1 ha).resolve_left hna
  | false=>
    rw[if_neg (by simp)]
    rcases ih with⟨h1,h2⟩|⟨h1,h2,h3,h4⟩
    ·left
     refine⟨h1,fun a ha hna=>?_⟩
     rw[hw] at ha
     have ha':=(eB.1 ha).resolve_left hna
     by_cases e:a=(nd l n).parent
     ·rw[e];exact hq
     ·exact h2 a ha' e
    ·right
     refine⟨by rw[hw];exact fJ _ h1,hne _ h1,h3,fun a ha hna hqa=>?_⟩
     rw[hw] at ha
     have ha':=(eB.1 ha).resolve_left hna
     refine h4 a ha' (fun e=>?_) hqa
     rw[e,hq] at hqa;cases hqa
theorem Dy (T:Tree l){n:Int}(hn:af l n=true):kM (nd l n)=decide ((nd l n).name=rq):=by
 unfold kM
 rcases zb T hn with h|⟨h1,h2,_⟩
 ·rw[h];simp
 ·rw[h2];simp[h1]
theorem Aj {r:Int}{v:ByteArray}{k:Int}(h:xK l r v=some k):k∈bQ l l.length r∧G5 (nd l k) Mx=some v:=
 ⟨List.mem_of_find?_eq_some h,by have:=List.find?_some h;simpa using this⟩
theorem Ew (T:Tree l){n:Int}(hn:af l n=true)(h:zO l n≠-1):af l (zO l n)=true∧kM (nd l (zO l n))=true∧fA l (zO l n)=fA l n∧(nd l n).kind=1:=by
 have hnear:wN l n≠-1→af l (wN l n)=true∧kM (nd l (wN l n))=true∧fA l (wN l n)=fA l n:=by
  intro h
  rcases CH T (fun p=>kM (nd l p)) n hn with⟨h1,_⟩|⟨h1,_,h3,_⟩
  ·exact absurd h1 h
  ·exact⟨jD T n hn _ h1,h3,zH T n hn _ h1⟩
 unfold zO at h ⊢
 by_cases hk:(nd l n).kind=1
 ·rw [if_pos hk] at h ⊢
  cases ha:G5 (nd l n) rq with
  | none=>
    rw[ha] at h
    exact⟨(hnear h).1,(hnear h).2.1,(hnear h).2.2,hk⟩
  | some v=>
    rw[ha] at h
    simp only at h ⊢
    by_cases hc:J1 l n=true
    ·rw [if_pos hc] at h ⊢
     unfold LU at h ⊢
     cases hf:xK l (fA l n) v with
     |none=>rw[hf] at h;exact absurd rfl h
     | some k=>
       rw[hf] at h
       simp only at h ⊢
       by_cases e:v≠ ⟨#[]⟩∧kM (nd l k)=true
       ·rw[if_pos e] at h ⊢
        obtain⟨h1,h2,h3⟩:=yo T (l5 T n hn).1 (Aj hf).1
        exact⟨h1,e.2,by rw[h3,wq T hn],hk⟩
       ·rw[if_neg e] at h;exact absurd rfl h
    ·rw[if_neg hc] at h ⊢
     exact⟨(hnear h).1,(hnear h).2.1,(hnear h).2.2,hk⟩
 ·rw[if_neg hk] at h;exact absurd rfl h
def KF (l:List ai)(x:Int):List Int:=(bQ l l.length (fA l x)).filter fun k=>decide (zO l k=x)
def o9 (l:List ai)(x:Int):List Int:=(bQ l l.length (fA l x)).filter fun k=>decide (MP l k=x)
end Go.Proofs.Heir
end
section
namespace Go.Proofs.Heir
open Go Go.Am Go.RowKit Go.Lib
set_option maxRecDepth 100000
set_option maxHeartbeats 8000000
variable {l : List ai}
def Gw (l:List ai)(x:Int):List Int:=if kM (nd l x)=true then KF l x else[]
theorem Dk (T:Tree l){x:Int}(hx:af l x=true){c:Int}(h:c∈Gw l x):af l c=true∧zO l c=x∧fA l c=fA l x∧(nd l x).name=rq:=by
 unfold Gw at h
 by_cases hf:kM (nd l x)=true
 ·rw[if_pos hf] at h
  unfold KF at h
  obtain⟨h1,h2⟩:=List.mem_filter.1 h
  obtain⟨g1,_,g3⟩:=yo T (l5 T x hx).1 h1
  rw[wq T hx] at g3
  rw[Dy T hx] at hf
  exact⟨g1,by simpa using h2,g3,of_decide_eq_true hf⟩
 ·rw[if_neg hf] at h;cases h
theorem mem_iff (T:Tree l){x:Int}(hx:af l x=true){c:Int}(hc:af l c=true):c∈Gw l x↔zO l c=x:=by
 constructor
 ·intro h;exact(Dk T hx h).2.1
 ·intro h
  have h0:=br hx
  obtain⟨_,a2,a3,_⟩:=Ew T hc (by omega)
  rw[h] at a2 a3
  unfold Gw KF
  rw[if_pos a2,List.mem_filter,a3]
  exact⟨Fa T hc,by simpa using h⟩
end Go.Proofs.Heir
end
namespace Go.Proofs.Heir
open Go Go.Am Go.RowKit Go.Lib
set_option maxRecDepth 100000
set_option maxHeartbeats 8000000


end Go.Proofs.Heir
section
namespace Go.Proofs.Heir
open Go Go.Am Go.RowKit Go.Lib
set_option maxRecDepth 100000
set_option maxHeartbeats 8000000
namespace V
variable {l : List ai}
theorem mJ (T:Tree l):∀ (m:Nat) (n:Int),af l n=true→l.length+1≤m+ (bT l n).length→bQ l (m+1) n=bQ l m n
 |0,n,_,h=>by have:=kr (l:=l) n;omega
 | m+1,n,hn,h=>by
   rw[bQ,bQ]
   congr 1
   refine gp fun k hk=>?_
   refine mJ T m k (T.kid n hn k hk).1 ?_
   rw[eA T hn hk];simp;omega
theorem ord_eq (T:Tree l){n:Int}(hn:af l n=true):bQ l l.length n=n::(nd l n).kids.flatMap (bQ l l.length):=by
 have h0:=br hn
 obtain⟨m,hm⟩:∃m,l.length=m+1:=⟨l.length-1,by omega⟩
 have h1:∀k∈ (nd l n).kids,bQ l l.length k=bQ l m k:=fun k hk=>by
  rw[hm]
  refine mJ T m k (T.kid n hn k hk).1 ?_
  obtain⟨r,hr⟩:=dV T hn
  rw[eA T hn hk,hr];simp;omega
 conv=>lhs;rw[hm,bQ]
 congr 1
 exact gp fun k hk=>(h1 k hk).symm
def rest (l:List ai)(st:List Int):List Int:=st.reverse.flatMap (bQ l l.length)
theorem zz (T:Tree l){st:List Int}{t:Int}(ht:af l t=true):rest l (st++ [t])=t::rest l (st++ (nd l t).kids.reverse):=by
 unfold rest
 rw[List.reverse_append,List.reverse_append,List.reverse_reverse]
 simp only[List.reverse_cons,List.reverse_nil,List.nil_append,List.cons_append,List.flatMap_cons,List.flatMap_append]
 rw[ord_eq T ht];rfl
theorem yC (T:Tree l):∀ {st:List Int},(∀c∈st,af l c=true)→st.length≤ (rest l st).length:=by
 intro st h
 unfold rest
 have:∀s:List Int,(∀c∈s,af l c=true)→s.length≤ (s.flatMap (bQ l l.length)).length:=by
  intro s
  induction s with
  |nil=>intro _;exact Nat.le_refl _
  | cons a r ih=>
    intro h
    have h1:=ih fun c hc=>h c (fJ _ hc)
    rw[List.flatMap_cons,jN,ord_eq T (h a gE),List.length_cons,List.length_cons]
    omega
 have:=this st.reverse fun c hc=>h c (by simpa using hc)
 simpa using this
end V
end Go.Proofs.Heir
end
